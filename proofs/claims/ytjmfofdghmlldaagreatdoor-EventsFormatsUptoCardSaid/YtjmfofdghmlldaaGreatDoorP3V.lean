/- A part of the proof: what it holds is said by each theorem. -/
import Derived.Lib.ItoaNum
import Derived.Test.YtjmfofdghmlldaaGreatDoorP2V
set_option linter.unusedVariables false
set_option linter.defProp false
set_option linter.unusedSimpArgs false
namespace Gx
open Go Go.Proofs
open IntKind (wrap)
set_option maxRecDepth 100000
noncomputable section
variable {R:Type} (N:Nat)
def UL (k2:Int→Int→Nat→LA→O R) (r0:LA→O R) (m:Int) (b:LA) (c:Nat) (d:Bool) (f:Int) (g e:Nat) (l i:LA) (au av:Int) (an:Nat) (aw:LA):O R :=
 (Ac N m b c false d av (fun bc bq=>(Ac N (wrap .i64 (m - 1)) b c false d bq (fun br bs=>(cond (m==0) none (Rf N ((an:Nat):Int) bc (Int.tmod (wrap .i64 ((wrap .i64 (bc+1))+br)) m) f b c false d bs (fun bd bt=>(cond ((Nat.beq (bd.length) 12)&&(Nat.ble 12 12)) (cond ((Nat.ble (an+1) 140737488355328)&&(Nat.ble ((an+1)*120) 140737488355328)) (k2 (wrap .i64 (au - 1)) bt (an+1) ((aw.take (an*12))++((setCells [(.str ([]:List UInt8)),(.int .i64 0),(.int .i64 0),(.int .i64 0),(.int .i64 0),(.int .i64 0),(.int .i64 0),(.int .i64 0),(.int .i64 0),(.int .i64 0),(.int .i64 0),.nsl] 0 bd).take 12))) none) none))))))))
def UM (k7:Int→Int→Nat→LA→O R) (r0:LA→O R) (b:LA) (c:Nat) (d:Bool) (f:Int) (g e p o s u:Nat) (l i q r t v:LA) (ar ax:Int) (w:Nat) (ao:LA):O R :=
 (Lr N ((w:Nat):Int) ((p:Nat):Int) ((o:Nat):Int) b c false d ax (fun az be=>(cond ((Nat.beq 0 0)&&((Nat.beq (az.length) 4)&&(Nat.beq 4 4))) (cond ((Nat.ble (0+w) 140737488355328)&&(Nat.ble ((0+w)*72) 140737488355328)) (cond (Nat.ble 4 (az.length)) (cond ((Nat.beq ((az.take 4).length) 4)&&(Nat.ble 4 4)) (cond ((Nat.ble ((0+w)+1) 140737488355328)&&(Nat.ble (((0+w)+1)*72) 140737488355328)) (Ut N [(.int .i64 f),(.imm (l.take (g*1)) g 1 false true),(.imm (i.take (e*3)) e 3 false true),(.imm (q.take (p*12)) p 12 false true),(.imm (r.take (o*22)) o 22 false true),(.imm (t.take (s*9)) s 9 false true),(.imm (v.take (u*5)) u 5 false true),(.imm (List.take (((0+w)+1)*4) (((ao.take (w*4)).take ((0+w)*4))++((setCells [(.str ([]:List UInt8)),.nsl,(.bool false),.nsl] 0 (az.take 4)).take 4))) ((0+w)+1) 4 false true)] true (fun bu bv=>(cond ((Nat.beq (bu.length) 3)&&((Nat.ble 3 3)&&(!false))) (cond (bv==0) (k7 (wrap .i64 (ar - 1)) be ((0+w)+1) (((ao.take (w*4)).take ((0+w)*4))++((setCells [(.str ([]:List UInt8)),.nsl,(.bool false),.nsl] 0 (az.take 4)).take 4))) (k7 (wrap .i64 (ar - 1)) be w ao)) none))) none) none) none) none) none)))
def BF (N:Nat) (r0:LA→O R) (b:LA) (c:Nat) (d:Bool) (f:Int) (g e p o s u:Nat) (l i q r t v:LA) (k7:Int→Int→Nat→LA→O R) (q8:Int→Int→Nat→LA→O R) (ae ai:Int) (x:Nat) (z:LA):O R :=
 (cond ((decide (ae>0))==true) (cond (cond true (decide (((p:Nat):Int)>0)) false) (q8 ae ai x z) (r0 [(.int .i64 f),(.imm (l.take (g*1)) g 1 false false),(.imm (i.take (e*3)) e 3 false false),(.imm (q.take (p*12)) p 12 false false),(.imm (r.take (o*22)) o 22 false false),(.imm (t.take (s*9)) s 9 false false),(.imm (v.take (u*5)) u 5 false false),(.imm (z.take (x*4)) x 4 false false)])) (r0 [(.int .i64 f),(.imm (l.take (g*1)) g 1 false false),(.imm (i.take (e*3)) e 3 false false),(.imm (q.take (p*12)) p 12 false false),(.imm (r.take (o*22)) o 22 false false),(.imm (t.take (s*9)) s 9 false false),(.imm (v.take (u*5)) u 5 false false),(.imm (z.take (x*4)) x 4 false false)]))
def I4 (r0:LA→O R) (b:LA) (c:Nat) (d:Bool) (f:Int) (g e p o s u:Nat) (l i q r t v:LA):Nat→Int→Int→Nat→LA→O R
 | 0,_,_,_,_=>none
 | n+1,ae,ai,x,z=>(BF N r0 b c d f g e p o s u l i q r t v (I4 r0 b c d f g e p o s u l i q r t v n) (fun ar ax w ao=>(UM N (I4 r0 b c d f g e p o s u l i q r t v n) r0 b c d f g e p o s u l i q r t v ar ax w ao)) ae ai x z)
def eE (r0:LA→O R) (b:LA) (c:Nat) (d:Bool) (f:Int) (g e p o s:Nat) (l i q r t:LA) (q7:Int→Int→Nat→LA→O R) (ap:Int) (u:Nat) (v:LA):O R :=
 (Ac N 4 b c false d ap (fun bw bx=>(q7 bw bx 0 [])))
def UN (r0:LA→O R) (b:LA) (c:Nat) (d:Bool) (f:Int) (g e p o s:Nat) (l i q r t:LA) (ap:Int) (u:Nat) (v:LA):O R:=(eE N r0 b c d f g e p o s l i q r t (fun ae ai x z=>(I4 N r0 b c d f g e p o s u l i q r t v N ae ai x z)) ap u v)
def LB (r0:LA→O R) (m:Int) (b:LA) (c:Nat) (d:Bool) (f:Int) (g e p o:Nat) (l i q r:LA) (q6:Int→Nat→LA→O R) (aq:Int) (s:Nat) (t:LA):O R :=
 (Ac N 3 b c false d aq (fun bz bf=>(cond (bz==2) (Ac N m b c false d bf (fun ca cb=>(E4 N f 12 b c false d cb (fun bg cc cd=>(E4 N f 12 b c false d cc (fun bh ce cf=>(E4 N f 40 b c false d ce (fun bi cg ch=>(q6 cg 1 [(.str ([116,48]:List UInt8)),(.int .i64 ca),(.imm (cd.take (bg*1)) bg 1 false false),(.imm (cf.take (bh*1)) bh 1 false false),(.imm (ch.take (bi*1)) bi 1 false false)]))))))))) (q6 bf 0 []))))
def HZ (r0:LA→O R) (m:Int) (b:LA) (c:Nat) (d:Bool) (f:Int) (g e p o:Nat) (l i q r:LA) (aq:Int) (s:Nat) (t:LA):O R:=(LB N r0 m b c d f g e p o l i q r (fun ap u v=>(UN N r0 b c d f g e p o s l i q r t ap u v)) aq s t)
def BG (r0:LA→O R) (m:Int) (b:LA) (c:Nat) (d:Bool) (f:Int) (g e:Nat) (l i:LA) (k4:Int→Int→Nat→Nat→LA→LA→O R) (q5:Int→Nat→LA→O R) (aj ak:Int) (p o:Nat) (q r:LA):O R :=
 (cond (decide (aj>0)) (Rh N ((o:Nat):Int) m f b c false d ak (fun bj ci=>(cond ((Nat.beq (bj.length) 22)&&(Nat.ble 22 22)) (cond ((Nat.ble (o+1) 140737488355328)&&(Nat.ble ((o+1)*216) 140737488355328)) (k4 (wrap .i64 (aj - 1)) ci p (o+1) q ((r.take (o*22))++((setCells [(.str ([]:List UInt8)),(.int .i64 0),(.int .i64 0),(.int .i64 0),.nsl,(.int .i64 0),(.int .i64 0),(.int .i64 0),(.int .i64 0),(.int .i64 0),(.int .i64 0),(.int .i64 0),(.int .i64 0),(.int .i64 0),(.int .i64 0),(.int .i64 0),(.int .i64 0),(.int .i64 0),.nsl,(.int .i64 0),(.int .i64 0),(.int .i64 0)] 0 bj).take 22))) none) none))) (Ac N 3 b c false d ak (fun cj bk=>(cond (cj==2) (Ac N m b c false d bk (fun ck cl=>(Ac N 20 b c false d cl (fun bb cm=>(Ac N 8 b c false d cm (fun cn co=>(Ac N 8 b c false d co (fun cp cq=>(Ac N 4 b c false d cq (fun cr cs=>(Ac N (wrap .i64 (bb+1)) b c false d cs (fun ct cu=>(Ac N (wrap .i64 (bb+1)) b c false d cu (fun cv cw=>(q5 cw 1 [(.str ([115,48]:List UInt8)),(.int .i64 ck),(.int .i64 bb),(.int .i64 ct),(.int .i64 cv),(.int .i64 cn),(.int .i64 cp),(.int .i64 (wrap .i64 (1+cr))),(.int .i64 4)]))))))))))))))) (q5 bk 0 [])))))
def P4 (r0:LA→O R) (m:Int) (b:LA) (c:Nat) (d:Bool) (f:Int) (g e:Nat) (l i:LA):Nat→Int→Int→Nat→Nat→LA→LA→O R
 | 0,_,_,_,_,_,_=>none
 | n+1,aj,ak,p,o,q,r=>(BG N r0 m b c d f g e l i (P4 r0 m b c d f g e l i n) (fun aq s t=>(HZ N r0 m b c d f g e p o l i q r aq s t)) aj ak p o q r)
def BH (r0:LA→O R) (m:Int) (b:LA) (c:Nat) (d:Bool) (f:Int) (g e:Nat) (l i:LA) (k2:Int→Int→Nat→LA→O R) (q3:Int→Int→Nat→LA→O R) (q4:Int→Int→Nat→Nat→LA→LA→O R) (af aa:Int) (ab:Nat) (ac:LA):O R :=
 (cond ((decide (af>0))==true) (cond (cond true (decide (m>1)) false) (q3 af aa ab ac) (Ac N 3 b c false d aa (fun cx cy=>(q4 (wrap .i64 (1+cx)) cy ab 0 ac [])))) (Ac N 3 b c false d aa (fun cz da=>(q4 (wrap .i64 (1+cz)) da ab 0 ac []))))
def P5 (r0:LA→O R) (m:Int) (b:LA) (c:Nat) (d:Bool) (f:Int) (g e:Nat) (l i:LA):Nat→Int→Int→Nat→LA→O R
 | 0,_,_,_,_=>none
 | n+1,af,aa,ab,ac=>(BH N r0 m b c d f g e l i (P5 r0 m b c d f g e l i n) (fun au av an aw=>(UL N (P5 r0 m b c d f g e l i n) r0 m b c d f g e l i au av an aw)) (fun aj ak p o q r=>(P4 N r0 m b c d f g e l i N aj ak p o q r)) af aa ab ac)
def LC (r0:LA→O R) (b:LA) (c:Nat) (d:Bool) (f:Int) (g e:Nat) (l i:LA) (k1:Int→Int→Int→Nat→LA→O R) (q2:Int→Int→Nat→LA→O R) (m ag al:Int) (y:Nat) (am:LA):O R :=
 (cond (decide (ag<m)) (Ac N ag b c false d al (fun db dc=>(Rf N ((y:Nat):Int) db ag f b c false d dc (fun bl dd=>(cond ((Nat.beq (bl.length) 12)&&(Nat.ble 12 12)) (cond ((Nat.ble (y+1) 140737488355328)&&(Nat.ble ((y+1)*120) 140737488355328)) (k1 m (wrap .i64 (ag+1)) dd (y+1) ((am.take (y*12))++((setCells [(.str ([]:List UInt8)),(.int .i64 0),(.int .i64 0),(.int .i64 0),(.int .i64 0),(.int .i64 0),(.int .i64 0),(.int .i64 0),(.int .i64 0),(.int .i64 0),(.int .i64 0),.nsl] 0 bl).take 12))) none) none))))) (Ac N 5 b c false d al (fun de df=>(q2 de df y am))))
def X8 (r0:LA→O R) (b:LA) (c:Nat) (d:Bool) (f:Int) (g e:Nat) (l i:LA):Nat→Int→Int→Int→Nat→LA→O R
 | 0,_,_,_,_,_=>none
 | n+1,m,ag,al,y,am=>(LC N r0 b c d f g e l i (X8 r0 b c d f g e l i n) (fun af aa ab ac=>(P5 N r0 m b c d f g e l i N af aa ab ac)) m ag al y am)
def BI (r0:LA→O R) (b:LA) (c:Nat) (d:Bool) (g:Nat) (l:LA) (k0:Int→Int→Int→Nat→LA→O R) (q1:Int→Int→Int→Nat→LA→O R) (ad ah f:Int) (e:Nat) (i:LA):O R :=
 (cond (decide (ad>0)) (KG N ([98]:List UInt8) ((e:Nat):Int) (fun bm=>(E4 N f 14 b c false d ah (fun ba dg bn=>(Ac N 2 b c false d dg (fun dh bo=>(cond (dh==1) (Ac N 200 b c false d bo (fun di dj=>(cond ((Nat.ble (e+1) 140737488355328)&&(Nat.ble ((e+1)*48) 140737488355328)) (k0 (wrap .i64 (ad - 1)) dj f (e+1) ((i.take (e*3))++[(.str bm),(.imm (bn.take (ba*1)) ba 1 false false),(.int .i64 (wrap .i64 (100+di)))])) none))) (cond ((Nat.ble (e+1) 140737488355328)&&(Nat.ble ((e+1)*48) 140737488355328)) (k0 (wrap .i64 (ad - 1)) bo f (e+1) ((i.take (e*3))++[(.str bm),(.imm (bn.take (ba*1)) ba 1 false false),(.int .i64 0)])) none)))))))) (q1 ((e:Nat):Int) 1 ah 0 []))
def Nj (r0:LA→O R) (b:LA) (c:Nat) (d:Bool) (g:Nat) (l:LA):Nat→Int→Int→Int→Nat→LA→O R
 | 0,_,_,_,_,_=>none
 | n+1,ad,ah,f,e,i=>(BI N r0 b c d g l (Nj r0 b c d g l n) (fun m ag al y am=>(X8 N r0 b c d f g e l i N m ag al y am)) ad ah f e i)
def pc (r0:LA→O R) (q0:Nat→LA→Int→Int→Int→Nat→LA→O R) (b:LA) (c:Nat) (ay d:Bool):O R :=
 (Ac1 N b c false d (Ac N 3 b c false d 0 (fun bp dk=>(E4 N (wrap .i64 (1+bp)) 5 b c false d dk (fun g dl l=>(Ac N 4 b c false d dl (fun dm dn=>(q0 g l (wrap .i64 (1+dm)) dn (wrap .i64 (1+bp)) 0 []))))))))
def UO:=(Ag (fun (N:Nat) (b:LA) (c:Nat) (ay d:Bool) (r0:LA→O R)=>(pc N r0 (fun g l ad ah f e i=>(Nj N r0 b c d g l N ad ah f e i)) b c ay d))).1
theorem wI (b c ay d r0):(@UO R N b c ay d r0)=(pc N r0 (fun g l ad ah f e i=>(Nj N r0 b c d g l N ad ah f e i)) b c ay d):=by rw[UO,(Ag _).2]
def Ad4:Hints:={ H:=(hS hL (hS hL (hS hL (hS hL (hS (hS hL (hS (hP [2,3,4,5] hL) hL)) (hS hL (hS (hS hL (hS (hP [2,3,4,7,8] hL) hL)) (hS (hS hL (hS (hP [2,3,4,7,9] (hJ [2,3,4,7,9] hL hL)) hL)) (hS (hS hL (hS (hP [2,3,4,7,11] hL) hL)) (hJ [2,3,4,7] hL (hJ [2,3,4] hL (hS (hS hL (hS (hP [2,3,4,13] (hJ [2,3,4,13] hL hL)) hL)) hL)))))))))))),modes:=[(3,0)],cob:=[23,44,192] }
def Alv:F2:=[(96,Alf N),(97,G7 N),(98,sw N),(99,TQ N),(100,yR N),(101,yX N),(102,ou N),(103,UI N)]
def Nk (F:KF R):=Ju Tryz.f42 Ad4 (Alv N) [] N F
def Ci (F:KF R):LA→O R:=(fun dp=>F (.pagg dp false) [])
def Az9 (m:Int) (b:LA) (c:Nat) (d:Bool) (f:Int) (g e:Nat) (l i:LA) (au av:Int) (an:Nat) (aw:LA):St:=⟨[(2,(op 0)),(3,(op 1)),(4,(op 2)),(7,(iv m)),(9,(iv au))],(hq [(bN 0 [(iv 0),.nsl,.nsl,.nsl,.nsl,.nsl,.nsl,.nsl]),(bN 0 [(.imm b c 1 false d),(iv av)]),(bN 0 [(iv f),(.own 300003 0 g),(.own 300004 0 e),(.own 300005 0 an),(.own 300006 0 0),(.own 300007 0 0),(.own 300008 0 0),(.own 300009 0 0)]),(bQ 1 l),(bQ 3 i),(bQ 12 aw),(bQ 22 []),(bQ 9 []),(bQ 5 []),(bQ 4 [])])⟩
def A0a (F:KF R) (Q2:St→O R):=Nk N F [1,1,1,1,1,1,1,0,1,0,0,1] [Q2]
def A0b (b:LA) (c:Nat) (d:Bool) (f:Int) (g e p o s u:Nat) (l i q r t v:LA) (ar ax:Int) (w:Nat) (ao:LA):St:=⟨[(2,(op 0)),(3,(op 1)),(4,(op 2)),(13,(iv ar))],(hq [(bN 0 [(iv 0),.nsl,.nsl,.nsl,.nsl,.nsl,.nsl,.nsl]),(bN 0 [(.imm b c 1 false d),(iv ax)]),(bN 0 [(iv f),(.own 300003 0 g),(.own 300004 0 e),(.own 300005 0 p),(.own 300006 0 o),(.own 300007 0 s),(.own 300008 0 u),(.own 300009 0 w)]),(bQ 1 l),(bQ 3 i),(bQ 12 q),(bQ 22 r),(bQ 9 t),(bQ 5 v),(bQ 4 ao)])⟩
def A0c (F:KF R) (Q7:St→O R):=Nk N F [1,1,1,1,1,1,1,1,1,1,1,0,1,0,0,1] [Q7]
def Ad5 (b:LA) (c:Nat) (d:Bool) (f:Int) (g e p o s u:Nat) (l i q r t v:LA) (ae ai:Int) (x:Nat) (z:LA):St:=⟨[(2,(op 0)),(3,(op 1)),(4,(op 2)),(13,(iv ae))],(hq [(bN 0 [(iv 0),.nsl,.nsl,.nsl,.nsl,.nsl,.nsl,.nsl]),(bN 0 [(.imm b c 1 false d),(iv ai)]),(bN 0 [(iv f),(.own 300003 0 g),(.own 300004 0 e),(.own 300005 0 p),(.own 300006 0 o),(.own 300007 0 s),(.own 300008 0 u),(.own 300009 0 x)]),(bQ 1 l),(bQ 3 i),(bQ 12 q),(bQ 22 r),(bQ 9 t),(bQ 5 v),(bQ 4 z)])⟩
def Ad6 (F:KF R):=Nk N F [1,1,1,1,1,1,1,1,1,1,1,0,1,0] []
def A0d (b:LA) (c:Nat) (d:Bool) (f:Int) (g e p o s:Nat) (l i q r t:LA) (ap:Int) (u:Nat) (v:LA):St:=⟨[(2,(op 0)),(3,(op 1)),(4,(op 2))],(hq [(bN 0 [(iv 0),.nsl,.nsl,.nsl,.nsl,.nsl,.nsl,.nsl]),(bN 0 [(.imm b c 1 false d),(iv ap)]),(bN 0 [(iv f),(.own 300003 0 g),(.own 300004 0 e),(.own 300005 0 p),(.own 300006 0 o),(.own 300007 0 s),(.own 300008 0 u),(.own 300009 0 0)]),(bQ 1 l),(bQ 3 i),(bQ 12 q),(bQ 22 r),(bQ 9 t),(bQ 5 v),(bQ 4 [])])⟩
def A0e (F:KF R):=Nk N F [1,1,1,1,1,1,1,1,1,1,1] []
def A0f (m:Int) (b:LA) (c:Nat) (d:Bool) (f:Int) (g e p o:Nat) (l i q r:LA) (aq:Int) (s:Nat) (t:LA):St:=⟨[(2,(op 0)),(3,(op 1)),(4,(op 2)),(7,(iv m))],(hq [(bN 0 [(iv 0),.nsl,.nsl,.nsl,.nsl,.nsl,.nsl,.nsl]),(bN 0 [(.imm b c 1 false d),(iv aq)]),(bN 0 [(iv f),(.own 300003 0 g),(.own 300004 0 e),(.own 300005 0 p),(.own 300006 0 o),(.own 300007 0 s),(.own 300008 0 0),(.own 300009 0 0)]),(bQ 1 l),(bQ 3 i),(bQ 12 q),(bQ 22 r),(bQ 9 t),(bQ 5 []),(bQ 4 [])])⟩
def A0g (F:KF R):=Nk N F [1,1,1,1,1,1,1,1,1,1] []
def A0h (m:Int) (b:LA) (c:Nat) (d:Bool) (f:Int) (g e:Nat) (l i:LA) (aj ak:Int) (p o:Nat) (q r:LA):St:=⟨[(2,(op 0)),(3,(op 1)),(4,(op 2)),(7,(iv m)),(11,(iv aj))],(hq [(bN 0 [(iv 0),.nsl,.nsl,.nsl,.nsl,.nsl,.nsl,.nsl]),(bN 0 [(.imm b c 1 false d),(iv ak)]),(bN 0 [(iv f),(.own 300003 0 g),(.own 300004 0 e),(.own 300005 0 p),(.own 300006 0 o),(.own 300007 0 0),(.own 300008 0 0),(.own 300009 0 0)]),(bQ 1 l),(bQ 3 i),(bQ 12 q),(bQ 22 r),(bQ 9 []),(bQ 5 []),(bQ 4 [])])⟩
def A0i (F:KF R):=Nk N F [1,1,1,1,1,1,1,1,0,1,0] []
def Ad7 (m:Int) (b:LA) (c:Nat) (d:Bool) (f:Int) (g e:Nat) (l i:LA) (af aa:Int) (ab:Nat) (ac:LA):St:=⟨[(2,(op 0)),(3,(op 1)),(4,(op 2)),(7,(iv m)),(9,(iv af))],(hq [(bN 0 [(iv 0),.nsl,.nsl,.nsl,.nsl,.nsl,.nsl,.nsl]),(bN 0 [(.imm b c 1 false d),(iv aa)]),(bN 0 [(iv f),(.own 300003 0 g),(.own 300004 0 e),(.own 300005 0 ab),(.own 300006 0 0),(.own 300007 0 0),(.own 300008 0 0),(.own 300009 0 0)]),(bQ 1 l),(bQ 3 i),(bQ 12 ac),(bQ 22 []),(bQ 9 []),(bQ 5 []),(bQ 4 [])])⟩
def Ad8 (F:KF R):=Nk N F [1,1,1,1,1,1,1,0,1,0] []
def A0j (b:LA) (c:Nat) (d:Bool) (f:Int) (g e:Nat) (l i:LA) (m ag al:Int) (y:Nat) (am:LA):St:=⟨[(2,(op 0)),(3,(op 1)),(4,(op 2)),(7,(iv m)),(8,(iv ag))],(hq [(bN 0 [(iv 0),.nsl,.nsl,.nsl,.nsl,.nsl,.nsl,.nsl]),(bN 0 [(.imm b c 1 false d),(iv al)]),(bN 0 [(iv f),(.own 300003 0 g),(.own 300004 0 e),(.own 300005 0 y),(.own 300006 0 0),(.own 300007 0 0),(.own 300008 0 0),(.own 300009 0 0)]),(bQ 1 l),(bQ 3 i),(bQ 12 am),(bQ 22 []),(bQ 9 []),(bQ 5 []),(bQ 4 [])])⟩
def A0k (F:KF R):=Nk N F [1,1,1,1,1,1,0,1,0] []
def A0l (b:LA) (c:Nat) (d:Bool) (g:Nat) (l:LA) (ad ah f:Int) (e:Nat) (i:LA):St:=⟨[(2,(op 0)),(3,(op 1)),(4,(op 2)),(5,(iv ad))],(hq [(bN 0 [(iv 0),.nsl,.nsl,.nsl,.nsl,.nsl,.nsl,.nsl]),(bN 0 [(.imm b c 1 false d),(iv ah)]),(bN 0 [(iv f),(.own 300003 0 g),(.own 300004 0 e),(.own 300005 0 0),(.own 300006 0 0),(.own 300007 0 0),(.own 300008 0 0),(.own 300009 0 0)]),(bQ 1 l),(bQ 3 i),(bQ 12 []),(bQ 22 []),(bQ 9 []),(bQ 5 []),(bQ 4 [])])⟩
def A0m (F:KF R):=Nk N F [1,1,1,1,0,1,0] []
theorem Ah0 (Q2:St→O R) (F:KF R) (m:Int) (b:LA) (c:Nat) (d:Bool) (f:Int) (g e:Nat) (l i:LA):∀ (au av:Int) (an:Nat) (aw:LA),B5 (A0a N F Q2) (Az9 m b c d f g e l i au av an aw)=(UL N (fun af aa ab ac=>Q2 (Ad7 m b c d f g e l i af aa ab ac)) (Ci F) m b c d f g e l i au av an aw):=by
 intro au av an aw
 kernel_rfl
theorem Ah1 (Q7:St→O R) (F:KF R) (b:LA) (c:Nat) (d:Bool) (f:Int) (g e p o s u:Nat) (l i q r t v:LA):∀ (ar ax:Int) (w:Nat) (ao:LA),B5 (A0c N F Q7) (A0b b c d f g e p o s u l i q r t v ar ax w ao)=(UM N (fun ae ai x z=>Q7 (Ad5 b c d f g e p o s u l i q r t v ae ai x z)) (Ci F) b c d f g e p o s u l i q r t v ar ax w ao):=by
 intro ar ax w ao
 kernel_rfl
theorem js (F:KF R) (b:LA) (c:Nat) (d:Bool) (f:Int) (g e p o s u:Nat) (l i q r t v:LA):∀ (n:Nat) (ae ai:Int) (x:Nat) (z:LA),Ak (Ad6 N F) n (Ad5 b c d f g e p o s u l i q r t v ae ai x z)=(I4 N (Ci F) b c d f g e p o s u l i q r t v n ae ai x z)
 | 0,_,_,_,_=>by kernel_rfl
 | n+1,ae,ai,x,z=>have e0:=(funext fun ae=>funext fun ai=>funext fun x=>funext fun z=>(js F b c d f g e p o s u l i q r t v n ae ai x z))
  Eq.trans (by kernel_rfl) (OQ (BF N (Ci F) b c d f g e p o s u l i q r t v · · ae ai x z) e0 (funext fun ar=>funext fun ax=>funext fun w=>funext fun ao=>(A1 ..).trans ((Ah1 N (Ak (Ad6 N F) n) F b c d f g e p o s u l i q r t v ar ax w ao).trans (Bt (UM N · (Ci F) b c d f g e p o s u l i q r t v ar ax w ao) e0))):_)
theorem Ah2 (F:KF R) (b:LA) (c:Nat) (d:Bool) (f:Int) (g e p o s:Nat) (l i q r t:LA):∀ (ap:Int) (u:Nat) (v:LA),B5 (A0e N F) (A0d b c d f g e p o s l i q r t ap u v)=(UN N (Ci F) b c d f g e p o s l i q r t ap u v):=by
 intro ap u v
 exact Eq.trans (by kernel_rfl) (Bt (eE N (Ci F) b c d f g e p o s l i q r t · ap u v) (funext fun ae=>funext fun ai=>funext fun x=>funext fun z=>(Ad ..).trans (js N F b c d f g e p o s u l i q r t v N ae ai x z)):_)
theorem Ah3 (F:KF R) (m:Int) (b:LA) (c:Nat) (d:Bool) (f:Int) (g e p o:Nat) (l i q r:LA):∀ (aq:Int) (s:Nat) (t:LA),B5 (A0g N F) (A0f m b c d f g e p o l i q r aq s t)=(HZ N (Ci F) m b c d f g e p o l i q r aq s t):=by
 intro aq s t
 exact Eq.trans (by kernel_rfl) (Bt (LB N (Ci F) m b c d f g e p o l i q r · aq s t) (funext fun ap=>funext fun u=>funext fun v=>(A1 ..).trans (Ah2 N F b c d f g e p o s l i q r t ap u v)):_)
theorem jt (F:KF R) (m:Int) (b:LA) (c:Nat) (d:Bool) (f:Int) (g e:Nat) (l i:LA):∀ (n:Nat) (aj ak:Int) (p o:Nat) (q r:LA),Ak (A0i N F) n (A0h m b c d f g e l i aj ak p o q r)=(P4 N (Ci F) m b c d f g e l i n aj ak p o q r)
 | 0,_,_,_,_,_,_=>by kernel_rfl
 | n+1,aj,ak,p,o,q,r=>Eq.trans (by kernel_rfl) (OQ (BG N (Ci F) m b c d f g e l i · · aj ak p o q r) (funext fun aj=>funext fun ak=>funext fun p=>funext fun o=>funext fun q=>funext fun r=>(jt F m b c d f g e l i n aj ak p o q r)) (funext fun aq=>funext fun s=>funext fun t=>(A1 ..).trans (Ah3 N F m b c d f g e p o l i q r aq s t)):_)
theorem ju (F:KF R) (m:Int) (b:LA) (c:Nat) (d:Bool) (f:Int) (g e:Nat) (l i:LA):∀ (n:Nat) (af aa:Int) (ab:Nat) (ac:LA),Ak (Ad8 N F) n (Ad7 m b c d f g e l i af aa ab ac)=(P5 N (Ci F) m b c d f g e l i n af aa ab ac)
 | 0,_,_,_,_=>by kernel_rfl
 | n+1,af,aa,ab,ac=>have e0:=(funext fun af=>funext fun aa=>funext fun ab=>funext fun ac=>(ju F m b c d f g e l i n af aa ab ac))
  Eq.trans (by kernel_rfl) (Bbw (BH N (Ci F) m b c d f g e l i · · · af aa ab ac) e0 (funext fun au=>funext fun av=>funext fun an=>funext fun aw=>(A1 ..).trans ((Ah0 N (Ak (Ad8 N F) n) F m b c d f g e l i au av an aw).trans (Bt (UL N · (Ci F) m b c d f g e l i au av an aw) e0))) (funext fun aj=>funext fun ak=>funext fun p=>funext fun o=>funext fun q=>funext fun r=>(Ad ..).trans (jt N F m b c d f g e l i N aj ak p o q r)):_)
theorem jv (F:KF R) (b:LA) (c:Nat) (d:Bool) (f:Int) (g e:Nat) (l i:LA):∀ (n:Nat) (m ag al:Int) (y:Nat) (am:LA),Ak (A0k N F) n (A0j b c d f g e l i m ag al y am)=(X8 N (Ci F) b c d f g e l i n m ag al y am)
 | 0,_,_,_,_,_=>by kernel_rfl
 | n+1,m,ag,al,y,am=>Eq.trans (by kernel_rfl) (OQ (LC N (Ci F) b c d f g e l i · · m ag al y am) (funext fun m=>funext fun ag=>funext fun al=>funext fun y=>funext fun am=>(jv F b c d f g e l i n m ag al y am)) (funext fun af=>funext fun aa=>funext fun ab=>funext fun ac=>(Ad ..).trans (ju N F m b c d f g e l i N af aa ab ac)):_)
theorem jw (F:KF R) (b:LA) (c:Nat) (d:Bool) (g:Nat) (l:LA):∀ (n:Nat) (ad ah f:Int) (e:Nat) (i:LA),Ak (A0m N F) n (A0l b c d g l ad ah f e i)=(Nj N (Ci F) b c d g l n ad ah f e i)
 | 0,_,_,_,_,_=>by kernel_rfl
 | n+1,ad,ah,f,e,i=>Eq.trans (by kernel_rfl) (OQ (BI N (Ci F) b c d g l · · ad ah f e i) (funext fun ad=>funext fun ah=>funext fun f=>funext fun e=>funext fun i=>(jw F b c d g l n ad ah f e i)) (funext fun m=>funext fun ag=>funext fun al=>funext fun y=>funext fun am=>(Ad ..).trans (jv N F b c d f g e l i N m ag al y am)):_)
theorem Ad9 (b:LA) (c:Nat) (ay d:Bool) (F:KF R):Cw (Alv N) Ad4 N 42 [(.imm b c 1 ay d)] [] F=(UO N b c ay d (Ci F)):=by
 rw[wI]
 exact Eq.trans (by kernel_rfl) (Bt (pc N (Ci F) · b c ay d) (funext fun g=>funext fun l=>funext fun ad=>funext fun ah=>funext fun f=>funext fun e=>funext fun i=>(Ad ..).trans (jw N F b c d g l N ad ah f e i)):_)
def wJ (a:LA) (h:Aj) (k:KF R):O R :=
 match a,h with
 | [(.imm b c 1 ay d)],[]=>(UO N b c ay d (Ci k))
 | _,_=>none
theorem Aea:An N 42 @wJ:=by
 intro R Q a h k j;unfold wJ;split;exact A2 (Ad9 ..) (Ad9 ..) ⟨Alg N,G8 N,sx N,TR N,yS N,yY N,ov N,UJ N,trivial⟩;exact A4
def Aeb:=A3 (Aea N)
def Aec:=Cz (Aea N)
def A0n (N:Nat) (d e:Int) (c:Bool) (b:LA) (r0:Bool→LA→O R):O R :=
 (Ap .i64 (b.drop 11) fun f=>(cond (f==0) (cond ((Nat.beq 3 3)&&((Nat.ble 11 (b.length))&&(!false))) (r0 (c||false) (C4 b 8 [(.int .i64 d),(.int .i64 e),(.int .i64 0)])) none) (r0 c b)))
def YU:=(Ag (@A0n R)).1
theorem Alw:@YU R=@A0n R:=(Ag _).2
def Au4 (F:KF R):Bool→LA→O R:=(fun g i=>F (.tup []) [(100000,(bP g 0 i))])
theorem Au5 (d e:Int) (c:Bool) (b:LA) (F:KF R):Cw [] Cr N 233 [(.optr 100000 0),(iv d),(iv e)] [(100000,(bP c 0 b))] F=(YU N d e c b (Au4 F)):=by
 rw[Alw]
 kernel_rfl
def Alx (a:LA) (h:Aj) (k:KF R):O R :=
 match a,h with
 | [(.optr 100000 0),(.int .i64 d),(.int .i64 e)],[(100000,⟨false,false,true,c,0,b,false,none⟩)]=>(YU N d e c b (Au4 k))
 | _,_=>none
theorem Au6:An N 233 @Alx:=by
 intro R Q a h k j;unfold Alx;split;exact A2 (Au5 ..) (Au5 ..) trivial;exact A4
def BJ:=A3 (Au6 N)
def BK:=Cz (Au6 N)
def Aed (N:Nat) (e:Bool) (d f:Int) (c:Bool) (b:LA) (r0:Bool→LA→O R):O R :=
 (Ap .i64 (b.drop 11) fun g=>(cond ((g==0)==true) (cond (cond true (!e) false) (cond ((Nat.beq 1 1)&&((Nat.ble 11 (b.length))&&(!false))) (cond ((Nat.beq 1 1)&&((Nat.ble 12 ((b.set 10 (.int .i64 d)).length))&&(!false))) (r0 ((c||false)||false) ((b.set 10 (.int .i64 d)).set 11 (.int .i64 f))) none) none) (r0 c b)) (r0 c b)))
def A5:=(Ag (@Aed R)).1
theorem wK:@A5 R=@Aed R:=(Ag _).2
def Aee (F:KF R):Bool→LA→O R:=(fun i l=>F (.tup []) [(100000,(bP i 0 l))])
theorem Aef (e:Bool) (d f:Int) (c:Bool) (b:LA) (F:KF R):Cw [] Cr N 236 [(.optr 100000 0),(.bool e),(iv d),(iv f)] [(100000,(bP c 0 b))] F=(A5 N e d f c b (Aee F)):=by
 rw[wK]
 kernel_rfl
def wL (a:LA) (h:Aj) (k:KF R):O R :=
 match a,h with
 | [(.optr 100000 0),(.bool e),(.int .i64 d),(.int .i64 f)],[(100000,⟨false,false,true,c,0,b,false,none⟩)]=>(A5 N e d f c b (Aee k))
 | _,_=>none
theorem Aeg:An N 236 @wL:=by
 intro R Q a h k j;unfold wL;split;exact A2 (Aef ..) (Aef ..) trivial;exact A4
def Di:=A3 (Aeg N)
def Dj:=Cz (Aeg N)
def md (b c f g:Int) (d:Bool) (e:LA) (r0:Bool→LA→O R):O R :=
 (cond ((decide (c≥f))==true) (A5 N (cond true (decide (c≤g)) false) b 3 d e (fun i l=>(r0 i l))) (A5 N false b 3 d e (fun m n=>(r0 m n))))
def Bc:=(Ag (@md R)).1
theorem jx:@Bc R=@md R:=(Ag _).2
def Au7:F2:=[(236,Di N)]
def pd (F:KF R):Bool→LA→O R:=(fun o p=>F (.tup []) [(100000,(bP o 0 p))])
theorem pe (b c f g:Int) (d:Bool) (e:LA) (F:KF R):Cw (Au7 N) Cr N 234 [(.optr 100000 0),(iv b),(iv c),(iv f),(iv g)] [(100000,(bP d 0 e))] F=(Bc N b c f g d e (pd F)):=by
 rw[jx]
 kernel_rfl
def jy (a:LA) (h:Aj) (k:KF R):O R :=
 match a,h with
 | [(.optr 100000 0),(.int .i64 b),(.int .i64 c),(.int .i64 f),(.int .i64 g)],[(100000,⟨false,false,true,d,0,e,false,none⟩)]=>(Bc N b c f g d e (pd k))
 | _,_=>none
theorem pf:An N 234 @jy:=by
 intro R Q a h k j;unfold jy;split;exact A2 (pe ..) (pe ..) ⟨Dj N,trivial⟩;exact A4
def Hq:=A3 (pf N)
def Hr:=Cz (pf N)
def Zp (r0:Bool→LA→O R) (c d e:Int) (f:LA) (b:Nat) (g i:Bool) (k0:Int→Int→Bool→LA→O R) (p l:Int) (o:Bool) (m:LA):O R :=
 (cond (decide (l<p)) (cond (Ae l b) (Ap .i64 (f.drop ((l.toNat)*1)) fun s=>(Ap .i64 (m.drop 11) fun t=>(cond (t != 0) (r0 o m) (Bc N c s d e o m (fun u v=>(k0 p (wrap .i64 (l+1)) u v)))))) none) (r0 o m))
def Nl (r0:Bool→LA→O R) (c d e:Int) (f:LA) (b:Nat) (g i:Bool):Nat→Int→Int→Bool→LA→O R
 | 0,_,_,_,_=>none
 | n+1,p,l,o,m=>(Zp N r0 c d e f b g i (Nl r0 c d e f b g i n) p l o m)
def UP (r0:Bool→LA→O R) (q0:Int→Int→Bool→LA→O R) (c:Int) (f:LA) (b:Nat) (g i:Bool) (d e:Int) (r:Bool) (q:LA):O R :=
 (Ap .i64 q fun w=>(A5 N (((b:Nat):Int)==w) c 4 r q (fun x y=>(q0 ((b:Nat):Int) 0 x y))))
def Oh:=(Ag (fun (N:Nat) (c:Int) (f:LA) (b:Nat) (g i:Bool) (d e:Int) (r:Bool) (q:LA) (r0:Bool→LA→O R)=>(UP N r0 (fun p l o m=>(Nl N r0 c d e f b g i N p l o m)) c f b g i d e r q))).1
theorem jz (c f b g i d e r q r0):(@Oh R N c f b g i d e r q r0)=(UP N r0 (fun p l o m=>(Nl N r0 c d e f b g i N p l o m)) c f b g i d e r q):=by rw[Oh,(Ag _).2]
def pg:Hints:={ H:=(hS hL (hS hL (hS (hP [0,1,3,4,23,24,25] hL) hL))) }
def wN:F2:=[(236,Di N),(234,Hq N)]
def Apw (F:KF R):=Ju Tryz.f235 pg (wN N) [100000] N F
def V6 (F:KF R):Bool→LA→O R:=(fun z aa=>F (.tup []) [(100000,(bP z 0 aa))])
def Apx (c d e:Int) (f:LA) (b:Nat) (g i:Bool) (p l:Int) (o:Bool) (m:LA):St:=⟨[(0,(.optr 100000 0)),(1,(iv c)),(3,(iv d)),(4,(iv e)),(23,(.imm f b 1 g i)),(24,(iv p)),(25,(iv l))],[(100000,(bP o 0 m))]⟩
def Apy (F:KF R):=Apw N F [1,1,0] []
theorem YV (F:KF R) (c d e:Int) (f:LA) (b:Nat) (g i:Bool):∀ (n:Nat) (p l:Int) (o:Bool) (m:LA),Ak (Apy N F) n (Apx c d e f b g i p l o m)=(Nl N (V6 F) c d e f b g i n p l o m)
 | 0,_,_,_,_=>by kernel_rfl
 | n+1,p,l,o,m=>Eq.trans (by kernel_rfl) (Bt (Zp N (V6 F) c d e f b g i · p l o m) (funext fun p=>funext fun l=>funext fun o=>funext fun m=>(YV F c d e f b g i n p l o m)):_)
theorem ph (c:Int) (f:LA) (b:Nat) (g i:Bool) (d e:Int) (r:Bool) (q:LA) (F:KF R):Cw (wN N) pg N 235 [(.optr 100000 0),(iv c),(.imm f b 1 g i),(iv d),(iv e)] [(100000,(bP r 0 q))] F=(Oh N c f b g i d e r q (V6 F)):=by
 rw[jz]
 exact Eq.trans (by kernel_rfl) (Bt (UP N (V6 F) · c f b g i d e r q) (funext fun p=>funext fun l=>funext fun o=>funext fun m=>(Ad ..).trans (YV N F c d e f b g i N p l o m)):_)
def kA (a:LA) (h:Aj) (k:KF R):O R :=
 match a,h with
 | [(.optr 100000 0),(.int .i64 c),(.imm f b 1 g i),(.int .i64 d),(.int .i64 e)],[(100000,⟨false,false,true,r,0,q,false,none⟩)]=>(Oh N c f b g i d e r q (V6 k))
 | _,_=>none
theorem pi:An N 235 @kA:=by
 intro R Q a h k j;unfold kA;split;exact A2 (ph ..) (ph ..) ⟨Dj N,Hr N,trivial⟩;exact A4
def UQ:=A3 (pi N)
def UR:=Cz (pi N)
def LD (r0:Bool→LA→O R) (c:Bool) (b:LA):O R :=
 (Br 12 (b.drop 3) fun ao r=>(A5 N (decide (((r:Nat):Int)≤64)) 3 8 c b (fun s g=>(Br 22 (g.drop 4) fun ap t=>(A5 N (decide (((t:Nat):Int)≤16)) 4 8 s g (fun u i=>(Br 9 (i.drop 5) fun aq v=>(A5 N (decide (((v:Nat):Int)≤8)) 5 8 u i (fun w l=>(Br 5 (l.drop 6) fun ar x=>(A5 N (decide (((x:Nat):Int)≤8)) 6 8 w l (fun y m=>(Br 4 (m.drop 7) fun au z=>(A5 N (decide (((z:Nat):Int)≤64)) 7 8 y m (fun aa ab=>(r0 aa ab))))))))))))))))
def gn (r0:Bool→LA→O R) (q0:Bool→LA→O R) (d:Bool) (e:LA):O R :=
 (YU N 0 0 d e (fun ac n=>(Ap .i64 n fun ad=>(Bc N 0 ad 1 24 ac n (fun o p=>(Br 1 (p.drop 1) fun ae af=>(Oh N 1 ae af false o 0 1048576 o p (fun q f=>(Br 3 (f.drop 2) fun av ag=>(cond ((decide (((ag:Nat):Int)≥1))==true) (Br 3 (f.drop 2) fun aw ah=>(A5 N (cond true (decide (((ah:Nat):Int)≤32)) false) 2 8 q f (fun ai aj=>(q0 ai aj)))) (A5 N false 2 8 q f (fun ak al=>(q0 ak al)))))))))))))
def H_:=(Ag (fun (N:Nat) (d:Bool) (e:LA) (r0:Bool→LA→O R)=>(gn N r0 (fun c b=>(LD N r0 c b)) d e))).1
theorem pj (d e r0):(@H_ R N d e r0)=(gn N r0 (fun c b=>(LD N r0 c b)) d e):=by rw[H_,(Ag _).2]
def wO:Hints:={ H:=(hS hL (hS hL (hS hL (hJ [0] hL hL)))) }
def Aeh:F2:=[(233,BJ N),(234,Hq N),(235,UQ N),(236,Di N)]
def Au8 (F:KF R):=Ju Tryz.f171 wO (Aeh N) [100000] N F
def LE (F:KF R):Bool→LA→O R:=(fun am an=>F (.tup []) [(100000,(bP am 0 an))])
def Au9 (c:Bool) (b:LA):St:=⟨[(0,(.optr 100000 0))],[(100000,(bP c 0 b))]⟩
def Ava (F:KF R):=Au8 N F [1,1,1,1] []
theorem Aei (F:KF R):∀ (c:Bool) (b:LA),B5 (Ava N F) (Au9 c b)=(LD N (LE F) c b):=by
 intro c b
 kernel_rfl
theorem wQ (d:Bool) (e:LA) (F:KF R):Cw (Aeh N) wO N 171 [(.optr 100000 0)] [(100000,(bP d 0 e))] F=(H_ N d e (LE F)):=by
 rw[pj]
 exact Eq.trans (by kernel_rfl) (Bt (gn N (LE F) · d e) (funext fun c=>funext fun b=>(A1 ..).trans (Aei N F c b)):_)
def pk (a:LA) (h:Aj) (k:KF R):O R :=
 match a,h with
 | [(.optr 100000 0)],[(100000,⟨false,false,true,d,0,e,false,none⟩)]=>(H_ N d e (LE k))
 | _,_=>none
theorem wR:An N 171 @pk:=by
 intro R Q a h k j;unfold pk;split;exact A2 (wQ ..) (wQ ..) ⟨BK N,Hr N,UR N,Dj N,trivial⟩;exact A4
def Avb:=A3 (wR N)
def Avc:=Cz (wR N)
def LF (N:Nat) (r0:Bool→O R) (b:List UInt8) (k1:Int→Int→O R) (d c:Int):O R :=
 (cond (decide (c<d)) (cond (Ae c (b.length)) (cond ((decide (((UInt8.toNat (List.getD b (c.toNat) 0):Nat):Int)<97))==false) (cond ((cond false true (decide (((UInt8.toNat (List.getD b (c.toNat) 0):Nat):Int)>122)))==true) (cond ((decide (((UInt8.toNat (List.getD b (c.toNat) 0):Nat):Int)<48))==false) (cond ((cond true (cond false true (decide (((UInt8.toNat (List.getD b (c.toNat) 0):Nat):Int)>57))) false)==true) (cond (cond true (((UInt8.toNat (List.getD b (c.toNat) 0):Nat):Int) != 95) false) (r0 false) (k1 d (wrap .i64 (c+1)))) (k1 d (wrap .i64 (c+1)))) (cond (cond true (((UInt8.toNat (List.getD b (c.toNat) 0):Nat):Int) != 95) false) (r0 false) (k1 d (wrap .i64 (c+1))))) (k1 d (wrap .i64 (c+1)))) (cond ((decide (((UInt8.toNat (List.getD b (c.toNat) 0):Nat):Int)<48))==false) (cond ((cond true (cond false true (decide (((UInt8.toNat (List.getD b (c.toNat) 0):Nat):Int)>57))) false)==true) (cond (cond true (((UInt8.toNat (List.getD b (c.toNat) 0):Nat):Int) != 95) false) (r0 false) (k1 d (wrap .i64 (c+1)))) (k1 d (wrap .i64 (c+1)))) (cond (cond true (((UInt8.toNat (List.getD b (c.toNat) 0):Nat):Int) != 95) false) (r0 false) (k1 d (wrap .i64 (c+1)))))) none) (r0 true))
def X9 (r0:Bool→O R) (b:List UInt8):Nat→Int→Int→O R
 | 0,_,_=>none
 | n+1,d,c=>(LF N r0 b (X9 r0 b n) d c)
def eF (N:Nat) (r0:Bool→O R) (b:List UInt8) (q1:Int→Int→O R):O R :=
 (q1 (((b.length):Nat):Int) 0)
def US (r0:Bool→O R) (b:List UInt8):O R:=(eF N r0 b (fun d c=>(X9 N r0 b N d c)))
def pm (N:Nat) (r0:Bool→O R) (q0:O R) (b:List UInt8):O R :=
 (cond ((decide ((((b.length):Nat):Int)<1))==false) (cond ((cond false true (decide ((((b.length):Nat):Int)>16)))==false) (cond ((cond false true (b==([99,111,114,114,101,99,116,105,118,101]:List UInt8)))==false) (cond (Ae 0 (b.length)) (cond ((cond false true (decide (((UInt8.toNat (List.getD b 0 0):Nat):Int)<97)))==false) (cond (Ae 0 (b.length)) (cond (cond false true (decide (((UInt8.toNat (List.getD b 0 0):Nat):Int)>122))) (r0 false) q0) none) (r0 false)) none) (r0 false)) (r0 false)) (r0 false))
def V7:=(Ag (fun (N:Nat) (b:List UInt8) (r0:Bool→O R)=>(pm N r0 (US N r0 b) b))).1
theorem wT (b r0):(@V7 R N b r0)=(pm N r0 (US N r0 b) b):=by rw[V7,(Ag _).2]
def Aej:Hints:={ H:=(hS hL (hJ [0] hL (hS (hS hL (hS (hP [0,28,29] hL) hL)) hL))) }
def Aek (F:KF R):=Ju Tryz.f284 Aej [] [] N F
def T3 (F:KF R):Bool→O R:=(fun e=>F (.bool e) [])
def A0o (b:List UInt8) (d c:Int):St:=⟨[(0,(.str b)),(28,(iv d)),(29,(iv c))],[]⟩
def A0p (F:KF R):=Aek N F [1,1,0,1,0] []
def A0q (b:List UInt8):St:=⟨[(0,(.str b))],[]⟩
def A0r (F:KF R):=Aek N F [1,1] []
theorem kC (F:KF R) (b:List UInt8):∀ (n:Nat) (d c:Int),Ak (A0p N F) n (A0o b d c)=(X9 N (T3 F) b n d c)
 | 0,_,_=>by kernel_rfl
 | n+1,d,c=>Eq.trans (by kernel_rfl) (Bt (LF N (T3 F) b · d c) (funext fun d=>funext fun c=>(kC F b n d c)):_)
theorem Ah4 (F:KF R) (b:List UInt8):B5 (A0r N F) (A0q b)=(US N (T3 F) b):=by
 exact Eq.trans (by kernel_rfl) (Bt (eF N (T3 F) b ·) (funext fun d=>funext fun c=>(Ad ..).trans (kC N F b N d c)):_)
theorem Ael (b:List UInt8) (F:KF R):Cw [] Aej N 284 [(.str b)] [] F=(V7 N b (T3 F)):=by
 rw[wT]
 exact Eq.trans (by kernel_rfl) (Bt (pm N (T3 F) · b) ((A1 ..).trans (Ah4 N F b)):_)
def wU (a:LA) (h:Aj) (k:KF R):O R :=
 match a,h with
 | [(.str b)],[]=>(V7 N b (T3 k))
 | _,_=>none
theorem Aem:An N 284 @wU:=by
 intro R Q a h k j;unfold wU;split;exact A2 (Ael ..) (Ael ..) trivial;exact A4
def Ya:=A3 (Aem N)
def Yb:=Cz (Aem N)
end
end Gx

namespace Gx.Cf
open Go Go.Proofs
section
variable {R:Type}
def Ary (f:Bool) (H:Nat) (res:List Int) (bs:List BusD) (ls:List LineD) (us:List UnitD) (ss:List StoreD) (ts:List TieD) (os:List OutD):CaseD :=
 ⟨(H:Int),.of res false f,.of bs false f,.of ls false f,.of us false f,.of ss false f,.of ts false f,.of os false f⟩
structure BusG (i H:Nat) (b:BusD):Prop where
 name:b.name=[98,Bb7.getD i 0]
 dl:b.demand.l.length=H
 dr:∀ x ∈ b.demand.l,0≤x∧x<14
 shed:0≤b.shed∧b.shed<300
structure StoreG (nb:Nat) (x:StoreD):Prop where
 name:x.name=[115,48]
 bus:0≤x.bus∧x.bus<(nb:Int)
 cap:0≤x.capacity∧x.capacity<20
 ini:0≤x.initial∧x.initial≤x.capacity
 fin:0≤x.final∧x.final≤x.capacity
 ch:0≤x.charge∧x.charge<8
 dis:0≤x.discharge∧x.discharge<8
 eff:1≤x.eff.num∧x.eff.num≤4∧x.eff.den=4
structure TieG (nb H:Nat) (x:TieD):Prop where
 name:x.name=[116,48]
 bus:0≤x.bus∧x.bus<(nb:Int)
 il:x.imp.l.length=H
 ir:∀ y ∈ x.imp.l,0≤y∧y<12
 el:x.exp.l.length=H
 er:∀ y ∈ x.exp.l,0≤y∧y<12
 pl:x.price.l.length=H
 pr:∀ y ∈ x.price.l,0≤y∧y<40
structure LineH (nb:Nat) (i:Nat) (H:Int) (x:LineD):Prop where
 g:LineG i x.fr x.tl H x
 fr:0≤x.fr∧x.fr<(nb:Int)
 tx:0≤x.tl∧x.tl<(nb:Int)
 ne:x.fr≠x.tl
structure BaseG (H:Nat) (res:List Int) (bs:List BusD) (ls:List LineD) (us:List UnitD) (ss:List StoreD) (ts:List TieD):Prop where
 h:1≤H∧H≤3
 rl:res.length=H
 rr:∀ x ∈ res,0≤x∧x<5
 bl:1≤bs.length∧bs.length≤4
 bg:∀ i (h:i<bs.length),BusG i H bs[i]
 ll:ls.length≤7
 lg:∀ i (h:i<ls.length),LineH bs.length i H ls[i]
 ul:1≤us.length∧us.length≤3
 ug:∀ i (h:i<us.length),UnitG i bs.length H us[i]
 sl:ss.length≤1
 sg:∀ x ∈ ss,StoreG bs.length x
 tl:ts.length≤1
 tg:∀ x ∈ ts,TieG bs.length H x
structure OutsG (nl nu:Nat) (os:List OutD):Prop where
 l:os.length≤3
 g:∀ i (h:i<os.length),OutG i nl nu os[i]
theorem Aly {N:Nat} (hN:4096≤N) {f:Bool} {H:Nat} {d:List Int} {bs:List BusD} {ls:List LineD} {us:List UnitD} {ss:List StoreD} {ts:List TieD} {os:List OutD} (b:BaseG H d bs ls us ss ts) (g:OutsG ls.length us.length os):Small (Ary f H d bs ls us ss ts os) N:=by
 have h:=b.h;have rl:=b.rl;have bl:=b.bl;have ll:=b.ll;have ul:=b.ul;have sl:=b.sl;have tl:=b.tl;have ol:=g.l
 have fit:∀ n:Nat,n≤100→E2 n N:=fun n hn=>⟨by omega,by omega⟩
 refine⟨by omega,fit _ (by simp only[Ary,Sl.l];omega),fit _ (by simp only[Ary,Sl.l];omega),fit _ (by simp only[Ary,Sl.l];omega),fit _ (by simp only[Ary,Sl.l];omega),fit _ (by simp only[Ary,Sl.l];omega),fit _ (by simp only[Ary,Sl.l];omega),fit _ (by simp only[Ary,Sl.l];omega),
  fun x c=>?_,fun x c=>?_,fun x c=>?_,fun x c=>?_,fun x c=>?_,fun x c=>?_,fun x c=>?_,fun x c=>?_,fun x c=>?_,fun x c=>?_,by simp only[Ary,Sl.l];omega⟩
 all_goals simp only[Ary,Sl.l] at c
 ·obtain⟨i,hi,rfl⟩:=List.getElem_of_mem c;have:=(b.bg i hi).dl;exact fit _ (by omega)
 ·obtain⟨i,hi,rfl⟩:=List.getElem_of_mem c;have:=(b.lg i hi).g.aw;exact fit _ (by omega)
 ·obtain⟨i,hi,rfl⟩:=List.getElem_of_mem c;have:=(b.ug i hi).sl;exact fit _ (by omega)
 ·obtain⟨i,hi,rfl⟩:=List.getElem_of_mem c;have:=(b.ug i hi).aw;exact fit _ (by omega)
 ·have:=(b.tg x c).il;exact fit _ (by omega)
 ·have:=(b.tg x c).el;exact fit _ (by omega)
 ·have:=(b.tg x c).pl;exact fit _ (by omega)
 ·obtain⟨i,hi,rfl⟩:=List.getElem_of_mem c;have:=(g.g i hi).ll;exact fit _ (by omega)
 ·obtain⟨i,hi,rfl⟩:=List.getElem_of_mem c;have:=(g.g i hi).ml;exact fit _ (by omega)
 ·obtain⟨i,hi,rfl⟩:=List.getElem_of_mem c;have:=(g.g i hi).ml;omega
theorem A7d {α:Type} {e:α→LA} {sz:Nat} (b:∀ a,(e a).length=sz) (l:List α):(l.flatMap e).length=l.length*sz:=by
 induction l with
 | nil=>simp
 | cons a r c=>rw[List.flatMap_cons,List.length_append,c,b,List.length_cons,Nat.add_mul];omega
theorem Ck {α:Type} {e:α→LA} {sz n:Nat} (b:∀ a,(e a).length=sz) (l:List α) (hn:n=l.length):List.take (n*sz) (l.flatMap e)=l.flatMap e:=List.take_of_length_le (by rw[A7d b,hn];exact Nat.le_refl _)
theorem P6 {B:List Int} {n:Nat} (h:n=B.length):List.take (n*1) (Aq B)=B.flatMap IS:=by rw[h];exact X7
theorem eG {α:Type} {P:Nat→α→Prop} {l:List α} {x:α} (h:∀ i (h:i<l.length),P i l[i]) (c:P l.length x):∀ i (h:i<(l++[x]).length),P i (l++[x])[i]:=by
 intro i hi
 by_cases b:i<l.length
 ·rw[List.getElem_append_left b];exact h i b
 ·have:i=l.length:=by simp at hi;omega
  subst this
  simpa using c
theorem A0s {p:Df} (h:(Bp p==0)=true):p=none:=by
 rcases p with _ | ⟨x,e,b⟩
 ·rfl
 ·simp[Bp] at h;exact absurd h b
theorem Apz {N:Nat} {l:List Int} {o:Bool} (hN:4096≤N) (s:l.length≤9223372036854775807) {H:Nat} {d:List Int} {bs:List BusD} {ls:List LineD} {us:List UnitD} {ss:List StoreD} {ts:List TieD} (b:BaseG H d bs ls us ss ts):∀ (n fuel k:Nat) (os:List OutD),n<fuel→k≤l.length→os.length+n≤3→OutsG ls.length us.length os→(os=[]∨Cc (Ary true H d bs ls us ss ts os)=none) →
  ∃ e,OutsG ls.length us.length e∧(e=[]∨Cc (Ary true H d bs ls us ss ts e)=none)∧∀ K:LA→O R,I4 N K (Aq l) l.length o (H:Int) d.length bs.length ls.length us.length ss.length ts.length (Aq d) (bs.flatMap BusD.av) (ls.flatMap LineD.av) (us.flatMap UnitD.av) (ss.flatMap StoreD.av) (ts.flatMap TieD.av) fuel (n:Int) (k:Int) os.length (os.flatMap OutD.av)=K (Ary false H d bs ls us ss ts e).av
 | 0,fuel+1,k,os,_,u,_,g,m=>by
  refine⟨os,g,m,fun K=>?_⟩
  rw[I4];unfold BF
  rw[show decide (((0:Nat):Int)>0)=false from rfl,P6 rfl,Ck Kb _ rfl,Ck Ce _ rfl,Ck Cg _ rfl,Ck Ga _ rfl,Ck Lv _ rfl,Ck Dk _ rfl]
  rfl
 | n+1,fuel+1,k,os,I,u,hn,g,m=>by
  by_cases v:ls.length=0
  ·refine⟨os,g,m,fun K=>?_⟩
   rw[I4];unfold BF
   rw[show decide ((ls.length:Int)>0)=false from decide_eq_false (by omega),show decide (((n+1:Nat):Int)>0)=true from decide_eq_true (by omega),P6 rfl,Ck Kb _ rfl,Ck Ce _ rfl,Ck Cg _ rfl,Ck Ga _ rfl,Ck Lv _ rfl,Ck Dk _ rfl]
   rfl
  ·have y:=b.ul;have z:=b.ll
   obtain⟨x,q,gx,j,A⟩:=Au3 (R:=R) (N:=N) (t:=false) (o:=o) (by omega) s (i:=os.length) (nl:=ls.length) (nu:=us.length) (by omega) (by omega) (by omega) k u
   have g':OutsG ls.length us.length (os++[x]):=⟨by simp;omega,eG g.g gx⟩
   have sm:=Aly (f:=true) hN b g'
   have wn:IntKind.wrap .i64 (((n+1:Nat):Int) - 1)=(n:Int):=pR (by omega)
   have step:∀ K:LA→O R,I4 N K (Aq l) l.length o (H:Int) d.length bs.length ls.length us.length ss.length ts.length (Aq d) (bs.flatMap BusD.av) (ls.flatMap LineD.av) (us.flatMap UnitD.av) (ss.flatMap StoreD.av) (ts.flatMap TieD.av) (fuel+1) ((n+1:Nat):Int) (k:Int) os.length (os.flatMap OutD.av) =
     cond (Bp (Cc (Ary true H d bs ls us ss ts (os++[x])))==0)
      (I4 N K (Aq l) l.length o (H:Int) d.length bs.length ls.length us.length ss.length ts.length (Aq d) (bs.flatMap BusD.av) (ls.flatMap LineD.av) (us.flatMap UnitD.av) (ss.flatMap StoreD.av) (ts.flatMap TieD.av) fuel (n:Int) (q:Int) (os++[x]).length ((os++[x]).flatMap OutD.av))
      (I4 N K (Aq l) l.length o (H:Int) d.length bs.length ls.length us.length ss.length ts.length (Aq d) (bs.flatMap BusD.av) (ls.flatMap LineD.av) (us.flatMap UnitD.av) (ss.flatMap StoreD.av) (ts.flatMap TieD.av) fuel (n:Int) (q:Int) os.length (os.flatMap OutD.av)):=fun K=>by
    rw[I4];unfold BF UM
    have c1:(Nat.ble (0+os.length) 140737488355328&&Nat.ble ((0+os.length)*72) 140737488355328)=true:=by rw[Bs,Bs];simp;omega
    have C:(Nat.ble ((0+os.length)+1) 140737488355328&&Nat.ble (((0+os.length)+1)*72) 140737488355328)=true:=by rw[Bs,Bs];simp;omega
    have D:List.take ((0+os.length)*4) (List.take (os.length*4) (os.flatMap OutD.av))++List.take 4 (setCells [(.str ([]:List UInt8)),.nsl,(.bool false),.nsl] 0 (List.take 4 x.av))=(os++[x]).flatMap OutD.av:=by
     rw[Nat.zero_add,Ck Dk _ rfl,Ck Dk _ rfl]
     simp only[List.flatMap_append,List.flatMap_cons,List.flatMap_nil,List.append_nil]
     rfl
    have F:List.take (((0+os.length)+1)*4) ((os++[x]).flatMap OutD.av)=(os++[x]).flatMap OutD.av:=Ck Dk _ (by simp)
    have G:(0+os.length)+1=(os++[x]).length:=by simp
    rw[show decide ((ls.length:Int)>0)=true from decide_eq_true (by omega),show decide (((n+1:Nat):Int)>0)=true from decide_eq_true (by omega)]
    simp only[beq_self_eq_true,cond_true]
    rw[A,show((Nat.beq 0 0)&&((Nat.beq (List.length x.av) 4)&&(Nat.beq 4 4)))=true from rfl,ct,c1,ct,show Nat.ble 4 (List.length x.av)=true from rfl,ct,show((Nat.beq (List.length (List.take 4 x.av)) 4)&&(Nat.ble 4 4))=true from rfl,ct,C,ct,D,F,G,P6 rfl,Ck Kb _ rfl,Ck Ce _ rfl,Ck Cg _ rfl,Ck Ga _ rfl,Ck Lv _ rfl]
    refine Eq.trans (HX (R:=R) (N:=N) (c:=Ary true H d bs ls us ss ts (os++[x])) (o:=true) sm hN) ?_
    rw[Bae,show((Nat.beq 3 3)&&((Nat.ble 3 3)&&(!false)))=true from rfl,ct,wn]
   cases hq:Bp (Cc (Ary true H d bs ls us ss ts (os++[x])))==0 with
   | true =>
    obtain⟨e,a1,a2,a3⟩:=Apz hN s b n fuel q (os++[x]) (by omega) j (by simp;omega) g' (.inr (A0s hq))
    exact⟨e,a1,a2,fun K=>by rw[step,hq,ct,a3]⟩
   | false =>
    obtain⟨e,a1,a2,a3⟩:=Apz hN s b n fuel q os (by omega) j (by omega) g m
    exact⟨e,a1,a2,fun K=>by rw[step,hq,cf,a3]⟩
end
end Gx.Cf

namespace Gx.Cf
open Go Go.Proofs
section
variable {R:Type}
def eH (c:CaseD):Prop:=∃ (H:Nat) (res:List Int) (bs:List BusD) (ls:List LineD) (us:List UnitD) (ss:List StoreD) (ts:List TieD) (os:List OutD),
 BaseG H res bs ls us ss ts∧OutsG ls.length us.length os∧(os=[]∨Cc (Ary true H res bs ls us ss ts os)=none)∧c=Ary false H res bs ls us ss ts os
theorem A22 {N:Nat} {l:List Int} {o:Bool} (hN:4096≤N) (f:l.length≤9223372036854775807) {H:Nat} {d:List Int} {bs:List BusD} {ls:List LineD} {us:List UnitD} {ss:List StoreD} {ts:List TieD} (b:BaseG H d bs ls us ss ts) (k:Nat) (i:k≤l.length) :
  ∃ c,eH c∧∀ K:LA→O R,UN N K (Aq l) l.length o (H:Int) d.length bs.length ls.length us.length ss.length (Aq d) (bs.flatMap BusD.av) (ls.flatMap LineD.av) (us.flatMap UnitD.av) (ss.flatMap StoreD.av) (k:Int) ts.length (ts.flatMap TieD.av)=K c.av:=by
 obtain⟨y,j,y0,y1,e,m⟩:=nx (R:=R) (N:=N) (t:=false) (o:=o) f 4 (by omega) (by omega) k i
 obtain⟨n,hn⟩:∃ n:Nat,y=(n:Int):=⟨y.toNat,by omega⟩
 subst hn
 obtain⟨os,a1,a2,a3⟩:=Apz (R:=R) (o:=o) hN f b n N j [] (by omega) e (by simp;omega) ⟨by simp,by simp⟩ (.inl rfl)
 refine⟨_,⟨H,d,bs,ls,us,ss,ts,os,b,a1,a2,rfl⟩,fun K=>?_⟩
 unfold UN eE
 rw[m]
 simpa using a3 K
theorem A23 {N:Nat} {l:List Int} {o:Bool} (hN:4096≤N) (j:l.length≤9223372036854775807) {H:Nat} {n:List Int} {bs:List BusD} {ls:List LineD} {us:List UnitD} {ss:List StoreD} (b:BaseG H n bs ls us ss []) (k:Nat) (V:k≤l.length) :
  ∃ c,eH c∧∀ K:LA→O R,HZ N K (bs.length:Int) (Aq l) l.length o (H:Int) n.length bs.length ls.length us.length (Aq n) (bs.flatMap BusD.av) (ls.flatMap LineD.av) (us.flatMap UnitD.av) (k:Int) ss.length (ss.flatMap StoreD.av)=K c.av:=by
 have hb:=b.bl;have hH:=b.h
 obtain⟨y50,u,y500,y501,f,i⟩:=nx (R:=R) (N:=N) (t:=false) (o:=o) j 3 (by omega) (by omega) k V
 by_cases T:y50=2
 ·have z:(y50==2)=true:=by simpa using T
  obtain⟨y52,A,y520,y521,v,y⟩:=nx (R:=R) (N:=N) (t:=false) (o:=o) j (bs.length:Int) (by omega) (by omega) u f
  obtain⟨B1,X,d,C,D,hB1⟩:=HY (R:=R) (N:=N) (m:=H) (t:=false) (o:=o) (by omega) j 12 (by omega) (by omega) (by omega) A v
  obtain⟨B2,Y,q,F,G,hB2⟩:=HY (R:=R) (N:=N) (m:=H) (t:=false) (o:=o) (by omega) j 12 (by omega) (by omega) (by omega) X D
  obtain⟨B3,k3,s,I,L,hB3⟩:=HY (R:=R) (N:=N) (m:=H) (t:=false) (o:=o) (by omega) j 40 (by omega) (by omega) (by omega) Y G
  obtain⟨c,M,S⟩:=A22 (R:=R) (o:=o) hN j (ts:=[⟨[116,48],y52,.of B1 false false,.of B2 false false,.of B3 false false⟩]) ⟨b.h,b.rl,b.rr,b.bl,b.bg,b.ll,b.lg,b.ul,b.ug,b.sl,b.sg,by simp,by
   intro x U;simp at U;subst U
   exact⟨rfl,⟨y520,y521⟩,d,C,q,F,s,I⟩⟩ k3 L
  refine⟨c,M,fun K=>?_⟩
  unfold HZ LB
  rw[i,z,ct,y,hB1,hB2,hB3,P6 d.symm,P6 q.symm,P6 s.symm,←S K,←d]
  simp only[d]
  have e:List.flatMap TieD.av [⟨[116,48],y52,.of B1 false false,.of B2 false false,.of B3 false false⟩]=[(.str ([116,48]:List UInt8)),(.int .i64 y52),(.imm (B1.flatMap IS) H 1 false false),(.imm (B2.flatMap IS) H 1 false false),(.imm (B3.flatMap IS) H 1 false false)]:=by
   simp[TieD.av,Sl.av,d,q,s]
  rw[e];rfl
 ·have z:(y50==2)=false:=by simpa using T
  obtain⟨c,M,S⟩:=A22 (R:=R) (o:=o) hN j b u f
  refine⟨c,M,fun K=>?_⟩
  unfold HZ LB
  rw[i,z,cf,←S K];rfl
theorem A24 {N:Nat} {l:List Int} {o:Bool} (hN:4096≤N) (b:l.length≤9223372036854775807) {H:Nat} {d:List Int} {bs:List BusD} {ls:List LineD} (h:1≤H∧H≤3) (rl:d.length=H) (rr:∀ x ∈ d,0≤x∧x<5) (bl:1≤bs.length∧bs.length≤4) (bg:∀ i (h:i<bs.length),BusG i H bs[i]) (ll:ls.length≤7) (lg:∀ i (h:i<ls.length),LineH bs.length i H ls[i]) :
  ∀ (n fuel k:Nat) (us:List UnitD),n<fuel→k≤l.length→us.length+n≤3→1≤us.length+n→(∀ i (h:i<us.length),UnitG i bs.length H us[i]) →
  ∃ c,eH c∧∀ K:LA→O R,P4 N K (bs.length:Int) (Aq l) l.length o (H:Int) d.length bs.length (Aq d) (bs.flatMap BusD.av) fuel (n:Int) (k:Int) ls.length us.length (ls.flatMap LineD.av) (us.flatMap UnitD.av)=K c.av
 | 0,fuel+1,k,us,_,U,hn,V,ug=>by
  obtain⟨y34,j,y340,y341,e,f⟩:=nx (R:=R) (N:=N) (t:=false) (o:=o) b 3 (by omega) (by omega) k U
  by_cases h2:y34=2
  ·have X:(y34==2)=true:=by simpa using h2
   obtain⟨y36,Y,y360,y361,m,q⟩:=nx (R:=R) (N:=N) (t:=false) (o:=o) b (bs.length:Int) (by omega) (by omega) j e
   obtain⟨y38,k38,y380,y381,s,v⟩:=nx (R:=R) (N:=N) (t:=false) (o:=o) b 20 (by omega) (by omega) Y m
   obtain⟨y40,k40,y400,y401,y,z⟩:=nx (R:=R) (N:=N) (t:=false) (o:=o) b 8 (by omega) (by omega) k38 s
   obtain⟨y42,k42,y420,y421,A,C⟩:=nx (R:=R) (N:=N) (t:=false) (o:=o) b 8 (by omega) (by omega) k40 y
   obtain⟨y44,k44,y440,y441,D,F⟩:=nx (R:=R) (N:=N) (t:=false) (o:=o) b 4 (by omega) (by omega) k42 A
   obtain⟨y46,k46,y460,y461,G,I⟩:=nx (R:=R) (N:=N) (t:=false) (o:=o) b (y38+1) (by omega) (by omega) k44 D
   obtain⟨y48,k48,y480,y481,L,M⟩:=nx (R:=R) (N:=N) (t:=false) (o:=o) b (y38+1) (by omega) (by omega) k46 G
   obtain⟨c,S,T⟩:=A23 (R:=R) (o:=o) hN b (us:=us) (ss:=[⟨[115,48],y36,y38,y46,y48,y40,y42,⟨1+y44,4⟩⟩]) ⟨h,rl,rr,bl,bg,ll,lg,⟨by omega,by omega⟩,ug,by simp,by
    intro x hx;simp at hx;subst hx
    exact⟨rfl,⟨y360,y361⟩,⟨y380,y381⟩,⟨y460,by simp only;omega⟩,⟨y480,by simp only;omega⟩,⟨y400,y401⟩,⟨y420,y421⟩,by simp only;omega,by simp only;omega,rfl⟩,by simp,by simp⟩ k48 L
   refine⟨c,S,fun K=>?_⟩
   rw[P4];unfold BG
   rw[show decide (((0:Nat):Int)>0)=false from rfl,cf,f,X,ct,q,v,z,C,F,Rk (a:=y38+1) (by omega),I,M,Rk (a:=1+y44) (by omega),←T K]
   rfl
  ·have X:(y34==2)=false:=by simpa using h2
   obtain⟨c,S,T⟩:=A23 (R:=R) (o:=o) hN b (us:=us) (ss:=[]) ⟨h,rl,rr,bl,bg,ll,lg,⟨by omega,by omega⟩,ug,by simp,by simp,by simp,by simp⟩ j e
   refine⟨c,S,fun K=>?_⟩
   rw[P4];unfold BG
   rw[show decide (((0:Nat):Int)>0)=false from rfl,cf,f,X,cf,←T K]
   rfl
 | n+1,fuel+1,k,us,hf,U,hn,V,ug=>by
  obtain⟨u,k1,gu,hk1,hu⟩:=A4y (R:=R) (N:=N) (t:=false) (o:=o) (by omega) b (i:=us.length) (by omega) (nb:=(bs.length:Int)) (H:=(H:Int)) (by omega) (by omega) k U
  obtain⟨c,S,T⟩:=A24 (o:=o) hN b h rl rr bl bg ll lg n fuel k1 (us++[u]) (by omega) hk1 (by simp;omega) (by simp;omega) (eG (P:=fun i u=>UnitG i bs.length H u) ug gu)
  refine⟨c,S,fun K=>?_⟩
  rw[P4];unfold BG
  have wn:IntKind.wrap .i64 (((n+1:Nat):Int) - 1)=(n:Int):=pR (by omega)
  have c2:(Nat.ble (us.length+1) 140737488355328&&Nat.ble ((us.length+1)*216) 140737488355328)=true:=by rw[Bs,Bs];simp;omega
  have c3:List.take (us.length*22) (us.flatMap UnitD.av)++u.av=(us++[u]).flatMap UnitD.av:=by rw[Ck Cg _ rfl];simp
  rw[show decide (((n+1:Nat):Int)>0)=true from decide_eq_true (by omega),ct,hu,show((Nat.beq (List.length u.av) 22)&&(Nat.ble 22 22))=true from rfl,ct,c2,ct,wn,←T K,←c3,List.length_append]
  rfl
theorem A8y {N:Nat} {l:List Int} {o:Bool} (hN:4096≤N) (s:l.length≤9223372036854775807) {H:Nat} {b:List Int} {bs:List BusD} (h:1≤H∧H≤3) (rl:b.length=H) (rr:∀ x ∈ b,0≤x∧x<5) (bl:1≤bs.length∧bs.length≤4) (bg:∀ i (h:i<bs.length),BusG i H bs[i]) :
  ∀ (n fuel k:Nat) (ls:List LineD),n<fuel→k≤l.length→ls.length+n≤7→(∀ i (h:i<ls.length),LineH bs.length i H ls[i]) →
  ∃ c,eH c∧∀ K:LA→O R,P5 N K (bs.length:Int) (Aq l) l.length o (H:Int) b.length bs.length (Aq b) (bs.flatMap BusD.av) fuel (n:Int) (k:Int) ls.length (ls.flatMap LineD.av)=K c.av:=by
 have fin:∀ (k:Nat) (ls:List LineD),k≤l.length→ls.length≤7→(∀ i (h:i<ls.length),LineH bs.length i H ls[i])→∃ c,eH c∧∀ K:LA→O R,(Ac N (3:Int) (Aq l) l.length false o (k:Int) (fun y22 y23=>(P4 N K (bs.length:Int) (Aq l) l.length o (H:Int) b.length bs.length (Aq b) (bs.flatMap BusD.av) N (IntKind.wrap .i64 ((1:Int)+y22)) y23 ls.length 0 (ls.flatMap LineD.av) [])))=K c.av:=by
  intro k ls q ll lg
  obtain⟨y,C,y0,y1,d,I⟩:=nx (R:=R) (N:=N) (t:=false) (o:=o) s 3 (by omega) (by omega) k q
  obtain⟨n,hn⟩:∃ n:Nat,1+y=(n:Int):=⟨(1+y).toNat,by omega⟩
  obtain⟨c,j,m⟩:=A24 (R:=R) (o:=o) hN s h rl rr bl bg ll lg n N C [] (by omega) d (by simp;omega) (by simp;omega) (by simp)
  refine⟨c,j,fun K=>?_⟩
  rw[I,Rk (a:=1+y) (by omega),hn]
  simpa using m K
 intro n
 induction n with
 | zero =>
  intro fuel k ls L q hn lg
  obtain⟨c,j,m⟩:=fin k ls q (by omega) lg
  refine⟨c,j,fun K=>?_⟩
  obtain⟨fuel,rfl⟩:∃ f,fuel=f+1:=⟨fuel - 1,by omega⟩
  rw[P5];unfold BH
  rw[show decide (((0:Nat):Int)>0)=false from rfl,←m K]
  rfl
 | succ n M =>
  intro fuel k ls L q hn lg
  obtain⟨fuel,rfl⟩:∃ f,fuel=f+1:=⟨fuel - 1,by omega⟩
  by_cases S:bs.length=1
  ·obtain⟨c,j,m⟩:=fin k ls q (by omega) lg
   refine⟨c,j,fun K=>?_⟩
   rw[P5];unfold BH
   rw[show decide (((n+1:Nat):Int)>0)=true from decide_eq_true (by omega),show decide ((bs.length:Int)>1)=false from decide_eq_false (by omega),←m K]
   rfl
  ·obtain⟨y26,D,y260,y261,u,v⟩:=nx (R:=R) (N:=N) (t:=false) (o:=o) s (bs.length:Int) (by omega) (by omega) k q
   obtain⟨y28,F,y280,y281,z,A⟩:=nx (R:=R) (N:=N) (t:=false) (o:=o) s ((bs.length:Int) - 1) (by omega) (by omega) D u
   have tm:∃ tx:Int,Int.tmod (y26+1+y28) (bs.length:Int)=tx∧0≤tx∧tx<(bs.length:Int)∧y26≠tx:=by
    refine⟨_,rfl,Int.tmod_nonneg _ (by omega),Int.tmod_lt_of_pos _ (by omega),?_⟩
    by_cases G:y26+1+y28<(bs.length:Int)
    ·rw[Int.tmod_eq_of_lt (by omega) G];omega
    ·have:Int.tmod (y26+1+y28) (bs.length:Int)=y26+1+y28 - (bs.length:Int):=by
      have e:y26+1+y28=(y26+1+y28 - (bs.length:Int))+1*(bs.length:Int):=by omega
      rw[Int.tmod_eq_emod_of_nonneg (by omega)]
      conv=>lhs;rw[e]
      rw[Int.add_mul_emod_self_right,Int.emod_eq_of_lt (by omega) (by omega)]
     rw[this];omega
   obtain⟨tx,T,t0,t1,tne⟩:=tm
   obtain⟨x,C,gx,d,U⟩:=Alq (R:=R) (N:=N) (t:=false) (o:=o) s (i:=ls.length) (by omega) y26 tx (H:=(H:Int)) (by omega) F z
   obtain⟨c,j,m⟩:=M fuel C (ls++[x]) (by omega) d (by simp;omega) (eG (P:=fun i x=>LineH bs.length i H x) lg ⟨by rw[gx.fr,gx.tx];exact gx,by rw[gx.fr];exact⟨y260,y261⟩,by rw[gx.tx];exact⟨t0,t1⟩,by rw[gx.fr,gx.tx];exact tne⟩)
   refine⟨c,j,fun K=>?_⟩
   rw[P5];unfold BH UL
   have wn:IntKind.wrap .i64 (((n+1:Nat):Int) - 1)=(n:Int):=pR (by omega)
   have V:(Nat.ble (ls.length+1) 140737488355328&&Nat.ble ((ls.length+1)*120) 140737488355328)=true:=by rw[Bs,Bs];simp;omega
   have X:List.take (ls.length*12) (ls.flatMap LineD.av)++x.av=(ls++[x]).flatMap LineD.av:=by rw[Ck Ce _ rfl];simp
   rw[show decide (((n+1:Nat):Int)>0)=true from decide_eq_true (by omega),show decide ((bs.length:Int)>1)=true from decide_eq_true (by omega)]
   simp only[beq_self_eq_true,cond_true]
   rw[v,Rk (a:=(bs.length:Int) - 1) (by omega),A,show((bs.length:Int)==0)=false from beq_eq_false_iff_ne.2 (by omega),cf,Rk (a:=y26+1) (by omega),Rk (a:=y26+1+y28) (by omega),T,U,show((Nat.beq (List.length x.av) 12)&&(Nat.ble 12 12))=true from rfl,ct,V,ct,wn,←m K,←X,List.length_append]
   rfl
theorem A25 {N:Nat} {l:List Int} {o:Bool} (hN:4096≤N) (e:l.length≤9223372036854775807) {H:Nat} {b:List Int} {bs:List BusD} (h:1≤H∧H≤3) (rl:b.length=H) (rr:∀ x ∈ b,0≤x∧x<5) (bl:1≤bs.length∧bs.length≤4) (bg:∀ i (h:i<bs.length),BusG i H bs[i]) :
  ∀ (m j fuel k:Nat) (ls:List LineD),j+1+m=bs.length→m<fuel→k≤l.length→ls.length=j→(∀ i (h:i<ls.length),LineH bs.length i H ls[i]) →
  ∃ c,eH c∧∀ K:LA→O R,X8 N K (Aq l) l.length o (H:Int) b.length bs.length (Aq b) (bs.flatMap BusD.av) fuel (bs.length:Int) ((j+1:Nat):Int) (k:Int) ls.length (ls.flatMap LineD.av)=K c.av
 | 0,j,fuel+1,k,ls,C,_,q,f,lg=>by
  obtain⟨y,s,y0,y1,d,u⟩:=nx (R:=R) (N:=N) (t:=false) (o:=o) e 5 (by omega) (by omega) k q
  obtain⟨n,hn⟩:∃ n:Nat,y=(n:Int):=⟨y.toNat,by omega⟩
  subst hn
  obtain⟨c,v,z⟩:=A8y (R:=R) (o:=o) hN e h rl rr bl bg n N s ls (by omega) d (by omega) lg
  refine⟨c,v,fun K=>?_⟩
  rw[X8];unfold LC
  rw[Jf (by omega),cf,u];exact z K
 | m+1,j,fuel+1,k,ls,C,L,q,f,lg=>by
  obtain⟨y,s,y0,y1,d,u⟩:=nx (R:=R) (N:=N) (t:=false) (o:=o) e ((j+1:Nat):Int) (by omega) (by omega) k q
  obtain⟨x,D,gx,A,F⟩:=Alq (R:=R) (N:=N) (t:=false) (o:=o) e (i:=ls.length) (by omega) y ((j+1:Nat):Int) (H:=(H:Int)) (by omega) s d
  obtain⟨c,v,z⟩:=A25 (o:=o) hN e h rl rr bl bg m (j+1) fuel D (ls++[x]) (by omega) (by omega) A (by simp[f]) (eG (P:=fun i x=>LineH bs.length i H x) lg ⟨by rw[gx.fr,gx.tx];exact gx,by rw[gx.fr];omega,by rw[gx.tx];omega,by rw[gx.fr,gx.tx];omega⟩)
  refine⟨c,v,fun K=>?_⟩
  rw[X8];unfold LC
  have G:(Nat.ble (ls.length+1) 140737488355328&&Nat.ble ((ls.length+1)*120) 140737488355328)=true:=by rw[Bs,Bs];simp;omega
  have I:List.take (ls.length*12) (ls.flatMap LineD.av)++x.av=(ls++[x]).flatMap LineD.av:=by rw[Ck Ce _ rfl];simp
  rw[Hy (by omega),ct,u,F,show((Nat.beq (List.length x.av) 12)&&(Nat.ble 12 12))=true from rfl,ct,G,ct,Bo (by omega),←z K,←I,List.length_append]
  rfl
theorem A26 {N:Nat} {l:List Int} {o:Bool} (hN:4096≤N) (q:l.length≤9223372036854775807) {H:Nat} {b:List Int} (h:1≤H∧H≤3) (rl:b.length=H) (rr:∀ x ∈ b,0≤x∧x<5) :
  ∀ (n fuel k:Nat) (bs:List BusD),n<fuel→k≤l.length→bs.length+n≤4→1≤bs.length+n→(∀ i (h:i<bs.length),BusG i H bs[i]) →
  ∃ c,eH c∧∀ K:LA→O R,Nj N K (Aq l) l.length o b.length (Aq b) fuel (n:Int) (k:Int) (H:Int) bs.length (bs.flatMap BusD.av)=K c.av
 | 0,fuel+1,k,bs,_,A,hn,C,bg=>by
  obtain⟨c,f,j⟩:=A25 (R:=R) (o:=o) hN q h rl rr ⟨by omega,by omega⟩ bg (bs.length - 1) 0 N k [] (by omega) (by omega) A rfl (by simp)
  refine⟨c,f,fun K=>?_⟩
  rw[Nj];unfold BI
  rw[show decide (((0:Nat):Int)>0)=false from rfl,cf,←j K]
  rfl
 | n+1,fuel+1,k,bs,V,A,hn,C,bg=>by
  obtain⟨B,M,z,S,D,hB⟩:=HY (R:=R) (N:=N) (m:=H) (t:=false) (o:=o) (by omega) q 14 (by omega) (by omega) (by omega) k A
  obtain⟨y12,u,y120,y121,d,e⟩:=nx (R:=R) (N:=N) (t:=false) (o:=o) q 2 (by omega) (by omega) M D
  have wn:IntKind.wrap .i64 (((n+1:Nat):Int) - 1)=(n:Int):=pR (by omega)
  have I:(Nat.ble (bs.length+1) 140737488355328&&Nat.ble ((bs.length+1)*48) 140737488355328)=true:=by rw[Bs,Bs];simp;omega
  have T:∀ s:Int,List.take (bs.length*3) (bs.flatMap BusD.av)++[(.str [98,Bb7.getD bs.length 0]),(.imm (B.flatMap IS) H 1 false false),(.int .i64 s)]=(bs++[(⟨[98,Bb7.getD bs.length 0],.of B false false,s⟩:BusD)]).flatMap BusD.av:=fun s=>by
   rw[Ck Kb _ rfl];simp[BusD.av,Sl.av,z]
  have go:∀ (s:Int) (kk:Nat),0≤s→s<300→kk≤l.length→∃ c,eH c∧∀ K:LA→O R,Nj N K (Aq l) l.length o b.length (Aq b) fuel (n:Int) (kk:Int) (H:Int) (bs.length+1) (List.take (bs.length*3) (bs.flatMap BusD.av)++[(.str [98,Bb7.getD bs.length 0]),(.imm (B.flatMap IS) H 1 false false),(.int .i64 s)])=K c.av:=by
   intro s kk U s1 F
   have gb:BusG bs.length H (⟨[98,Bb7.getD bs.length 0],.of B false false,s⟩:BusD):=⟨rfl,z,S,U,s1⟩
   obtain⟨c,f,j⟩:=A26 (o:=o) hN q h rl rr n fuel kk (bs++[(⟨[98,Bb7.getD bs.length 0],.of B false false,s⟩:BusD)]) (by omega) F (by simp;omega) (by simp;omega) (eG (P:=fun i x=>BusG i H x) bg gb)
   refine⟨c,f,fun K=>?_⟩
   rw[T,←j K,List.length_append]
   rfl
  by_cases L:y12=1
  ·have e1:(y12==1)=true:=by simpa using L
   obtain⟨y14,G,y140,y141,v,y⟩:=nx (R:=R) (N:=N) (t:=false) (o:=o) q 200 (by omega) (by omega) u d
   obtain⟨c,f,j⟩:=go (100+y14) G (by omega) (by omega) v
   refine⟨c,f,fun K=>?_⟩
   rw[Nj];unfold BI
   rw[show decide (((n+1:Nat):Int)>0)=true from decide_eq_true (by omega),ct,Uu (by omega),hB,e,e1,ct,y,I,ct,wn,Rk (a:=100+y14) (by omega),P6 z.symm,j]
  ·have e1:(y12==1)=false:=by simpa using L
   obtain⟨c,f,j⟩:=go 0 u (by omega) (by omega) d
   refine⟨c,f,fun K=>?_⟩
   rw[Nj];unfold BI
   rw[show decide (((n+1:Nat):Int)>0)=true from decide_eq_true (by omega),ct,Uu (by omega),hB,e,e1,cf,I,ct,wn,P6 z.symm,j]
theorem pn {N:Nat} {l:List Int} {n:Nat} {t o:Bool} (hn:n=l.length) (hN:4096≤N) (b:l.length≤9223372036854775807):∃ c,eH c∧∀ K:LA→O R,UO N (Aq l) n t o K=K c.av:=by
 subst hn
 obtain⟨y1,q,y10,y11,d,e⟩:=nx (R:=R) (N:=N) (t:=false) (o:=o) b 3 (by omega) (by omega) 0 (by omega)
 obtain⟨H,hH⟩:∃ H:Nat,1+y1=(H:Int):=⟨(1+y1).toNat,by omega⟩
 obtain⟨B,s,k,u,f,hB⟩:=HY (R:=R) (N:=N) (m:=H) (t:=false) (o:=o) (by omega) b 5 (by omega) (by omega) (by omega) q d
 obtain⟨y6,v,y60,y61,i,j⟩:=nx (R:=R) (N:=N) (t:=false) (o:=o) b 4 (by omega) (by omega) s f
 obtain⟨m,x⟩:∃ m:Nat,1+y6=(m:Int):=⟨(1+y6).toNat,by omega⟩
 obtain⟨c,y,A⟩:=A26 (R:=R) (o:=o) hN b (H:=H) (by omega) k u m N v [] (by omega) i (by simp;omega) (by simp;omega) (by simp)
 refine⟨c,y,fun K=>?_⟩
 rw[wI];unfold pc
 rw[mU];unfold zD
 have z:Ac N 3 (Aq l) l.length false o 0=Ac (R:=R) N 3 (Aq l) l.length false o ((0:Nat):Int):=rfl
 rw[z,e,Rk (a:=1+y1) (by omega),hH,hB,j,Rk (a:=1+y6) (by omega),x,←A K,k]
 rfl
end
end Gx.Cf

namespace Gx.Cf
open Go Go.Proofs
section
variable {R:Type}
def Dd (c:CaseD) (p:Df) (k i:Int):LA:=c.av++OR p k i
theorem Nm {N:Nat} {c:CaseD} {p:Df} {k i d j:Int} {w:Bool} {K:Bool→LA→O R} :
  YU N d j w (Dd c p k i) K=K w (Dd c p d j):=by
 rw[Alw];unfold A0n
 rcases p with _ | ⟨⟨a,b,f⟩,e,l⟩
 ·simp[Dd,CaseD.av,OR,A6,C4,Bs,IT]
 ·have:(e==0)=false:=by simpa using l
  simp[Dd,CaseD.av,OR,A6,this]
theorem As {N:Nat} {c:CaseD} {p:Df} {k i f e:Int} {ok w:Bool} {K:Bool→LA→O R} (j:e≠0) :
  A5 N ok f e w (Dd c p k i) K=K w (Dd c (nd p ok (k,i,f) ⟨e,j⟩) k i):=by
 rw[wK];unfold Aed
 rcases p with _ | ⟨⟨a,b,m⟩,l,d⟩
 ·cases ok<;>simp[Dd,CaseD.av,OR,A6,nd,Bs,IT]
 ·have:(l==0)=false:=by simpa using d
  simp[Dd,CaseD.av,OR,A6,nd,this]
theorem Fh {N:Nat} {c:CaseD} {p:Df} {k i f n lo hi:Int} {w:Bool} {K:Bool→LA→O R} :
  Bc N f n lo hi w (Dd c p k i) K=K w (Dd c (nd p (Fm lo hi n) (k,i,f) ⟨3,by decide⟩) k i):=by
 rw[jx];unfold md
 rw[As (by decide),As (by decide)]
 unfold Fm
 cases h:decide (n≥lo) with
 | true=>simp at h;simp[h]
 | false=>simp at h;simp[show ¬ lo≤n by omega]
end
end Gx.Cf

namespace Gx
open Go Go.Proofs
open IntKind (wrap)
set_option maxRecDepth 100000
noncomputable section
variable {R:Type} (N:Nat)
def NG (N:Nat) (d:Int) (c:Bool) (b:LA) (r0:List UInt8→O R):O R :=
 (Br 3 (b.drop 2) fun e f=>(cond (Ae d f) (Ts (e.drop ((d.toNat)*3)) fun g=>(r0 g)) none))
def V8:=(Ag (@NG R)).1
theorem QO:@V8 R=@NG R:=(Ag _).2
def YW (c:Bool) (b:LA) (F:KF R):List UInt8→O R:=(fun i=>F (.str i) [(100000,(bN 0 [(.optr 100001 0)])),(100001,(bP c 0 b))])
theorem YX (d:Int) (c:Bool) (b:LA) (F:KF R):Cw [] Cr N 238 [(iv d),(.optr 100000 0)] [(100000,(bN 0 [(.optr 100001 0)])),(100001,(bP c 0 b))] F=(V8 N d c b (YW c b F)):=by
 rw[QO]
 kernel_rfl
def QP (a:LA) (h:Aj) (k:KF R):O R :=
 match a,h with
 | [(.int .i64 d),(.optr 100000 0)],[(100000,⟨false,false,false,false,0,[(.optr 100001 0)],false,none⟩),(100001,⟨false,false,true,c,0,b,false,none⟩)]=>(V8 N d c b (YW c b k))
 | _,_=>none
theorem YY:An N 238 @QP:=by
 intro R Q a h k j;unfold QP;split;exact A2 (YX ..) (YX ..) trivial;exact A4
def y9:=A3 (YY N)
def y_:=Cz (YY N)
def BL (r0:Bool→LA→O R) (b:List UInt8) (f:Int) (k0:Int→Bool→LA→O R) (e:Int) (d:Bool) (c:LA):O R :=
 (cond (decide (e<f)) (Ap .i64 (c.drop 11) fun m=>(cond (m != 0) (r0 d c) (V8 N e d c (fun o=>(A5 N (!(o==b)) 0 10 d c (fun p q=>(k0 (wrap .i64 (e+1)) p q))))))) (r0 d c))
def P7 (r0:Bool→LA→O R) (b:List UInt8) (f:Int):Nat→Int→Bool→LA→O R
 | 0,_,_,_=>none
 | n+1,e,d,c=>(BL N r0 b f (P7 r0 b f n) e d c)
def po (r0:Bool→LA→O R) (q0:Int→Int→Bool→LA→O R) (b:List UInt8) (g:Bool) (i:LA):O R :=
 (V7 N b (fun r=>(A5 N r 0 9 g i (fun s l=>(Ap .i64 (l.drop 9) fun f=>(q0 f 0 s l))))))
def gp:=(Ag (fun (N:Nat) (b:List UInt8) (g:Bool) (i:LA) (r0:Bool→LA→O R)=>(po N r0 (fun f e d c=>(P7 N r0 b f N e d c)) b g i))).1
theorem wV (b g i r0):(@gp R N b g i r0)=(po N r0 (fun f e d c=>(P7 N r0 b f N e d c)) b g i):=by rw[gp,(Ag _).2]
def Alz:F2:=[(284,Ya N),(236,Di N),(238,y9 N)]
def A0t (F:KF R):=Ju Tryz.f237 WG (Alz N) [100000,100001] N F
def H' (F:KF R):Bool→LA→O R:=(fun t u=>F (.tup []) [(100000,(bP t 0 u)),(100001,(bN 0 [(.optr 100000 0)]))])
def A0u (b:List UInt8) (f e:Int) (d:Bool) (c:LA):St:=⟨[(0,(.optr 100000 0)),(1,(.str b)),(2,(.fn 238 [(.optr 100001 0)])),(15,(iv f)),(16,(iv e))],[(100000,(bP d 0 c)),(100001,(bN 0 [(.optr 100000 0)]))]⟩
def A0v (F:KF R):=A0t N F [1,1,0] []
theorem kD (F:KF R) (b:List UInt8) (f:Int):∀ (n:Nat) (e:Int) (d:Bool) (c:LA),Ak (A0v N F) n (A0u b f e d c)=(P7 N (H' F) b f n e d c)
 | 0,_,_,_=>by kernel_rfl
 | n+1,e,d,c=>Eq.trans (by kernel_rfl) (Bt (BL N (H' F) b f · e d c) (funext fun e=>funext fun d=>funext fun c=>(kD F b f n e d c)):_)
theorem Aen (b:List UInt8) (g:Bool) (i:LA) (F:KF R):Cw (Alz N) WG N 237 [(.optr 100000 0),(.str b),(.fn 238 [(.optr 100001 0)])] [(100000,(bP g 0 i)),(100001,(bN 0 [(.optr 100000 0)]))] F=(gp N b g i (H' F)):=by
 rw[wV]
 exact Eq.trans (by kernel_rfl) (Bt (po N (H' F) · b g i) (funext fun f=>funext fun e=>funext fun d=>funext fun c=>(Ad ..).trans (kD N F b f N e d c)):_)
def wW (a:LA) (h:Aj) (k:KF R):O R :=
 match a,h with
 | [(.optr 100000 0),(.str b),(.fn 238 [(.optr 100001 0)])],[(100000,⟨false,false,true,g,0,i,false,none⟩),(100001,⟨false,false,false,false,0,[(.optr 100000 0)],false,none⟩)]=>(gp N b g i (H' k))
 | _,_=>none
theorem Aeo:An N 237 @wW:=by
 intro R Q a h k j;unfold wW;split;exact A2 (Aen ..) (Aen ..) ⟨Yb N,Dj N,y_ N,trivial⟩;exact A4
def A0w:=A3 (Aeo N)
def A0x:=Cz (Aeo N)
def EM (r0:Bool→LA→O R) (d:LA) (e:Nat) (b:Bool) (k0:Int→Int→Bool→LA→O R) (f c:Int) (g:Bool) (i:LA):O R :=
 (cond (decide (c<f)) (cond (Ae c e) (cond (Nat.ble 3 ((d.drop ((c.toNat)*3)).length)) (cond ((Nat.beq 0 0)&&((Nat.beq (((d.drop ((c.toNat)*3)).take 3).length) 3)&&(Nat.beq 3 3))) (YU N 1 c g i (fun m o=>(Ts ((d.drop ((c.toNat)*3)).take 3) fun p=>(gp N p m o (fun q r=>(Br 1 (((d.drop ((c.toNat)*3)).take 3).drop 1) fun s t=>(Oh N 1 s t false b 0 1048576 q r (fun u v=>(Ap .i64 (((d.drop ((c.toNat)*3)).take 3).drop 2) fun w=>(Bc N 2 w 0 1048576 u v (fun x y=>(k0 f (wrap .i64 (c+1)) x y)))))))))))) none) none) none) (r0 g i))
def P8 (r0:Bool→LA→O R) (d:LA) (e:Nat) (b:Bool):Nat→Int→Int→Bool→LA→O R
 | 0,_,_,_,_=>none
 | n+1,f,c,g,i=>(EM N r0 d e b (P8 r0 d e b n) f c g i)
def gq (N:Nat) (r0:Bool→LA→O R) (q0:LA→Nat→Int→Int→Bool→LA→O R) (b:Bool) (l:LA):O R :=
 (Br 3 (l.drop 2) fun d e=>(q0 d e ((e:Nat):Int) 0 b l))
def IA:=(Ag (fun (N:Nat) (b:Bool) (l:LA) (r0:Bool→LA→O R)=>(gq N r0 (fun d e f c g i=>(P8 N r0 d e b N f c g i)) b l))).1
theorem pp (b l r0):(@IA R N b l r0)=(gq N r0 (fun d e f c g i=>(P8 N r0 d e b N f c g i)) b l):=by rw[IA,(Ag _).2]
def wX:Hints:={ H:=(hS hL (hS hL (hS (hP [1,8,9,10] hL) hL))) }
def Aep:F2:=[(233,BJ N),(237,A0w N),(235,UQ N),(234,Hq N)]
def Avd (F:KF R):=Ju Tryz.f172 wX (Aep N) [100000] N F
def BM (F:KF R):Bool→LA→O R:=(fun z aa=>F (.tup []) [(100000,(bP z 0 aa))])
def Ave (d:LA) (e:Nat) (b:Bool) (f c:Int) (g:Bool) (i:LA):St:=⟨[(1,(op 0)),(8,(.imm d e 3 false b)),(9,(iv f)),(10,(iv c))],[(100000,(bP g 0 i)),(300000,(bN 0 [(.optr 100000 0)]))]⟩
def Avf (F:KF R):=Avd N F [1,1,0] []
theorem eI (F:KF R) (d:LA) (e:Nat) (b:Bool):∀ (n:Nat) (f c:Int) (g:Bool) (i:LA),Ak (Avf N F) n (Ave d e b f c g i)=(P8 N (BM F) d e b n f c g i)
 | 0,_,_,_,_=>by kernel_rfl
 | n+1,f,c,g,i=>Eq.trans (by kernel_rfl) (Bt (EM N (BM F) d e b · f c g i) (funext fun f=>funext fun c=>funext fun g=>funext fun i=>(eI F d e b n f c g i)):_)
theorem wY (b:Bool) (l:LA) (F:KF R):Cw (Aep N) wX N 172 [(.optr 100000 0)] [(100000,(bP b 0 l))] F=(IA N b l (BM F)):=by
 rw[pp]
 exact Eq.trans (by kernel_rfl) (Bt (gq N (BM F) · b l) (funext fun d=>funext fun e=>funext fun f=>funext fun c=>funext fun g=>funext fun i=>(Ad ..).trans (eI N F d e b N f c g i)):_)
def pq (a:LA) (h:Aj) (k:KF R):O R :=
 match a,h with
 | [(.optr 100000 0)],[(100000,⟨false,false,true,b,0,l,false,none⟩)]=>(IA N b l (BM k))
 | _,_=>none
theorem wZ:An N 172 @pq:=by
 intro R Q a h k j;unfold pq;split;exact A2 (wY ..) (wY ..) ⟨BK N,A0x N,UR N,Hr N,trivial⟩;exact A4
def Avg:=A3 (wZ N)
def Avh:=Cz (wZ N)
def NH (N:Nat) (d:Int) (c:Bool) (b:LA) (r0:List UInt8→O R):O R :=
 (Br 12 (b.drop 3) fun e f=>(cond (Ae d f) (Ts (e.drop ((d.toNat)*12)) fun g=>(r0 g)) none))
def V9:=(Ag (@NH R)).1
theorem QQ:@V9 R=@NH R:=(Ag _).2
def YZ (c:Bool) (b:LA) (F:KF R):List UInt8→O R:=(fun i=>F (.str i) [(100000,(bN 0 [(.optr 100001 0)])),(100001,(bP c 0 b))])
theorem Y_ (d:Int) (c:Bool) (b:LA) (F:KF R):Cw [] Cr N 239 [(iv d),(.optr 100000 0)] [(100000,(bN 0 [(.optr 100001 0)])),(100001,(bP c 0 b))] F=(V9 N d c b (YZ c b F)):=by
 rw[QQ]
 kernel_rfl
def QR (a:LA) (h:Aj) (k:KF R):O R :=
 match a,h with
 | [(.int .i64 d),(.optr 100000 0)],[(100000,⟨false,false,false,false,0,[(.optr 100001 0)],false,none⟩),(100001,⟨false,false,true,c,0,b,false,none⟩)]=>(V9 N d c b (YZ c b k))
 | _,_=>none
theorem Y':An N 239 @QR:=by
 intro R Q a h k j;unfold QR;split;exact A2 (Y_ ..) (Y_ ..) trivial;exact A4
def ya:=A3 (Y' N)
def yb:=Cz (Y' N)
def P9 (r0:Bool→LA→O R) (b:List UInt8) (f:Int) (k0:Int→Bool→LA→O R) (e:Int) (d:Bool) (c:LA):O R :=
 (cond (decide (e<f)) (Ap .i64 (c.drop 11) fun m=>(cond (m != 0) (r0 d c) (V9 N e d c (fun o=>(A5 N (!(o==b)) 0 10 d c (fun p q=>(k0 (wrap .i64 (e+1)) p q))))))) (r0 d c))
def H1 (r0:Bool→LA→O R) (b:List UInt8) (f:Int):Nat→Int→Bool→LA→O R
 | 0,_,_,_=>none
 | n+1,e,d,c=>(P9 N r0 b f (H1 r0 b f n) e d c)
def LG (r0:Bool→LA→O R) (q0:Int→Int→Bool→LA→O R) (b:List UInt8) (g:Bool) (i:LA):O R :=
 (V7 N b (fun r=>(A5 N r 0 9 g i (fun s l=>(Ap .i64 (l.drop 9) fun f=>(q0 f 0 s l))))))
def Yc:=(Ag (fun (N:Nat) (b:List UInt8) (g:Bool) (i:LA) (r0:Bool→LA→O R)=>(LG N r0 (fun f e d c=>(H1 N r0 b f N e d c)) b g i))).1
theorem eJ (b g i r0):(@Yc R N b g i r0)=(LG N r0 (fun f e d c=>(H1 N r0 b f N e d c)) b g i):=by rw[Yc,(Ag _).2]
def pt:F2:=[(284,Ya N),(236,Di N),(239,ya N)]
def Ah5 (F:KF R):=Ju Tryz.f237 WG (pt N) [100000,100001] N F
def Sm (F:KF R):Bool→LA→O R:=(fun t u=>F (.tup []) [(100000,(bP t 0 u)),(100001,(bN 0 [(.optr 100000 0)]))])
def Ah6 (b:List UInt8) (f e:Int) (d:Bool) (c:LA):St:=⟨[(0,(.optr 100000 0)),(1,(.str b)),(2,(.fn 239 [(.optr 100001 0)])),(15,(iv f)),(16,(iv e))],[(100000,(bP d 0 c)),(100001,(bN 0 [(.optr 100000 0)]))]⟩
def Ah7 (F:KF R):=Ah5 N F [1,1,0] []
theorem QS (F:KF R) (b:List UInt8) (f:Int):∀ (n:Nat) (e:Int) (d:Bool) (c:LA),Ak (Ah7 N F) n (Ah6 b f e d c)=(H1 N (Sm F) b f n e d c)
 | 0,_,_,_=>by kernel_rfl
 | n+1,e,d,c=>Eq.trans (by kernel_rfl) (Bt (P9 N (Sm F) b f · e d c) (funext fun e=>funext fun d=>funext fun c=>(QS F b f n e d c)):_)
theorem kE (b:List UInt8) (g:Bool) (i:LA) (F:KF R):Cw (pt N) WG N 237 [(.optr 100000 0),(.str b),(.fn 239 [(.optr 100001 0)])] [(100000,(bP g 0 i)),(100001,(bN 0 [(.optr 100000 0)]))] F=(Yc N b g i (Sm F)):=by
 rw[eJ]
 exact Eq.trans (by kernel_rfl) (Bt (LG N (Sm F) · b g i) (funext fun f=>funext fun e=>funext fun d=>funext fun c=>(Ad ..).trans (QS N F b f N e d c)):_)
def eK (a:LA) (h:Aj) (k:KF R):O R :=
 match a,h with
 | [(.optr 100000 0),(.str b),(.fn 239 [(.optr 100001 0)])],[(100000,⟨false,false,true,g,0,i,false,none⟩),(100001,⟨false,false,false,false,0,[(.optr 100000 0)],false,none⟩)]=>(Yc N b g i (Sm k))
 | _,_=>none
theorem kF:An N 237 @eK:=by
 intro R Q a h k j;unfold eK;split;exact A2 (kE ..) (kE ..) ⟨Yb N,Dj N,yb N,trivial⟩;exact A4
def Ah8:=A3 (kF N)
def Ah9:=Cz (kF N)
def Ap0 (c d:Int) (e:Bool) (b:LA) (r0:Bool→LA→O R):O R :=
 (cond ((decide (d≥0))==true) (Br 3 (b.drop 2) fun p f=>(A5 N (cond true (decide (d<((f:Nat):Int))) false) c 12 e b (fun g i=>(r0 g i)))) (A5 N false c 12 e b (fun l m=>(r0 l m))))
def UT:=(Ag (@Ap0 R)).1
theorem Aeq:@UT R=@Ap0 R:=(Ag _).2
def A7e:F2:=[(236,Di N)]
def Al0 (F:KF R):Bool→LA→O R:=(fun n o=>F (.tup []) [(100000,(bP n 0 o))])
theorem Al1 (c d:Int) (e:Bool) (b:LA) (F:KF R):Cw (A7e N) Cr N 240 [(.optr 100000 0),(iv c),(iv d)] [(100000,(bP e 0 b))] F=(UT N c d e b (Al0 F)):=by
 rw[Aeq]
 kernel_rfl
def Aer (a:LA) (h:Aj) (k:KF R):O R :=
 match a,h with
 | [(.optr 100000 0),(.int .i64 c),(.int .i64 d)],[(100000,⟨false,false,true,e,0,b,false,none⟩)]=>(UT N c d e b (Al0 k))
 | _,_=>none
theorem Al2:An N 240 @Aer:=by
 intro R Q a h k j;unfold Aer;split;exact A2 (Al1 ..) (Al1 ..) ⟨Dj N,trivial⟩;exact A4
def gr:=A3 (Al2 N)
def gt:=Cz (Al2 N)
def tT (N:Nat) (b:LA) (c:Bool) (r0:Bool→O R):O R :=
 (Ap .i64 (b.drop 1) fun d=>(cond ((decide (d≥1))==true) (Ap .i64 (b.drop 1) fun e=>(cond ((cond true (decide (e≤1048576)) false)==true) (Ap .i64 b fun f=>(cond ((cond true (decide (f≥(-1048576))) false)==true) (Ap .i64 b fun g=>(r0 (cond true (decide (g≤1048576)) false))) (r0 false))) (r0 false))) (r0 false)))
def BN:=(Ag (@tT R)).1
theorem pu:@BN R=@tT R:=(Ag _).2
def w8 (F:KF R):Bool→O R:=(fun i=>F (.bool i) [])
theorem w9 (b:LA) (c:Bool) (F:KF R):Cw [] Cr N 241 [(.pagg b c)] [] F=(BN N b c (w8 F)):=by
 rw[pu]
 kernel_rfl
def pv (a:LA) (h:Aj) (k:KF R):O R :=
 match a,h with
 | [(.pagg b c)],[]=>(BN N b c (w8 k))
 | _,_=>none
theorem w_:An N 241 @pv:=by
 intro R Q a h k j;unfold pv;split;exact A2 (w9 ..) (w9 ..) trivial;exact A4
def wa:=A3 (w_ N)
def wb:=Cz (w_ N)
def Ly (N:Nat) (r0:Bool→O R) (c:LA) (b:Nat) (d e:Bool) (k0:Int→O R) (f:Int):O R :=
 (cond (decide (f<((b:Nat):Int))) (cond (Ae f b) (Ap .i64 (c.drop ((f.toNat)*1)) fun g=>(cond (Ae (wrap .i64 (f - 1)) b) (Ap .i64 (c.drop (((wrap .i64 (f - 1)).toNat)*1)) fun i=>(cond (decide (g≤i)) (r0 false) (k0 (wrap .i64 (f+1))))) none)) none) (r0 true))
def Fu (r0:Bool→O R) (c:LA) (b:Nat) (d e:Bool):Nat→Int→O R
 | 0,_=>none
 | n+1,f=>(Ly N r0 c b d e (Fu r0 c b d e n) f)
def Zq (N:Nat) (r0:Bool→O R) (q0:Int→O R) (c:LA) (b:Nat) (d e:Bool):O R :=
 (q0 1)
def Kg:=(Ag (fun (N:Nat) (c:LA) (b:Nat) (d e:Bool) (r0:Bool→O R)=>(Zq N r0 (fun f=>(Fu N r0 c b d e N f)) c b d e))).1
theorem QT (c b d e r0):(@Kg R N c b d e r0)=(Zq N r0 (fun f=>(Fu N r0 c b d e N f)) c b d e):=by rw[Kg,(Ag _).2]
def yc (F:KF R):=Ju Tryz.f248 A2u [] [] N F
def N0 (F:KF R):Bool→O R:=(fun l=>F (.bool l) [])
def yd (c:LA) (b:Nat) (d e:Bool) (f:Int):St:=⟨[(0,(.imm c b 1 d e)),(3,(iv f))],[]⟩
def ye (F:KF R):=yc N F [1,0,1,0] []
theorem IB (F:KF R) (c:LA) (b:Nat) (d e:Bool):∀ (n:Nat) (f:Int),Ak (ye N F) n (yd c b d e f)=(Fu N (N0 F) c b d e n f)
 | 0,_=>by kernel_rfl
 | n+1,f=>Eq.trans (by kernel_rfl) (Bt (Ly N (N0 F) c b d e · f) (funext fun f=>(IB F c b d e n f)):_)
theorem ZA (c:LA) (b:Nat) (d e:Bool) (F:KF R):Cw [] A2u N 248 [(.imm c b 1 d e)] [] F=(Kg N c b d e (N0 F)):=by
 rw[QT]
 exact Eq.trans (by kernel_rfl) (Bt (Zq N (N0 F) · c b d e) (funext fun f=>(Ad ..).trans (IB N F c b d e N f)):_)
def QU (a:LA) (h:Aj) (k:KF R):O R :=
 match a,h with
 | [(.imm c b 1 d e)],[]=>(Kg N c b d e (N0 k))
 | _,_=>none
theorem ZB:An N 248 @QU:=by
 intro R Q a h k j;unfold QU;split;exact A2 (ZA ..) (ZA ..) trivial;exact A4
def CH:=A3 (ZB N)
def CI:=Cz (ZB N)
def LH (r0:Bool→LA→O R) (d:Int) (c:LA) (b:Nat) (f e g:Bool) (i:LA) (k0:Int→Int→Bool→LA→O R) (p m:Int) (o:Bool) (l:LA):O R :=
 (cond (decide (m<p)) (cond (Ae m b) (Ap .i64 (c.drop ((m.toNat)*1)) fun q=>(Ap .i64 (l.drop 11) fun r=>(cond (r != 0) (r0 o l) (Ap .i64 l fun s=>(Bc N d q 0 (wrap .i64 (s - 1)) o l (fun t u=>(k0 p (wrap .i64 (m+1)) t u))))))) none) (Kg N c b false e (fun v=>(A5 N v d 11 o l (fun w x=>(r0 w x))))))
def T4 (r0:Bool→LA→O R) (d:Int) (c:LA) (b:Nat) (f e g:Bool) (i:LA):Nat→Int→Int→Bool→LA→O R
 | 0,_,_,_,_=>none
 | n+1,p,m,o,l=>(LH N r0 d c b f e g i (T4 r0 d c b f e g i n) p m o l)
def pw (N:Nat) (r0:Bool→LA→O R) (q0:Int→Int→Bool→LA→O R) (d:Int) (c:LA) (b:Nat) (f e g:Bool) (i:LA):O R :=
 (q0 ((b:Nat):Int) 0 g i)
def UU:=(Ag (fun (N:Nat) (d:Int) (c:LA) (b:Nat) (f e g:Bool) (i:LA) (r0:Bool→LA→O R)=>(pw N r0 (fun p m o l=>(T4 N r0 d c b f e g i N p m o l)) d c b f e g i))).1
theorem wc (d c b f e g i r0):(@UU R N d c b f e g i r0)=(pw N r0 (fun p m o l=>(T4 N r0 d c b f e g i N p m o l)) d c b f e g i):=by rw[UU,(Ag _).2]
def Aes:Hints:={ H:=(hS (hS hL (hS (hP [0,1,2,8,9,10] hL) hL)) hL) }
def Al3:F2:=[(234,Hq N),(248,CH N),(236,Di N)]
def A0y (F:KF R):=Ju Tryz.f242 Aes (Al3 N) [100000] N F
def IC (F:KF R):Bool→LA→O R:=(fun y z=>F (.tup []) [(100000,(bP y 0 z))])
def A0z (d:Int) (c:LA) (b:Nat) (f e g:Bool) (i:LA) (p m:Int) (o:Bool) (l:LA):St:=⟨[(0,(.optr 100000 0)),(1,(iv d)),(2,(.imm c b 1 f e)),(8,(.imm c b 1 f e)),(9,(iv p)),(10,(iv m))],[(100000,(bP o 0 l))]⟩
def A00 (F:KF R):=A0y N F [0,1,0] []
theorem kG (F:KF R) (d:Int) (c:LA) (b:Nat) (f e g:Bool) (i:LA):∀ (n:Nat) (p m:Int) (o:Bool) (l:LA),Ak (A00 N F) n (A0z d c b f e g i p m o l)=(T4 N (IC F) d c b f e g i n p m o l)
 | 0,_,_,_,_=>by kernel_rfl
 | n+1,p,m,o,l=>Eq.trans (by kernel_rfl) (Bt (LH N (IC F) d c b f e g i · p m o l) (funext fun p=>funext fun m=>funext fun o=>funext fun l=>(kG F d c b f e g i n p m o l)):_)
theorem Aet (d:Int) (c:LA) (b:Nat) (f e g:Bool) (i:LA) (F:KF R):Cw (Al3 N) Aes N 242 [(.optr 100000 0),(iv d),(.imm c b 1 f e)] [(100000,(bP g 0 i))] F=(UU N d c b f e g i (IC F)):=by
 rw[wc]
 exact Eq.trans (by kernel_rfl) (Bt (pw N (IC F) · d c b f e g i) (funext fun p=>funext fun m=>funext fun o=>funext fun l=>(Ad ..).trans (kG N F d c b f e g i N p m o l)):_)
def wd (a:LA) (h:Aj) (k:KF R):O R :=
 match a,h with
 | [(.optr 100000 0),(.int .i64 d),(.imm c b 1 f e)],[(100000,⟨false,false,true,g,0,i,false,none⟩)]=>(UU N d c b f e g i (IC k))
 | _,_=>none
theorem Aeu:An N 242 @wd:=by
 intro R Q a h k j;unfold wd;split;exact A2 (Aet ..) (Aet ..) ⟨Hr N,CI N,Dj N,trivial⟩;exact A4
def Aev:=A3 (Aeu N)
def Aew:=Cz (Aeu N)
def eL (k0:Int→Int→Bool→LA→O R) (r0:Bool→LA→O R) (c:LA) (f:Nat) (b:Bool) (d:Int) (g e:LA) (u:Int) (v:Bool) (w:LA):O R :=
 (Ap .i64 (g.drop 9) fun z=>(Bc N 6 z 0 1048576 v w (fun aa ab=>(Ap .i64 (g.drop 10) fun ac=>(Ap .i64 (g.drop 9) fun ad=>(Bc N 7 ac ad 1048576 aa ab (fun ae af=>(Br 1 (g.drop 11) fun ag ah=>(UU N 8 ag ah false b ae af (fun ai aj=>(k0 d (wrap .i64 (u+1)) ai aj)))))))))))
def UV (k0:Int→Int→Bool→LA→O R) (r0:Bool→LA→O R) (c:LA) (f:Nat) (b:Bool) (d:Int) (g e:LA) (q3:Int→Bool→LA→O R) (r:Int) (s:Bool) (t:LA):O R :=
 (cond (Nat.ble 2 ((g.drop 7).length)) (cond ((!b)||(Az ((g.drop 7).take 2))) (BN N ((g.drop 7).take 2) false (fun ak=>(cond (ak==true) (Ap .i64 (g.drop 7) fun al=>(A5 N (cond true (decide (al≥0)) false) 5 3 s t (fun am an=>(q3 r am an)))) (A5 N false 5 3 s t (fun ao ap=>(q3 r ao ap)))))) none) none)
def eM (k0:Int→Int→Bool→LA→O R) (r0:Bool→LA→O R) (c:LA) (f:Nat) (b:Bool) (d:Int) (g e:LA) (r:Int) (s:Bool) (t:LA):O R:=(UV N k0 r0 c f b d g e (fun u v w=>(eL N k0 r0 c f b d g e u v w)) r s t)
def UW (k0:Int→Int→Bool→LA→O R) (r0:Bool→LA→O R) (c:LA) (f:Nat) (b:Bool) (d:Int) (e:LA) (q2:Int→Bool→LA→O R) (o:Int) (p:Bool) (q g:LA):O R :=
 (cond (Nat.ble 2 ((g.drop 5).length)) (cond ((!b)||(Az ((g.drop 5).take 2))) (BN N ((g.drop 5).take 2) false (fun aq=>(cond (aq==true) (Ap .i64 (g.drop 5) fun ar=>(A5 N (cond true (decide (ar≤0)) false) 4 3 p q (fun au av=>(q2 o au av)))) (A5 N false 4 3 p q (fun aw ax=>(q2 o aw ax)))))) none) none)
def LI (k0:Int→Int→Bool→LA→O R) (r0:Bool→LA→O R) (c:LA) (f:Nat) (b:Bool) (d:Int) (e:LA) (o:Int) (p:Bool) (q g:LA):O R:=(UW N k0 r0 c f b d e (fun r s t=>(eM N k0 r0 c f b d g e r s t)) o p q g)
def EN (r0:Bool→LA→O R) (c:LA) (f:Nat) (b:Bool) (e:LA) (k0:Int→Int→Bool→LA→O R) (q1:Int→Bool→LA→LA→O R) (d i:Int) (l:Bool) (m:LA):O R :=
 (cond (decide (i<d)) (cond (Ae i f) (cond (Nat.ble 12 ((c.drop ((i.toNat)*12)).length)) (cond ((Nat.beq 0 0)&&((Nat.beq (((c.drop ((i.toNat)*12)).take 12).length) 12)&&(Nat.beq 12 12))) (YU N 2 i l m (fun ay az=>(Ts ((c.drop ((i.toNat)*12)).take 12) fun ba=>(Yc N ba ay az (fun bb bc=>(Ap .i64 (((c.drop ((i.toNat)*12)).take 12).drop 1) fun bd=>(UT N 1 bd bb bc (fun be bf=>(Ap .i64 (((c.drop ((i.toNat)*12)).take 12).drop 2) fun bg=>(UT N 2 bg be bf (fun bh bi=>(Ap .i64 (((c.drop ((i.toNat)*12)).take 12).drop 2) fun bj=>(Ap .i64 (((c.drop ((i.toNat)*12)).take 12).drop 1) fun bk=>(A5 N (bj != bk) 2 1 bh bi (fun x y=>(cond (Nat.ble 2 ((((c.drop ((i.toNat)*12)).take 12).drop 3).length)) (cond ((!b)||(Az ((((c.drop ((i.toNat)*12)).take 12).drop 3).take 2))) (BN N ((((c.drop ((i.toNat)*12)).take 12).drop 3).take 2) false (fun bl=>(cond (bl==true) (Ap .i64 (((c.drop ((i.toNat)*12)).take 12).drop 3) fun bm=>(A5 N (cond true (decide (bm>0)) false) 3 3 x y (fun bn bo=>(q1 i bn bo ((c.drop ((i.toNat)*12)).take 12))))) (A5 N false 3 3 x y (fun bp bq=>(q1 i bp bq ((c.drop ((i.toNat)*12)).take 12))))))) none) none)))))))))))))))) none) none) none) (r0 l m))
def Mj (r0:Bool→LA→O R) (c:LA) (f:Nat) (b:Bool) (e:LA):Nat→Int→Int→Bool→LA→O R
 | 0,_,_,_,_=>none
 | n+1,d,i,l,m=>(EN N r0 c f b e (Mj r0 c f b e n) (fun o p q g=>(LI N (Mj r0 c f b e n) r0 c f b d e o p q g)) d i l m)
def gv (N:Nat) (r0:Bool→LA→O R) (q0:LA→Nat→Int→Int→Bool→LA→O R) (b:Bool) (e:LA):O R :=
 (Br 12 (e.drop 3) fun c f=>(q0 c f ((f:Nat):Int) 0 b e))
def ID:=(Ag (fun (N:Nat) (b:Bool) (e:LA) (r0:Bool→LA→O R)=>(gv N r0 (fun c f d i l m=>(Mj N r0 c f b e N d i l m)) b e))).1
theorem pz (b e r0):(@ID R N b e r0)=(gv N r0 (fun c f d i l m=>(Mj N r0 c f b e N d i l m)) b e):=by rw[ID,(Ag _).2]
def wg:Hints:={ H:=(hS hL (hS hL (hS (hP [1,8,9,10] (hS hL (hS hL (hS (hS (hS hL (hS hL (hS hL (hS hL (hS hL (hS hL (hJ [1,3,8,9,10] hL (hJ [1,3,8,9,10] hL (hJ [1,3,8,9,10] hL hL))))))))) hL) hL)))) hL))) }
def Aex:F2:=[(233,BJ N),(237,Ah8 N),(240,gr N),(236,Di N),(241,wa N),(234,Hq N),(242,Aev N)]
def LJ (F:KF R):=Ju Tryz.f173 wg (Aex N) [100000] N F
def Gu (F:KF R):Bool→LA→O R:=(fun br bs=>F (.tup []) [(100000,(bP br 0 bs))])
def Avi (c:LA) (f:Nat) (b:Bool) (d:Int) (g e:LA) (u:Int) (v:Bool) (w:LA):St:=⟨[(1,(op 0)),(3,(op 1)),(8,(.imm c f 12 false b)),(9,(iv d)),(10,(iv u))],[(100000,(bP v 0 w)),(300000,(bN 0 [(.optr 100000 0)])),(300001,(bP b 0 g))]⟩
def Avj (F:KF R) (Q0:St→O R):=LJ N F [1,1,0,0,1,1,0,0,1,1,1,1,1,1,1,1,1] [Q0]
def Avk (c:LA) (f:Nat) (b:Bool) (d:Int) (g e:LA) (r:Int) (s:Bool) (t:LA):St:=⟨[(1,(op 0)),(3,(op 1)),(8,(.imm c f 12 false b)),(9,(iv d)),(10,(iv r))],[(100000,(bP s 0 t)),(300000,(bN 0 [(.optr 100000 0)])),(300001,(bP b 0 g))]⟩
def Avl (F:KF R) (Q0:St→O R):=LJ N F [1,1,0,0,1,1,0,0,1,1,1,1,1,1,1,1] [Q0]
def Avm (c:LA) (f:Nat) (b:Bool) (d:Int) (e:LA) (o:Int) (p:Bool) (q g:LA):St:=⟨[(1,(op 0)),(3,(op 1)),(8,(.imm c f 12 false b)),(9,(iv d)),(10,(iv o))],[(100000,(bP p 0 q)),(300000,(bN 0 [(.optr 100000 0)])),(300001,(bP b 0 g))]⟩
def Avn (F:KF R) (Q0:St→O R):=LJ N F [1,1,0,0,1,1,0,0,1,1,1,1,1,1,1] [Q0]
def Uv (c:LA) (f:Nat) (b:Bool) (e:LA) (d i:Int) (l:Bool) (m:LA):St:=⟨[(1,(op 0)),(8,(.imm c f 12 false b)),(9,(iv d)),(10,(iv i))],[(100000,(bP l 0 m)),(300000,(bN 0 [(.optr 100000 0)]))]⟩
def wh (F:KF R):=LJ N F [1,1,0] []
theorem Aey (Q0:St→O R) (F:KF R) (c:LA) (f:Nat) (b:Bool) (d:Int) (g e:LA):∀ (u:Int) (v:Bool) (w:LA),B5 (Avj N F Q0) (Avi c f b d g e u v w)=(eL N (fun d i l m=>Q0 (Uv c f b e d i l m)) (Gu F) c f b d g e u v w):=by
 intro u v w
 kernel_rfl
theorem Aez (Q0:St→O R) (F:KF R) (c:LA) (f:Nat) (b:Bool) (d:Int) (g e:LA):∀ (r:Int) (s:Bool) (t:LA),B5 (Avl N F Q0) (Avk c f b d g e r s t)=(eM N (fun d i l m=>Q0 (Uv c f b e d i l m)) (Gu F) c f b d g e r s t):=by
 intro r s t
 exact Eq.trans (by kernel_rfl) (Bt (UV N (fun d i l m=>Q0 (Uv c f b e d i l m)) (Gu F) c f b d g e · r s t) (funext fun u=>funext fun v=>funext fun w=>(A1 ..).trans (Aey N Q0 F c f b d g e u v w)):_)
theorem Ae0 (Q0:St→O R) (F:KF R) (c:LA) (f:Nat) (b:Bool) (d:Int) (e:LA):∀ (o:Int) (p:Bool) (q g:LA),B5 (Avn N F Q0) (Avm c f b d e o p q g)=(LI N (fun d i l m=>Q0 (Uv c f b e d i l m)) (Gu F) c f b d e o p q g):=by
 intro o p q g
 exact Eq.trans (by kernel_rfl) (Bt (UW N (fun d i l m=>Q0 (Uv c f b e d i l m)) (Gu F) c f b d e · o p q g) (funext fun r=>funext fun s=>funext fun t=>(A1 ..).trans (Aez N Q0 F c f b d g e r s t)):_)
theorem eN (F:KF R) (c:LA) (f:Nat) (b:Bool) (e:LA):∀ (n:Nat) (d i:Int) (l:Bool) (m:LA),Ak (wh N F) n (Uv c f b e d i l m)=(Mj N (Gu F) c f b e n d i l m)
 | 0,_,_,_,_=>by kernel_rfl
 | n+1,d,i,l,m=>have e0:=(funext fun d=>funext fun i=>funext fun l=>funext fun m=>(eN F c f b e n d i l m))
  Eq.trans (by kernel_rfl) (OQ (EN N (Gu F) c f b e · · d i l m) e0 (funext fun o=>funext fun p=>funext fun q=>funext fun g=>(A1 ..).trans ((Ae0 N (Ak (wh N F) n) F c f b d e o p q g).trans (Bt (LI N · (Gu F) c f b d e o p q g) e0))):_)
theorem wi (b:Bool) (e:LA) (F:KF R):Cw (Aex N) wg N 173 [(.optr 100000 0)] [(100000,(bP b 0 e))] F=(ID N b e (Gu F)):=by
 rw[pz]
 exact Eq.trans (by kernel_rfl) (Bt (gv N (Gu F) · b e) (funext fun c=>funext fun f=>funext fun d=>funext fun i=>funext fun l=>funext fun m=>(Ad ..).trans (eN N F c f b e N d i l m)):_)
def qA (a:LA) (h:Aj) (k:KF R):O R :=
 match a,h with
 | [(.optr 100000 0)],[(100000,⟨false,false,true,b,0,e,false,none⟩)]=>(ID N b e (Gu k))
 | _,_=>none
theorem wj:An N 173 @qA:=by
 intro R Q a h k j;unfold qA;split;exact A2 (wi ..) (wi ..) ⟨BK N,Ah9 N,gt N,Dj N,wb N,Hr N,Aew N,trivial⟩;exact A4
def Avo:=A3 (wj N)
def Avp:=Cz (wj N)
def NI (N:Nat) (d:Int) (c:Bool) (b:LA) (r0:List UInt8→O R):O R :=
 (Br 22 (b.drop 4) fun e f=>(cond (Ae d f) (Ts (e.drop ((d.toNat)*22)) fun g=>(r0 g)) none))
def Wa:=(Ag (@NI R)).1
theorem QV:@Wa R=@NI R:=(Ag _).2
def ZC (c:Bool) (b:LA) (F:KF R):List UInt8→O R:=(fun i=>F (.str i) [(100000,(bN 0 [(.optr 100001 0)])),(100001,(bP c 0 b))])
theorem ZD (d:Int) (c:Bool) (b:LA) (F:KF R):Cw [] Cr N 243 [(iv d),(.optr 100000 0)] [(100000,(bN 0 [(.optr 100001 0)])),(100001,(bP c 0 b))] F=(Wa N d c b (ZC c b F)):=by
 rw[QV]
 kernel_rfl
def QW (a:LA) (h:Aj) (k:KF R):O R :=
 match a,h with
 | [(.int .i64 d),(.optr 100000 0)],[(100000,⟨false,false,false,false,0,[(.optr 100001 0)],false,none⟩),(100001,⟨false,false,true,c,0,b,false,none⟩)]=>(Wa N d c b (ZC c b k))
 | _,_=>none
theorem ZE:An N 243 @QW:=by
 intro R Q a h k j;unfold QW;split;exact A2 (ZD ..) (ZD ..) trivial;exact A4
def yf:=A3 (ZE N)
def yg:=Cz (ZE N)
def Qa (r0:Bool→LA→O R) (b:List UInt8) (f:Int) (k0:Int→Bool→LA→O R) (e:Int) (d:Bool) (c:LA):O R :=
 (cond (decide (e<f)) (Ap .i64 (c.drop 11) fun m=>(cond (m != 0) (r0 d c) (Wa N e d c (fun o=>(A5 N (!(o==b)) 0 10 d c (fun p q=>(k0 (wrap .i64 (e+1)) p q))))))) (r0 d c))
def H2 (r0:Bool→LA→O R) (b:List UInt8) (f:Int):Nat→Int→Bool→LA→O R
 | 0,_,_,_=>none
 | n+1,e,d,c=>(Qa N r0 b f (H2 r0 b f n) e d c)
def LK (r0:Bool→LA→O R) (q0:Int→Int→Bool→LA→O R) (b:List UInt8) (g:Bool) (i:LA):O R :=
 (V7 N b (fun r=>(A5 N r 0 9 g i (fun s l=>(Ap .i64 (l.drop 9) fun f=>(q0 f 0 s l))))))
def Yd:=(Ag (fun (N:Nat) (b:List UInt8) (g:Bool) (i:LA) (r0:Bool→LA→O R)=>(LK N r0 (fun f e d c=>(H2 N r0 b f N e d c)) b g i))).1
theorem eO (b g i r0):(@Yd R N b g i r0)=(LK N r0 (fun f e d c=>(H2 N r0 b f N e d c)) b g i):=by rw[Yd,(Ag _).2]
def qB:F2:=[(284,Ya N),(236,Di N),(243,yf N)]
def Aia (F:KF R):=Ju Tryz.f237 WG (qB N) [100000,100001] N F
def Sn (F:KF R):Bool→LA→O R:=(fun t u=>F (.tup []) [(100000,(bP t 0 u)),(100001,(bN 0 [(.optr 100000 0)]))])
def Aib (b:List UInt8) (f e:Int) (d:Bool) (c:LA):St:=⟨[(0,(.optr 100000 0)),(1,(.str b)),(2,(.fn 243 [(.optr 100001 0)])),(15,(iv f)),(16,(iv e))],[(100000,(bP d 0 c)),(100001,(bN 0 [(.optr 100000 0)]))]⟩
def Aic (F:KF R):=Aia N F [1,1,0] []
theorem QX (F:KF R) (b:List UInt8) (f:Int):∀ (n:Nat) (e:Int) (d:Bool) (c:LA),Ak (Aic N F) n (Aib b f e d c)=(H2 N (Sn F) b f n e d c)
 | 0,_,_,_=>by kernel_rfl
 | n+1,e,d,c=>Eq.trans (by kernel_rfl) (Bt (Qa N (Sn F) b f · e d c) (funext fun e=>funext fun d=>funext fun c=>(QX F b f n e d c)):_)
theorem kH (b:List UInt8) (g:Bool) (i:LA) (F:KF R):Cw (qB N) WG N 237 [(.optr 100000 0),(.str b),(.fn 243 [(.optr 100001 0)])] [(100000,(bP g 0 i)),(100001,(bN 0 [(.optr 100000 0)]))] F=(Yd N b g i (Sn F)):=by
 rw[eO]
 exact Eq.trans (by kernel_rfl) (Bt (LK N (Sn F) · b g i) (funext fun f=>funext fun e=>funext fun d=>funext fun c=>(Ad ..).trans (QX N F b f N e d c)):_)
def eP (a:LA) (h:Aj) (k:KF R):O R :=
 match a,h with
 | [(.optr 100000 0),(.str b),(.fn 243 [(.optr 100001 0)])],[(100000,⟨false,false,true,g,0,i,false,none⟩),(100001,⟨false,false,false,false,0,[(.optr 100000 0)],false,none⟩)]=>(Yd N b g i (Sn k))
 | _,_=>none
theorem kI:An N 237 @eP:=by
 intro R Q a h k j;unfold eP;split;exact A2 (kH ..) (kH ..) ⟨Yb N,Dj N,yg N,trivial⟩;exact A4
def Aid:=A3 (kI N)
def Aie:=Cz (kI N)
end
end Gx

namespace Gx
open Go Go.Proofs
open IntKind (wrap)
set_option maxRecDepth 100000
noncomputable section
variable {R:Type} (N:Nat)
def N1 (r0:Bool→LA→O R) (d:Int) (c:Bool) (b:LA) (k1:Int→Bool→LA→O R) (g:Int) (p:Bool) (q:LA):O R :=
 (Br 2 (b.drop 4) fun av v=>(cond (decide (g<((v:Nat):Int))) (Br 2 (b.drop 4) fun w x=>(cond (Ae g x) (Ap .i64 ((w.drop ((g.toNat)*2)).drop 1) fun y=>(Br 2 (b.drop 4) fun z aa=>(cond (Ae (wrap .i64 (g - 1)) aa) (Ap .i64 ((z.drop (((wrap .i64 (g - 1)).toNat)*2)).drop 1) fun ab=>(A5 N (decide (y≥ab)) 4 11 p q (fun ac ad=>(k1 (wrap .i64 (g+1)) ac ad)))) none))) none)) (Ap .i64 (b.drop 3) fun ae=>(Ap .i64 (b.drop 2) fun af=>(A5 N (d==(wrap .i64 (ae - af))) 4 4 p q (fun ag ah=>(r0 ag ah)))))))
def I5 (r0:Bool→LA→O R) (d:Int) (c:Bool) (b:LA):Nat→Int→Bool→LA→O R
 | 0,_,_,_=>none
 | n+1,g,p,q=>(N1 N r0 d c b (I5 r0 d c b n) g p q)
def Tn (r0:Bool→LA→O R) (f:LA) (i:Nat) (c:Bool) (b:LA) (k0:Int→Int→Int→Bool→LA→O R) (q1:Int→Bool→LA→O R) (d l e:Int) (m:Bool) (o:LA):O R :=
 (cond (decide (e<l)) (cond (Ae e i) (cond (Nat.ble 2 ((f.drop ((e.toNat)*2)).length)) (cond ((!c)||(Az ((f.drop ((e.toNat)*2)).take 2))) (cond ((Nat.beq (((f.drop ((e.toNat)*2)).take 2).length) 2)&&((Nat.ble 2 2)&&(!false))) (Ap .i64 (setCells [(.int .i64 0),(.int .i64 0)] 0 ((f.drop ((e.toNat)*2)).take 2)) fun ai=>(Bc N 4 ai 1 1048576 m o (fun aj ak=>(Ap .i64 ((setCells [(.int .i64 0),(.int .i64 0)] 0 ((f.drop ((e.toNat)*2)).take 2)).drop 1) fun al=>(Bc N 4 al (-1048576) 1048576 aj ak (fun am an=>(Ap .i64 (setCells [(.int .i64 0),(.int .i64 0)] 0 ((f.drop ((e.toNat)*2)).take 2)) fun ao=>(k0 (wrap .i64 (d+ao)) l (wrap .i64 (e+1)) am an)))))))) none) none) none) none) (q1 1 m o))
def I6 (r0:Bool→LA→O R) (f:LA) (i:Nat) (c:Bool) (b:LA):Nat→Int→Int→Int→Bool→LA→O R
 | 0,_,_,_,_,_=>none
 | n+1,d,l,e,m,o=>(Tn N r0 f i c b (I6 r0 f i c b n) (fun g p q=>(I5 N r0 d c b N g p q)) d l e m o)
def EO (r0:Bool→LA→O R) (q0:LA→Nat→Int→Int→Int→Bool→LA→O R) (b:LA) (c r:Bool) (s:LA):O R :=
 (Br 2 (b.drop 4) fun aw ap=>(A5 N (decide (((ap:Nat):Int)≤8)) 4 8 r s (fun u t=>(Ap .i64 (t.drop 11) fun aq=>(cond (aq != 0) (r0 u t) (Br 2 (b.drop 4) fun f i=>(q0 f i 0 ((i:Nat):Int) 0 u t)))))))
def Qb:=(Ag (fun (N:Nat) (b:LA) (c r:Bool) (s:LA) (r0:Bool→LA→O R)=>(EO N r0 (fun f i d l e m o=>(I6 N r0 f i c b N d l e m o)) b c r s))).1
theorem ZF (b c r s r0):(@Qb R N b c r s r0)=(EO N r0 (fun f i d l e m o=>(I6 N r0 f i c b N d l e m o)) b c r s):=by rw[Qb,(Ag _).2]
def eQ:Hints:={ H:=(hS hL (hS hL (hS hL (hS hL (hS (hS hL (hS (hP [0,3,4,20,21,22] hL) hL)) (hS (hS hL (hS (hP [0,3,4,7] hL) hL)) hL)))))) }
def kJ:F2:=[(236,Di N),(234,Hq N)]
def eR (F:KF R):=Ju Tryz.f244 eQ (kJ N) [100000] N F
def I7 (F:KF R):Bool→LA→O R:=(fun ar au=>F (.tup []) [(100000,(bP ar 0 au))])
def Ae1 (d:Int) (c:Bool) (b:LA) (g:Int) (p:Bool) (q:LA):St:=⟨[(0,(.optr 100000 0)),(3,(op 0)),(4,(iv d)),(7,(iv g))],[(100000,(bP p 0 q)),(300000,(bP c 0 b))]⟩
def Ae2 (F:KF R):=eR N F [1,1,1,1,1,0,1,0] []
def Ae3 (f:LA) (i:Nat) (c:Bool) (b:LA) (d l e:Int) (m:Bool) (o:LA):St:=⟨[(0,(.optr 100000 0)),(3,(op 0)),(4,(iv d)),(20,(.imm f i 2 false c)),(21,(iv l)),(22,(iv e))],[(100000,(bP m 0 o)),(300000,(bP c 0 b))]⟩
def Ae4 (F:KF R):=eR N F [1,1,1,1,0,1,0] []
theorem LL (F:KF R) (d:Int) (c:Bool) (b:LA):∀ (n:Nat) (g:Int) (p:Bool) (q:LA),Ak (Ae2 N F) n (Ae1 d c b g p q)=(I5 N (I7 F) d c b n g p q)
 | 0,_,_,_=>by kernel_rfl
 | n+1,g,p,q=>Eq.trans (by kernel_rfl) (Bt (N1 N (I7 F) d c b · g p q) (funext fun g=>funext fun p=>funext fun q=>(LL F d c b n g p q)):_)
theorem LM (F:KF R) (f:LA) (i:Nat) (c:Bool) (b:LA):∀ (n:Nat) (d l e:Int) (m:Bool) (o:LA),Ak (Ae4 N F) n (Ae3 f i c b d l e m o)=(I6 N (I7 F) f i c b n d l e m o)
 | 0,_,_,_,_,_=>by kernel_rfl
 | n+1,d,l,e,m,o=>Eq.trans (by kernel_rfl) (OQ (Tn N (I7 F) f i c b · · d l e m o) (funext fun d=>funext fun l=>funext fun e=>funext fun m=>funext fun o=>(LM F f i c b n d l e m o)) (funext fun g=>funext fun p=>funext fun q=>(Ad ..).trans (LL N F d c b N g p q)):_)
theorem eS (b:LA) (c r:Bool) (s:LA) (F:KF R):Cw (kJ N) eQ N 244 [(.optr 100000 0),(.pagg b c)] [(100000,(bP r 0 s))] F=(Qb N b c r s (I7 F)):=by
 rw[ZF]
 exact Eq.trans (by kernel_rfl) (Bt (EO N (I7 F) · b c r s) (funext fun f=>funext fun i=>funext fun d=>funext fun l=>funext fun e=>funext fun m=>funext fun o=>(Ad ..).trans (LM N F f i c b N d l e m o)):_)
def ZG (a:LA) (h:Aj) (k:KF R):O R :=
 match a,h with
 | [(.optr 100000 0),(.pagg b c)],[(100000,⟨false,false,true,r,0,s,false,none⟩)]=>(Qb N b c r s (I7 k))
 | _,_=>none
theorem eT:An N 244 @ZG:=by
 intro R Q a h k j;unfold ZG;split;exact A2 (eS ..) (eS ..) ⟨Dj N,Hr N,trivial⟩;exact A4
def Ae5:=A3 (eT N)
def Ae6:=Cz (eT N)
def eU (k0:Int→Int→Bool→LA→O R) (r0:Bool→LA→O R) (b:LA) (g:Nat) (c:Bool) (e:Int) (i f:LA) (u:Int) (v:Bool) (w:LA):O R :=
 (Ap .i64 (i.drop 19) fun ab=>(cond (ab==2) (Ap .i64 (i.drop 21) fun ac=>(Ap .i64 (i.drop 2) fun ad=>(Ap .i64 (i.drop 3) fun ae=>(Bc N 21 ac ad ae v w (fun af ag=>(k0 e (wrap .i64 (u+1)) af ag)))))) (Ap .i64 (i.drop 21) fun ah=>(Bc N 21 ah 0 0 v w (fun ai aj=>(k0 e (wrap .i64 (u+1)) ai aj))))))
def UX (k0:Int→Int→Bool→LA→O R) (r0:Bool→LA→O R) (b:LA) (g:Nat) (c:Bool) (e:Int) (i f:LA) (q3:Int→Bool→LA→O R) (r:Int) (s:Bool) (t:LA):O R :=
 (Ap .i64 (i.drop 20) fun ak=>(Bc N 20 ak 1 48 s t (fun z aa=>(Ap .i64 (i.drop 19) fun al=>(cond ((al != 1)==false) (Ap .i64 (i.drop 20) fun am=>(Ap .i64 (i.drop 12) fun an=>(A5 N (cond false true (decide (am≤an))) 20 3 z aa (fun ao ap=>(q3 r ao ap))))) (A5 N true 20 3 z aa (fun aq ar=>(q3 r aq ar))))))))
def eV (k0:Int→Int→Bool→LA→O R) (r0:Bool→LA→O R) (b:LA) (g:Nat) (c:Bool) (e:Int) (i f:LA) (r:Int) (s:Bool) (t:LA):O R:=(UX N k0 r0 b g c e i f (fun u v w=>(eU N k0 r0 b g c e i f u v w)) r s t)
def UY (k0:Int→Int→Bool→LA→O R) (r0:Bool→LA→O R) (b:LA) (g:Nat) (c:Bool) (e:Int) (f:LA) (q2:Int→Bool→LA→O R) (o:Int) (p:Bool) (q i:LA):O R :=
 (Ap .i64 (i.drop 19) fun au=>(cond ((au != 1)==false) (Ap .i64 (i.drop 12) fun av=>(A5 N (cond false true (av != 0)) 19 16 p q (fun aw ax=>(q2 o aw ax)))) (A5 N true 19 16 p q (fun ay az=>(q2 o ay az)))))
def LN (k0:Int→Int→Bool→LA→O R) (r0:Bool→LA→O R) (b:LA) (g:Nat) (c:Bool) (e:Int) (f:LA) (o:Int) (p:Bool) (q i:LA):O R:=(UY N k0 r0 b g c e f (fun r s t=>(eV N k0 r0 b g c e i f r s t)) o p q i)
def EP (r0:Bool→LA→O R) (b:LA) (g:Nat) (c:Bool) (f:LA) (k0:Int→Int→Bool→LA→O R) (q1:Int→Bool→LA→LA→O R) (e d:Int) (l:Bool) (m:LA):O R :=
 (cond (decide (d<e)) (cond (Ae d g) (cond (Nat.ble 22 ((b.drop ((d.toNat)*22)).length)) (cond ((Nat.beq 0 0)&&((Nat.beq (((b.drop ((d.toNat)*22)).take 22).length) 22)&&(Nat.beq 22 22))) (YU N 3 d l m (fun ba bb=>(Ts ((b.drop ((d.toNat)*22)).take 22) fun bc=>(Yd N bc ba bb (fun bd be=>(Ap .i64 (((b.drop ((d.toNat)*22)).take 22).drop 1) fun bf=>(UT N 1 bf bd be (fun bg bh=>(Ap .i64 (((b.drop ((d.toNat)*22)).take 22).drop 2) fun bi=>(Bc N 2 bi 0 1048576 bg bh (fun bj bk=>(Ap .i64 (((b.drop ((d.toNat)*22)).take 22).drop 3) fun bl=>(Ap .i64 (((b.drop ((d.toNat)*22)).take 22).drop 2) fun bm=>(Bc N 3 bl bm 1048576 bj bk (fun bn bo=>(cond (Nat.ble 22 (((b.drop ((d.toNat)*22)).take 22).length)) (Qb N (((b.drop ((d.toNat)*22)).take 22).take 22) c bn bo (fun bp bq=>(Ap .i64 (((b.drop ((d.toNat)*22)).take 22).drop 5) fun br=>(Bc N 5 br 0 1048576 bp bq (fun bs bt=>(Ap .i64 (((b.drop ((d.toNat)*22)).take 22).drop 6) fun bu=>(Bc N 6 bu 0 1048576 bs bt (fun bv bw=>(Ap .i64 (((b.drop ((d.toNat)*22)).take 22).drop 7) fun bx=>(Bc N 7 bx 0 1048576 bv bw (fun bz ca=>(Ap .i64 (((b.drop ((d.toNat)*22)).take 22).drop 8) fun cb=>(Ap .i64 (((b.drop ((d.toNat)*22)).take 22).drop 2) fun cc=>(Ap .i64 (((b.drop ((d.toNat)*22)).take 22).drop 3) fun cd=>(Bc N 8 cb cc cd bz ca (fun ce cf=>(Ap .i64 (((b.drop ((d.toNat)*22)).take 22).drop 9) fun cg=>(Ap .i64 (((b.drop ((d.toNat)*22)).take 22).drop 2) fun ch=>(Ap .i64 (((b.drop ((d.toNat)*22)).take 22).drop 3) fun ci=>(Bc N 9 cg ch ci ce cf (fun cj ck=>(Ap .i64 (((b.drop ((d.toNat)*22)).take 22).drop 10) fun cl=>(Bc N 10 cl 0 24 cj ck (fun cm cn=>(Ap .i64 (((b.drop ((d.toNat)*22)).take 22).drop 11) fun co=>(Bc N 11 co 0 24 cm cn (fun cp cq=>(Ap .i64 (((b.drop ((d.toNat)*22)).take 22).drop 12) fun cr=>(Bc N 12 cr 0 24 cp cq (fun cs ct=>(Ap .i64 (((b.drop ((d.toNat)*22)).take 22).drop 13) fun cu=>(Bc N 13 cu 0 1048576 cs ct (fun cv cw=>(Ap .i64 (((b.drop ((d.toNat)*22)).take 22).drop 14) fun cx=>(Bc N 14 cx 0 1048576 cv cw (fun cy cz=>(Ap .i64 (((b.drop ((d.toNat)*22)).take 22).drop 15) fun da=>(Bc N 15 da 0 24 cy cz (fun db dc=>(Ap .i64 (((b.drop ((d.toNat)*22)).take 22).drop 16) fun dd=>(Bc N 16 dd 0 1048576 db dc (fun de df=>(Ap .i64 (((b.drop ((d.toNat)*22)).take 22).drop 17) fun dg=>(Bc N 17 dg 0 1048576 de df (fun dh di=>(Br 1 (((b.drop ((d.toNat)*22)).take 22).drop 18) fun dj dk=>(UU N 18 dj dk false c dh di (fun x y=>(Ap .i64 (((b.drop ((d.toNat)*22)).take 22).drop 19) fun dl=>(cond ((dl==0)==false) (Ap .i64 (((b.drop ((d.toNat)*22)).take 22).drop 19) fun dm=>(cond ((cond false true (dm==1))==false) (Ap .i64 (((b.drop ((d.toNat)*22)).take 22).drop 19) fun dn=>(A5 N (cond false true (dn==2)) 19 12 x y (fun dp dq=>(q1 d dp dq ((b.drop ((d.toNat)*22)).take 22))))) (A5 N true 19 12 x y (fun dr ds=>(q1 d dr ds ((b.drop ((d.toNat)*22)).take 22)))))) (A5 N true 19 12 x y (fun dt du=>(q1 d dt du ((b.drop ((d.toNat)*22)).take 22)))))))))))))))))))))))))))))))))))))))))))))))))))))) none)))))))))))))))) none) none) none) (r0 l m))
def Mk (r0:Bool→LA→O R) (b:LA) (g:Nat) (c:Bool) (f:LA):Nat→Int→Int→Bool→LA→O R
 | 0,_,_,_,_=>none
 | n+1,e,d,l,m=>(EP N r0 b g c f (Mk r0 b g c f n) (fun o p q i=>(LN N (Mk r0 b g c f n) r0 b g c e f o p q i)) e d l m)
def gw (N:Nat) (r0:Bool→LA→O R) (q0:LA→Nat→Int→Int→Bool→LA→O R) (c:Bool) (f:LA):O R :=
 (Br 22 (f.drop 4) fun b g=>(q0 b g ((g:Nat):Int) 0 c f))
def IE:=(Ag (fun (N:Nat) (c:Bool) (f:LA) (r0:Bool→LA→O R)=>(gw N r0 (fun b g e d l m=>(Mk N r0 b g c f N e d l m)) c f))).1
theorem qC (c f r0):(@IE R N c f r0)=(gw N r0 (fun b g e d l m=>(Mk N r0 b g c f N e d l m)) c f):=by rw[IE,(Ag _).2]
def wk:Hints:={ H:=(hS hL (hS hL (hS (hP [1,8,9,10] (hS hL (hS hL (hS (hS (hS hL (hS hL (hS hL (hS hL (hS hL (hS hL (hS hL (hS hL (hS hL (hS hL (hS hL (hS hL (hS hL (hS hL (hS hL (hS hL (hS hL (hS hL (hS hL (hS hL (hS hL (hJ [1,3,8,9,10] hL (hJ [1,3,8,9,10] hL (hS hL (hJ [1,3,8,9,10] hL hL))))))))))))))))))))))))) hL) hL)))) hL))) }
def Ae7:F2:=[(233,BJ N),(237,Aid N),(240,gr N),(234,Hq N),(244,Ae5 N),(242,Aev N),(236,Di N)]
def LO (F:KF R):=Ju Tryz.f174 wk (Ae7 N) [100000] N F
def Gv (F:KF R):Bool→LA→O R:=(fun dv dw=>F (.tup []) [(100000,(bP dv 0 dw))])
def Avq (b:LA) (g:Nat) (c:Bool) (e:Int) (i f:LA) (u:Int) (v:Bool) (w:LA):St:=⟨[(1,(op 0)),(3,(op 1)),(8,(.imm b g 22 false c)),(9,(iv e)),(10,(iv u))],[(100000,(bP v 0 w)),(300000,(bN 0 [(.optr 100000 0)])),(300001,(bP c 0 i))]⟩
def Avr (F:KF R) (Q0:St→O R):=LO N F [1,1,0,0,1,1,0,0,1,1,1,1,1,1,1,1,1,1,1,1,1,1,1,1,1,1,1,1,1,1,1,1,1] [Q0]
def Avs (b:LA) (g:Nat) (c:Bool) (e:Int) (i f:LA) (r:Int) (s:Bool) (t:LA):St:=⟨[(1,(op 0)),(3,(op 1)),(8,(.imm b g 22 false c)),(9,(iv e)),(10,(iv r))],[(100000,(bP s 0 t)),(300000,(bN 0 [(.optr 100000 0)])),(300001,(bP c 0 i))]⟩
def Avt (F:KF R) (Q0:St→O R):=LO N F [1,1,0,0,1,1,0,0,1,1,1,1,1,1,1,1,1,1,1,1,1,1,1,1,1,1,1,1,1,1,1] [Q0]
def Avu (b:LA) (g:Nat) (c:Bool) (e:Int) (f:LA) (o:Int) (p:Bool) (q i:LA):St:=⟨[(1,(op 0)),(3,(op 1)),(8,(.imm b g 22 false c)),(9,(iv e)),(10,(iv o))],[(100000,(bP p 0 q)),(300000,(bN 0 [(.optr 100000 0)])),(300001,(bP c 0 i))]⟩
def Avv (F:KF R) (Q0:St→O R):=LO N F [1,1,0,0,1,1,0,0,1,1,1,1,1,1,1,1,1,1,1,1,1,1,1,1,1,1,1,1,1,1] [Q0]
def Uw (b:LA) (g:Nat) (c:Bool) (f:LA) (e d:Int) (l:Bool) (m:LA):St:=⟨[(1,(op 0)),(8,(.imm b g 22 false c)),(9,(iv e)),(10,(iv d))],[(100000,(bP l 0 m)),(300000,(bN 0 [(.optr 100000 0)]))]⟩
def wl (F:KF R):=LO N F [1,1,0] []
theorem Ae8 (Q0:St→O R) (F:KF R) (b:LA) (g:Nat) (c:Bool) (e:Int) (i f:LA):∀ (u:Int) (v:Bool) (w:LA),B5 (Avr N F Q0) (Avq b g c e i f u v w)=(eU N (fun e d l m=>Q0 (Uw b g c f e d l m)) (Gv F) b g c e i f u v w):=by
 intro u v w
 kernel_rfl
theorem Ae9 (Q0:St→O R) (F:KF R) (b:LA) (g:Nat) (c:Bool) (e:Int) (i f:LA):∀ (r:Int) (s:Bool) (t:LA),B5 (Avt N F Q0) (Avs b g c e i f r s t)=(eV N (fun e d l m=>Q0 (Uw b g c f e d l m)) (Gv F) b g c e i f r s t):=by
 intro r s t
 exact Eq.trans (by kernel_rfl) (Bt (UX N (fun e d l m=>Q0 (Uw b g c f e d l m)) (Gv F) b g c e i f · r s t) (funext fun u=>funext fun v=>funext fun w=>(A1 ..).trans (Ae8 N Q0 F b g c e i f u v w)):_)
theorem Afa (Q0:St→O R) (F:KF R) (b:LA) (g:Nat) (c:Bool) (e:Int) (f:LA):∀ (o:Int) (p:Bool) (q i:LA),B5 (Avv N F Q0) (Avu b g c e f o p q i)=(LN N (fun e d l m=>Q0 (Uw b g c f e d l m)) (Gv F) b g c e f o p q i):=by
 intro o p q i
 exact Eq.trans (by kernel_rfl) (Bt (UY N (fun e d l m=>Q0 (Uw b g c f e d l m)) (Gv F) b g c e f · o p q i) (funext fun r=>funext fun s=>funext fun t=>(A1 ..).trans (Ae9 N Q0 F b g c e i f r s t)):_)
theorem eW (F:KF R) (b:LA) (g:Nat) (c:Bool) (f:LA):∀ (n:Nat) (e d:Int) (l:Bool) (m:LA),Ak (wl N F) n (Uw b g c f e d l m)=(Mk N (Gv F) b g c f n e d l m)
 | 0,_,_,_,_=>by kernel_rfl
 | n+1,e,d,l,m=>have e0:=(funext fun e=>funext fun d=>funext fun l=>funext fun m=>(eW F b g c f n e d l m))
  Eq.trans (by kernel_rfl) (OQ (EP N (Gv F) b g c f · · e d l m) e0 (funext fun o=>funext fun p=>funext fun q=>funext fun i=>(A1 ..).trans ((Afa N (Ak (wl N F) n) F b g c e f o p q i).trans (Bt (LN N · (Gv F) b g c e f o p q i) e0))):_)
theorem wm (c:Bool) (f:LA) (F:KF R):Cw (Ae7 N) wk N 174 [(.optr 100000 0)] [(100000,(bP c 0 f))] F=(IE N c f (Gv F)):=by
 rw[qC]
 exact Eq.trans (by kernel_rfl) (Bt (gw N (Gv F) · c f) (funext fun b=>funext fun g=>funext fun e=>funext fun d=>funext fun l=>funext fun m=>(Ad ..).trans (eW N F b g c f N e d l m)):_)
def qD (a:LA) (h:Aj) (k:KF R):O R :=
 match a,h with
 | [(.optr 100000 0)],[(100000,⟨false,false,true,c,0,f,false,none⟩)]=>(IE N c f (Gv k))
 | _,_=>none
theorem wo:An N 174 @qD:=by
 intro R Q a h k j;unfold qD;split;exact A2 (wm ..) (wm ..) ⟨BK N,Aie N,gt N,Hr N,Ae6 N,Aew N,Dj N,trivial⟩;exact A4
def Avw:=A3 (wo N)
def Avx:=Cz (wo N)
def IF (N:Nat) (d:Int) (c:Bool) (b:LA) (r0:List UInt8→O R):O R :=
 (Br 9 (b.drop 5) fun e f=>(cond (Ae d f) (Ts (e.drop ((d.toNat)*9)) fun g=>(r0 g)) none))
def So:=(Ag (@IF R)).1
theorem LP:@So R=@IF R:=(Ag _).2
def QY (c:Bool) (b:LA) (F:KF R):List UInt8→O R:=(fun i=>F (.str i) [(100000,(bN 0 [(.optr 100001 0)])),(100001,(bP c 0 b))])
theorem QZ (d:Int) (c:Bool) (b:LA) (F:KF R):Cw [] Cr N 245 [(iv d),(.optr 100000 0)] [(100000,(bN 0 [(.optr 100001 0)])),(100001,(bP c 0 b))] F=(So N d c b (QY c b F)):=by
 rw[LP]
 kernel_rfl
def LQ (a:LA) (h:Aj) (k:KF R):O R :=
 match a,h with
 | [(.int .i64 d),(.optr 100000 0)],[(100000,⟨false,false,false,false,0,[(.optr 100001 0)],false,none⟩),(100001,⟨false,false,true,c,0,b,false,none⟩)]=>(So N d c b (QY c b k))
 | _,_=>none
theorem Q_:An N 245 @LQ:=by
 intro R Q a h k j;unfold LQ;split;exact A2 (QZ ..) (QZ ..) trivial;exact A4
def tU:=A3 (Q_ N)
def tV:=Cz (Q_ N)
def Qc (r0:Bool→LA→O R) (b:List UInt8) (f:Int) (k0:Int→Bool→LA→O R) (e:Int) (d:Bool) (c:LA):O R :=
 (cond (decide (e<f)) (Ap .i64 (c.drop 11) fun m=>(cond (m != 0) (r0 d c) (So N e d c (fun o=>(A5 N (!(o==b)) 0 10 d c (fun p q=>(k0 (wrap .i64 (e+1)) p q))))))) (r0 d c))
def H3 (r0:Bool→LA→O R) (b:List UInt8) (f:Int):Nat→Int→Bool→LA→O R
 | 0,_,_,_=>none
 | n+1,e,d,c=>(Qc N r0 b f (H3 r0 b f n) e d c)
def LR (r0:Bool→LA→O R) (q0:Int→Int→Bool→LA→O R) (b:List UInt8) (g:Bool) (i:LA):O R :=
 (V7 N b (fun r=>(A5 N r 0 9 g i (fun s l=>(Ap .i64 (l.drop 9) fun f=>(q0 f 0 s l))))))
def Ye:=(Ag (fun (N:Nat) (b:List UInt8) (g:Bool) (i:LA) (r0:Bool→LA→O R)=>(LR N r0 (fun f e d c=>(H3 N r0 b f N e d c)) b g i))).1
theorem eX (b g i r0):(@Ye R N b g i r0)=(LR N r0 (fun f e d c=>(H3 N r0 b f N e d c)) b g i):=by rw[Ye,(Ag _).2]
def qE:F2:=[(284,Ya N),(236,Di N),(245,tU N)]
def Aif (F:KF R):=Ju Tryz.f237 WG (qE N) [100000,100001] N F
def Sp (F:KF R):Bool→LA→O R:=(fun t u=>F (.tup []) [(100000,(bP t 0 u)),(100001,(bN 0 [(.optr 100000 0)]))])
def Aig (b:List UInt8) (f e:Int) (d:Bool) (c:LA):St:=⟨[(0,(.optr 100000 0)),(1,(.str b)),(2,(.fn 245 [(.optr 100001 0)])),(15,(iv f)),(16,(iv e))],[(100000,(bP d 0 c)),(100001,(bN 0 [(.optr 100000 0)]))]⟩
def Aih (F:KF R):=Aif N F [1,1,0] []
theorem Q' (F:KF R) (b:List UInt8) (f:Int):∀ (n:Nat) (e:Int) (d:Bool) (c:LA),Ak (Aih N F) n (Aig b f e d c)=(H3 N (Sp F) b f n e d c)
 | 0,_,_,_=>by kernel_rfl
 | n+1,e,d,c=>Eq.trans (by kernel_rfl) (Bt (Qc N (Sp F) b f · e d c) (funext fun e=>funext fun d=>funext fun c=>(Q' F b f n e d c)):_)
theorem kK (b:List UInt8) (g:Bool) (i:LA) (F:KF R):Cw (qE N) WG N 237 [(.optr 100000 0),(.str b),(.fn 245 [(.optr 100001 0)])] [(100000,(bP g 0 i)),(100001,(bN 0 [(.optr 100000 0)]))] F=(Ye N b g i (Sp F)):=by
 rw[eX]
 exact Eq.trans (by kernel_rfl) (Bt (LR N (Sp F) · b g i) (funext fun f=>funext fun e=>funext fun d=>funext fun c=>(Ad ..).trans (Q' N F b f N e d c)):_)
def eY (a:LA) (h:Aj) (k:KF R):O R :=
 match a,h with
 | [(.optr 100000 0),(.str b),(.fn 245 [(.optr 100001 0)])],[(100000,⟨false,false,true,g,0,i,false,none⟩),(100001,⟨false,false,false,false,0,[(.optr 100000 0)],false,none⟩)]=>(Ye N b g i (Sp k))
 | _,_=>none
theorem kL:An N 237 @eY:=by
 intro R Q a h k j;unfold eY;split;exact A2 (kK ..) (kK ..) ⟨Yb N,Dj N,tV N,trivial⟩;exact A4
def Aii:=A3 (kL N)
def Aij:=Cz (kL N)
def Zr (r0:Bool→LA→O R) (c:LA) (f:Nat) (d:Bool) (k0:Int→Int→Bool→LA→O R) (e b:Int) (g:Bool) (i:LA):O R :=
 (cond (decide (b<e)) (cond (Ae b f) (cond (Nat.ble 9 ((c.drop ((b.toNat)*9)).length)) (cond ((Nat.beq 0 0)&&((Nat.beq (((c.drop ((b.toNat)*9)).take 9).length) 9)&&(Nat.beq 9 9))) (YU N 4 b g i (fun p q=>(Ts ((c.drop ((b.toNat)*9)).take 9) fun r=>(Ye N r p q (fun s t=>(Ap .i64 (((c.drop ((b.toNat)*9)).take 9).drop 1) fun u=>(UT N 1 u s t (fun v w=>(Ap .i64 (((c.drop ((b.toNat)*9)).take 9).drop 2) fun x=>(Bc N 2 x 0 1048576 v w (fun y z=>(Ap .i64 (((c.drop ((b.toNat)*9)).take 9).drop 3) fun aa=>(Ap .i64 (((c.drop ((b.toNat)*9)).take 9).drop 2) fun ab=>(Bc N 3 aa 0 ab y z (fun ac ad=>(Ap .i64 (((c.drop ((b.toNat)*9)).take 9).drop 4) fun ae=>(Ap .i64 (((c.drop ((b.toNat)*9)).take 9).drop 2) fun af=>(Bc N 4 ae 0 af ac ad (fun ag ah=>(Ap .i64 (((c.drop ((b.toNat)*9)).take 9).drop 5) fun ai=>(Bc N 5 ai 0 1048576 ag ah (fun aj ak=>(Ap .i64 (((c.drop ((b.toNat)*9)).take 9).drop 6) fun al=>(Bc N 6 al 0 1048576 aj ak (fun m o=>(cond (Nat.ble 2 ((((c.drop ((b.toNat)*9)).take 9).drop 7).length)) (cond ((!d)||(Az ((((c.drop ((b.toNat)*9)).take 9).drop 7).take 2))) (cond ((Nat.beq (((((c.drop ((b.toNat)*9)).take 9).drop 7).take 2).length) 2)&&((Nat.ble 2 2)&&(!false))) (cond (Nat.ble 2 ((setCells [(.int .i64 0),(.int .i64 0)] 0 ((((c.drop ((b.toNat)*9)).take 9).drop 7).take 2)).length)) (BN N ((setCells [(.int .i64 0),(.int .i64 0)] 0 ((((c.drop ((b.toNat)*9)).take 9).drop 7).take 2)).take 2) false (fun am=>(cond (am==true) (Ap .i64 (setCells [(.int .i64 0),(.int .i64 0)] 0 ((((c.drop ((b.toNat)*9)).take 9).drop 7).take 2)) fun an=>(cond ((cond true (decide (an>0)) false)==true) (Ap .i64 (setCells [(.int .i64 0),(.int .i64 0)] 0 ((((c.drop ((b.toNat)*9)).take 9).drop 7).take 2)) fun ao=>(Ap .i64 ((setCells [(.int .i64 0),(.int .i64 0)] 0 ((((c.drop ((b.toNat)*9)).take 9).drop 7).take 2)).drop 1) fun ap=>(A5 N (cond true (decide (ao≤ap)) false) 7 3 m o (fun aq ar=>(k0 e (wrap .i64 (b+1)) aq ar))))) (A5 N false 7 3 m o (fun au av=>(k0 e (wrap .i64 (b+1)) au av))))) (A5 N false 7 3 m o (fun aw ax=>(k0 e (wrap .i64 (b+1)) aw ax)))))) none) none) none) none)))))))))))))))))))))))))) none) none) none) (r0 g i))
def Nn (r0:Bool→LA→O R) (c:LA) (f:Nat) (d:Bool):Nat→Int→Int→Bool→LA→O R
 | 0,_,_,_,_=>none
 | n+1,e,b,g,i=>(Zr N r0 c f d (Nn r0 c f d n) e b g i)
def UZ (N:Nat) (r0:Bool→LA→O R) (q0:LA→Nat→Int→Int→Bool→LA→O R) (d:Bool) (l:LA):O R :=
 (Br 9 (l.drop 5) fun c f=>(q0 c f ((f:Nat):Int) 0 d l))
def Yf:=(Ag (fun (N:Nat) (d:Bool) (l:LA) (r0:Bool→LA→O R)=>(UZ N r0 (fun c f e b g i=>(Nn N r0 c f d N e b g i)) d l))).1
theorem kM (d l r0):(@Yf R N d l r0)=(UZ N r0 (fun c f e b g i=>(Nn N r0 c f d N e b g i)) d l):=by rw[Yf,(Ag _).2]
def qF:Hints:={ H:=(hS hL (hS hL (hS (hP [1,9,10,11] hL) hL))) }
def wq:F2:=[(233,BJ N),(237,Aii N),(240,gr N),(234,Hq N),(241,wa N),(236,Di N)]
def Ap1 (F:KF R):=Ju Tryz.f175 qF (wq N) [100000] N F
def Wb (F:KF R):Bool→LA→O R:=(fun ay az=>F (.tup []) [(100000,(bP ay 0 az))])
def Ap2 (c:LA) (f:Nat) (d:Bool) (e b:Int) (g:Bool) (i:LA):St:=⟨[(1,(op 0)),(9,(.imm c f 9 false d)),(10,(iv e)),(11,(iv b))],[(100000,(bP g 0 i)),(300000,(bN 0 [(.optr 100000 0)]))]⟩
def Ap3 (F:KF R):=Ap1 N F [1,1,0] []
theorem ZH (F:KF R) (c:LA) (f:Nat) (d:Bool):∀ (n:Nat) (e b:Int) (g:Bool) (i:LA),Ak (Ap3 N F) n (Ap2 c f d e b g i)=(Nn N (Wb F) c f d n e b g i)
 | 0,_,_,_,_=>by kernel_rfl
 | n+1,e,b,g,i=>Eq.trans (by kernel_rfl) (Bt (Zr N (Wb F) c f d · e b g i) (funext fun e=>funext fun b=>funext fun g=>funext fun i=>(ZH F c f d n e b g i)):_)
theorem qG (d:Bool) (l:LA) (F:KF R):Cw (wq N) qF N 175 [(.optr 100000 0)] [(100000,(bP d 0 l))] F=(Yf N d l (Wb F)):=by
 rw[kM]
 exact Eq.trans (by kernel_rfl) (Bt (UZ N (Wb F) · d l) (funext fun c=>funext fun f=>funext fun e=>funext fun b=>funext fun g=>funext fun i=>(Ad ..).trans (ZH N F c f d N e b g i)):_)
def kN (a:LA) (h:Aj) (k:KF R):O R :=
 match a,h with
 | [(.optr 100000 0)],[(100000,⟨false,false,true,d,0,l,false,none⟩)]=>(Yf N d l (Wb k))
 | _,_=>none
theorem qH:An N 175 @kN:=by
 intro R Q a h k j;unfold kN;split;exact A2 (qG ..) (qG ..) ⟨BK N,Aij N,gt N,Hr N,wb N,Dj N,trivial⟩;exact A4
def Ap4:=A3 (qH N)
def Ap5:=Cz (qH N)
def U_ (N:Nat) (d:Int) (c:Bool) (b:LA) (r0:List UInt8→O R):O R :=
 (Br 5 (b.drop 6) fun e f=>(cond (Ae d f) (Ts (e.drop ((d.toNat)*5)) fun g=>(r0 g)) none))
def BO:=(Ag (@U_ R)).1
theorem ZI:@BO R=@U_ R:=(Ag _).2
def eZ (c:Bool) (b:LA) (F:KF R):List UInt8→O R:=(fun i=>F (.str i) [(100000,(bN 0 [(.optr 100001 0)])),(100001,(bP c 0 b))])
theorem e_ (d:Int) (c:Bool) (b:LA) (F:KF R):Cw [] Cr N 246 [(iv d),(.optr 100000 0)] [(100000,(bN 0 [(.optr 100001 0)])),(100001,(bP c 0 b))] F=(BO N d c b (eZ c b F)):=by
 rw[ZI]
 kernel_rfl
def ZJ (a:LA) (h:Aj) (k:KF R):O R :=
 match a,h with
 | [(.int .i64 d),(.optr 100000 0)],[(100000,⟨false,false,false,false,0,[(.optr 100001 0)],false,none⟩),(100001,⟨false,false,true,c,0,b,false,none⟩)]=>(BO N d c b (eZ c b k))
 | _,_=>none
theorem ee:An N 246 @ZJ:=by
 intro R Q a h k j;unfold ZJ;split;exact A2 (e_ ..) (e_ ..) trivial;exact A4
def Afb:=A3 (ee N)
def Afc:=Cz (ee N)
def Qd (r0:Bool→LA→O R) (b:List UInt8) (f:Int) (k0:Int→Bool→LA→O R) (e:Int) (d:Bool) (c:LA):O R :=
 (cond (decide (e<f)) (Ap .i64 (c.drop 11) fun m=>(cond (m != 0) (r0 d c) (BO N e d c (fun o=>(A5 N (!(o==b)) 0 10 d c (fun p q=>(k0 (wrap .i64 (e+1)) p q))))))) (r0 d c))
def H4 (r0:Bool→LA→O R) (b:List UInt8) (f:Int):Nat→Int→Bool→LA→O R
 | 0,_,_,_=>none
 | n+1,e,d,c=>(Qd N r0 b f (H4 r0 b f n) e d c)
def LT (r0:Bool→LA→O R) (q0:Int→Int→Bool→LA→O R) (b:List UInt8) (g:Bool) (i:LA):O R :=
 (V7 N b (fun r=>(A5 N r 0 9 g i (fun s l=>(Ap .i64 (l.drop 9) fun f=>(q0 f 0 s l))))))
def Yg:=(Ag (fun (N:Nat) (b:List UInt8) (g:Bool) (i:LA) (r0:Bool→LA→O R)=>(LT N r0 (fun f e d c=>(H4 N r0 b f N e d c)) b g i))).1
theorem ef (b g i r0):(@Yg R N b g i r0)=(LT N r0 (fun f e d c=>(H4 N r0 b f N e d c)) b g i):=by rw[Yg,(Ag _).2]
def qI:F2:=[(284,Ya N),(236,Di N),(246,Afb N)]
def Aik (F:KF R):=Ju Tryz.f237 WG (qI N) [100000,100001] N F
def Sq (F:KF R):Bool→LA→O R:=(fun t u=>F (.tup []) [(100000,(bP t 0 u)),(100001,(bN 0 [(.optr 100000 0)]))])
def Ail (b:List UInt8) (f e:Int) (d:Bool) (c:LA):St:=⟨[(0,(.optr 100000 0)),(1,(.str b)),(2,(.fn 246 [(.optr 100001 0)])),(15,(iv f)),(16,(iv e))],[(100000,(bP d 0 c)),(100001,(bN 0 [(.optr 100000 0)]))]⟩
def Aim (F:KF R):=Aik N F [1,1,0] []
theorem RA (F:KF R) (b:List UInt8) (f:Int):∀ (n:Nat) (e:Int) (d:Bool) (c:LA),Ak (Aim N F) n (Ail b f e d c)=(H4 N (Sq F) b f n e d c)
 | 0,_,_,_=>by kernel_rfl
 | n+1,e,d,c=>Eq.trans (by kernel_rfl) (Bt (Qd N (Sq F) b f · e d c) (funext fun e=>funext fun d=>funext fun c=>(RA F b f n e d c)):_)
theorem kO (b:List UInt8) (g:Bool) (i:LA) (F:KF R):Cw (qI N) WG N 237 [(.optr 100000 0),(.str b),(.fn 246 [(.optr 100001 0)])] [(100000,(bP g 0 i)),(100001,(bN 0 [(.optr 100000 0)]))] F=(Yg N b g i (Sq F)):=by
 rw[ef]
 exact Eq.trans (by kernel_rfl) (Bt (LT N (Sq F) · b g i) (funext fun f=>funext fun e=>funext fun d=>funext fun c=>(Ad ..).trans (RA N F b f N e d c)):_)
def eg (a:LA) (h:Aj) (k:KF R):O R :=
 match a,h with
 | [(.optr 100000 0),(.str b),(.fn 246 [(.optr 100001 0)])],[(100000,⟨false,false,true,g,0,i,false,none⟩),(100001,⟨false,false,false,false,0,[(.optr 100000 0)],false,none⟩)]=>(Yg N b g i (Sq k))
 | _,_=>none
theorem kP:An N 237 @eg:=by
 intro R Q a h k j;unfold eg;split;exact A2 (kO ..) (kO ..) ⟨Yb N,Dj N,Afc N,trivial⟩;exact A4
def Ain:=A3 (kP N)
def Aio:=Cz (kP N)
def LU (r0:Bool→LA→O R) (d:LA) (e:Nat) (b:Bool) (k0:Int→Int→Bool→LA→O R) (f c:Int) (g:Bool) (i:LA):O R :=
 (cond (decide (c<f)) (cond (Ae c e) (cond (Nat.ble 5 ((d.drop ((c.toNat)*5)).length)) (cond ((Nat.beq 0 0)&&((Nat.beq (((d.drop ((c.toNat)*5)).take 5).length) 5)&&(Nat.beq 5 5))) (YU N 5 c g i (fun m o=>(Ts ((d.drop ((c.toNat)*5)).take 5) fun p=>(Yg N p m o (fun q r=>(Ap .i64 (((d.drop ((c.toNat)*5)).take 5).drop 1) fun s=>(UT N 1 s q r (fun t u=>(Br 1 (((d.drop ((c.toNat)*5)).take 5).drop 2) fun v w=>(Oh N 2 v w false b 0 1048576 t u (fun x y=>(Br 1 (((d.drop ((c.toNat)*5)).take 5).drop 3) fun z aa=>(Oh N 3 z aa false b 0 1048576 x y (fun ab ac=>(Br 1 (((d.drop ((c.toNat)*5)).take 5).drop 4) fun ad ae=>(Oh N 4 ad ae false b (-1048576) 1048576 ab ac (fun af ag=>(k0 f (wrap .i64 (c+1)) af ag)))))))))))))))))) none) none) none) (r0 g i))
def T5 (r0:Bool→LA→O R) (d:LA) (e:Nat) (b:Bool):Nat→Int→Int→Bool→LA→O R
 | 0,_,_,_,_=>none
 | n+1,f,c,g,i=>(LU N r0 d e b (T5 r0 d e b n) f c g i)
def qJ (N:Nat) (r0:Bool→LA→O R) (q0:LA→Nat→Int→Int→Bool→LA→O R) (b:Bool) (l:LA):O R :=
 (Br 5 (l.drop 6) fun d e=>(q0 d e ((e:Nat):Int) 0 b l))
def U':=(Ag (fun (N:Nat) (b:Bool) (l:LA) (r0:Bool→LA→O R)=>(qJ N r0 (fun d e f c g i=>(T5 N r0 d e b N f c g i)) b l))).1
theorem wt (b l r0):(@U' R N b l r0)=(qJ N r0 (fun d e f c g i=>(T5 N r0 d e b N f c g i)) b l):=by rw[U',(Ag _).2]
def Afd:Hints:={ H:=(hS hL (hS hL (hS (hP [1,8,9,10] hL) hL))) }
def Al4:F2:=[(233,BJ N),(237,Ain N),(240,gr N),(235,UQ N)]
def A01 (F:KF R):=Ju Tryz.f176 Afd (Al4 N) [100000] N F
def IG (F:KF R):Bool→LA→O R:=(fun ah ai=>F (.tup []) [(100000,(bP ah 0 ai))])
def A02 (d:LA) (e:Nat) (b:Bool) (f c:Int) (g:Bool) (i:LA):St:=⟨[(1,(op 0)),(8,(.imm d e 5 false b)),(9,(iv f)),(10,(iv c))],[(100000,(bP g 0 i)),(300000,(bN 0 [(.optr 100000 0)]))]⟩
def A03 (F:KF R):=A01 N F [1,1,0] []
theorem kQ (F:KF R) (d:LA) (e:Nat) (b:Bool):∀ (n:Nat) (f c:Int) (g:Bool) (i:LA),Ak (A03 N F) n (A02 d e b f c g i)=(T5 N (IG F) d e b n f c g i)
 | 0,_,_,_,_=>by kernel_rfl
 | n+1,f,c,g,i=>Eq.trans (by kernel_rfl) (Bt (LU N (IG F) d e b · f c g i) (funext fun f=>funext fun c=>funext fun g=>funext fun i=>(kQ F d e b n f c g i)):_)
theorem Afe (b:Bool) (l:LA) (F:KF R):Cw (Al4 N) Afd N 176 [(.optr 100000 0)] [(100000,(bP b 0 l))] F=(U' N b l (IG F)):=by
 rw[wt]
 exact Eq.trans (by kernel_rfl) (Bt (qJ N (IG F) · b l) (funext fun d=>funext fun e=>funext fun f=>funext fun c=>funext fun g=>funext fun i=>(Ad ..).trans (kQ N F d e b N f c g i)):_)
def wu (a:LA) (h:Aj) (k:KF R):O R :=
 match a,h with
 | [(.optr 100000 0)],[(100000,⟨false,false,true,b,0,l,false,none⟩)]=>(U' N b l (IG k))
 | _,_=>none
theorem Aff:An N 176 @wu:=by
 intro R Q a h k j;unfold wu;split;exact A2 (Afe ..) (Afe ..) ⟨BK N,Aio N,gt N,UR N,trivial⟩;exact A4
def A04:=A3 (Aff N)
def A05:=Cz (Aff N)
def CJ (N:Nat) (d:Int) (c:Bool) (b:LA) (r0:List UInt8→O R):O R :=
 (Br 4 (b.drop 7) fun e f=>(cond (Ae d f) (Ts (e.drop ((d.toNat)*4)) fun g=>(r0 g)) none))
def Qe:=(Ag (@CJ R)).1
theorem IH:@Qe R=@CJ R:=(Ag _).2
def LV (c:Bool) (b:LA) (F:KF R):List UInt8→O R:=(fun i=>F (.str i) [(100000,(bN 0 [(.optr 100001 0)])),(100001,(bP c 0 b))])
theorem LW (d:Int) (c:Bool) (b:LA) (F:KF R):Cw [] Cr N 247 [(iv d),(.optr 100000 0)] [(100000,(bN 0 [(.optr 100001 0)])),(100001,(bP c 0 b))] F=(Qe N d c b (LV c b F)):=by
 rw[IH]
 kernel_rfl
def II (a:LA) (h:Aj) (k:KF R):O R :=
 match a,h with
 | [(.int .i64 d),(.optr 100000 0)],[(100000,⟨false,false,false,false,0,[(.optr 100001 0)],false,none⟩),(100001,⟨false,false,true,c,0,b,false,none⟩)]=>(Qe N d c b (LV c b k))
 | _,_=>none
theorem LX:An N 247 @II:=by
 intro R Q a h k j;unfold II;split;exact A2 (LW ..) (LW ..) trivial;exact A4
def qK:=A3 (LX N)
def qL:=Cz (LX N)
end
end Gx

namespace Gx
open Go Go.Proofs
open IntKind (wrap)
set_option maxRecDepth 100000
noncomputable section
variable {R:Type} (N:Nat)
def Qf (r0:Bool→LA→O R) (b:List UInt8) (f:Int) (k0:Int→Bool→LA→O R) (e:Int) (d:Bool) (c:LA):O R :=
 (cond (decide (e<f)) (Ap .i64 (c.drop 11) fun m=>(cond (m != 0) (r0 d c) (Qe N e d c (fun o=>(A5 N (!(o==b)) 0 10 d c (fun p q=>(k0 (wrap .i64 (e+1)) p q))))))) (r0 d c))
def H5 (r0:Bool→LA→O R) (b:List UInt8) (f:Int):Nat→Int→Bool→LA→O R
 | 0,_,_,_=>none
 | n+1,e,d,c=>(Qf N r0 b f (H5 r0 b f n) e d c)
def LY (r0:Bool→LA→O R) (q0:Int→Int→Bool→LA→O R) (b:List UInt8) (g:Bool) (i:LA):O R :=
 (V7 N b (fun r=>(A5 N r 0 9 g i (fun s l=>(Ap .i64 (l.drop 9) fun f=>(q0 f 0 s l))))))
def Yh:=(Ag (fun (N:Nat) (b:List UInt8) (g:Bool) (i:LA) (r0:Bool→LA→O R)=>(LY N r0 (fun f e d c=>(H5 N r0 b f N e d c)) b g i))).1
theorem eh (b g i r0):(@Yh R N b g i r0)=(LY N r0 (fun f e d c=>(H5 N r0 b f N e d c)) b g i):=by rw[Yh,(Ag _).2]
def qM:F2:=[(284,Ya N),(236,Di N),(247,qK N)]
def Aip (F:KF R):=Ju Tryz.f237 WG (qM N) [100000,100001] N F
def Sr (F:KF R):Bool→LA→O R:=(fun t u=>F (.tup []) [(100000,(bP t 0 u)),(100001,(bN 0 [(.optr 100000 0)]))])
def Aiq (b:List UInt8) (f e:Int) (d:Bool) (c:LA):St:=⟨[(0,(.optr 100000 0)),(1,(.str b)),(2,(.fn 247 [(.optr 100001 0)])),(15,(iv f)),(16,(iv e))],[(100000,(bP d 0 c)),(100001,(bN 0 [(.optr 100000 0)]))]⟩
def Air (F:KF R):=Aip N F [1,1,0] []
theorem RB (F:KF R) (b:List UInt8) (f:Int):∀ (n:Nat) (e:Int) (d:Bool) (c:LA),Ak (Air N F) n (Aiq b f e d c)=(H5 N (Sr F) b f n e d c)
 | 0,_,_,_=>by kernel_rfl
 | n+1,e,d,c=>Eq.trans (by kernel_rfl) (Bt (Qf N (Sr F) b f · e d c) (funext fun e=>funext fun d=>funext fun c=>(RB F b f n e d c)):_)
theorem kR (b:List UInt8) (g:Bool) (i:LA) (F:KF R):Cw (qM N) WG N 237 [(.optr 100000 0),(.str b),(.fn 247 [(.optr 100001 0)])] [(100000,(bP g 0 i)),(100001,(bN 0 [(.optr 100000 0)]))] F=(Yh N b g i (Sr F)):=by
 rw[eh]
 exact Eq.trans (by kernel_rfl) (Bt (LY N (Sr F) · b g i) (funext fun f=>funext fun e=>funext fun d=>funext fun c=>(Ad ..).trans (RB N F b f N e d c)):_)
def ei (a:LA) (h:Aj) (k:KF R):O R :=
 match a,h with
 | [(.optr 100000 0),(.str b),(.fn 247 [(.optr 100001 0)])],[(100000,⟨false,false,true,g,0,i,false,none⟩),(100001,⟨false,false,false,false,0,[(.optr 100000 0)],false,none⟩)]=>(Yh N b g i (Sr k))
 | _,_=>none
theorem kS:An N 237 @ei:=by
 intro R Q a h k j;unfold ei;split;exact A2 (kR ..) (kR ..) ⟨Yb N,Dj N,qL N,trivial⟩;exact A4
def Ais:=A3 (kS N)
def Ait:=Cz (kS N)
def EQ (r0:Bool→LA→O R) (i:LA) (m:Nat) (b:Bool) (k2:Int→Int→Bool→LA→O R) (s f:Int) (t:Bool) (u:LA):O R :=
 (cond (decide (f<s)) (cond (Ae f m) (cond (Nat.ble 3 ((i.drop ((f.toNat)*3)).length)) (cond ((!b)||(Az ((i.drop ((f.toNat)*3)).take 3))) (cond ((Nat.beq (((i.drop ((f.toNat)*3)).take 3).length) 3)&&((Nat.ble 3 3)&&(!false))) (Ap .i64 ((setCells [(.int .i64 0),(.int .i64 0),(.int .i64 0)] 0 ((i.drop ((f.toNat)*3)).take 3)).drop 1) fun ab=>(Bc N 3 ab 0 1048576 t u (fun ac ad=>(Ap .i64 ((setCells [(.int .i64 0),(.int .i64 0),(.int .i64 0)] 0 ((i.drop ((f.toNat)*3)).take 3)).drop 2) fun ae=>(Bc N 3 ae 0 1048576 ac ad (fun af ag=>(k2 s (wrap .i64 (f+1)) af ag))))))) none) none) none) none) (r0 t u))
def Ux (r0:Bool→LA→O R) (i:LA) (m:Nat) (b:Bool):Nat→Int→Int→Bool→LA→O R
 | 0,_,_,_,_=>none
 | n+1,s,f,t,u=>(EQ N r0 i m b (Ux r0 i m b n) s f t u)
def ER (r0:Bool→LA→O R) (g:LA) (o:Nat) (b:Bool) (c:LA) (k1:Nat→Int→Int→Bool→LA→LA→O R) (q2:LA→Nat→Int→Int→Bool→LA→O R) (e:Nat) (p d:Int) (q:Bool) (l r:LA):O R :=
 (cond (decide (d<p)) (cond (Ae d o) (cond (Nat.ble 3 ((g.drop ((d.toNat)*3)).length)) (cond ((!b)||(Az ((g.drop ((d.toNat)*3)).take 3))) (cond ((Nat.beq (((g.drop ((d.toNat)*3)).take 3).length) 3)&&((Nat.ble 3 3)&&(!false))) (Ap .i64 (setCells [(.int .i64 0),(.int .i64 0),(.int .i64 0)] 0 ((g.drop ((d.toNat)*3)).take 3)) fun ah=>(cond ((decide (ah≥0))==true) (Ap .i64 (setCells [(.int .i64 0),(.int .i64 0),(.int .i64 0)] 0 ((g.drop ((d.toNat)*3)).take 3)) fun ai=>(Br 22 (l.drop 4) fun bf aj=>(A5 N (cond true (decide (ai<((aj:Nat):Int))) false) 3 12 q l (fun ak al=>(Ap .i64 (setCells [(.int .i64 0),(.int .i64 0),(.int .i64 0)] 0 ((g.drop ((d.toNat)*3)).take 3)) fun am=>(cond ((Nat.ble (e+1) 140737488355328)&&(Nat.ble ((e+1)*8) 140737488355328)) (k1 (e+1) p (wrap .i64 (d+1)) ak al ((r.take (e*1))++[(.int .i64 am)])) none)))))) (A5 N false 3 12 q l (fun an ao=>(Ap .i64 (setCells [(.int .i64 0),(.int .i64 0),(.int .i64 0)] 0 ((g.drop ((d.toNat)*3)).take 3)) fun ap=>(cond ((Nat.ble (e+1) 140737488355328)&&(Nat.ble ((e+1)*8) 140737488355328)) (k1 (e+1) p (wrap .i64 (d+1)) an ao ((r.take (e*1))++[(.int .i64 ap)])) none)))))) none) none) none) none) (Kg N (r.take (e*1)) e false true (fun aq=>(A5 N aq 3 11 q l (fun ar au=>(Br 3 (c.drop 3) fun i m=>(q2 i m ((m:Nat):Int) 0 ar au)))))))
def Qg (r0:Bool→LA→O R) (g:LA) (o:Nat) (b:Bool) (c:LA):Nat→Nat→Int→Int→Bool→LA→LA→O R
 | 0,_,_,_,_,_,_=>none
 | n+1,e,p,d,q,l,r=>(ER N r0 g o b c (Qg r0 g o b c n) (fun i m s f t u=>(Ux N r0 i m b N s f t u)) e p d q l r)
def VA (r0:Bool→LA→O R) (b:Bool) (c:LA) (q1:LA→Nat→Nat→Int→Int→Bool→LA→LA→O R) (v:Bool) (w:LA):O R :=
 (Br 3 (c.drop 3) fun bg av=>(A5 N (decide (((av:Nat):Int)≤16)) 3 8 v w (fun aa z=>(Ap .i64 (z.drop 11) fun aw=>(cond (aw != 0) (r0 aa z) (Br 3 (c.drop 3) fun g o=>(q1 g o 0 ((o:Nat):Int) 0 aa z [])))))))
def LZ (r0:Bool→LA→O R) (b:Bool) (c:LA) (v:Bool) (w:LA):O R:=(VA N r0 b c (fun g o e p d q l r=>(Qg N r0 g o b c N e p d q l r)) v w)
def gy (r0:Bool→LA→O R) (q0:Bool→LA→O R) (c:LA) (b x:Bool) (y:LA):O R :=
 (Br 3 (c.drop 3) fun bh ax=>(cond ((((ax:Nat):Int)==0)==false) (bW (c.drop 2) fun ay=>(A5 N (cond false true ay) 3 16 x y (fun az ba=>(q0 az ba)))) (A5 N true 3 16 x y (fun bb bc=>(q0 bb bc)))))
def RC:=(Ag (fun (N:Nat) (c:LA) (b x:Bool) (y:LA) (r0:Bool→LA→O R)=>(gy N r0 (fun v w=>(LZ N r0 b c v w)) c b x y))).1
theorem qN (c b x y r0):(@RC R N c b x y r0)=(gy N r0 (fun v w=>(LZ N r0 b c v w)) c b x y):=by rw[RC,(Ag _).2]
def wv:Hints:={ H:=(hS hL (hJ [0,3] hL (hS hL (hS hL (hS hL (hS (hS hL (hS (hP [0,3,4,31,32,33] hL) hL)) (hS hL (hS hL (hS (hP [0,64,65,66] hL) hL))))))))),nils:=[(4,1)] }
def Afg:F2:=[(236,Di N),(248,CH N),(234,Hq N)]
def ek (F:KF R):=Ju Tryz.f249 wv (Afg N) [100000] N F
def Kh (F:KF R):Bool→LA→O R:=(fun bd be=>F (.tup []) [(100000,(bP bd 0 be))])
def Avy (i:LA) (m:Nat) (b:Bool) (s f:Int) (t:Bool) (u:LA):St:=⟨[(0,(.optr 100000 0)),(64,(.imm i m 3 false b)),(65,(iv s)),(66,(iv f))],[(100000,(bP t 0 u))]⟩
def Avz (F:KF R):=ek N F [1,1,1,1,1,1,1,1,0] []
def Av0 (g:LA) (o:Nat) (b:Bool) (c:LA) (e:Nat) (p d:Int) (q:Bool) (l r:LA):St:=⟨[(0,(.optr 100000 0)),(3,(op 0)),(4,(.own 300001 0 e)),(31,(.imm g o 3 false b)),(32,(iv p)),(33,(iv d))],[(100000,(bP q 0 l)),(300000,(bP b 0 c)),(300001,(bQ 1 r))]⟩
def Av1 (F:KF R):=ek N F [1,1,1,1,1,0,1,0] []
def Av2 (b:Bool) (c:LA) (v:Bool) (w:LA):St:=⟨[(0,(.optr 100000 0)),(3,(op 0))],[(100000,(bP v 0 w)),(300000,(bP b 0 c))]⟩
def Av3 (F:KF R):=ek N F [1,1] []
theorem eo (F:KF R) (i:LA) (m:Nat) (b:Bool):∀ (n:Nat) (s f:Int) (t:Bool) (u:LA),Ak (Avz N F) n (Avy i m b s f t u)=(Ux N (Kh F) i m b n s f t u)
 | 0,_,_,_,_=>by kernel_rfl
 | n+1,s,f,t,u=>Eq.trans (by kernel_rfl) (Bt (EQ N (Kh F) i m b · s f t u) (funext fun s=>funext fun f=>funext fun t=>funext fun u=>(eo F i m b n s f t u)):_)
theorem ep (F:KF R) (g:LA) (o:Nat) (b:Bool) (c:LA):∀ (n e:Nat) (p d:Int) (q:Bool) (l r:LA),Ak (Av1 N F) n (Av0 g o b c e p d q l r)=(Qg N (Kh F) g o b c n e p d q l r)
 | 0,_,_,_,_,_,_=>by kernel_rfl
 | n+1,e,p,d,q,l,r=>Eq.trans (by kernel_rfl) (OQ (ER N (Kh F) g o b c · · e p d q l r) (funext fun e=>funext fun p=>funext fun d=>funext fun q=>funext fun l=>funext fun r=>(ep F g o b c n e p d q l r)) (funext fun i=>funext fun m=>funext fun s=>funext fun f=>funext fun t=>funext fun u=>(Ad ..).trans (eo N F i m b N s f t u)):_)
theorem Afh (F:KF R) (b:Bool) (c:LA):∀ (v:Bool) (w:LA),B5 (Av3 N F) (Av2 b c v w)=(LZ N (Kh F) b c v w):=by
 intro v w
 exact Eq.trans (by kernel_rfl) (Bt (VA N (Kh F) b c · v w) (funext fun g=>funext fun o=>funext fun e=>funext fun p=>funext fun d=>funext fun q=>funext fun l=>funext fun r=>(Ad ..).trans (ep N F g o b c N e p d q l r)):_)
theorem ww (c:LA) (b x:Bool) (y:LA) (F:KF R):Cw (Afg N) wv N 249 [(.optr 100000 0),(.pagg c b)] [(100000,(bP x 0 y))] F=(RC N c b x y (Kh F)):=by
 rw[qN]
 exact Eq.trans (by kernel_rfl) (Bt (gy N (Kh F) · c b x y) (funext fun v=>funext fun w=>(A1 ..).trans (Afh N F b c v w)):_)
def qO (a:LA) (h:Aj) (k:KF R):O R :=
 match a,h with
 | [(.optr 100000 0),(.pagg c b)],[(100000,⟨false,false,true,x,0,y,false,none⟩)]=>(RC N c b x y (Kh k))
 | _,_=>none
theorem wx:An N 249 @qO:=by
 intro R Q a h k j;unfold qO;split;exact A2 (ww ..) (ww ..) ⟨Dj N,CI N,Hr N,trivial⟩;exact A4
def Av4:=A3 (wx N)
def Av5:=Cz (wx N)
def Wc (k0:Int→Int→Bool→LA→O R) (r0:Bool→LA→O R) (c:LA) (f:Nat) (b:Bool) (e:Int) (u:LA) (q:Nat) (i d:LA) (k2:Int→Int→Int→Bool→LA→O R) (r s o:Int) (t:Bool) (p:LA):O R :=
 (cond (decide (o<s)) (cond (Ae o q) (Ap .i64 (u.drop ((o.toNat)*1)) fun y=>(cond ((decide (y≥0))==true) (Br 12 (p.drop 3) fun bb ab=>(A5 N (cond true (decide (y<((ab:Nat):Int))) false) 1 12 t p (fun ac ad=>(k2 r s (wrap .i64 (o+1)) ac ad)))) (A5 N false 1 12 t p (fun ae af=>(k2 r s (wrap .i64 (o+1)) ae af))))) none) (Br 1 (i.drop 1) fun ag ah=>(Kg N ag ah false b (fun ai=>(A5 N ai 1 11 t p (fun aj ak=>(cond (Nat.ble 4 (i.length)) (RC N (i.take 4) b aj ak (fun al am=>(k0 e (wrap .i64 (r+1)) al am))) none)))))))
def Oi (k0:Int→Int→Bool→LA→O R) (r0:Bool→LA→O R) (c:LA) (f:Nat) (b:Bool) (e:Int) (u:LA) (q:Nat) (i d:LA):Nat→Int→Int→Int→Bool→LA→O R
 | 0,_,_,_,_,_=>none
 | n+1,r,s,o,t,p=>(Wc N k0 r0 c f b e u q i d (Oi k0 r0 c f b e u q i d n) r s o t p)
def Wd (N:Nat) (k0:Int→Int→Bool→LA→O R) (r0:Bool→LA→O R) (c:LA) (f:Nat) (b:Bool) (e:Int) (d:LA) (q2:LA→Nat→Int→Int→Int→Bool→LA→O R) (x:Int) (w:Bool) (v i:LA):O R :=
 (Ap .i64 (v.drop 11) fun an=>(cond (an != 0) (r0 w v) (Br 1 (i.drop 1) fun u q=>(q2 u q x ((q:Nat):Int) 0 w v))))
def Ss (k0:Int→Int→Bool→LA→O R) (r0:Bool→LA→O R) (c:LA) (f:Nat) (b:Bool) (e:Int) (d:LA) (x:Int) (w:Bool) (v i:LA):O R:=(Wd N k0 r0 c f b e d (fun u q r s o t p=>(Oi N k0 r0 c f b e u q i d N r s o t p)) x w v i)
def Qh (r0:Bool→LA→O R) (c:LA) (f:Nat) (b:Bool) (d:LA) (k0:Int→Int→Bool→LA→O R) (q1:Int→Bool→LA→LA→O R) (e g:Int) (l:Bool) (m:LA):O R :=
 (cond (decide (g<e)) (cond (Ae g f) (cond (Nat.ble 4 ((c.drop ((g.toNat)*4)).length)) (cond ((Nat.beq 0 0)&&((Nat.beq (((c.drop ((g.toNat)*4)).take 4).length) 4)&&(Nat.beq 4 4))) (YU N 6 g l m (fun ao ap=>(Ts ((c.drop ((g.toNat)*4)).take 4) fun aq=>(Yh N aq ao ap (fun z aa=>(Br 1 (((c.drop ((g.toNat)*4)).take 4).drop 1) fun bc ar=>(cond ((((ar:Nat):Int)==1)==false) (Br 1 (((c.drop ((g.toNat)*4)).take 4).drop 1) fun bd au=>(A5 N (cond false true (((au:Nat):Int)==2)) 1 4 z aa (fun av aw=>(q1 g av aw ((c.drop ((g.toNat)*4)).take 4))))) (A5 N true 1 4 z aa (fun ax ay=>(q1 g ax ay ((c.drop ((g.toNat)*4)).take 4))))))))))) none) none) none) (r0 l m))
def E6 (r0:Bool→LA→O R) (c:LA) (f:Nat) (b:Bool) (d:LA):Nat→Int→Int→Bool→LA→O R
 | 0,_,_,_,_=>none
 | n+1,e,g,l,m=>(Qh N r0 c f b d (E6 r0 c f b d n) (fun x w v i=>(Ss N (E6 r0 c f b d n) r0 c f b e d x w v i)) e g l m)
def L_ (N:Nat) (r0:Bool→LA→O R) (q0:LA→Nat→Int→Int→Bool→LA→O R) (b:Bool) (d:LA):O R :=
 (Br 4 (d.drop 7) fun c f=>(q0 c f ((f:Nat):Int) 0 b d))
def T6:=(Ag (fun (N:Nat) (b:Bool) (d:LA) (r0:Bool→LA→O R)=>(L_ N r0 (fun c f e g l m=>(E6 N r0 c f b d N e g l m)) b d))).1
theorem eu (b d r0):(@T6 R N b d r0)=(L_ N r0 (fun c f e g l m=>(E6 N r0 c f b d N e g l m)) b d):=by rw[T6,(Ag _).2]
def kT:Hints:={ H:=(hS hL (hS hL (hS (hP [1,10,11,12] (hS hL (hS hL (hS (hS (hS hL (hS hL (hS hL (hJ [1,3,10,11,12] hL (hS hL (hS (hS hL (hS (hP [1,3,10,11,12,43,44,45] hL) hL)) hL)))))) hL) hL)))) hL))) }
def qP:F2:=[(233,BJ N),(237,Ais N),(236,Di N),(248,CH N),(249,Av4 N)]
def NJ (F:KF R):=Ju Tryz.f177 kT (qP N) [100000] N F
def E7 (F:KF R):Bool→LA→O R:=(fun az ba=>F (.tup []) [(100000,(bP az 0 ba))])
def Aiu (c:LA) (f:Nat) (b:Bool) (e:Int) (u:LA) (q:Nat) (i d:LA) (r s o:Int) (t:Bool) (p:LA):St:=⟨[(1,(op 0)),(3,(op 1)),(10,(.imm c f 4 false b)),(11,(iv e)),(12,(iv r)),(43,(.imm u q 1 false b)),(44,(iv s)),(45,(iv o))],[(100000,(bP t 0 p)),(300000,(bN 0 [(.optr 100000 0)])),(300001,(bP b 0 i))]⟩
def Aiv (F:KF R) (Q0:St→O R):=NJ N F [1,1,0,0,1,1,0,0,1,1,1,1,1,0,1,0] [Q0]
def Aiw (c:LA) (f:Nat) (b:Bool) (e:Int) (d:LA) (x:Int) (w:Bool) (v i:LA):St:=⟨[(1,(op 0)),(3,(op 1)),(10,(.imm c f 4 false b)),(11,(iv e)),(12,(iv x))],[(100000,(bP w 0 v)),(300000,(bN 0 [(.optr 100000 0)])),(300001,(bP b 0 i))]⟩
def Aix (F:KF R) (Q0:St→O R):=NJ N F [1,1,0,0,1,1,0,0,1,1,1,1] [Q0]
def Su (c:LA) (f:Nat) (b:Bool) (d:LA) (e g:Int) (l:Bool) (m:LA):St:=⟨[(1,(op 0)),(10,(.imm c f 4 false b)),(11,(iv e)),(12,(iv g))],[(100000,(bP l 0 m)),(300000,(bN 0 [(.optr 100000 0)]))]⟩
def kU (F:KF R):=NJ N F [1,1,0] []
theorem RD (Q0:St→O R) (F:KF R) (c:LA) (f:Nat) (b:Bool) (e:Int) (u:LA) (q:Nat) (i d:LA):∀ (n:Nat) (r s o:Int) (t:Bool) (p:LA),Ak (Aiv N F Q0) n (Aiu c f b e u q i d r s o t p)=(Oi N (fun e g l m=>Q0 (Su c f b d e g l m)) (E7 F) c f b e u q i d n r s o t p)
 | 0,_,_,_,_,_=>by kernel_rfl
 | n+1,r,s,o,t,p=>Eq.trans (by kernel_rfl) (Bt (Wc N (fun e g l m=>Q0 (Su c f b d e g l m)) (E7 F) c f b e u q i d · r s o t p) (funext fun r=>funext fun s=>funext fun o=>funext fun t=>funext fun p=>(RD Q0 F c f b e u q i d n r s o t p)):_)
theorem tW (Q0:St→O R) (F:KF R) (c:LA) (f:Nat) (b:Bool) (e:Int) (d:LA):∀ (x:Int) (w:Bool) (v i:LA),B5 (Aix N F Q0) (Aiw c f b e d x w v i)=(Ss N (fun e g l m=>Q0 (Su c f b d e g l m)) (E7 F) c f b e d x w v i):=by
 intro x w v i
 exact Eq.trans (by kernel_rfl) (Bt (Wd N (fun e g l m=>Q0 (Su c f b d e g l m)) (E7 F) c f b e d · x w v i) (funext fun u=>funext fun q=>funext fun r=>funext fun s=>funext fun o=>funext fun t=>funext fun p=>(Ad ..).trans (RD N Q0 F c f b e u q i d N r s o t p)):_)
theorem RE (F:KF R) (c:LA) (f:Nat) (b:Bool) (d:LA):∀ (n:Nat) (e g:Int) (l:Bool) (m:LA),Ak (kU N F) n (Su c f b d e g l m)=(E6 N (E7 F) c f b d n e g l m)
 | 0,_,_,_,_=>by kernel_rfl
 | n+1,e,g,l,m=>have e0:=(funext fun e=>funext fun g=>funext fun l=>funext fun m=>(RE F c f b d n e g l m))
  Eq.trans (by kernel_rfl) (OQ (Qh N (E7 F) c f b d · · e g l m) e0 (funext fun x=>funext fun w=>funext fun v=>funext fun i=>(A1 ..).trans ((tW N (Ak (kU N F) n) F c f b e d x w v i).trans (Bt (Ss N · (E7 F) c f b e d x w v i) e0))):_)
theorem kV (b:Bool) (d:LA) (F:KF R):Cw (qP N) kT N 177 [(.optr 100000 0)] [(100000,(bP b 0 d))] F=(T6 N b d (E7 F)):=by
 rw[eu]
 exact Eq.trans (by kernel_rfl) (Bt (L_ N (E7 F) · b d) (funext fun c=>funext fun f=>funext fun e=>funext fun g=>funext fun l=>funext fun m=>(Ad ..).trans (RE N F c f b d N e g l m)):_)
def ew (a:LA) (h:Aj) (k:KF R):O R :=
 match a,h with
 | [(.optr 100000 0)],[(100000,⟨false,false,true,b,0,d,false,none⟩)]=>(T6 N b d (E7 k))
 | _,_=>none
theorem kW:An N 177 @ew:=by
 intro R Q a h k j;unfold ew;split;exact A2 (kV ..) (kV ..) ⟨BK N,Ait N,Dj N,CI N,Av5 N,trivial⟩;exact A4
def Aiy:=A3 (kW N)
def Aiz:=Cz (kW N)
def Fz (N:Nat) (r0:Int→O R) (c:LA) (b:Nat) (e f:Bool) (d:Int) (k0:Int→Int→O R) (i g:Int):O R :=
 (cond (decide (g<i)) (cond (Ae g b) (Ap .i64 (c.drop ((g.toNat)*1)) fun l=>(cond (d==l) (r0 g) (k0 i (wrap .i64 (g+1))))) none) (r0 (-1)))
def Cj (r0:Int→O R) (c:LA) (b:Nat) (e f:Bool) (d:Int):Nat→Int→Int→O R
 | 0,_,_=>none
 | n+1,i,g=>(Fz N r0 c b e f d (Cj r0 c b e f d n) i g)
def Hs (N:Nat) (r0:Int→O R) (q0:Int→Int→O R) (c:LA) (b:Nat) (e f:Bool) (d:Int):O R :=
 (q0 ((b:Nat):Int) 0)
def F4:=(Ag (fun (N:Nat) (c:LA) (b:Nat) (e f:Bool) (d:Int) (r0:Int→O R)=>(Hs N r0 (fun i g=>(Cj N r0 c b e f d N i g)) c b e f d))).1
theorem Rq (c b e f d r0):(@F4 R N c b e f d r0)=(Hs N r0 (fun i g=>(Cj N r0 c b e f d N i g)) c b e f d):=by rw[F4,(Ag _).2]
def NK (F:KF R):=Ju Tryz.f303 iz [] [] N F
def Eh (F:KF R):Int→O R:=(fun m=>F (iv m) [])
def NL (c:LA) (b:Nat) (e f:Bool) (d i g:Int):St:=⟨[(0,(.imm c b 1 e f)),(1,(iv d)),(7,(iv i)),(8,(iv g))],[]⟩
def NM (F:KF R):=NK N F [1,0,1,0] []
theorem O4 (F:KF R) (c:LA) (b:Nat) (e f:Bool) (d:Int):∀ (n:Nat) (i g:Int),Ak (NM N F) n (NL c b e f d i g)=(Cj N (Eh F) c b e f d n i g)
 | 0,_,_=>by kernel_rfl
 | n+1,i,g=>Eq.trans (by kernel_rfl) (Bt (Fz N (Eh F) c b e f d · i g) (funext fun i=>funext fun g=>(O4 F c b e f d n i g)):_)
theorem Sv (c:LA) (b:Nat) (e f:Bool) (d:Int) (F:KF R):Cw [] iz N 303 [(.imm c b 1 e f),(iv d)] [] F=(F4 N c b e f d (Eh F)):=by
 rw[Rq]
 exact Eq.trans (by kernel_rfl) (Bt (Hs N (Eh F) · c b e f d) (funext fun i=>funext fun g=>(Ad ..).trans (O4 N F c b e f d N i g)):_)
def Rr (a:LA) (h:Aj) (k:KF R):O R :=
 match a,h with
 | [(.imm c b 1 e f),(.int .i64 d)],[]=>(F4 N c b e f d (Eh k))
 | _,_=>none
theorem Sw:An N 303 @Rr:=by
 intro R Q a h k j;unfold Rr;split;exact A2 (Sv ..) (Sv ..) trivial;exact A4
def NN:=A3 (Sw N)
def NO:=Cz (Sw N)
def Js (b:LA) (c:Nat) (f d:Bool) (e:Int) (r0:Bool→O R):O R :=
 (F4 N b c false d e (fun g=>(r0 (decide (g≥0)))))
def Dg:=(Ag (@Js R)).1
theorem N2:@Dg R=@Js R:=(Ag _).2
def IJ:F2:=[(303,NN N)]
def O5 (F:KF R):Bool→O R:=(fun i=>F (.bool i) [])
theorem O6 (b:LA) (c:Nat) (f d:Bool) (e:Int) (F:KF R):Cw (IJ N) Cr N 285 [(.imm b c 1 f d),(iv e)] [] F=(Dg N b c f d e (O5 F)):=by
 rw[N2]
 kernel_rfl
def N3 (a:LA) (h:Aj) (k:KF R):O R :=
 match a,h with
 | [(.imm b c 1 f d),(.int .i64 e)],[]=>(Dg N b c f d e (O5 k))
 | _,_=>none
theorem O7:An N 285 @N3:=by
 intro R Q a h k j;unfold N3;split;exact A2 (O6 ..) (O6 ..) ⟨NO N,trivial⟩;exact A4
def O8:=A3 (O7 N)
def O9:=Cz (O7 N)
def Zs (r0:Nat→LA→O R) (b:Int) (f:LA) (g:Nat) (c:Bool) (k0:Nat→Int→Int→LA→O R) (e:Nat) (i d:Int) (l:LA):O R :=
 (cond (decide (d<i)) (cond (Ae d g) (cond (Nat.ble 12 ((f.drop ((d.toNat)*12)).length)) (cond ((Nat.beq 0 0)&&((Nat.beq (((f.drop ((d.toNat)*12)).take 12).length) 12)&&(Nat.beq 12 12))) (Br 1 (((f.drop ((d.toNat)*12)).take 12).drop 11) fun o p=>(Dg N o p false c b (fun q=>(cond (!q) (cond ((Nat.ble (e+1) 140737488355328)&&(Nat.ble ((e+1)*8) 140737488355328)) (k0 (e+1) i (wrap .i64 (d+1)) ((l.take (e*1))++[(.int .i64 d)])) none) (k0 e i (wrap .i64 (d+1)) l))))) none) none) none) (r0 e l))
def No (r0:Nat→LA→O R) (b:Int) (f:LA) (g:Nat) (c:Bool):Nat→Nat→Int→Int→LA→O R
 | 0,_,_,_,_=>none
 | n+1,e,i,d,l=>(Zs N r0 b f g c (No r0 b f g c n) e i d l)
def VB (N:Nat) (r0:Nat→LA→O R) (q0:LA→Nat→Nat→Int→Int→LA→O R) (m:LA) (c:Bool) (b:Int):O R :=
 (Br 12 (m.drop 3) fun f g=>(q0 f g 0 ((g:Nat):Int) 0 []))
def FX:=(Ag (fun (N:Nat) (m:LA) (c:Bool) (b:Int) (r0:Nat→LA→O R)=>(VB N r0 (fun f g e i d l=>(No N r0 b f g c N e i d l)) m c b))).1
theorem kX (m c b r0):(@FX R N m c b r0)=(VB N r0 (fun f g e i d l=>(No N r0 b f g c N e i d l)) m c b):=by rw[FX,(Ag _).2]
def qQ:Hints:={ H:=(hS hL (hS hL (hS (hS hL (hS (hP [1,5,9,10,11] hL) hL)) hL))),nils:=[(4,1),(5,1)],modes:=[(2,1)] }
def wy:F2:=[(285,O8 N)]
def Ap6 (F:KF R):=Ju Tryz.f250 qQ (wy N) [] N F
def We (F:KF R):Nat→LA→O R:=(fun r s=>F (.own 300000 0 r) (hq [(bQ 1 s)]))
def Ap7 (b:Int) (f:LA) (g:Nat) (c:Bool) (e:Nat) (i d:Int) (l:LA):St:=⟨[(1,(iv b)),(5,(.own 300000 0 e)),(9,(.imm f g 12 false c)),(10,(iv i)),(11,(iv d))],(hq [(bQ 1 l)])⟩
def Ap8 (F:KF R):=Ap6 N F [1,1,0,1,0] []
theorem ZK (F:KF R) (b:Int) (f:LA) (g:Nat) (c:Bool):∀ (n e:Nat) (i d:Int) (l:LA),Ak (Ap8 N F) n (Ap7 b f g c e i d l)=(No N (We F) b f g c n e i d l)
 | 0,_,_,_,_=>by kernel_rfl
 | n+1,e,i,d,l=>Eq.trans (by kernel_rfl) (Bt (Zs N (We F) b f g c · e i d l) (funext fun e=>funext fun i=>funext fun d=>funext fun l=>(ZK F b f g c n e i d l)):_)
theorem qR (m:LA) (c:Bool) (b:Int) (F:KF R):Cw (wy N) qQ N 250 [(.pagg m c),(iv b)] [] F=(FX N m c b (We F)):=by
 rw[kX]
 exact Eq.trans (by kernel_rfl) (Bt (VB N (We F) · m c b) (funext fun f=>funext fun g=>funext fun e=>funext fun i=>funext fun d=>funext fun l=>(Ad ..).trans (ZK N F b f g c N e i d l)):_)
def kY (a:LA) (h:Aj) (k:KF R):O R :=
 match a,h with
 | [(.pagg m c),(.int .i64 b)],[]=>(FX N m c b (We k))
 | _,_=>none
theorem qS:An N 250 @kY:=by
 intro R Q a h k j;unfold kY;split;exact A2 (qR ..) (qR ..) ⟨O9 N,trivial⟩;exact A4
def Ap9:=A3 (qS N)
def Aqa:=Cz (qS N)
def G9 (N:Nat) (r0:O R) (b:Int) (k0:O R):O R :=
 r0
def Dm (r0:O R) (b:Int):Nat→O R
 | 0=>none
 | n+1=>(G9 N r0 b (Dm r0 b n))
def F0 (N:Nat) (r0:O R) (q0:O R) (b:Int):O R :=
 q0
def Ei:=(Ag (fun (N:Nat) (b:Int) (r0:O R)=>(F0 N r0 (Dm N r0 b N) b))).1
theorem N4 (b r0):(@Ei R N b r0)=(F0 N r0 (Dm N r0 b N) b):=by rw[Ei,(Ag _).2]
def ES (F:KF R):=Ju Tryz.f303 iz [] [] N F
def Dn (F:KF R):O R:=F (iv (-1)) []
def ET (b:Int):St:=⟨[(0,.nsl),(1,(iv b)),(7,(iv 0)),(8,(iv 0))],[]⟩
def EU (F:KF R):=ES N F [1,0,1,0] []
theorem Lz (F:KF R) (b:Int):∀ (n:Nat) ,Ak (EU N F) n (ET b)=(Dm N (Dn F) b n)
 | 0=>by kernel_rfl
 | n+1=>Eq.trans (by kernel_rfl) (Bt (G9 N (Dn F) b ·) (Lz F b n):_)
theorem Pa (b:Int) (F:KF R):Cw [] iz N 303 [.nsl,(iv b)] [] F=(Ei N b (Dn F)):=by
 rw[N4]
 exact Eq.trans (by kernel_rfl) (Bt (F0 N (Dn F) · b) ((Ad ..).trans (Lz N F b N)):_)
def N5 (a:LA) (h:Aj) (k:KF R):O R :=
 match a,h with
 | [.nsl,(.int .i64 b)],[]=>(Ei N b (Dn k))
 | _,_=>none
theorem Pb:An N 303 @N5:=by
 intro R Q a h k j;unfold N5;split;exact A2 (Pa ..) (Pa ..) trivial;exact A4
def EV:=A3 (Pb N)
def EW:=Cz (Pb N)
def Ha (b:Int) (r0:O R):O R :=
 (Ei N b r0)
def Do:=(Ag (@Ha R)).1
theorem La:@Do R=@Ha R:=(Ag _).2
def BP:F2:=[(303,EV N)]
def L0 (F:KF R):O R:=F (.bool false) []
theorem L1 (b:Int) (F:KF R):Cw (BP N) Cr N 285 [.nsl,(iv b)] [] F=(Do N b (L0 F)):=by
 rw[La]
 kernel_rfl
def Lb (a:LA) (h:Aj) (k:KF R):O R :=
 match a,h with
 | [.nsl,(.int .i64 b)],[]=>(Do N b (L0 k))
 | _,_=>none
theorem L2:An N 285 @Lb:=by
 intro R Q a h k j;unfold Lb;split;exact A2 (L1 ..) (L1 ..) ⟨EW N,trivial⟩;exact A4
def Yi:=A3 (L2 N)
def Yj:=Cz (L2 N)
end
end Gx

namespace Gx.Cf
open Go Go.Proofs
section
variable {R:Type}
theorem MA {N:Nat} {l:List Int} {t o:Bool} {K:Bool→O R} (hs:l.length<4611686018427387904):∀ (m j fuel:Nat),j+1+m=l.length→m<fuel →
  Fu N K (Aq l) l.length t o fuel ((j+1:Nat):Int)=K (pQ (l.drop j))
 | 0,j,fuel+1,c,_=>by
  rw[Fu];unfold Ly
  rw[Jf (by omega),cf,Cd (by omega),C9 (by omega),gf]
 | m+1,j,fuel+1,c,d=>by
  rw[Fu];unfold Ly
  have h:j+1<l.length:=by omega
  have h':j<l.length:=by omega
  rw[Hy h,ct,Ab h,ct,HO h,pR (by omega),Ab h',ct,HO h',Bo (by omega),MA hs m (j+1) fuel (by omega) (by omega),Cd h',Cd h,FV]
  by_cases b:l[j+1]≤l[j]
  ·have:¬ l[j]<l[j+1]:=by omega
   simp[b,this]
  ·have:l[j]<l[j+1]:=by omega
   simp[b,this]
theorem Wf {N:Nat} {l:List Int} {n:Nat} {t o:Bool} {K:Bool→O R} (hn:n=l.length) (hs:E2 l.length N):Kg N (Aq l) n t o K=K (pQ l):=by
 subst hn
 rw[QT];unfold Zq
 rcases l with _ | ⟨a,r⟩
 ·have hN:=hs.1
  rcases N with _ | N
  ·simp at hN
  ·dsimp only;rw[Fu];unfold Ly;simp[zF]
 ·have:=MA (R:=R) (N:=N) (t:=t) (o:=o) (K:=K) hs.2 r.length 0 N (by simp;omega) (by have:=hs.1;simp at this;omega)
  simpa using this
theorem Afi {N:Nat} {v:Int} {l:List Int} {t o:Bool} {K:Int→O R} (hs:l.length<4611686018427387904):∀ (m j fuel:Nat),j+m=l.length→m<fuel →
  ∃ r:Int,(decide (r≥0)=(l.drop j).contains v)∧Cj N K (Aq l) l.length t o v fuel (l.length:Int) (j:Int)=K r
 | 0,j,fuel+1,b,_=>by
  rw[Cj];unfold Fz
  rw[Jf (by omega),cf,C9 (by omega)];exact⟨-1,by simp,rfl⟩
 | m+1,j,fuel+1,b,c=>by
  rw[Cj];unfold Fz
  have h:j<l.length:=by omega
  rw[Hy h,ct,Ab h,ct,HO h,Bo (by omega),Cd h,List.contains_cons]
  cases d:v==l[j] with
  | true=>exact⟨j,by simp,rfl⟩
  | false=>simpa using Afi hs m (j+1) fuel (by omega) (by omega)
theorem kZ {N:Nat} {v:Int} {l:List Int} {n:Nat} {t o:Bool} {K:Bool→O R} (hn:n=l.length) (hs:E2 l.length N):Dg N (Aq l) n t o v K=K (l.contains v):=by
 subst hn
 rw[N2];unfold Js
 rw[Rq];unfold Hs
 obtain⟨r,b,c⟩:=Afi (R:=R) (N:=N) (v:=v) (t:=false) (o:=o) (K:=fun y1=>K (decide (y1≥0))) hs.2 l.length 0 N (by omega) hs.1
 simp only[List.drop_zero] at b
 rw[←b]
 simpa using c
theorem Aqb {N:Nat} {v:Int} {K:O R} (hN:8≤N):Do N v K=K:=by
 rw[La];unfold Ha
 rw[N4];unfold F0
 rcases N with _ | N
 ·omega
 ·rw[Dm];unfold G9;rfl
end
end Gx.Cf

namespace Gx.Cf
open Go Go.Proofs
section
variable {R:Type}
theorem L3 {c:CaseD} {p:Df} {k i:Int} {f:Int→O R}:Ap .i64 (List.drop 11 (Dd c p k i)) f=f (Bp p):=by
 rcases p with _ | ⟨⟨a,b,d⟩,e,j⟩<;>simp[Dd,CaseD.av,OR,A6,Bp]
theorem tX {c:CaseD} {k i:Int} {f:Int→O R}:Ap .i64 (List.drop 9 (Dd c none k i)) f=f i:=by simp[Dd,CaseD.av,OR,A6]
theorem qT {c:CaseD} {p:Df} {k i:Int} {f:Int→O R}:Ap .i64 (Dd c p k i) f=f c.hours:=by simp[Dd,CaseD.av,A6]
theorem A06 {c:CaseD} {p:Df} {k i:Int} {f:LA→Nat→O R}:Br 1 (List.drop 1 (Dd c p k i)) f=f (Aq c.reserve.l) c.reserve.l.length:=by simp[Dd,CaseD.av,Ed,Fl]
theorem qU {c:CaseD} {p:Df} {k i:Int} {f:LA→Nat→O R}:Br 3 (List.drop 2 (Dd c p k i)) f=f (c.buses.l.flatMap BusD.av) c.buses.l.length:=by simp[Dd,CaseD.av,Ed]
theorem qV {c:CaseD} {p:Df} {k i:Int} {f:LA→Nat→O R}:Br 12 (List.drop 3 (Dd c p k i)) f=f (c.lines.l.flatMap LineD.av) c.lines.l.length:=by simp[Dd,CaseD.av,Ed]
theorem qW {c:CaseD} {p:Df} {k i:Int} {f:LA→Nat→O R}:Br 22 (List.drop 4 (Dd c p k i)) f=f (c.units.l.flatMap UnitD.av) c.units.l.length:=by simp[Dd,CaseD.av,Ed]
theorem tY {c:CaseD} {p:Df} {k i:Int} {f:LA→Nat→O R}:Br 9 (List.drop 5 (Dd c p k i)) f=f (c.stores.l.flatMap StoreD.av) c.stores.l.length:=by simp[Dd,CaseD.av,Ed]
theorem Aqc {c:CaseD} {p:Df} {k i:Int} {f:LA→Nat→O R}:Br 5 (List.drop 6 (Dd c p k i)) f=f (c.ties.l.flatMap TieD.av) c.ties.l.length:=by simp[Dd,CaseD.av,Ed]
theorem zI {c:CaseD} {p:Df} {k i:Int} {f:LA→Nat→O R}:Br 4 (List.drop 7 (Dd c p k i)) f=f (c.outs.l.flatMap OutD.av) c.outs.l.length:=by simp[Dd,CaseD.av,Ed]
theorem ex {N:Nat} {c:CaseD} {k i f lo hi:Int} {l:List Int} {t o w:Bool} {K:Bool→LA→O R} (hs:l.length<4611686018427387904):∀ (m j fuel:Nat) (p:Df),j+m=l.length→m<fuel →
  Nl N K f lo hi (Aq l) l.length t o fuel (l.length:Int) (j:Int) w (Dd c p k i)=K w (Dd c (nd p ((l.drop j).all (Fm lo hi)) (k,i,f) ⟨3,by decide⟩) k i)
 | 0,j,fuel+1,p,b,_=>by
  rw[Nl];unfold Zp
  rw[Jf (by omega),cf,C9 (by omega),List.all_nil,Gi]
 | m+1,j,fuel+1,p,b,n=>by
  rw[Nl];unfold Zp
  have h:j<l.length:=by omega
  rw[Hy h,ct,Ab h,ct,HO h,L3,Fh,Bo (by omega),ex hs m (j+1) fuel _ (by omega) (by omega),Cd h,List.all_cons,Rp]
  rcases p with _ | ⟨x,e,d⟩
  ·simp[Bp]
  ·have:(e != 0)=true:=by simpa using d
   simp[Bp,this,nd]
theorem Qi {N:Nat} {c:CaseD} {p:Df} {k i f lo hi:Int} {l:List Int} {n:Nat} {t o w:Bool} {K:Bool→LA→O R} (hn:n=l.length) (hs:E2 l.length N) :
  Oh N f (Aq l) n t o lo hi w (Dd c p k i) K=K w (Dd c (ve c.hours l lo hi (k,i,f) p) k i):=by
 subst hn
 rw[jz];unfold UP
 rw[qT,As (by decide)]
 have:=ex (R:=R) (N:=N) (c:=c) (k:=k) (i:=i) (f:=f) (lo:=lo) (hi:=hi) (t:=t) (o:=o) (w:=w) (K:=K) hs.2 l.length 0 N (nd p ((l.length:Int)==c.hours) (k,i,f) ⟨4,by decide⟩) (by omega) hs.1
 simpa[ve] using this
theorem qX {N:Nat} {c:CaseD} {k i f:Int} {l:List Int} {t o w w0:Bool} {h0:LA} {K:Bool→LA→O R} (hs:E2 l.length N):∀ (m j fuel:Nat) (p:Df),j+m=l.length→m<fuel →
  T4 N K f (Aq l) l.length t o w0 h0 fuel (l.length:Int) (j:Int) w (Dd c p k i)=K w (Dd c (nd (nd p ((l.drop j).all (Fm 0 (IntKind.wrap .i64 (c.hours - 1)))) (k,i,f) ⟨3,by decide⟩) (pQ l) (k,i,f) ⟨11,by decide⟩) k i)
 | 0,j,fuel+1,p,b,_=>by
  rw[T4];unfold LH
  rw[Jf (by omega),cf,C9 (by omega),List.all_nil,Gi,Wf rfl hs,As (by decide)]
 | m+1,j,fuel+1,p,b,q=>by
  rw[T4];unfold LH
  have h:j<l.length:=by omega
  have d:=hs.2
  rw[Hy h,ct,Ab h,ct,HO h,L3,qT,Fh,Bo (by omega),qX hs m (j+1) fuel _ (by omega) (by omega),Cd h,List.all_cons,Rp]
  rcases p with _ | ⟨x,e,n⟩
  ·simp[Bp]
  ·have:(e != 0)=true:=by simpa using n
   simp[Bp,this,nd]
theorem qY {N:Nat} {c:CaseD} {p:Df} {k i f:Int} {l:List Int} {n:Nat} {t o w:Bool} {K:Bool→LA→O R} (hn:n=l.length) (hs:E2 l.length N) :
  UU N f (Aq l) n t o w (Dd c p k i) K=K w (Dd c (pT c.hours l (k,i,f) p) k i):=by
 subst hn
 rw[wc];unfold pw
 have:=qX (R:=R) (N:=N) (c:=c) (k:=k) (i:=i) (f:=f) (t:=t) (o:=o) (w:=w) (w0:=w) (h0:=Dd c p k i) (K:=K) hs l.length 0 N p (by omega) hs.1
 simpa[pT] using this
theorem MB {N:Nat} {c:CaseD} {p:Df} {k i f b:Int} {w:Bool} {K:Bool→LA→O R} :
  UT N f b w (Dd c p k i) K=K w (Dd c (nd p (jn c b) (k,i,f) ⟨12,by decide⟩) k i):=by
 rw[Aeq];unfold Ap0
 rw[qU,As (by decide),As (by decide)]
 unfold jn
 cases h:decide (b≥0) with
 | true=>simp at h;simp[h]
 | false=>simp at h;simp[show ¬ 0≤b by omega]
theorem k8 {N:Nat} {f:FracD} {o:Bool} {K:Bool→O R}:BN N [.int .i64 f.num,.int .i64 f.den] o K=K (K3 f):=by
 rw[pu];unfold tT
 simp only[List.drop_succ_cons,List.drop_zero,A6]
 unfold K3 Fm
 by_cases b:1≤f.den<;>by_cases c:f.den≤1048576<;>by_cases d:-1048576≤f.num<;>simp[b,c,d]
theorem qZ {N:Nat} {s:List UInt8} {K:Bool→O R} (hs:s.length<4611686018427387904):∀ (m j fuel:Nat),j+m=s.length→m<fuel →
  X9 N K s fuel (s.length:Int) (j:Int)=K ((s.drop j).all A64)
 | 0,j,fuel+1,b,_=>by
  rw[X9];unfold LF
  rw[Jf (by omega),cf,C9 (by omega)];rfl
 | m+1,j,fuel+1,b,k=>by
  rw[X9];unfold LF
  have h:j<s.length:=by omega
  rw[Hy h,ct,Ab h,ct,Bo (by omega),qZ hs m (j+1) fuel (by omega) (by omega),Cd h,List.all_cons,Apc h]
  unfold A64 tK
  generalize s[j].toNat=v
  generalize (s.drop (j+1)).all _=r
  by_cases c:97≤v<;>by_cases d:v≤122<;>by_cases e:48≤v<;>by_cases f:v≤57<;>by_cases i:v=95 <;>
   simp[c,d,e,f,show((v:Int)<97)↔¬ 97≤v by omega,show((v:Int)<48)↔¬ 48≤v by omega,show((122:Int)<v)↔¬ v≤122 by omega,show((57:Int)<v)↔¬ v≤57 by omega,show((v:Int) != 95)=!decide (v=95) by (by_cases v=95<;>simp_all<;>omega),i]
theorem Rl {N:Nat} {s:List UInt8} {K:Bool→O R} (hN:64≤N):V7 N s K=K (Rt s):=by
 rw[wT];unfold pm US eF
 dsimp only
 unfold Rt
 by_cases b:1≤s.length
 ·by_cases c:s.length≤16
  ·have d:=qZ (R:=R) (N:=N) (s:=s) (K:=K) (by omega) s.length 0 N (by omega) (by omega)
   simp only[List.drop_zero,Int.natCast_zero] at d
   rw[d]
   have h0:Ae 0 s.length=true:=Ab (i:=0) (by omega)
   rw[h0]
   simp only[b,c,show(decide ((s.length:Int)<1))=false by simp;omega,show(decide ((s.length:Int)>16))=false by simp;omega,decide_true,cond_true,cond_false,beq_self_eq_true]
   cases s==[99,111,114,114,101,99,116,105,118,101]
   ·unfold tK
    generalize (List.getD s 0 0).toNat=v
    by_cases e:97≤v<;>by_cases f:v≤122<;>simp[e,f,show((v:Int)<97)↔¬ 97≤v by omega,show((122:Int)<v)↔¬ v≤122 by omega]
   ·simp
  ·simp[b,c,show((s.length:Int)<1)↔¬ 1≤s.length by omega,show((16:Int)<s.length)↔¬ s.length≤16 by omega]
 ·simp[b,show((s.length:Int)<1)↔¬ 1≤s.length by omega]
end
end Gx.Cf

namespace Gx.Cf
open Go Go.Proofs
section
variable {R:Type}
theorem q_ {N:Nat} {c:CaseD} {p:Df} {k i:Int} {w:Bool} {j:Nat} {K:List UInt8→O R} (h:j<c.buses.l.length):V8 N (j:Int) w (Dd c p k i) K=K c.buses.l[j].name:=by
 rw[QO];unfold NG
 rw[qU,Ab h,ct,Int.toNat_natCast,At Kb _ _ h]
 simp[BusD.av,Eu]
theorem qa {N:Nat} {c:CaseD} {k i:Int} {s:List UInt8} {w:Bool} {K:Bool→LA→O R} {n:Nat} (hn:n≤c.buses.l.length) (hs:n<4611686018427387904):∀ (m j fuel:Nat) (p:Df),j+m=n→m<fuel →
  P7 N K s (n:Int) fuel (j:Int) w (Dd c p k i)=K w (Dd c (nd p ((((c.buses.l.map (·.name)).take n).drop j).all fun x=>!(x==s)) (k,i,0) ⟨10,by decide⟩) k i)
 | 0,j,fuel+1,p,b,_=>by
  rw[P7];unfold BL
  rw[Jf (by omega),cf,C9 (by simp;omega),List.all_nil,Gi]
 | m+1,j,fuel+1,p,b,t=>by
  rw[P7];unfold BL
  have h:j<c.buses.l.length:=by omega
  have d:j<((c.buses.l.map (·.name)).take n).length:=by simp;omega
  rw[Hy (by omega),ct,L3,q_ h,As (by decide),Bo (by omega),qa hn hs m (j+1) fuel _ (by omega) (by omega),Cd d,List.all_cons,Rp]
  have e:((c.buses.l.map (·.name)).take n)[j]=c.buses.l[j].name:=by simp
  rw[e]
  rcases p with _ | ⟨x,f,q⟩
  ·simp[Bp]
  ·have:(f != 0)=true:=by simpa using q
   simp[Bp,this,nd]
theorem Aqd {N:Nat} {c:CaseD} {p:Df} {k:Int} {n:Nat} {s:List UInt8} {w:Bool} {K:Bool→LA→O R} (hN:64≤N) (hn:n≤c.buses.l.length) (hs:E2 n N) :
  gp N s w (Dd c p k (n:Int)) K=K w (Dd c (Lu ((c.buses.l.map (·.name)).take n) k n s p) k n):=by
 rw[wV];unfold po
 rw[Rl hN,As (by decide)]
 unfold Lu
 cases m:nd p (Rt s) (k,(n:Int),0) ⟨9,by decide⟩ with
 | none =>
  rw[tX]
  have:=qa (R:=R) (N:=N) (c:=c) (k:=k) (i:=n) (s:=s) (w:=w) (K:=K) hn hs.2 n 0 N none (by omega) hs.1
  simpa using this
 | some x =>
  obtain⟨⟨a,b,f⟩,e,d⟩:=x
  have j:∀ g:Int→O R,Ap .i64 (List.drop 9 (Dd c (some ((a,b,f),⟨e,d⟩)) k n)) g=g b:=by intro g;simp[Dd,CaseD.av,OR,A6]
  rw[j,SZ]
  rcases N with _ | N
  ·omega
  ·dsimp only
   rw[P7];unfold BL
   rw[L3]
   have:(e != 0)=true:=by simpa using d
   cases decide (0<b)<;>simp[Bp,this]
theorem qb {N:Nat} {c:CaseD} {p:Df} {k i:Int} {w:Bool} {j:Nat} {K:List UInt8→O R} (h:j<c.lines.l.length):V9 N (j:Int) w (Dd c p k i) K=K c.lines.l[j].name:=by
 rw[QQ];unfold NH
 rw[qV,Ab h,ct,Int.toNat_natCast,At Ce _ _ h]
 simp[LineD.av,Eu]
theorem ZL {N:Nat} {c:CaseD} {k i:Int} {s:List UInt8} {w:Bool} {K:Bool→LA→O R} {n:Nat} (hn:n≤c.lines.l.length) (hs:n<4611686018427387904):∀ (m j fuel:Nat) (p:Df),j+m=n→m<fuel →
  H1 N K s (n:Int) fuel (j:Int) w (Dd c p k i)=K w (Dd c (nd p ((((c.lines.l.map (·.name)).take n).drop j).all fun x=>!(x==s)) (k,i,0) ⟨10,by decide⟩) k i)
 | 0,j,fuel+1,p,b,_=>by
  rw[H1];unfold P9
  rw[Jf (by omega),cf,C9 (by simp;omega),List.all_nil,Gi]
 | m+1,j,fuel+1,p,b,t=>by
  rw[H1];unfold P9
  have h:j<c.lines.l.length:=by omega
  have d:j<((c.lines.l.map (·.name)).take n).length:=by simp;omega
  rw[Hy (by omega),ct,L3,qb h,As (by decide),Bo (by omega),ZL hn hs m (j+1) fuel _ (by omega) (by omega),Cd d,List.all_cons,Rp]
  have e:((c.lines.l.map (·.name)).take n)[j]=c.lines.l[j].name:=by simp
  rw[e]
  rcases p with _ | ⟨x,f,q⟩
  ·simp[Bp]
  ·have:(f != 0)=true:=by simpa using q
   simp[Bp,this,nd]
theorem yh {N:Nat} {c:CaseD} {p:Df} {k:Int} {n:Nat} {s:List UInt8} {w:Bool} {K:Bool→LA→O R} (hN:64≤N) (hn:n≤c.lines.l.length) (hs:E2 n N) :
  Yc N s w (Dd c p k (n:Int)) K=K w (Dd c (Lu ((c.lines.l.map (·.name)).take n) k n s p) k n):=by
 rw[eJ];unfold LG
 rw[Rl hN,As (by decide)]
 unfold Lu
 cases m:nd p (Rt s) (k,(n:Int),0) ⟨9,by decide⟩ with
 | none =>
  rw[tX]
  have:=ZL (R:=R) (N:=N) (c:=c) (k:=k) (i:=n) (s:=s) (w:=w) (K:=K) hn hs.2 n 0 N none (by omega) hs.1
  simpa using this
 | some x =>
  obtain⟨⟨a,b,f⟩,e,d⟩:=x
  have j:∀ g:Int→O R,Ap .i64 (List.drop 9 (Dd c (some ((a,b,f),⟨e,d⟩)) k n)) g=g b:=by intro g;simp[Dd,CaseD.av,OR,A6]
  rw[j,SZ]
  rcases N with _ | N
  ·omega
  ·dsimp only
   rw[H1];unfold P9
   rw[L3]
   have:(e != 0)=true:=by simpa using d
   cases decide (0<b)<;>simp[Bp,this]
theorem qc {N:Nat} {c:CaseD} {p:Df} {k i:Int} {w:Bool} {j:Nat} {K:List UInt8→O R} (h:j<c.units.l.length):Wa N (j:Int) w (Dd c p k i) K=K c.units.l[j].name:=by
 rw[QV];unfold NI
 rw[qW,Ab h,ct,Int.toNat_natCast,At Cg _ _ h]
 simp[UnitD.av,Eu]
theorem ZM {N:Nat} {c:CaseD} {k i:Int} {s:List UInt8} {w:Bool} {K:Bool→LA→O R} {n:Nat} (hn:n≤c.units.l.length) (hs:n<4611686018427387904):∀ (m j fuel:Nat) (p:Df),j+m=n→m<fuel →
  H2 N K s (n:Int) fuel (j:Int) w (Dd c p k i)=K w (Dd c (nd p ((((c.units.l.map (·.name)).take n).drop j).all fun x=>!(x==s)) (k,i,0) ⟨10,by decide⟩) k i)
 | 0,j,fuel+1,p,b,_=>by
  rw[H2];unfold Qa
  rw[Jf (by omega),cf,C9 (by simp;omega),List.all_nil,Gi]
 | m+1,j,fuel+1,p,b,t=>by
  rw[H2];unfold Qa
  have h:j<c.units.l.length:=by omega
  have d:j<((c.units.l.map (·.name)).take n).length:=by simp;omega
  rw[Hy (by omega),ct,L3,qc h,As (by decide),Bo (by omega),ZM hn hs m (j+1) fuel _ (by omega) (by omega),Cd d,List.all_cons,Rp]
  have e:((c.units.l.map (·.name)).take n)[j]=c.units.l[j].name:=by simp
  rw[e]
  rcases p with _ | ⟨x,f,q⟩
  ·simp[Bp]
  ·have:(f != 0)=true:=by simpa using q
   simp[Bp,this,nd]
theorem yi {N:Nat} {c:CaseD} {p:Df} {k:Int} {n:Nat} {s:List UInt8} {w:Bool} {K:Bool→LA→O R} (hN:64≤N) (hn:n≤c.units.l.length) (hs:E2 n N) :
  Yd N s w (Dd c p k (n:Int)) K=K w (Dd c (Lu ((c.units.l.map (·.name)).take n) k n s p) k n):=by
 rw[eO];unfold LK
 rw[Rl hN,As (by decide)]
 unfold Lu
 cases m:nd p (Rt s) (k,(n:Int),0) ⟨9,by decide⟩ with
 | none =>
  rw[tX]
  have:=ZM (R:=R) (N:=N) (c:=c) (k:=k) (i:=n) (s:=s) (w:=w) (K:=K) hn hs.2 n 0 N none (by omega) hs.1
  simpa using this
 | some x =>
  obtain⟨⟨a,b,f⟩,e,d⟩:=x
  have j:∀ g:Int→O R,Ap .i64 (List.drop 9 (Dd c (some ((a,b,f),⟨e,d⟩)) k n)) g=g b:=by intro g;simp[Dd,CaseD.av,OR,A6]
  rw[j,SZ]
  rcases N with _ | N
  ·omega
  ·dsimp only
   rw[H2];unfold Qa
   rw[L3]
   have:(e != 0)=true:=by simpa using d
   cases decide (0<b)<;>simp[Bp,this]
theorem mf {N:Nat} {c:CaseD} {p:Df} {k i:Int} {w:Bool} {j:Nat} {K:List UInt8→O R} (h:j<c.stores.l.length):So N (j:Int) w (Dd c p k i) K=K c.stores.l[j].name:=by
 rw[LP];unfold IF
 rw[tY,Ab h,ct,Int.toNat_natCast,At Ga _ _ h]
 simp[StoreD.av,Eu]
theorem ZN {N:Nat} {c:CaseD} {k i:Int} {s:List UInt8} {w:Bool} {K:Bool→LA→O R} {n:Nat} (hn:n≤c.stores.l.length) (hs:n<4611686018427387904):∀ (m j fuel:Nat) (p:Df),j+m=n→m<fuel →
  H3 N K s (n:Int) fuel (j:Int) w (Dd c p k i)=K w (Dd c (nd p ((((c.stores.l.map (·.name)).take n).drop j).all fun x=>!(x==s)) (k,i,0) ⟨10,by decide⟩) k i)
 | 0,j,fuel+1,p,b,_=>by
  rw[H3];unfold Qc
  rw[Jf (by omega),cf,C9 (by simp;omega),List.all_nil,Gi]
 | m+1,j,fuel+1,p,b,t=>by
  rw[H3];unfold Qc
  have h:j<c.stores.l.length:=by omega
  have d:j<((c.stores.l.map (·.name)).take n).length:=by simp;omega
  rw[Hy (by omega),ct,L3,mf h,As (by decide),Bo (by omega),ZN hn hs m (j+1) fuel _ (by omega) (by omega),Cd d,List.all_cons,Rp]
  have e:((c.stores.l.map (·.name)).take n)[j]=c.stores.l[j].name:=by simp
  rw[e]
  rcases p with _ | ⟨x,f,q⟩
  ·simp[Bp]
  ·have:(f != 0)=true:=by simpa using q
   simp[Bp,this,nd]
theorem yj {N:Nat} {c:CaseD} {p:Df} {k:Int} {n:Nat} {s:List UInt8} {w:Bool} {K:Bool→LA→O R} (hN:64≤N) (hn:n≤c.stores.l.length) (hs:E2 n N) :
  Ye N s w (Dd c p k (n:Int)) K=K w (Dd c (Lu ((c.stores.l.map (·.name)).take n) k n s p) k n):=by
 rw[eX];unfold LR
 rw[Rl hN,As (by decide)]
 unfold Lu
 cases m:nd p (Rt s) (k,(n:Int),0) ⟨9,by decide⟩ with
 | none =>
  rw[tX]
  have:=ZN (R:=R) (N:=N) (c:=c) (k:=k) (i:=n) (s:=s) (w:=w) (K:=K) hn hs.2 n 0 N none (by omega) hs.1
  simpa using this
 | some x =>
  obtain⟨⟨a,b,f⟩,e,d⟩:=x
  have j:∀ g:Int→O R,Ap .i64 (List.drop 9 (Dd c (some ((a,b,f),⟨e,d⟩)) k n)) g=g b:=by intro g;simp[Dd,CaseD.av,OR,A6]
  rw[j,SZ]
  rcases N with _ | N
  ·omega
  ·dsimp only
   rw[H3];unfold Qc
   rw[L3]
   have:(e != 0)=true:=by simpa using d
   cases decide (0<b)<;>simp[Bp,this]
theorem tZ {N:Nat} {c:CaseD} {p:Df} {k i:Int} {w:Bool} {j:Nat} {K:List UInt8→O R} (h:j<c.ties.l.length):BO N (j:Int) w (Dd c p k i) K=K c.ties.l[j].name:=by
 rw[ZI];unfold U_
 rw[Aqc,Ab h,ct,Int.toNat_natCast,At Lv _ _ h]
 simp[TieD.av,Eu]
theorem ZO {N:Nat} {c:CaseD} {k i:Int} {s:List UInt8} {w:Bool} {K:Bool→LA→O R} {n:Nat} (hn:n≤c.ties.l.length) (hs:n<4611686018427387904):∀ (m j fuel:Nat) (p:Df),j+m=n→m<fuel →
  H4 N K s (n:Int) fuel (j:Int) w (Dd c p k i)=K w (Dd c (nd p ((((c.ties.l.map (·.name)).take n).drop j).all fun x=>!(x==s)) (k,i,0) ⟨10,by decide⟩) k i)
 | 0,j,fuel+1,p,b,_=>by
  rw[H4];unfold Qd
  rw[Jf (by omega),cf,C9 (by simp;omega),List.all_nil,Gi]
 | m+1,j,fuel+1,p,b,t=>by
  rw[H4];unfold Qd
  have h:j<c.ties.l.length:=by omega
  have d:j<((c.ties.l.map (·.name)).take n).length:=by simp;omega
  rw[Hy (by omega),ct,L3,tZ h,As (by decide),Bo (by omega),ZO hn hs m (j+1) fuel _ (by omega) (by omega),Cd d,List.all_cons,Rp]
  have e:((c.ties.l.map (·.name)).take n)[j]=c.ties.l[j].name:=by simp
  rw[e]
  rcases p with _ | ⟨x,f,q⟩
  ·simp[Bp]
  ·have:(f != 0)=true:=by simpa using q
   simp[Bp,this,nd]
theorem yk {N:Nat} {c:CaseD} {p:Df} {k:Int} {n:Nat} {s:List UInt8} {w:Bool} {K:Bool→LA→O R} (hN:64≤N) (hn:n≤c.ties.l.length) (hs:E2 n N) :
  Yg N s w (Dd c p k (n:Int)) K=K w (Dd c (Lu ((c.ties.l.map (·.name)).take n) k n s p) k n):=by
 rw[ef];unfold LT
 rw[Rl hN,As (by decide)]
 unfold Lu
 cases m:nd p (Rt s) (k,(n:Int),0) ⟨9,by decide⟩ with
 | none =>
  rw[tX]
  have:=ZO (R:=R) (N:=N) (c:=c) (k:=k) (i:=n) (s:=s) (w:=w) (K:=K) hn hs.2 n 0 N none (by omega) hs.1
  simpa using this
 | some x =>
  obtain⟨⟨a,b,f⟩,e,d⟩:=x
  have j:∀ g:Int→O R,Ap .i64 (List.drop 9 (Dd c (some ((a,b,f),⟨e,d⟩)) k n)) g=g b:=by intro g;simp[Dd,CaseD.av,OR,A6]
  rw[j,SZ]
  rcases N with _ | N
  ·omega
  ·dsimp only
   rw[H4];unfold Qd
   rw[L3]
   have:(e != 0)=true:=by simpa using d
   cases decide (0<b)<;>simp[Bp,this]
theorem ic {N:Nat} {c:CaseD} {p:Df} {k i:Int} {w:Bool} {j:Nat} {K:List UInt8→O R} (h:j<c.outs.l.length):Qe N (j:Int) w (Dd c p k i) K=K c.outs.l[j].name:=by
 rw[IH];unfold CJ
 rw[zI,Ab h,ct,Int.toNat_natCast,At Dk _ _ h]
 simp[OutD.av,Eu]
theorem ZP {N:Nat} {c:CaseD} {k i:Int} {s:List UInt8} {w:Bool} {K:Bool→LA→O R} {n:Nat} (hn:n≤c.outs.l.length) (hs:n<4611686018427387904):∀ (m j fuel:Nat) (p:Df),j+m=n→m<fuel →
  H5 N K s (n:Int) fuel (j:Int) w (Dd c p k i)=K w (Dd c (nd p ((((c.outs.l.map (·.name)).take n).drop j).all fun x=>!(x==s)) (k,i,0) ⟨10,by decide⟩) k i)
 | 0,j,fuel+1,p,b,_=>by
  rw[H5];unfold Qf
  rw[Jf (by omega),cf,C9 (by simp;omega),List.all_nil,Gi]
 | m+1,j,fuel+1,p,b,t=>by
  rw[H5];unfold Qf
  have h:j<c.outs.l.length:=by omega
  have d:j<((c.outs.l.map (·.name)).take n).length:=by simp;omega
  rw[Hy (by omega),ct,L3,ic h,As (by decide),Bo (by omega),ZP hn hs m (j+1) fuel _ (by omega) (by omega),Cd d,List.all_cons,Rp]
  have e:((c.outs.l.map (·.name)).take n)[j]=c.outs.l[j].name:=by simp
  rw[e]
  rcases p with _ | ⟨x,f,q⟩
  ·simp[Bp]
  ·have:(f != 0)=true:=by simpa using q
   simp[Bp,this,nd]
theorem ZQ {N:Nat} {c:CaseD} {p:Df} {k:Int} {n:Nat} {s:List UInt8} {w:Bool} {K:Bool→LA→O R} (hN:64≤N) (hn:n≤c.outs.l.length) (hs:E2 n N) :
  Yh N s w (Dd c p k (n:Int)) K=K w (Dd c (Lu ((c.outs.l.map (·.name)).take n) k n s p) k n):=by
 rw[eh];unfold LY
 rw[Rl hN,As (by decide)]
 unfold Lu
 cases m:nd p (Rt s) (k,(n:Int),0) ⟨9,by decide⟩ with
 | none =>
  rw[tX]
  have:=ZP (R:=R) (N:=N) (c:=c) (k:=k) (i:=n) (s:=s) (w:=w) (K:=K) hn hs.2 n 0 N none (by omega) hs.1
  simpa using this
 | some x =>
  obtain⟨⟨a,b,f⟩,e,d⟩:=x
  have j:∀ g:Int→O R,Ap .i64 (List.drop 9 (Dd c (some ((a,b,f),⟨e,d⟩)) k n)) g=g b:=by intro g;simp[Dd,CaseD.av,OR,A6]
  rw[j,SZ]
  rcases N with _ | N
  ·omega
  ·dsimp only
   rw[H5];unfold Qf
   rw[L3]
   have:(e != 0)=true:=by simpa using d
   cases decide (0<b)<;>simp[Bp,this]
end
end Gx.Cf

namespace Gx.Cf
open Go Go.Proofs
section
variable {R:Type}
theorem Ai0 {N:Nat} {c:CaseD} {p:Df} {k i:Int} {w:Bool} {K:Bool→LA→O R} (hs:Small c N):H_ N w (Dd c p k i) K=K w (Dd c (tL c p) 0 0):=by
 rw[pj];unfold gn LD
 simp only[Nm,qT,Fh,A06,Qi rfl hs.res,qU,qV,qW,tY,Aqc,zI,As (show(8:Int)≠0 by decide)]
 unfold tL
 cases h:decide (((c.buses.l.length:Nat):Int)≥1) with
 | true=>simp only[beq_self_eq_true,cond_true];simp only[Fm];simp at h;simp[show(1:Int)≤(c.buses.l.length:Int) by omega]
 | false=>simp only[Fm];simp at h;simp[show ¬ ((1:Int)≤(c.buses.l.length:Int)) by simp;omega]
theorem k_ {N:Nat} {c:CaseD} {w w0:Bool} (hs:Small c N):∀ (m j fuel:Nat) (p:Df) (k i:Int),j+m=c.buses.l.length→m<fuel →
  ∃ e f:Int,∀ K:Bool→LA→O R,P8 N K (c.buses.l.flatMap BusD.av) c.buses.l.length w0 fuel (c.buses.l.length:Int) (j:Int) w (Dd c p k i)=K w (Dd c (Bu (Adq c) (c.buses.l.drop j) j p) e f)
 | 0,j,fuel+1,p,k,i,q,_=>by
  refine⟨k,i,fun K=>?_⟩
  rw[P8];unfold EM
  rw[Jf (by omega),cf,C9 (by omega),Bu]
 | m+1,j,fuel+1,p,k,i,q,y=>by
  have h:j<c.buses.l.length:=by omega
  have hN:=hs.n64
  have d:=hs.bus
  obtain⟨e,f,s⟩:=k_ (w:=w) (w0:=w0) hs m (j+1) fuel (Adq c j c.buses.l[j] p) 1 j (by omega) (by omega)
  refine⟨e,f,fun K=>?_⟩
  rw[P8];unfold EM 
  rw[Hy h,ct,Ab h,ct,Int.toNat_natCast,At Kb _ _ h,Cd h,Bu,←s K]
  have t:c.buses.l[j] ∈ c.buses.l:=List.getElem_mem h
  have u:=hs.dem _ t
  have n:=@Aqd R N c
  generalize c.buses.l[j]=b at *
  have v:Nat.ble 3 (List.length (b.av++List.flatMap BusD.av (List.drop (j+1) c.buses.l)))=true:=by rw[Bs,List.length_append,Kb];simp
  have x:List.take 3 (b.av++List.flatMap BusD.av (List.drop (j+1) c.buses.l))=b.av:=List.take_left' (Kb b)
  rw[v,ct,x,Kb]
  simp only[BusD.av,List.drop_succ_cons,List.drop_zero,Eu,A6,Ed,Fl,IT,decide_true,Bool.and_true,cond_true,Nm,Bo (show j<4611686018427387904 by have:=d.2;omega)]
  simp only[n hN (show j≤_ by omega) ⟨by have:=d.1;omega,by have:=d.2;omega⟩,Qi rfl u,Fh]
  rfl
theorem Ai1 {N:Nat} {c:CaseD} {p:Df} {k i:Int} {w:Bool} (hs:Small c N):∃ b d:Int,∀ K:Bool→LA→O R,IA N w (Dd c p k i) K=K w (Dd c (Bu (Adq c) c.buses.l 0 p) b d):=by
 obtain⟨b,d,h⟩:=k_ (R:=R) (w:=w) (w0:=w) hs c.buses.l.length 0 N p k i (by omega) hs.bus.1
 refine⟨b,d,fun K=>?_⟩
 rw[pp];unfold gq
 rw[qU]
 simpa using h K
theorem kc {N:Nat} {c:CaseD} {w w0:Bool} {h0:LA} (hs:Small c N):∀ (m j fuel:Nat) (p:Df) (k i:Int),j+m=c.lines.l.length→m<fuel →
  ∃ e f:Int,∀ K:Bool→LA→O R,Mj N K (c.lines.l.flatMap LineD.av) c.lines.l.length w0 h0 fuel (c.lines.l.length:Int) (j:Int) w (Dd c p k i)=K w (Dd c (Bu (KZ c) (c.lines.l.drop j) j p) e f)
 | 0,j,fuel+1,p,k,i,q,_=>by
  refine⟨k,i,fun K=>?_⟩
  rw[Mj];unfold EN
  rw[Jf (by omega),cf,C9 (by omega),Bu]
 | m+1,j,fuel+1,p,k,i,q,y=>by
  have h:j<c.lines.l.length:=by omega
  have hN:=hs.n64
  have d:=hs.lin
  obtain⟨e,f,s⟩:=kc (w:=w) (w0:=w0) (h0:=h0) hs m (j+1) fuel (KZ c j c.lines.l[j] p) 2 j (by omega) (by omega)
  refine⟨e,f,fun K=>?_⟩
  rw[Mj];unfold EN LI UW eM UV eL
  rw[Hy h,ct,Ab h,ct,Int.toNat_natCast,At Ce _ _ h,Cd h,Bu,←s K]
  have t:c.lines.l[j] ∈ c.lines.l:=List.getElem_mem h
  have u:=hs.law _ t
  have n:=@yh R N c
  generalize c.lines.l[j]=b at *
  have v:Nat.ble 12 (List.length (b.av++List.flatMap LineD.av (List.drop (j+1) c.lines.l)))=true:=by rw[Bs,List.length_append,Ce];simp
  have x:List.take 12 (b.av++List.flatMap LineD.av (List.drop (j+1) c.lines.l))=b.av:=List.take_left' (Ce b)
  rw[v,ct,x,Ce]
  simp only[LineD.av,List.drop_succ_cons,List.drop_zero,List.take_succ_cons,List.take_zero,List.length_cons,List.length_nil,Eu,A6,Ed,Fl,Bs,IT,Az,Nat.reduceAdd,Nat.reduceLeDiff,decide_true,Bool.and_true,Bool.or_true,cond_true,Nat.zero_add,Nm,Bo (show j<4611686018427387904 by have:=d.2;omega)]
  simp only[n hN (show j≤_ by omega) ⟨by have:=d.1;omega,by have:=d.2;omega⟩,MB,Fh,qY rfl u,k8,As (show(1:Int)≠0 by decide),As (show(3:Int)≠0 by decide)]
  unfold KZ;cases K3 b.re<;>cases K3 b.smin<;>cases K3 b.smax<;>rfl
theorem Ai2 {N:Nat} {c:CaseD} {p:Df} {k i:Int} {w:Bool} (hs:Small c N):∃ b d:Int,∀ K:Bool→LA→O R,ID N w (Dd c p k i) K=K w (Dd c (Bu (KZ c) c.lines.l 0 p) b d):=by
 obtain⟨b,d,h⟩:=kc (R:=R) (w:=w) (w0:=w) (h0:=Dd c p k i) hs c.lines.l.length 0 N p k i (by omega) hs.lin.1
 refine⟨b,d,fun K=>?_⟩
 rw[pz];unfold gv
 rw[qV]
 simpa using h K
theorem ey {N:Nat} {c:CaseD} {w w0:Bool} (hs:Small c N):∀ (m j fuel:Nat) (p:Df) (k i:Int),j+m=c.stores.l.length→m<fuel →
  ∃ e f:Int,∀ K:Bool→LA→O R,Nn N K (c.stores.l.flatMap StoreD.av) c.stores.l.length w0 fuel (c.stores.l.length:Int) (j:Int) w (Dd c p k i)=K w (Dd c (Bu (NC c) (c.stores.l.drop j) j p) e f)
 | 0,j,fuel+1,p,k,i,q,_=>by
  refine⟨k,i,fun K=>?_⟩
  rw[Nn];unfold Zr
  rw[Jf (by omega),cf,C9 (by omega),Bu]
 | m+1,j,fuel+1,p,k,i,q,v=>by
  have h:j<c.stores.l.length:=by omega
  have hN:=hs.n64
  have d:=hs.sto
  obtain⟨e,f,s⟩:=ey (w:=w) (w0:=w0) hs m (j+1) fuel (NC c j c.stores.l[j] p) 4 j (by omega) (by omega)
  refine⟨e,f,fun K=>?_⟩
  rw[Nn];unfold Zr 
  rw[Hy h,ct,Ab h,ct,Int.toNat_natCast,At Ga _ _ h,Cd h,Bu,←s K]
  have x:c.stores.l[j] ∈ c.stores.l:=List.getElem_mem h
  skip
  have n:=@yj R N c
  generalize c.stores.l[j]=b at *
  have t:Nat.ble 9 (List.length (b.av++List.flatMap StoreD.av (List.drop (j+1) c.stores.l)))=true:=by rw[Bs,List.length_append,Ga];simp
  have u:List.take 9 (b.av++List.flatMap StoreD.av (List.drop (j+1) c.stores.l))=b.av:=List.take_left' (Ga b)
  rw[t,ct,u,Ga]
  simp only[StoreD.av,setCells,C4,List.nil_append,List.append_nil,List.drop_nil,List.drop_succ_cons,List.drop_zero,List.take_succ_cons,List.take_zero,List.length_cons,List.length_nil,Eu,A6,Bs,IT,Az,Nat.reduceAdd,decide_true,Bool.and_true,Bool.or_true,Bool.not_false,cond_true,Nat.zero_add,Nat.le_refl,Nm,Bo (show j<4611686018427387904 by have:=d.2;omega)]
  simp only[n hN (show j≤_ by omega) ⟨by have:=d.1;omega,by have:=d.2;omega⟩,MB,Fh,k8,As (show(3:Int)≠0 by decide)]
  unfold NC;cases K3 b.eff<;>cases decide (b.eff.num>0)<;>rfl
theorem Afj {N:Nat} {c:CaseD} {p:Df} {k i:Int} {w:Bool} (hs:Small c N):∃ b d:Int,∀ K:Bool→LA→O R,Yf N w (Dd c p k i) K=K w (Dd c (Bu (NC c) c.stores.l 0 p) b d):=by
 obtain⟨b,d,h⟩:=ey (R:=R) (w:=w) (w0:=w) hs c.stores.l.length 0 N p k i (by omega) hs.sto.1
 refine⟨b,d,fun K=>?_⟩
 rw[kM];unfold UZ
 rw[tY]
 simpa using h K
theorem qd {N:Nat} {c:CaseD} {w w0:Bool} (hs:Small c N):∀ (m j fuel:Nat) (p:Df) (k i:Int),j+m=c.ties.l.length→m<fuel →
  ∃ e f:Int,∀ K:Bool→LA→O R,T5 N K (c.ties.l.flatMap TieD.av) c.ties.l.length w0 fuel (c.ties.l.length:Int) (j:Int) w (Dd c p k i)=K w (Dd c (Bu (Aus c) (c.ties.l.drop j) j p) e f)
 | 0,j,fuel+1,p,k,i,u,_=>by
  refine⟨k,i,fun K=>?_⟩
  rw[T5];unfold LU
  rw[Jf (by omega),cf,C9 (by omega),Bu]
 | m+1,j,fuel+1,p,k,i,u,A=>by
  have h:j<c.ties.l.length:=by omega
  have hN:=hs.n64
  have d:=hs.tie
  obtain⟨e,f,v⟩:=qd (w:=w) (w0:=w0) hs m (j+1) fuel (Aus c j c.ties.l[j] p) 5 j (by omega) (by omega)
  refine⟨e,f,fun K=>?_⟩
  rw[T5];unfold LU 
  rw[Hy h,ct,Ab h,ct,Int.toNat_natCast,At Lv _ _ h,Cd h,Bu,←v K]
  have n:c.ties.l[j] ∈ c.ties.l:=List.getElem_mem h
  have x:=hs.tim _ n;have q:=hs.tex _ n;have s:=hs.tpr _ n
  have t:=@yk R N c
  generalize c.ties.l[j]=b at *
  have y:Nat.ble 5 (List.length (b.av++List.flatMap TieD.av (List.drop (j+1) c.ties.l)))=true:=by rw[Bs,List.length_append,Lv];simp
  have z:List.take 5 (b.av++List.flatMap TieD.av (List.drop (j+1) c.ties.l))=b.av:=List.take_left' (Lv b)
  rw[y,ct,z,Lv]
  simp only[TieD.av,List.drop_succ_cons,List.drop_zero,Eu,A6,Ed,Fl,IT,decide_true,Bool.and_true,cond_true,Nm,Bo (show j<4611686018427387904 by have:=d.2;omega)]
  simp only[t hN (show j≤_ by omega) ⟨by have:=d.1;omega,by have:=d.2;omega⟩,MB,Qi rfl x,Qi rfl q,Qi rfl s]
  rfl
theorem Aqe {N:Nat} {c:CaseD} {p:Df} {k i:Int} {w:Bool} (hs:Small c N):∃ b d:Int,∀ K:Bool→LA→O R,U' N w (Dd c p k i) K=K w (Dd c (Bu (Aus c) c.ties.l 0 p) b d):=by
 obtain⟨b,d,h⟩:=qd (R:=R) (w:=w) (w0:=w) hs c.ties.l.length 0 N p k i (by omega) hs.tie.1
 refine⟨b,d,fun K=>?_⟩
 rw[wt];unfold qJ
 rw[Aqc]
 simpa using h K
end
end Gx.Cf

namespace Gx.Cf
open Go Go.Proofs
section
variable {R:Type}
theorem qe {N:Nat} {c:CaseD} {k i s:Int} {u:UnitD} {o w:Bool} {K:Bool→LA→O R} (hs:u.segs.l.length<4611686018427387904):∀ (m j fuel:Nat) (p:Df),j+1+m=u.segs.l.length→m<fuel →
  I5 N K s o u.av fuel ((j+1:Nat):Int) w (Dd c p k i)=K w (Dd c (nd (nd p (dy (u.segs.l.drop j)) (k,i,4) A4t) (s==IntKind.wrap .i64 (u.max - u.min)) (k,i,4) e4) k i)
 | 0,j,fuel+1,p,b,_=>by
  rw[I5];unfold N1
  rw[ND,Jf (by omega),cf,Cd (l:=u.segs.l) (j:=j) (by omega),C9 (l:=u.segs.l) (j:=j+1) (by omega),pU,Gi,A2x,A2y,As (by decide)]
 | m+1,j,fuel+1,p,b,d=>by
  rw[I5];unfold N1
  have h:j+1<u.segs.l.length:=by omega
  have h':j<u.segs.l.length:=by omega
  simp only[ND]
  rw[Hy h,ct,Ab h,ct,gg h,pR (by omega),Ab h',ct,gg h',Bo (by omega),As (by decide),qe hs m (j+1) fuel _ (by omega) (by omega),Cd h',Cd h,HP,Rp]
theorem qf {N:Nat} {c:CaseD} {k i:Int} {u:UnitD} {o w:Bool} {K:Bool→LA→O R} (hs:E2 u.segs.l.length N):∀ (m j fuel:Nat) (p:Df) (a:Int),j+m=u.segs.l.length→m<fuel →
  I6 N K (u.segs.l.flatMap SegD.av) u.segs.l.length o u.av fuel a (u.segs.l.length:Int) (j:Int) w (Dd c p k i) =
   K w (Dd c (nd (nd (nd p ((u.segs.l.drop j).all vf) (k,i,4) e3) (dy u.segs.l) (k,i,4) A4t) (aX a (u.segs.l.drop j)==IntKind.wrap .i64 (u.max - u.min)) (k,i,4) e4) k i)
 | 0,j,fuel+1,p,a,e,_=>by
  rw[I6];unfold Tn
  rw[Jf (by omega),cf,C9 (by omega),List.all_nil,Gi,aX]
  rcases d:u.segs.l with _ | ⟨b,r⟩
  ·rw[Adt,Gi]
   have hN:=hs.1
   rcases N with _ | N
   ·omega
   ·dsimp only
    rw[I5];unfold N1
    rw[ND,d]
    simp only[List.length_nil,Int.natCast_zero]
    rw[show decide ((1:Int)<0)=false by decide,cf,A2x,A2y,As (by decide)]
  ·have:=qe (R:=R) (N:=N) (c:=c) (k:=k) (i:=i) (s:=a) (u:=u) (o:=o) (w:=w) (K:=K) hs.2 r.length 0 N p (by rw[d];simp;omega) (by have:=hs.1;rw[d] at this;simp at this;omega)
   rw[d] at this
   simpa using this
 | m+1,j,fuel+1,p,a,e,t=>by
  rw[I6];unfold Tn
  have h:j<u.segs.l.length:=by omega
  have f:=hs.2
  rw[Hy h,ct,Ab h,ct,Int.toNat_natCast,At Pw _ _ h,Cd h,List.all_cons,aX,Bo (by omega)]
  have n:Nat.ble 2 (List.length (u.segs.l[j].av++List.flatMap SegD.av (List.drop (j+1) u.segs.l)))=true:=by rw[Bs,List.length_append,Pw];simp
  have q:List.take 2 (u.segs.l[j].av++List.flatMap SegD.av (List.drop (j+1) u.segs.l))=u.segs.l[j].av:=List.take_left' (Pw _)
  rw[n,ct,q,Pw]
  simp only[SegD.av,setCells,C4,List.nil_append,List.append_nil,List.drop_nil,List.drop_succ_cons,List.drop_zero,List.take_zero,List.length_cons,List.length_nil,A6,Bs,IT,Az,Nat.reduceAdd,decide_true,Bool.and_true,Bool.or_true,Bool.not_false,cond_true,Nat.zero_add,Nat.le_refl,Fh,qf hs m (j+1) fuel _ _ (show j+1+m=_ by omega) (show m<fuel by omega)]
  rw[Rp,Rp,←Bool.and_assoc];rfl
theorem t6 {N:Nat} {c:CaseD} {p:Df} {j:Nat} {u:UnitD} {o w:Bool} {K:Bool→LA→O R} (hs:E2 u.segs.l.length N) :
  Qb N u.av o w (Dd c p 3 j) K=K w (Dd c (Auu u j p) 3 j):=by
 rw[ZF];unfold EO
 simp only[ND,As (show(8:Int)≠0 by decide),L3]
 have:=qf (R:=R) (N:=N) (c:=c) (k:=3) (i:=j) (u:=u) (o:=o) (w:=w) (K:=K) hs u.segs.l.length 0 N (nd p (decide ((u.segs.l.length:Int)≤8)) (3,j,4) e8) 0 (by omega) hs.1
 simp only[List.drop_zero,Int.natCast_zero] at this
 rw[this]
 unfold Auu
 cases b:nd p (decide ((u.segs.l.length:Int)≤8)) (3,(j:Int),4) e8 with
 | none=>simp[Bp]
 | some x =>
  have:(x.2.1 != 0)=true:=by simpa using x.2.2
  simp[Bp,this,nd]
theorem wz {N:Nat} {c:CaseD} {k i:Int} {l:List MoveD} {o w:Bool} {K:Bool→LA→O R} (hs:l.length<4611686018427387904):∀ (m j fuel:Nat) (p:Df),j+m=l.length→m<fuel →
  Ux N K (l.flatMap MoveD.av) l.length o fuel (l.length:Int) (j:Int) w (Dd c p k i)=K w (Dd c (nd p ((l.drop j).all Apf) (k,i,3) e3) k i)
 | 0,j,fuel+1,p,b,_=>by
  rw[Ux];unfold EQ
  rw[Jf (by omega),cf,C9 (by omega),List.all_nil,Gi]
 | m+1,j,fuel+1,p,b,f=>by
  rw[Ux];unfold EQ
  have h:j<l.length:=by omega
  rw[Hy h,ct,Ab h,ct,Int.toNat_natCast,At Ey _ _ h,Cd h,List.all_cons,Bo (by omega)]
  have d:Nat.ble 3 (List.length (l[j].av++List.flatMap MoveD.av (List.drop (j+1) l)))=true:=by rw[Bs,List.length_append,Ey];simp
  have e:List.take 3 (l[j].av++List.flatMap MoveD.av (List.drop (j+1) l))=l[j].av:=List.take_left' (Ey _)
  rw[d,ct,e,Ey]
  simp only[MoveD.av,setCells,C4,List.nil_append,List.append_nil,List.drop_nil,List.drop_succ_cons,List.drop_zero,List.take_zero,List.length_cons,List.length_nil,A6,Bs,IT,Az,Nat.reduceAdd,decide_true,Bool.and_true,Bool.or_true,Bool.not_false,cond_true,Nat.zero_add,Nat.le_refl,Fh,wz hs m (j+1) fuel _ (show j+1+m=_ by omega) (show m<fuel by omega)]
  rw[Rp,Rp,←Bool.and_assoc];rfl
theorem xA {N:Nat} {c:CaseD} {k i:Int} {u:OutD} {o w:Bool} {K:Bool→LA→O R} (hs:E2 u.moves.l.length N) (e:u.moves.l.length≤16):∀ (m j fuel:Nat) (p:Df),j+m=u.moves.l.length→m<fuel →
  Qg N K (u.moves.l.flatMap MoveD.av) u.moves.l.length o u.av fuel j (u.moves.l.length:Int) (j:Int) w (Dd c p k i) (Aq ((u.moves.l.take j).map (·.unit))) =
   K w (Dd c (nd (nd (nd p ((u.moves.l.drop j).all (Az5 c)) (k,i,3) Ax5) (pQ (u.moves.l.map (·.unit))) (k,i,3) A4t) (u.moves.l.all Apf) (k,i,3) e3) k i)
 | 0,j,fuel+1,p,f,_=>by
  rw[Qg];unfold ER
  have n:j=u.moves.l.length:=by omega
  rw[Jf (by omega),cf,C9 (l:=u.moves.l) (j:=j) (by omega),List.all_nil,Gi,Nat.mul_one,List.take_of_length_le (by simp[Et];omega),List.take_of_length_le (show u.moves.l.length≤j by omega)]
  rw[Wf (by simp;omega) (by simpa using hs),As (by decide),zG]
  have:=wz (R:=R) (N:=N) (c:=c) (k:=k) (i:=i) (l:=u.moves.l) (o:=o) (w:=w) (K:=K) hs.2 u.moves.l.length 0 N (nd p (pQ (u.moves.l.map (·.unit))) (k,i,3) A4t) (by omega) hs.1
  simpa using this
 | m+1,j,fuel+1,p,f,x=>by
  rw[Qg];unfold ER
  have h:j<u.moves.l.length:=by omega
  have q:=hs.2
  have s:Nat.ble 3 (List.length (u.moves.l[j].av++List.flatMap MoveD.av (List.drop (j+1) u.moves.l)))=true:=by rw[Bs,List.length_append,Ey];simp
  have t:List.take 3 (u.moves.l[j].av++List.flatMap MoveD.av (List.drop (j+1) u.moves.l))=u.moves.l[j].av:=List.take_left' (Ey _)
  have y:(Nat.ble (j+1) 140737488355328&&Nat.ble ((j+1)*8) 140737488355328)=true:=by rw[Bs,Bs];simp;omega
  have v:List.take (j*1) (Aq ((u.moves.l.take j).map (·.unit)))++[.int .i64 u.moves.l[j].unit]=Aq ((u.moves.l.take (j+1)).map (·.unit)):=by
   rw[List.take_of_length_le (by simp[Et];omega),List.take_succ_eq_append_getElem h,List.map_append,←bZ];rfl
  rw[Hy h,ct,Ab h,ct,Int.toNat_natCast,At Ey _ _ h,Cd h,List.all_cons,Bo (by omega),s,ct,t,Ey]
  simp only[MoveD.av,setCells,C4,List.nil_append,List.append_nil,List.drop_nil,List.drop_succ_cons,List.take_zero,List.length_cons,List.length_nil,A6,Bs,IT,Az,Nat.reduceAdd,Nat.reduceLeDiff,decide_true,Bool.and_true,Bool.or_true,Bool.not_false,cond_true,Nat.zero_add,Nat.le_refl,qW,As (show(12:Int)≠0 by decide),v,xA hs e m (j+1) fuel _ (show j+1+m=_ by omega) (show m<fuel by omega)]
  rw[Rp,Rp]
  unfold Az5
  generalize (List.drop (j+1) u.moves.l).all _=r
  have b:(decide (j≤140737488355327)&&decide ((j+1)*8≤140737488355328))=true:=by simp;omega
  by_cases d:0≤u.moves.l[j].unit
  ·have e1:decide (u.moves.l[j].unit≥0)=true:=by simpa using d
   rw[e1,b];rfl
  ·have e1:decide (u.moves.l[j].unit≥0)=false:=by simpa using d
   rw[e1,b];rfl
theorem Ai3 {N:Nat} {c:CaseD} {p:Df} {j:Nat} {u:OutD} {o w:Bool} {K:Bool→LA→O R} (hs:E2 u.moves.l.length N) :
  RC N u.av o w (Dd c p 6 j) K=K w (Dd c (tN c u j p) 6 j):=by
 rw[qN];unfold gy LZ VA
 simp only[zG,A66,As (show(16:Int)≠0 by decide),As (show(8:Int)≠0 by decide),L3]
 have key:∀ b:Df,(cond (Bp (nd b (decide ((u.moves.l.length:Int)≤16)) (6,(j:Int),3) e8) != 0) (K w (Dd c (nd b (decide ((u.moves.l.length:Int)≤16)) (6,(j:Int),3) e8) 6 j))
   (Qg N K (u.moves.l.flatMap MoveD.av) u.moves.l.length o u.av N 0 (u.moves.l.length:Int) 0 w (Dd c (nd b (decide ((u.moves.l.length:Int)≤16)) (6,(j:Int),3) e8) 6 j) [])) =
   K w (Dd c (nd (nd (nd (nd b (decide ((u.moves.l.length:Int)≤16)) (6,(j:Int),3) e8) (u.moves.l.all (Az5 c)) (6,j,3) Ax5) (pQ (u.moves.l.map (·.unit))) (6,j,3) A4t) (u.moves.l.all Apf) (6,j,3) e3) 6 j):=by
  intro b
  cases d:nd b (decide ((u.moves.l.length:Int)≤16)) (6,(j:Int),3) e8 with
  | none =>
   have e:u.moves.l.length≤16:=by
    rcases b with _ | x
    ·by_cases e:u.moves.l.length≤16
     ·exact e
     ·have:decide ((u.moves.l.length:Int)≤16)=false:=by simp;omega
      rw[this] at d;simp[nd] at d
    ·simp[nd] at d
   have:=xA (R:=R) (N:=N) (c:=c) (k:=6) (i:=j) (u:=u) (o:=o) (w:=w) (K:=K) hs e u.moves.l.length 0 N none (by omega) hs.1
   simp only[List.take_zero,List.map_nil,List.drop_zero,Int.natCast_zero,Aq] at this
   simp only[Bp,bne_self_eq_false,cond_false]
   exact this
  | some x =>
   have:(x.2.1 != 0)=true:=by simpa using x.2.2
   simp[Bp,this,nd]
 unfold tN
 cases f:((u.moves.l.length:Int)==0) with
 | true=>simp only[Bool.true_or,cond_false,show(true==false)=false from rfl];exact key _
 | false=>simp only[beq_self_eq_true,Bool.false_or,cond_true,cond_false];exact key _
theorem ke {N:Nat} {c:CaseD} {w w0:Bool} {h0:LA} (hs:Small c N):∀ (m j fuel:Nat) (p:Df) (k i:Int),j+m=c.units.l.length→m<fuel →
  ∃ e f:Int,∀ K:Bool→LA→O R,Mk N K (c.units.l.flatMap UnitD.av) c.units.l.length w0 h0 fuel (c.units.l.length:Int) (j:Int) w (Dd c p k i)=K w (Dd c (Bu (QA c) (c.units.l.drop j) j p) e f)
 | 0,j,fuel+1,p,k,i,v,_=>by
  refine⟨k,i,fun K=>?_⟩
  rw[Mk];unfold EP
  rw[Jf (by omega),cf,C9 (by omega),Bu]
 | m+1,j,fuel+1,p,k,i,v,C=>by
  have h:j<c.units.l.length:=by omega
  have hN:=hs.n64
  have d:=hs.uni
  obtain⟨e,f,x⟩:=ke (w:=w) (w0:=w0) (h0:=h0) hs m (j+1) fuel (QA c j c.units.l[j] p) 3 j (by omega) (by omega)
  refine⟨e,f,fun K=>?_⟩
  rw[Mk];unfold EP LN UY eV UX eU
  rw[Hy h,ct,Ab h,ct,Int.toNat_natCast,At Cg _ _ h,Cd h,Bu,←x K]
  have t:c.units.l[j] ∈ c.units.l:=List.getElem_mem h
  have y:=hs.seg _ t;have n:=hs.uaw _ t
  have q:=@yi R N c
  generalize c.units.l[j]=b at *
  have z:Nat.ble 22 (List.length (b.av++List.flatMap UnitD.av (List.drop (j+1) c.units.l)))=true:=by rw[Bs,List.length_append,Cg];simp
  have A:List.take 22 (b.av++List.flatMap UnitD.av (List.drop (j+1) c.units.l))=b.av:=List.take_left' (Cg b)
  rw[z,ct,A,Cg]
  have s:∀ (p:Df) (K:Bool→LA→O R),Qb N [.str b.name,.int .i64 b.bus,.int .i64 b.min,.int .i64 b.max,b.segs.av 2 SegD.av,.int .i64 b.noLoad,.int .i64 b.rampUp,.int .i64 b.rampDown,.int .i64 b.startRamp,.int .i64 b.stopRamp,.int .i64 b.upTime,.int .i64 b.downTime,.int .i64 b.startTime,.int .i64 b.hotCost,.int .i64 b.coldCost,.int .i64 b.hotHours,.int .i64 b.reserve,.int .i64 b.reservePrice,b.away.av 1 IS,.int .i64 b.state,.int .i64 b.hours,.int .i64 b.output] w0 w (Dd c p 3 j) K=K w (Dd c (Auu b j p) 3 j):=fun p K=>t6 y
  simp only[UnitD.av,List.drop_succ_cons,List.drop_zero,List.take_succ_cons,List.take_zero,Eu,A6,Ed,Fl,Bs,IT,decide_true,Bool.and_true,cond_true,cond_false,Nat.le_refl,Nm,Bo (show j<4611686018427387904 by have:=d.2;omega)]
  simp only[q hN (show j≤_ by omega) ⟨by have:=d.1;omega,by have:=d.2;omega⟩,MB,Fh,s,qY rfl n,As (show(12:Int)≠0 by decide),As (show(16:Int)≠0 by decide),As (show(3:Int)≠0 by decide)]
  unfold QA
  unfold Fm
  by_cases u:b.state=0
  ·simp[u]
  ·by_cases s1:b.state=1
   ·simp[s1]
   ·by_cases s2:b.state=2
    ·simp[s2]
    ·have a0:(b.state==0)=false:=by simpa using u
     have a1:(b.state==1)=false:=by simpa using s1
     have a2:(b.state==2)=false:=by simpa using s2
     have a3:(decide (0≤b.state)&&decide (b.state≤2))=false:=by simp;omega
     have a4:(b.state != 1)=true:=by simpa using s1
     simp[a0,a1,a2,a3,a4]
theorem Ai4 {N:Nat} {c:CaseD} {p:Df} {k i:Int} {w:Bool} (hs:Small c N):∃ b d:Int,∀ K:Bool→LA→O R,IE N w (Dd c p k i) K=K w (Dd c (Bu (QA c) c.units.l 0 p) b d):=by
 obtain⟨b,d,h⟩:=ke (R:=R) (w:=w) (w0:=w) (h0:=Dd c p k i) hs c.units.l.length 0 N p k i (by omega) hs.uni.1
 refine⟨b,d,fun K=>?_⟩
 rw[qC];unfold gw
 rw[qW]
 simpa using h K
end
end Gx.Cf

namespace Gx.Cf
open Go Go.Proofs
section
variable {R:Type}
def Bbb (c:CaseD) (n:Int):Bool:=decide (0≤n)&&decide (n<(c.lines.l.length:Int))
theorem Baf {u:OutD}:List.take 4 u.av=u.av:=rfl
theorem VC {N:Nat} {c:CaseD} {j:Nat} {x:OutD} {w w0:Bool} {l1 h0:LA} {m2:Nat} {a i12:Int} {K0:Int→Int→Bool→LA→O R} {K:Bool→LA→O R} (hs:E2 x.lines.l.length N) (b:E2 x.moves.l.length N):∀ (m q fuel:Nat) (p:Df),q+m=x.lines.l.length→m<fuel →
  Oi N K0 K l1 m2 w0 a (Aq x.lines.l) x.lines.l.length x.av h0 fuel i12 (x.lines.l.length:Int) (q:Int) w (Dd c p 6 j) =
   K0 a (IntKind.wrap .i64 (i12+1)) w (Dd c (tN c x j (nd (nd p ((x.lines.l.drop q).all (Bbb c)) (6,j,1) Ax5) (pQ x.lines.l) (6,j,1) A4t)) 6 j)
 | 0,q,fuel+1,p,e,_=>by
  rw[Oi];unfold Wc
  rw[Jf (by omega),cf,C9 (l:=x.lines.l) (j:=q) (by omega),List.all_nil,Gi,pV,Wf rfl hs,As (by decide),Baf,Ai3 b];rfl
 | m+1,q,fuel+1,p,e,i=>by
  rw[Oi];unfold Wc
  have h:q<x.lines.l.length:=by omega
  have f:=hs.2
  rw[Hy h,ct,Ab h,ct,HO h,qV,As (by decide),As (by decide),Bo (by omega),VC hs b m (q+1) fuel _ (by omega) (by omega),VC hs b m (q+1) fuel _ (by omega) (by omega),Cd h,List.all_cons,Rp,Rp]
  unfold Bbb
  generalize (List.drop (q+1) x.lines.l).all _=r
  by_cases d:0≤x.lines.l[q]
  ·have e1:decide (x.lines.l[q]≥0)=true:=by simpa using d
   rw[e1];rfl
  ·have e1:decide (x.lines.l[q]≥0)=false:=by simpa using d
   rw[e1];rfl
theorem ZR {N:Nat} {c:CaseD} {w w0:Bool} {h0:LA} (hs:Small c N):∀ (m j fuel:Nat) (p:Df) (k i:Int),j+m=c.outs.l.length→m<fuel →
  ∃ D F:Int,∀ K:Bool→LA→O R,E6 N K (c.outs.l.flatMap OutD.av) c.outs.l.length w0 h0 fuel (c.outs.l.length:Int) (j:Int) w (Dd c p k i)=K w (Dd c (Bu (tO c) (c.outs.l.drop j) j p) D F)
 | 0,j,fuel+1,p,k,i,G,_=>by
  refine⟨k,i,fun K=>?_⟩
  rw[E6];unfold Qh
  rw[Jf (by omega),cf,C9 (by omega),Bu]
 | m+1,j,fuel+1,p,k,i,G,S=>by
  have h:j<c.outs.l.length:=by omega
  have hN:=hs.n64
  have d:=hs.out
  have z:c.outs.l[j] ∈ c.outs.l:=List.getElem_mem h
  have A:=hs.oli _ z
  have t:=hs.omo _ z
  obtain⟨I,i1,L⟩:=ZR (w:=w) (w0:=w0) (h0:=h0) hs m (j+1) fuel (tO c j c.outs.l[j] p) 6 j (by omega) (by omega)
  cases e:nd (Lu ((c.outs.l.map (·.name)).take j) 6 j c.outs.l[j].name p) ((c.outs.l[j].lines.l.length:Int)==1||(c.outs.l[j].lines.l.length:Int)==2) (6,(j:Int),1) e4 with
  | none =>
   refine⟨I,i1,fun K=>?_⟩
   rw[E6];unfold Qh Ss Wd
   rw[Hy h,ct,Ab h,ct,Int.toNat_natCast,At Dk _ _ h,Cd h,Bu,←L K]
   have q:=@ZQ R N c
   generalize c.outs.l[j]=b at *
   have u:Nat.ble 4 (List.length (b.av++List.flatMap OutD.av (List.drop (j+1) c.outs.l)))=true:=by rw[Bs,List.length_append,Dk];simp
   have v:List.take 4 (b.av++List.flatMap OutD.av (List.drop (j+1) c.outs.l))=b.av:=List.take_left' (Dk b)
   rw[u,ct,v,Dk]
   have n:∀ f:List UInt8→O R,Ts b.av f=f b.name:=fun f=>by simp[OutD.av,Eu]
   simp only[IT,decide_true,Bool.and_true,Bool.true_and,cond_true,Nm,n,pV,q hN (show j≤_ by omega) ⟨by have:=d.1;omega,by have:=d.2;omega⟩,As (show(4:Int)≠0 by decide),L3]
   have l2:=fun p=>VC (R:=R) (N:=N) (c:=c) (j:=j) (x:=b) (w:=w) (w0:=w0) (l1:=c.outs.l.flatMap OutD.av) (h0:=h0) (m2:=c.outs.l.length) (a:=c.outs.l.length) (i12:=j) (K0:=E6 N K (c.outs.l.flatMap OutD.av) c.outs.l.length w0 h0 fuel) (K:=K) A t b.lines.l.length 0 N p (by omega) A.1
   simp only[List.drop_zero,Int.natCast_zero] at l2
   simp only[l2,Bo (show j<4611686018427387904 by have:=d.2;omega)]
   unfold tO
   cases s:((b.lines.l.length:Int)==1) with
   | true =>
    rw[s] at e
    simp only[Bool.true_or] at e
    simp only[show(true==false)=false from rfl,cond_false,Bool.true_or,e,Bp,bne_self_eq_false];rfl
   | false =>
    rw[s] at e
    simp only[Bool.false_or] at e
    simp only[beq_self_eq_true,cond_true,cond_false,Bool.false_or,e,Bp,bne_self_eq_false];rfl
  | some y =>
   have C:(y.2.1 != 0)=true:=by simpa using y.2.2
   have M:tO c j c.outs.l[j] p=some y:=by unfold tO;simp only;rw[e];rfl
   refine⟨6,j,fun K=>?_⟩
   rw[E6];unfold Qh Ss Wd
   rw[Hy h,ct,Ab h,ct,Int.toNat_natCast,At Dk _ _ h,Cd h,Bu,M,Bf (fun _ _=>Lw)]
   have q:=@ZQ R N c
   generalize c.outs.l[j]=b at *
   have u:Nat.ble 4 (List.length (b.av++List.flatMap OutD.av (List.drop (j+1) c.outs.l)))=true:=by rw[Bs,List.length_append,Dk];simp
   have v:List.take 4 (b.av++List.flatMap OutD.av (List.drop (j+1) c.outs.l))=b.av:=List.take_left' (Dk b)
   rw[u,ct,v,Dk]
   have n:∀ f:List UInt8→O R,Ts b.av f=f b.name:=fun f=>by simp[OutD.av,Eu]
   simp only[IT,decide_true,Bool.and_true,Bool.true_and,cond_true,Nm,n,pV,q hN (show j≤_ by omega) ⟨by have:=d.1;omega,by have:=d.2;omega⟩,As (show(4:Int)≠0 by decide),L3]
   cases s:((b.lines.l.length:Int)==1) with
   | true =>
    rw[s] at e
    simp only[Bool.true_or] at e
    simp only[show(true==false)=false from rfl,cond_false,e,Bp,C,cond_true]
   | false =>
    rw[s] at e
    simp only[Bool.false_or] at e
    simp only[beq_self_eq_true,cond_true,cond_false,e,Bp,C]
theorem ym {N:Nat} {c:CaseD} {p:Df} {k i:Int} {w:Bool} (hs:Small c N):∃ b d:Int,∀ K:Bool→LA→O R,T6 N w (Dd c p k i) K=K w (Dd c (Bu (tO c) c.outs.l 0 p) b d):=by
 obtain⟨b,d,h⟩:=ZR (R:=R) (w:=w) (w0:=w) (h0:=Dd c p k i) hs c.outs.l.length 0 N p k i (by omega) hs.out.1
 refine⟨b,d,fun K=>?_⟩
 rw[eu];unfold L_
 rw[zI]
 simpa using h K
end
end Gx.Cf

namespace Gx.Cf
theorem Conn.add {es:List (Nat×Nat)} {u v a b:Nat} (h:Conn (es++[(u,v)]) a b):Conn es a b∨(Conn es a u∧Conn es v b)∨(Conn es a v∧Conn es u b):=by
 induction h with
 | refl=>exact .inl (.refl _)
 | fwd c _ e =>
  rename_i x y i _
  rcases List.mem_append.1 c with c | c
  ·rcases e with e | ⟨f,d⟩ | ⟨f,d⟩
   ·exact .inl (.fwd c e)
   ·exact .inr (.inl ⟨.fwd c f,d⟩)
   ·exact .inr (.inr ⟨.fwd c f,d⟩)
  ·simp at c;obtain⟨rfl,rfl⟩:=c
   rcases e with e | ⟨f,d⟩ | ⟨f,d⟩
   ·exact .inr (.inl ⟨.refl _,e⟩)
   ·exact .inr (.inl ⟨.refl _,d⟩)
   ·exact .inl d
 | bwd c _ e =>
  rename_i x y i _
  rcases List.mem_append.1 c with c | c
  ·rcases e with e | ⟨f,d⟩ | ⟨f,d⟩
   ·exact .inl (.bwd c e)
   ·exact .inr (.inl ⟨.bwd c f,d⟩)
   ·exact .inr (.inr ⟨.bwd c f,d⟩)
  ·simp at c;obtain⟨rfl,rfl⟩:=c
   rcases e with e | ⟨f,d⟩ | ⟨f,d⟩
   ·exact .inr (.inr ⟨.refl _,e⟩)
   ·exact .inl d
   ·exact .inr (.inr ⟨.refl _,d⟩)
theorem Conn.new {es:List (Nat×Nat)} {u v:Nat}:Conn (es++[(u,v)]) u v:=.fwd (List.mem_append.2 (.inr (by simp))) (.refl _)
theorem Conn.old {es:List (Nat×Nat)} {e:Nat×Nat} {a b:Nat} (h:Conn es a b):Conn (es++[e]) a b:=h.mono fun _ c=>List.mem_append.2 (.inl c)
theorem Afk (es:List (Nat×Nat)):∀ u:Nat,∃ r,r≤u∧Conn es r u∧Sj es r:=by
 intro u
 induction u using Nat.strongRecOn with
 | ind u d =>
  by_cases h:Sj es u
  ·exact⟨u,Nat.le_refl _,.refl _,h⟩
  ·unfold Sj at h
   have:∃ a,a<u∧Conn es a u:=by
    apply Classical.byContradiction
    intro hn
    exact h fun a b c=>hn ⟨a,b,c⟩
   obtain⟨a,b,c⟩:=this
   obtain⟨r,i,e,f⟩:=d a b
   exact⟨r,by omega,e.trans c,f⟩
theorem RF {es:List (Nat×Nat)} {r a:Nat} (h:Sj es r) (b:Conn es a r):r≤a:=Nat.le_of_not_lt fun c=>h a c b
theorem Afl {p q:Nat→Bool} {m:Nat}:∀ {l:List Nat},l.Nodup→m ∈ l→p m=true→(∀ b ∈ l,q b=(p b&&decide (b≠m)))→(l.filter p).length=(l.filter q).length+1
 | [],_,f,_,_=>by simp at f
 | a::r,i,f,n,hq=>by
  rw[List.nodup_cons] at i
  by_cases j:a=m
  ·subst j
   have e:(r.filter p)=(r.filter q):=List.filter_congr fun b d=>by
    rw[hq b (List.mem_cons_of_mem _ d)]
    have:b≠a:=fun e=>by subst e;exact i.1 d
    simp[this]
   have c:=hq a (by simp)
   simp at c
   simp[List.filter_cons,n,c,e]
  ·have k:m ∈ r:=by
    rcases List.mem_cons.1 f with h | h
    ·exact absurd h.symm j
    ·exact h
   have s:=Afl (p:=p) (q:=q) i.2 k n (fun b d=>hq b (List.mem_cons_of_mem _ d))
   have c:=hq a (by simp)
   simp[j] at c
   rw[List.filter_cons,List.filter_cons,c]
   cases p a<;>simp[s]
theorem A07 {n:Nat} {es:List (Nat×Nat)} {u v:Nat} (h:Conn es u v):Jn n (es++[(u,v)])=Jn n es:=by
 unfold Jn
 congr 1
 apply List.filter_congr
 intro b _
 have:Sj (es++[(u,v)]) b↔Sj es b:=by
  constructor
  ·intro c a d f;exact c a d f.old
  ·intro c a d f
   rcases f.add with e | ⟨e,i⟩ | ⟨e,i⟩
   ·exact c a d e
   ·exact c a d (e.trans (h.trans i))
   ·exact c a d (e.trans (h.symm.trans i))
 simp[this]
open Classical in
theorem A08 {n:Nat} {es:List (Nat×Nat)} {u v:Nat} (hu:u<n) (hv:v<n) (h:¬ Conn es u v):Jn n es=Jn n (es++[(u,v)])+1:=by
 obtain⟨ru,u1,u2,u3⟩:=Afk es u
 obtain⟨rv,v1,v2,v3⟩:=Afk es v
 have hne:ru≠rv:=fun e=>by subst e;exact h (u2.symm.trans v2)
 unfold Jn
 refine Afl (m:=max ru rv) List.nodup_range (by rw[List.mem_range];omega) ?_ ?_
 ·have:Sj es (max ru rv):=by rcases Nat.le_total ru rv with h1 | h1<;>simp[h1,Nat.max_eq_right,Nat.max_eq_left,u3,v3]
  simp[this]
 ·intro b _
  have:Sj (es++[(u,v)]) b↔Sj es b∧b≠max ru rv:=by
   constructor
   ·intro hm
    refine⟨fun a ha hc=>hm a ha hc.old,fun e=>?_⟩
    rcases Nat.lt_or_gt_of_ne hne with h1 | h1
    ·rw[Nat.max_eq_right (by omega)] at e;subst e
     exact hm ru h1 (u2.old.trans (Conn.new.trans v2.old.symm))
    ·rw[Nat.max_eq_left (by omega)] at e;subst e
     exact hm rv h1 (v2.old.trans (Conn.new.symm.trans u2.old.symm))
   ·rintro⟨hm,hne2⟩ a ha hc
    rcases hc.add with h1 | ⟨h1,h2⟩ | ⟨h1,h2⟩
    ·exact hm a ha h1
    ·
     have e1:b≤rv:=RF hm (v2.trans h2)
     have e2:rv≤b:=RF v3 (h2.symm.trans v2.symm)
     have e3:ru≤a:=RF u3 (h1.trans u2.symm)
     omega
    ·have e1:b≤ru:=RF hm (u2.trans h2)
     have e2:ru≤b:=RF u3 (h2.symm.trans u2.symm)
     have e3:rv≤a:=RF v3 (h1.trans v2.symm)
     omega
  have hd:decide (Sj (es++[(u,v)]) b)=decide (Sj es b∧b≠max ru rv):=by simp only[this]
  rw[hd]
  by_cases x:Sj es b<;>by_cases y:b=max ru rv<;>simp[x,y]
theorem A4z (n:Nat):Jn n []=n:=by
 have h0:∀ a b,Conn [] a b→a=b:=by
  intro a b h
  induction h with
  | refl=>rfl
  | fwd c=>simp at c
  | bwd c=>simp at c
 unfold Jn
 rw[List.filter_eq_self.2]
 ·simp
 ·intro b _
  have:Sj [] b:=fun a e d=>by have:=h0 a b d;omega
  simp[this]
def qg (L:List Int) (tx fr:Int):List Int:=L.map fun x=>cond (x==tx) fr x
def IK (st:List Int×Int) (e:Nat×Nat):List Int×Int :=
 cond (st.1.getD e.1 0==st.1.getD e.2 0) st (qg st.1 (st.1.getD e.2 0) (st.1.getD e.1 0),st.2 - 1)
theorem Av6 {f:Int→Int} {L:List Int} {a:Nat} (h:a<L.length):(L.map f).getD a 0=f (L.getD a 0):=by
 rw[List.getD_eq_getElem?_getD,List.getD_eq_getElem?_getD,List.getElem?_map,List.getElem?_eq_getElem h];rfl
theorem A40 {n:Nat} {es:List (Nat×Nat)} {st:List Int×Int} {e:Nat×Nat} (h:UfOk n es st) (m:e.1<n) (q:e.2<n):UfOk n (es++[e]) (IK st e):=by
 obtain⟨u,v⟩:=e
 unfold IK
 by_cases s:st.1.getD u 0=st.1.getD v 0
 ·have c:(st.1.getD u 0==st.1.getD v 0)=true:=by simpa using s
  simp only[c,cond_true]
  have d:=(h.iff u v m q).1 s
  refine⟨h.len,fun a b k l=>?_,by rw[A07 d];exact h.cnt⟩
  rw[h.iff a b k l]
  constructor
  ·exact Conn.old
  ·intro i
   rcases i.add with c | ⟨c,f⟩ | ⟨c,f⟩
   ·exact c
   ·exact c.trans (d.trans f)
   ·exact c.trans (d.symm.trans f)
 ·have c:(st.1.getD u 0==st.1.getD v 0)=false:=by simpa using s
  simp only[c,cond_false]
  have d:¬ Conn es u v:=fun x=>s ((h.iff u v m q).2 x)
  refine⟨by simp[qg,h.len],fun a b k l=>?_,by
   have e:=A08 (n:=n) (es:=es) (u:=u) (v:=v) m q d
   show st.2 - 1=_
   rw[h.cnt,e];omega⟩
  have t:a<st.1.length:=by rw[h.len];exact k
  have z:b<st.1.length:=by rw[h.len];exact l
  unfold qg
  rw[Av6 t,Av6 z]
  have iff':=h.iff a b k l
  have av:=h.iff a v k q
  have bv:=h.iff b v l q
  have au:=h.iff a u k m
  have bu:=h.iff b u l m
  by_cases x:st.1.getD a 0=st.1.getD v 0<;>by_cases y:st.1.getD b 0=st.1.getD v 0
  ·have A:Conn es a b:=iff'.1 (x.trans y.symm)
   have x':(st.1.getD a 0==st.1.getD v 0)=true:=by simpa using x
   have j:(st.1.getD b 0==st.1.getD v 0)=true:=by simpa using y
   simp only[x',j,cond_true,true_iff]
   exact A.old
  ·have x':(st.1.getD a 0==st.1.getD v 0)=true:=by simpa using x
   have j:(st.1.getD b 0==st.1.getD v 0)=false:=by simpa using y
   simp only[x',j,cond_true,cond_false]
   constructor
   ·intro e;exact((av.1 x).old.trans Conn.new.symm).trans (bu.1 e.symm).symm.old
   ·intro i
    rcases i.add with c | ⟨c,f⟩ | ⟨c,f⟩
    ·exact absurd (bv.2 (c.symm.trans (av.1 x))) y
    ·exact absurd (c.symm.trans (av.1 x)) d
    ·exact(bu.2 f.symm).symm
  ·have x':(st.1.getD a 0==st.1.getD v 0)=false:=by simpa using x
   have j:(st.1.getD b 0==st.1.getD v 0)=true:=by simpa using y
   simp only[x',j,cond_true,cond_false]
   constructor
   ·intro e;exact(au.1 e).old.trans (Conn.new.trans (bv.1 y).symm.old)
   ·intro i
    rcases i.add with c | ⟨c,f⟩ | ⟨c,f⟩
    ·exact absurd (av.2 (c.trans (bv.1 y))) x
    ·exact au.2 c
    ·exact absurd (f.trans (bv.1 y)) d
  ·have x':(st.1.getD a 0==st.1.getD v 0)=false:=by simpa using x
   have j:(st.1.getD b 0==st.1.getD v 0)=false:=by simpa using y
   simp only[x',j,cond_false]
   rw[iff']
   constructor
   ·exact Conn.old
   ·intro i
    rcases i.add with c | ⟨c,f⟩ | ⟨c,f⟩
    ·exact c
    ·exact absurd (bv.2 f.symm) y
    ·exact absurd (av.2 c) x
theorem A8z (n:Nat):UfOk n [] (Ft n,(n:Int)):=by
 refine⟨by simp[Ft],fun a b d f=>?_,by rw[A4z]⟩
 simp only[gh d,gh f]
 constructor
 ·intro e;have:a=b:=by omega
  subst this;exact .refl _
 ·intro h
  have h0:∀ a b,Conn [] a b→a=b:=by
   intro a b h
   induction h with
   | refl=>rfl
   | fwd c=>simp at c
   | bwd c=>simp at c
  rw[h0 a b h]
theorem A27 {n:Nat}:∀ (fs es:List (Nat×Nat)) (st:List Int×Int),UfOk n es st→(∀ e ∈ fs,e.1<n∧e.2<n)→UfOk n (es++fs) (fs.foldl IK st)
 | [],es,st,h,_=>by simpa using h
 | e::r,es,st,h,b=>by
  rw[List.foldl_cons]
  have:=A27 r (es++[e]) (IK st e) (A40 h (b e (by simp)).1 (b e (by simp)).2) (fun x c=>b x (List.mem_cons_of_mem _ c))
  simpa using this
theorem Av7 {n:Nat} {es:List (Nat×Nat)} (b:∀ e ∈ es,e.1<n∧e.2<n):(es.foldl IK (Ft n,(n:Int))).2=(Jn n es:Int):=by
 have:=(A27 es [] _ (A8z n) b).cnt
 simpa using this
end Gx.Cf

namespace Gx
open Go Go.Proofs
open IntKind (wrap)
set_option maxRecDepth 100000
noncomputable section
variable {R:Type} (N:Nat)
def EX (N:Nat) (k1:Int→Int→Int→LA→O R) (r0:Int→O R) (b:Nat) (o p:Int) (e:LA) (d:Nat) (f g:Bool) (l q:Int) (i:Bool) (c:LA) (k3:Int→Int→Int→LA→O R) (y z t:Int) (v:LA):O R :=
 (cond (decide (t<z)) (cond (Ae t b) (Ap .i64 (v.drop (0+((t.toNat)*1))) fun ae=>(cond (ae==p) (cond (Ae t b) (cond ((Nat.beq 1 1)&&((Nat.ble ((0+((t.toNat)*1))+1) (v.length))&&(!false))) (k3 y z (wrap .i64 (t+1)) (v.set (0+((t.toNat)*1)) (.int .i64 o))) none) none) (k3 y z (wrap .i64 (t+1)) v))) none) (k1 y l (wrap .i64 (q+1)) v))
def Uy (k1:Int→Int→Int→LA→O R) (r0:Int→O R) (b:Nat) (o p:Int) (e:LA) (d:Nat) (f g:Bool) (l q:Int) (i:Bool) (c:LA):Nat→Int→Int→Int→LA→O R
 | 0,_,_,_,_=>none
 | n+1,y,z,t,v=>(EX N k1 r0 b o p e d f g l q i c (Uy k1 r0 b o p e d f g l q i c n) y z t v)
def VD (N:Nat) (k1:Int→Int→Int→LA→O R) (r0:Int→O R) (b:Nat) (m o p:Int) (e:LA) (d:Nat) (f g:Bool) (l:Int) (i:Bool) (c:LA) (q3:Int→Int→Int→LA→O R) (q:Int) (aa:LA):O R :=
 (q3 (wrap .i64 (m - 1)) ((b:Nat):Int) 0 aa)
def MC (k1:Int→Int→Int→LA→O R) (r0:Int→O R) (b:Nat) (m o p:Int) (e:LA) (d:Nat) (f g:Bool) (l:Int) (i:Bool) (c:LA) (q:Int) (aa:LA):O R:=(VD N k1 r0 b m o p e d f g l i c (fun y z t v=>(Uy N k1 r0 b o p e d f g l q i c N y z t v)) q aa)
def EY (r0:Int→O R) (b:Nat) (e:LA) (d:Nat) (f g i:Bool) (c:LA) (k1:Int→Int→Int→LA→O R) (q2:Int→Int→Int→LA→O R) (m l r:Int) (s:LA):O R :=
 (cond (decide (r<l)) (cond (Ae r d) (Ap .i64 (e.drop ((r.toNat)*1)) fun ab=>(Br 12 (c.drop 3) fun af ag=>(cond (Ae ab ag) (Ap .i64 ((af.drop ((ab.toNat)*12)).drop 1) fun ac=>(cond (Ae ac b) (Ap .i64 (s.drop (0+((ac.toNat)*1))) fun o=>(Br 12 (c.drop 3) fun ah ai=>(cond (Ae ab ai) (Ap .i64 ((ah.drop ((ab.toNat)*12)).drop 2) fun ad=>(cond (Ae ad b) (Ap .i64 (s.drop (0+((ad.toNat)*1))) fun p=>(cond ((o==p)==false) (Do N ab (q2 o p r s)) (k1 m l (wrap .i64 (r+1)) s))) none)) none))) none)) none))) none) (r0 m))
def Ml (r0:Int→O R) (b:Nat) (e:LA) (d:Nat) (f g i:Bool) (c:LA):Nat→Int→Int→Int→LA→O R
 | 0,_,_,_,_=>none
 | n+1,m,l,r,s=>(EY N r0 b e d f g i c (Ml r0 b e d f g i c n) (fun o p q aa=>(MC N (Ml r0 b e d f g i c n) r0 b m o p e d f g l i c q aa)) m l r s)
def EZ (N:Nat) (r0:Int→O R) (e:LA) (d:Nat) (f g:Bool) (b:Nat) (i:Bool) (c:LA) (k0:Int→Int→LA→O R) (q1:Int→Int→Int→LA→O R) (x u:Int) (w:LA):O R :=
 (cond (decide (u<x)) (cond (Ae u b) (cond ((Nat.beq 1 1)&&((Nat.ble ((0+((u.toNat)*1))+1) (w.length))&&(!false))) (k0 x (wrap .i64 (u+1)) (w.set (0+((u.toNat)*1)) (.int .i64 u))) none) none) (q1 ((b:Nat):Int) ((d:Nat):Int) 0 w))
def Qj (r0:Int→O R) (e:LA) (d:Nat) (f g:Bool) (b:Nat) (i:Bool) (c:LA):Nat→Int→Int→LA→O R
 | 0,_,_,_=>none
 | n+1,x,u,w=>(EZ N r0 e d f g b i c (Qj r0 e d f g b i c n) (fun m l r s=>(Ml N r0 b e d f g i c N m l r s)) x u w)
def gz (N:Nat) (r0:Int→O R) (q0:Nat→Int→Int→LA→O R) (c:LA) (i:Bool) (e:LA) (d:Nat) (f g:Bool):O R :=
 (Br 3 (c.drop 2) fun ak b=>(cond ((decide (0≤((b:Nat):Int)))&&((decide (((b:Nat):Int)≤((b:Nat):Int)))&&((decide (((b:Nat):Int)≤140737488355328))&&(decide ((((b:Nat):Int)*((8:Nat):Int))≤140737488355328))))) (q0 b ((b:Nat):Int) 0 (List.replicate b (.int .i64 0))) none))
def RG:=(Ag (fun (N:Nat) (c:LA) (i:Bool) (e:LA) (d:Nat) (f g:Bool) (r0:Int→O R)=>(gz N r0 (fun b x u w=>(Qj N r0 e d f g b i c N x u w)) c i e d f g))).1
theorem qh (c i e d f g r0):(@RG R N c i e d f g r0)=(gz N r0 (fun b x u w=>(Qj N r0 e d f g b i c N x u w)) c i e d f g):=by rw[RG,(Ag _).2]
def xB:Hints:={ H:=(hS hL (hS hL (hS (hS hL (hS (hP [1,2,3,7,20,21] hL) hL)) (hS hL (hS (hS hL (hS (hP [2,3,7,9,31,32,33] (hS hL (hS hL (hS (hS (hS hL (hS hL (hJ [2,3,7,9,12,13,31,32,33] hL (hS hL (hS hL (hS (hP [2,3,7,9,12,13,31,32,33,66,67] hL) hL)))))) hL) hL)))) hL)) hL))))) }
def Afm:F2:=[(285,Yi N)]
def MD (F:KF R):=Ju Tryz.f251 xB (Afm N) [] N F
def Fv (F:KF R):Int→O R:=(fun aj=>F (iv aj) [])
def Av8 (b:Nat) (o p:Int) (e:LA) (d:Nat) (f g:Bool) (l q:Int) (i:Bool) (c:LA) (y z t:Int) (v:LA):St:=⟨[(2,.nsl),(3,(op 0)),(7,(.own 300001 0 b)),(9,(iv y)),(12,(iv o)),(13,(iv p)),(31,(.imm e d 1 f g)),(32,(iv l)),(33,(iv q)),(66,(iv z)),(67,(iv t))],(hq [(bP i 0 c),(bQ 1 v)])⟩
def Av9 (F:KF R) (Q1:St→O R):=MD N F [1,1,1,1,0,1,0,0,1,1,0,0,1,1,1,1,1,0] [Q1]
def Awa (b:Nat) (m o p:Int) (e:LA) (d:Nat) (f g:Bool) (l:Int) (i:Bool) (c:LA) (q:Int) (aa:LA):St:=⟨[(2,.nsl),(3,(op 0)),(7,(.own 300001 0 b)),(9,(iv m)),(12,(iv o)),(13,(iv p)),(31,(.imm e d 1 f g)),(32,(iv l)),(33,(iv q))],(hq [(bP i 0 c),(bQ 1 aa)])⟩
def Awb (F:KF R) (Q1:St→O R):=MD N F [1,1,1,1,0,1,0,0,1,1,0,0,1,1,1] [Q1]
def BQ (b:Nat) (e:LA) (d:Nat) (f g i:Bool) (c:LA) (m l r:Int) (s:LA):St:=⟨[(2,.nsl),(3,(op 0)),(7,(.own 300001 0 b)),(9,(iv m)),(31,(.imm e d 1 f g)),(32,(iv l)),(33,(iv r))],(hq [(bP i 0 c),(bQ 1 s)])⟩
def xC (F:KF R):=MD N F [1,1,1,1,0,1,0] []
def Awc (e:LA) (d:Nat) (f g:Bool) (b:Nat) (i:Bool) (c:LA) (x u:Int) (w:LA):St:=⟨[(1,(.imm e d 1 f g)),(2,.nsl),(3,(op 0)),(7,(.own 300001 0 b)),(20,(iv x)),(21,(iv u))],(hq [(bP i 0 c),(bQ 1 w)])⟩
def Awd (F:KF R):=MD N F [1,1,0,1,0] []
theorem ez (Q1:St→O R) (F:KF R) (b:Nat) (o p:Int) (e:LA) (d:Nat) (f g:Bool) (l q:Int) (i:Bool) (c:LA):∀ (n:Nat) (y z t:Int) (v:LA),Ak (Av9 N F Q1) n (Av8 b o p e d f g l q i c y z t v)=(Uy N (fun m l r s=>Q1 (BQ b e d f g i c m l r s)) (Fv F) b o p e d f g l q i c n y z t v)
 | 0,_,_,_,_=>by kernel_rfl
 | n+1,y,z,t,v=>Eq.trans (by kernel_rfl) (Bt (EX N (fun m l r s=>Q1 (BQ b e d f g i c m l r s)) (Fv F) b o p e d f g l q i c · y z t v) (funext fun y=>funext fun z=>funext fun t=>funext fun v=>(ez Q1 F b o p e d f g l q i c n y z t v)):_)
theorem Afn (Q1:St→O R) (F:KF R) (b:Nat) (m o p:Int) (e:LA) (d:Nat) (f g:Bool) (l:Int) (i:Bool) (c:LA):∀ (q:Int) (aa:LA),B5 (Awb N F Q1) (Awa b m o p e d f g l i c q aa)=(MC N (fun m l r s=>Q1 (BQ b e d f g i c m l r s)) (Fv F) b m o p e d f g l i c q aa):=by
 intro q aa
 exact Eq.trans (by kernel_rfl) (Bt (VD N (fun m l r s=>Q1 (BQ b e d f g i c m l r s)) (Fv F) b m o p e d f g l i c · q aa) (funext fun y=>funext fun z=>funext fun t=>funext fun v=>(Ad ..).trans (ez N Q1 F b o p e d f g l q i c N y z t v)):_)
theorem fA (F:KF R) (b:Nat) (e:LA) (d:Nat) (f g i:Bool) (c:LA):∀ (n:Nat) (m l r:Int) (s:LA),Ak (xC N F) n (BQ b e d f g i c m l r s)=(Ml N (Fv F) b e d f g i c n m l r s)
 | 0,_,_,_,_=>by kernel_rfl
 | n+1,m,l,r,s=>have e0:=(funext fun m=>funext fun l=>funext fun r=>funext fun s=>(fA F b e d f g i c n m l r s))
  Eq.trans (by kernel_rfl) (OQ (EY N (Fv F) b e d f g i c · · m l r s) e0 (funext fun o=>funext fun p=>funext fun q=>funext fun aa=>(A1 ..).trans ((Afn N (Ak (xC N F) n) F b m o p e d f g l i c q aa).trans (Bt (MC N · (Fv F) b m o p e d f g l i c q aa) e0))):_)
theorem fB (F:KF R) (e:LA) (d:Nat) (f g:Bool) (b:Nat) (i:Bool) (c:LA):∀ (n:Nat) (x u:Int) (w:LA),Ak (Awd N F) n (Awc e d f g b i c x u w)=(Qj N (Fv F) e d f g b i c n x u w)
 | 0,_,_,_=>by kernel_rfl
 | n+1,x,u,w=>Eq.trans (by kernel_rfl) (OQ (EZ N (Fv F) e d f g b i c · · x u w) (funext fun x=>funext fun u=>funext fun w=>(fB F e d f g b i c n x u w)) (funext fun m=>funext fun l=>funext fun r=>funext fun s=>(Ad ..).trans (fA N F b e d f g i c N m l r s)):_)
theorem xD (c:LA) (i:Bool) (e:LA) (d:Nat) (f g:Bool) (F:KF R):Cw (Afm N) xB N 251 [(.pagg c i),(.imm e d 1 f g),.nsl] [] F=(RG N c i e d f g (Fv F)):=by
 rw[qh]
 exact Eq.trans (by kernel_rfl) (Bt (gz N (Fv F) · c i e d f g) (funext fun b=>funext fun x=>funext fun u=>funext fun w=>(Ad ..).trans (fB N F e d f g b i c N x u w)):_)
def To (N:Nat) (k1:Int→Int→Int→LA→O R) (r0:Int→O R) (e:LA) (f:Nat) (l g:Bool) (b:Nat) (t u:Int) (i:LA) (d:Nat) (m o:Bool) (r q:Int) (p:Bool) (c:LA) (k3:Int→Int→Int→LA→O R) (ab ac w:Int) (y:LA):O R :=
 (cond (decide (w<ac)) (cond (Ae w b) (Ap .i64 (y.drop (0+((w.toNat)*1))) fun ah=>(cond (ah==u) (cond (Ae w b) (cond ((Nat.beq 1 1)&&((Nat.ble ((0+((w.toNat)*1))+1) (y.length))&&(!false))) (k3 ab ac (wrap .i64 (w+1)) (y.set (0+((w.toNat)*1)) (.int .i64 t))) none) none) (k3 ab ac (wrap .i64 (w+1)) y))) none) (k1 ab r (wrap .i64 (q+1)) y))
def L4 (k1:Int→Int→Int→LA→O R) (r0:Int→O R) (e:LA) (f:Nat) (l g:Bool) (b:Nat) (t u:Int) (i:LA) (d:Nat) (m o:Bool) (r q:Int) (p:Bool) (c:LA):Nat→Int→Int→Int→LA→O R
 | 0,_,_,_,_=>none
 | n+1,ab,ac,w,y=>(To N k1 r0 e f l g b t u i d m o r q p c (L4 k1 r0 e f l g b t u i d m o r q p c n) ab ac w y)
def CK (N:Nat) (k1:Int→Int→Int→LA→O R) (r0:Int→O R) (e:LA) (f:Nat) (l g:Bool) (b:Nat) (s t u:Int) (i:LA) (d:Nat) (m o:Bool) (r q:Int) (p:Bool) (c:LA) (q3:Int→Int→Int→LA→O R) (ad:LA):O R :=
 (q3 (wrap .i64 (s - 1)) ((b:Nat):Int) 0 ad)
def Wg (k1:Int→Int→Int→LA→O R) (r0:Int→O R) (e:LA) (f:Nat) (l g:Bool) (b:Nat) (s t u:Int) (i:LA) (d:Nat) (m o:Bool) (r q:Int) (p:Bool) (c ad:LA):O R:=(CK N k1 r0 e f l g b s t u i d m o r q p c (fun ab ac w y=>(L4 N k1 r0 e f l g b t u i d m o r q p c N ab ac w y)) ad)
def Tp (r0:Int→O R) (e:LA) (f:Nat) (l g:Bool) (b:Nat) (i:LA) (d:Nat) (m o p:Bool) (c:LA) (k1:Int→Int→Int→LA→O R) (q2:Int→Int→LA→O R) (s r q:Int) (v:LA):O R :=
 (cond (decide (q<r)) (cond (Ae q d) (Ap .i64 (i.drop ((q.toNat)*1)) fun ae=>(Br 12 (c.drop 3) fun ai aj=>(cond (Ae ae aj) (Ap .i64 ((ai.drop ((ae.toNat)*12)).drop 1) fun af=>(cond (Ae af b) (Ap .i64 (v.drop (0+((af.toNat)*1))) fun t=>(Br 12 (c.drop 3) fun ak al=>(cond (Ae ae al) (Ap .i64 ((ak.drop ((ae.toNat)*12)).drop 2) fun ag=>(cond (Ae ag b) (Ap .i64 (v.drop (0+((ag.toNat)*1))) fun u=>(cond ((t==u)==false) (Dg N e f false g ae (fun am=>(cond (cond false true am) (k1 s r (wrap .i64 (q+1)) v) (q2 t u v)))) (k1 s r (wrap .i64 (q+1)) v))) none)) none))) none)) none))) none) (r0 s))
def Gw (r0:Int→O R) (e:LA) (f:Nat) (l g:Bool) (b:Nat) (i:LA) (d:Nat) (m o p:Bool) (c:LA):Nat→Int→Int→Int→LA→O R
 | 0,_,_,_,_=>none
 | n+1,s,r,q,v=>(Tp N r0 e f l g b i d m o p c (Gw r0 e f l g b i d m o p c n) (fun t u ad=>(Wg N (Gw r0 e f l g b i d m o p c n) r0 e f l g b s t u i d m o r q p c ad)) s r q v)
def Tq (N:Nat) (r0:Int→O R) (i:LA) (d:Nat) (m o:Bool) (e:LA) (f:Nat) (l g:Bool) (b:Nat) (p:Bool) (c:LA) (k0:Int→Int→LA→O R) (q1:Int→Int→Int→LA→O R) (aa x:Int) (z:LA):O R :=
 (cond (decide (x<aa)) (cond (Ae x b) (cond ((Nat.beq 1 1)&&((Nat.ble ((0+((x.toNat)*1))+1) (z.length))&&(!false))) (k0 aa (wrap .i64 (x+1)) (z.set (0+((x.toNat)*1)) (.int .i64 x))) none) none) (q1 ((b:Nat):Int) ((d:Nat):Int) 0 z))
def I8 (r0:Int→O R) (i:LA) (d:Nat) (m o:Bool) (e:LA) (f:Nat) (l g:Bool) (b:Nat) (p:Bool) (c:LA):Nat→Int→Int→LA→O R
 | 0,_,_,_=>none
 | n+1,aa,x,z=>(Tq N r0 i d m o e f l g b p c (I8 r0 i d m o e f l g b p c n) (fun s r q v=>(Gw N r0 e f l g b i d m o p c N s r q v)) aa x z)
def E_ (N:Nat) (r0:Int→O R) (q0:Nat→Int→Int→LA→O R) (c:LA) (p:Bool) (i:LA) (d:Nat) (m o:Bool) (e:LA) (f:Nat) (l g:Bool):O R :=
 (Br 3 (c.drop 2) fun ao b=>(cond ((decide (0≤((b:Nat):Int)))&&((decide (((b:Nat):Int)≤((b:Nat):Int)))&&((decide (((b:Nat):Int)≤140737488355328))&&(decide ((((b:Nat):Int)*((8:Nat):Int))≤140737488355328))))) (q0 b ((b:Nat):Int) 0 (List.replicate b (.int .i64 0))) none))
def Uz:=(Ag (fun (N:Nat) (c:LA) (p:Bool) (i:LA) (d:Nat) (m o:Bool) (e:LA) (f:Nat) (l g:Bool) (r0:Int→O R)=>(E_ N r0 (fun b aa x z=>(I8 N r0 i d m o e f l g b p c N aa x z)) c p i d m o e f l g))).1
theorem ZS (c p i d m o e f l g r0):(@Uz R N c p i d m o e f l g r0)=(E_ N r0 (fun b aa x z=>(I8 N r0 i d m o e f l g b p c N aa x z)) c p i d m o e f l g):=by rw[Uz,(Ag _).2]
def fC:Hints:={ H:=(hS hL (hS hL (hS (hS hL (hS (hP [1,2,3,7,20,21] hL) hL)) (hS hL (hS (hS hL (hS (hP [2,3,7,9,31,32,33] (hS hL (hS hL (hS (hS (hS hL (hS hL (hJ [2,3,7,9,12,13,31,32,33] hL (hS hL (hS hL (hS (hP [2,3,7,9,12,13,31,32,33,66,67] hL) hL)))))) hL) hL)))) hL)) hL))))) }
def kf:F2:=[(285,O8 N)]
def Wh (F:KF R):=Ju Tryz.f251 fC (kf N) [] N F
def Dc (F:KF R):Int→O R:=(fun an=>F (iv an) [])
def Afo (e:LA) (f:Nat) (l g:Bool) (b:Nat) (t u:Int) (i:LA) (d:Nat) (m o:Bool) (r q:Int) (p:Bool) (c:LA) (ab ac w:Int) (y:LA):St:=⟨[(2,(.imm e f 1 l g)),(3,(op 0)),(7,(.own 300001 0 b)),(9,(iv ab)),(12,(iv t)),(13,(iv u)),(31,(.imm i d 1 m o)),(32,(iv r)),(33,(iv q)),(66,(iv ac)),(67,(iv w))],(hq [(bP p 0 c),(bQ 1 y)])⟩
def Afp (F:KF R) (Q1:St→O R):=Wh N F [1,1,1,1,0,1,0,0,1,1,0,0,1,1,1,1,1,0] [Q1]
def Afq (e:LA) (f:Nat) (l g:Bool) (b:Nat) (s t u:Int) (i:LA) (d:Nat) (m o:Bool) (r q:Int) (p:Bool) (c ad:LA):St:=⟨[(2,(.imm e f 1 l g)),(3,(op 0)),(7,(.own 300001 0 b)),(9,(iv s)),(12,(iv t)),(13,(iv u)),(31,(.imm i d 1 m o)),(32,(iv r)),(33,(iv q))],(hq [(bP p 0 c),(bQ 1 ad)])⟩
def Afr (F:KF R) (Q1:St→O R):=Wh N F [1,1,1,1,0,1,0,0,1,1,0,0,1,1,1] [Q1]
def Qk (e:LA) (f:Nat) (l g:Bool) (b:Nat) (i:LA) (d:Nat) (m o p:Bool) (c:LA) (s r q:Int) (v:LA):St:=⟨[(2,(.imm e f 1 l g)),(3,(op 0)),(7,(.own 300001 0 b)),(9,(iv s)),(31,(.imm i d 1 m o)),(32,(iv r)),(33,(iv q))],(hq [(bP p 0 c),(bQ 1 v)])⟩
def fD (F:KF R):=Wh N F [1,1,1,1,0,1,0] []
def Afs (i:LA) (d:Nat) (m o:Bool) (e:LA) (f:Nat) (l g:Bool) (b:Nat) (p:Bool) (c:LA) (aa x:Int) (z:LA):St:=⟨[(1,(.imm i d 1 m o)),(2,(.imm e f 1 l g)),(3,(op 0)),(7,(.own 300001 0 b)),(20,(iv aa)),(21,(iv x))],(hq [(bP p 0 c),(bQ 1 z)])⟩
def Aft (F:KF R):=Wh N F [1,1,0,1,0] []
theorem ME (Q1:St→O R) (F:KF R) (e:LA) (f:Nat) (l g:Bool) (b:Nat) (t u:Int) (i:LA) (d:Nat) (m o:Bool) (r q:Int) (p:Bool) (c:LA):∀ (n:Nat) (ab ac w:Int) (y:LA),Ak (Afp N F Q1) n (Afo e f l g b t u i d m o r q p c ab ac w y)=(L4 N (fun s r q v=>Q1 (Qk e f l g b i d m o p c s r q v)) (Dc F) e f l g b t u i d m o r q p c n ab ac w y)
 | 0,_,_,_,_=>by kernel_rfl
 | n+1,ab,ac,w,y=>Eq.trans (by kernel_rfl) (Bt (To N (fun s r q v=>Q1 (Qk e f l g b i d m o p c s r q v)) (Dc F) e f l g b t u i d m o r q p c · ab ac w y) (funext fun ab=>funext fun ac=>funext fun w=>funext fun y=>(ME Q1 F e f l g b t u i d m o r q p c n ab ac w y)):_)
theorem qi (Q1:St→O R) (F:KF R) (e:LA) (f:Nat) (l g:Bool) (b:Nat) (s t u:Int) (i:LA) (d:Nat) (m o:Bool) (r q:Int) (p:Bool) (c:LA):∀ (ad:LA),B5 (Afr N F Q1) (Afq e f l g b s t u i d m o r q p c ad)=(Wg N (fun s r q v=>Q1 (Qk e f l g b i d m o p c s r q v)) (Dc F) e f l g b s t u i d m o r q p c ad):=by
 intro ad
 exact Eq.trans (by kernel_rfl) (Bt (CK N (fun s r q v=>Q1 (Qk e f l g b i d m o p c s r q v)) (Dc F) e f l g b s t u i d m o r q p c · ad) (funext fun ab=>funext fun ac=>funext fun w=>funext fun y=>(Ad ..).trans (ME N Q1 F e f l g b t u i d m o r q p c N ab ac w y)):_)
theorem MF (F:KF R) (e:LA) (f:Nat) (l g:Bool) (b:Nat) (i:LA) (d:Nat) (m o p:Bool) (c:LA):∀ (n:Nat) (s r q:Int) (v:LA),Ak (fD N F) n (Qk e f l g b i d m o p c s r q v)=(Gw N (Dc F) e f l g b i d m o p c n s r q v)
 | 0,_,_,_,_=>by kernel_rfl
 | n+1,s,r,q,v=>have e0:=(funext fun s=>funext fun r=>funext fun q=>funext fun v=>(MF F e f l g b i d m o p c n s r q v))
  Eq.trans (by kernel_rfl) (OQ (Tp N (Dc F) e f l g b i d m o p c · · s r q v) e0 (funext fun t=>funext fun u=>funext fun ad=>(A1 ..).trans ((qi N (Ak (fD N F) n) F e f l g b s t u i d m o r q p c ad).trans (Bt (Wg N · (Dc F) e f l g b s t u i d m o r q p c ad) e0))):_)
theorem MG (F:KF R) (i:LA) (d:Nat) (m o:Bool) (e:LA) (f:Nat) (l g:Bool) (b:Nat) (p:Bool) (c:LA):∀ (n:Nat) (aa x:Int) (z:LA),Ak (Aft N F) n (Afs i d m o e f l g b p c aa x z)=(I8 N (Dc F) i d m o e f l g b p c n aa x z)
 | 0,_,_,_=>by kernel_rfl
 | n+1,aa,x,z=>Eq.trans (by kernel_rfl) (OQ (Tq N (Dc F) i d m o e f l g b p c · · aa x z) (funext fun aa=>funext fun x=>funext fun z=>(MG F i d m o e f l g b p c n aa x z)) (funext fun s=>funext fun r=>funext fun q=>funext fun v=>(Ad ..).trans (MF N F e f l g b i d m o p c N s r q v)):_)
theorem fE (c:LA) (p:Bool) (i:LA) (d:Nat) (m o:Bool) (e:LA) (f:Nat) (l g:Bool) (F:KF R):Cw (kf N) fC N 251 [(.pagg c p),(.imm i d 1 m o),(.imm e f 1 l g)] [] F=(Uz N c p i d m o e f l g (Dc F)):=by
 rw[ZS]
 exact Eq.trans (by kernel_rfl) (Bt (E_ N (Dc F) · c p i d m o e f l g) (funext fun b=>funext fun aa=>funext fun x=>funext fun z=>(Ad ..).trans (MG N F i d m o e f l g b p c N aa x z)):_)
def Wi (k0:Int→Bool→LA→O R) (r0:Bool→LA→O R) (l:Nat) (q d:Int) (m:LA) (o:Nat) (p:LA) (c:Bool) (b:LA) (k1:Int→Int→Bool→Int→Int→Bool→LA→O R) (r s:Int) (t:Bool) (u i:Int) (v:Bool) (w:LA):O R :=
 (cond (decide (i<u)) (cond (Ae i o) (cond (Nat.ble 4 ((m.drop ((i.toNat)*4)).length)) (cond ((Nat.beq 0 0)&&((Nat.beq (((m.drop ((i.toNat)*4)).take 4).length) 4)&&(Nat.beq 4 4))) (YU N 6 i v w (fun ae x=>(cond (Nat.ble 8 (x.length)) (Br 1 (((m.drop ((i.toNat)*4)).take 4).drop 1) fun af ag=>(Uz N (x.take 8) ae (p.take (l*1)) l false true af ag false t (fun ah=>(A5 N (ah==q) r 13 ae x (fun ai aj=>(k1 r s t u (wrap .i64 (i+1)) ai aj)))))) none))) none) none) none) (k0 (wrap .i64 (s+1)) v w))
def K5 (k0:Int→Bool→LA→O R) (r0:Bool→LA→O R) (l:Nat) (q d:Int) (m:LA) (o:Nat) (p:LA) (c:Bool) (b:LA):Nat→Int→Int→Bool→Int→Int→Bool→LA→O R
 | 0,_,_,_,_,_,_,_=>none
 | n+1,r,s,t,u,i,v,w=>(Wi N k0 r0 l q d m o p c b (K5 k0 r0 l q d m o p c b n) r s t u i v w)
def Wj (r0:Bool→LA→O R) (d:Int) (c:Bool) (b:LA) (k0:Int→Bool→LA→O R) (q1:Nat→Int→LA→Nat→LA→Int→Int→Bool→Int→Int→Bool→LA→O R) (g:Int) (f:Bool) (e:LA):O R :=
 (cond (decide (g<d)) (cond (Nat.ble 8 (e.length)) (FX N (e.take 8) f g (fun l p=>(cond (Nat.ble 8 (e.length)) (RG N (e.take 8) f (p.take (l*1)) l false true (fun q=>(Br 4 (e.drop 7) fun m o=>(q1 l q m o p g g f ((o:Nat):Int) 0 f e)))) none))) none) (r0 f e))
def H6 (r0:Bool→LA→O R) (d:Int) (c:Bool) (b:LA):Nat→Int→Bool→LA→O R
 | 0,_,_,_=>none
 | n+1,g,f,e=>(Wj N r0 d c b (H6 r0 d c b n) (fun l q m o p r s t u i v w=>(K5 N (H6 r0 d c b n) r0 l q d m o p c b N r s t u i v w)) g f e)
def MH (N:Nat) (r0:Bool→LA→O R) (q0:Int→Int→Bool→LA→O R) (c:Bool) (b:LA):O R :=
 (Ap .i64 b fun d=>(q0 d 0 c b))
def T7:=(Ag (fun (N:Nat) (c:Bool) (b:LA) (r0:Bool→LA→O R)=>(MH N r0 (fun d g f e=>(H6 N r0 d c b N g f e)) c b))).1
theorem fF (c b r0):(@T7 R N c b r0)=(MH N r0 (fun d g f e=>(H6 N r0 d c b N g f e)) c b):=by rw[T7,(Ag _).2]
def kg:Hints:={ H:=(hS hL (hS (hP [0,11,12] (hS hL (hS hL (hS (hS (hS hL (hS hL (hS hL (hS hL (hS (hP [0,2,3,4,11,12,31,32,33] hL) hL))))) hL) hL)))) hL)) }
def N6 (a:LA) (h:Aj) (k:KF R):O R :=
 match a,h with
 | [(.pagg y z),(.imm aa ab 1 ac ad),.nsl],[]=>(RG N y z aa ab ac ad (Fv k))
 | [(.pagg y z),(.imm aa ab 1 ac ad),(.imm ak al 1 am an)],[]=>(Uz N y z aa ab ac ad ak al am an (Dc k))
 | _,_=>none
theorem Pc:An N 251 @N6:=by
 intro R Q a h k j;unfold N6;split;exact A2 (xD ..) (xD ..) ⟨Yj N,trivial⟩;exact A2 (fE ..) (fE ..) ⟨O9 N,trivial⟩;exact A4
def E':=A3 (Pc N)
def FA:=Cz (Pc N)
def qk:F2:=[(250,Ap9 N),(251,E' N),(233,BJ N),(236,Di N)]
def ki (F:KF R):=Ju Tryz.f178 kg (qk N) [100000] N F
def H7 (F:KF R):Bool→LA→O R:=(fun ao ap=>F (.tup []) [(100000,(bP ao 0 ap))])
def Ai5 (l:Nat) (q d:Int) (m:LA) (o:Nat) (p:LA) (c:Bool) (b:LA) (r s:Int) (t:Bool) (u i:Int) (v:Bool) (w:LA):St:=⟨[(0,(.optr 100000 0)),(2,(iv r)),(3,(.own 300000 0 l)),(4,(iv q)),(11,(iv d)),(12,(iv s)),(31,(.imm m o 4 false t)),(32,(iv u)),(33,(iv i))],[(100000,(bP v 0 w)),(300000,(bQ 1 p))]⟩
def Ai6 (F:KF R) (Q0:St→O R):=ki N F [1,0,0,1,1,0,0,1,1,1,1,0] [Q0]
def NP (d:Int) (c:Bool) (b:LA) (g:Int) (f:Bool) (e:LA):St:=⟨[(0,(.optr 100000 0)),(11,(iv d)),(12,(iv g))],[(100000,(bP f 0 e))]⟩
def kj (F:KF R):=ki N F [1,0] []
theorem RH (Q0:St→O R) (F:KF R) (l:Nat) (q d:Int) (m:LA) (o:Nat) (p:LA) (c:Bool) (b:LA):∀ (n:Nat) (r s:Int) (t:Bool) (u i:Int) (v:Bool) (w:LA),Ak (Ai6 N F Q0) n (Ai5 l q d m o p c b r s t u i v w)=(K5 N (fun g f e=>Q0 (NP d c b g f e)) (H7 F) l q d m o p c b n r s t u i v w)
 | 0,_,_,_,_,_,_,_=>by kernel_rfl
 | n+1,r,s,t,u,i,v,w=>Eq.trans (by kernel_rfl) (Bt (Wi N (fun g f e=>Q0 (NP d c b g f e)) (H7 F) l q d m o p c b · r s t u i v w) (funext fun r=>funext fun s=>funext fun t=>funext fun u=>funext fun i=>funext fun v=>funext fun w=>(RH Q0 F l q d m o p c b n r s t u i v w)):_)
theorem RI (F:KF R) (d:Int) (c:Bool) (b:LA):∀ (n:Nat) (g:Int) (f:Bool) (e:LA),Ak (kj N F) n (NP d c b g f e)=(H6 N (H7 F) d c b n g f e)
 | 0,_,_,_=>by kernel_rfl
 | n+1,g,f,e=>have e0:=(funext fun g=>funext fun f=>funext fun e=>(RI F d c b n g f e))
  Eq.trans (by kernel_rfl) (OQ (Wj N (H7 F) d c b · · g f e) e0 (funext fun l=>funext fun q=>funext fun m=>funext fun o=>funext fun p=>funext fun r=>funext fun s=>funext fun t=>funext fun u=>funext fun i=>funext fun v=>funext fun w=>(Ad ..).trans ((RH N (Ak (kj N F) n) F l q d m o p c b N r s t u i v w).trans (Bt (K5 N · (H7 F) l q d m o p c b N r s t u i v w) e0))):_)
theorem ko (c:Bool) (b:LA) (F:KF R):Cw (qk N) kg N 178 [(.optr 100000 0)] [(100000,(bP c 0 b))] F=(T7 N c b (H7 F)):=by
 rw[fF]
 exact Eq.trans (by kernel_rfl) (Bt (MH N (H7 F) · c b) (funext fun d=>funext fun g=>funext fun f=>funext fun e=>(Ad ..).trans (RI N F d c b N g f e)):_)
def fG (a:LA) (h:Aj) (k:KF R):O R :=
 match a,h with
 | [(.optr 100000 0)],[(100000,⟨false,false,true,c,0,b,false,none⟩)]=>(T7 N c b (H7 k))
 | _,_=>none
theorem kp:An N 178 @fG:=by
 intro R Q a h k j;unfold fG;split;exact A2 (ko ..) (ko ..) ⟨Aqa N,FA N,BK N,Dj N,trivial⟩;exact A4
def Ai7:=A3 (kp N)
def Ai8:=Cz (kp N)
def Fi (r0:LA→Int→O R) (k0:Int→Bool→LA→O R) (b:Int) (c:Bool) (d:LA):O R :=
 (cond (decide (b<8)) (cond (Ae b 8) (cond (Nat.beq (0+((b.toNat)*1)) 0) (H_ N c d (fun s g=>(Ap .i64 (g.drop 11) fun aa=>(cond (aa != 0) (cond (Nat.ble 3 ((g.drop 8).length)) (cond ((!s)||(Az ((g.drop 8).take 3))) (Ap .i64 (g.drop 11) fun ab=>(cond ((Nat.beq (((g.drop 8).take 3).length) 3)&&((Nat.ble 3 3)&&(!false))) (cond (Nat.ble 3 ((setCells [(.int .i64 0),(.int .i64 0),(.int .i64 0)] 0 ((g.drop 8).take 3)).length)) (r0 ((setCells [(.int .i64 0),(.int .i64 0),(.int .i64 0)] 0 ((g.drop 8).take 3)).take 3) ab) none) none)) none) none) (k0 (wrap .i64 (b+1)) s g))))) (cond (Nat.beq (0+((b.toNat)*1)) 1) (IA N c d (fun t i=>(Ap .i64 (i.drop 11) fun ac=>(cond (ac != 0) (cond (Nat.ble 3 ((i.drop 8).length)) (cond ((!t)||(Az ((i.drop 8).take 3))) (Ap .i64 (i.drop 11) fun ad=>(cond ((Nat.beq (((i.drop 8).take 3).length) 3)&&((Nat.ble 3 3)&&(!false))) (cond (Nat.ble 3 ((setCells [(.int .i64 0),(.int .i64 0),(.int .i64 0)] 0 ((i.drop 8).take 3)).length)) (r0 ((setCells [(.int .i64 0),(.int .i64 0),(.int .i64 0)] 0 ((i.drop 8).take 3)).take 3) ad) none) none)) none) none) (k0 (wrap .i64 (b+1)) t i))))) (cond (Nat.beq (0+((b.toNat)*1)) 2) (ID N c d (fun u l=>(Ap .i64 (l.drop 11) fun ae=>(cond (ae != 0) (cond (Nat.ble 3 ((l.drop 8).length)) (cond ((!u)||(Az ((l.drop 8).take 3))) (Ap .i64 (l.drop 11) fun af=>(cond ((Nat.beq (((l.drop 8).take 3).length) 3)&&((Nat.ble 3 3)&&(!false))) (cond (Nat.ble 3 ((setCells [(.int .i64 0),(.int .i64 0),(.int .i64 0)] 0 ((l.drop 8).take 3)).length)) (r0 ((setCells [(.int .i64 0),(.int .i64 0),(.int .i64 0)] 0 ((l.drop 8).take 3)).take 3) af) none) none)) none) none) (k0 (wrap .i64 (b+1)) u l))))) (cond (Nat.beq (0+((b.toNat)*1)) 3) (IE N c d (fun v m=>(Ap .i64 (m.drop 11) fun ag=>(cond (ag != 0) (cond (Nat.ble 3 ((m.drop 8).length)) (cond ((!v)||(Az ((m.drop 8).take 3))) (Ap .i64 (m.drop 11) fun ah=>(cond ((Nat.beq (((m.drop 8).take 3).length) 3)&&((Nat.ble 3 3)&&(!false))) (cond (Nat.ble 3 ((setCells [(.int .i64 0),(.int .i64 0),(.int .i64 0)] 0 ((m.drop 8).take 3)).length)) (r0 ((setCells [(.int .i64 0),(.int .i64 0),(.int .i64 0)] 0 ((m.drop 8).take 3)).take 3) ah) none) none)) none) none) (k0 (wrap .i64 (b+1)) v m))))) (cond (Nat.beq (0+((b.toNat)*1)) 4) (Yf N c d (fun w o=>(Ap .i64 (o.drop 11) fun ai=>(cond (ai != 0) (cond (Nat.ble 3 ((o.drop 8).length)) (cond ((!w)||(Az ((o.drop 8).take 3))) (Ap .i64 (o.drop 11) fun aj=>(cond ((Nat.beq (((o.drop 8).take 3).length) 3)&&((Nat.ble 3 3)&&(!false))) (cond (Nat.ble 3 ((setCells [(.int .i64 0),(.int .i64 0),(.int .i64 0)] 0 ((o.drop 8).take 3)).length)) (r0 ((setCells [(.int .i64 0),(.int .i64 0),(.int .i64 0)] 0 ((o.drop 8).take 3)).take 3) aj) none) none)) none) none) (k0 (wrap .i64 (b+1)) w o))))) (cond (Nat.beq (0+((b.toNat)*1)) 5) (U' N c d (fun x p=>(Ap .i64 (p.drop 11) fun ak=>(cond (ak != 0) (cond (Nat.ble 3 ((p.drop 8).length)) (cond ((!x)||(Az ((p.drop 8).take 3))) (Ap .i64 (p.drop 11) fun al=>(cond ((Nat.beq (((p.drop 8).take 3).length) 3)&&((Nat.ble 3 3)&&(!false))) (cond (Nat.ble 3 ((setCells [(.int .i64 0),(.int .i64 0),(.int .i64 0)] 0 ((p.drop 8).take 3)).length)) (r0 ((setCells [(.int .i64 0),(.int .i64 0),(.int .i64 0)] 0 ((p.drop 8).take 3)).take 3) al) none) none)) none) none) (k0 (wrap .i64 (b+1)) x p))))) (cond (Nat.beq (0+((b.toNat)*1)) 6) (T6 N c d (fun y q=>(Ap .i64 (q.drop 11) fun am=>(cond (am != 0) (cond (Nat.ble 3 ((q.drop 8).length)) (cond ((!y)||(Az ((q.drop 8).take 3))) (Ap .i64 (q.drop 11) fun an=>(cond ((Nat.beq (((q.drop 8).take 3).length) 3)&&((Nat.ble 3 3)&&(!false))) (cond (Nat.ble 3 ((setCells [(.int .i64 0),(.int .i64 0),(.int .i64 0)] 0 ((q.drop 8).take 3)).length)) (r0 ((setCells [(.int .i64 0),(.int .i64 0),(.int .i64 0)] 0 ((q.drop 8).take 3)).take 3) an) none) none)) none) none) (k0 (wrap .i64 (b+1)) y q))))) (cond (Nat.beq (0+((b.toNat)*1)) 7) (T7 N c d (fun z r=>(Ap .i64 (r.drop 11) fun ao=>(cond (ao != 0) (cond (Nat.ble 3 ((r.drop 8).length)) (cond ((!z)||(Az ((r.drop 8).take 3))) (Ap .i64 (r.drop 11) fun ap=>(cond ((Nat.beq (((r.drop 8).take 3).length) 3)&&((Nat.ble 3 3)&&(!false))) (cond (Nat.ble 3 ((setCells [(.int .i64 0),(.int .i64 0),(.int .i64 0)] 0 ((r.drop 8).take 3)).length)) (r0 ((setCells [(.int .i64 0),(.int .i64 0),(.int .i64 0)] 0 ((r.drop 8).take 3)).take 3) ap) none) none)) none) none) (k0 (wrap .i64 (b+1)) z r))))) none)))))))) none) (r0 [(.int .i64 0),(.int .i64 0),(.int .i64 0)] 0))
def A9 (r0:LA→Int→O R):Nat→Int→Bool→LA→O R
 | 0,_,_,_=>none
 | n+1,b,c,d=>(Fi N r0 (A9 r0 n) b c d)
def hE (N:Nat) (r0:LA→Int→O R) (q0:Int→Bool→LA→O R) (e:LA) (f:Bool):O R :=
 (cond (Nat.ble 8 (e.length)) (cond ((Nat.beq ((e.take 8).length) 8)&&(Nat.ble 8 12)) (q0 0 (f||false) (setCells [(.int .i64 0),.nsl,.nsl,.nsl,.nsl,.nsl,.nsl,.nsl,(.int .i64 0),(.int .i64 0),(.int .i64 0),(.int .i64 0)] 0 (e.take 8))) none) none)
def BR:=(Ag (fun (N:Nat) (e:LA) (f:Bool) (r0:LA→Int→O R)=>(hE N r0 (fun b c d=>(A9 N r0 N b c d)) e f))).1
theorem ql (e f r0):(@BR R N e f r0)=(hE N r0 (fun b c d=>(A9 N r0 N b c d)) e f):=by rw[BR,(Ag _).2]
def xE:Hints:={ H:=(hS hL (hS hL (hS (hS hL (hS (hP [2,4,26,27,28] hL) hL)) hL))),modes:=[(3,0),(0,0)] }
def Afu:F2:=[(171,Avb N),(172,Avg N),(173,Avo N),(174,Avw N),(175,Ap4 N),(176,A04 N),(177,Aiy N),(178,Ai7 N)]
def Awe (F:KF R):=Ju Tryz.f104 xE (Afu N) [] N F
def BS (F:KF R):LA→Int→O R:=(fun aq ar=>F (.tup [(.pagg aq false),(iv ar)]) [])
def Awf (b:Int) (c:Bool) (d:LA):St:=⟨[(2,(op 0)),(4,(op 1)),(26,(.own 300002 0 8)),(27,(iv 8)),(28,(iv b))],(hq [(bQ 0 [(iv 0),(iv 0),(iv 0)]),(bP c 0 d),(bN 1 [(.fn 1000171 [(op 1)]),(.fn 1000172 [(op 1)]),(.fn 1000173 [(op 1)]),(.fn 1000174 [(op 1)]),(.fn 1000175 [(op 1)]),(.fn 1000176 [(op 1)]),(.fn 1000177 [(op 1)]),(.fn 1000178 [(op 1)])])])⟩
def Awg (F:KF R):=Awe N F [1,1,0,1,0] []
theorem fH (F:KF R):∀ (n:Nat) (b:Int) (c:Bool) (d:LA),Ak (Awg N F) n (Awf b c d)=(A9 N (BS F) n b c d)
 | 0,_,_,_=>by kernel_rfl
 | n+1,b,c,d=>Eq.trans (by kernel_rfl) (Bt (Fi N (BS F) · b c d) (funext fun b=>funext fun c=>funext fun d=>(fH F n b c d)):_)
theorem xF (e:LA) (f:Bool) (F:KF R):Cw (Afu N) xE N 104 [(.pagg e f)] [] F=(BR N e f (BS F)):=by
 rw[ql]
 exact Eq.trans (by kernel_rfl) (Bt (hE N (BS F) · e f) (funext fun b=>funext fun c=>funext fun d=>(Ad ..).trans (fH N F N b c d)):_)
def qm (a:LA) (h:Aj) (k:KF R):O R :=
 match a,h with
 | [(.pagg e f)],[]=>(BR N e f (BS k))
 | _,_=>none
theorem xG:An N 104 @qm:=by
 intro R Q a h k j;unfold qm;split;exact A2 (xF ..) (xF ..) ⟨Avc N,Avh N,Avp N,Avx N,Ap5 N,A05 N,Aiz N,Ai8 N,trivial⟩;exact A4
def fI:=A3 (xG N)
def fJ:=Cz (xG N)
def kq (N:Nat) (b:List UInt8) (r0:Bool→O R):O R :=
 (r0 (b==([]:List UInt8)))
def Rm:=(Ag (@kq R)).1
theorem RK:@Rm R=@kq R:=(Ag _).2
def ZT (F:KF R):Bool→O R:=(fun c=>F (.bool c) [])
theorem ZU (b:List UInt8) (F:KF R):Cw [] Cr N 182 [(.str b)] [] F=(Rm N b (ZT F)):=by
 rw[RK]
 kernel_rfl
def RL (a:LA) (h:Aj) (k:KF R):O R :=
 match a,h with
 | [(.str b)],[]=>(Rm N b (ZT k))
 | _,_=>none
theorem ZV:An N 182 @RL:=by
 intro R Q a h k j;unfold RL;split;exact A2 (ZU ..) (ZU ..) trivial;exact A4
def ZW:=A3 (ZV N)
def ZX:=Cz (ZV N)
end
end Gx

namespace Gx.Cf
open Go Go.Proofs
section
variable {R:Type}
theorem Awh {f:Int→Int} {L:List Int} {j:Nat} (h:j<L.length):((L.take j).map f++L.drop j).set j (f L[j])=(L.take (j+1)).map f++L.drop (j+1):=by
 have b:j - ((L.take j).map f).length=0:=by simp;omega
 rw[List.set_append_right _ _ (by simp;omega),b,List.take_succ_eq_append_getElem h,List.map_append,Cd h,List.set_cons_zero,List.append_assoc];rfl
theorem Awi {f:Int→Int} {L:List Int} {j:Nat} (h:j<L.length):((L.take j).map f++L.drop j).getD j 0=L[j]:=by
 have b:j - ((L.take j).map f).length=0:=by simp;omega
 rw[List.getD_eq_getElem?_getD,List.getElem?_append_right (by simp;omega),b,Cd h];rfl
theorem Al5 {f:Int→Int} {L:List Int} {j:Nat} (h:j<L.length) (b:f L[j]=L[j]):(L.take j).map f++L.drop j=(L.take (j+1)).map f++L.drop (j+1):=by
 rw[List.take_succ_eq_append_getElem h,List.map_append,Cd h];simp[b]
theorem ku {N:Nat} {c:CaseD} {L:List Int} {x7 x11 i32 i33 cnt:Int} {ls:List Int} {t1 o1 o0:Bool} {K1:Int→Int→Int→LA→O R} {K:Int→O R} (hs:L.length<4611686018427387904):∀ (m j fuel:Nat),j+m=L.length→m<fuel →
  Uy N K1 K L.length x7 x11 (Aq ls) ls.length t1 o1 i32 i33 o0 c.av fuel cnt (L.length:Int) (j:Int) (Aq ((L.take j).map (fun x=>cond (x==x11) x7 x)++L.drop j))=K1 cnt i32 (IntKind.wrap .i64 (i33+1)) (Aq (qg L x11 x7))
 | 0,j,fuel+1,k,_=>by
  rw[Uy];unfold EX
  rw[Jf (by omega),cf,C9 (by omega),List.append_nil,List.take_of_length_le (by omega)];rfl
 | m+1,j,fuel+1,k,b=>by
  rw[Uy];unfold EX
  have h:j<L.length:=by omega
  have d:((L.take j).map (fun x=>cond (x==x11) x7 x)++L.drop j).length=L.length:=by simp;omega
  have e:=ku (N:=N) (c:=c) (L:=L) (x7:=x7) (x11:=x11) (i32:=i32) (i33:=i33) (cnt:=cnt) (ls:=ls) (t1:=t1) (o1:=o1) (o0:=o0) (K1:=K1) (K:=K) hs m (j+1) fuel (by omega) (by omega)
  rw[Hy h,ct,Ab h,ct,Adx (by rw[d];simpa using h),Int.toNat_natCast,Awi h,ct,UF (by rw[d];exact h),ct,Nat.zero_add,Nat.mul_one,BE,Bo (by omega)]
  cases i:L[j]==x11 with
  | true =>
   have b:=Awh (f:=fun x=>cond (x==x11) x7 x) h
   simp only[i,cond_true] at b
   rw[b,ct,e]
  | false =>
   rw[cf,Al5 h (by simp[i]),e]
theorem NQ {N:Nat} {c:CaseD} {ls:List Int} {t1 o1 o0:Bool} {K:Int→O R} (hN:8≤N) (e:E2 c.buses.l.length N) (n:ls.length≤1000000) (f:∀ l ∈ ls,∃ x,LnV c l x):∀ (m j fuel:Nat) (st:List Int×Int),j+m=ls.length→m<fuel→st.1.length=c.buses.l.length→(-1000000+(m:Int)≤st.2∧st.2≤1000000) →
  Ml N K c.buses.l.length (Aq ls) ls.length t1 o1 o0 c.av fuel st.2 (ls.length:Int) (j:Int) (Aq st.1)=K ((ls.drop j).map (Ff c) |>.foldl IK st).2
 | 0,j,fuel+1,st,s,_,_,_=>by
  rw[Ml];unfold EY
  rw[Jf (by omega),cf,C9 (l:=ls) (by omega)];rfl
 | m+1,j,fuel+1,st,s,t,b,u=>by
  rw[Ml];unfold EY MC VD
  have h:j<ls.length:=by omega
  obtain⟨x,d⟩:=f ls[j] (List.getElem_mem h)
  have i:=NQ (N:=N) (c:=c) (ls:=ls) (t1:=t1) (o1:=o1) (o0:=o0) (K:=K) hN e n f m (j+1) fuel st (by omega) (by omega) b (by omega)
  have k:=NQ (N:=N) (c:=c) (ls:=ls) (t1:=t1) (o1:=o1) (o0:=o0) (K:=K) hN e n f m (j+1) fuel (qg st.1 (st.1.getD x.tl.toNat 0) (st.1.getD x.fr.toNat 0),st.2 - 1) (by omega) (by omega) (by simp[qg,b]) (by simp only;omega)
  rw[Hy h,ct,Ab h,ct,HO h]
  simp only[Ef,A68 d,A69 d]
  rw[Us d.l0 d.lt,ct,Us d.f0 d.f1,ct,Adx (by rw[b];exact d.f1),ct,Us d.t0 d.t1,ct,Adx (by rw[b];exact d.t1),Aqb hN,Bo (by omega),wrap_i64 (st.2 - 1) (by omega),Cd h]
  have q:=ku (R:=R) (N:=N) (c:=c) (L:=st.1) (x7:=st.1.getD x.fr.toNat 0) (x11:=st.1.getD x.tl.toNat 0) (i32:=(ls.length:Int)) (i33:=(j:Int)) (cnt:=st.2 - 1) (ls:=ls) (t1:=t1) (o1:=o1) (o0:=o0) (K1:=Ml N K c.buses.l.length (Aq ls) ls.length t1 o1 o0 c.av fuel) (K:=K) (by rw[b];exact e.2) st.1.length 0 N (by omega) (by rw[b];exact e.1)
  simp only[List.take_zero,List.map_nil,List.nil_append,List.drop_zero,Int.natCast_zero,b,Bo (show j<4611686018427387904 by omega)] at q
  rw[q]
  rw[List.map_cons,List.foldl_cons,gi d,IK]
  cases hq:st.1.getD x.fr.toNat 0==st.1.getD x.tl.toNat 0 with
  | true=>simp only[show(true==false)=false from rfl,cond_false,cond_true];exact i
  | false=>simp only[beq_self_eq_true,cond_false,cond_true];exact k
theorem kv {N:Nat} {c:CaseD} {ls:List Int} {t1 o1 o0:Bool} {K:Int→O R} (hN:8≤N) (b:E2 c.buses.l.length N) (i:c.buses.l.length≤1000000) (e:ls.length≤1000000) (hlN:ls.length<N) (f:∀ l ∈ ls,∃ x,LnV c l x) (L:List Int) (hL:L.length=c.buses.l.length):∀ (m j fuel:Nat),j+m=c.buses.l.length→m<fuel →
  Qj N K (Aq ls) ls.length t1 o1 c.buses.l.length o0 c.av fuel (c.buses.l.length:Int) (j:Int) (Aq ((Ft c.buses.l.length).take j++L.drop j))=K ((ls).map (Ff c) |>.foldl IK (Ft c.buses.l.length,(c.buses.l.length:Int))).2
 | 0,j,fuel+1,k,_=>by
  rw[Qj];unfold EZ
  have:=NQ (R:=R) (N:=N) (c:=c) (ls:=ls) (t1:=t1) (o1:=o1) (o0:=o0) (K:=K) hN b e f ls.length 0 N (Ft c.buses.l.length,(c.buses.l.length:Int)) (by omega) hlN (by simp[Ft]) (by simp only;omega)
  rw[Jf (by omega),cf,C9 (by omega),List.append_nil,List.take_of_length_le (by simp[Ft];omega)]
  simpa using this
 | m+1,j,fuel+1,k,n=>by
  rw[Qj];unfold EZ
  have h:j<c.buses.l.length:=by omega
  have d:((Ft c.buses.l.length).take j++L.drop j).length=c.buses.l.length:=by simp[Ft];omega
  rw[Hy h,ct,Ab h,ct,UF (by rw[d];simpa using h),ct,Int.toNat_natCast,Nat.zero_add,Nat.mul_one,BE,m9 hL h,Bo (by omega),kv hN b i e hlN f L hL m (j+1) fuel (by omega) (by omega)]
theorem A09 {N:Nat} {c:CaseD} {ls:List Int} {n:Nat} {t1 o1 o0:Bool} {K:Int→O R} (hn:n=ls.length) (hN:8≤N) (b:E2 c.buses.l.length N) (k:c.buses.l.length≤1000000) (m:ls.length≤1000000) (hlN:ls.length<N) (i:∀ l ∈ ls,∃ x,LnV c l x) :
  RG N c.av o0 (Aq ls) n t1 o1 K=K (Jn c.buses.l.length ((ls).map (Ff c)):Int):=by
 subst hn
 rw[qh];unfold gz
 have:=kv (R:=R) (N:=N) (c:=c) (ls:=ls) (t1:=t1) (o1:=o1) (o0:=o0) (K:=K) hN b k m hlN i (List.replicate c.buses.l.length 0) (by simp) c.buses.l.length 0 N (by omega) b.1
 rw[Av7 (by
  intro e j
  simp only[List.mem_map] at j
  obtain⟨l,d,rfl⟩:=j
  obtain⟨x,f⟩:=i l d
  rw[gi f];exact⟨f.f1,f.t1⟩)] at this
 have ok:(decide ((0:Int)≤((c.buses.l.length:Nat):Int))&&(decide (((c.buses.l.length:Nat):Int)≤((c.buses.l.length:Nat):Int))&&(decide (((c.buses.l.length:Nat):Int)≤(140737488355328:Int))&&decide ((((c.buses.l.length:Nat):Int)*((8:Nat):Int))≤(140737488355328:Int)))))=true:=by simp;omega
 rw[Gs,ok,ct]
 have e:List.replicate c.buses.l.length (AV.int .i64 (0:Int))=Aq (List.replicate c.buses.l.length 0):=by simp[Aq]
 rw[e]
 simpa using this
theorem RM {N:Nat} {c:CaseD} {L:List Int} {x7 x11 i32 i33 cnt:Int} {ls:List Int} {t1 o1 o0:Bool} {gone:List Int} {t2 o2:Bool} {K1:Int→Int→Int→LA→O R} {K:Int→O R} (hs:L.length<4611686018427387904):∀ (m j fuel:Nat),j+m=L.length→m<fuel →
  L4 N K1 K (Aq gone) gone.length t2 o2 L.length x7 x11 (Aq ls) ls.length t1 o1 i32 i33 o0 c.av fuel cnt (L.length:Int) (j:Int) (Aq ((L.take j).map (fun x=>cond (x==x11) x7 x)++L.drop j))=K1 cnt i32 (IntKind.wrap .i64 (i33+1)) (Aq (qg L x11 x7))
 | 0,j,fuel+1,k,_=>by
  rw[L4];unfold To
  rw[Jf (by omega),cf,C9 (by omega),List.append_nil,List.take_of_length_le (by omega)];rfl
 | m+1,j,fuel+1,k,b=>by
  rw[L4];unfold To
  have h:j<L.length:=by omega
  have d:((L.take j).map (fun x=>cond (x==x11) x7 x)++L.drop j).length=L.length:=by simp;omega
  have e:=RM (N:=N) (c:=c) (L:=L) (x7:=x7) (x11:=x11) (i32:=i32) (i33:=i33) (cnt:=cnt) (ls:=ls) (t1:=t1) (o1:=o1) (o0:=o0) (gone:=gone) (t2:=t2) (o2:=o2) (K1:=K1) (K:=K) hs m (j+1) fuel (by omega) (by omega)
  rw[Hy h,ct,Ab h,ct,Adx (by rw[d];simpa using h),Int.toNat_natCast,Awi h,ct,UF (by rw[d];exact h),ct,Nat.zero_add,Nat.mul_one,BE,Bo (by omega)]
  cases i:L[j]==x11 with
  | true =>
   have b:=Awh (f:=fun x=>cond (x==x11) x7 x) h
   simp only[i,cond_true] at b
   rw[b,ct,e]
  | false =>
   rw[cf,Al5 h (by simp[i]),e]
theorem Yk {N:Nat} {c:CaseD} {ls:List Int} {t1 o1 o0:Bool} {gone:List Int} {t2 o2:Bool} {K:Int→O R} (hN:8≤N) (e:E2 c.buses.l.length N) (q:ls.length≤1000000) (i:∀ l ∈ ls,∃ x,LnV c l x) (k:E2 gone.length N):∀ (m j fuel:Nat) (st:List Int×Int),j+m=ls.length→m<fuel→st.1.length=c.buses.l.length→(-1000000+(m:Int)≤st.2∧st.2≤1000000) →
  Gw N K (Aq gone) gone.length t2 o2 c.buses.l.length (Aq ls) ls.length t1 o1 o0 c.av fuel st.2 (ls.length:Int) (j:Int) (Aq st.1)=K ((((ls.drop j).filter fun l=>!gone.contains l)).map (Ff c) |>.foldl IK st).2
 | 0,j,fuel+1,st,t,_,_,_=>by
  rw[Gw];unfold Tp
  rw[Jf (by omega),cf,C9 (l:=ls) (by omega)];rfl
 | m+1,j,fuel+1,st,t,v,b,y=>by
  rw[Gw];unfold Tp Wg CK
  have h:j<ls.length:=by omega
  obtain⟨x,d⟩:=i ls[j] (List.getElem_mem h)
  have f:=Yk (N:=N) (c:=c) (ls:=ls) (t1:=t1) (o1:=o1) (o0:=o0) (gone:=gone) (t2:=t2) (o2:=o2) (K:=K) hN e q i k m (j+1) fuel st (by omega) (by omega) b (by omega)
  have n:=Yk (N:=N) (c:=c) (ls:=ls) (t1:=t1) (o1:=o1) (o0:=o0) (gone:=gone) (t2:=t2) (o2:=o2) (K:=K) hN e q i k m (j+1) fuel (qg st.1 (st.1.getD x.tl.toNat 0) (st.1.getD x.fr.toNat 0),st.2 - 1) (by omega) (by omega) (by simp[qg,b]) (by simp only;omega)
  rw[Hy h,ct,Ab h,ct,HO h]
  simp only[Ef,A68 d,A69 d]
  rw[Us d.l0 d.lt,ct,Us d.f0 d.f1,ct,Adx (by rw[b];exact d.f1),ct,Us d.t0 d.t1,ct,Adx (by rw[b];exact d.t1),kZ rfl k,Bo (by omega),wrap_i64 (st.2 - 1) (by omega),Cd h]
  have s:=RM (R:=R) (N:=N) (c:=c) (L:=st.1) (x7:=st.1.getD x.fr.toNat 0) (x11:=st.1.getD x.tl.toNat 0) (i32:=(ls.length:Int)) (i33:=(j:Int)) (cnt:=st.2 - 1) (ls:=ls) (t1:=t1) (o1:=o1) (o0:=o0) (gone:=gone) (t2:=t2) (o2:=o2) (K1:=Gw N K (Aq gone) gone.length t2 o2 c.buses.l.length (Aq ls) ls.length t1 o1 o0 c.av fuel) (K:=K) (by rw[b];exact e.2) st.1.length 0 N (by omega) (by rw[b];exact e.1)
  simp only[List.take_zero,List.map_nil,List.nil_append,List.drop_zero,Int.natCast_zero,b,Bo (show j<4611686018427387904 by omega)] at s
  rw[s]
  rw[List.filter_cons]
  cases u:gone.contains ls[j] with
  | true =>
   simp only[Bool.not_true,cond_true,cond_false,Bool.false_eq_true,if_false]
   cases st.1.getD x.fr.toNat 0==st.1.getD x.tl.toNat 0<;>exact f
  | false =>
   simp only[Bool.not_false,if_true]
   rw[List.map_cons,List.foldl_cons,gi d,IK]
   cases hq:st.1.getD x.fr.toNat 0==st.1.getD x.tl.toNat 0 with
   | true=>simp only[show(true==false)=false from rfl,cond_false,cond_true];exact f
   | false=>simp only[beq_self_eq_true,cond_false,cond_true];exact n
theorem RN {N:Nat} {c:CaseD} {ls:List Int} {t1 o1 o0:Bool} {gone:List Int} {t2 o2:Bool} {K:Int→O R} (hN:8≤N) (b:E2 c.buses.l.length N) (k:c.buses.l.length≤1000000) (e:ls.length≤1000000) (hlN:ls.length<N) (f:∀ l ∈ ls,∃ x,LnV c l x) (i:E2 gone.length N) (L:List Int) (hL:L.length=c.buses.l.length):∀ (m j fuel:Nat),j+m=c.buses.l.length→m<fuel →
  I8 N K (Aq ls) ls.length t1 o1 (Aq gone) gone.length t2 o2 c.buses.l.length o0 c.av fuel (c.buses.l.length:Int) (j:Int) (Aq ((Ft c.buses.l.length).take j++L.drop j))=K (((ls.filter fun l=>!gone.contains l)).map (Ff c) |>.foldl IK (Ft c.buses.l.length,(c.buses.l.length:Int))).2
 | 0,j,fuel+1,n,_=>by
  rw[I8];unfold Tq
  have:=Yk (R:=R) (N:=N) (c:=c) (ls:=ls) (t1:=t1) (o1:=o1) (o0:=o0) (gone:=gone) (t2:=t2) (o2:=o2) (K:=K) hN b e f i ls.length 0 N (Ft c.buses.l.length,(c.buses.l.length:Int)) (by omega) hlN (by simp[Ft]) (by simp only;omega)
  rw[Jf (by omega),cf,C9 (by omega),List.append_nil,List.take_of_length_le (by simp[Ft];omega)]
  simpa using this
 | m+1,j,fuel+1,n,q=>by
  rw[I8];unfold Tq
  have h:j<c.buses.l.length:=by omega
  have d:((Ft c.buses.l.length).take j++L.drop j).length=c.buses.l.length:=by simp[Ft];omega
  rw[Hy h,ct,Ab h,ct,UF (by rw[d];simpa using h),ct,Int.toNat_natCast,Nat.zero_add,Nat.mul_one,BE,m9 hL h,Bo (by omega),RN hN b k e hlN f i L hL m (j+1) fuel (by omega) (by omega)]
theorem Ai9 {N:Nat} {c:CaseD} {ls:List Int} {n:Nat} {t1 o1 o0:Bool} {gone:List Int} {t2 o2:Bool} {n2:Nat} {K:Int→O R} (hn:n=ls.length) (d:n2=gone.length) (hN:8≤N) (b:E2 c.buses.l.length N) (m:c.buses.l.length≤1000000) (q:ls.length≤1000000) (hlN:ls.length<N) (j:∀ l ∈ ls,∃ x,LnV c l x) (s:E2 gone.length N) :
  Uz N c.av o0 (Aq ls) n t1 o1 (Aq gone) n2 t2 o2 K=K (Jn c.buses.l.length (((ls.filter fun l=>!gone.contains l)).map (Ff c)):Int):=by
 subst hn d
 rw[ZS];unfold E_
 have:=RN (R:=R) (N:=N) (c:=c) (ls:=ls) (t1:=t1) (o1:=o1) (o0:=o0) (gone:=gone) (t2:=t2) (o2:=o2) (K:=K) hN b m q hlN j s (List.replicate c.buses.l.length 0) (by simp) c.buses.l.length 0 N (by omega) b.1
 rw[Av7 (by
  intro e k
  simp only[List.mem_map,List.mem_filter] at k
  obtain⟨l,f,rfl⟩:=k
  obtain⟨x,i⟩:=j l f.1
  rw[gi i];exact⟨i.f1,i.t1⟩)] at this
 have ok:(decide ((0:Int)≤((c.buses.l.length:Nat):Int))&&(decide (((c.buses.l.length:Nat):Int)≤((c.buses.l.length:Nat):Int))&&(decide (((c.buses.l.length:Nat):Int)≤(140737488355328:Int))&&decide ((((c.buses.l.length:Nat):Int)*((8:Nat):Int))≤(140737488355328:Int)))))=true:=by simp;omega
 rw[Gs,ok,ct]
 have e:List.replicate c.buses.l.length (AV.int .i64 (0:Int))=Aq (List.replicate c.buses.l.length 0):=by simp[Aq]
 rw[e]
 simpa using this
end
end Gx.Cf

namespace Gx.Cf
open Go Go.Proofs
section
variable {R:Type}
theorem fK {N:Nat} {c:CaseD} {h:Int} {o:Bool} {K:Nat→LA→O R} (hs:Small c N):∀ (m j fuel:Nat) (A:List Int),j+m=c.lines.l.length→m<fuel→A.length≤j →
  No N K h (c.lines.l.flatMap LineD.av) c.lines.l.length o fuel A.length (c.lines.l.length:Int) (j:Int) (Aq A)=K (A++eC h (c.lines.l.drop j) j).length (Aq (A++eC h (c.lines.l.drop j) j))
 | 0,j,fuel+1,A,n,_,_=>by
  rw[No];unfold Zs
  rw[Jf (by omega),cf,C9 (by omega),eC,List.append_nil]
 | m+1,j,fuel+1,A,n,z,hA=>by
  rw[No];unfold Zs
  have d:j<c.lines.l.length:=by omega
  have k:=hs.top.2.1
  have q:c.lines.l[j] ∈ c.lines.l:=List.getElem_mem d
  have s:=hs.law _ q
  rw[Hy d,ct,Ab d,ct,Int.toNat_natCast,At Ce _ _ d,Cd d,eC]
  have e:=fK (N:=N) (c:=c) (h:=h) (o:=o) (K:=K) hs m (j+1) fuel (A++[(j:Int)]) (by omega) (by omega) (by simp;omega)
  have i:=fK (N:=N) (c:=c) (h:=h) (o:=o) (K:=K) hs m (j+1) fuel A (by omega) (by omega) (by omega)
  generalize c.lines.l[j]=b at *
  have t:Nat.ble 12 (List.length (b.av++List.flatMap LineD.av (List.drop (j+1) c.lines.l)))=true:=by rw[Bs,List.length_append,Ce];simp
  have u:List.take 12 (b.av++List.flatMap LineD.av (List.drop (j+1) c.lines.l))=b.av:=List.take_left' (Ce b)
  have v:(Nat.ble (A.length+1) 140737488355328&&Nat.ble ((A.length+1)*8) 140737488355328)=true:=by rw[Bs,Bs];simp;omega
  have x:∀ f:LA→Nat→O R,Br 1 (List.drop 11 b.av) f=f (Aq b.away.l) b.away.l.length:=fun f=>by simp[LineD.av,Ed,Fl]
  have y:List.take (A.length*1) (Aq A)++[.int .i64 (j:Int)]=Aq (A++[(j:Int)]):=zH (B:=[(j:Int)]) rfl
  rw[t,ct,u,Ce,show((Nat.beq 0 0)&&((Nat.beq 12 12)&&(Nat.beq 12 12)))=true from rfl,ct,x,kZ rfl s,v,ct,y,Bo (by omega)]
  cases b.away.l.contains h with
  | true=>simp only[Bool.not_true,cond_false,cond_true];exact i
  | false =>
   simp only[Bool.not_false,cond_true,cond_false]
   rw[List.length_append] at e
   simpa using e
theorem Awj {N:Nat} {c:CaseD} {h:Int} {o:Bool} {K:Nat→LA→O R} (hs:Small c N):FX N c.av o h K=K (A7 c h).length (Aq (A7 c h)):=by
 rw[kX];unfold VB
 have:=fK (R:=R) (N:=N) (c:=c) (h:=h) (o:=o) (K:=K) hs c.lines.l.length 0 N [] (by omega) hs.lin.1 (by simp)
 rw[Ef]
 simpa[A7,Aq] using this
end
end Gx.Cf

namespace Gx.Cf
open Go Go.Proofs
section
variable {R:Type}
theorem Awk {c:CaseD} {p:Df} {k i:Int}:List.take 8 (Dd c p k i)=c.av:=rfl
theorem A7f {p:Df} {k i:Int}:(OR p k i).length=4:=by rcases p with _ | ⟨⟨a,b,f⟩,e⟩<;>rfl
theorem A28 {c:CaseD} {p:Df} {k i:Int}:Nat.ble 8 (List.length (Dd c p k i))=true:=by
 rw[Bs,Dd,List.length_append,A7f];simp[CaseD.av]
theorem qn {N:Nat} {c:CaseD} {w w0 o31:Bool} {h0:LA} {x1:Int} {hr:Int} (hs:Small c N) (v:PreV c):∀ (m j fuel:Nat) (p:Df) (k i:Int),j+m=c.outs.l.length→m<fuel →
  ∃ f n:Int,∀ (K0:Int→Bool→LA→O R) (K:Bool→LA→O R),K5 N K0 K (A7 c hr).length (Jn c.buses.l.length ((A7 c hr).map (Ff c)):Int) x1 (c.outs.l.flatMap OutD.av) c.outs.l.length (Aq (A7 c hr)) w0 h0 fuel hr hr o31 (c.outs.l.length:Int) (j:Int) w (Dd c p k i) =
   K0 (IntKind.wrap .i64 (hr+1)) w (Dd c (Bu (Auy c hr) (c.outs.l.drop j) j p) f n)
 | 0,j,fuel+1,p,k,i,q,_=>by
  refine⟨k,i,fun K0 K=>?_⟩
  rw[K5];unfold Wi
  rw[Jf (by omega),cf,C9 (by omega),Bu]
 | m+1,j,fuel+1,p,k,i,q,D=>by
  have h:j<c.outs.l.length:=by omega
  have hN:=hs.n64
  have s:c.outs.l[j] ∈ c.outs.l:=List.getElem_mem h
  have t:=hs.oli _ s
  have d:=hs.top
  have u:=HV hr c.lines.l 0
  have e:=hs.lin.1
  obtain⟨x,i1,y⟩:=qn (w:=w) (w0:=w0) (o31:=o31) (h0:=h0) (x1:=x1) (hr:=hr) hs v m (j+1) fuel (Auy c hr j c.outs.l[j] p) 6 j (by omega) (by omega)
  refine⟨x,i1,fun K0 K=>?_⟩
  rw[K5];unfold Wi
  rw[Hy h,ct,Ab h,ct,Int.toNat_natCast,At Dk _ _ h,Cd h,Bu,←y K0 K]
  generalize c.outs.l[j]=b at *
  have z:Nat.ble 4 (List.length (b.av++List.flatMap OutD.av (List.drop (j+1) c.outs.l)))=true:=by rw[Bs,List.length_append,Dk];simp
  have A:List.take 4 (b.av++List.flatMap OutD.av (List.drop (j+1) c.outs.l))=b.av:=List.take_left' (Dk b)
  rw[z,ct,A,Dk,show((Nat.beq 0 0)&&((Nat.beq 4 4)&&(Nat.beq 4 4)))=true from rfl,ct,Nm,A28,ct,pV,Awk,Nat.mul_one,List.take_of_length_le (by rw[Et];exact Nat.le_refl _),
   Ai9 rfl rfl (by omega) hs.bus d.1 (by unfold A7;omega) (by unfold A7;omega) (fun l C=>v.lnV C) t,As (by decide),Bo (by omega)]
  rfl
theorem qo {N H:Nat} {c:CaseD} {w w0:Bool} {h0:LA} (hs:Small c N) (v:PreV c) (hH:H≤24):∀ (m j fuel:Nat) (p:Df) (k i:Int),j+m=H→m<fuel →
  ∃ f n:Int,∀ K:Bool→LA→O R,H6 N K (H:Int) w0 h0 fuel (j:Int) w (Dd c p k i)=K w (Dd c (T2 c m j p) f n)
 | 0,j,fuel+1,p,k,i,q,_=>by
  refine⟨k,i,fun K=>?_⟩
  rw[H6];unfold Wj
  rw[Jf (by omega),cf,T2]
 | m+1,j,fuel+1,p,k,i,q,z=>by
  have hN:=hs.n64
  have b:=hs.top
  have s:=HV (j:Int) c.lines.l 0
  have d:=hs.lin.1
  obtain⟨t,i1,e⟩:=qn (R:=R) (w:=w) (w0:=w0) (o31:=w) (h0:=h0) (x1:=(H:Int)) (hr:=(j:Int)) hs v c.outs.l.length 0 N p k i (by omega) hs.out.1
  obtain⟨u,i2,x⟩:=qo (w:=w) (w0:=w0) (h0:=h0) hs v hH m (j+1) fuel (Bu (Auy c j) c.outs.l 0 p) t i1 (by omega) (by omega)
  refine⟨u,i2,fun K=>?_⟩
  rw[H6];unfold Wj
  simp only[List.drop_zero,Int.natCast_zero] at e
  rw[Hy (by omega),ct,A28,ct,Awk,Awj hs,ct,Nat.mul_one,List.take_of_length_le (by rw[Et];exact Nat.le_refl _),
   A09 rfl (by omega) hs.bus b.1 (by unfold A7;omega) (by unfold A7;omega) (fun l y=>v.lnV y),zI]
  dsimp only
  rw[e,Bo (by omega),x,T2]
theorem yn {N:Nat} {c:CaseD} {p:Df} {k i:Int} {w:Bool} (hs:Small c N) (v:PreV c):∃ b d:Int,∀ K:Bool→LA→O R,T7 N w (Dd c p k i) K=K w (Dd c (T2 c c.hours.toNat 0 p) b d):=by
 have e:=v.hours
 have hN:=hs.n64
 obtain⟨b,d,h⟩:=qo (R:=R) (w:=w) (w0:=w) (h0:=Dd c p k i) hs v (H:=c.hours.toNat) (by omega) c.hours.toNat 0 N p k i (by omega) (by omega)
 refine⟨b,d,fun K=>?_⟩
 rw[fF];unfold MH
 rw[qT]
 have:=h K
 rw[Int.toNat_of_nonneg (by omega)] at this
 simpa using this
theorem A80 {c:CaseD} {p:Df} {k i:Int} {w:Bool} {K:LA→Int→O R} {X:O R} :
  (Ap .i64 (List.drop 11 (Dd c p k i)) fun x3=>(cond (x3 != (0:Int)) (cond (Nat.ble 3 (List.length (List.drop 8 (Dd c p k i)))) (cond ((!w)||(Az (List.take 3 (List.drop 8 (Dd c p k i))))) (Ap .i64 (List.drop 11 (Dd c p k i)) fun x4=>(cond ((Nat.beq (List.length (List.take 3 (List.drop 8 (Dd c p k i)))) 3)&&((Nat.ble 3 3)&&(!false))) (cond (Nat.ble 3 (List.length (setCells [(.int .i64 (0:Int)),(.int .i64 (0:Int)),(.int .i64 (0:Int))] 0 (List.take 3 (List.drop 8 (Dd c p k i)))))) (K (List.take 3 (setCells [(.int .i64 (0:Int)),(.int .i64 (0:Int)),(.int .i64 (0:Int))] 0 (List.take 3 (List.drop 8 (Dd c p k i))))) x4) none) none)) none) none) X)) =
  match p with | none=>X | some y=>K (w3 (some y)) y.2.1:=by
 rw[L3]
 rcases p with _ | ⟨⟨a,b,f⟩,e,d⟩
 ·simp[Bp]
 ·have j:(e != 0)=true:=by simpa using d
  rw[L3]
  simp[Bp,j,Dd,CaseD.av,OR,w3,Az,Bs,IT,setCells,C4]
end
end Gx.Cf

namespace Gx.Cf
open Go Go.Proofs
section
variable {R:Type}
def kw (K:LA→Int→O R) (X:Bool→LA→O R) (y1:Bool) (y2:LA):O R :=
   (Ap .i64 (List.drop 11 y2) fun x3=>(cond (x3 != (0:Int)) (cond (Nat.ble 3 (List.length (List.drop 8 y2))) (cond ((!y1)||(Az (List.take 3 (List.drop 8 y2)))) (Ap .i64 (List.drop 11 y2) fun x4=>(cond ((Nat.beq (List.length (List.take 3 (List.drop 8 y2))) 3)&&((Nat.ble 3 3)&&(!false))) (cond (Nat.ble 3 (List.length (setCells [(.int .i64 (0:Int)),(.int .i64 (0:Int)),(.int .i64 (0:Int))] 0 (List.take 3 (List.drop 8 y2))))) (K (List.take 3 (setCells [(.int .i64 (0:Int)),(.int .i64 (0:Int)),(.int .i64 (0:Int))] 0 (List.take 3 (List.drop 8 y2)))) x4) none) none)) none) none) (X y1 y2)))
theorem BT {c:CaseD} {p:Df} {k i:Int} {w:Bool} {K:LA→Int→O R} {X:Bool→LA→O R}:kw K X w (Dd c p k i)=match p with | none=>X w (Dd c p k i) | some y=>K (w3 (some y)) y.2.1:=by
 unfold kw;exact A80
theorem Bbc {N fuel:Nat} {w:Bool} {h:LA} {K:LA→Int→O R}:A9 N K (fuel+1) 0 w h=H_ N w h (kw K (A9 N K fuel 1)):=by
 rw[A9];unfold Fi
 rw[show decide ((0:Int)<8)=true from rfl,ct,show Ae (0:Int) 8=true from rfl,ct]
 rfl
theorem Bbd {N fuel:Nat} {w:Bool} {h:LA} {K:LA→Int→O R}:A9 N K (fuel+1) 1 w h=IA N w h (kw K (A9 N K fuel 2)):=by
 rw[A9];unfold Fi
 rw[show decide ((1:Int)<8)=true from rfl,ct,show Ae (1:Int) 8=true from rfl,ct]
 rfl
theorem Bbe {N fuel:Nat} {w:Bool} {h:LA} {K:LA→Int→O R}:A9 N K (fuel+1) 2 w h=ID N w h (kw K (A9 N K fuel 3)):=by
 rw[A9];unfold Fi
 rw[show decide ((2:Int)<8)=true from rfl,ct,show Ae (2:Int) 8=true from rfl,ct]
 rfl
theorem Bbf {N fuel:Nat} {w:Bool} {h:LA} {K:LA→Int→O R}:A9 N K (fuel+1) 3 w h=IE N w h (kw K (A9 N K fuel 4)):=by
 rw[A9];unfold Fi
 rw[show decide ((3:Int)<8)=true from rfl,ct,show Ae (3:Int) 8=true from rfl,ct]
 rfl
theorem Bbg {N fuel:Nat} {w:Bool} {h:LA} {K:LA→Int→O R}:A9 N K (fuel+1) 4 w h=Yf N w h (kw K (A9 N K fuel 5)):=by
 rw[A9];unfold Fi
 rw[show decide ((4:Int)<8)=true from rfl,ct,show Ae (4:Int) 8=true from rfl,ct]
 rfl
theorem Bbh {N fuel:Nat} {w:Bool} {h:LA} {K:LA→Int→O R}:A9 N K (fuel+1) 5 w h=U' N w h (kw K (A9 N K fuel 6)):=by
 rw[A9];unfold Fi
 rw[show decide ((5:Int)<8)=true from rfl,ct,show Ae (5:Int) 8=true from rfl,ct]
 rfl
theorem Bbi {N fuel:Nat} {w:Bool} {h:LA} {K:LA→Int→O R}:A9 N K (fuel+1) 6 w h=T6 N w h (kw K (A9 N K fuel 7)):=by
 rw[A9];unfold Fi
 rw[show decide ((6:Int)<8)=true from rfl,ct,show Ae (6:Int) 8=true from rfl,ct]
 rfl
theorem Bbj {N fuel:Nat} {w:Bool} {h:LA} {K:LA→Int→O R}:A9 N K (fuel+1) 7 w h=T7 N w h (kw K (A9 N K fuel 8)):=by
 rw[A9];unfold Fi
 rw[show decide ((7:Int)<8)=true from rfl,ct,show Ae (7:Int) 8=true from rfl,ct]
 rfl
theorem NR {N:Nat} {c:CaseD} {o:Bool} {K:LA→Int→O R} (hs:Small c N):BR N c.av o K=K (w3 (Cc c)) (Bp (Cc c)):=by
 have hN:=hs.n64
 have u:setCells [(.int .i64 (0:Int)),.nsl,.nsl,.nsl,.nsl,.nsl,.nsl,.nsl,(.int .i64 (0:Int)),(.int .i64 (0:Int)),(.int .i64 (0:Int)),(.int .i64 (0:Int))] 0 c.av=Dd c none 0 0:=rfl
 rw[ql];unfold hE
 rw[B6,D8,ct,u,show((Nat.beq (List.length c.av) 8)&&(Nat.ble 8 12))=true from rfl,ct]
 obtain⟨n,hn⟩:∃ n,N=n+9:=⟨N - 9,by omega⟩
 have fin:∀ (y:(Int×Int×Int)×{ e:Int // e≠0 }),a6 c=some y→K (w3 (some y)) y.2.1=K (w3 (Cc c)) (Bp (Cc c)):=by
  intro y x
  unfold Cc;rw[x];rfl
 have st:A9 N K N 0 (o||false) (Dd c none 0 0)=A9 N K (n+9) 0 (o||false) (Dd c none 0 0):=by rw[←hn]
 try dsimp only
 rw[st,Bbc,Ai0 hs,BT]
 cases b:tL c none with
 | some y =>
  refine fin y ?_
  unfold a6;simp only;rw[b,Bf (fun _ _=>FW _ _ _),Bf (fun _ _=>T1 _ _ _),Bf (fun _ _=>P3 _ _ _),Bf (fun _ _=>Mi _ _ _),Bf (fun _ _=>Rj _ _ _),Bf (fun _ _=>Lw)]
 | none =>
  try dsimp only
  rw[Bbd]
  obtain⟨z,i1,A⟩:=Ai1 (R:=R) (p:=none) (k:=0) (i:=0) (w:=(o||false)) hs
  rw[A,BT]
  cases d:Bu (Adq c) c.buses.l 0 none with
  | some y =>
   refine fin y ?_
   unfold a6;simp only;rw[b,d,Bf (fun _ _=>T1 _ _ _),Bf (fun _ _=>P3 _ _ _),Bf (fun _ _=>Mi _ _ _),Bf (fun _ _=>Rj _ _ _),Bf (fun _ _=>Lw)]
  | none =>
   try dsimp only
   rw[Bbe]
   obtain⟨C,i2,D⟩:=Ai2 (R:=R) (p:=none) (k:=z) (i:=i1) (w:=(o||false)) hs
   rw[D,BT]
   cases f:Bu (KZ c) c.lines.l 0 none with
   | some y =>
    refine fin y ?_
    unfold a6;simp only;rw[b,d,f,Bf (fun _ _=>P3 _ _ _),Bf (fun _ _=>Mi _ _ _),Bf (fun _ _=>Rj _ _ _),Bf (fun _ _=>Lw)]
   | none =>
    try dsimp only
    rw[Bbf]
    obtain⟨F,i3,G⟩:=Ai4 (R:=R) (p:=none) (k:=C) (i:=i2) (w:=(o||false)) hs
    rw[G,BT]
    cases j:Bu (QA c) c.units.l 0 none with
    | some y =>
     refine fin y ?_
     unfold a6;simp only;rw[b,d,f,j,Bf (fun _ _=>Mi _ _ _),Bf (fun _ _=>Rj _ _ _),Bf (fun _ _=>Lw)]
    | none =>
     try dsimp only
     rw[Bbg]
     obtain⟨I,i4,L⟩:=Afj (R:=R) (p:=none) (k:=F) (i:=i3) (w:=(o||false)) hs
     rw[L,BT]
     cases m:Bu (NC c) c.stores.l 0 none with
     | some y =>
      refine fin y ?_
      unfold a6;simp only;rw[b,d,f,j,m,Bf (fun _ _=>Rj _ _ _),Bf (fun _ _=>Lw)]
     | none =>
      try dsimp only
      rw[Bbh]
      obtain⟨M,i5,S⟩:=Aqe (R:=R) (p:=none) (k:=I) (i:=i4) (w:=(o||false)) hs
      rw[S,BT]
      cases s:Bu (Aus c) c.ties.l 0 none with
      | some y =>
       refine fin y ?_
       unfold a6;simp only;rw[b,d,f,j,m,s,Bf (fun _ _=>Lw)]
      | none =>
       try dsimp only
       rw[Bbi]
       obtain⟨T,i6,U⟩:=ym (R:=R) (p:=none) (k:=M) (i:=i5) (w:=(o||false)) hs
       rw[U,BT]
       cases t:Bu (tO c) c.outs.l 0 none with
       | some y =>
        refine fin y ?_
        unfold a6;simp only;rw[b,d,f,j,m,s,t]
       | none =>
        have q:a6 c=none:=by unfold a6;simp only;rw[b,d,f,j,m,s,t]
        have v:=gk q
        try dsimp only
        rw[Bbj]
        obtain⟨Y,i7,V⟩:=yn (R:=R) (p:=none) (k:=T) (i:=i6) (w:=(o||false)) hs v
        rw[V,BT]
        have X:Cc c=T2 c c.hours.toNat 0 none:=by unfold Cc;rw[q]
        rw[X]
        cases hq:T2 c c.hours.toNat 0 none with
        | some y=>rfl
        | none =>
         try dsimp only
         rw[A9];unfold Fi
         rfl
end
end Gx.Cf

namespace Gx
open Go
def Ez (c:UInt8):Bool:=decide (48≤c.toNat)&&decide (c.toNat≤57)
def Jg (s:List UInt8):Nat:=s.foldl (fun a c=>10*a+(c.toNat - 48)) 0
def A1a (s:List UInt8):Bool:=s.all Ez&&!s.isEmpty
def Yl (s:List UInt8):Bool:=A1a s&&(s==[48]||s.head? != some 48)
abbrev Aqf:=Lib.decDigits
theorem A41 (s:List UInt8):∀ a,s.foldl (fun a c=>10*a+(c.toNat - 48)) a=a*10 ^ s.length+Jg s:=by
 unfold Jg
 induction s with
 | nil=>intro a;simp
 | cons c r b =>
  intro a
  rw[List.foldl_cons,List.foldl_cons,b,b (10*0+_),List.length_cons,Nat.pow_succ,Nat.add_mul,Nat.add_mul]
  have:10*a*10 ^ r.length=a*(10 ^ r.length*10):=by rw[Nat.mul_comm 10 a,Nat.mul_assoc,Nat.mul_comm 10]
  rw[this];omega
theorem fL (a b:List UInt8):Jg (a++b)=Jg a*10 ^ b.length+Jg b:=by
 have:=A41 b (Jg a)
 unfold Jg at *
 rw[List.foldl_append];exact this
theorem A42 (a:List UInt8) (c:UInt8):Jg (a++[c])=10*Jg a+(c.toNat - 48):=by rw[fL];simp[Jg];omega
theorem t7 (c:UInt8) (r:List UInt8):Jg (c::r)=(c.toNat - 48)*10 ^ r.length+Jg r:=by
 have:=fL [c] r
 simpa[Jg] using this
theorem qp {s:List UInt8} (h:s.all Ez=true):Jg s<10 ^ s.length:=by
 induction s with
 | nil=>simp[Jg]
 | cons c r b =>
  simp only[List.all_cons,Bool.and_eq_true] at h
  have d:=b h.2
  have e:c.toNat≤57:=by have:=h.1;simp[Ez] at this;omega
  rw[t7,List.length_cons,Nat.pow_succ]
  have:(c.toNat - 48)*10 ^ r.length≤9*10 ^ r.length:=Nat.mul_le_mul_right _ (by omega)
  omega
theorem Ym {u:Nat} (h:u<10):Aqf u=[UInt8.ofNat (48+u)]:=by rw[Aqf,Lib.decDigits,dif_pos h]
theorem hG {u:Nat} (h:10≤u):Aqf u=Aqf (u/10)++[UInt8.ofNat (48+u%10)]:=by
 rw[Aqf,Lib.decDigits,dif_neg (by omega)]
theorem hI {k:Nat} (h:k<10):Ez (UInt8.ofNat (48+k))=true∧(UInt8.ofNat (48+k)).toNat=48+k:=by
 have:(UInt8.ofNat (48+k)).toNat=48+k:=by simp;omega
 exact⟨by simp[Ez,this];omega,this⟩
theorem Awl:∀ u,(Aqf u).all Ez=true:=by
 intro u
 induction u using Nat.strongRecOn with
 | ind u b =>
  by_cases h:u<10
  ·rw[Ym h];simpa using(hI h).1
  ·rw[hG (by omega),List.all_append,b (u/10) (by omega)]
   simpa using(hI (k:=u%10) (by omega)).1
theorem A7g (u:Nat):Aqf u≠[]:=by
 by_cases h:u<10
 ·rw[Ym h];simp
 ·rw[hG (by omega)];simp
theorem Awm:∀ u,Jg (Aqf u)=u:=by
 intro u
 induction u using Nat.strongRecOn with
 | ind u b =>
  by_cases h:u<10
  ·rw[Ym h];simp only[Jg,List.foldl_cons,List.foldl_nil,(hI h).2];omega
  ·rw[hG (by omega),A42,b (u/10) (by omega),(hI (k:=u%10) (by omega)).2];omega
theorem A7h:∀ u,0<u→(Aqf u).head?≠some 48:=by
 intro u
 induction u using Nat.strongRecOn with
 | ind u d =>
  intro h0
  by_cases h:u<10
  ·rw[Ym h]
   intro e
   simp at e
   have:=congrArg UInt8.toNat e
   simp at this;omega
  ·rw[hG (by omega)]
   have:=d (u/10) (by omega) (by omega)
   cases b:Aqf (u/10) with
   | nil=>exact absurd b (A7g _)
   | cons c r=>rw[b] at this;simpa using this
theorem A81 {u k:Nat} (n:0<k):(Aqf u).length≤k↔u<10 ^ k:=by
 constructor
 ·intro h
  have:=qp (Awl u)
  rw[Awm] at this
  exact Nat.lt_of_lt_of_le this (Nat.pow_le_pow_right (by omega) h)
 ·intro h
  apply Classical.byContradiction
  intro hn
  have b:k<(Aqf u).length:=by omega
  have h0:0<u:=by
   rcases Nat.eq_zero_or_pos u with e | e
   ·subst e;rw[Ym (by omega)] at b;simp at b;omega
   ·exact e
  have i:=A7h u h0
  cases d:Aqf u with
  | nil=>exact A7g u d
  | cons c r =>
   rw[d] at i b
   have j:Ez c=true:=by have:=Awl u;rw[d] at this;simp at this;exact this.1
   have f:c≠48:=by simpa using i
   have l:1≤c.toNat - 48:=by
    simp[Ez] at j
    have:c.toNat≠48:=fun e=>f (UInt8.toNat_inj.1 (by simpa using e))
    omega
   have m:=Awm u
   rw[d,t7] at m
   simp at b
   have q:10 ^ k≤10 ^ r.length:=Nat.pow_le_pow_right (by omega) (by omega)
   have s:1*10 ^ r.length≤(c.toNat - 48)*10 ^ r.length:=Nat.mul_le_mul_right _ l
   omega
end Gx

namespace Gx
open Go Go.Proofs
section
variable {R:Type}
def fit (k N:Nat):Prop:=100*k+1000≤N∧k≤1000000000
theorem fit.le {j k N:Nat} (h:fit k N) (b:j≤k):fit j N:=⟨by have:=h.1;omega,by have:=h.2;omega⟩
theorem ct (x y:O R):cond true x y=x:=rfl
theorem cf (x y:O R):cond false x y=y:=rfl
theorem Bag (x y:Bool):cond true x y=x:=rfl
theorem Bct (x y:Bool):cond false x y=y:=rfl
theorem Bah (c:Nat):((decide (((c+1:Nat):Int)>(0:Int)))==true)=true:=by simp
theorem Hy {j n:Nat} (h:j<n):decide ((j:Int)<(n:Int))=true:=by simp;omega
theorem Jf {j n:Nat} (h:n≤j):decide ((j:Int)<(n:Int))=false:=by simp;omega
theorem wS {j:Nat} (h:j≤1000000000000):IntKind.wrap .i64 ((j:Int)+1)=((j+1:Nat):Int):=by rw[i64 (by omega)];omega
theorem wP {j:Nat} (h:j≤1000000000000):IntKind.wrap .i64 (((j+1:Nat):Int) - 1)=(j:Int):=by rw[i64 (by omega)];omega
theorem wA {j k:Nat} (h:j+k≤1000000000000):IntKind.wrap .i64 ((j:Int)+(k:Int))=((j+k:Nat):Int):=by rw[i64 (by omega)];omega
theorem Aja {l:List Nat} {j:Nat} (h:j<l.length) {f:Int→O R}:Ap .u32 (List.drop ((Int.toNat (j:Int))*1) (Au l)) f=f (l[j]:Nat):=by
 rw[Int.toNat_natCast,Nat.mul_one,A6w h]
theorem t8 {l:List Nat} {j:Nat} (h:j<l.length) {f:Int→O R}:Ap .u32 (List.drop (0+((Int.toNat (j:Int))*1)) (Au l)) f=f (l[j]:Nat):=by
 rw[Nat.zero_add,Aja h]
theorem Bav {c a:Nat} (h:c≤a):((decide ((0:Int)≤(0:Int)))&&((decide ((0:Int)≤(c:Int)))&&((decide ((c:Int)≤(a:Int)))&&(decide ((a:Int)≤(a:Int))))))=true:=by
 simp;omega
theorem Bai {n:Nat} (h:n≤1000000000000):((decide ((0:Int)≤(n:Int)))&&((decide ((n:Int)≤(n:Int)))&&((decide ((n:Int)≤(140737488355328:Int)))&&(decide (((n:Int)*((4:Nat):Int))≤(140737488355328:Int))))))=true:=by
 simp;omega
theorem A2j {x:Nat} {m:List Nat} (h:x<m.length):((Nat.beq 1 1)&&((Nat.ble ((0+((Int.toNat (x:Int))*1))+1) (List.length (Au m)))&&(!false)))=true:=by
 rw[C1,Int.toNat_natCast];simp;omega
theorem Afv {x v:Nat} {m:List Nat}:List.set (Au m) (0+((Int.toNat (x:Int))*1)) (.int .u32 (v:Int))=Au (m.set x v):=by
 rw[Int.toNat_natCast,Nat.mul_one,Nat.zero_add,Atf]
theorem A7i {l:List Nat} (h:Aw l):l.take (Ba (val l)).length=Ba (val l):=by
 obtain⟨b,c⟩:=D2 h
 rw[congrArg (List.take (Ba (val l)).length) b,List.take_left]
theorem A43 {l:List Nat} (h:Aw l):List.take ((Ba (val l)).length*1) (Au l)=Au (Ba (val l)):=by rw[Nat.mul_one,gU,A7i h]
theorem Cx {l:List Nat} {c:Nat} (h:c<l.length):val (l.take (c+1))=val (l.take c)+4294967296 ^ c*l[c]:=by
 rw[List.take_succ_eq_append_getElem h,Ay4,List.length_take,Nat.min_eq_left (by omega)]
theorem Aqg {l:List Nat} {c:Nat} (b:Aw l) (h:c<l.length) (h0:l[c]≠0):Ba (val (l.take (c+1)))=l.take (c+1):=by
 apply A97 (Mr b _)
 intro d
 rw[List.getLast_eq_getElem]
 simp only[List.length_take,Nat.min_eq_left (show c+1≤l.length by omega),Nat.add_sub_cancel,List.getElem_take]
 exact h0
theorem Afw {N:Nat} {l:List Nat} {K:Nat→O R} (b:Aw l) (hs:l.length≤1000000000000):∀ (c fuel:Nat),c≤l.length→c<fuel →
  Xt N K l.length (Au l) fuel (c:Int)=K (Ba (val (l.take c))).length
 | 0,fuel+1,d,_=>by
  rw[Xt];unfold S_
  rw[show decide (((0:Nat):Int)>0)=false by simp]
  rw[show((false:Bool)==true)=false by rfl,cf,Bav (by omega),ct,Int.toNat_natCast];rfl
 | c+1,fuel+1,d,e=>by
  rw[Xt];unfold S_
  rw[Bah,ct,wP (by omega),Ab (by omega),ct,t8 (by omega),Bag,Bav (by omega),ct,Afw b hs c fuel (by omega) (by omega),Int.toNat_natCast]
  by_cases h0:l[c]=0
  ·rw[Cx (by omega),h0];simp
  ·rw[Aqg b (by omega) h0,List.length_take,Nat.min_eq_left d]
   rw[show(((l[c]:Nat):Int)==0)=false by simp;exact h0,cf]
theorem Afx {N:Nat} {l:List Nat} {n:Nat} {K:Nat→O R} (hn:n=l.length) (c:Aw l) (b:fit l.length N):MX N n (Au l) K=K (Ba (val l)).length:=by
 subst hn
 have d:=b.1;have e:=b.2
 rw[mL];unfold nZ
 dsimp only
 rw[Afw c (by omega) l.length N (Nat.le_refl _) (by omega),List.take_length]
theorem Al6 {N:Nat} {l:List Nat} {t o:Bool} {K:LA→Nat→O R} (b:Aw l) (hs:l.length≤1000000000000):∀ (c fuel:Nat),c≤l.length→c<fuel →
  Mt N K (Au l) l.length t o fuel (c:Int)=K (Au (Ba (val (l.take c)))) (Ba (val (l.take c))).length
 | 0,fuel+1,d,_=>by
  rw[Mt];unfold Y3
  rw[show decide (((0:Nat):Int)>0)=false by simp]
  rw[show((false:Bool)==true)=false by rfl,cf,Bav (by omega),ct,Int.toNat_natCast];rfl
 | c+1,fuel+1,d,e=>by
  rw[Mt];unfold Y3
  rw[Bah,ct,wP (by omega),Ab (by omega),ct,Aja (by omega),Bag,Bav (by omega),ct,Al6 b hs c fuel (by omega) (by omega),Int.toNat_natCast,Nat.mul_one,gU]
  by_cases h0:l[c]=0
  ·rw[Cx (by omega),h0];simp
  ·rw[Aqg b (by omega) h0,List.length_take,Nat.min_eq_left d]
   rw[show(((l[c]:Nat):Int)==0)=false by simp;exact h0,cf]
theorem Ec {N:Nat} {l:List Nat} {n:Nat} {t o:Bool} {K:LA→Nat→O R} (hn:n=l.length) (c:Aw l) (b:fit l.length N):Fn N (Au l) n t o K=K (Au (Ba (val l))) (Ba (val l)).length:=by
 subst hn
 have d:=b.1;have e:=b.2
 rw[jH];unfold TA
 dsimp only
 rw[Al6 c (by omega) l.length N (Nat.le_refl _) (by omega),List.take_length]
end
end Gx

namespace Gx
open Go Go.Proofs
section
variable {R:Type}
def FB (x y:Nat):Int:=if x<y then -1 else if y<x then 1 else 0
theorem Al7 (x:Nat):FB x x=0:=by unfold FB;simp
theorem VE {a b:Nat} (h:(Ba a).length<(Ba b).length):a<b:=Nat.lt_of_not_le fun c=>by
 have:=Gh c;omega
theorem zJ {u w p q P:Nat} (b:u<P) (c:w<P) (h:p<q):u+P*p<w+P*q:=by
 have:P*(p+1)≤P*q:=Nat.mul_le_mul_left _ h
 rw[Nat.mul_add] at this
 omega
theorem Al8 {N:Nat} {x y:List Nat} {t u:Bool} {K:Int→O R} (d:Aw x) (e:Aw y) (hs:x.length≤1000000000000) (j:x.length=y.length):∀ (i fuel:Nat),i≤x.length→i<fuel →
  F5 N K (Au x) x.length t (Au y) y.length u fuel ((i:Int) - 1)=K (FB (val (x.take i)) (val (y.take i)))
 | 0,fuel+1,_,_=>by
  rw[F5];unfold Ow
  rw[show decide ((((0:Nat):Int) - 1)≥0)=false by simp,cf]
  simp[Al7]
 | i+1,fuel+1,hi,k=>by
  rw[F5];unfold Ow
  rw[show(((i+1:Nat):Int) - 1)=(i:Int) by omega,show decide ((i:Int)≥0)=true by simp,ct,Ab (by omega),ct,Aja (by omega),Ab (by omega),ct,Aja (by omega),ct,Aja (by omega),ct,Aja (by omega),i64 (by omega),
   Al8 d e hs j i fuel (by omega) (by omega),Cx (by omega),Cx (by omega)]
  have b:=Lj (Mr d i)
  have c:=Lj (Mr e i)
  rw[List.length_take,Nat.min_eq_left (by omega)] at b c
  by_cases c1:x[i]<y[i]
  ·have:=zJ b c c1
   rw[show decide (((x[i]:Nat):Int)<((y[i]:Nat):Int))=true by simp;exact c1,ct]
   unfold FB;rw[if_pos this]
  ·by_cases f:y[i]<x[i]
   ·have:=zJ c b f
    rw[show decide (((x[i]:Nat):Int)<((y[i]:Nat):Int))=false by simp;omega,cf,show decide (((x[i]:Nat):Int)>((y[i]:Nat):Int))=true by simp;exact f,ct]
    unfold FB;rw[if_neg (by omega),if_pos this]
   ·have:x[i]=y[i]:=by omega
    rw[show decide (((x[i]:Nat):Int)<((y[i]:Nat):Int))=false by simp;omega,cf,show decide (((x[i]:Nat):Int)>((y[i]:Nat):Int))=false by simp;omega,cf,this]
    unfold FB
    congr 1
    by_cases a1:val (x.take i)<val (y.take i)
    ·rw[if_pos a1,if_pos (by omega)]
    ·by_cases a2:val (y.take i)<val (x.take i)
     ·rw[if_neg a1,if_pos a2,if_neg (by omega),if_pos (by omega)]
     ·rw[if_neg a1,if_neg a2,if_neg (by omega),if_neg (by omega)]
theorem Al9 {N:Nat} {a b:List Nat} {n m:Nat} {t o t' o':Bool} {K:Int→O R} (hn:n=a.length) (i:m=b.length) (d:Aw a) (e:Aw b) (c:fit (a.length+b.length) N) :
  Od N (Au a) n t o (Au b) m t' o' K=K (FB (val a) (val b)):=by
 subst hn i
 have k:=c.1;have l:=c.2
 rw[JI];unfold Vh
 dsimp only
 rw[Ec rfl d (c.le (by omega)),Ec rfl e (c.le (by omega))]
 have la:=(D2 d).2
 have lb:=(D2 e).2
 by_cases f:(Ba (val a)).length=(Ba (val b)).length
 ·rw[show((((Ba (val a)).length:Nat):Int) != (((Ba (val b)).length:Nat):Int))=false by simp;omega,cf,i64 (by omega),Al8 (Av _) (Av _) (by omega) f _ N (Nat.le_refl _) (by omega),List.take_length,f,List.take_length,Ax,Ax]
 ·rw[show((((Ba (val a)).length:Nat):Int) != (((Ba (val b)).length:Nat):Int))=true by simp;omega,ct]
  by_cases j:(Ba (val a)).length<(Ba (val b)).length
  ·have:=VE j
   rw[show decide ((((Ba (val a)).length:Nat):Int)<(((Ba (val b)).length:Nat):Int))=true by simp;omega,ct]
   unfold FB;rw[if_pos this]
  ·have:=VE (show(Ba (val b)).length<(Ba (val a)).length by omega)
   rw[show decide ((((Ba (val a)).length:Nat):Int)<(((Ba (val b)).length:Nat):Int))=false by simp;omega,cf]
   unfold FB;rw[if_neg (by omega),if_pos this]
end
end Gx

namespace Gx
open Go Go.Proofs
section
variable {R:Type}
theorem zK:∀ {S:List Nat} {d v:Nat} (h:d<S.length),val (S.set d v)+4294967296 ^ d*S[d]=val S+4294967296 ^ d*v
 | x::r,0,v,_=>by simp[val];omega
 | x::r,d+1,v,h=>by
  have b:=zK (S:=r) (d:=d) (v:=v) (by simpa using h)
  simp only[List.set_cons_succ,val,List.getElem_cons_succ,Nat.pow_succ]
  have e1:∀ y,4294967296 ^ d*4294967296*y=4294967296*(4294967296 ^ d*y):=fun y=>by rw[Nat.mul_comm (4294967296 ^ d),Nat.mul_assoc]
  rw[e1,e1]
  omega
theorem RO (b:List Nat) (d:Nat):val (b.take (d+1))=val (b.take d)+4294967296 ^ d*b.getD d 0:=by
 by_cases h:d<b.length
 ·rw[Cx h,List.getD_eq_getElem?_getD,List.getElem?_eq_getElem h];rfl
 ·rw[List.take_of_length_le (by omega),List.take_of_length_le (by omega),List.getD_eq_getElem?_getD,List.getElem?_eq_none (by omega)];simp
theorem fM (P s:Nat):P*(s%4294967296)+P*4294967296*(s/4294967296)=P*s:=by
 rw[Nat.mul_assoc,←Nat.mul_add,Nat.add_comm,Nat.div_add_mod]
def A8k (S:List Nat) (d:Nat):Prop:=∀ j (h:j<S.length),d≤j→S[j]=0
theorem hU {S:List Nat} {d v:Nat} (h:A8k S d):A8k (S.set d v) (d+1):=fun j b c=>by
 rw[List.getElem_set]
 rw[if_neg (by omega)]
 exact h j (by simpa using b) (by omega)
theorem Zt (n:Nat):A8k (List.replicate n 0) 0:=fun j b _=>by simp
theorem hY {S:List Nat} {d v:Nat} (h:A8k S d) (b:d<S.length):val (S.set d v)=val S+4294967296 ^ d*v:=by
 have:=zK (v:=v) b
 rw[h d b (Nat.le_refl _)] at this;simpa using this
theorem Bcu {a:Nat} (h:a≤1000000000000):IntKind.wrap .i64 (((a:Nat):Int)+(1:Int))=((a+1:Nat):Int):=wS h
theorem Bb8 {x:Nat} {m:List Nat} (h:x<m.length):((Nat.beq 1 1)&&((Nat.ble ((0+(x*1))+1) (List.length (Au m)))&&(!false)))=true:=by
 rw[C1];simp;omega
theorem Bbk {x v:Nat} {m:List Nat}:List.set (Au m) (0+(x*1)) (.int .u32 (v:Int))=Au (m.set x v):=by rw[Nat.mul_one,Nat.zero_add,Atf]
theorem Afy {N:Nat} {a b:List Nat} {t u:Bool} (x:Aw a) (y:Aw b) (j:fit (a.length+1) N) (k:b.length≤a.length):∀ (m d fuel:Nat) (S:List Nat) (c:Nat),d+m=a.length→m<fuel→Aw S→S.length=a.length+1→A8k S d→c≤1 →
  val S+4294967296 ^ d*c=val (a.take d)+val (b.take d) →
  ∃ S',Aw S'∧S'.length=a.length+1∧val S'=val a+val b∧∀ K:Nat→LA→O R,Xv N K (Au a) a.length t (Au b) b.length u fuel (a.length+1) (c:Int) (a.length:Int) (d:Int) (Au S)=K (Ba (val a+val b)).length (Au S')
 | 0,d,fuel+1,S,c,L,_,hS,l,n,M,I=>by
  have T:=j.1;have U:=j.2
  have z:d=a.length:=by omega
  subst z
  have q:val (S.set a.length c)=val a+val b:=by
   rw[hY n (by omega),I,List.take_length,List.take_of_length_le k]
  have v:=Oa hS (show c<4294967296 by omega) a.length
  refine⟨S.set a.length c,v,by simpa using l,q,fun K=>?_⟩
  rw[Xv];unfold GQ
  rw[Jf (Nat.le_refl _),cf,Ab (by omega),ct,Bb8 (by omega),ct,A9q (by omega),Bbk,Afx (by simp;omega) v (by simp only[List.length_set,l];exact j),q]
 | m+1,d,fuel+1,S,c,L,V,hS,l,n,M,I=>by
  have T:=j.1;have U:=j.2
  have f:d<a.length:=by omega
  have ad:=Jv x f
  have step:∀ s:Nat,s<8589934592→s=c+a[d]+b.getD d 0→val (S.set d (s%4294967296))+4294967296 ^ (d+1)*(s/4294967296)=val (a.take (d+1))+val (b.take (d+1)):=by
   intro s _ hs
   rw[hY n (by omega),Cx f,RO b d,Nat.pow_succ]
   have e:=fM (4294967296 ^ d) s
   have X:4294967296 ^ d*s=4294967296 ^ d*c+4294967296 ^ d*a[d]+4294967296 ^ d*b.getD d 0:=by rw[hs,Nat.mul_add,Nat.mul_add]
   omega
  by_cases i:d<b.length
  ·have bd:=Jv y i
   have A:b.getD d 0=b[d]:=by rw[List.getD_eq_getElem?_getD,List.getElem?_eq_getElem i];rfl
   obtain⟨S',C,D,F,G⟩:=Afy (t:=t) (u:=u) x y j k m (d+1) fuel (S.set d ((c+a[d]+b[d])%4294967296)) ((c+a[d]+b[d])/4294967296) (by omega) (by omega) (Oa hS (by omega) d) (by simpa using l) (hU n) (by omega) (step _ (by omega) (by rw[A]))
   refine⟨S',C,D,F,fun K=>?_⟩
   rw[Xv];unfold GQ
   rw[Hy f,ct,Ab f,ct,Aja f,Hy i,ct,Ab i,ct,Aja i,Ab (by omega),ct,A2j (by omega),ct,a7 (by omega),a7 (by omega),An3,a7 (by omega),An3,a7 (by omega),Ay6,Atg,Afv,wS (by omega)]
   exact G K
  ·have A:b.getD d 0=0:=by rw[List.getD_eq_getElem?_getD,List.getElem?_eq_none (by omega)];rfl
   obtain⟨S',C,D,F,G⟩:=Afy (t:=t) (u:=u) x y j k m (d+1) fuel (S.set d ((c+a[d])%4294967296)) ((c+a[d])/4294967296) (by omega) (by omega) (Oa hS (by omega) d) (by simpa using l) (hU n) (by omega) (step _ (by omega) (by rw[A];rfl))
   refine⟨S',C,D,F,fun K=>?_⟩
   rw[Xv];unfold GQ
   rw[Hy f,ct,Ab f,ct,Aja f,Jf (by omega),cf,Ab (by omega),ct,A2j (by omega),ct,a7 (by omega),An3,a7 (by omega),Ay6,Atg,Afv,wS (by omega)]
   exact G K
theorem A7j {N:Nat} {a b:List Nat} {t u:Bool} (e:Aw a) (f:Aw b) (c:fit (a.length+1) N) (d:b.length≤a.length) :
  ∃ S',Aw S'∧val S'=val a+val b∧∀ K:Nat→LA→O R,OV N K (Au a) a.length t (Au b) b.length u=K (Ba (val a+val b)).length (Au S'):=by
 have l:=c.1;have m:=c.2
 obtain⟨S',i,_,j,k⟩:=Afy (R:=R) (t:=t) (u:=u) e f c d a.length 0 N (List.replicate (a.length+1) 0) 0 (by omega) (by omega) (Jw _) (by simp) (Zt _) (by omega) (by rw[Ku];simp[val])
 refine⟨S',i,j,fun K=>?_⟩
 unfold OV mO
 rw[Bcu (by omega),Bai (by omega),ct,Int.toNat_natCast,Lk]
 exact k K
theorem A7k {N:Nat} {a b:List Nat} {n m:Nat} {t o t' o':Bool} (hn:n=a.length) (k:m=b.length) (e:Aw a) (f:Aw b) (c:fit (a.length+b.length+1) N) :
  ∃ S',Aw S'∧val S'=val a+val b∧∀ K:Nat→LA→O R,s9 N (Au a) n t o (Au b) m t' o' K=K (Ba (val a+val b)).length (Au S'):=by
 subst hn k
 have la:=(D2 e).2
 have lb:=(D2 f).2
 by_cases l:(Ba (val a)).length<(Ba (val b)).length
 ·obtain⟨S',i,d,j⟩:=A7j (R:=R) (N:=N) (a:=Ba (val b)) (b:=Ba (val a)) (t:=o') (u:=o) (Av _) (Av _) (c.le (by omega)) (by omega)
  rw[Ax,Ax,Nat.add_comm] at d
  refine⟨S',i,d,fun K=>?_⟩
  rw[mP];unfold nh
  dsimp only
  rw[Ec rfl e (c.le (by omega)),Ec rfl f (c.le (by omega)),Hy l,ct,j,Ax,Ax,Nat.add_comm (val b)]
 ·obtain⟨S',i,d,j⟩:=A7j (R:=R) (N:=N) (a:=Ba (val a)) (b:=Ba (val b)) (t:=o) (u:=o') (Av _) (Av _) (c.le (by omega)) (by omega)
  rw[Ax,Ax] at d
  refine⟨S',i,d,fun K=>?_⟩
  rw[mP];unfold nh
  dsimp only
  rw[Ec rfl e (c.le (by omega)),Ec rfl f (c.le (by omega)),Jf (by omega),cf,j,Ax,Ax]
end
end Gx

namespace Gx
open Go Go.Proofs
section
variable {R:Type}
theorem Ama {x y:Nat} (b:x<4294967296) (e:y≤4294967296):∃ d c:Nat,d<4294967296∧c≤1∧x+4294967296*c=d+y∧IntKind.wrap .u32 (IntKind.wrap .u64 ((x:Int) - (y:Int)))=(d:Int)∧Int.fdiv (IntKind.wrap .u64 ((x:Int) - (y:Int))) (2 ^ 63)=(c:Int):=by
 by_cases h:y≤x
 ·refine⟨x - y,0,by omega,by omega,by omega,?_,?_⟩
  ·rw[An4 (by omega) h,A9q (by omega)]
  ·rw[An4 (by omega) h,Ba5,Nat.div_eq_of_lt (by omega)]
 ·refine⟨x+4294967296 - y,1,by omega,by omega,by omega,?_,?_⟩
  ·rw[A6x (by omega) (by omega),Atg];congr 1;omega
  ·rw[A6x (by omega) (by omega),Ba5];congr 1;omega
theorem A82 {x c w:Nat} (b:x<4294967296) (d:c≤1) (e:w<4294967296):IntKind.wrap .u64 ((IntKind.wrap .u64 ((x:Int) - (c:Int))) - (w:Int))=IntKind.wrap .u64 ((x:Int) - ((c+w:Nat):Int)):=by
 rw[yJ,yJ,yJ];omega
theorem Afz {N:Nat} {a b:List Nat} {t u:Bool} (z:Aw a) (A:Aw b) (n:fit a.length N) (k:b.length≤a.length) (q:val b≤val a):∀ (m d fuel:Nat) (S:List Nat) (c:Nat),d+m=a.length→m<fuel→Aw S→S.length=a.length→A8k S d→c≤1 →
  val S+val (b.take d)=val (a.take d)+4294967296 ^ d*c →
  ∃ S',Aw S'∧val S'=val a - val b∧∀ K:Nat→Bool→LA→O R,Uj N K (Au b) b.length t a.length (Au a) u fuel (c:Int) (a.length:Int) (d:Int) (Au S)=K (Ba (val a - val b)).length true (Au S')
 | 0,d,fuel+1,S,c,hd,_,hS,l,x,Y,hv=>by
  have C:d=a.length:=by omega
  subst C
  rw[List.take_length,List.take_of_length_le k] at hv
  have D:=Lj hS
  rw[l] at D
  have F:c=0:=by
   rcases Nat.lt_or_ge 0 c with h | h
   ·exfalso
    have:c=1:=by omega
    subst this
    omega
   ·omega
  subst F
  have s:val S=val a - val b:=by omega
  refine⟨S,hS,s,fun K=>?_⟩
  rw[Uj];unfold GR
  rw[Jf (Nat.le_refl _),cf,Afx l.symm hS (by rw[l];exact n),s]
 | m+1,d,fuel+1,S,c,hd,hfu,hS,l,x,Y,hv=>by
  have h1:=n.1;have h2:=n.2
  have f:d<a.length:=by omega
  have ad:=Jv z f
  have step:∀ y g j:Nat,y=c+b.getD d 0→a[d]+4294967296*j=g+y→val (S.set d g)+val (b.take (d+1))=val (a.take (d+1))+4294967296 ^ (d+1)*j:=by
   intro y g j hy v
   rw[hY x (by omega),Cx f,RO b d,Nat.pow_succ,Nat.mul_assoc]
   have e:4294967296 ^ d*(a[d]+4294967296*j)=4294967296 ^ d*(g+(c+b.getD d 0)):=by rw[v,hy]
   rw[Nat.mul_add,Nat.mul_add,Nat.mul_add] at e
   omega
  by_cases i:d<b.length
  ·have bd:=Jv A i
   have v:b.getD d 0=b[d]:=by rw[List.getD_eq_getElem?_getD,List.getElem?_eq_getElem i];rfl
   obtain⟨g,j,G,I,L,M,T⟩:=Ama ad (show c+b[d]≤4294967296 by omega)
   obtain⟨S',U,V,X⟩:=Afz (t:=t) (u:=u) z A n k q m (d+1) fuel (S.set d g) j (by omega) (by omega) (Oa hS G d) (by simpa using l) (hU x) I (step _ _ _ (by rw[v]) L)
   refine⟨S',U,V,fun K=>?_⟩
   rw[Uj];unfold GR
   rw[Hy f,ct,Ab f,ct,Aja f,Hy i,ct,Ab i,ct,Aja i,ct,A2j (by omega),ct,a7 (show a[d]<18446744073709551616 by omega),a7 (show b[d]<18446744073709551616 by omega),A82 ad Y bd,M,T,Afv,wS (by omega)]
   exact X K
  ·have v:b.getD d 0=0:=by rw[List.getD_eq_getElem?_getD,List.getElem?_eq_none (by omega)];rfl
   obtain⟨g,j,G,I,L,M,T⟩:=Ama ad (show c≤4294967296 by omega)
   obtain⟨S',U,V,X⟩:=Afz (t:=t) (u:=u) z A n k q m (d+1) fuel (S.set d g) j (by omega) (by omega) (Oa hS G d) (by simpa using l) (hU x) I (step _ _ _ (by rw[v];rfl) L)
   refine⟨S',U,V,fun K=>?_⟩
   rw[Uj];unfold GR
   rw[Hy f,ct,Ab f,ct,Aja f,Jf (by omega),cf,ct,A2j (by omega),ct,a7 (show a[d]<18446744073709551616 by omega),M,T,Afv,wS (by omega)]
   exact X K
theorem Awn {N:Nat} {a b:List Nat} {n m:Nat} {t o t' o':Bool} (hn:n=a.length) (k:m=b.length) (f:Aw a) (i:Aw b) (c:fit (a.length+b.length) N) (d:val b≤val a) :
  ∃ S',Aw S'∧val S'=val a - val b∧∀ K:Nat→Bool→LA→O R,cC N (Au a) n t o (Au b) m t' o' K=K (Ba (val a - val b)).length true (Au S'):=by
 subst hn k
 have s:=c.1;have v:=c.2
 have la:=(D2 f).2
 have lb:=(D2 i).2
 have e:=Gh d
 obtain⟨S',l,j,q⟩:=Afz (R:=R) (N:=N) (a:=Ba (val a)) (b:=Ba (val b)) (t:=o') (u:=o) (Av _) (Av _) (c.le (by omega)) e (by rw[Ax,Ax];exact d) (Ba (val a)).length 0 N (List.replicate (Ba (val a)).length 0) 0 (by omega) (by omega) (Jw _) (by simp) (Zt _) (by omega) (by rw[Ku];simp[val])
 rw[Ax,Ax] at j
 refine⟨S',l,j,fun K=>?_⟩
 rw[mQ];unfold nk
 dsimp only
 rw[Ec rfl f (c.le (by omega)),Ec rfl i (c.le (by omega)),Al9 rfl rfl (Av _) (Av _) (c.le (by omega)),Ax,Ax]
 have:decide (FB (val a) (val b)<0)=false:=by unfold FB;split<;>(try split)<;>simp<;>omega
 rw[this,cf,Bai (by omega),ct,Lk]
 have:=q K
 rw[Ax,Ax] at this
 exact this
theorem A7l {N:Nat} {a b:List Nat} {n m:Nat} {t o t' o':Bool} {K:Nat→Bool→LA→O R} (hn:n=a.length) (i:m=b.length) (e:Aw a) (f:Aw b) (c:fit (a.length+b.length) N) (d:val a<val b) :
  cC N (Au a) n t o (Au b) m t' o' K=K 0 false []:=by
 subst hn i
 have la:=(D2 e).2
 have lb:=(D2 f).2
 rw[mQ];unfold nk
 dsimp only
 rw[Ec rfl e (c.le (by omega)),Ec rfl f (c.le (by omega)),Al9 rfl rfl (Av _) (Av _) (c.le (by omega)),Ax,Ax]
 have:decide (FB (val a) (val b)<0)=true:=by unfold FB;rw[if_pos d];rfl
 rw[this,ct]
end
end Gx

namespace Gx
open Go Go.Proofs
section
variable {R:Type}
theorem A9s {n:Nat} (h:n≠0):(((n:Nat):Int)==(0:Int))=false:=by rw[beq_eq_false_iff_ne];omega
theorem A7m:∀ {S:List Nat} {j:Nat} (h:j<S.length),4294967296 ^ j*S[j]≤val S
 | x::r,0,_=>by simp[val]
 | x::r,j+1,h=>by
  have:=A7m (S:=r) (j:=j) (by simpa using h)
  simp only[List.getElem_cons_succ,val,Nat.pow_succ]
  rw[Nat.mul_comm (4294967296 ^ j),Nat.mul_assoc]
  omega
theorem Baj {S:List Nat} {k:Nat} (h:val S<4294967296 ^ k):A8k S k:=fun j b c=>by
 have d:=A7m b
 have e:4294967296 ^ k≤4294967296 ^ j:=Nat.pow_le_pow_right (by omega) c
 rcases Nat.eq_zero_or_pos S[j] with h0 | h0
 ·exact h0
 ·have:=Nat.le_mul_of_pos_right (4294967296 ^ j) h0
  omega
theorem A7n {p q y s:Nat} (b:p<4294967296) (hq:q<4294967296) (c:y<4294967296) (hs:s<4294967296):p+(q*y+s)<18446744073709551616:=by
 have:q*y≤4294967295*4294967295:=Nat.mul_le_mul (by omega) (by omega)
 omega
theorem A7o {N:Nat} {x y:List Nat} {c d:Bool} {f q J:Nat} (D:Aw y) (hq:q<4294967296) (G:f<x.length) (hs:x.length+y.length≤1000000000000):∀ (m l fuel:Nat) (S:List Nat) (p:Nat) (v:Nat),l+m=y.length→m<fuel→Aw S→S.length=x.length+y.length→A8k S (f+y.length)→p<4294967296 →
  val S+4294967296 ^ (f+l)*p=v+4294967296 ^ f*(q*val (y.take l)) →
  ∃ S',Aw S'∧S'.length=x.length+y.length∧val S'=v+4294967296 ^ f*(q*val y)∧∀ (k:Nat→Int→Int→LA→O R) (K:Nat→LA→O R),Xu N k K (Au y) y.length d (x.length+y.length) (f:Int) (q:Int) (Au x) x.length c (J:Int) fuel (p:Int) (y.length:Int) (l:Int) (Au S)=k (x.length+y.length) J ((f+1:Nat):Int) (Au S')
 | 0,l,fuel+1,S,p,v,I,_,hS,b,u,t,z=>by
  have A:l=y.length:=by omega
  subst A
  rw[List.take_length] at z
  refine⟨S.set (f+y.length) p,Oa hS t _,by simpa using b,by rw[hY u (by omega),z],fun k K=>?_⟩
  rw[Xu];unfold TD
  rw[Jf (Nat.le_refl _),cf,wA (by omega),Ab (by omega),ct,A2j (by omega),ct,A9q t,Afv,wS (by omega)]
 | m+1,l,fuel+1,S,p,v,I,L,hS,b,u,t,z=>by
  have i:l<y.length:=by omega
  have yl:=Jv D i
  have hi:f+l<S.length:=by omega
  have sl:=Jv hS hi
  have M:=A7n t hq yl sl
  have C:q*y[l]<18446744073709551616:=by omega
  generalize n:p+(q*y[l]+S[f+l])=s at *
  have F:=zK (v:=s%4294967296) hi
  have key:val (S.set (f+l) (s%4294967296))+4294967296 ^ (f+(l+1))*(s/4294967296)=v+4294967296 ^ f*(q*val (y.take (l+1))):=by
   rw[Cx i,←Nat.add_assoc f l 1,Nat.pow_succ]
   have e:=fM (4294967296 ^ (f+l)) s
   have e2:4294967296 ^ (f+l)*s=4294967296 ^ (f+l)*p+(4294967296 ^ (f+l)*(q*y[l])+4294967296 ^ (f+l)*S[f+l]):=by rw[←n,Nat.mul_add,Nat.mul_add]
   have e3:4294967296 ^ f*(q*(val (y.take l)+4294967296 ^ l*y[l]))=4294967296 ^ f*(q*val (y.take l))+4294967296 ^ (f+l)*(q*y[l]):=by
    rw[Nat.mul_add,Nat.mul_add,Nat.pow_add]
    congr 1
    rw[Nat.mul_assoc];congr 1
    rw[←Nat.mul_assoc,←Nat.mul_assoc,Nat.mul_comm q]
   omega
  obtain⟨S',T,U,V,X⟩:=A7o (N:=N) (x:=x) (c:=c) (d:=d) (J:=J) D hq G hs m (l+1) fuel (S.set (f+l) (s%4294967296)) (s/4294967296) v (by omega) (by omega) (Oa hS (by omega) _) (by simpa using b) (fun j Y hk=>by
   rw[List.getElem_set,if_neg (by omega)];exact u j (by simpa using Y) hk) (by omega) key
  refine⟨S',T,U,V,fun k K=>?_⟩
  rw[Xu];unfold TD
  rw[Hy i,ct,Ab i,ct,Aja i,wA (by omega),Ab (by omega),ct,t8 hi,ct,A2j hi,ct,a7 (show q<18446744073709551616 by omega),a7 (show y[l]<18446744073709551616 by omega),a7 (show S[f+l]<18446744073709551616 by omega),A98,a7 C,An3,a7 (by omega),An3,n,a7 M,Ay6,Atg,Afv,wS (by omega)]
  exact X k K
theorem Aqh {N:Nat} {x y:List Nat} {c d:Bool} (n:Aw x) (s:Aw y) (e:fit (x.length+y.length) N):∀ (m f fuel:Nat) (S:List Nat),f+m=x.length→m<fuel→Aw S→S.length=x.length+y.length →
  val S=val (x.take f)*val y →
  ∃ S',Aw S'∧val S'=val x*val y∧∀ K:Nat→LA→O R,Q8 N K (Au y) y.length d (Au x) x.length c fuel (x.length+y.length) (x.length:Int) (f:Int) (Au S)=K (Ba (val x*val y)).length (Au S')
 | 0,f,fuel+1,S,C,_,hS,i,l=>by
  have t:f=x.length:=by omega
  subst t
  rw[List.take_length] at l
  refine⟨S,hS,l,fun K=>?_⟩
  rw[Q8];unfold GP
  rw[Jf (Nat.le_refl _),cf,Afx i.symm hS (by rw[i];exact e),l]
 | m+1,f,fuel+1,S,C,D,hS,i,l=>by
  have T:=e.1;have U:=e.2
  have b:f<x.length:=by omega
  have xf:=Jv n b
  have A:=Lj (Mr n f)
  rw[List.length_take,Nat.min_eq_left (by omega)] at A
  have F:=Lj s
  have k:val S<4294967296 ^ (f+y.length):=by
   rw[l,Nat.pow_add];exact Nat.mul_lt_mul'' A F
  have j:val (x.take (f+1))*val y=val S+4294967296 ^ f*(x[f]*val y):=by
   rw[Cx b,Nat.add_mul,l,Nat.mul_assoc]
  by_cases h0:x[f]=0
  ·obtain⟨S',u,v,z⟩:=Aqh (c:=c) (d:=d) n s e m (f+1) fuel S (by omega) (by omega) hS i (by rw[j,h0];simp)
   refine⟨S',u,v,fun K=>?_⟩
   rw[Q8];unfold GP
   rw[Hy b,ct,Ab b,ct,Aja b,show(((x[f]:Nat):Int)==0)=true by simp[h0],ct,wS (by omega)]
   exact z K
  ·obtain⟨S1,G,I,L,M⟩:=A7o (R:=R) (N:=N) (x:=x) (y:=y) (c:=c) (d:=d) (f:=f) (q:=x[f]) (J:=x.length) s xf b (by omega) y.length 0 N S 0 (val S) (by omega) (by omega) hS i (Baj k) (by omega) (by simp[val])
   obtain⟨S',u,v,z⟩:=Aqh (c:=c) (d:=d) n s e m (f+1) fuel S1 (by omega) (by omega) G I (by rw[L,j])
   refine⟨S',u,v,fun K=>?_⟩
   rw[Q8];unfold GP
   rw[Hy b,ct,Ab b,ct,Aja b,show(((x[f]:Nat):Int)==0)=false by simp;exact h0,cf]
   have:=M (Q8 N K (Au y) y.length d (Au x) x.length c fuel) K
   simp only[Int.natCast_zero] at this
   dsimp only
   rw[this]
   exact z K
theorem A7p {N:Nat} {a b:List Nat} {n m:Nat} {t o t' o':Bool} (hn:n=a.length) (q:m=b.length) (j:Aw a) (k:Aw b) (e:fit (a.length+b.length) N) :
  ∃ S',Aw S'∧val S'=val a*val b∧∀ K:Nat→LA→O R,s6 N (Au a) n t o (Au b) m t' o' K=K (Ba (val a*val b)).length (Au S'):=by
 subst hn q
 have v:=e.1;have z:=e.2
 have la:=(D2 j).2
 have lb:=(D2 k).2
 by_cases f:val a=0
 ·refine⟨[],gS,by rw[f];simp[val],fun K=>?_⟩
  rw[TE];unfold gX
  dsimp only
  rw[Ec rfl j (e.le (by omega)),Ec rfl k (e.le (by omega)),f,Nat.zero_mul,Hg];rfl
 ·by_cases i:val b=0
  ·refine⟨[],gS,by rw[i];simp[val],fun K=>?_⟩
   rw[TE];unfold gX
   dsimp only
   rw[Ec rfl j (e.le (by omega)),Ec rfl k (e.le (by omega)),i,Nat.mul_zero,Hg]
   cases ((((Ba (val a)).length:Nat):Int)==0)<;>rfl
  ·obtain⟨S',s,l,u⟩:=Aqh (R:=R) (N:=N) (x:=Ba (val a)) (y:=Ba (val b)) (c:=o) (d:=o') (Av _) (Av _) (e.le (by omega)) (Ba (val a)).length 0 N (List.replicate ((Ba (val a)).length+(Ba (val b)).length) 0) (by omega) (by omega) (Jw _) (by simp) (by rw[Ku];simp[val])
   rw[Ax,Ax] at l
   refine⟨S',s,l,fun K=>?_⟩
   rw[TE];unfold gX
   dsimp only
   have n1:(Ba (val a)).length≠0:=fun h=>f (Ej.1 h)
   have n2:(Ba (val b)).length≠0:=fun h=>i (Ej.1 h)
   rw[Ec rfl j (e.le (by omega)),Ec rfl k (e.le (by omega)),A9s n1,show((false:Bool)==false)=true by rfl,ct,Bct,A9s n2,cf]
   unfold gW mN
   rw[wA (by omega),Bai (by omega),ct,Int.toNat_natCast,Lk]
   have:=u K
   rw[Ax,Ax] at this
   exact this
end
end Gx
