/- A part of the proof: what it holds is said by each theorem. -/
import Derived.IntWalk
import Derived.ProofKit
import Derived.OpenShut
import Derived.ChangeOld
import Derived.Below
import Derived.Test.YtlkhmflligkbkaaGreatP2
set_option linter.unusedVariables false
namespace Gx
open Go Go.Proofs
set_option maxRecDepth 100000
noncomputable section
variable {R:Type}
def Aku (N:Nat) (k2:Nat→Int→Int→LA→Option R) (r0:Int→Int→Int→Int→Nat→Int→Int→LA→Option R) (r1:Int→Int→Nat→Int→Int→Int→Int→Int→Int→Int→Int→Int→Int→Int→Int→Int→Nat→Int→Int→Int→LA→LA→Option R) (a:List UInt8) (b af:Int) (d:LA) (c:Nat) (r t:Bool) (e f g i j y z aa l m ab o p:Int) (ad:Nat) (x ac q:Int) (ae:LA) (u w:Int)   (am:Nat) (an ar:Int) (aq:LA):Option R :=
 (cond (Aj an c) (rdI .i64 (List.drop ((Int.toNat an)*2) d) fun ci=>(Aw N ci 20 (fun be=>(cond (Aj an c) (rdI .i64 (List.drop 1 (List.drop ((Int.toNat an)*2) d)) fun cj=>(Aw N cj 8 (fun bn=>(cond (decide (an>(0:Int))) (cond (Aj (IntKind.wrap .i64 (an - (1:Int))) am) (rdI .i64 (List.drop ((0+((Int.toNat (IntKind.wrap .i64 (an - (1:Int))))*2))+1) aq) fun ck=>(cond ((Nat.ble (am+1) 140737488355328)&&(Nat.ble ((am+1)*16) 140737488355328)) (k2 (am+1) (IntKind.wrap .i64 (an+(1:Int))) (IntKind.wrap .i64 (ar+(IntKind.wrap .i64 ((1:Int)+be)))) ((List.take (am*2) aq)++[(.int .i64 (IntKind.wrap .i64 ((1:Int)+be))),(.int .i64 (IntKind.wrap .i64 (bn+ck)))])) none)) none) (cond ((Nat.ble (am+1) 140737488355328)&&(Nat.ble ((am+1)*16) 140737488355328)) (k2 (am+1) (IntKind.wrap .i64 (an+(1:Int))) (IntKind.wrap .i64 (ar+(IntKind.wrap .i64 ((1:Int)+be)))) ((List.take (am*2) aq)++[(.int .i64 (IntKind.wrap .i64 ((1:Int)+be))),(.int .i64 (IntKind.wrap .i64 (bn - (3:Int))))])) none))))) none)))) none)
def Adh (N:Nat) (k2:Nat→Int→Int→LA→Option R) (r0:Int→Int→Int→Int→Nat→Int→Int→LA→Option R) (r1:Int→Int→Nat→Int→Int→Int→Int→Int→Int→Int→Int→Int→Int→Int→Int→Int→Nat→Int→Int→Int→LA→LA→Option R) (a:List UInt8) (b af:Int) (d:LA) (c:Nat) (r t:Bool) (e f g i j y z aa l m ab o p:Int) (ad:Nat) (x ac q:Int) (ae:LA) (u w:Int) (am:Nat) (an ar:Int) (aq:LA):Option R:=(Aku N k2 r0 r1 a b af d c r t e f g i j y z aa l m ab o p ad x ac q ae u w am an ar aq)
def Akv (N:Nat)  (r0:Int→Int→Int→Int→Nat→Int→Int→LA→Option R) (r1:Int→Int→Nat→Int→Int→Int→Int→Int→Int→Int→Int→Int→Int→Int→Int→Int→Nat→Int→Int→Int→LA→LA→Option R) (a:List UInt8) (b af:Int) (d:LA) (c:Nat) (r t:Bool) (e f g i j y z aa l m ab o p:Int) (ad:Nat) (x ac q:Int) (ae:LA) (u w:Int) (k2:Nat→Int→Int→LA→Option R) (q3:Nat→Int→Int→LA→Option R) (ak:Nat) (ao aj:Int) (al:LA):Option R :=
 (cond ((decide (ao<((c:Nat):Int)))==true) (cond (cond true (decide (ao<(3:Int))) false) (q3 ak ao aj al) (Aw N f 25 (fun bo=>(Aw N g 25 (fun bp=>(Aw N i (IntKind.wrap .i64 ((IntKind.wrap .i64 (aj - af))+(1:Int))) (fun bq=>(Aw N j (IntKind.wrap .i64 ((IntKind.wrap .i64 (aj - af))+(1:Int))) (fun br=>(Aw N e 30 (fun bs=>(Aw N l 50 (fun bt=>(Aw N m 90 (fun bu=>(Aw N p 4 (fun bv=>(Aw N o 12 (fun bw=>(cond (x==(2:Int)) (Aw N q (IntKind.wrap .i64 ((IntKind.wrap .i64 (aj - af))+(1:Int))) (fun cl=>(r1 af aj ak bs (IntKind.wrap .i64 ((1:Int)+bo)) (IntKind.wrap .i64 ((1:Int)+bp)) (IntKind.wrap .i64 (af+bq)) (IntKind.wrap .i64 (af+br)) y z aa bt bu ab bw bv ad x ac (IntKind.wrap .i64 (af+cl)) al ae))) (r1 af aj ak bs (IntKind.wrap .i64 ((1:Int)+bo)) (IntKind.wrap .i64 ((1:Int)+bp)) (IntKind.wrap .i64 (af+bq)) (IntKind.wrap .i64 (af+br)) y z aa bt bu ab bw bv ad x ac 0 al ae))))))))))))))))))))) (Aw N f 25 (fun bx=>(Aw N g 25 (fun bz=>(Aw N i (IntKind.wrap .i64 ((IntKind.wrap .i64 (aj - af))+(1:Int))) (fun ca=>(Aw N j (IntKind.wrap .i64 ((IntKind.wrap .i64 (aj - af))+(1:Int))) (fun cb=>(Aw N e 30 (fun cc=>(Aw N l 50 (fun cd=>(Aw N m 90 (fun ce=>(Aw N p 4 (fun cf=>(Aw N o 12 (fun cg=>(cond (x==(2:Int)) (Aw N q (IntKind.wrap .i64 ((IntKind.wrap .i64 (aj - af))+(1:Int))) (fun cm=>(r1 af aj ak cc (IntKind.wrap .i64 ((1:Int)+bx)) (IntKind.wrap .i64 ((1:Int)+bz)) (IntKind.wrap .i64 (af+ca)) (IntKind.wrap .i64 (af+cb)) y z aa cd ce ab cg cf ad x ac (IntKind.wrap .i64 (af+cm)) al ae))) (r1 af aj ak cc (IntKind.wrap .i64 ((1:Int)+bx)) (IntKind.wrap .i64 ((1:Int)+bz)) (IntKind.wrap .i64 (af+ca)) (IntKind.wrap .i64 (af+cb)) y z aa cd ce ab cg cf ad x ac 0 al ae)))))))))))))))))))))
def H5 (N:Nat)  (r0:Int→Int→Int→Int→Nat→Int→Int→LA→Option R) (r1:Int→Int→Nat→Int→Int→Int→Int→Int→Int→Int→Int→Int→Int→Int→Int→Int→Nat→Int→Int→Int→LA→LA→Option R) (a:List UInt8) (b af:Int) (d:LA) (c:Nat) (r t:Bool) (e f g i j y z aa l m ab o p:Int) (ad:Nat) (x ac q:Int) (ae:LA) (u w:Int):Nat→Nat→Int→Int→LA→Option R
 | 0,_,_,_,_=>none
 | n+1,ak,ao,aj,al=>(Akv N r0 r1 a b af d c r t e f g i j y z aa l m ab o p ad x ac q ae u w (H5 N r0 r1 a b af d c r t e f g i j y z aa l m ab o p ad x ac q ae u w n) (fun am an ar aq=>(Adh N (H5 N r0 r1 a b af d c r t e f g i j y z aa l m ab o p ad x ac q ae u w n) r0 r1 a b af d c r t e f g i j y z aa l m ab o p ad x ac q ae u w am an ar aq)) ak ao aj al)
def X3 (N:Nat)  (r0:Int→Int→Int→Int→Nat→Int→Int→LA→Option R) (r1:Int→Int→Nat→Int→Int→Int→Int→Int→Int→Int→Int→Int→Int→Int→Int→Int→Nat→Int→Int→Int→LA→LA→Option R) (ag:Int) (a:List UInt8) (b u w:Int) (d:LA) (c:Nat) (r t:Bool) (e f g i j y z aa l m ab o p:Int) (ah:Nat) (x ac q:Int) (ai:LA) (k1:Nat→Int→LA→Option R) (q2:Int→Nat→Int→Int→LA→Option R) (ad:Nat) (ap:Int) (ae:LA):Option R :=
 (cond (decide (ap<ag)) (cond ((decide (((ad:Nat):Int)<(2:Int)))==true) (Be7 N (List.take (ah*1) ai) ah false true ap (fun cn=>(cond (cond true cn false) (cond ((Nat.ble (ad+1) 140737488355328)&&(Nat.ble ((ad+1)*8) 140737488355328)) (k1 (ad+1) (IntKind.wrap .i64 (ap+(1:Int))) ((List.take (ad*1) ae)++[(.int .i64 ap)])) none) (k1 ad (IntKind.wrap .i64 (ap+(1:Int))) ae)))) (k1 ad (IntKind.wrap .i64 (ap+(1:Int))) ae)) (Aw N u 20 (fun af=>(q2 af 0 0 af []))))
def Kp (N:Nat)  (r0:Int→Int→Int→Int→Nat→Int→Int→LA→Option R) (r1:Int→Int→Nat→Int→Int→Int→Int→Int→Int→Int→Int→Int→Int→Int→Int→Int→Nat→Int→Int→Int→LA→LA→Option R) (ag:Int) (a:List UInt8) (b u w:Int) (d:LA) (c:Nat) (r t:Bool) (e f g i j y z aa l m ab o p:Int) (ah:Nat) (x ac q:Int) (ai:LA):Nat→Nat→Int→LA→Option R
 | 0,_,_,_=>none
 | n+1,ad,ap,ae=>(X3 N r0 r1 ag a b u w d c r t e f g i j y z aa l m ab o p ah x ac q ai (Kp N r0 r1 ag a b u w d c r t e f g i j y z aa l m ab o p ah x ac q ai n) (fun af ak ao aj al=>(H5 N r0 r1 a b af d c r t e f g i j y z aa l m ab o p ad x ac q ae u w N ak ao aj al)) ad ap ae)
def Akw (N:Nat)  (r0:Int→Int→Int→Int→Nat→Int→Int→LA→Option R) (r1:Int→Int→Nat→Int→Int→Int→Int→Int→Int→Int→Int→Int→Int→Int→Int→Int→Nat→Int→Int→Int→LA→LA→Option R) (ag:Int) (a:List UInt8) (b u w:Int) (d:LA) (c:Nat) (r t:Bool) (e f g i j y z aa l m ab o p:Int) (ah:Nat) (x ac q:Int) (ai:LA)  (q1:Nat→Int→LA→Option R) :Option R :=
 (q1 0 0 [])
def Aql (N:Nat)  (r0:Int→Int→Int→Int→Nat→Int→Int→LA→Option R) (r1:Int→Int→Nat→Int→Int→Int→Int→Int→Int→Int→Int→Int→Int→Int→Int→Int→Nat→Int→Int→Int→LA→LA→Option R) (ag:Int) (a:List UInt8) (b u w:Int) (d:LA) (c:Nat) (r t:Bool) (e f g i j y z aa l m ab o p:Int) (ah:Nat) (x ac q:Int) (ai:LA) :Option R:=(Akw N r0 r1 ag a b u w d c r t e f g i j y z aa l m ab o p ah x ac q ai (fun ad ap ae=>(Kp N r0 r1 ag a b u w d c r t e f g i j y z aa l m ab o p ah x ac q ai N ad ap ae)))
def A53 (N:Nat) (r0:Int→Int→Int→Int→Nat→Int→Int→LA→Option R) (r1:Int→Int→Nat→Int→Int→Int→Int→Int→Int→Int→Int→Int→Int→Int→Int→Int→Nat→Int→Int→Int→LA→LA→Option R) (q0:Int→Int→Int→Int→Nat→Int→Int→LA→Option R) (a:List UInt8) (b u w:Int) (d:LA) (c:Nat) (r t:Bool) (e f g i j au av aw l m ax o p:Int) (ay:LA) (az:Nat) (ba bb:Bool) (bc bd q ag:Int):Option R :=
 (Aqj N a b u w d c r t e f g i j au av aw l m ax o p ay az ba bb bc bd q (fun y z aa ab ah x ac ai=>(cond ((decide (ag<(1:Int)))==false) (cond (cond false true (decide (ag>(24:Int)))) (r0 y z aa ab ah x ac ai) (q0 y z aa ab ah x ac ai)) (r0 y z aa ab ah x ac ai))))
def A54 (N:Nat) (a:List UInt8) (b u w:Int) (d:LA) (c:Nat) (r t:Bool) (e f g i j au av aw l m ax o p:Int) (ay:LA) (az:Nat) (ba bb:Bool) (bc bd q ag:Int) (r0:Int→Int→Int→Int→Nat→Int→Int→LA→Option R) (r1:Int→Int→Nat→Int→Int→Int→Int→Int→Int→Int→Int→Int→Int→Int→Int→Int→Nat→Int→Int→Int→LA→LA→Option R):Option R:=(A53 N r0 r1 (fun y z aa ab ah x ac ai=>(Aql N r0 r1 ag a b u w d c r t e f g i j y z aa l m ab o p ah x ac q ai)) a b u w d c r t e f g i j au av aw l m ax o p ay az ba bb bc bd q ag)
def Aqm:=(Al (@A54 R)).1
theorem A18:@Aqm R=@A54 R:=(Al _).2
def Adi:Hints:={ H:=(hS (hR [1,2,4]) (hS (hR [1,2,4]) (hJ (hS (hR [1,2,4,17]) (hN [1,2,4] (hS (hR [4]) hL) hL)) (hS (hR [1,2,4,5]) (hS (hS (hR [1,2,4,5,6]) (hN [2,4,5] (hN [1,2,4,5,6] (hS (hS (hR [1,2,4,5,6,21]) (hN [1,2,4,5,6] hL hL)) (hS (hN [1,2,4,5,6] (hS (hR [1,2,4,5,6,32]) (hN [1,2,4,5,6] (hR [1,2,4,5,6]) hL)) hL) (hR [1,2,4,5,6]))) hL) hL)) (hS (hR [2,4]) (hS (hR [2,4]) (hS (hR [2,4]) (hS (hR [2,4,7]) (hS (hS (hR [2,4,7,8]) (hN [2,4,7] (hN [2,4,7,8] (hJ (hS (hR [2,4,7,8,54]) (hN [2,4,7,8] hL hL)) (hS (hN [2,4,7,8] (hS (hR [2,4,7,8,9]) (hS (hS (hR [2,4,7,8,9,74]) (hN [2,4,7,8,9] (hR [2,4,7,8,9]) (hR [2,4,7,8,9]))) (hR [2,4,7,8]))) hL) (hR [2,4,7,8]))) hL) hL)) (hS (hR [2,4]) (hS (hR [2,4]) (hS (hR [2,4]) (hS (hR [2,4]) (hS (hR [2,4]) (hS (hS (hR [2,4,159]) (hN [2,4] (hR [2,4]) (hR [2,4]))) (hS (hR [4]) hL))))))))))))))))),nils:=[(5,1),(7,2)],modes:=[],free:=[],cob:=[] }
def Akx (N:Nat):List (Nat×Tw):=[(44,A8y N),(45,Bjq N),(12,P5 N)]
def Gl (N:Nat):Env:=mkE 175 Adi (Akx N)
def Bl2 (N:Nat) (F:KF R):=As (Gl N) Tryz.f14 Adi.modes [] F
def H6 (N:Nat) (F:KF R):=atF (Gl N) [] N Tryz.f14 Adi (Bl2 N F)
def C1 (a:List UInt8) (b u w:Int) (d:LA) (c:Nat) (r t:Bool) (e f g i j l m o p q:Int) (F:KF R):Int→Int→Int→Int→Nat→Int→Int→LA→Option R:=(fun bf bg bh bi bj bk bl bm=>F (.agg [(.str a),(.int .i64 b),(.int .i64 u),(.int .i64 w),(.imm d c 2 r t),(.int .i64 e),(.int .i64 f),(.int .i64 g),(.int .i64 i),(.int .i64 j),(.int .i64 bf),(.int .i64 bg),(.int .i64 bh),(.int .i64 l),(.int .i64 m),(.int .i64 bi),(.int .i64 o),(.int .i64 p),(.own 300000 0 bj),(.int .i64 bk),(.int .i64 bl),(.int .i64 q)]) [(300000,⟨false,false,true,false,1,bm,false⟩)])
def C2 (a:List UInt8) (b:Int) (F:KF R):Int→Int→Nat→Int→Int→Int→Int→Int→Int→Int→Int→Int→Int→Int→Int→Int→Nat→Int→Int→Int→LA→LA→Option R:=(fun co cp cq cr cs ct cu cv bf bg bh cw cx bi cy cz bj bk bl da bm db=>F (.agg [(.str a),(.int .i64 b),(.int .i64 co),(.int .i64 cp),(.own 300000 0 cq),(.int .i64 cr),(.int .i64 cs),(.int .i64 ct),(.int .i64 cu),(.int .i64 cv),(.int .i64 bf),(.int .i64 bg),(.int .i64 bh),(.int .i64 cw),(.int .i64 cx),(.int .i64 bi),(.int .i64 cy),(.int .i64 cz),(.own 300001 0 bj),(.int .i64 bk),(.int .i64 bl),(.int .i64 da)]) [(300000,⟨false,false,true,false,2,bm,false⟩),(300001,⟨false,false,true,false,1,db,false⟩)])
def Adj (a:List UInt8) (b af:Int) (d:LA) (c:Nat) (r t:Bool) (e f g i j y z aa l m ab o p:Int) (ad:Nat) (x ac q:Int) (ae:LA) (u w:Int) (am:Nat) (an ar:Int) (aq:LA):St:={ s:=[(2,(.optr 300000 0)),(4,(.optr 300001 0)),(7,(.own 300002 0 am)),(8,(.int .i64 an))],h:=[(300000,⟨false,false,false,false,0,[(.str a),(.int .i64 b),(.int .i64 af),(.int .i64 ar),(.imm d c 2 r t),(.int .i64 e),(.int .i64 f),(.int .i64 g),(.int .i64 i),(.int .i64 j),(.int .i64 y),(.int .i64 z),(.int .i64 aa),(.int .i64 l),(.int .i64 m),(.int .i64 ab),(.int .i64 o),(.int .i64 p),(.own 300003 0 ad),(.int .i64 x),(.int .i64 ac),(.int .i64 q)],false⟩),(300001,⟨false,false,false,false,0,[(.str ([]:List UInt8)),(.int .i64 0),(.int .i64 0),(.int .i64 0),.nsl,(.int .i64 0),(.int .i64 0),(.int .i64 0),(.int .i64 0),(.int .i64 0),(.int .i64 0),(.int .i64 0),(.int .i64 0),(.int .i64 0),(.int .i64 0),(.int .i64 0),(.int .i64 0),(.int .i64 0),.nsl,(.int .i64 0),(.int .i64 0),(.int .i64 0)],false⟩),(300002,⟨false,false,true,false,2,aq,false⟩),(300003,⟨false,false,true,false,1,ae,false⟩)] }
def A8z (N:Nat) (F:KF R) (Q2:St→Option R):St→Option R:=Bh (Gl N) [] N (H6 N F [1,1,1,1,1,1,1,1,1,0,1,0,0,1] [Q2])
def A80 (N:Nat) (F:KF R) (Q2:St→Option R):St→Option R:=Bl (Gl N) [] N (H6 N F [1,1,1,1,1,1,1,1,1,0,1,0,0,1] [Q2])
def H7 (a:List UInt8) (b af:Int) (d:LA) (c:Nat) (r t:Bool) (e f g i j y z aa l m ab o p:Int) (ad:Nat) (x ac q:Int) (ae:LA) (u w:Int) (ak:Nat) (ao aj:Int) (al:LA):St:={ s:=[(2,(.optr 300000 0)),(4,(.optr 300001 0)),(7,(.own 300002 0 ak)),(8,(.int .i64 ao))],h:=[(300000,⟨false,false,false,false,0,[(.str a),(.int .i64 b),(.int .i64 af),(.int .i64 aj),(.imm d c 2 r t),(.int .i64 e),(.int .i64 f),(.int .i64 g),(.int .i64 i),(.int .i64 j),(.int .i64 y),(.int .i64 z),(.int .i64 aa),(.int .i64 l),(.int .i64 m),(.int .i64 ab),(.int .i64 o),(.int .i64 p),(.own 300003 0 ad),(.int .i64 x),(.int .i64 ac),(.int .i64 q)],false⟩),(300001,⟨false,false,false,false,0,[(.str ([]:List UInt8)),(.int .i64 0),(.int .i64 0),(.int .i64 0),.nsl,(.int .i64 0),(.int .i64 0),(.int .i64 0),(.int .i64 0),(.int .i64 0),(.int .i64 0),(.int .i64 0),(.int .i64 0),(.int .i64 0),(.int .i64 0),(.int .i64 0),(.int .i64 0),(.int .i64 0),.nsl,(.int .i64 0),(.int .i64 0),(.int .i64 0)],false⟩),(300002,⟨false,false,true,false,2,al,false⟩),(300003,⟨false,false,true,false,1,ae,false⟩)] }
def A81 (N:Nat) (F:KF R):St→Option R:=Bx (Gl N) [] N (H6 N F [1,1,1,1,1,1,1,1,1,0,1,0] []) N
def Kq (N:Nat) (F:KF R) (n:Nat):St→Option R:=A9 (Gl N) [] N (H6 N F [1,1,1,1,1,1,1,1,1,0,1,0] []) n
def Or (ag:Int) (a:List UInt8) (b u w:Int) (d:LA) (c:Nat) (r t:Bool) (e f g i j y z aa l m ab o p:Int) (ah:Nat) (x ac q:Int) (ai:LA) (ad:Nat) (ap:Int) (ae:LA):St:={ s:=[(1,(.int .i64 ag)),(2,(.optr 300000 0)),(4,(.optr 300001 0)),(5,(.own 300002 0 ad)),(6,(.int .i64 ap))],h:=[(300000,⟨false,false,false,false,0,[(.str a),(.int .i64 b),(.int .i64 u),(.int .i64 w),(.imm d c 2 r t),(.int .i64 e),(.int .i64 f),(.int .i64 g),(.int .i64 i),(.int .i64 j),(.int .i64 y),(.int .i64 z),(.int .i64 aa),(.int .i64 l),(.int .i64 m),(.int .i64 ab),(.int .i64 o),(.int .i64 p),(.own 300003 0 ah),(.int .i64 x),(.int .i64 ac),(.int .i64 q)],false⟩),(300001,⟨false,false,false,false,0,[(.str ([]:List UInt8)),(.int .i64 0),(.int .i64 0),(.int .i64 0),.nsl,(.int .i64 0),(.int .i64 0),(.int .i64 0),(.int .i64 0),(.int .i64 0),(.int .i64 0),(.int .i64 0),(.int .i64 0),(.int .i64 0),(.int .i64 0),(.int .i64 0),(.int .i64 0),(.int .i64 0),.nsl,(.int .i64 0),(.int .i64 0),(.int .i64 0)],false⟩),(300002,⟨false,false,true,false,1,ae,false⟩),(300003,⟨false,false,true,false,1,ai,false⟩)] }
def A82 (N:Nat) (F:KF R):St→Option R:=Bx (Gl N) [] N (H6 N F [1,1,1,1,0,1,0] []) N
def Adk (N:Nat) (F:KF R) (n:Nat):St→Option R:=A9 (Gl N) [] N (H6 N F [1,1,1,1,0,1,0] []) n
def Adl (ag:Int) (a:List UInt8) (b u w:Int) (d:LA) (c:Nat) (r t:Bool) (e f g i j y z aa l m ab o p:Int) (ah:Nat) (x ac q:Int) (ai:LA):St:={ s:=[(1,(.int .i64 ag)),(2,(.optr 300000 0)),(4,(.optr 300001 0))],h:=[(300000,⟨false,false,false,false,0,[(.str a),(.int .i64 b),(.int .i64 u),(.int .i64 w),(.imm d c 2 r t),(.int .i64 e),(.int .i64 f),(.int .i64 g),(.int .i64 i),(.int .i64 j),(.int .i64 y),(.int .i64 z),(.int .i64 aa),(.int .i64 l),(.int .i64 m),(.int .i64 ab),(.int .i64 o),(.int .i64 p),(.own 300002 0 ah),(.int .i64 x),(.int .i64 ac),(.int .i64 q)],false⟩),(300001,⟨false,false,false,false,0,[(.str ([]:List UInt8)),(.int .i64 0),(.int .i64 0),(.int .i64 0),.nsl,(.int .i64 0),(.int .i64 0),(.int .i64 0),(.int .i64 0),(.int .i64 0),(.int .i64 0),(.int .i64 0),(.int .i64 0),(.int .i64 0),(.int .i64 0),(.int .i64 0),(.int .i64 0),(.int .i64 0),.nsl,(.int .i64 0),(.int .i64 0),(.int .i64 0)],false⟩),(300002,⟨false,false,true,false,1,ai,false⟩)] }
def A83 (N:Nat) (F:KF R):St→Option R:=Bh (Gl N) [] N (H6 N F [1,1,1] [])
def A84 (N:Nat) (F:KF R):St→Option R:=Bl (Gl N) [] N (H6 N F [1,1,1] [])
theorem Be9 (N:Nat) (Q2:St→Option R) (F:KF R) (a:List UInt8) (b af:Int) (d:LA) (c:Nat) (r t:Bool) (e f g i j y z aa l m ab o p:Int) (ad:Nat) (x ac q:Int) (ae:LA) (u w:Int):∀ (am:Nat) (an ar:Int) (aq:LA),A80 N F Q2 (Adj a b af d c r t e f g i j y z aa l m ab o p ad x ac q ae u w am an ar aq)=(Adh N (fun ak ao aj al=>Q2 (H7 a b af d c r t e f g i j y z aa l m ab o p ad x ac q ae u w ak ao aj al)) (C1 a b u w d c r t e f g i j l m o p q F) (C2 a b F) a b af d c r t e f g i j y z aa l m ab o p ad x ac q ae u w am an ar aq):=by
 intro am an ar aq
 have hK:A80 N F Q2 (Adj a b af d c r t e f g i j y z aa l m ab o p ad x ac q ae u w am an ar aq)=(Aku N (fun ak ao aj al=>Q2 (H7 a b af d c r t e f g i j y z aa l m ab o p ad x ac q ae u w ak ao aj al)) (C1 a b u w d c r t e f g i j l m o p q F) (C2 a b F) a b af d c r t e f g i j y z aa l m ab o p ad x ac q ae u w am an ar aq):=by kernel_rfl
 exact hK
theorem Bfa (N:Nat)  (F:KF R) (a:List UInt8) (b af:Int) (d:LA) (c:Nat) (r t:Bool) (e f g i j y z aa l m ab o p:Int) (ad:Nat) (x ac q:Int) (ae:LA) (u w:Int):∀ (n ak:Nat) (ao aj:Int) (al:LA),Kq N F n (H7 a b af d c r t e f g i j y z aa l m ab o p ad x ac q ae u w ak ao aj al)=(H5 N (C1 a b u w d c r t e f g i j l m o p q F) (C2 a b F) a b af d c r t e f g i j y z aa l m ab o p ad x ac q ae u w n ak ao aj al):=by
 intro n
 induction n with
 | zero=>intros;kernel_rfl
 | succ n ih =>
  intro ak ao aj al
  have e0:=funext fun ak=>funext fun ao=>funext fun aj=>funext fun al=>(show Kq N F n (H7 a b af d c r t e f g i j y z aa l m ab o p ad x ac q ae u w ak ao aj al)=_ from ih ak ao aj al)
  have e1:(fun am an ar aq=>A8z N F (Kq N F n) (Adj a b af d c r t e f g i j y z aa l m ab o p ad x ac q ae u w am an ar aq))=(fun am an ar aq=>(Adh N (H5 N (C1 a b u w d c r t e f g i j l m o p q F) (C2 a b F) a b af d c r t e f g i j y z aa l m ab o p ad x ac q ae u w n) (C1 a b u w d c r t e f g i j l m o p q F) (C2 a b F) a b af d c r t e f g i j y z aa l m ab o p ad x ac q ae u w am an ar aq)):=by funext am;funext an;funext ar;funext aq;exact ((Aq ..).trans (Be9 N (Kq N F n) F a b af d c r t e f g i j y z aa l m ab o p ad x ac q ae u w am an ar aq)).trans (by rw [e0])
  have hK:Kq N F (n+1) (H7 a b af d c r t e f g i j y z aa l m ab o p ad x ac q ae u w ak ao aj al)=(Akv N (C1 a b u w d c r t e f g i j l m o p q F) (C2 a b F) a b af d c r t e f g i j y z aa l m ab o p ad x ac q ae u w (fun ak ao aj al=>Kq N F n (H7 a b af d c r t e f g i j y z aa l m ab o p ad x ac q ae u w ak ao aj al)) (fun am an ar aq=>A8z N F (Kq N F n) (Adj a b af d c r t e f g i j y z aa l m ab o p ad x ac q ae u w am an ar aq)) ak ao aj al):=by kernel_rfl
  exact hK.trans (by rw [e0,e1];rfl)
theorem Bfb (N:Nat)  (F:KF R) (ag:Int) (a:List UInt8) (b u w:Int) (d:LA) (c:Nat) (r t:Bool) (e f g i j y z aa l m ab o p:Int) (ah:Nat) (x ac q:Int) (ai:LA):∀ (n ad:Nat) (ap:Int) (ae:LA),Adk N F n (Or ag a b u w d c r t e f g i j y z aa l m ab o p ah x ac q ai ad ap ae)=(Kp N (C1 a b u w d c r t e f g i j l m o p q F) (C2 a b F) ag a b u w d c r t e f g i j y z aa l m ab o p ah x ac q ai n ad ap ae):=by
 intro n
 induction n with
 | zero=>intros;kernel_rfl
 | succ n ih =>
  intro ad ap ae
  have e0:=funext fun ad=>funext fun ap=>funext fun ae=>(show Adk N F n (Or ag a b u w d c r t e f g i j y z aa l m ab o p ah x ac q ai ad ap ae)=_ from ih ad ap ae)
  have e1:=funext fun af=>funext fun ak=>funext fun ao=>funext fun aj=>funext fun al=>(show A81 N F (H7 a b af d c r t e f g i j y z aa l m ab o p ad x ac q ae u w ak ao aj al)=_ from (Au ..).trans (Bfa N F a b af d c r t e f g i j y z aa l m ab o p ad x ac q ae u w N ak ao aj al))
  have hK:Adk N F (n+1) (Or ag a b u w d c r t e f g i j y z aa l m ab o p ah x ac q ai ad ap ae)=(X3 N (C1 a b u w d c r t e f g i j l m o p q F) (C2 a b F) ag a b u w d c r t e f g i j y z aa l m ab o p ah x ac q ai (fun ad ap ae=>Adk N F n (Or ag a b u w d c r t e f g i j y z aa l m ab o p ah x ac q ai ad ap ae)) (fun af ak ao aj al=>A81 N F (H7 a b af d c r t e f g i j y z aa l m ab o p ad x ac q ae u w ak ao aj al)) ad ap ae):=by kernel_rfl
  exact hK.trans (by rw [e0,e1];rfl)
theorem Bfc (N:Nat)  (F:KF R) (ag:Int) (a:List UInt8) (b u w:Int) (d:LA) (c:Nat) (r t:Bool) (e f g i j y z aa l m ab o p:Int) (ah:Nat) (x ac q:Int) (ai:LA):A84 N F (Adl ag a b u w d c r t e f g i j y z aa l m ab o p ah x ac q ai)=(Aql N (C1 a b u w d c r t e f g i j l m o p q F) (C2 a b F) ag a b u w d c r t e f g i j y z aa l m ab o p ah x ac q ai):=by
 have e1:=funext fun ad=>funext fun ap=>funext fun ae=>(show A82 N F (Or ag a b u w d c r t e f g i j y z aa l m ab o p ah x ac q ai ad ap ae)=_ from (Au ..).trans (Bfb N F ag a b u w d c r t e f g i j y z aa l m ab o p ah x ac q ai N ad ap ae))
 have hK:A84 N F (Adl ag a b u w d c r t e f g i j y z aa l m ab o p ah x ac q ai)=(Akw N (C1 a b u w d c r t e f g i j l m o p q F) (C2 a b F) ag a b u w d c r t e f g i j y z aa l m ab o p ah x ac q ai (fun ad ap ae=>A82 N F (Or ag a b u w d c r t e f g i j y z aa l m ab o p ah x ac q ai ad ap ae))):=by kernel_rfl
 exact hK.trans (by rw [e1];rfl)
theorem Aqn (N:Nat) (a:List UInt8) (b u w:Int) (d:LA) (c:Nat) (r t:Bool) (e f g i j au av aw l m ax o p:Int) (ay:LA) (az:Nat) (ba bb:Bool) (bc bd q ag:Int) (F:KF R):Ac Tryz.prog muts (Akx N) Adi N 14 [(.agg [(.str a),(.int .i64 b),(.int .i64 u),(.int .i64 w),(.imm d c 2 r t),(.int .i64 e),(.int .i64 f),(.int .i64 g),(.int .i64 i),(.int .i64 j),(.int .i64 au),(.int .i64 av),(.int .i64 aw),(.int .i64 l),(.int .i64 m),(.int .i64 ax),(.int .i64 o),(.int .i64 p),(.imm ay az 1 ba bb),(.int .i64 bc),(.int .i64 bd),(.int .i64 q)]),(.int .i64 ag)] [] F=(Aqm N a b u w d c r t e f g i j au av aw l m ax o p ay az ba bb bc bd q ag (C1 a b u w d c r t e f g i j l m o p q F) (C2 a b F)):=by
 have e1:=funext fun y=>funext fun z=>funext fun aa=>funext fun ab=>funext fun ah=>funext fun x=>funext fun ac=>funext fun ai=>(show A83 N F (Adl ag a b u w d c r t e f g i j y z aa l m ab o p ah x ac q ai)=_ from (Aq ..).trans (Bfc N F ag a b u w d c r t e f g i j y z aa l m ab o p ah x ac q ai))
 have hK:Ac Tryz.prog muts (Akx N) Adi N 14 [(.agg [(.str a),(.int .i64 b),(.int .i64 u),(.int .i64 w),(.imm d c 2 r t),(.int .i64 e),(.int .i64 f),(.int .i64 g),(.int .i64 i),(.int .i64 j),(.int .i64 au),(.int .i64 av),(.int .i64 aw),(.int .i64 l),(.int .i64 m),(.int .i64 ax),(.int .i64 o),(.int .i64 p),(.imm ay az 1 ba bb),(.int .i64 bc),(.int .i64 bd),(.int .i64 q)]),(.int .i64 ag)] [] F=(A53 N (C1 a b u w d c r t e f g i j l m o p q F) (C2 a b F) (fun y z aa ab ah x ac ai=>A83 N F (Adl ag a b u w d c r t e f g i j y z aa l m ab o p ah x ac q ai)) a b u w d c r t e f g i j au av aw l m ax o p ay az ba bb bc bd q ag):=by kernel_rfl
 rw [A18]
 exact hK.trans (by rw [e1];rfl)
def X4 (N:Nat) (args:List AV) (h:Ak) (k:KF R):Option R :=
 match args,h with
 | [(.agg [(.str a),(.int .i64 b),(.int .i64 u),(.int .i64 w),(.imm d c 2 r t),(.int .i64 e),(.int .i64 f),(.int .i64 g),(.int .i64 i),(.int .i64 j),(.int .i64 au),(.int .i64 av),(.int .i64 aw),(.int .i64 l),(.int .i64 m),(.int .i64 ax),(.int .i64 o),(.int .i64 p),(.imm ay az 1 ba bb),(.int .i64 bc),(.int .i64 bd),(.int .i64 q)]),(.int .i64 ag)],[]=>(Aqm N a b u w d c r t e f g i j au av aw l m ax o p ay az ba bb bc bd q ag (C1 a b u w d c r t e f g i j l m o p q k) (C2 a b k))
 | _,_=>none
def A85 (N:Nat):Tw:=⟨X4 N,fun args h k=>by
 unfold X4;split
 exact twE (Aqn ..) (Aqn ..)
 rfl⟩
theorem Bnz (N:Nat):Az Tryz.prog 14 (A85 N):=fun args h res ch hh=>by
 change X4 N args h (fun v ch=>some (v,ch))=_ at hh
 unfold X4 at hh;split at hh
 exact Aa (T:=Akx N) ⟨Bny N,Bsb N,X1 N,trivial⟩ follows ((Aqn ..).trans hh)
 cases hh
end
end Gx

namespace Gx
open Go Go.Proofs
set_option maxRecDepth 100000
noncomputable section
variable {R:Type}
def Adm (N:Nat)  (r0:Int→Int→Int→Int→Int→Int→Int→Int→Int→Int→Int→Int→Int→Int→Int→Int→Int→Int→Option R) (r1:Nat→Nat→LA→LA→Option R) (z aa:Int) (w:LA) (x:List UInt8) (y a b:Int) (ag:Nat) (c d e f g i j l m n o p q:Int) (ah:Nat) (r t u:Int) (ai ab:LA) (ad:Nat) (af ae:Bool) (ac:Nat)   (ak:LA):Option R :=
 (cond (aa==(20:Int)) (cond ((Nat.ble (ah+1) 140737488355328)&&(Nat.ble ((ah+1)*8) 140737488355328)) (r1 ag (ah+1) ak ((List.take (ah*1) ai)++[(.int .i64 z)])) none) (r1 ag ah ak ai))
def Ag4 (N:Nat)  (r0:Int→Int→Int→Int→Int→Int→Int→Int→Int→Int→Int→Int→Int→Int→Int→Int→Int→Int→Option R) (r1:Nat→Nat→LA→LA→Option R) (z aa:Int) (w:LA) (x:List UInt8) (y a b:Int) (ag:Nat) (c d e f g i j l m n o p q:Int) (ah:Nat) (r t u:Int) (ai ab:LA) (ad:Nat) (af ae:Bool) (ac:Nat) (ak:LA):Option R:=(Adm N r0 r1 z aa w x y a b ag c d e f g i j l m n o p q ah r t u ai ab ad af ae ac ak)
def Adn (N:Nat)  (r0:Int→Int→Int→Int→Int→Int→Int→Int→Int→Int→Int→Int→Int→Int→Int→Int→Int→Int→Option R) (r1:Nat→Nat→LA→LA→Option R) (z aa:Int) (w:LA) (x:List UInt8) (y a b:Int) (ag:Nat) (c d e f g i j l m n o p q:Int) (ah:Nat) (r t u:Int) (ai ab:LA) (ad:Nat) (af ae:Bool) (ac:Nat)  (q2:LA→Option R) (aj:LA):Option R :=
 (cond ((aa==(19:Int))==true) (cond (cond true (decide (((ag:Nat):Int)>(0:Int))) false) (cond (Aj (0:Int) ag) (rdI .i64 aj fun ao=>(cond (Aj (0:Int) ag) (cond ((Nat.beq 1 1)&&((Nat.ble 1 (List.length aj))&&(!false))) (q2 (List.set aj 0 (.int .i64 (IntKind.wrap .i64 (ao - z))))) none) none)) none) (q2 aj)) (q2 aj))
def Ag5 (N:Nat)  (r0:Int→Int→Int→Int→Int→Int→Int→Int→Int→Int→Int→Int→Int→Int→Int→Int→Int→Int→Option R) (r1:Nat→Nat→LA→LA→Option R) (z aa:Int) (w:LA) (x:List UInt8) (y a b:Int) (ag:Nat) (c d e f g i j l m n o p q:Int) (ah:Nat) (r t u:Int) (ai ab:LA) (ad:Nat) (af ae:Bool) (ac:Nat) (aj:LA):Option R:=(Adn N r0 r1 z aa w x y a b ag c d e f g i j l m n o p q ah r t u ai ab ad af ae ac (fun ak=>(Ag4 N r0 r1 z aa w x y a b ag c d e f g i j l m n o p q ah r t u ai ab ad af ae ac ak)) aj)
def Ado (N:Nat)  (r0:Int→Int→Int→Int→Int→Int→Int→Int→Int→Int→Int→Int→Int→Int→Int→Int→Int→Int→Option R) (r1:Nat→Nat→LA→LA→Option R) (z aa:Int) (ab w:LA) (x:List UInt8) (y a b c d e f g i j l m n o p q r t u:Int) (ad:Nat) (af ae:Bool) (ac:Nat)  (q1:LA→Option R) (al:Bool) (ai:LA) (ag ah:Nat):Option R :=
 (cond al (cond (Aj (IntKind.wrap .i64 (((ag:Nat):Int) - (1:Int))) ag) (rdI .i64 (List.drop ((0+((Int.toNat (IntKind.wrap .i64 (((ag:Nat):Int) - (1:Int))))*2))+1) ab) fun ap=>(cond (Aj (IntKind.wrap .i64 (((ag:Nat):Int) - (1:Int))) ag) (cond ((Nat.beq 1 1)&&((Nat.ble (((0+((Int.toNat (IntKind.wrap .i64 (((ag:Nat):Int) - (1:Int))))*2))+1)+1) (List.length ab))&&(!false))) (q1 (List.set ab ((0+((Int.toNat (IntKind.wrap .i64 (((ag:Nat):Int) - (1:Int))))*2))+1) (.int .i64 (IntKind.wrap .i64 (ap - z))))) none) none)) none) (q1 ab))
def Ag6 (N:Nat)  (r0:Int→Int→Int→Int→Int→Int→Int→Int→Int→Int→Int→Int→Int→Int→Int→Int→Int→Int→Option R) (r1:Nat→Nat→LA→LA→Option R) (z aa:Int) (ab w:LA) (x:List UInt8) (y a b c d e f g i j l m n o p q r t u:Int) (ad:Nat) (af ae:Bool) (ac:Nat) (al:Bool) (ai:LA) (ag ah:Nat):Option R:=(Ado N r0 r1 z aa ab w x y a b c d e f g i j l m n o p q r t u ad af ae ac (fun aj=>(Ag5 N r0 r1 z aa w x y a b ag c d e f g i j l m n o p q ah r t u ai ab ad af ae ac aj)) al ai ag ah)
def Aqo (N:Nat) (r0:Int→Int→Int→Int→Int→Int→Int→Int→Int→Int→Int→Int→Int→Int→Int→Int→Int→Int→Option R) (r1:Nat→Nat→LA→LA→Option R) (q0:Int→Bool→LA→Nat→Nat→Option R) (x:List UInt8) (y a b:Int) (ab:LA) (ad:Nat) (af ae:Bool) (c d e f g i j l m n o p q:Int) (ac:Nat) (r t u am z:Int) (w:LA):Option R :=
 (Aw N am 22 (fun aa=>(cond (decide (aa<(18:Int))) (cond (Aj aa 18) (cond (Nat.beq (0+((Int.toNat aa)*1)) 0) (r0 (IntKind.wrap .i64 (a - z)) b c d e f g i j l m n o p q r t u) (cond (Nat.beq (0+((Int.toNat aa)*1)) 1) (r0 a (IntKind.wrap .i64 (b - z)) c d e f g i j l m n o p q r t u) (cond (Nat.beq (0+((Int.toNat aa)*1)) 2) (r0 a b (IntKind.wrap .i64 (c - z)) d e f g i j l m n o p q r t u) (cond (Nat.beq (0+((Int.toNat aa)*1)) 3) (r0 a b c (IntKind.wrap .i64 (d - z)) e f g i j l m n o p q r t u) (cond (Nat.beq (0+((Int.toNat aa)*1)) 4) (r0 a b c d (IntKind.wrap .i64 (e - z)) f g i j l m n o p q r t u) (cond (Nat.beq (0+((Int.toNat aa)*1)) 5) (r0 a b c d e (IntKind.wrap .i64 (f - z)) g i j l m n o p q r t u) (cond (Nat.beq (0+((Int.toNat aa)*1)) 6) (r0 a b c d e f (IntKind.wrap .i64 (g - z)) i j l m n o p q r t u) (cond (Nat.beq (0+((Int.toNat aa)*1)) 7) (r0 a b c d e f g (IntKind.wrap .i64 (i - z)) j l m n o p q r t u) (cond (Nat.beq (0+((Int.toNat aa)*1)) 8) (r0 a b c d e f g i (IntKind.wrap .i64 (j - z)) l m n o p q r t u) (cond (Nat.beq (0+((Int.toNat aa)*1)) 9) (r0 a b c d e f g i j (IntKind.wrap .i64 (l - z)) m n o p q r t u) (cond (Nat.beq (0+((Int.toNat aa)*1)) 10) (r0 a b c d e f g i j l (IntKind.wrap .i64 (m - z)) n o p q r t u) (cond (Nat.beq (0+((Int.toNat aa)*1)) 11) (r0 a b c d e f g i j l m (IntKind.wrap .i64 (n - z)) o p q r t u) (cond (Nat.beq (0+((Int.toNat aa)*1)) 12) (r0 a b c d e f g i j l m n (IntKind.wrap .i64 (o - z)) p q r t u) (cond (Nat.beq (0+((Int.toNat aa)*1)) 13) (r0 a b c d e f g i j l m n o (IntKind.wrap .i64 (p - z)) q r t u) (cond (Nat.beq (0+((Int.toNat aa)*1)) 14) (r0 a b c d e f g i j l m n o p (IntKind.wrap .i64 (q - z)) r t u) (cond (Nat.beq (0+((Int.toNat aa)*1)) 15) (r0 a b c d e f g i j l m n o p q (IntKind.wrap .i64 (r - z)) t u) (cond (Nat.beq (0+((Int.toNat aa)*1)) 16) (r0 a b c d e f g i j l m n o p q r (IntKind.wrap .i64 (t - z)) u) (cond (Nat.beq (0+((Int.toNat aa)*1)) 17) (r0 a b c d e f g i j l m n o p q r t (IntKind.wrap .i64 (u - z))) none)))))))))))))))))) none) (cond ((!ae)||(Bu ab)) (cond ((Nat.ble (0+ad) 140737488355328)&&(Nat.ble ((0+ad)*16) 140737488355328)) (cond ((Nat.ble (0+ac) 140737488355328)&&(Nat.ble ((0+ac)*8) 140737488355328)) (cond ((aa==(18:Int))==true) (q0 aa (cond true (decide ((((0+ad):Nat):Int)>(0:Int))) false) (List.take (ac*1) w) (0+ad) (0+ac)) (q0 aa false (List.take (ac*1) w) (0+ad) (0+ac))) none) none) none))))
def Aqp (N:Nat) (x:List UInt8) (y a b:Int) (ab:LA) (ad:Nat) (af ae:Bool) (c d e f g i j l m n o p q:Int) (ac:Nat) (r t u am z:Int) (w:LA) (r0:Int→Int→Int→Int→Int→Int→Int→Int→Int→Int→Int→Int→Int→Int→Int→Int→Int→Int→Option R) (r1:Nat→Nat→LA→LA→Option R):Option R:=(Aqo N r0 r1 (fun aa al ai ag ah=>(Ag6 N r0 r1 z aa ab w x y a b c d e f g i j l m n o p q r t u ad af ae ac al ai ag ah)) x y a b ab ad af ae c d e f g i j l m n o p q ac r t u am z w)
def Uf:=(Al (@Aqp R)).1
theorem A19:@Uf R=@Aqp R:=(Al _).2
def Lz:Hints:={ H:=(hS (hR [1,2,3,6]) (hS (hR [1,2,3,6,7]) (hS (hR [2,3,6,7,8]) (hS (hS (hR [2,3,6,7,8,36]) (hN [2,3,6,7,8] (hS (hR [3,6]) (hS (hR [6]) hL)) hL)) (hS (hR [2,3,6,7,8]) (hS (hR [2,3,6,7,8]) (hJ (hJ (hR [2,3,6,7,8,66]) (hN [2,3,6,7,8] (hR [2,3,6,7,8]) hL)) (hJ (hS (hR [2,3,6,7,8,90]) (hN [2,3,6,7,8] (hR [2,3,6,7,8]) hL)) (hS (hS (hR [2,3,6,104]) (hN [3,6] (hR [3,6]) hL)) (hS (hR [6]) hL)))))))))),nils:=[],modes:=[],free:=[],cob:=[] }
def Np (N:Nat):List (Nat×Tw):=[(12,P5 N)]
def Dl (N:Nat):Env:=mkE 112 Lz (Np N)
def A2a (N:Nat) (F:KF R):=As (Dl N) Tryz.f13 Lz.modes [100000] F
def E9 (N:Nat) (F:KF R):=atF (Dl N) [100000] N Tryz.f13 Lz (A2a N F)
def Ci (x:List UInt8) (y:Int) (ab:LA) (ad:Nat) (af ae:Bool) (ac:Nat) (w:LA) (F:KF R):Int→Int→Int→Int→Int→Int→Int→Int→Int→Int→Int→Int→Int→Int→Int→Int→Int→Int→Option R:=(fun aq ar au av aw ax ay az ba bb bc bd be bf bg bh bi bj=>F (.agg [(.str x),(.int .i64 y),(.int .i64 aq),(.int .i64 ar),(.imm ab ad 2 af ae),(.int .i64 au),(.int .i64 av),(.int .i64 aw),(.int .i64 ax),(.int .i64 ay),(.int .i64 az),(.int .i64 ba),(.int .i64 bb),(.int .i64 bc),(.int .i64 bd),(.int .i64 be),(.int .i64 bf),(.int .i64 bg),(.own 100000 0 ac),(.int .i64 bh),(.int .i64 bi),(.int .i64 bj)]) [(100000,⟨false,false,true,false,1,w,false⟩)])
def Cj (x:List UInt8) (y a b c d e f g i j l m n o p q r t u:Int) (w:LA) (F:KF R):Nat→Nat→LA→LA→Option R:=(fun bk bl bm bn=>F (.agg [(.str x),(.int .i64 y),(.int .i64 a),(.int .i64 b),(.own 300000 0 bk),(.int .i64 c),(.int .i64 d),(.int .i64 e),(.int .i64 f),(.int .i64 g),(.int .i64 i),(.int .i64 j),(.int .i64 l),(.int .i64 m),(.int .i64 n),(.int .i64 o),(.int .i64 p),(.int .i64 q),(.own 300001 0 bl),(.int .i64 r),(.int .i64 t),(.int .i64 u)]) [(100000,⟨false,false,true,false,1,w,false⟩),(300000,⟨false,false,true,false,2,bm,false⟩),(300001,⟨false,false,true,false,1,bn,false⟩)])
def L0 (z aa:Int) (w:LA) (x:List UInt8) (y a b:Int) (ag:Nat) (c d e f g i j l m n o p q:Int) (ah:Nat) (r t u:Int) (ai ab:LA) (ad:Nat) (af ae:Bool) (ac:Nat) (ak:LA):St:={ s:=[(2,(.int .i64 z)),(3,(.optr 300000 0)),(6,(.optr 300001 0)),(7,(.own 300002 0 18)),(8,(.int .i64 aa))],h:=[(100000,⟨false,false,true,false,1,w,false⟩),(300000,⟨false,false,false,false,0,[(.str x),(.int .i64 y),(.int .i64 a),(.int .i64 b),(.own 300003 0 ag),(.int .i64 c),(.int .i64 d),(.int .i64 e),(.int .i64 f),(.int .i64 g),(.int .i64 i),(.int .i64 j),(.int .i64 l),(.int .i64 m),(.int .i64 n),(.int .i64 o),(.int .i64 p),(.int .i64 q),(.own 300004 0 ah),(.int .i64 r),(.int .i64 t),(.int .i64 u)],false⟩),(300001,⟨false,false,false,false,0,[(.str ([]:List UInt8)),(.int .i64 0),(.int .i64 0),(.int .i64 0),.nsl,(.int .i64 0),(.int .i64 0),(.int .i64 0),(.int .i64 0),(.int .i64 0),(.int .i64 0),(.int .i64 0),(.int .i64 0),(.int .i64 0),(.int .i64 0),(.int .i64 0),(.int .i64 0),(.int .i64 0),.nsl,(.int .i64 0),(.int .i64 0),(.int .i64 0)],false⟩),(300002,⟨false,false,false,false,1,[(.optr 300000 2),(.optr 300000 3),(.optr 300000 5),(.optr 300000 6),(.optr 300000 7),(.optr 300000 8),(.optr 300000 9),(.optr 300000 10),(.optr 300000 11),(.optr 300000 12),(.optr 300000 13),(.optr 300000 14),(.optr 300000 15),(.optr 300000 16),(.optr 300000 17),(.optr 300000 19),(.optr 300000 20),(.optr 300000 21)],false⟩),(300003,⟨false,false,true,false,2,ak,false⟩),(300004,⟨false,false,true,false,1,ai,false⟩)] }
def Ag7 (N:Nat) (F:KF R):St→Option R:=Bh (Dl N) [100000] N (E9 N F [1,1,1,1,1,1,1,1] [])
def Ag8 (N:Nat) (F:KF R):St→Option R:=Bl (Dl N) [100000] N (E9 N F [1,1,1,1,1,1,1,1] [])
def L5 (z aa:Int) (w:LA) (x:List UInt8) (y a b:Int) (ag:Nat) (c d e f g i j l m n o p q:Int) (ah:Nat) (r t u:Int) (ai ab:LA) (ad:Nat) (af ae:Bool) (ac:Nat) (aj:LA):St:={ s:=[(2,(.int .i64 z)),(3,(.optr 300000 0)),(6,(.optr 300001 0)),(7,(.own 300002 0 18)),(8,(.int .i64 aa))],h:=[(100000,⟨false,false,true,false,1,w,false⟩),(300000,⟨false,false,false,false,0,[(.str x),(.int .i64 y),(.int .i64 a),(.int .i64 b),(.own 300003 0 ag),(.int .i64 c),(.int .i64 d),(.int .i64 e),(.int .i64 f),(.int .i64 g),(.int .i64 i),(.int .i64 j),(.int .i64 l),(.int .i64 m),(.int .i64 n),(.int .i64 o),(.int .i64 p),(.int .i64 q),(.own 300004 0 ah),(.int .i64 r),(.int .i64 t),(.int .i64 u)],false⟩),(300001,⟨false,false,false,false,0,[(.str ([]:List UInt8)),(.int .i64 0),(.int .i64 0),(.int .i64 0),.nsl,(.int .i64 0),(.int .i64 0),(.int .i64 0),(.int .i64 0),(.int .i64 0),(.int .i64 0),(.int .i64 0),(.int .i64 0),(.int .i64 0),(.int .i64 0),(.int .i64 0),(.int .i64 0),(.int .i64 0),.nsl,(.int .i64 0),(.int .i64 0),(.int .i64 0)],false⟩),(300002,⟨false,false,false,false,1,[(.optr 300000 2),(.optr 300000 3),(.optr 300000 5),(.optr 300000 6),(.optr 300000 7),(.optr 300000 8),(.optr 300000 9),(.optr 300000 10),(.optr 300000 11),(.optr 300000 12),(.optr 300000 13),(.optr 300000 14),(.optr 300000 15),(.optr 300000 16),(.optr 300000 17),(.optr 300000 19),(.optr 300000 20),(.optr 300000 21)],false⟩),(300003,⟨false,false,true,false,2,aj,false⟩),(300004,⟨false,false,true,false,1,ai,false⟩)] }
def Ag9 (N:Nat) (F:KF R):St→Option R:=Bh (Dl N) [100000] N (E9 N F [1,1,1,1,1,1,1] [])
def Aha (N:Nat) (F:KF R):St→Option R:=Bl (Dl N) [100000] N (E9 N F [1,1,1,1,1,1,1] [])
def L6 (z aa:Int) (ab w:LA) (x:List UInt8) (y a b c d e f g i j l m n o p q r t u:Int) (ad:Nat) (af ae:Bool) (ac:Nat) (al:Bool) (ai:LA) (ag ah:Nat):St:={ s:=[(2,(.int .i64 z)),(3,(.optr 300000 0)),(6,(.optr 300001 0)),(7,(.own 300002 0 18)),(8,(.int .i64 aa)),(66,(.bool al))],h:=[(800,⟨false,false,true,false,2,ab,false⟩),(880,⟨false,false,true,false,1,ai,false⟩),(100000,⟨false,false,true,false,1,w,false⟩),(300000,⟨false,false,false,false,0,[(.str x),(.int .i64 y),(.int .i64 a),(.int .i64 b),(.own 800 0 ag),(.int .i64 c),(.int .i64 d),(.int .i64 e),(.int .i64 f),(.int .i64 g),(.int .i64 i),(.int .i64 j),(.int .i64 l),(.int .i64 m),(.int .i64 n),(.int .i64 o),(.int .i64 p),(.int .i64 q),(.own 880 0 ah),(.int .i64 r),(.int .i64 t),(.int .i64 u)],false⟩),(300001,⟨false,false,false,false,0,[(.str ([]:List UInt8)),(.int .i64 0),(.int .i64 0),(.int .i64 0),.nsl,(.int .i64 0),(.int .i64 0),(.int .i64 0),(.int .i64 0),(.int .i64 0),(.int .i64 0),(.int .i64 0),(.int .i64 0),(.int .i64 0),(.int .i64 0),(.int .i64 0),(.int .i64 0),(.int .i64 0),.nsl,(.int .i64 0),(.int .i64 0),(.int .i64 0)],false⟩),(300002,⟨false,false,false,false,1,[(.optr 300000 2),(.optr 300000 3),(.optr 300000 5),(.optr 300000 6),(.optr 300000 7),(.optr 300000 8),(.optr 300000 9),(.optr 300000 10),(.optr 300000 11),(.optr 300000 12),(.optr 300000 13),(.optr 300000 14),(.optr 300000 15),(.optr 300000 16),(.optr 300000 17),(.optr 300000 19),(.optr 300000 20),(.optr 300000 21)],false⟩)] }
def Ahb (N:Nat) (F:KF R):St→Option R:=Bh (Dl N) [100000] N (E9 N F [1,1,1,1,1,1,0,1] [])
def Ahc (N:Nat) (F:KF R):St→Option R:=Bl (Dl N) [100000] N (E9 N F [1,1,1,1,1,1,0,1] [])
theorem Auc (N:Nat)  (F:KF R) (z aa:Int) (w:LA) (x:List UInt8) (y a b:Int) (ag:Nat) (c d e f g i j l m n o p q:Int) (ah:Nat) (r t u:Int) (ai ab:LA) (ad:Nat) (af ae:Bool) (ac:Nat):∀ (ak:LA),Ag8 N F (L0 z aa w x y a b ag c d e f g i j l m n o p q ah r t u ai ab ad af ae ac ak)=(Ag4 N (Ci x y ab ad af ae ac w F) (Cj x y a b c d e f g i j l m n o p q r t u w F) z aa w x y a b ag c d e f g i j l m n o p q ah r t u ai ab ad af ae ac ak):=by
 intro ak
 have hK:Ag8 N F (L0 z aa w x y a b ag c d e f g i j l m n o p q ah r t u ai ab ad af ae ac ak)=(Adm N (Ci x y ab ad af ae ac w F) (Cj x y a b c d e f g i j l m n o p q r t u w F) z aa w x y a b ag c d e f g i j l m n o p q ah r t u ai ab ad af ae ac ak):=by kernel_rfl
 exact hK
theorem Aud (N:Nat)  (F:KF R) (z aa:Int) (w:LA) (x:List UInt8) (y a b:Int) (ag:Nat) (c d e f g i j l m n o p q:Int) (ah:Nat) (r t u:Int) (ai ab:LA) (ad:Nat) (af ae:Bool) (ac:Nat):∀ (aj:LA),Aha N F (L5 z aa w x y a b ag c d e f g i j l m n o p q ah r t u ai ab ad af ae ac aj)=(Ag5 N (Ci x y ab ad af ae ac w F) (Cj x y a b c d e f g i j l m n o p q r t u w F) z aa w x y a b ag c d e f g i j l m n o p q ah r t u ai ab ad af ae ac aj):=by
 intro aj
 have e1:=funext fun ak=>(show Ag7 N F (L0 z aa w x y a b ag c d e f g i j l m n o p q ah r t u ai ab ad af ae ac ak)=_ from (Aq ..).trans (Auc N F z aa w x y a b ag c d e f g i j l m n o p q ah r t u ai ab ad af ae ac ak))
 have hK:Aha N F (L5 z aa w x y a b ag c d e f g i j l m n o p q ah r t u ai ab ad af ae ac aj)=(Adn N (Ci x y ab ad af ae ac w F) (Cj x y a b c d e f g i j l m n o p q r t u w F) z aa w x y a b ag c d e f g i j l m n o p q ah r t u ai ab ad af ae ac (fun ak=>Ag7 N F (L0 z aa w x y a b ag c d e f g i j l m n o p q ah r t u ai ab ad af ae ac ak)) aj):=by kernel_rfl
 exact hK.trans (by rw [e1];rfl)
theorem Aue (N:Nat)  (F:KF R) (z aa:Int) (ab w:LA) (x:List UInt8) (y a b c d e f g i j l m n o p q r t u:Int) (ad:Nat) (af ae:Bool) (ac:Nat):∀ (al:Bool) (ai:LA) (ag ah:Nat),Ahc N F (L6 z aa ab w x y a b c d e f g i j l m n o p q r t u ad af ae ac al ai ag ah)=(Ag6 N (Ci x y ab ad af ae ac w F) (Cj x y a b c d e f g i j l m n o p q r t u w F) z aa ab w x y a b c d e f g i j l m n o p q r t u ad af ae ac al ai ag ah):=by
 intro al ai ag ah
 have e1:=funext fun aj=>(show Ag9 N F (L5 z aa w x y a b ag c d e f g i j l m n o p q ah r t u ai ab ad af ae ac aj)=_ from (Aq ..).trans (Aud N F z aa w x y a b ag c d e f g i j l m n o p q ah r t u ai ab ad af ae ac aj))
 have hK:Ahc N F (L6 z aa ab w x y a b c d e f g i j l m n o p q r t u ad af ae ac al ai ag ah)=(Ado N (Ci x y ab ad af ae ac w F) (Cj x y a b c d e f g i j l m n o p q r t u w F) z aa ab w x y a b c d e f g i j l m n o p q r t u ad af ae ac (fun aj=>Ag9 N F (L5 z aa w x y a b ag c d e f g i j l m n o p q ah r t u ai ab ad af ae ac aj)) al ai ag ah):=by kernel_rfl
 exact hK.trans (by rw [e1];rfl)
theorem So (N:Nat) (x:List UInt8) (y a b:Int) (ab:LA) (ad:Nat) (af ae:Bool) (c d e f g i j l m n o p q:Int) (ac:Nat) (r t u am z:Int) (w:LA) (F:KF R):Ac Tryz.prog muts (Np N) Lz N 13 [(.agg [(.str x),(.int .i64 y),(.int .i64 a),(.int .i64 b),(.imm ab ad 2 af ae),(.int .i64 c),(.int .i64 d),(.int .i64 e),(.int .i64 f),(.int .i64 g),(.int .i64 i),(.int .i64 j),(.int .i64 l),(.int .i64 m),(.int .i64 n),(.int .i64 o),(.int .i64 p),(.int .i64 q),(.own 100000 0 ac),(.int .i64 r),(.int .i64 t),(.int .i64 u)]),(.int .i64 am),(.int .i64 z)] [(100000,⟨false,false,true,false,1,w,false⟩)] F=(Uf N x y a b ab ad af ae c d e f g i j l m n o p q ac r t u am z w (Ci x y ab ad af ae ac w F) (Cj x y a b c d e f g i j l m n o p q r t u w F)):=by
 have e1:=funext fun aa=>funext fun al=>funext fun ai=>funext fun ag=>funext fun ah=>(show Ahb N F (L6 z aa ab w x y a b c d e f g i j l m n o p q r t u ad af ae ac al ai ag ah)=_ from (Aq ..).trans (Aue N F z aa ab w x y a b c d e f g i j l m n o p q r t u ad af ae ac al ai ag ah))
 have hK:Ac Tryz.prog muts (Np N) Lz N 13 [(.agg [(.str x),(.int .i64 y),(.int .i64 a),(.int .i64 b),(.imm ab ad 2 af ae),(.int .i64 c),(.int .i64 d),(.int .i64 e),(.int .i64 f),(.int .i64 g),(.int .i64 i),(.int .i64 j),(.int .i64 l),(.int .i64 m),(.int .i64 n),(.int .i64 o),(.int .i64 p),(.int .i64 q),(.own 100000 0 ac),(.int .i64 r),(.int .i64 t),(.int .i64 u)]),(.int .i64 am),(.int .i64 z)] [(100000,⟨false,false,true,false,1,w,false⟩)] F=(Aqo N (Ci x y ab ad af ae ac w F) (Cj x y a b c d e f g i j l m n o p q r t u w F) (fun aa al ai ag ah=>Ahb N F (L6 z aa ab w x y a b c d e f g i j l m n o p q r t u ad af ae ac al ai ag ah)) x y a b ab ad af ae c d e f g i j l m n o p q ac r t u am z w):=by kernel_rfl
 rw [A19]
 exact hK.trans (by rw [e1];rfl)
def Aqq (N:Nat) (r0:LA→Option R)  :Option R :=
 (r0 [(.str ([]:List UInt8)),(.int .i64 0),(.int .i64 10),(.int .i64 40),(.imm [(.int .i64 20),(.int .i64 3),(.int .i64 10),(.int .i64 5)] 2 2 false false),(.int .i64 0),(.int .i64 5),(.int .i64 10),(.int .i64 15),(.int .i64 15),(.int .i64 0),(.int .i64 0),(.int .i64 0),(.int .i64 0),(.int .i64 0),(.int .i64 0),(.int .i64 0),(.int .i64 0),.nsl,(.int .i64 2),(.int .i64 1),(.int .i64 12)])
def Aqr (N:Nat)  (r0:LA→Option R):Option R:=(Aqq N r0)
def My:=(Al (@Aqr R)).1
theorem Adp:@My R=@Aqr R:=(Al _).2
def Ahd:Hints:={ H:=(hS (hR [0]) (hS (hR [0]) hL)),nils:=[],modes:=[(3,0)],free:=[],cob:=[] }
def V4 (N:Nat):List (Nat×Tw):=[]
def Sp  (F:KF R):LA→Option R:=(fun b=>F (.pagg b false) [])
theorem Ss (N:Nat)  (F:KF R):Ac Tryz.prog muts (V4 N) Ahd N 46 [] [] F=(My N (Sp F)):=by
 have hK:Ac Tryz.prog muts (V4 N) Ahd N 46 [] [] F=(Aqq N (Sp F)):=by kernel_rfl
 rw [Adp]
 exact hK
def J9 (N:Nat) (args:List AV) (h:Ak) (k:KF R):Option R :=
 match args,h with
 | [],[]=>(My N (Sp k))
 | _,_=>none
def Ahe (N:Nat):Tw:=⟨J9 N,fun args h k=>by
 unfold J9;split
 exact twE (Ss ..) (Ss ..)
 rfl⟩
theorem A55 (N:Nat):Az Tryz.prog 46 (Ahe N):=fun args h res a hh=>by
 change J9 N args h (fun v a=>some (v,a))=_ at hh
 unfold J9 at hh;split at hh
 exact Aa (T:=V4 N) trivial follows ((Ss ..).trans hh)
 cases hh
def P6 (N:Nat)  (r0:Bool→Option R) (b c:Int) (d:LA) (a:Nat) (e f:Bool) (k0:Int→Int→Option R)  (i g:Int):Option R :=
 (cond (decide (g<i)) (cond (Aj g a) (rdI .i64 (List.drop ((Int.toNat g)*1) d) fun j=>(cond ((decide (j<b))==false) (cond (cond false true (decide (j>c))) (r0 false) (k0 i (IntKind.wrap .i64 (g+(1:Int))))) (r0 false))) none) (r0 true))
def Jm (N:Nat)  (r0:Bool→Option R) (b c:Int) (d:LA) (a:Nat) (e f:Bool):Nat→Int→Int→Option R
 | 0,_,_=>none
 | n+1,i,g=>(P6 N r0 b c d a e f (Jm N r0 b c d a e f n) i g)
def Aqs (N:Nat) (r0:Bool→Option R) (q0:Int→Int→Option R) (b c:Int) (d:LA) (a:Nat) (e f:Bool):Option R :=
 (q0 ((a:Nat):Int) 0)
def Aqt (N:Nat) (b c:Int) (d:LA) (a:Nat) (e f:Bool) (r0:Bool→Option R):Option R:=(Aqs N r0 (fun i g=>(Jm N r0 b c d a e f N i g)) b c d a e f)
def Cn:=(Al (@Aqt R)).1
theorem Aqu:@Cn R=@Aqt R:=(Al _).2
def Ug:Hints:={ H:=(hS (hR [0,1,2]) (hS (hS (hR [0,1,9,10,11]) (hS (hN [0,1,9,10,11] (hS (hR [0,1,9,10,11,12]) (hS (hN [0,1,9,10,11] hL hL) (hS (hN [0,1,9,10,11] (hS (hR [0,1,8,9,10,11]) (hS (hR [0,1,9,10,11,22]) (hN [0,1,9,10,11] (hS (hR [6]) hL) hL))) hL) (hR [0,1,9,10,11])))) hL) hL)) (hS (hR [6]) hL))),nils:=[],modes:=[],free:=[],cob:=[] }
def X5 (N:Nat):List (Nat×Tw):=[]
def X6 (N:Nat):Env:=mkE 24 Ug (X5 N)
def Bfd (N:Nat) (F:KF R):=As (X6 N) Tryz.f47 Ug.modes [] F
def Avv (N:Nat) (F:KF R):=atF (X6 N) [] N Tryz.f47 Ug (Bfd N F)
def Mz  (F:KF R):Bool→Option R:=(fun m=>F (.bool m) [])
def Jn (b c:Int) (d:LA) (a:Nat) (e f:Bool) (i g:Int):St:={ s:=[(0,(.int .i64 b)),(1,(.int .i64 c)),(9,(.imm d a 1 e f)),(10,(.int .i64 i)),(11,(.int .i64 g))],h:=[] }
def Avw (N:Nat) (F:KF R):St→Option R:=Bx (X6 N) [] N (Avv N F [1,0,1,0] []) N
def Uh (N:Nat) (F:KF R) (n:Nat):St→Option R:=A9 (X6 N) [] N (Avv N F [1,0,1,0] []) n
theorem A56 (N:Nat)  (F:KF R) (b c:Int) (d:LA) (a:Nat) (e f:Bool):∀ (n:Nat) (i g:Int),Uh N F n (Jn b c d a e f i g)=(Jm N (Mz F) b c d a e f n i g):=by
 intro n
 induction n with
 | zero=>intros;kernel_rfl
 | succ n ih =>
  intro i g
  have e0:=funext fun i=>funext fun g=>(show Uh N F n (Jn b c d a e f i g)=_ from ih i g)
  have hK:Uh N F (n+1) (Jn b c d a e f i g)=(P6 N (Mz F) b c d a e f (fun i g=>Uh N F n (Jn b c d a e f i g)) i g):=by kernel_rfl
  exact hK.trans (by rw [e0];rfl)
theorem Afj (N:Nat) (b c:Int) (d:LA) (a:Nat) (e f:Bool) (F:KF R):Ac Tryz.prog muts (X5 N) Ug N 47 [(.int .i64 b),(.int .i64 c),(.imm d a 1 e f)] [] F=(Cn N b c d a e f (Mz F)):=by
 have e1:=funext fun i=>funext fun g=>(show Avw N F (Jn b c d a e f i g)=_ from (Au ..).trans (A56 N F b c d a e f N i g))
 have hK:Ac Tryz.prog muts (X5 N) Ug N 47 [(.int .i64 b),(.int .i64 c),(.imm d a 1 e f)] [] F=(Aqs N (Mz F) (fun i g=>Avw N F (Jn b c d a e f i g)) b c d a e f):=by kernel_rfl
 rw [Aqu]
 exact hK.trans (by rw [e1];rfl)
def P7 (N:Nat) (args:List AV) (h:Ak) (k:KF R):Option R :=
 match args,h with
 | [(.int .i64 b),(.int .i64 c),(.imm d a 1 e f)],[]=>(Cn N b c d a e f (Mz k))
 | _,_=>none
def Ui (N:Nat):Tw:=⟨P7 N,fun args h k=>by
 unfold P7;split
 exact twE (Afj ..) (Afj ..)
 rfl⟩
theorem Afk (N:Nat):Az Tryz.prog 47 (Ui N):=fun args h res l hh=>by
 change P7 N args h (fun v l=>some (v,l))=_ at hh
 unfold P7 at hh;split at hh
 exact Aa (T:=X5 N) trivial follows ((Afj ..).trans hh)
 cases hh
def Aky (N:Nat)  (r0:Bool→Option R) (b:Bool) (a:LA)   :Option R :=
 (rdI .i64 (List.drop 20 a) fun j=>(cond ((decide (j<(1:Int)))==false) (rdI .i64 (List.drop 20 a) fun l=>(cond (cond false true (decide (l>(48:Int)))) (r0 false) (rdI .i64 (List.drop 19 a) fun m=>(cond ((m != (1:Int))==false) (rdI .i64 (List.drop 20 a) fun o=>(rdI .i64 (List.drop 12 a) fun p=>(r0 (cond false true (decide (o≤p)))))) (r0 true))))) (r0 false)))
def Adq (N:Nat)  (r0:Bool→Option R) (b:Bool) (a:LA) :Option R:=(Aky N r0 b a)
def Akz (N:Nat)  (r0:Bool→Option R) (d e f g:Int) (b:Bool) (a:LA) (k0:Int→Option R) (q1:Option R) (c:Int):Option R :=
 (cond (decide (c<(4:Int))) (cond (Aj c 4) (cond (Nat.beq ((Int.toNat c)*1) 0) (cond ((decide (d<(0:Int)))==false) (cond (cond false true (decide (d>(24:Int)))) (r0 false) (k0 (IntKind.wrap .i64 (c+(1:Int))))) (r0 false)) (cond (Nat.beq ((Int.toNat c)*1) 1) (cond ((decide (e<(0:Int)))==false) (cond (cond false true (decide (e>(24:Int)))) (r0 false) (k0 (IntKind.wrap .i64 (c+(1:Int))))) (r0 false)) (cond (Nat.beq ((Int.toNat c)*1) 2) (cond ((decide (f<(0:Int)))==false) (cond (cond false true (decide (f>(24:Int)))) (r0 false) (k0 (IntKind.wrap .i64 (c+(1:Int))))) (r0 false)) (cond (Nat.beq ((Int.toNat c)*1) 3) (cond ((decide (g<(0:Int)))==false) (cond (cond false true (decide (g>(24:Int)))) (r0 false) (k0 (IntKind.wrap .i64 (c+(1:Int))))) (r0 false)) none)))) none) (rdI .i64 (List.drop 19 a) fun q=>(cond ((q != (0:Int))==true) (rdI .i64 (List.drop 19 a) fun r=>(cond ((cond true (r != (1:Int)) false)==true) (rdI .i64 (List.drop 19 a) fun t=>(cond (cond true (t != (2:Int)) false) (r0 false) q1)) q1)) q1)))
def Vh (N:Nat)  (r0:Bool→Option R) (d e f g:Int) (b:Bool) (a:LA):Nat→Int→Option R
 | 0,_=>none
 | n+1,c=>(Akz N r0 d e f g b a (Vh N r0 d e f g b a n) (Adq N r0 b a) c)
def A57 (N:Nat) (r0:Bool→Option R) (q0:Int→Int→Int→Int→Int→Option R) (a:LA) (b:Bool):Option R :=
 (rdI .i64 (List.drop 10 a) fun d=>(rdI .i64 (List.drop 11 a) fun e=>(rdI .i64 (List.drop 12 a) fun f=>(rdI .i64 (List.drop 15 a) fun g=>(q0 d e f g 0)))))
def A58 (N:Nat) (a:LA) (b:Bool) (r0:Bool→Option R):Option R:=(A57 N r0 (fun d e f g c=>(Vh N r0 d e f g b a N c)) a b)
def M0:=(Al (@A58 R)).1
theorem A2b:@M0 R=@A58 R:=(Al _).2
def Adr:Hints:={ H:=(hS (hR [1]) (hS (hS (hR [1,13,14]) (hN [1] (hN [1,13,14] (hS (hR [1,13,14,15]) (hS (hN [1,13,14] hL hL) (hS (hN [1,13,14] (hS (hR [1,4,13,14]) (hS (hR [1,13,14,22]) (hN [1,13,14] (hS (hR [2]) hL) hL))) hL) (hR [1,13,14])))) hL) hL)) (hJ (hS (hR [1,36]) (hN [1] (hS (hR [2]) hL) hL)) (hS (hS (hR [1,44]) (hN [1] (hS (hR [2]) hL) hL)) (hS (hR [2]) hL))))),nils:=[],modes:=[],free:=[],cob:=[] }
def Ak0 (N:Nat):List (Nat×Tw):=[]
def Sw (N:Nat):Env:=mkE 55 Adr (Ak0 N)
def Bl3 (N:Nat) (F:KF R):=As (Sw N) Tryz.f48 Adr.modes [] F
def Ads (N:Nat) (F:KF R):=atF (Sw N) [] N Tryz.f48 Adr (Bl3 N F)
def Kr  (F:KF R):Bool→Option R:=(fun u=>F (.bool u) [])
def Adt (b:Bool) (a:LA):St:={ s:=[(1,(.optr 300000 0))],h:=[(300000,⟨false,false,true,b,0,a,false⟩)] }
def A86 (N:Nat) (F:KF R):St→Option R:=Bh (Sw N) [] N (Ads N F [1,1,1] [])
def A87 (N:Nat) (F:KF R):St→Option R:=Bl (Sw N) [] N (Ads N F [1,1,1] [])
def Ot (d e f g:Int) (b:Bool) (a:LA) (c:Int):St:={ s:=[(1,(.optr 300000 0)),(13,(.agg [(.int .i64 d),(.int .i64 e),(.int .i64 f),(.int .i64 g)])),(14,(.int .i64 c))],h:=[(300000,⟨false,false,true,b,0,a,false⟩)] }
def A88 (N:Nat) (F:KF R):St→Option R:=Bx (Sw N) [] N (Ads N F [1,0,1,0] []) N
def Adu (N:Nat) (F:KF R) (n:Nat):St→Option R:=A9 (Sw N) [] N (Ads N F [1,0,1,0] []) n
theorem Bfe (N:Nat)  (F:KF R) (b:Bool) (a:LA):A87 N F (Adt b a)=(Adq N (Kr F) b a):=by
 have hK:A87 N F (Adt b a)=(Aky N (Kr F) b a):=by kernel_rfl
 exact hK
theorem Bff (N:Nat)  (F:KF R) (d e f g:Int) (b:Bool) (a:LA):∀ (n:Nat) (c:Int),Adu N F n (Ot d e f g b a c)=(Vh N (Kr F) d e f g b a n c):=by
 intro n
 induction n with
 | zero=>intros;kernel_rfl
 | succ n ih =>
  intro c
  have e0:=funext fun c=>(show Adu N F n (Ot d e f g b a c)=_ from ih c)
  have e1:=(show A86 N F (Adt b a)=_ from (Aq ..).trans (Bfe N F b a))
  have hK:Adu N F (n+1) (Ot d e f g b a c)=(Akz N (Kr F) d e f g b a (fun c=>Adu N F n (Ot d e f g b a c)) (A86 N F (Adt b a)) c):=by kernel_rfl
  exact hK.trans (by rw [e0,e1];rfl)
theorem Aqv (N:Nat) (a:LA) (b:Bool) (F:KF R):Ac Tryz.prog muts (Ak0 N) Adr N 48 [(.pagg a b)] [] F=(M0 N a b (Kr F)):=by
 have e1:=funext fun d=>funext fun e=>funext fun f=>funext fun g=>funext fun c=>(show A88 N F (Ot d e f g b a c)=_ from (Au ..).trans (Bff N F d e f g b a N c))
 have hK:Ac Tryz.prog muts (Ak0 N) Adr N 48 [(.pagg a b)] [] F=(A57 N (Kr F) (fun d e f g c=>A88 N F (Ot d e f g b a c)) a b):=by kernel_rfl
 rw [A2b]
 exact hK.trans (by rw [e1];rfl)
def X7 (N:Nat) (args:List AV) (h:Ak) (k:KF R):Option R :=
 match args,h with
 | [(.pagg a b)],[]=>(M0 N a b (Kr k))
 | _,_=>none
def Ou (N:Nat):Tw:=⟨X7 N,fun args h k=>by
 unfold X7;split
 exact twE (Aqv ..) (Aqv ..)
 rfl⟩
theorem Vi (N:Nat):Az Tryz.prog 48 (Ou N):=fun args h res i hh=>by
 change X7 N args h (fun v i=>some (v,i))=_ at hh
 unfold X7 at hh;split at hh
 exact Aa (T:=Ak0 N) trivial follows ((Aqv ..).trans hh)
 cases hh
end
end Gx

namespace Gx
open Go Go.Proofs
set_option maxRecDepth 100000
noncomputable section
variable {R:Type}
def Ks (N:Nat) (k0:Int→Int→Int→Option R) (r0:Bool→Option R) (c:LA) (e:Nat) (b:Bool) (d:Int) (a:LA)   (l i m:Int) (j:LA):Option R :=
 (cond ((decide (i>(0:Int)))==true) (rdI .i64 (List.drop 1 j) fun p=>(rdL 2 (List.drop 4 a) fun q r=>(cond (Aj (IntKind.wrap .i64 (i - (1:Int))) r) (rdI .i64 (List.drop 1 (List.drop ((Int.toNat (IntKind.wrap .i64 (i - (1:Int))))*2) q)) fun t=>(cond (cond true (decide (p<t)) false) (r0 false) (rdI .i64 j fun u=>(k0 (IntKind.wrap .i64 (l+u)) d (IntKind.wrap .i64 (m+(1:Int))))))) none))) (rdI .i64 j fun w=>(k0 (IntKind.wrap .i64 (l+w)) d (IntKind.wrap .i64 (m+(1:Int))))))
def Gw (N:Nat) (k0:Int→Int→Int→Option R) (r0:Bool→Option R) (c:LA) (e:Nat) (b:Bool) (d:Int) (a:LA) (l i m:Int) (j:LA):Option R:=(Ks N k0 r0 c e b d a l i m j)
def Gb (N:Nat)  (r0:Bool→Option R) (c:LA) (e:Nat) (b:Bool) (a:LA) (k0:Int→Int→Int→Option R) (q1:Int→Int→Int→LA→Option R) (g d f:Int):Option R :=
 (cond (decide (f<d)) (cond (Aj f e) (cond (Nat.ble 2 (List.length (List.drop ((Int.toNat f)*2) c))) (cond ((!b)||(Bu (List.take 2 (List.drop ((Int.toNat f)*2) c)))) (cond ((Nat.beq (List.length (List.take 2 (List.drop ((Int.toNat f)*2) c))) 2)&&((Nat.ble 2 2)&&(!false))) (rdI .i64 (setCells [(.int .i64 0),(.int .i64 0)] 0 (List.take 2 (List.drop ((Int.toNat f)*2) c))) fun x=>(Cn N 1 1048576 [(.int .i64 x)] 1 false true (fun y=>(cond ((!y)==false) (rdI .i64 (List.drop 1 (setCells [(.int .i64 0),(.int .i64 0)] 0 (List.take 2 (List.drop ((Int.toNat f)*2) c)))) fun z=>(Cn N (-1048576) 1048576 [(.int .i64 z)] 1 false true (fun aa=>(cond (cond false true (!aa)) (r0 false) (q1 g f f (setCells [(.int .i64 0),(.int .i64 0)] 0 (List.take 2 (List.drop ((Int.toNat f)*2) c)))))))) (r0 false))))) none) none) none) none) (rdI .i64 (List.drop 3 a) fun ab=>(rdI .i64 (List.drop 2 a) fun ac=>(r0 (g==(IntKind.wrap .i64 (ab - ac)))))))
def B5 (N:Nat)  (r0:Bool→Option R) (c:LA) (e:Nat) (b:Bool) (a:LA):Nat→Int→Int→Int→Option R
 | 0,_,_,_=>none
 | n+1,g,d,f=>(Gb N r0 c e b a (B5 N r0 c e b a n) (fun l i m j=>(Gw N (B5 N r0 c e b a n) r0 c e b d a l i m j)) g d f)
def P8 (N:Nat) (r0:Bool→Option R) (q0:LA→Nat→Int→Int→Int→Option R) (a:LA) (b:Bool):Option R :=
 (rdL 2 (List.drop 4 a) fun af ad=>(cond (decide (((ad:Nat):Int)>(8:Int))) (r0 false) (rdL 2 (List.drop 4 a) fun c e=>(q0 c e 0 ((e:Nat):Int) 0))))
def P9 (N:Nat) (a:LA) (b:Bool) (r0:Bool→Option R):Option R:=(P8 N r0 (fun c e g d f=>(B5 N r0 c e b a N g d f)) a b)
def Fa:=(Al (@P9 R)).1
theorem Vj:@Fa R=@P9 R:=(Al _).2
def Gy:Hints:={ H:=(hS (hR [1]) (hS (hS (hR [1,9]) (hN [1] (hS (hR [2]) hL) hL)) (hS (hR [1,3]) (hS (hS (hR [1,3,11,12,13]) (hN [1,3] (hN [1,3,11,12,13] (hS (hR [1,3,11,12,13,14]) (hS (hN [1,3,11,12,13] hL hL) (hS (hN [1,3,11,12,13] (hS (hR [1,3,4,5,11,12,13]) (hJ (hS (hR [1,3,4,5,11,12,13,29]) (hN [1,3,4,5,11,12,13] (hS (hR [2]) hL) hL)) (hS (hS (hR [1,3,5,11,12,13,43]) (hN [1,3,5,11,12,13] (hS (hR [2]) hL) hL)) (hR [1,3,11,12,13])))) hL) (hR [1,3,11,12,13])))) hL) hL)) (hS (hR [2]) hL))))),nils:=[],modes:=[],free:=[],cob:=[] }
def Ip (N:Nat):List (Nat×Tw):=[(47,Ui N)]
def Dt (N:Nat):Env:=mkE 56 Gy (Ip N)
def Aqw (N:Nat) (F:KF R):=As (Dt N) Tryz.f49 Gy.modes [] F
def Gz (N:Nat) (F:KF R):=atF (Dt N) [] N Tryz.f49 Gy (Aqw N F)
def Br  (F:KF R):Bool→Option R:=(fun ae=>F (.bool ae) [])
def G0 (c:LA) (e:Nat) (b:Bool) (d:Int) (a:LA) (l i m:Int) (j:LA):St:={ s:=[(1,(.optr 300000 0)),(3,(.int .i64 l)),(4,(.int .i64 i)),(5,(.optr 300001 0)),(11,(.imm c e 2 false b)),(12,(.int .i64 d)),(13,(.int .i64 m))],h:=[(300000,⟨false,false,true,b,0,a,false⟩),(300001,⟨false,false,true,false,0,j,false⟩)] }
def Wl (N:Nat) (F:KF R) (Q0:St→Option R):St→Option R:=Bh (Dt N) [] N (Gz N F [1,1,1,0,1,0,0,1,1,0,0,1,1] [Q0])
def Wm (N:Nat) (F:KF R) (Q0:St→Option R):St→Option R:=Bl (Dt N) [] N (Gz N F [1,1,1,0,1,0,0,1,1,0,0,1,1] [Q0])
def B6 (c:LA) (e:Nat) (b:Bool) (a:LA) (g d f:Int):St:={ s:=[(1,(.optr 300000 0)),(3,(.int .i64 g)),(11,(.imm c e 2 false b)),(12,(.int .i64 d)),(13,(.int .i64 f))],h:=[(300000,⟨false,false,true,b,0,a,false⟩)] }
def Wn (N:Nat) (F:KF R):St→Option R:=Bx (Dt N) [] N (Gz N F [1,1,1,0,1,0] []) N
def Co (N:Nat) (F:KF R) (n:Nat):St→Option R:=A9 (Dt N) [] N (Gz N F [1,1,1,0,1,0] []) n
theorem Ak1 (N:Nat) (Q0:St→Option R) (F:KF R) (c:LA) (e:Nat) (b:Bool) (d:Int) (a:LA):∀ (l i m:Int) (j:LA),Wm N F Q0 (G0 c e b d a l i m j)=(Gw N (fun g d f=>Q0 (B6 c e b a g d f)) (Br F) c e b d a l i m j):=by
 intro l i m j
 have hK:Wm N F Q0 (G0 c e b d a l i m j)=(Ks N (fun g d f=>Q0 (B6 c e b a g d f)) (Br F) c e b d a l i m j):=by kernel_rfl
 exact hK
theorem Ak2 (N:Nat)  (F:KF R) (c:LA) (e:Nat) (b:Bool) (a:LA):∀ (n:Nat) (g d f:Int),Co N F n (B6 c e b a g d f)=(B5 N (Br F) c e b a n g d f):=by
 intro n
 induction n with
 | zero=>intros;kernel_rfl
 | succ n ih =>
  intro g d f
  have e0:=funext fun g=>funext fun d=>funext fun f=>(show Co N F n (B6 c e b a g d f)=_ from ih g d f)
  have e1:(fun l i m j=>Wl N F (Co N F n) (G0 c e b d a l i m j))=(fun l i m j=>(Gw N (B5 N (Br F) c e b a n) (Br F) c e b d a l i m j)):=by funext l;funext i;funext m;funext j;exact ((Aq ..).trans (Ak1 N (Co N F n) F c e b d a l i m j)).trans (by rw [e0])
  have hK:Co N F (n+1) (B6 c e b a g d f)=(Gb N (Br F) c e b a (fun g d f=>Co N F n (B6 c e b a g d f)) (fun l i m j=>Wl N F (Co N F n) (G0 c e b d a l i m j)) g d f):=by kernel_rfl
  exact hK.trans (by rw [e0,e1];rfl)
theorem Mm (N:Nat) (a:LA) (b:Bool) (F:KF R):Ac Tryz.prog muts (Ip N) Gy N 49 [(.pagg a b)] [] F=(Fa N a b (Br F)):=by
 have e1:=funext fun c=>funext fun e=>funext fun g=>funext fun d=>funext fun f=>(show Wn N F (B6 c e b a g d f)=_ from (Au ..).trans (Ak2 N F c e b a N g d f))
 have hK:Ac Tryz.prog muts (Ip N) Gy N 49 [(.pagg a b)] [] F=(P8 N (Br F) (fun c e g d f=>Wn N F (B6 c e b a g d f)) a b):=by kernel_rfl
 rw [Vj]
 exact hK.trans (by rw [e1];rfl)
def Gc (N:Nat) (args:List AV) (h:Ak) (k:KF R):Option R :=
 match args,h with
 | [(.pagg a b)],[]=>(Fa N a b (Br k))
 | _,_=>none
def Wo (N:Nat):Tw:=⟨Gc N,fun args h k=>by
 unfold Gc;split
 exact twE (Mm ..) (Mm ..)
 rfl⟩
theorem Auf (N:Nat):Az Tryz.prog 49 (Wo N):=fun args h res o hh=>by
 change Gc N args h (fun v o=>some (v,o))=_ at hh
 unfold Gc at hh;split at hh
 exact Aa (T:=Ip N) ⟨Afk N,trivial⟩ follows ((Mm ..).trans hh)
 cases hh
def L7 (N:Nat)  (r0:Bool→Option R) (c:LA) (a:Nat) (d e:Bool) (f:Int) (k0:Int→Int→Option R)  (g b:Int):Option R :=
 (cond (decide (b<g)) (cond (Aj b a) (rdI .i64 (List.drop ((Int.toNat b)*1) c) fun i=>(Cn N 0 (IntKind.wrap .i64 (f - (1:Int))) [(.int .i64 i)] 1 false true (fun l=>(cond ((!l)==false) (cond ((decide (b>(0:Int)))==true) (cond (Aj (IntKind.wrap .i64 (b - (1:Int))) a) (rdI .i64 (List.drop ((Int.toNat (IntKind.wrap .i64 (b - (1:Int))))*1) c) fun m=>(cond (cond false true (cond true (decide (i≤m)) false)) (r0 false) (k0 g (IntKind.wrap .i64 (b+(1:Int)))))) none) (k0 g (IntKind.wrap .i64 (b+(1:Int))))) (r0 false))))) none) (r0 true))
def F4 (N:Nat)  (r0:Bool→Option R) (c:LA) (a:Nat) (d e:Bool) (f:Int):Nat→Int→Int→Option R
 | 0,_,_=>none
 | n+1,g,b=>(L7 N r0 c a d e f (F4 N r0 c a d e f n) g b)
def Afl (N:Nat) (r0:Bool→Option R) (q0:Int→Int→Option R) (c:LA) (a:Nat) (d e:Bool) (f:Int):Option R :=
 (q0 ((a:Nat):Int) 0)
def Afm (N:Nat) (c:LA) (a:Nat) (d e:Bool) (f:Int) (r0:Bool→Option R):Option R:=(Afl N r0 (fun g b=>(F4 N r0 c a d e f N g b)) c a d e f)
def L8:=(Al (@Afm R)).1
theorem Ahf:@L8 R=@Afm R:=(Al _).2
def Nq:Hints:={ H:=(hS (hR [0,1]) (hS (hS (hR [0,1,7,8,9]) (hS (hN [0,1,7,8,9] (hS (hR [0,1,7,8,9,10]) (hS (hN [0,1,7,8,9] hL hL) (hS (hN [0,1,7,8,9] (hS (hR [0,1,5,6,7,8,9]) (hS (hR [0,1,7,8,9,32]) (hN [0,1,7,8,9] (hS (hR [4]) hL) hL))) hL) (hR [0,1,7,8,9])))) hL) hL)) (hS (hR [4]) hL))),nils:=[],modes:=[],free:=[],cob:=[] }
def Qa (N:Nat):List (Nat×Tw):=[(47,Ui N)]
def Qb (N:Nat):Env:=mkE 34 Nq (Qa N)
def A59 (N:Nat) (F:KF R):=As (Qb N) Tryz.f50 Nq.modes [] F
def Am3 (N:Nat) (F:KF R):=atF (Qb N) [] N Tryz.f50 Nq (A59 N F)
def I9  (F:KF R):Bool→Option R:=(fun o=>F (.bool o) [])
def F5 (c:LA) (a:Nat) (d e:Bool) (f g b:Int):St:={ s:=[(0,(.imm c a 1 d e)),(1,(.int .i64 f)),(7,(.imm c a 1 d e)),(8,(.int .i64 g)),(9,(.int .i64 b))],h:=[] }
def Am4 (N:Nat) (F:KF R):St→Option R:=Bx (Qb N) [] N (Am3 N F [1,0,1,0] []) N
def Nr (N:Nat) (F:KF R) (n:Nat):St→Option R:=A9 (Qb N) [] N (Am3 N F [1,0,1,0] []) n
theorem Ay8 (N:Nat)  (F:KF R) (c:LA) (a:Nat) (d e:Bool) (f:Int):∀ (n:Nat) (g b:Int),Nr N F n (F5 c a d e f g b)=(F4 N (I9 F) c a d e f n g b):=by
 intro n
 induction n with
 | zero=>intros;kernel_rfl
 | succ n ih =>
  intro g b
  have e0:=funext fun g=>funext fun b=>(show Nr N F n (F5 c a d e f g b)=_ from ih g b)
  have hK:Nr N F (n+1) (F5 c a d e f g b)=(L7 N (I9 F) c a d e f (fun g b=>Nr N F n (F5 c a d e f g b)) g b):=by kernel_rfl
  exact hK.trans (by rw [e0];rfl)
theorem V5 (N:Nat) (c:LA) (a:Nat) (d e:Bool) (f:Int) (F:KF R):Ac Tryz.prog muts (Qa N) Nq N 50 [(.imm c a 1 d e),(.int .i64 f)] [] F=(L8 N c a d e f (I9 F)):=by
 have e1:=funext fun g=>funext fun b=>(show Am4 N F (F5 c a d e f g b)=_ from (Au ..).trans (Ay8 N F c a d e f N g b))
 have hK:Ac Tryz.prog muts (Qa N) Nq N 50 [(.imm c a 1 d e),(.int .i64 f)] [] F=(Afl N (I9 F) (fun g b=>Am4 N F (F5 c a d e f g b)) c a d e f):=by kernel_rfl
 rw [Ahf]
 exact hK.trans (by rw [e1];rfl)
def L9 (N:Nat) (args:List AV) (h:Ak) (k:KF R):Option R :=
 match args,h with
 | [(.imm c a 1 d e),(.int .i64 f)],[]=>(L8 N c a d e f (I9 k))
 | _,_=>none
def Am5 (N:Nat):Tw:=⟨L9 N,fun args h k=>by
 unfold L9;split
 exact twE (V5 ..) (V5 ..)
 rfl⟩
theorem Bad (N:Nat):Az Tryz.prog 50 (Am5 N):=fun args h res j hh=>by
 change L9 N args h (fun v j=>some (v,j))=_ at hh
 unfold L9 at hh;split at hh
 exact Aa (T:=Qa N) ⟨Afk N,trivial⟩ follows ((V5 ..).trans hh)
 cases hh
def Ak3 (N:Nat)  (r0:Bool→Option R) (c:Int) (b:Bool) (a:LA)   :Option R :=
 (rdI .i64 (List.drop 2 a) fun e=>(rdI .i64 (List.drop 3 a) fun f=>(rdI .i64 (List.drop 8 a) fun g=>(rdI .i64 (List.drop 9 a) fun i=>(Cn N e f [(.int .i64 g),(.int .i64 i)] 2 false true (fun j=>(cond (!j) (r0 false) (rdI .i64 (List.drop 5 a) fun l=>(rdI .i64 (List.drop 13 a) fun m=>(rdI .i64 (List.drop 14 a) fun n=>(rdI .i64 (List.drop 17 a) fun o=>(Cn N 0 1048576 [(.int .i64 l),(.int .i64 m),(.int .i64 n),(.int .i64 o)] 4 false true (fun p=>(cond (!p) (r0 false) (rdI .i64 (List.drop 19 a) fun q=>(cond (q==(2:Int)) (rdI .i64 (List.drop 2 a) fun r=>(rdI .i64 (List.drop 3 a) fun t=>(rdI .i64 (List.drop 21 a) fun u=>(Cn N r t [(.int .i64 u)] 1 false true (fun w=>(cond (!w) (r0 false) (cond (Nat.ble 22 (List.length a)) (Fa N (List.take 22 a) b (fun x=>(cond (x==true) (rdL 1 (List.drop 18 a) fun y z=>(L8 N y z false b c (fun aa=>(r0 (cond true aa false))))) (r0 false)))) none))))))) (rdI .i64 (List.drop 21 a) fun ab=>(cond (ab != (0:Int)) (r0 false) (cond (Nat.ble 22 (List.length a)) (Fa N (List.take 22 a) b (fun ac=>(cond (ac==true) (rdL 1 (List.drop 18 a) fun ad ae=>(L8 N ad ae false b c (fun af=>(r0 (cond true af false))))) (r0 false)))) none)))))))))))))))))))
def Aqx (N:Nat)  (r0:Bool→Option R) (c:Int) (b:Bool) (a:LA) :Option R:=(Ak3 N r0 c b a)
def Ak4 (N:Nat)  (r0:Bool→Option R) (c:Int) (b:Bool) (a:LA)  (q1:Option R) :Option R :=
 (rdI .i64 (List.drop 2 a) fun ag=>(rdI .i64 (List.drop 3 a) fun ah=>(rdI .i64 (List.drop 6 a) fun ai=>(rdI .i64 (List.drop 7 a) fun aj=>(rdI .i64 (List.drop 16 a) fun ak=>(Cn N 0 1048576 [(.int .i64 ag),(.int .i64 ah),(.int .i64 ai),(.int .i64 aj),(.int .i64 ak)] 5 false true (fun al=>(cond ((!al)==false) (rdI .i64 (List.drop 2 a) fun am=>(rdI .i64 (List.drop 3 a) fun an=>(cond (cond false true (decide (am>an))) (r0 false) q1))) (r0 false)))))))))
def Aqy (N:Nat)  (r0:Bool→Option R) (c:Int) (b:Bool) (a:LA) :Option R:=(Ak4 N r0 c b a (Aqx N r0 c b a))
def A6a (N:Nat) (r0:Bool→Option R) (q0:Option R) (a:LA) (b:Bool) (c:Int):Option R :=
 (Cn N 1 24 [(.int .i64 c)] 1 false true (fun ao=>(cond ((!ao)==false) (cond (Nat.ble 22 (List.length a)) (M0 N (List.take 22 a) b (fun ap=>(cond (cond false true (!ap)) (r0 false) q0))) none) (r0 false))))
def A6b (N:Nat) (a:LA) (b:Bool) (c:Int) (r0:Bool→Option R):Option R:=(A6a N r0 (Aqy N r0 c b a) a b c)
def Hp:=(Al (@A6b R)).1
theorem A2c:@Hp R=@A6b R:=(Al _).2
def Adv:Hints:={ H:=(hS (hR [1,2]) (hJ (hS (hR [1,2,13]) (hN [1,2] (hS (hR [4]) hL) hL)) (hJ (hS (hR [1,2,33]) (hN [1,2] (hS (hR [4]) hL) hL)) (hS (hS (hR [1,2,44]) (hN [1,2] (hS (hR [4]) hL) hL)) (hS (hS (hR [1,2,55]) (hN [1,2] (hS (hR [4]) hL) hL)) (hS (hS (hR [1,2,58]) (hN [1,2] (hS (hR [1,2,67]) (hN [1,2] (hS (hR [4]) hL) hL)) (hS (hR [1,2,70]) (hN [1,2] (hS (hR [4]) hL) hL)))) (hS (hR [4]) hL))))))),nils:=[],modes:=[],free:=[],cob:=[] }
def Ak5 (N:Nat):List (Nat×Tw):=[(47,Ui N),(48,Ou N),(49,Wo N),(50,Am5 N)]
def Sz (N:Nat):Env:=mkE 79 Adv (Ak5 N)
def Bl4 (N:Nat) (F:KF R):=As (Sz N) Tryz.f16 Adv.modes [] F
def Adw (N:Nat) (F:KF R):=atF (Sz N) [] N Tryz.f16 Adv (Bl4 N F)
def Kt  (F:KF R):Bool→Option R:=(fun aq=>F (.bool aq) [])
def Adx (c:Int) (b:Bool) (a:LA):St:={ s:=[(1,(.int .i64 c)),(2,(.optr 300000 0))],h:=[(300000,⟨false,false,true,b,0,a,false⟩)] }
def A89 (N:Nat) (F:KF R):St→Option R:=Bh (Sz N) [] N (Adw N F [1,1,1] [])
def A9a (N:Nat) (F:KF R):St→Option R:=Bl (Sz N) [] N (Adw N F [1,1,1] [])
def Ady (c:Int) (b:Bool) (a:LA):St:={ s:=[(1,(.int .i64 c)),(2,(.optr 300000 0))],h:=[(300000,⟨false,false,true,b,0,a,false⟩)] }
def A9b (N:Nat) (F:KF R):St→Option R:=Bh (Sz N) [] N (Adw N F [1,1] [])
def A9c (N:Nat) (F:KF R):St→Option R:=Bl (Sz N) [] N (Adw N F [1,1] [])
theorem Bfg (N:Nat)  (F:KF R) (c:Int) (b:Bool) (a:LA):A9a N F (Adx c b a)=(Aqx N (Kt F) c b a):=by
 have hK:A9a N F (Adx c b a)=(Ak3 N (Kt F) c b a):=by kernel_rfl
 exact hK
theorem Bfh (N:Nat)  (F:KF R) (c:Int) (b:Bool) (a:LA):A9c N F (Ady c b a)=(Aqy N (Kt F) c b a):=by
 have e1:=(show A89 N F (Adx c b a)=_ from (Aq ..).trans (Bfg N F c b a))
 have hK:A9c N F (Ady c b a)=(Ak4 N (Kt F) c b a (A89 N F (Adx c b a))):=by kernel_rfl
 exact hK.trans (by rw [e1];rfl)
theorem Aqz (N:Nat) (a:LA) (b:Bool) (c:Int) (F:KF R):Ac Tryz.prog muts (Ak5 N) Adv N 16 [(.pagg a b),(.int .i64 c)] [] F=(Hp N a b c (Kt F)):=by
 have e1:=(show A9b N F (Ady c b a)=_ from (Aq ..).trans (Bfh N F c b a))
 have hK:Ac Tryz.prog muts (Ak5 N) Adv N 16 [(.pagg a b),(.int .i64 c)] [] F=(A6a N (Kt F) (A9b N F (Ady c b a)) a b c):=by kernel_rfl
 rw [A2c]
 exact hK.trans (by rw [e1];rfl)
def X8 (N:Nat) (args:List AV) (h:Ak) (k:KF R):Option R :=
 match args,h with
 | [(.pagg a b),(.int .i64 c)],[]=>(Hp N a b c (Kt k))
 | _,_=>none
def Vk (N:Nat):Tw:=⟨X8 N,fun args h k=>by
 unfold X8;split
 exact twE (Aqz ..) (Aqz ..)
 rfl⟩
theorem Adz (N:Nat):Az Tryz.prog 16 (Vk N):=fun args h res d hh=>by
 change X8 N args h (fun v d=>some (v,d))=_ at hh
 unfold X8 at hh;split at hh
 exact Aa (T:=Ak5 N) ⟨Afk N,Vi N,Auf N,Bad N,trivial⟩ follows ((Aqz ..).trans hh)
 cases hh
def Ay9 (N:Nat) (r0:Bool→Option R)  (a:LA) (b:Bool) (c d:Int):Option R :=
 (cond (Nat.ble 3 (List.length a)) (Cx N c (fun f=>(Gj N (List.take 3 a) b f false (fun g=>(cond ((decide (g≥(0:Int)))==true) (cond (Nat.ble 3 (List.length a)) (Cx N d (fun i=>(Gj N (List.take 3 a) b i false (fun j=>(r0 (cond true (decide (j≤(0:Int))) false)))))) none) (r0 false)))))) none)
def Aza (N:Nat) (a:LA) (b:Bool) (c d:Int) (r0:Bool→Option R):Option R:=(Ay9 N r0 a b c d)
def Y5:=(Al (@Aza R)).1
theorem Avx:@Y5 R=@Aza R:=(Al _).2
def A2d:Hints:={ H:=(hS (hR [1,2,3]) (hS (hR [6]) hL)),nils:=[],modes:=[],free:=[],cob:=[] }
def Aq0 (N:Nat):List (Nat×Tw):=[(60,Ms N),(59,T2 N)]
def Ak6  (F:KF R):Bool→Option R:=(fun l=>F (.bool l) [])
theorem Ak7 (N:Nat) (a:LA) (b:Bool) (c d:Int) (F:KF R):Ac Tryz.prog muts (Aq0 N) A2d N 56 [(.pagg a b),(.int .i64 c),(.int .i64 d)] [] F=(Y5 N a b c d (Ak6 F)):=by
 have hK:Ac Tryz.prog muts (Aq0 N) A2d N 56 [(.pagg a b),(.int .i64 c),(.int .i64 d)] [] F=(Ay9 N (Ak6 F) a b c d):=by kernel_rfl
 rw [Avx]
 exact hK
def Uj (N:Nat) (args:List AV) (h:Ak) (k:KF R):Option R :=
 match args,h with
 | [(.pagg a b),(.int .i64 c),(.int .i64 d)],[]=>(Y5 N a b c d (Ak6 k))
 | _,_=>none
def Ak8 (N:Nat):Tw:=⟨Uj N,fun args h k=>by
 unfold Uj;split
 exact twE (Ak7 ..) (Ak7 ..)
 rfl⟩
theorem A2e (N:Nat):Az Tryz.prog 56 (Ak8 N):=fun args h res e hh=>by
 change Uj N args h (fun v e=>some (v,e))=_ at hh
 unfold Uj at hh;split at hh
 exact Aa (T:=Aq0 N) ⟨Tr N,Ae8 N,trivial⟩ follows ((Ak7 ..).trans hh)
 cases hh
def A6c (N:Nat) (r0:LA→Option R)  (b:Int) (a:LA) (c:Bool):Option R :=
 (Cx N b (fun f=>(cond (Nat.ble 3 (List.length a)) (A5p N f false (List.take 3 a) c (fun d=>(cond ((Nat.beq 0 0)&&((Nat.beq (List.length d) 3)&&(Nat.beq 3 3))) (cond (Nat.ble 3 (List.length d)) (r0 (List.take 3 d)) none) none))) none)))
def A6d (N:Nat) (b:Int) (a:LA) (c:Bool) (r0:LA→Option R):Option R:=(A6c N r0 b a c)
def Aq1:=(Al (@A6d R)).1
theorem A2f:@Aq1 R=@A6d R:=(Al _).2
def A9d:Hints:={ H:=(hS (hR [0,3,4]) (hS (hR [4]) hL)),nils:=[],modes:=[(3,0)],free:=[],cob:=[] }
def Azb (N:Nat):List (Nat×Tw):=[(60,Ms N),(82,Bjn N)]
def Aq2  (F:KF R):LA→Option R:=(fun g=>F (.pagg g false) [])
theorem Aq3 (N:Nat) (b:Int) (a:LA) (c:Bool) (F:KF R):Ac Tryz.prog muts (Azb N) A9d N 86 [(.int .i64 b),(.pagg a c)] [] F=(Aq1 N b a c (Aq2 F)):=by
 have hK:Ac Tryz.prog muts (Azb N) A9d N 86 [(.int .i64 b),(.pagg a c)] [] F=(A6c N (Aq2 F) b a c):=by kernel_rfl
 rw [A2f]
 exact hK
def X9 (N:Nat) (args:List AV) (h:Ak) (k:KF R):Option R :=
 match args,h with
 | [(.int .i64 b),(.pagg a c)],[]=>(Aq1 N b a c (Aq2 k))
 | _,_=>none
def A9e (N:Nat):Tw:=⟨X9 N,fun args h k=>by
 unfold X9;split
 exact twE (Aq3 ..) (Aq3 ..)
 rfl⟩
theorem Bn0 (N:Nat):Az Tryz.prog 86 (A9e N):=fun args h res e hh=>by
 change X9 N args h (fun v e=>some (v,e))=_ at hh
 unfold X9 at hh;split at hh
 exact Aa (T:=Azb N) ⟨Tr N,Bsa N,trivial⟩ follows ((Aq3 ..).trans hh)
 cases hh
def Iq (N:Nat)  (r0:LA→Option R) (e:LA) (g:Nat) (d:Bool) (k0:Int→Int→LA→LA→Option R)  (f b:Int) (c a:LA):Option R :=
 (cond (decide (b<f)) (cond (Aj b g) (cond (Nat.ble 2 (List.length (List.drop ((Int.toNat b)*2) e))) (cond ((!d)||(Bu (List.take 2 (List.drop ((Int.toNat b)*2) e)))) (cond ((Nat.beq (List.length (List.take 2 (List.drop ((Int.toNat b)*2) e))) 2)&&((Nat.ble 2 2)&&(!false))) (cond (Nat.ble 3 (List.length c)) (Xo N (List.take 3 c) false (fun u=>(cond (decide (u≤(0:Int))) (cond (Nat.ble 3 (List.length a)) (cond ((Nat.beq 0 0)&&((Nat.beq (List.length (List.take 3 a)) 3)&&(Nat.beq 3 3))) (cond (Nat.ble 3 (List.length (List.take 3 a))) (r0 (List.take 3 (List.take 3 a))) none) none) none) (cond (Nat.ble 3 (List.length c)) (rdI .i64 (setCells [(.int .i64 0),(.int .i64 0)] 0 (List.take 2 (List.drop ((Int.toNat b)*2) e))) fun w=>(Cx N w (fun x=>(A5m N (List.take 3 c) false x false (fun m=>(cond ((Nat.beq 0 0)&&((Nat.beq (List.length m) 3)&&(Nat.beq 3 3))) (cond (Nat.ble 3 (List.length a)) (rdI .i64 (List.drop 1 (setCells [(.int .i64 0),(.int .i64 0)] 0 (List.take 2 (List.drop ((Int.toNat b)*2) e)))) fun y=>(cond (Nat.ble 3 (List.length m)) (Aq1 N y (List.take 3 m) false (fun z=>(Ap5 N (List.take 3 a) false z false (fun o=>(cond ((Nat.beq (List.length o) 3)&&((Nat.ble 3 (List.length a))&&(!false))) (cond (Nat.ble 3 (List.length c)) (cond (Nat.ble 3 (List.length m)) (Ap6 N (List.take 3 c) false (List.take 3 m) false (fun p=>(cond ((Nat.beq (List.length p) 3)&&((Nat.ble 3 (List.length c))&&(!false))) (k0 f (IntKind.wrap .i64 (b+(1:Int))) (setCells c 0 p) (setCells a 0 o)) none))) none) none) none))))) none)) none) none)))))) none)))) none) none) none) none) none) (cond (Nat.ble 3 (List.length a)) (cond ((Nat.beq 0 0)&&((Nat.beq (List.length (List.take 3 a)) 3)&&(Nat.beq 3 3))) (cond (Nat.ble 3 (List.length (List.take 3 a))) (r0 (List.take 3 (List.take 3 a))) none) none) none))
def D5 (N:Nat)  (r0:LA→Option R) (e:LA) (g:Nat) (d:Bool):Nat→Int→Int→LA→LA→Option R
 | 0,_,_,_,_=>none
 | n+1,f,b,c,a=>(Iq N r0 e g d (D5 N r0 e g d n) f b c a)
def V6 (N:Nat) (r0:LA→Option R) (q0:LA→Nat→Int→Int→LA→LA→Option R) (i:LA) (d:Bool) (j:LA) (l:Bool):Option R :=
 (cond (Nat.ble 3 (List.length j)) (rdI .i64 (List.drop 2 i) fun aa=>(Cx N aa (fun ab=>(Ap6 N (List.take 3 j) l ab false (fun q=>(cond ((Nat.beq 0 0)&&((Nat.beq (List.length q) 3)&&(Nat.beq 3 3))) (Cx N 0 (fun r=>(cond ((Nat.beq 0 0)&&((Nat.beq (List.length r) 3)&&(Nat.beq 3 3))) (rdL 2 (List.drop 4 i) fun e g=>(q0 e g ((g:Nat):Int) 0 q r)) none))) none)))))) none)
def V7 (N:Nat) (i:LA) (d:Bool) (j:LA) (l:Bool) (r0:LA→Option R):Option R:=(V6 N r0 (fun e g f b c a=>(D5 N r0 e g d N f b c a)) i d j l)
def Ku:=(Al (@V7 R)).1
theorem Aa7:@Ku R=@V7 R:=(Al _).2
def Ka:Hints:={ H:=(hS (hR [2,3,4]) (hS (hR [2,4,5]) (hS (hR [2,4,5,6]) (hS (hS (hR [4,5,6,17,18,19]) (hN [4,6] (hN [4,5,6,17,18,19] (hS (hR [4,5,6,17,18,19,20]) (hS (hN [4,5,6,17,18,19] hL hL) (hS (hN [4,5,6,17,18,19] (hS (hR [4,5,6,8,17,18,19]) (hS (hS (hR [4,5,6,8,17,18,19,25]) (hN [4,5,6,8,17,18,19] hL hL)) (hS (hR [4,5,6,8,9,17,18,19]) (hS (hR [4,5,6,9,17,18,19]) (hR [4,5,6,17,18,19]))))) hL) (hR [4,5,6,17,18,19])))) hL) hL)) (hS (hR [4]) hL))))),nils:=[],modes:=[(3,0)],free:=[],cob:=[] }
def Ma (N:Nat):List (Nat×Tw):=[(60,Ms N),(83,Bjh N),(95,Ai8 N),(96,Bjj N),(86,A9e N),(81,A5j N)]
def Mb (N:Nat):Env:=mkE 42 Ka (Ma N)
def Azc (N:Nat) (F:KF R):=As (Mb N) Tryz.f57 Ka.modes [] F
def Ad0 (N:Nat) (F:KF R):=atF (Mb N) [] N Tryz.f57 Ka (Azc N F)
def Gd  (F:KF R):LA→Option R:=(fun ac=>F (.pagg ac false) [])
def D6 (e:LA) (g:Nat) (d:Bool) (f b:Int) (c a:LA):St:={ s:=[(4,(.optr 300000 0)),(5,(.optr 300001 0)),(6,(.optr 300002 0)),(17,(.imm e g 2 false d)),(18,(.int .i64 f)),(19,(.int .i64 b))],h:=[(300000,⟨false,false,false,false,0,[(.bool false),.nsl,.nsl],false⟩),(300001,⟨false,false,true,false,0,c,false⟩),(300002,⟨false,false,true,false,0,a,false⟩)] }
def Ad1 (N:Nat) (F:KF R):St→Option R:=Bx (Mb N) [] N (Ad0 N F [1,1,1,0,1,0] []) N
def Kb (N:Nat) (F:KF R) (n:Nat):St→Option R:=A9 (Mb N) [] N (Ad0 N F [1,1,1,0,1,0] []) n
theorem Aq4 (N:Nat)  (F:KF R) (e:LA) (g:Nat) (d:Bool):∀ (n:Nat) (f b:Int) (c a:LA),Kb N F n (D6 e g d f b c a)=(D5 N (Gd F) e g d n f b c a):=by
 intro n
 induction n with
 | zero=>intros;kernel_rfl
 | succ n ih =>
  intro f b c a
  have e0:=funext fun f=>funext fun b=>funext fun c=>funext fun a=>(show Kb N F n (D6 e g d f b c a)=_ from ih f b c a)
  have hK:Kb N F (n+1) (D6 e g d f b c a)=(Iq N (Gd F) e g d (fun f b c a=>Kb N F n (D6 e g d f b c a)) f b c a):=by kernel_rfl
  exact hK.trans (by rw [e0];rfl)
theorem Qc (N:Nat) (i:LA) (d:Bool) (j:LA) (l:Bool) (F:KF R):Ac Tryz.prog muts (Ma N) Ka N 57 [(.pagg i d),(.pagg j l)] [] F=(Ku N i d j l (Gd F)):=by
 have e1:=funext fun e=>funext fun g=>funext fun f=>funext fun b=>funext fun c=>funext fun a=>(show Ad1 N F (D6 e g d f b c a)=_ from (Au ..).trans (Aq4 N F e g d N f b c a))
 have hK:Ac Tryz.prog muts (Ma N) Ka N 57 [(.pagg i d),(.pagg j l)] [] F=(V6 N (Gd F) (fun e g f b c a=>Ad1 N F (D6 e g d f b c a)) i d j l):=by kernel_rfl
 rw [Aa7]
 exact hK.trans (by rw [e1];rfl)
def Ir (N:Nat) (args:List AV) (h:Ak) (k:KF R):Option R :=
 match args,h with
 | [(.pagg i d),(.pagg j l)],[]=>(Ku N i d j l (Gd k))
 | _,_=>none
def Ad2 (N:Nat):Tw:=⟨Ir N,fun args h k=>by
 unfold Ir;split
 exact twE (Qc ..) (Qc ..)
 rfl⟩
theorem A2g (N:Nat):Az Tryz.prog 57 (Ad2 N):=fun args h res t hh=>by
 change Ir N args h (fun v t=>some (v,t))=_ at hh
 unfold Ir at hh;split at hh
 exact Aa (T:=Ma N) ⟨Tr N,Br8 N,Axs N,Br9 N,Bn0 N,Bjf N,trivial⟩ follows ((Qc ..).trans hh)
 cases hh
def V8 (N:Nat) (r0:LA→Int→Option R)  (a:LA) (c:Bool) (b:LA) (d:Bool):Option R :=
 (cond (Nat.ble 22 (List.length a)) (Hp N (List.take 22 a) c 24 (fun g=>(cond (!g) (r0 [(.bool false),.nsl,.nsl] 1) (cond (Nat.ble 3 (List.length b)) (rdI .i64 (List.drop 2 a) fun i=>(rdI .i64 (List.drop 3 a) fun j=>(Y5 N (List.take 3 b) d i j (fun l=>(cond (!l) (r0 [(.bool false),.nsl,.nsl] 3) (cond (Nat.ble 22 (List.length a)) (cond (Nat.ble 3 (List.length b)) (Ku N (List.take 22 a) c (List.take 3 b) d (fun e=>(cond ((Nat.beq 0 0)&&((Nat.beq (List.length e) 3)&&(Nat.beq 3 3))) (cond (Nat.ble 3 (List.length e)) (r0 (List.take 3 e) 0) none) none))) none) none)))))) none)))) none)
def V9 (N:Nat) (a:LA) (c:Bool) (b:LA) (d:Bool) (r0:LA→Int→Option R):Option R:=(V8 N r0 a c b d)
def Kv:=(Al (@V9 R)).1
theorem Aa8:@Kv R=@V9 R:=(Al _).2
def Ad3:Hints:={ H:=(hS (hR [2,3,4]) (hS (hS (hR [2,3,4,8]) (hN [2,3,4] (hS (hR [4,5]) hL) hL)) (hS (hS (hR [2,3,4,16]) (hN [2,3,4] (hS (hR [4,5]) hL) hL)) (hS (hR [4,5]) hL)))),nils:=[],modes:=[(3,0),(0,0)],free:=[],cob:=[] }
def S5 (N:Nat):List (Nat×Tw):=[(16,Vk N),(56,Ak8 N),(57,Ad2 N)]
def Qd  (F:KF R):LA→Int→Option R:=(fun m n=>F (.tup [(.pagg m false),(.int .i64 n)]) [])
theorem Qe (N:Nat) (a:LA) (c:Bool) (b:LA) (d:Bool) (F:KF R):Ac Tryz.prog muts (S5 N) Ad3 N 21 [(.pagg a c),(.pagg b d)] [] F=(Kv N a c b d (Qd F)):=by
 have hK:Ac Tryz.prog muts (S5 N) Ad3 N 21 [(.pagg a c),(.pagg b d)] [] F=(V8 N (Qd F) a c b d):=by kernel_rfl
 rw [Aa8]
 exact hK
def Is (N:Nat) (args:List AV) (h:Ak) (k:KF R):Option R :=
 match args,h with
 | [(.pagg a c),(.pagg b d)],[]=>(Kv N a c b d (Qd k))
 | _,_=>none
def Ad4 (N:Nat):Tw:=⟨Is N,fun args h k=>by
 unfold Is;split
 exact twE (Qe ..) (Qe ..)
 rfl⟩
theorem A2h (N:Nat):Az Tryz.prog 21 (Ad4 N):=fun args h res f hh=>by
 change Is N args h (fun v f=>some (v,f))=_ at hh
 unfold Is at hh;split at hh
 exact Aa (T:=S5 N) ⟨Adz N,A2e N,A2g N,trivial⟩ follows ((Qe ..).trans hh)
 cases hh
end
end Gx

namespace Gx
open Go Go.Proofs
set_option maxRecDepth 100000
noncomputable section
variable {R:Type}
def Wa (N:Nat) (k1:Bool→Bool→Int→Int→Int→LA→LA→Option R) (r0:LA→LA→Bool→Bool→Option R) (i:Bool) (q r:Int) (f:LA) (j:Nat) (c:Bool) (g d:Int) (b:Bool) (a e:LA)   (t:Bool) (u:Int) (w x:LA):Option R :=
 (cond ((decide (q≥(0:Int)))==true) (cond (cond true (decide (r<(0:Int))) false) (rdI .i64 (List.drop 1 x) fun ac=>(Cx N ac (fun z=>(cond ((Nat.beq (List.length z) 3)&&((Nat.ble 3 (List.length e))&&(!false))) (k1 t true u g (IntKind.wrap .i64 (d+(1:Int))) w (setCells e 0 z)) none)))) (k1 t i u g (IntKind.wrap .i64 (d+(1:Int))) w e)) (k1 t i u g (IntKind.wrap .i64 (d+(1:Int))) w e))
def Kw (N:Nat) (k1:Bool→Bool→Int→Int→Int→LA→LA→Option R) (r0:LA→LA→Bool→Bool→Option R) (i:Bool) (q r:Int) (f:LA) (j:Nat) (c:Bool) (g d:Int) (b:Bool) (a e:LA) (t:Bool) (u:Int) (w x:LA):Option R:=(Wa N k1 r0 i q r f j c g d b a e t u w x)
def Ns (N:Nat)  (r0:LA→LA→Bool→Bool→Option R) (f:LA) (j:Nat) (c b:Bool) (a:LA) (k1:Bool→Bool→Int→Int→Int→LA→LA→Option R) (q2:Int→Int→Bool→Int→LA→LA→Option R) (o i:Bool) (m g d:Int) (l e:LA):Option R :=
 (cond (decide (d<g)) (cond (Aj d j) (cond (Nat.ble 2 (List.length (List.drop ((Int.toNat d)*2) f))) (cond ((!c)||(Bu (List.take 2 (List.drop ((Int.toNat d)*2) f)))) (cond ((Nat.beq (List.length (List.take 2 (List.drop ((Int.toNat d)*2) f))) 2)&&((Nat.ble 2 2)&&(!false))) (rdI .i64 (setCells [(.int .i64 0),(.int .i64 0)] 0 (List.take 2 (List.drop ((Int.toNat d)*2) f))) fun y=>(cond (Nat.ble 3 (List.length a)) (Cx N m (fun ad=>(Gj N (List.take 3 a) b ad false (fun q=>(cond (Nat.ble 3 (List.length a)) (Cx N (IntKind.wrap .i64 (m+y)) (fun ae=>(Gj N (List.take 3 a) b ae false (fun r=>(cond ((decide (q>(0:Int)))==true) (cond (cond true (decide (r≤(0:Int))) false) (rdI .i64 (List.drop 1 (setCells [(.int .i64 0),(.int .i64 0)] 0 (List.take 2 (List.drop ((Int.toNat d)*2) f)))) fun af=>(Cx N af (fun aa=>(cond ((Nat.beq (List.length aa) 3)&&((Nat.ble 3 (List.length l))&&(!false))) (q2 q r true (IntKind.wrap .i64 (m+y)) (setCells l 0 aa) (setCells [(.int .i64 0),(.int .i64 0)] 0 (List.take 2 (List.drop ((Int.toNat d)*2) f)))) none)))) (q2 q r o (IntKind.wrap .i64 (m+y)) l (setCells [(.int .i64 0),(.int .i64 0)] 0 (List.take 2 (List.drop ((Int.toNat d)*2) f))))) (q2 q r o (IntKind.wrap .i64 (m+y)) l (setCells [(.int .i64 0),(.int .i64 0)] 0 (List.take 2 (List.drop ((Int.toNat d)*2) f))))))))) none))))) none)) none) none) none) none) (cond (Nat.ble 3 (List.length l)) (cond (Nat.ble 3 (List.length e)) (cond ((Nat.beq (List.length (List.take 3 l)) 3)&&((Nat.ble 3 (List.length l))&&(!false))) (cond ((Nat.beq (List.length (List.take 3 e)) 3)&&((Nat.ble 3 (List.length e))&&(!false))) (cond (Nat.ble 3 (List.length (setCells l 0 (List.take 3 l)))) (cond (Nat.ble 3 (List.length (setCells e 0 (List.take 3 e)))) (r0 (List.take 3 (setCells l 0 (List.take 3 l))) (List.take 3 (setCells e 0 (List.take 3 e))) o i) none) none) none) none) none) none))
def Da (N:Nat)  (r0:LA→LA→Bool→Bool→Option R) (f:LA) (j:Nat) (c b:Bool) (a:LA):Nat→Bool→Bool→Int→Int→Int→LA→LA→Option R
 | 0,_,_,_,_,_,_,_=>none
 | n+1,o,i,m,g,d,l,e=>(Ns N r0 f j c b a (Da N r0 f j c b a n) (fun q r t u w x=>(Kw N (Da N r0 f j c b a n) r0 i q r f j c g d b a e t u w x)) o i m g d l e)
def Wb (N:Nat)  (r0:LA→LA→Bool→Bool→Option R) (c:Bool) (p:LA) (b:Bool) (a:LA)  (q1:LA→Nat→Bool→Bool→Int→Int→Int→LA→LA→Option R) :Option R :=
 (rdI .i64 (List.drop 2 p) fun ag=>(rdL 2 (List.drop 4 p) fun f j=>(q1 f j false false ag ((j:Nat):Int) 0 [(.bool false),.nsl,.nsl] [(.bool false),.nsl,.nsl])))
def Aa9 (N:Nat)  (r0:LA→LA→Bool→Bool→Option R) (c:Bool) (p:LA) (b:Bool) (a:LA) :Option R:=(Wb N r0 c p b a (fun f j o i m g d l e=>(Da N r0 f j c b a N o i m g d l e)))
def Ak9 (N:Nat) (r0:LA→LA→Bool→Bool→Option R) (q0:Option R) (p:LA) (c:Bool) (a:LA) (b:Bool):Option R :=
 (cond (Nat.ble 22 (List.length p)) (Hp N (List.take 22 p) c 24 (fun ah=>(cond ((!ah)==false) (cond (Nat.ble 3 (List.length a)) (rdI .i64 (List.drop 2 p) fun ai=>(rdI .i64 (List.drop 3 p) fun aj=>(Y5 N (List.take 3 a) b ai aj (fun ak=>(cond (cond false true (!ak)) (r0 [(.bool false),.nsl,.nsl] [(.bool false),.nsl,.nsl] false false) q0))))) none) (r0 [(.bool false),.nsl,.nsl] [(.bool false),.nsl,.nsl] false false)))) none)
def Ala (N:Nat) (p:LA) (c:Bool) (a:LA) (b:Bool) (r0:LA→LA→Bool→Bool→Option R):Option R:=(Ak9 N r0 (Aa9 N r0 c p b a) p c a b)
def Vl:=(Al (@Ala R)).1
theorem Am6:@Vl R=@Ala R:=(Al _).2
def Qf:Hints:={ H:=(hS (hR [2,3,4,5,6,7]) (hJ (hS (hR [2,3,4,5,6,7,25]) (hN [2,3,4,5,6,7] (hS (hR [4,5,6,7]) hL) hL)) (hS (hR [2,3,4,5,6,7,8]) (hS (hS (hR [3,4,5,6,7,8,31,32,33]) (hN [4,5,6,7] (hN [3,4,5,6,7,8,31,32,33] (hS (hR [3,4,5,6,7,8,31,32,33,34]) (hS (hN [3,4,5,6,7,8,31,32,33] hL hL) (hS (hN [3,4,5,6,7,8,31,32,33] (hS (hR [3,4,5,6,7,8,10,31,32,33]) (hS (hR [3,4,5,6,7,8,10,11,31,32,33]) (hS (hR [3,4,5,6,7,10,11,12,31,32,33]) (hS (hR [3,4,5,6,7,10,11,12,13,31,32,33]) (hJ (hS (hR [3,4,5,6,7,10,11,12,13,31,32,33,54]) (hN [3,4,5,6,7,10,11,12,13,31,32,33] (hR [3,4,5,6,7,10,11,12,13,31,32,33]) hL)) (hS (hS (hR [3,4,5,6,7,10,11,31,32,33,63]) (hN [3,4,5,6,7,11,31,32,33] (hR [3,4,5,6,7,11,31,32,33]) hL)) (hR [3,4,5,6,7,8,31,32,33]))))))) hL) (hR [3,4,5,6,7,8,31,32,33])))) hL) hL)) (hS (hR [4,5,6,7]) hL))))),nils:=[],modes:=[(3,0),(3,0),(0,0),(0,0)],free:=[],cob:=[4,5,10] }
def Uk (N:Nat):List (Nat×Tw):=[(16,Vk N),(56,Ak8 N),(60,Ms N),(59,T2 N)]
def Ev (N:Nat):Env:=mkE 73 Qf (Uk N)
def Bae (N:Nat) (F:KF R):=As (Ev N) Tryz.f23 Qf.modes [] F
def Hq (N:Nat) (F:KF R):=atF (Ev N) [] N Tryz.f23 Qf (Bae N F)
def Cd  (F:KF R):LA→LA→Bool→Bool→Option R:=(fun al am an ao=>F (.tup [(.pagg al false),(.pagg am false),(.bool an),(.bool ao)]) [])
def Qg (i:Bool) (q r:Int) (f:LA) (j:Nat) (c:Bool) (g d:Int) (b:Bool) (a e:LA) (t:Bool) (u:Int) (w x:LA):St:={ s:=[(3,(.optr 300000 0)),(4,(.optr 300001 0)),(5,(.optr 300002 0)),(6,(.bool t)),(7,(.bool i)),(10,(.optr 300003 0)),(11,(.int .i64 u)),(12,(.int .i64 q)),(13,(.int .i64 r)),(31,(.imm f j 2 false c)),(32,(.int .i64 g)),(33,(.int .i64 d))],h:=[(300000,⟨false,false,true,b,0,a,false⟩),(300001,⟨false,false,true,false,0,w,false⟩),(300002,⟨false,false,true,false,0,e,false⟩),(300003,⟨false,false,true,false,0,x,false⟩)] }
def Aq5 (N:Nat) (F:KF R) (Q1:St→Option R):St→Option R:=Bh (Ev N) [] N (Hq N F [1,1,1,0,1,0,0,1,1,0,0,1,1,1,1,1] [Q1])
def Aq6 (N:Nat) (F:KF R) (Q1:St→Option R):St→Option R:=Bl (Ev N) [] N (Hq N F [1,1,1,0,1,0,0,1,1,0,0,1,1,1,1,1] [Q1])
def D2 (f:LA) (j:Nat) (c b:Bool) (a:LA) (o i:Bool) (m g d:Int) (l e:LA):St:={ s:=[(3,(.optr 300000 0)),(4,(.optr 300001 0)),(5,(.optr 300002 0)),(6,(.bool o)),(7,(.bool i)),(8,(.int .i64 m)),(31,(.imm f j 2 false c)),(32,(.int .i64 g)),(33,(.int .i64 d))],h:=[(300000,⟨false,false,true,b,0,a,false⟩),(300001,⟨false,false,true,false,0,l,false⟩),(300002,⟨false,false,true,false,0,e,false⟩)] }
def Aq7 (N:Nat) (F:KF R):St→Option R:=Bx (Ev N) [] N (Hq N F [1,1,1,0,1,0] []) N
def Fn (N:Nat) (F:KF R) (n:Nat):St→Option R:=A9 (Ev N) [] N (Hq N F [1,1,1,0,1,0] []) n
def Qh (c:Bool) (p:LA) (b:Bool) (a:LA):St:={ s:=[(2,(.optr 300000 0)),(3,(.optr 300001 0)),(4,(.optr 300002 0)),(5,(.optr 300003 0)),(6,(.bool false)),(7,(.bool false))],h:=[(300000,⟨false,false,true,c,0,p,false⟩),(300001,⟨false,false,true,b,0,a,false⟩),(300002,⟨false,false,true,false,0,[(.bool false),.nsl,.nsl],false⟩),(300003,⟨false,false,true,false,0,[(.bool false),.nsl,.nsl],false⟩)] }
def Aq8 (N:Nat) (F:KF R):St→Option R:=Bh (Ev N) [] N (Hq N F [1,1] [])
def Aq9 (N:Nat) (F:KF R):St→Option R:=Bl (Ev N) [] N (Hq N F [1,1] [])
theorem A2i (N:Nat) (Q1:St→Option R) (F:KF R) (i:Bool) (q r:Int) (f:LA) (j:Nat) (c:Bool) (g d:Int) (b:Bool) (a e:LA):∀ (t:Bool) (u:Int) (w x:LA),Aq6 N F Q1 (Qg i q r f j c g d b a e t u w x)=(Kw N (fun o i m g d l e=>Q1 (D2 f j c b a o i m g d l e)) (Cd F) i q r f j c g d b a e t u w x):=by
 intro t u w x
 have hK:Aq6 N F Q1 (Qg i q r f j c g d b a e t u w x)=(Wa N (fun o i m g d l e=>Q1 (D2 f j c b a o i m g d l e)) (Cd F) i q r f j c g d b a e t u w x):=by kernel_rfl
 exact hK
theorem A2j (N:Nat)  (F:KF R) (f:LA) (j:Nat) (c b:Bool) (a:LA):∀ (n:Nat) (o i:Bool) (m g d:Int) (l e:LA),Fn N F n (D2 f j c b a o i m g d l e)=(Da N (Cd F) f j c b a n o i m g d l e):=by
 intro n
 induction n with
 | zero=>intros;kernel_rfl
 | succ n ih =>
  intro o i m g d l e
  have e0:=funext fun o=>funext fun i=>funext fun m=>funext fun g=>funext fun d=>funext fun l=>funext fun e=>(show Fn N F n (D2 f j c b a o i m g d l e)=_ from ih o i m g d l e)
  have e1:(fun q r t u w x=>Aq5 N F (Fn N F n) (Qg i q r f j c g d b a e t u w x))=(fun q r t u w x=>(Kw N (Da N (Cd F) f j c b a n) (Cd F) i q r f j c g d b a e t u w x)):=by funext q;funext r;funext t;funext u;funext w;funext x;exact ((Aq ..).trans (A2i N (Fn N F n) F i q r f j c g d b a e t u w x)).trans (by rw [e0])
  have hK:Fn N F (n+1) (D2 f j c b a o i m g d l e)=(Ns N (Cd F) f j c b a (fun o i m g d l e=>Fn N F n (D2 f j c b a o i m g d l e)) (fun q r t u w x=>Aq5 N F (Fn N F n) (Qg i q r f j c g d b a e t u w x)) o i m g d l e):=by kernel_rfl
  exact hK.trans (by rw [e0,e1];rfl)
theorem A2k (N:Nat)  (F:KF R) (c:Bool) (p:LA) (b:Bool) (a:LA):Aq9 N F (Qh c p b a)=(Aa9 N (Cd F) c p b a):=by
 have e1:=funext fun f=>funext fun j=>funext fun o=>funext fun i=>funext fun m=>funext fun g=>funext fun d=>funext fun l=>funext fun e=>(show Aq7 N F (D2 f j c b a o i m g d l e)=_ from (Au ..).trans (A2j N F f j c b a N o i m g d l e))
 have hK:Aq9 N F (Qh c p b a)=(Wb N (Cd F) c p b a (fun f j o i m g d l e=>Aq7 N F (D2 f j c b a o i m g d l e))):=by kernel_rfl
 exact hK.trans (by rw [e1];rfl)
theorem Aba (N:Nat) (p:LA) (c:Bool) (a:LA) (b:Bool) (F:KF R):Ac Tryz.prog muts (Uk N) Qf N 23 [(.pagg p c),(.pagg a b)] [] F=(Vl N p c a b (Cd F)):=by
 have e1:=(show Aq8 N F (Qh c p b a)=_ from (Aq ..).trans (A2k N F c p b a))
 have hK:Ac Tryz.prog muts (Uk N) Qf N 23 [(.pagg p c),(.pagg a b)] [] F=(Ak9 N (Cd F) (Aq8 N F (Qh c p b a)) p c a b):=by kernel_rfl
 rw [Am6]
 exact hK.trans (by rw [e1];rfl)
def Nt (N:Nat) (args:List AV) (h:Ak) (k:KF R):Option R :=
 match args,h with
 | [(.pagg p c),(.pagg a b)],[]=>(Vl N p c a b (Cd k))
 | _,_=>none
def Ara (N:Nat):Tw:=⟨Nt N,fun args h k=>by
 unfold Nt;split
 exact twE (Aba ..) (Aba ..)
 rfl⟩
theorem Bfi (N:Nat):Az Tryz.prog 23 (Ara N):=fun args h res ab hh=>by
 change Nt N args h (fun v ab=>some (v,ab))=_ at hh
 unfold Nt at hh;split at hh
 exact Aa (T:=Uk N) ⟨Adz N,A2e N,Tr N,Ae8 N,trivial⟩ follows ((Aba ..).trans hh)
 cases hh
def A9f (N:Nat)  (r0:LA→Option R) (f:LA) (e:Nat) (a:Bool) (k0:Int→Int→LA→Option R)  (c b:Int) (d:LA):Option R :=
 (cond (decide (b<c)) (cond (Aj b e) (rdI .i64 (List.drop ((Int.toNat b)*1) f) fun j=>(k0 c (IntKind.wrap .i64 (b+(1:Int))) (Brs d j))) none) (r0 d))
def Azd (N:Nat)  (r0:LA→Option R) (f:LA) (e:Nat) (a:Bool):Nat→Int→Int→LA→Option R
 | 0,_,_,_=>none
 | n+1,c,b,d=>(A9f N r0 f e a (Azd N r0 f e a n) c b d)
def Bn1 (N:Nat) (r0:LA→Option R) (q0:LA→Nat→Int→Int→LA→Option R) (g:LA) (a:Bool):Option R :=
 (rdL 1 (List.drop 18 g) fun f e=>(q0 f e ((e:Nat):Int) 0 []))
def Bn2 (N:Nat) (g:LA) (a:Bool) (r0:LA→Option R):Option R:=(Bn1 N r0 (fun f e c b d=>(Azd N r0 f e a N c b d)) g a)
def A2l:=(Al (@Bn2 R)).1
theorem A9g:@A2l R=@Bn2 R:=(Al _).2
def Alb:Hints:={ H:=(hS (hR [1]) (hS (hR [1,3]) (hS (hS (hR [3,8,9,10]) (hN [3] (hN [3,8,9,10] (hS (hR [3,8,9,10,11]) (hS (hN [3,8,9,10] hL hL) (hS (hN [3,8,9,10] (hS (hR [3,5,8,9,10]) (hR [3,8,9,10])) hL) (hR [3,8,9,10])))) hL) hL)) (hS (hR [2]) hL)))),nils:=[],modes:=[],free:=[],cob:=[] }
def Att (N:Nat):List (Nat×Tw):=[]
def Atu (N:Nat):Env:=mkE 18 Alb (Att N)
def Bn3 (N:Nat) (F:KF R):=As (Atu N) Tryz.f117 Alb.modes [] F
def Bfj (N:Nat) (F:KF R):=atF (Atu N) [] N Tryz.f117 Alb (Bn3 N F)
def Abb  (F:KF R):LA→Option R:=(fun l=>F (.omap 300000) [(300000,⟨false,false,true,false,0,l,true⟩)])
def S6 (f:LA) (e:Nat) (a:Bool) (c b:Int) (d:LA):St:={ s:=[(3,(.omap 300000)),(8,(.imm f e 1 false a)),(9,(.int .i64 c)),(10,(.int .i64 b))],h:=[(300000,⟨false,false,true,false,0,d,true⟩)] }
def Bfk (N:Nat) (F:KF R):St→Option R:=Bx (Atu N) [] N (Bfj N F [1,1,0,1,0] []) N
def Alc (N:Nat) (F:KF R) (n:Nat):St→Option R:=A9 (Atu N) [] N (Bfj N F [1,1,0,1,0] []) n
theorem Bhs (N:Nat)  (F:KF R) (f:LA) (e:Nat) (a:Bool):∀ (n:Nat) (c b:Int) (d:LA),Alc N F n (S6 f e a c b d)=(Azd N (Abb F) f e a n c b d):=by
 intro n
 induction n with
 | zero=>intros;kernel_rfl
 | succ n ih =>
  intro c b d
  have e0:=funext fun c=>funext fun b=>funext fun d=>(show Alc N F n (S6 f e a c b d)=_ from ih c b d)
  have hK:Alc N F (n+1) (S6 f e a c b d)=(A9f N (Abb F) f e a (fun c b d=>Alc N F n (S6 f e a c b d)) c b d):=by kernel_rfl
  exact hK.trans (by rw [e0];rfl)
theorem Aze (N:Nat) (g:LA) (a:Bool) (F:KF R):Ac Tryz.prog muts (Att N) Alb N 117 [(.pagg g a)] [] F=(A2l N g a (Abb F)):=by
 have e1:=funext fun f=>funext fun e=>funext fun c=>funext fun b=>funext fun d=>(show Bfk N F (S6 f e a c b d)=_ from (Au ..).trans (Bhs N F f e a N c b d))
 have hK:Ac Tryz.prog muts (Att N) Alb N 117 [(.pagg g a)] [] F=(Bn1 N (Abb F) (fun f e c b d=>Bfk N F (S6 f e a c b d)) g a):=by kernel_rfl
 rw [A9g]
 exact hK.trans (by rw [e1];rfl)
def Ad5 (N:Nat) (args:List AV) (h:Ak) (k:KF R):Option R :=
 match args,h with
 | [(.pagg g a)],[]=>(A2l N g a (Abb k))
 | _,_=>none
def Bfl (N:Nat):Tw:=⟨Ad5 N,fun args h k=>by
 unfold Ad5;split
 exact twE (Aze ..) (Aze ..)
 rfl⟩
theorem Bp4 (N:Nat):Az Tryz.prog 117 (Bfl N):=fun args h res i hh=>by
 change Ad5 N args h (fun v i=>some (v,i))=_ at hh
 unfold Ad5 at hh;split at hh
 exact Aa (T:=Att N) trivial follows ((Aze ..).trans hh)
 cases hh
def Bfm (N:Nat) (r0:Int→Int→Option R)  (a:LA) (b:Bool):Option R :=
 (cond (Nat.ble 22 (List.length a)) (M0 N (List.take 22 a) b (fun d=>(cond (!d) (r0 0 0) (rdI .i64 (List.drop 11 a) fun e=>(rdI .i64 (List.drop 15 a) fun f=>(rdI .i64 (List.drop 10 a) fun g=>(r0 (Zd (Zd e (IntKind.wrap .i64 (f+(1:Int)))) (1:Int)) (Zd g (1:Int))))))))) none)
def Bfn (N:Nat) (a:LA) (b:Bool) (r0:Int→Int→Option R):Option R:=(Bfm N r0 a b)
def Ald:=(Al (@Bfn R)).1
theorem A9h:@Ald R=@Bfn R:=(Al _).2
def Bfo:Hints:={ H:=(hS (hR [1]) (hS (hS (hR [1,6]) (hN [1] (hS (hR [2,3]) hL) hL)) (hS (hR [2,3]) hL))),nils:=[],modes:=[],free:=[],cob:=[] }
def A6e (N:Nat):List (Nat×Tw):=[(48,Ou N)]
def Azf  (F:KF R):Int→Int→Option R:=(fun i j=>F (.tup [(.int .i64 i),(.int .i64 j)]) [])
theorem Azg (N:Nat) (a:LA) (b:Bool) (F:KF R):Ac Tryz.prog muts (A6e N) Bfo N 136 [(.pagg a b)] [] F=(Ald N a b (Azf F)):=by
 have hK:Ac Tryz.prog muts (A6e N) Bfo N 136 [(.pagg a b)] [] F=(Bfm N (Azf F) a b):=by kernel_rfl
 rw [A9h]
 exact hK
def Ad6 (N:Nat) (args:List AV) (h:Ak) (k:KF R):Option R :=
 match args,h with
 | [(.pagg a b)],[]=>(Ald N a b (Azf k))
 | _,_=>none
def Ale (N:Nat):Tw:=⟨Ad6 N,fun args h k=>by
 unfold Ad6;split
 exact twE (Azg ..) (Azg ..)
 rfl⟩
theorem Azh (N:Nat):Az Tryz.prog 136 (Ale N):=fun args h res c hh=>by
 change Ad6 N args h (fun v c=>some (v,c))=_ at hh
 unfold Ad6 at hh;split at hh
 exact Aa (T:=A6e N) ⟨Vi N,trivial⟩ follows ((Azg ..).trans hh)
 cases hh
def Arb (N:Nat) (r0:LA→Option R)  (a:LA) (b:Bool):Option R :=
 (cond (Nat.ble 22 (List.length a)) (M0 N (List.take 22 a) b (fun f=>(cond (!f) (r0 [(.int .i64 0),(.int .i64 0)]) (cond (Nat.ble 22 (List.length a)) (Ald N (List.take 22 a) b (fun g i=>(rdI .i64 (List.drop 19 a) fun c=>(rdI .i64 (List.drop 20 a) fun d=>(cond (c==(0:Int)) (r0 [(.int .i64 c),(.int .i64 (Ani d g))]) (cond (c==(2:Int)) (r0 [(.int .i64 c),(.int .i64 (Ani d i))]) (r0 [(.int .i64 c),(.int .i64 d)]))))))) none)))) none)
def Arc (N:Nat) (a:LA) (b:Bool) (r0:LA→Option R):Option R:=(Arb N r0 a b)
def Abc:=(Al (@Arc R)).1
theorem Ard:@Abc R=@Arc R:=(Al _).2
def Avy:Hints:={ H:=(hS (hR [1,2]) (hS (hS (hR [1,2,8]) (hN [1,2] (hS (hR [2]) hL) hL)) (hS (hR [1,2,3,4]) (hS (hR [2,3,4,5]) (hS (hS (hR [2,3,4,5,21]) (hN [2,5] (hS (hR [2,3,4,5,21,22]) (hN [2,5] (hR [2,5]) (hS (hR [2,4,5,29]) (hN [2,5] (hR [2,5]) hL)))) hL)) (hS (hR [2]) hL)))))),nils:=[],modes:=[(3,0)],free:=[],cob:=[] }
def Alf (N:Nat):List (Nat×Tw):=[(48,Ou N),(136,Ale N)]
def Afn  (F:KF R):LA→Option R:=(fun j=>F (.pagg j false) [])
theorem Afo (N:Nat) (a:LA) (b:Bool) (F:KF R):Ac Tryz.prog muts (Alf N) Avy N 84 [(.pagg a b)] [] F=(Abc N a b (Afn F)):=by
 have hK:Ac Tryz.prog muts (Alf N) Avy N 84 [(.pagg a b)] [] F=(Arb N (Afn F) a b):=by kernel_rfl
 rw [Ard]
 exact hK
def Qi (N:Nat) (args:List AV) (h:Ak) (k:KF R):Option R :=
 match args,h with
 | [(.pagg a b)],[]=>(Abc N a b (Afn k))
 | _,_=>none
def Avz (N:Nat):Tw:=⟨Qi N,fun args h k=>by
 unfold Qi;split
 exact twE (Afo ..) (Afo ..)
 rfl⟩
theorem Bht (N:Nat):Az Tryz.prog 84 (Avz N):=fun args h res e hh=>by
 change Qi N args h (fun v e=>some (v,e))=_ at hh
 unfold Qi at hh;split at hh
 exact Aa (T:=Alf N) ⟨Vi N,Azh N,trivial⟩ follows ((Afo ..).trans hh)
 cases hh
def Am7 (N:Nat)  (r0:Int→Option R) (e f:Int) (c:Bool) (b:LA) (d:Bool) (a:LA)   (g:Bool):Option R :=
 (cond g (rdI .i64 (List.drop 1 a) fun l=>(r0 (IntKind.wrap .i64 ((IntKind.wrap .i64 (e+l)) - (1:Int))))) (rdI .i64 a fun m=>(cond ((m==(2:Int))==true) (rdI .i64 (List.drop 1 a) fun n=>(cond (cond true (decide (n≤f)) false) (rdI .i64 (List.drop 12 b) fun o=>(rdI .i64 (List.drop 1 a) fun p=>(r0 (IntKind.wrap .i64 ((IntKind.wrap .i64 ((IntKind.wrap .i64 (e+o))+p)) - (1:Int)))))) (r0 (-1)))) (r0 (-1)))))
def Are (N:Nat)  (r0:Int→Option R) (e f:Int) (c:Bool) (b:LA) (d:Bool) (a:LA) (g:Bool):Option R:=(Am7 N r0 e f c b d a g)
def Am8 (N:Nat)  (r0:Int→Option R) (e f:Int) (c:Bool) (b:LA) (d:Bool) (a:LA)  (q2:Bool→Option R) (i:Bool):Option R :=
 (cond i (rdI .i64 (List.drop 1 a) fun q=>(r0 (IntKind.wrap .i64 (q - (1:Int))))) (rdI .i64 a fun r=>(cond ((r==(1:Int))==true) (rdI .i64 (List.drop 1 a) fun t=>(rdI .i64 (List.drop 12 b) fun u=>(q2 (cond true (decide (t≤u)) false)))) (q2 false))))
def Arf (N:Nat)  (r0:Int→Option R) (e f:Int) (c:Bool) (b:LA) (d:Bool) (a:LA) (i:Bool):Option R:=(Am8 N r0 e f c b d a (fun g=>(Are N r0 e f c b d a g)) i)
def Wc (N:Nat)  (r0:Int→Option R) (c:Bool) (b:LA) (d:Bool) (a:LA)  (q1:Int→Int→Bool→Option R) :Option R :=
 (cond (Nat.ble 22 (List.length b)) (Ald N (List.take 22 b) c (fun e f=>(rdI .i64 a fun w=>(cond ((w==(0:Int))==true) (rdI .i64 (List.drop 1 a) fun x=>(q1 e f (cond true (decide (x≤e)) false))) (q1 e f false))))) none)
def Abd (N:Nat)  (r0:Int→Option R) (c:Bool) (b:LA) (d:Bool) (a:LA) :Option R:=(Wc N r0 c b d a (fun e f i=>(Arf N r0 e f c b d a i)))
def Alg (N:Nat) (r0:Int→Option R) (q0:Option R) (b:LA) (c:Bool) (a:LA) (d:Bool):Option R :=
 (cond (Nat.ble 22 (List.length b)) (M0 N (List.take 22 b) c (fun y=>(cond ((!y)==false) (rdI .i64 (List.drop 1 a) fun z=>(cond (cond false true (decide (z<(1:Int)))) (r0 (-1)) q0)) (r0 (-1))))) none)
def Alh (N:Nat) (b:LA) (c:Bool) (a:LA) (d:Bool) (r0:Int→Option R):Option R:=(Alg N r0 (Abd N r0 c b d a) b c a d)
def Vm:=(Al (@Alh R)).1
theorem Am9:@Vm R=@Alh R:=(Al _).2
def Qj:Hints:={ H:=(hS (hR [2,3]) (hJ (hS (hR [2,3,14]) (hN [2,3] (hS (hR [4]) hL) hL)) (hS (hR [2,3,5,6]) (hS (hS (hJ (hR [2,3,5,6,20]) (hS (hS (hR [4]) hL) (hJ (hR [2,3,5,6,33]) (hS (hS (hR [4]) hL) (hS (hR [2,3,5,49]) (hS (hS (hR [4]) hL) hL)))))) hL) (hS (hR [4]) hL))))),nils:=[],modes:=[],free:=[],cob:=[] }
def Ul (N:Nat):List (Nat×Tw):=[(48,Ou N),(136,Ale N)]
def Ew (N:Nat):Env:=mkE 67 Qj (Ul N)
def Baf (N:Nat) (F:KF R):=As (Ew N) Tryz.f167 Qj.modes [] F
def Hr (N:Nat) (F:KF R):=atF (Ew N) [] N Tryz.f167 Qj (Baf N F)
def Db  (F:KF R):Int→Option R:=(fun aa=>F (.int .i64 aa) [])
def Qk (e f:Int) (c:Bool) (b:LA) (d:Bool) (a:LA) (g:Bool):St:={ s:=[(2,(.optr 300000 0)),(3,(.optr 300001 0)),(5,(.int .i64 e)),(6,(.int .i64 f)),(33,(.bool g))],h:=[(300000,⟨false,false,true,c,0,b,false⟩),(300001,⟨false,false,true,d,0,a,false⟩)] }
def Arg (N:Nat) (F:KF R):St→Option R:=Bh (Ew N) [] N (Hr N F [1,1,1,0,0,1,1,1] [])
def Arh (N:Nat) (F:KF R):St→Option R:=Bl (Ew N) [] N (Hr N F [1,1,1,0,0,1,1,1] [])
def Ql (e f:Int) (c:Bool) (b:LA) (d:Bool) (a:LA) (i:Bool):St:={ s:=[(2,(.optr 300000 0)),(3,(.optr 300001 0)),(5,(.int .i64 e)),(6,(.int .i64 f)),(20,(.bool i))],h:=[(300000,⟨false,false,true,c,0,b,false⟩),(300001,⟨false,false,true,d,0,a,false⟩)] }
def Ari (N:Nat) (F:KF R):St→Option R:=Bh (Ew N) [] N (Hr N F [1,1,1,0,0,1] [])
def Arj (N:Nat) (F:KF R):St→Option R:=Bl (Ew N) [] N (Hr N F [1,1,1,0,0,1] [])
def Qm (c:Bool) (b:LA) (d:Bool) (a:LA):St:={ s:=[(2,(.optr 300000 0)),(3,(.optr 300001 0))],h:=[(300000,⟨false,false,true,c,0,b,false⟩),(300001,⟨false,false,true,d,0,a,false⟩)] }
def Ark (N:Nat) (F:KF R):St→Option R:=Bh (Ew N) [] N (Hr N F [1,1] [])
def Arl (N:Nat) (F:KF R):St→Option R:=Bl (Ew N) [] N (Hr N F [1,1] [])
theorem A2m (N:Nat)  (F:KF R) (e f:Int) (c:Bool) (b:LA) (d:Bool) (a:LA):∀ (g:Bool),Arh N F (Qk e f c b d a g)=(Are N (Db F) e f c b d a g):=by
 intro g
 have hK:Arh N F (Qk e f c b d a g)=(Am7 N (Db F) e f c b d a g):=by kernel_rfl
 exact hK
theorem A2n (N:Nat)  (F:KF R) (e f:Int) (c:Bool) (b:LA) (d:Bool) (a:LA):∀ (i:Bool),Arj N F (Ql e f c b d a i)=(Arf N (Db F) e f c b d a i):=by
 intro i
 have e1:=funext fun g=>(show Arg N F (Qk e f c b d a g)=_ from (Aq ..).trans (A2m N F e f c b d a g))
 have hK:Arj N F (Ql e f c b d a i)=(Am8 N (Db F) e f c b d a (fun g=>Arg N F (Qk e f c b d a g)) i):=by kernel_rfl
 exact hK.trans (by rw [e1];rfl)
theorem A2o (N:Nat)  (F:KF R) (c:Bool) (b:LA) (d:Bool) (a:LA):Arl N F (Qm c b d a)=(Abd N (Db F) c b d a):=by
 have e1:=funext fun e=>funext fun f=>funext fun i=>(show Ari N F (Ql e f c b d a i)=_ from (Aq ..).trans (A2n N F e f c b d a i))
 have hK:Arl N F (Qm c b d a)=(Wc N (Db F) c b d a (fun e f i=>Ari N F (Ql e f c b d a i))):=by kernel_rfl
 exact hK.trans (by rw [e1];rfl)
theorem Abe (N:Nat) (b:LA) (c:Bool) (a:LA) (d:Bool) (F:KF R):Ac Tryz.prog muts (Ul N) Qj N 167 [(.pagg b c),(.pagg a d)] [] F=(Vm N b c a d (Db F)):=by
 have e1:=(show Ark N F (Qm c b d a)=_ from (Aq ..).trans (A2o N F c b d a))
 have hK:Ac Tryz.prog muts (Ul N) Qj N 167 [(.pagg b c),(.pagg a d)] [] F=(Alg N (Db F) (Ark N F (Qm c b d a)) b c a d):=by kernel_rfl
 rw [Am9]
 exact hK.trans (by rw [e1];rfl)
def Nu (N:Nat) (args:List AV) (h:Ak) (k:KF R):Option R :=
 match args,h with
 | [(.pagg b c),(.pagg a d)],[]=>(Vm N b c a d (Db k))
 | _,_=>none
def Arm (N:Nat):Tw:=⟨Nu N,fun args h k=>by
 unfold Nu;split
 exact twE (Abe ..) (Abe ..)
 rfl⟩
theorem Bfp (N:Nat):Az Tryz.prog 167 (Arm N):=fun args h res j hh=>by
 change Nu N args h (fun v j=>some (v,j))=_ at hh
 unfold Nu at hh;split at hh
 exact Aa (T:=Ul N) ⟨Vi N,Azh N,trivial⟩ follows ((Abe ..).trans hh)
 cases hh
def A9i (N:Nat)  (r0:LA→Nat→Option R) (c:Bool) (b:LA) (d:Bool) (a:LA)   (f:Bool) (e:LA):Option R :=
 (cond f (r0 (List.take 4 ((List.take 2 e)++[(.int .i64 1),(.int .i64 1)])) 2) (rdI .i64 (List.drop 1 a) fun n=>(rdI .i64 (List.drop 11 b) fun o=>(cond (decide (n≥o)) (r0 (List.take 4 ((List.take 2 e)++[(.int .i64 2),(.int .i64 1)])) 2) (r0 (List.take 2 e) 1)))))
def Bfq (N:Nat)  (r0:LA→Nat→Option R) (c:Bool) (b:LA) (d:Bool) (a:LA) (f:Bool) (e:LA):Option R:=(A9i N r0 c b d a f e)
def Bfr (N:Nat) (r0:LA→Nat→Option R) (q0:Bool→LA→Option R) (b:LA) (c:Bool) (a:LA) (d:Bool):Option R :=
 (cond (Nat.ble 22 (List.length b)) (cond (Nat.ble 2 (List.length a)) (cond ((!d)||(Bu (List.take 2 a))) (Vm N (List.take 22 b) c (List.take 2 a) false (fun p=>(cond (decide (p<(0:Int))) (r0 [] 0) (cond (Nat.ble 22 (List.length b)) (Ald N (List.take 22 b) c (fun i j=>(rdI .i64 a fun g=>(cond (g==(0:Int)) (rdI .i64 (List.drop 1 a) fun l=>(rdI .i64 (List.drop 1 a) fun q=>(rdI .i64 (List.drop 11 b) fun r=>(cond ((decide (q≥r))==true) (rdI .i64 (List.drop 12 b) fun t=>(q0 (cond true (decide (t>(0:Int))) false) [(.int .i64 0),(.int .i64 (Ani (IntKind.wrap .i64 (l+(1:Int))) i))])) (q0 false [(.int .i64 0),(.int .i64 (Ani (IntKind.wrap .i64 (l+(1:Int))) i))]))))) (cond (g==(1:Int)) (rdI .i64 (List.drop 1 a) fun u=>(rdI .i64 (List.drop 12 b) fun w=>(cond (decide (u<w)) (rdI .i64 (List.drop 1 a) fun x=>(r0 [(.int .i64 1),(.int .i64 (IntKind.wrap .i64 (x+(1:Int))))] 1)) (r0 [(.int .i64 2),(.int .i64 1)] 1)))) (cond (g==(2:Int)) (rdI .i64 (List.drop 1 a) fun y=>(rdI .i64 (List.drop 10 b) fun z=>(cond (decide (y≥z)) (rdI .i64 (List.drop 1 a) fun aa=>(r0 [(.int .i64 0),(.int .i64 1),(.int .i64 2),(.int .i64 (Ani (IntKind.wrap .i64 (aa+(1:Int))) j))] 2)) (rdI .i64 (List.drop 1 a) fun ab=>(r0 [(.int .i64 2),(.int .i64 (Ani (IntKind.wrap .i64 (ab+(1:Int))) j))] 1))))) (r0 [] 0))))))) none)))) none) none) none)
def Bfs (N:Nat) (b:LA) (c:Bool) (a:LA) (d:Bool) (r0:LA→Nat→Option R):Option R:=(Bfr N r0 (fun f e=>(Bfq N r0 c b d a f e)) b c a d)
def Ad7:=(Al (@Bfs R)).1
theorem A9j:@Ad7 R=@Bfs R:=(Al _).2
def Ali:Hints:={ H:=(hS (hR [2,3]) (hS (hS (hR [2,3,11]) (hN [2,3] (hS (hR [4]) hL) hL)) (hS (hR [2,3,5,6]) (hS (hR [2,3,5,6,7]) (hS (hS (hR [2,3,5,6,7,18]) (hN [7] (hS (hR [2,3,5,6,7,18,19]) (hN [7] (hS (hR [2,3,7]) (hJ (hR [2,3,7,39]) (hN [7] (hR [7]) (hS (hR [7,48]) (hN [7] (hR [7]) hL))))) (hS (hR [2,3,6,7,18,53]) (hN [7] (hS (hR [3,7,59]) (hN [7] (hR [7]) (hR [7]))) (hS (hR [2,3,6,7,71]) (hN [7] (hS (hS (hR [3,6,7,77]) (hN [3,6,7] (hR [3,6,7]) hL)) (hR [7])) hL)))))) hL)) (hS (hR [4]) hL)))))),nils:=[(4,2),(7,2)],modes:=[(1,2)],free:=[],cob:=[] }
def Atv (N:Nat):List (Nat×Tw):=[(167,Arm N),(136,Ale N)]
def Atw (N:Nat):Env:=mkE 92 Ali (Atv N)
def Bn4 (N:Nat) (F:KF R):=As (Atw N) Tryz.f118 Ali.modes [] F
def Bft (N:Nat) (F:KF R):=atF (Atw N) [] N Tryz.f118 Ali (Bn4 N F)
def Abf  (F:KF R):LA→Nat→Option R:=(fun ac ad=>F (.imm ac ad 2 false false) [])
def Alj (c:Bool) (b:LA) (d:Bool) (a:LA) (f:Bool) (e:LA):St:={ s:=[(2,(.optr 300000 0)),(3,(.optr 300001 0)),(7,(.own 464 0 1)),(39,(.bool f))],h:=[(464,⟨false,false,true,false,2,e,false⟩),(300000,⟨false,false,true,c,0,b,false⟩),(300001,⟨false,false,true,d,0,a,false⟩)] }
def Bfu (N:Nat) (F:KF R):St→Option R:=Bh (Atw N) [] N (Bft N F [1,1,1,1,0,1,0,1,0,1,1] [])
def Bfv (N:Nat) (F:KF R):St→Option R:=Bl (Atw N) [] N (Bft N F [1,1,1,1,0,1,0,1,0,1,1] [])
theorem Bhu (N:Nat)  (F:KF R) (c:Bool) (b:LA) (d:Bool) (a:LA):∀ (f:Bool) (e:LA),Bfv N F (Alj c b d a f e)=(Bfq N (Abf F) c b d a f e):=by
 intro f e
 have hK:Bfv N F (Alj c b d a f e)=(A9i N (Abf F) c b d a f e):=by kernel_rfl
 exact hK
theorem Azi (N:Nat) (b:LA) (c:Bool) (a:LA) (d:Bool) (F:KF R):Ac Tryz.prog muts (Atv N) Ali N 118 [(.pagg b c),(.pagg a d)] [] F=(Ad7 N b c a d (Abf F)):=by
 have e1:=funext fun f=>funext fun e=>(show Bfu N F (Alj c b d a f e)=_ from (Aq ..).trans (Bhu N F c b d a f e))
 have hK:Ac Tryz.prog muts (Atv N) Ali N 118 [(.pagg b c),(.pagg a d)] [] F=(Bfr N (Abf F) (fun f e=>Bfu N F (Alj c b d a f e)) b c a d):=by kernel_rfl
 rw [A9j]
 exact hK.trans (by rw [e1];rfl)
def Ad8 (N:Nat) (args:List AV) (h:Ak) (k:KF R):Option R :=
 match args,h with
 | [(.pagg b c),(.pagg a d)],[]=>(Ad7 N b c a d (Abf k))
 | _,_=>none
def Bfw (N:Nat):Tw:=⟨Ad8 N,fun args h k=>by
 unfold Ad8;split
 exact twE (Azi ..) (Azi ..)
 rfl⟩
theorem Bp5 (N:Nat):Az Tryz.prog 118 (Bfw N):=fun args h res m hh=>by
 change Ad8 N args h (fun v m=>some (v,m))=_ at hh
 unfold Ad8 at hh;split at hh
 exact Aa (T:=Atv N) ⟨Bfp N,Azh N,trivial⟩ follows ((Azi ..).trans hh)
 cases hh
def A9k (N:Nat) (r0:Bool→Option R)  (b:LA) (c:Bool) (a:Int):Option R :=
 (rdI .i64 b fun e=>(r0 (e==a)))
def A9l (N:Nat) (b:LA) (c:Bool) (a:Int) (r0:Bool→Option R):Option R:=(A9k N r0 b c a)
def Kx:=(Al (@A9l R)).1
theorem Arn:@Kx R=@A9l R:=(Al _).2
def Av0:Hints:={ H:=(hS (hR [1,2]) (hS (hR [3]) hL)),nils:=[],modes:=[],free:=[],cob:=[] }
def Alk (N:Nat):List (Nat×Tw):=[]
def Afp (a:Int) (F:KF R):Bool→Option R:=(fun f=>F (.bool f) [(100000,⟨false,false,false,false,0,[(.int .i64 a)],false⟩)])
theorem Afq (N:Nat) (b:LA) (c:Bool) (a:Int) (F:KF R):Ac Tryz.prog muts (Alk N) Av0 N 120 [(.pagg b c),(.optr 100000 0)] [(100000,⟨false,false,false,false,0,[(.int .i64 a)],false⟩)] F=(Kx N b c a (Afp a F)):=by
 have hK:Ac Tryz.prog muts (Alk N) Av0 N 120 [(.pagg b c),(.optr 100000 0)] [(100000,⟨false,false,false,false,0,[(.int .i64 a)],false⟩)] F=(A9k N (Afp a F) b c a):=by kernel_rfl
 rw [Arn]
 exact hK
def Qn (N:Nat) (args:List AV) (h:Ak) (k:KF R):Option R :=
 match args,h with
 | [(.pagg b c),(.optr 100000 0)],[(100000,⟨false,false,false,false,0,[(.int .i64 a)],false⟩)]=>(Kx N b c a (Afp a k))
 | _,_=>none
def Av1 (N:Nat):Tw:=⟨Qn N,fun args h k=>by
 unfold Qn;split
 exact twE (Afq ..) (Afq ..)
 rfl⟩
theorem Bhv (N:Nat):Az Tryz.prog 120 (Av1 N):=fun args h res d hh=>by
 change Qn N args h (fun v d=>some (v,d))=_ at hh
 unfold Qn at hh;split at hh
 exact Aa (T:=Alk N) trivial follows ((Afq ..).trans hh)
 cases hh
end
end Gx

namespace Gx
open Go Go.Proofs
set_option maxRecDepth 100000
noncomputable section
variable {R:Type}
def Ch (N:Nat)  (r0:Int→Option R) (b:LA) (d:Nat) (f e:Bool) (a:Int) (k0:Int→Int→Option R)  (g c:Int):Option R :=
 (cond (decide (c<g)) (cond (Aj c d) (cond (Nat.ble 2 (List.length (List.drop ((Int.toNat c)*2) b))) (cond ((!e)||(Bu (List.take 2 (List.drop ((Int.toNat c)*2) b)))) (Kx N (List.take 2 (List.drop ((Int.toNat c)*2) b)) false a (fun j=>(cond j (r0 c) (k0 g (IntKind.wrap .i64 (c+(1:Int))))))) none) none) none) (r0 (-1)))
def Bm (N:Nat)  (r0:Int→Option R) (b:LA) (d:Nat) (f e:Bool) (a:Int):Nat→Int→Int→Option R
 | 0,_,_=>none
 | n+1,g,c=>(Ch N r0 b d f e a (Bm N r0 b d f e a n) g c)
def Cu (N:Nat) (r0:Int→Option R) (q0:Int→Int→Option R) (b:LA) (d:Nat) (f e:Bool) (a:Int):Option R :=
 (q0 ((d:Nat):Int) 0)
def Cv (N:Nat) (b:LA) (d:Nat) (f e:Bool) (a:Int) (r0:Int→Option R):Option R:=(Cu N r0 (fun g c=>(Bm N r0 b d f e a N g c)) b d f e a)
def An:=(Al (@Cv R)).1
theorem Bi:@An R=@Cv R:=(Al _).2
def A2:Hints:={ H:=(hS (hR [0,1]) (hS (hS (hR [0,1,7,8]) (hS (hN [0,1,7,8] (hS (hR [0,1,7,8,9]) (hS (hN [0,1,7,8] hL hL) (hS (hN [0,1,7,8] (hS (hR [0,1,5,7,8]) (hS (hR [0,1,5,7,8,16]) (hN [0,1,7,8] (hS (hR [4]) hL) hL))) hL) (hR [0,1,7,8])))) hL) hL)) (hS (hR [4]) hL))),nils:=[],modes:=[],free:=[],cob:=[] }
def A4 (N:Nat):List (Nat×Tw):=[(120,Av1 N)]
def A5 (N:Nat):Env:=mkE 19 A2 (A4 N)
def Ft (N:Nat) (F:KF R):=As (A5 N) Tryz.f119 A2.modes [100000] F
def Ck (N:Nat) (F:KF R):=atF (A5 N) [100000] N Tryz.f119 A2 (Ft N F)
def Ax (a:Int) (F:KF R):Int→Option R:=(fun l=>F (.int .i64 l) [(100000,⟨false,false,false,false,0,[(.int .i64 a)],false⟩)])
def Ar (b:LA) (d:Nat) (f e:Bool) (a g c:Int):St:={ s:=[(0,(.imm b d 2 f e)),(1,(.fn 120 [(.optr 100000 0)])),(7,(.int .i64 g)),(8,(.int .i64 c))],h:=[(100000,⟨false,false,false,false,0,[(.int .i64 a)],false⟩)] }
def Cl (N:Nat) (F:KF R):St→Option R:=Bx (A5 N) [100000] N (Ck N F [1,0,1,0] []) N
def A3 (N:Nat) (F:KF R) (n:Nat):St→Option R:=A9 (A5 N) [100000] N (Ck N F [1,0,1,0] []) n
theorem Fb (N:Nat)  (F:KF R) (b:LA) (d:Nat) (f e:Bool) (a:Int):∀ (n:Nat) (g c:Int),A3 N F n (Ar b d f e a g c)=(Bm N (Ax a F) b d f e a n g c):=by
 intro n
 induction n with
 | zero=>intros;kernel_rfl
 | succ n ih =>
  intro g c
  have e0:=funext fun g=>funext fun c=>(show A3 N F n (Ar b d f e a g c)=_ from ih g c)
  have hK:A3 N F (n+1) (Ar b d f e a g c)=(Ch N (Ax a F) b d f e a (fun g c=>A3 N F n (Ar b d f e a g c)) g c):=by kernel_rfl
  exact hK.trans (by rw [e0];rfl)
theorem Bn (N:Nat) (b:LA) (d:Nat) (f e:Bool) (a:Int) (F:KF R):Ac Tryz.prog muts (A4 N) A2 N 119 [(.imm b d 2 f e),(.fn 120 [(.optr 100000 0)])] [(100000,⟨false,false,false,false,0,[(.int .i64 a)],false⟩)] F=(An N b d f e a (Ax a F)):=by
 have e1:=funext fun g=>funext fun c=>(show Cl N F (Ar b d f e a g c)=_ from (Au ..).trans (Fb N F b d f e a N g c))
 have hK:Ac Tryz.prog muts (A4 N) A2 N 119 [(.imm b d 2 f e),(.fn 120 [(.optr 100000 0)])] [(100000,⟨false,false,false,false,0,[(.int .i64 a)],false⟩)] F=(Cu N (Ax a F) (fun g c=>Cl N F (Ar b d f e a g c)) b d f e a):=by kernel_rfl
 rw [Bi]
 exact hK.trans (by rw [e1];rfl)
def A0 (N:Nat) (args:List AV) (h:Ak) (k:KF R):Option R :=
 match args,h with
 | [(.imm b d 2 f e),(.fn 120 [(.optr 100000 0)])],[(100000,⟨false,false,false,false,0,[(.int .i64 a)],false⟩)]=>(An N b d f e a (Ax a k))
 | _,_=>none
def Cm (N:Nat):Tw:=⟨A0 N,fun args h k=>by
 unfold A0;split
 exact twE (Bn ..) (Bn ..)
 rfl⟩
theorem Fx (N:Nat):Az Tryz.prog 119 (Cm N):=fun args h res i hh=>by
 change A0 N args h (fun v i=>some (v,i))=_ at hh
 unfold A0 at hh;split at hh
 exact Aa (T:=A4 N) ⟨Bhv N,trivial⟩ follows ((Bn ..).trans hh)
 cases hh
def A9m (N:Nat)  (r0:Nat→Int→Int→LA→Option R) (g:LA) (c:Nat) (i j e:Bool) (a o:LA) (k0:Nat→Int→Int→LA→LA→Option R)  (d:Nat) (l f:Int) (m b:LA):Option R :=
 (cond (decide (f<l)) (cond (Aj f c) (rdI .i64 (List.drop ((Int.toNat f)*1) g) fun t=>(cond (Nat.ble 22 (List.length a)) (cond (Nat.ble 2 (List.length b)) (Ad7 N (List.take 22 a) e (List.take 2 b) false (fun q r=>(An N q r false false t (fun p=>(cond ((decide (p<(0:Int)))==false) (cond ((t != (0:Int))==true) (cond (cond false true (cond true (A94 o f) false)) (r0 0 f 16 []) (cond (Aj p r) (cond (Nat.ble 2 (List.length (List.drop ((Int.toNat p)*2) q))) (cond ((Nat.beq (List.length (List.take 2 (List.drop ((Int.toNat p)*2) q))) 2)&&((Nat.ble 2 (List.length b))&&(!false))) (cond (Nat.ble 2 (List.length (setCells b 0 (List.take 2 (List.drop ((Int.toNat p)*2) q))))) (cond ((Nat.beq (List.length (List.take 2 (setCells b 0 (List.take 2 (List.drop ((Int.toNat p)*2) q))))) 2)&&(Nat.ble 2 2)) (cond ((Nat.ble (d+1) 140737488355328)&&(Nat.ble ((d+1)*16) 140737488355328)) (k0 (d+1) l (IntKind.wrap .i64 (f+(1:Int))) ((List.take (d*2) m)++(List.take 2 (setCells [(.int .i64 0),(.int .i64 0)] 0 (List.take 2 (setCells b 0 (List.take 2 (List.drop ((Int.toNat p)*2) q))))))) (setCells b 0 (List.take 2 (List.drop ((Int.toNat p)*2) q)))) none) none) none) none) none) none)) (cond (Aj p r) (cond (Nat.ble 2 (List.length (List.drop ((Int.toNat p)*2) q))) (cond ((Nat.beq (List.length (List.take 2 (List.drop ((Int.toNat p)*2) q))) 2)&&((Nat.ble 2 (List.length b))&&(!false))) (cond (Nat.ble 2 (List.length (setCells b 0 (List.take 2 (List.drop ((Int.toNat p)*2) q))))) (cond ((Nat.beq (List.length (List.take 2 (setCells b 0 (List.take 2 (List.drop ((Int.toNat p)*2) q))))) 2)&&(Nat.ble 2 2)) (cond ((Nat.ble (d+1) 140737488355328)&&(Nat.ble ((d+1)*16) 140737488355328)) (k0 (d+1) l (IntKind.wrap .i64 (f+(1:Int))) ((List.take (d*2) m)++(List.take 2 (setCells [(.int .i64 0),(.int .i64 0)] 0 (List.take 2 (setCells b 0 (List.take 2 (List.drop ((Int.toNat p)*2) q))))))) (setCells b 0 (List.take 2 (List.drop ((Int.toNat p)*2) q)))) none) none) none) none) none) none)) (r0 0 f 16 [])))))) none) none)) none) (r0 d ((c:Nat):Int) 0 m))
def Azj (N:Nat)  (r0:Nat→Int→Int→LA→Option R) (g:LA) (c:Nat) (i j e:Bool) (a o:LA):Nat→Nat→Int→Int→LA→LA→Option R
 | 0,_,_,_,_,_=>none
 | n+1,d,l,f,m,b=>(A9m N r0 g c i j e a o (Azj N r0 g c i j e a o n) d l f m b)
def Bfx (N:Nat) (r0:Nat→Int→Int→LA→Option R) (q0:LA→Nat→Int→Int→LA→LA→Option R) (a:LA) (e:Bool) (g:LA) (c:Nat) (i j:Bool):Option R :=
 (cond (Nat.ble 22 (List.length a)) (M0 N (List.take 22 a) e (fun x=>(cond (!x) (r0 0 0 1 []) (cond (Nat.ble 22 (List.length a)) (A2l N (List.take 22 a) e (fun o=>(cond ((decide ((0:Int)≤(0:Int)))&&((decide ((0:Int)≤((c:Nat):Int)))&&((decide (((c:Nat):Int)≤(140737488355328:Int)))&&(decide ((((c:Nat):Int)*((16:Nat):Int))≤(140737488355328:Int)))))) (cond (Nat.ble 22 (List.length a)) (Abc N (List.take 22 a) e (fun u=>(cond ((Nat.beq (List.length u) 2)&&((Nat.ble 2 2)&&(!false))) (q0 o 0 ((c:Nat):Int) 0 [] (setCells [(.int .i64 0),(.int .i64 0)] 0 u)) none))) none) none))) none)))) none)
def Bfy (N:Nat) (a:LA) (e:Bool) (g:LA) (c:Nat) (i j:Bool) (r0:Nat→Int→Int→LA→Option R):Option R:=(Bfx N r0 (fun o d l f m b=>(Azj N r0 g c i j e a o N d l f m b)) a e g c i j)
def A2p:=(Al (@Bfy R)).1
theorem A9n:@A2p R=@Bfy R:=(Al _).2
def All:Hints:={ H:=(hS (hR [1,2]) (hS (hS (hR [1,2,16]) (hN [1,2] (hS (hR [4,5,6]) hL) hL)) (hS (hR [1,2,7]) (hS (hR [1,2,7,8]) (hS (hR [1,2,7,8,9]) (hS (hS (hR [1,2,7,8,9,24,25,26]) (hN [1,8] (hN [1,2,7,8,9,24,25,26] (hS (hR [1,2,7,8,9,24,25,26,27]) (hS (hN [1,2,7,8,9,24,25,26] hL hL) (hS (hN [1,2,7,8,9,24,25,26] (hS (hR [1,2,7,8,9,10,11,24,25,26]) (hS (hR [1,2,7,8,9,10,11,12,24,25,26]) (hS (hR [1,2,7,8,9,10,11,12,13,24,25,26]) (hS (hS (hR [1,2,7,8,9,10,12,13,24,25,26,47]) (hN [1,2,7,8,9,12,13,24,25,26] (hS (hR [4,5,6]) hL) hL)) (hS (hR [1,2,7,8,9,24,25,26]) (hR [1,2,7,8,9,24,25,26])))))) hL) (hR [1,2,7,8,9,24,25,26])))) hL) hL)) (hS (hR [4,5,6]) hL))))))),nils:=[(4,2)],modes:=[(2,2),(0,0),(0,0)],free:=[],cob:=[] }
def Atx (N:Nat):List (Nat×Tw):=[(48,Ou N),(117,Bfl N),(84,Avz N),(118,Bfw N),(119,Cm N)]
def Aty (N:Nat):Env:=mkE 61 All (Atx N)
def Bn5 (N:Nat) (F:KF R):=As (Aty N) Tryz.f64 All.modes [] F
def Bfz (N:Nat) (F:KF R):=atF (Aty N) [] N Tryz.f64 All (Bn5 N F)
def Abg  (F:KF R):Nat→Int→Int→LA→Option R:=(fun y z aa ab=>F (.tup [(.own 300000 0 y),(.int .i64 z),(.int .i64 aa)]) [(300000,⟨false,false,true,false,2,ab,false⟩)])
def S7 (g:LA) (c:Nat) (i j e:Bool) (a o:LA) (d:Nat) (l f:Int) (m b:LA):St:={ s:=[(1,(.imm g c 1 i j)),(2,(.optr 300000 0)),(7,(.omap 300001)),(8,(.own 300002 0 d)),(9,(.optr 300003 0)),(24,(.imm g c 1 i j)),(25,(.int .i64 l)),(26,(.int .i64 f))],h:=[(300000,⟨false,false,true,e,0,a,false⟩),(300001,⟨false,false,true,false,0,o,true⟩),(300002,⟨false,false,true,false,2,m,false⟩),(300003,⟨false,false,true,false,0,b,false⟩)] }
def Bf0 (N:Nat) (F:KF R):St→Option R:=Bx (Aty N) [] N (Bfz N F [1,1,1,1,1,0,1,0] []) N
def Alm (N:Nat) (F:KF R) (n:Nat):St→Option R:=A9 (Aty N) [] N (Bfz N F [1,1,1,1,1,0,1,0] []) n
theorem Bhw (N:Nat)  (F:KF R) (g:LA) (c:Nat) (i j e:Bool) (a o:LA):∀ (n d:Nat) (l f:Int) (m b:LA),Alm N F n (S7 g c i j e a o d l f m b)=(Azj N (Abg F) g c i j e a o n d l f m b):=by
 intro n
 induction n with
 | zero=>intros;kernel_rfl
 | succ n ih =>
  intro d l f m b
  have e0:=funext fun d=>funext fun l=>funext fun f=>funext fun m=>funext fun b=>(show Alm N F n (S7 g c i j e a o d l f m b)=_ from ih d l f m b)
  have hK:Alm N F (n+1) (S7 g c i j e a o d l f m b)=(A9m N (Abg F) g c i j e a o (fun d l f m b=>Alm N F n (S7 g c i j e a o d l f m b)) d l f m b):=by kernel_rfl
  exact hK.trans (by rw [e0];rfl)
theorem Azk (N:Nat) (a:LA) (e:Bool) (g:LA) (c:Nat) (i j:Bool) (F:KF R):Ac Tryz.prog muts (Atx N) All N 64 [(.pagg a e),(.imm g c 1 i j)] [] F=(A2p N a e g c i j (Abg F)):=by
 have e1:=funext fun o=>funext fun d=>funext fun l=>funext fun f=>funext fun m=>funext fun b=>(show Bf0 N F (S7 g c i j e a o d l f m b)=_ from (Au ..).trans (Bhw N F g c i j e a o N d l f m b))
 have hK:Ac Tryz.prog muts (Atx N) All N 64 [(.pagg a e),(.imm g c 1 i j)] [] F=(Bfx N (Abg F) (fun o d l f m b=>Bf0 N F (S7 g c i j e a o d l f m b)) a e g c i j):=by kernel_rfl
 rw [A9n]
 exact hK.trans (by rw [e1];rfl)
def Ad9 (N:Nat) (args:List AV) (h:Ak) (k:KF R):Option R :=
 match args,h with
 | [(.pagg a e),(.imm g c 1 i j)],[]=>(A2p N a e g c i j (Abg k))
 | _,_=>none
def Bf1 (N:Nat):Tw:=⟨Ad9 N,fun args h k=>by
 unfold Ad9;split
 exact twE (Azk ..) (Azk ..)
 rfl⟩
theorem Bp6 (N:Nat):Az Tryz.prog 64 (Bf1 N):=fun args h res w hh=>by
 change Ad9 N args h (fun v w=>some (v,w))=_ at hh
 unfold Ad9 at hh;split at hh
 exact Aa (T:=Atx N) ⟨Vi N,Bp4 N,Bht N,Bp5 N,Fx N,trivial⟩ follows ((Azk ..).trans hh)
 cases hh
def Aro (N:Nat) (k0:Nat→Bool→Int→LA→LA→Option R) (r0:Nat→LA→Option R) (f:LA) (g:Nat) (i j:Bool) (d:Nat) (c:Int) (l:Bool) (b a e:LA)   (m:Int) (q:Bool) (r:Int) (t:Bool):Option R :=
 (cond t (rdI .i64 (List.drop 2 b) fun u=>(rdI .i64 e fun w=>(rdI .i64 (List.drop 7 b) fun x=>(rdI .i64 (List.drop 3 b) fun y=>(rdI .i64 (List.drop 1 e) fun z=>(rdI .i64 (List.drop 6 b) fun aa=>(cond (Aj m d) (cond ((Nat.beq 2 2)&&((Nat.ble ((0+((Int.toNat m)*2))+2) (List.length a))&&(!false))) (cond (Aj m d) (cond (Nat.ble 2 (List.length (List.drop (0+((Int.toNat m)*2)) (D9 a (0+((Int.toNat m)*2)) [(.int .i64 (Zd u (IntKind.wrap .i64 (w - x)))),(.int .i64 (Ani y (IntKind.wrap .i64 (z+aa))))])))) (cond ((Nat.beq (List.length (List.take 2 (List.drop (0+((Int.toNat m)*2)) (D9 a (0+((Int.toNat m)*2)) [(.int .i64 (Zd u (IntKind.wrap .i64 (w - x)))),(.int .i64 (Ani y (IntKind.wrap .i64 (z+aa))))])))) 2)&&((Nat.ble 2 (List.length e))&&(!false))) (k0 d q (IntKind.wrap .i64 (r+(1:Int))) (D9 a (0+((Int.toNat m)*2)) [(.int .i64 (Zd u (IntKind.wrap .i64 (w - x)))),(.int .i64 (Ani y (IntKind.wrap .i64 (z+aa))))]) (setCells e 0 (List.take 2 (List.drop (0+((Int.toNat m)*2)) (D9 a (0+((Int.toNat m)*2)) [(.int .i64 (Zd u (IntKind.wrap .i64 (w - x)))),(.int .i64 (Ani y (IntKind.wrap .i64 (z+aa))))]))))) none) none) none) none) none))))))) (cond q (rdI .i64 (List.drop 2 b) fun ab=>(rdI .i64 (List.drop 8 b) fun ac=>(cond (Aj m d) (cond ((Nat.beq 2 2)&&((Nat.ble ((0+((Int.toNat m)*2))+2) (List.length a))&&(!false))) (cond (Aj m d) (cond (Nat.ble 2 (List.length (List.drop (0+((Int.toNat m)*2)) (D9 a (0+((Int.toNat m)*2)) [(.int .i64 ab),(.int .i64 ac)])))) (cond ((Nat.beq (List.length (List.take 2 (List.drop (0+((Int.toNat m)*2)) (D9 a (0+((Int.toNat m)*2)) [(.int .i64 ab),(.int .i64 ac)])))) 2)&&((Nat.ble 2 (List.length e))&&(!false))) (k0 d q (IntKind.wrap .i64 (r+(1:Int))) (D9 a (0+((Int.toNat m)*2)) [(.int .i64 ab),(.int .i64 ac)]) (setCells e 0 (List.take 2 (List.drop (0+((Int.toNat m)*2)) (D9 a (0+((Int.toNat m)*2)) [(.int .i64 ab),(.int .i64 ac)]))))) none) none) none) none) none))) (cond (Aj m d) (cond (Nat.ble 2 (List.length (List.drop (0+((Int.toNat m)*2)) a))) (cond ((Nat.beq (List.length (List.take 2 (List.drop (0+((Int.toNat m)*2)) a))) 2)&&((Nat.ble 2 (List.length e))&&(!false))) (k0 d q (IntKind.wrap .i64 (r+(1:Int))) a (setCells e 0 (List.take 2 (List.drop (0+((Int.toNat m)*2)) a)))) none) none) none)))
def Afr (N:Nat) (k0:Nat→Bool→Int→LA→LA→Option R) (r0:Nat→LA→Option R) (f:LA) (g:Nat) (i j:Bool) (d:Nat) (c:Int) (l:Bool) (b a e:LA) (m:Int) (q:Bool) (r:Int) (t:Bool):Option R:=(Aro N k0 r0 f g i j d c l b a e m q r t)
def Arp (N:Nat)  (r0:Nat→LA→Option R) (f:LA) (g:Nat) (i j:Bool) (c:Int) (l:Bool) (b:LA) (k0:Nat→Bool→Int→LA→LA→Option R) (q1:Int→Bool→Int→Bool→Option R) (d:Nat) (p:Bool) (o:Int) (a e:LA):Option R :=
 (cond (decide (o<c)) (cond (Aj o g) (rdI .i64 (List.drop ((Int.toNat o)*1) f) fun ad=>(cond ((ad==(2:Int))==true) (q1 o (ad==(2:Int)) o (cond true p false)) (q1 o (ad==(2:Int)) o false))) none) (r0 d a))
def M5 (N:Nat)  (r0:Nat→LA→Option R) (f:LA) (g:Nat) (i j:Bool) (c:Int) (l:Bool) (b:LA):Nat→Nat→Bool→Int→LA→LA→Option R
 | 0,_,_,_,_,_=>none
 | n+1,d,p,o,a,e=>(Arp N r0 f g i j c l b (M5 N r0 f g i j c l b n) (fun m q r t=>(Afr N (M5 N r0 f g i j c l b n) r0 f g i j d c l b a e m q r t)) d p o a e)
def A9o (N:Nat) (r0:Nat→LA→Option R) (q0:Nat→Bool→Int→LA→LA→Option R) (b:LA) (l:Bool) (c:Int) (f:LA) (g:Nat) (i j:Bool):Option R :=
 (cond ((decide ((0:Int)≤c))&&((decide (c≤c))&&((decide (c≤(140737488355328:Int)))&&(decide ((c*((16:Nat):Int))≤(140737488355328:Int)))))) (rdI .i64 (List.drop 19 b) fun af=>(rdI .i64 (List.drop 21 b) fun ag=>(rdI .i64 (List.drop 21 b) fun ah=>(q0 (Int.toNat c) (af==(2:Int)) 0 (List.flatten (List.replicate (Int.toNat c) [(.int .i64 0),(.int .i64 0)])) [(.int .i64 ag),(.int .i64 ah)])))) none)
def A9p (N:Nat) (b:LA) (l:Bool) (c:Int) (f:LA) (g:Nat) (i j:Bool) (r0:Nat→LA→Option R):Option R:=(A9o N r0 (fun d p o a e=>(M5 N r0 f g i j c l b N d p o a e)) b l c f g i j)
def Abh:=(Al (@A9p R)).1
theorem Arq:@Abh R=@A9p R:=(Al _).2
def Um:Hints:={ H:=(hS (hR [1,2,3]) (hS (hR [1,2,3,7]) (hS (hR [1,2,3,7,8,9]) (hS (hS (hR [2,3,7,8,9,22,23]) (hN [7] (hN [2,3,7,8,9,22,23] (hS (hR [2,3,7,8,9,22,23,24]) (hS (hN [2,3,7,8,9,22,23] hL hL) (hS (hN [2,3,7,8,9,22,23] (hS (hR [2,3,7,8,9,10,22,23]) (hS (hR [2,3,7,8,9,10,11,22,23]) (hS (hJ (hR [2,3,7,9,10,11,22,23,34]) (hN [2,3,7,9,10,11,22,23] (hR [2,3,7,9,10,11,22,23]) (hS (hR [2,3,7,9,10,11,22,23,55]) (hN [2,3,7,9,10,11,22,23] (hR [2,3,7,9,10,11,22,23]) hL)))) (hR [2,3,7,8,9,22,23])))) hL) (hR [2,3,7,8,9,22,23])))) hL) hL)) (hS (hR [6]) hL))))),nils:=[(6,2)],modes:=[(2,2)],free:=[],cob:=[] }
def Ya (N:Nat):List (Nat×Tw):=[]
def Mc (N:Nat):Env:=mkE 71 Um (Ya N)
def Bf2 (N:Nat) (F:KF R):=As (Mc N) Tryz.f65 Um.modes [] F
def Un (N:Nat) (F:KF R):=atF (Mc N) [] N Tryz.f65 Um (Bf2 N F)
def Dx  (F:KF R):Nat→LA→Option R:=(fun ai aj=>F (.own 300000 0 ai) [(300000,⟨false,false,true,false,2,aj,false⟩)])
def Uo (f:LA) (g:Nat) (i j:Bool) (d:Nat) (c:Int) (l:Bool) (b a e:LA) (m:Int) (q:Bool) (r:Int) (t:Bool):St:={ s:=[(2,(.imm f g 1 i j)),(3,(.optr 300000 0)),(7,(.own 300001 0 d)),(9,(.optr 300002 0)),(10,(.int .i64 m)),(11,(.bool q)),(22,(.int .i64 c)),(23,(.int .i64 r)),(34,(.bool t))],h:=[(300000,⟨false,false,true,l,0,b,false⟩),(300001,⟨false,false,true,false,2,a,false⟩),(300002,⟨false,false,true,false,0,e,false⟩)] }
def Av2 (N:Nat) (F:KF R) (Q0:St→Option R):St→Option R:=Bh (Mc N) [] N (Un N F [1,1,1,0,1,0,0,1,1,0,0,1,1,0,1] [Q0])
def Av3 (N:Nat) (F:KF R) (Q0:St→Option R):St→Option R:=Bl (Mc N) [] N (Un N F [1,1,1,0,1,0,0,1,1,0,0,1,1,0,1] [Q0])
def Ex (f:LA) (g:Nat) (i j:Bool) (c:Int) (l:Bool) (b:LA) (d:Nat) (p:Bool) (o:Int) (a e:LA):St:={ s:=[(2,(.imm f g 1 i j)),(3,(.optr 300000 0)),(7,(.own 300001 0 d)),(8,(.bool p)),(9,(.optr 300002 0)),(22,(.int .i64 c)),(23,(.int .i64 o))],h:=[(300000,⟨false,false,true,l,0,b,false⟩),(300001,⟨false,false,true,false,2,a,false⟩),(300002,⟨false,false,true,false,0,e,false⟩)] }
def Av4 (N:Nat) (F:KF R):St→Option R:=Bx (Mc N) [] N (Un N F [1,1,1,0,1,0] []) N
def Gm (N:Nat) (F:KF R) (n:Nat):St→Option R:=A9 (Mc N) [] N (Un N F [1,1,1,0,1,0] []) n
theorem A6f (N:Nat) (Q0:St→Option R) (F:KF R) (f:LA) (g:Nat) (i j:Bool) (d:Nat) (c:Int) (l:Bool) (b a e:LA):∀ (m:Int) (q:Bool) (r:Int) (t:Bool),Av3 N F Q0 (Uo f g i j d c l b a e m q r t)=(Afr N (fun d p o a e=>Q0 (Ex f g i j c l b d p o a e)) (Dx F) f g i j d c l b a e m q r t):=by
 intro m q r t
 have hK:Av3 N F Q0 (Uo f g i j d c l b a e m q r t)=(Aro N (fun d p o a e=>Q0 (Ex f g i j c l b d p o a e)) (Dx F) f g i j d c l b a e m q r t):=by kernel_rfl
 exact hK
theorem A6g (N:Nat)  (F:KF R) (f:LA) (g:Nat) (i j:Bool) (c:Int) (l:Bool) (b:LA):∀ (n d:Nat) (p:Bool) (o:Int) (a e:LA),Gm N F n (Ex f g i j c l b d p o a e)=(M5 N (Dx F) f g i j c l b n d p o a e):=by
 intro n
 induction n with
 | zero=>intros;kernel_rfl
 | succ n ih =>
  intro d p o a e
  have e0:=funext fun d=>funext fun p=>funext fun o=>funext fun a=>funext fun e=>(show Gm N F n (Ex f g i j c l b d p o a e)=_ from ih d p o a e)
  have e1:(fun m q r t=>Av2 N F (Gm N F n) (Uo f g i j d c l b a e m q r t))=(fun m q r t=>(Afr N (M5 N (Dx F) f g i j c l b n) (Dx F) f g i j d c l b a e m q r t)):=by funext m;funext q;funext r;funext t;exact ((Aq ..).trans (A6f N (Gm N F n) F f g i j d c l b a e m q r t)).trans (by rw [e0])
  have hK:Gm N F (n+1) (Ex f g i j c l b d p o a e)=(Arp N (Dx F) f g i j c l b (fun d p o a e=>Gm N F n (Ex f g i j c l b d p o a e)) (fun m q r t=>Av2 N F (Gm N F n) (Uo f g i j d c l b a e m q r t)) d p o a e):=by kernel_rfl
  exact hK.trans (by rw [e0,e1];rfl)
theorem Afs (N:Nat) (b:LA) (l:Bool) (c:Int) (f:LA) (g:Nat) (i j:Bool) (F:KF R):Ac Tryz.prog muts (Ya N) Um N 65 [(.pagg b l),(.int .i64 c),(.imm f g 1 i j)] [] F=(Abh N b l c f g i j (Dx F)):=by
 have e1:=funext fun d=>funext fun p=>funext fun o=>funext fun a=>funext fun e=>(show Av4 N F (Ex f g i j c l b d p o a e)=_ from (Au ..).trans (A6g N F f g i j c l b N d p o a e))
 have hK:Ac Tryz.prog muts (Ya N) Um N 65 [(.pagg b l),(.int .i64 c),(.imm f g 1 i j)] [] F=(A9o N (Dx F) (fun d p o a e=>Av4 N F (Ex f g i j c l b d p o a e)) b l c f g i j):=by kernel_rfl
 rw [Arq]
 exact hK.trans (by rw [e1];rfl)
def Qo (N:Nat) (args:List AV) (h:Ak) (k:KF R):Option R :=
 match args,h with
 | [(.pagg b l),(.int .i64 c),(.imm f g 1 i j)],[]=>(Abh N b l c f g i j (Dx k))
 | _,_=>none
def Av5 (N:Nat):Tw:=⟨Qo N,fun args h k=>by
 unfold Qo;split
 exact twE (Afs ..) (Afs ..)
 rfl⟩
theorem Bhx (N:Nat):Az Tryz.prog 65 (Av5 N):=fun args h res ae hh=>by
 change Qo N args h (fun v ae=>some (v,ae))=_ at hh
 unfold Qo at hh;split at hh
 exact Aa (T:=Ya N) trivial follows ((Afs ..).trans hh)
 cases hh
def Ana (N:Nat)  (r0:LA→Option R) (c:Nat) (e:LA) (f:Nat) (g i j:Bool) (d:LA) (k0:Int→LA→Option R)  (a:Int) (b:LA):Option R :=
 (cond (decide (a≥(0:Int))) (cond (Aj a f) (rdI .i64 (List.drop ((Int.toNat a)*1) e) fun o=>(cond (o != (2:Int)) (k0 (IntKind.wrap .i64 (a - (1:Int))) b) (cond (Aj a c) (cond (Nat.ble 2 (List.length (List.drop (0+((Int.toNat a)*2)) b))) (cond (Aj (IntKind.wrap .i64 (a+(1:Int))) c) (cond (Nat.ble 2 (List.length (List.drop (0+((Int.toNat (IntKind.wrap .i64 (a+(1:Int))))*2)) b))) (cond ((Nat.beq (List.length (List.take 2 (List.drop (0+((Int.toNat a)*2)) b))) 2)&&((Nat.ble 2 2)&&(!false))) (cond ((Nat.beq (List.length (List.take 2 (List.drop (0+((Int.toNat (IntKind.wrap .i64 (a+(1:Int))))*2)) b))) 2)&&((Nat.ble 2 2)&&(!false))) (cond (Aj (IntKind.wrap .i64 (a+(1:Int))) f) (rdI .i64 (List.drop ((Int.toNat (IntKind.wrap .i64 (a+(1:Int))))*1) e) fun p=>(cond (p != (2:Int)) (rdI .i64 (setCells [(.int .i64 0),(.int .i64 0)] 0 (List.take 2 (List.drop (0+((Int.toNat a)*2)) b))) fun q=>(rdI .i64 (List.drop 1 (setCells [(.int .i64 0),(.int .i64 0)] 0 (List.take 2 (List.drop (0+((Int.toNat a)*2)) b)))) fun r=>(rdI .i64 (List.drop 9 d) fun t=>(cond (Aj a c) (cond ((Nat.beq 2 2)&&((Nat.ble ((0+((Int.toNat a)*2))+2) (List.length b))&&(!false))) (k0 (IntKind.wrap .i64 (a - (1:Int))) (D9 b (0+((Int.toNat a)*2)) [(.int .i64 q),(.int .i64 (Ani r t))])) none) none)))) (rdI .i64 (setCells [(.int .i64 0),(.int .i64 0)] 0 (List.take 2 (List.drop (0+((Int.toNat a)*2)) b))) fun u=>(rdI .i64 (setCells [(.int .i64 0),(.int .i64 0)] 0 (List.take 2 (List.drop (0+((Int.toNat (IntKind.wrap .i64 (a+(1:Int))))*2)) b))) fun w=>(rdI .i64 (List.drop 6 d) fun x=>(rdI .i64 (List.drop 1 (setCells [(.int .i64 0),(.int .i64 0)] 0 (List.take 2 (List.drop (0+((Int.toNat a)*2)) b)))) fun y=>(rdI .i64 (List.drop 1 (setCells [(.int .i64 0),(.int .i64 0)] 0 (List.take 2 (List.drop (0+((Int.toNat (IntKind.wrap .i64 (a+(1:Int))))*2)) b)))) fun z=>(rdI .i64 (List.drop 7 d) fun aa=>(cond (Aj a c) (cond ((Nat.beq 2 2)&&((Nat.ble ((0+((Int.toNat a)*2))+2) (List.length b))&&(!false))) (k0 (IntKind.wrap .i64 (a - (1:Int))) (D9 b (0+((Int.toNat a)*2)) [(.int .i64 (Zd u (IntKind.wrap .i64 (w - x)))),(.int .i64 (Ani y (IntKind.wrap .i64 (z+aa))))])) none) none))))))))) none) none) none) none) none) none) none))) none) (r0 b))
def Abi (N:Nat)  (r0:LA→Option R) (c:Nat) (e:LA) (f:Nat) (g i j:Bool) (d:LA):Nat→Int→LA→Option R
 | 0,_,_=>none
 | n+1,a,b=>(Ana N r0 c e f g i j d (Abi N r0 c e f g i j d n) a b)
def A2q (N:Nat) (r0:LA→Option R) (q0:Int→LA→Option R) (d:LA) (j:Bool) (c:Nat) (e:LA) (f:Nat) (g i:Bool) (l:LA):Option R :=
 (q0 (IntKind.wrap .i64 (((c:Nat):Int) - (2:Int))) l)
def A2r (N:Nat) (d:LA) (j:Bool) (c:Nat) (e:LA) (f:Nat) (g i:Bool) (l:LA) (r0:LA→Option R):Option R:=(A2q N r0 (fun a b=>(Abi N r0 c e f g i j d N a b)) d j c e f g i l)
def Vn:=(Al (@A2r R)).1
theorem Anb:@Vn R=@A2r R:=(Al _).2
def Qp:Hints:={ H:=(hS (hR [1,2,3]) (hS (hR [1,2,3,6]) (hS (hN [1,2,3,6] (hS (hS (hR [1,2,3,6,13]) (hN [1,2,3,6] hL hL)) (hS (hN [1,2,3,6] (hS (hS (hR [1,2,3,6,20]) (hN [1,2,3,6] hL hL)) (hS (hR [1,2,3,6,7,8]) (hS (hR [1,2,3,6,7,8,35]) (hN [1,2,3,6] (hR [1,2,3,6]) (hR [1,2,3,6]))))) hL) (hR [1,2,3,6]))) hL) hL))),nils:=[],modes:=[],free:=[],cob:=[] }
def Up (N:Nat):List (Nat×Tw):=[]
def Uq (N:Nat):Env:=mkE 67 Qp (Up N)
def Bag (N:Nat) (F:KF R):=As (Uq N) Tryz.f66 Qp.modes [100000] F
def Arr (N:Nat) (F:KF R):=atF (Uq N) [100000] N Tryz.f66 Qp (Bag N F)
def Ky  (F:KF R):LA→Option R:=(fun ab=>F (.tup []) [(100000,⟨false,false,true,false,2,ab,false⟩)])
def Hs (c:Nat) (e:LA) (f:Nat) (g i j:Bool) (d:LA) (a:Int) (b:LA):St:={ s:=[(1,(.own 100000 0 c)),(2,(.imm e f 1 g i)),(3,(.optr 300000 0)),(6,(.int .i64 a))],h:=[(100000,⟨false,false,true,false,2,b,false⟩),(300000,⟨false,false,true,j,0,d,false⟩)] }
def Ars (N:Nat) (F:KF R):St→Option R:=Bx (Uq N) [100000] N (Arr N F [1,1,0] []) N
def Qq (N:Nat) (F:KF R) (n:Nat):St→Option R:=A9 (Uq N) [100000] N (Arr N F [1,1,0] []) n
theorem A2s (N:Nat)  (F:KF R) (c:Nat) (e:LA) (f:Nat) (g i j:Bool) (d:LA):∀ (n:Nat) (a:Int) (b:LA),Qq N F n (Hs c e f g i j d a b)=(Abi N (Ky F) c e f g i j d n a b):=by
 intro n
 induction n with
 | zero=>intros;kernel_rfl
 | succ n ih =>
  intro a b
  have e0:=funext fun a=>funext fun b=>(show Qq N F n (Hs c e f g i j d a b)=_ from ih a b)
  have hK:Qq N F (n+1) (Hs c e f g i j d a b)=(Ana N (Ky F) c e f g i j d (fun a b=>Qq N F n (Hs c e f g i j d a b)) a b):=by kernel_rfl
  exact hK.trans (by rw [e0];rfl)
theorem Abj (N:Nat) (d:LA) (j:Bool) (c:Nat) (e:LA) (f:Nat) (g i:Bool) (l:LA) (F:KF R):Ac Tryz.prog muts (Up N) Qp N 66 [(.pagg d j),(.own 100000 0 c),(.imm e f 1 g i)] [(100000,⟨false,false,true,false,2,l,false⟩)] F=(Vn N d j c e f g i l (Ky F)):=by
 have e1:=funext fun a=>funext fun b=>(show Ars N F (Hs c e f g i j d a b)=_ from (Au ..).trans (A2s N F c e f g i j d N a b))
 have hK:Ac Tryz.prog muts (Up N) Qp N 66 [(.pagg d j),(.own 100000 0 c),(.imm e f 1 g i)] [(100000,⟨false,false,true,false,2,l,false⟩)] F=(A2q N (Ky F) (fun a b=>Ars N F (Hs c e f g i j d a b)) d j c e f g i l):=by kernel_rfl
 rw [Anb]
 exact hK.trans (by rw [e1];rfl)
def Nv (N:Nat) (args:List AV) (h:Ak) (k:KF R):Option R :=
 match args,h with
 | [(.pagg d j),(.own 100000 0 c),(.imm e f 1 g i)],[(100000,⟨false,false,true,false,2,l,false⟩)]=>(Vn N d j c e f g i l (Ky k))
 | _,_=>none
def Art (N:Nat):Tw:=⟨Nv N,fun args h k=>by
 unfold Nv;split
 exact twE (Abj ..) (Abj ..)
 rfl⟩
theorem Bf3 (N:Nat):Az Tryz.prog 66 (Art N):=fun args h res m hh=>by
 change Nv N args h (fun v m=>some (v,m))=_ at hh
 unfold Nv at hh;split at hh
 exact Aa (T:=Up N) trivial follows ((Abj ..).trans hh)
 cases hh
end
end Gx

namespace Gx
open Go Go.Proofs
set_option maxRecDepth 100000
noncomputable section
variable {R:Type}
def Anc (N:Nat)  (r0:Nat→Int→LA→Option R) (b:LA) (a:Nat) (d c:Bool) (i:Nat) (k1:Int→Int→LA→Option R)  (m e:Int) (g:LA):Option R :=
 (cond (decide (e<m)) (cond (Aj e i) (cond (Nat.ble 2 (List.length (List.drop (0+((Int.toNat e)*2)) g))) (cond ((Nat.beq (List.length (List.take 2 (List.drop (0+((Int.toNat e)*2)) g))) 2)&&((Nat.ble 2 2)&&(!false))) (rdI .i64 (setCells [(.int .i64 0),(.int .i64 0)] 0 (List.take 2 (List.drop (0+((Int.toNat e)*2)) g))) fun p=>(rdI .i64 (List.drop 1 (setCells [(.int .i64 0),(.int .i64 0)] 0 (List.take 2 (List.drop (0+((Int.toNat e)*2)) g)))) fun q=>(cond (decide (p>q)) (r0 0 7 []) (cond (Aj e a) (rdI .i64 (List.drop ((Int.toNat e)*1) b) fun r=>(cond (r != (2:Int)) (cond (Aj e i) (cond ((Nat.beq 2 2)&&((Nat.ble ((0+((Int.toNat e)*2))+2) (List.length g))&&(!false))) (k1 m (IntKind.wrap .i64 (e+(1:Int))) (D9 g (0+((Int.toNat e)*2)) [(.int .i64 0),(.int .i64 0)])) none) none) (k1 m (IntKind.wrap .i64 (e+(1:Int))) g))) none)))) none) none) none) (r0 i 0 g))
def Abk (N:Nat)  (r0:Nat→Int→LA→Option R) (b:LA) (a:Nat) (d c:Bool) (i:Nat):Nat→Int→Int→LA→Option R
 | 0,_,_,_=>none
 | n+1,m,e,g=>(Anc N r0 b a d c i (Abk N r0 b a d c i n) m e g)
def Wd (N:Nat)  (r0:Nat→Int→LA→Option R) (l:Int) (b:LA) (a:Nat) (d c j:Bool) (f:LA)  (q1:Nat→Int→Int→LA→Option R) :Option R :=
 (cond (Nat.ble 22 (List.length f)) (Abh N (List.take 22 f) j l b a false c (fun i t=>(cond (Nat.ble 22 (List.length f)) (Vn N (List.take 22 f) j i b a false c t (fun u=>(q1 i ((i:Nat):Int) 0 u))) none))) none)
def Abl (N:Nat)  (r0:Nat→Int→LA→Option R) (l:Int) (b:LA) (a:Nat) (d c j:Bool) (f:LA) :Option R:=(Wd N r0 l b a d c j f (fun i m e g=>(Abk N r0 b a d c i N m e g)))
def Aln (N:Nat) (r0:Nat→Int→LA→Option R) (q0:Option R) (f:LA) (j:Bool) (l:Int) (b:LA) (a:Nat) (d c:Bool):Option R :=
 (cond (Nat.ble 22 (List.length f)) (Hp N (List.take 22 f) j l (fun w=>(cond (!w) (r0 0 1 []) (cond (((a:Nat):Int) != l) (r0 0 4 []) (cond (Nat.ble 22 (List.length f)) (A2p N (List.take 22 f) j b a false c (fun af ag x ah=>(cond (x != (0:Int)) (r0 0 16 []) (rdI .i64 (List.drop 19 f) fun y=>(cond ((y==(2:Int))==true) (cond (Aj (0:Int) a) (rdI .i64 b fun z=>(cond ((cond true (z != (2:Int)) false)==true) (rdI .i64 (List.drop 21 f) fun aa=>(rdI .i64 (List.drop 9 f) fun ab=>(cond (cond true (decide (aa>ab)) false) (r0 0 7 []) q0))) q0)) none) q0))))) none))))) none)
def Alo (N:Nat) (f:LA) (j:Bool) (l:Int) (b:LA) (a:Nat) (d c:Bool) (r0:Nat→Int→LA→Option R):Option R:=(Aln N r0 (Abl N r0 l b a d c j f) f j l b a d c)
def Vo:=(Al (@Alo R)).1
theorem And:@Vo R=@Alo R:=(Al _).2
def Qr:Hints:={ H:=(hS (hR [1,2,3]) (hS (hS (hR [1,2,3,17]) (hN [1,2,3] (hS (hR [6,7]) hL) hL)) (hS (hS (hR [1,2,3,21]) (hN [1,2,3] (hS (hR [6,7]) hL) hL)) (hS (hS (hR [1,2,3,10]) (hS (hR [1,2,3,30]) (hN [1,2,3] (hS (hR [6,7]) hL) hL))) (hJ (hS (hR [1,2,3,46]) (hN [1,2,3] (hS (hR [6,7]) hL) hL)) (hS (hR [2,3,11]) (hS (hR [2,11]) (hS (hS (hR [2,11,55,56,57]) (hN [11] (hN [2,11,55,56,57] (hS (hR [2,11,55,56,57,58]) (hS (hN [2,11,55,56,57] hL hL) (hS (hN [2,11,55,56,57] (hS (hR [2,11,12,13,55,56,57]) (hS (hS (hR [2,11,12,55,56,57,66]) (hN [2,11,12,55,56,57] (hS (hR [6,7]) hL) hL)) (hS (hR [2,11,12,55,56,57,71]) (hN [2,11,55,56,57] (hR [2,11,55,56,57]) hL)))) hL) (hR [2,11,55,56,57])))) hL) hL)) (hS (hR [6,7]) hL))))))))),nils:=[(6,2)],modes:=[(2,2),(0,0)],free:=[],cob:=[] }
def Ur (N:Nat):List (Nat×Tw):=[(16,Vk N),(64,Bf1 N),(65,Av5 N),(66,Art N)]
def Jo (N:Nat):Env:=mkE 78 Qr (Ur N)
def Bah (N:Nat) (F:KF R):=As (Jo N) Tryz.f29 Qr.modes [] F
def Qs (N:Nat) (F:KF R):=atF (Jo N) [] N Tryz.f29 Qr (Bah N F)
def Fo  (F:KF R):Nat→Int→LA→Option R:=(fun ac ad ae=>F (.tup [(.own 300000 0 ac),(.int .i64 ad)]) [(300000,⟨false,false,true,false,2,ae,false⟩)])
def Ht (b:LA) (a:Nat) (d c:Bool) (i:Nat) (m e:Int) (g:LA):St:={ s:=[(2,(.imm b a 1 d c)),(11,(.own 300000 0 i)),(55,(.own 300000 0 i)),(56,(.int .i64 m)),(57,(.int .i64 e))],h:=[(300000,⟨false,false,true,false,2,g,false⟩)] }
def Aru (N:Nat) (F:KF R):St→Option R:=Bx (Jo N) [] N (Qs N F [1,1,1,1,1,1,1,0,1,0] []) N
def Qt (N:Nat) (F:KF R) (n:Nat):St→Option R:=A9 (Jo N) [] N (Qs N F [1,1,1,1,1,1,1,0,1,0] []) n
def Qu (l:Int) (b:LA) (a:Nat) (d c j:Bool) (f:LA):St:={ s:=[(1,(.int .i64 l)),(2,(.imm b a 1 d c)),(3,(.optr 300000 0))],h:=[(300000,⟨false,false,true,j,0,f,false⟩)] }
def Arv (N:Nat) (F:KF R):St→Option R:=Bh (Jo N) [] N (Qs N F [1,1,1,1,1] [])
def Arw (N:Nat) (F:KF R):St→Option R:=Bl (Jo N) [] N (Qs N F [1,1,1,1,1] [])
theorem A2t (N:Nat)  (F:KF R) (b:LA) (a:Nat) (d c:Bool) (i:Nat):∀ (n:Nat) (m e:Int) (g:LA),Qt N F n (Ht b a d c i m e g)=(Abk N (Fo F) b a d c i n m e g):=by
 intro n
 induction n with
 | zero=>intros;kernel_rfl
 | succ n ih =>
  intro m e g
  have e0:=funext fun m=>funext fun e=>funext fun g=>(show Qt N F n (Ht b a d c i m e g)=_ from ih m e g)
  have hK:Qt N F (n+1) (Ht b a d c i m e g)=(Anc N (Fo F) b a d c i (fun m e g=>Qt N F n (Ht b a d c i m e g)) m e g):=by kernel_rfl
  exact hK.trans (by rw [e0];rfl)
theorem A2u (N:Nat)  (F:KF R) (l:Int) (b:LA) (a:Nat) (d c j:Bool) (f:LA):Arw N F (Qu l b a d c j f)=(Abl N (Fo F) l b a d c j f):=by
 have e1:=funext fun i=>funext fun m=>funext fun e=>funext fun g=>(show Aru N F (Ht b a d c i m e g)=_ from (Au ..).trans (A2t N F b a d c i N m e g))
 have hK:Arw N F (Qu l b a d c j f)=(Wd N (Fo F) l b a d c j f (fun i m e g=>Aru N F (Ht b a d c i m e g))):=by kernel_rfl
 exact hK.trans (by rw [e1];rfl)
theorem Abm (N:Nat) (f:LA) (j:Bool) (l:Int) (b:LA) (a:Nat) (d c:Bool) (F:KF R):Ac Tryz.prog muts (Ur N) Qr N 29 [(.pagg f j),(.int .i64 l),(.imm b a 1 d c)] [] F=(Vo N f j l b a d c (Fo F)):=by
 have e1:=(show Arv N F (Qu l b a d c j f)=_ from (Aq ..).trans (A2u N F l b a d c j f))
 have hK:Ac Tryz.prog muts (Ur N) Qr N 29 [(.pagg f j),(.int .i64 l),(.imm b a 1 d c)] [] F=(Aln N (Fo F) (Arv N F (Qu l b a d c j f)) f j l b a d c):=by kernel_rfl
 rw [And]
 exact hK.trans (by rw [e1];rfl)
def Nw (N:Nat) (args:List AV) (h:Ak) (k:KF R):Option R :=
 match args,h with
 | [(.pagg f j),(.int .i64 l),(.imm b a 1 d c)],[]=>(Vo N f j l b a d c (Fo k))
 | _,_=>none
def Arx (N:Nat):Tw:=⟨Nw N,fun args h k=>by
 unfold Nw;split
 exact twE (Abm ..) (Abm ..)
 rfl⟩
theorem Bf4 (N:Nat):Az Tryz.prog 29 (Arx N):=fun args h res o hh=>by
 change Nw N args h (fun v o=>some (v,o))=_ at hh
 unfold Nw at hh;split at hh
 exact Aa (T:=Ur N) ⟨Adz N,Bp6 N,Bhx N,Bf3 N,trivial⟩ follows ((Abm ..).trans hh)
 cases hh
def Alp (N:Nat) (r0:Bool→Option R)  :Option R :=
 (My N (fun b=>(cond ((Nat.beq 0 0)&&((Nat.beq (List.length b) 22)&&(Nat.beq 22 22))) (cond (Nat.ble 22 (List.length b)) (Es N 35 (fun i=>(Kv N (List.take 22 b) false i false (fun c j=>(cond ((Nat.beq 0 0)&&((Nat.beq (List.length c) 3)&&(Nat.beq 3 3))) (cond (Nat.ble 22 (List.length b)) (Es N 30 (fun l=>(Vl N (List.take 22 b) false l false (fun d e m n=>(cond ((Nat.beq 0 0)&&((Nat.beq (List.length d) 3)&&(Nat.beq 3 3))) (cond ((Nat.beq 0 0)&&((Nat.beq (List.length e) 3)&&(Nat.beq 3 3))) (cond (Nat.ble 22 (List.length b)) (Vo N (List.take 22 b) false 3 [(.int .i64 2),(.int .i64 2),(.int .i64 0)] 3 false true (fun f o a=>(cond (Nat.ble 3 (List.length c)) (Es N 85 (fun p=>(H2 N (List.take 3 c) false p false (fun q=>(cond ((q==(0:Int))==true) (cond ((cond true (j==(0:Int)) false)==true) (cond (Nat.ble 3 (List.length d)) (Es N 3 (fun r=>(H2 N (List.take 3 d) false r false (fun s=>(cond ((cond true (s==(0:Int)) false)==true) (cond (Nat.ble 3 (List.length e)) (Es N 5 (fun t=>(H2 N (List.take 3 e) false t false (fun u=>(cond ((cond true (u==(0:Int)) false)==true) (cond ((cond true m false)==true) (cond ((cond true n false)==true) (cond ((cond true (o==(0:Int)) false)==true) (cond ((cond true (((f:Nat):Int)==(3:Int)) false)==true) (cond (Aj (0:Int) f) (cond (Nat.ble 2 (List.length a)) (cond ((Nat.ble 1 2)&&((Nat.beq (List.length (List.take 2 a)) 2)&&((Nat.beq 2 2)&&(true&&(!false))))) (rdI .i64 (List.take 2 a) fun w=>(rdI .i64 (List.drop 1 (List.take 2 a)) fun x=>(cond ((cond true ((w==(10:Int))&&((x==(17:Int))&&true)) false)==true) (cond (Aj (1:Int) f) (cond (Nat.ble 2 (List.length (List.drop 2 a))) (cond ((Nat.ble 1 2)&&((Nat.beq (List.length (List.take 2 (List.drop 2 a))) 2)&&((Nat.beq 2 2)&&(true&&(!false))))) (rdI .i64 (List.take 2 (List.drop 2 a)) fun y=>(rdI .i64 (List.drop 1 (List.take 2 (List.drop 2 a))) fun z=>(r0 (cond true ((y==(10:Int))&&((z==(15:Int))&&true)) false)))) none) none) none) (r0 false)))) none) none) none) (r0 false)) (r0 false)) (r0 false)) (r0 false)) (r0 false)))))) none) (r0 false)))))) none) (r0 false)) (r0 false)))))) none))) none) none) none))))) none) none))))) none) none)))
def Alq (N:Nat)  (r0:Bool→Option R):Option R:=(Alp N r0)
def Ey:=(Al (@Alq R)).1
theorem Ane:@Ey R=@Alq R:=(Al _).2
def Ary:Hints:={ H:=(hS hL (hS (hR [1]) (hS (hR [1,2,3]) (hS (hR [1,2,3,4,5,6,7]) (hS (hR [2,3,4,5,6,7,8,9]) (hS (hR [0]) hL)))))),nils:=[],modes:=[],free:=[],cob:=[] }
def Aft (N:Nat):List (Nat×Tw):=[(46,Ahe N),(20,Ao1 N),(21,Ad4 N),(23,Ara N),(29,Arx N),(25,Aqd N)]
def Abn  (F:KF R):Bool→Option R:=(fun aa=>F (.bool aa) [])
theorem Abo (N:Nat)  (F:KF R):Ac Tryz.prog muts (Aft N) Ary N 15 [] [] F=(Ey N (Abn F)):=by
 have hK:Ac Tryz.prog muts (Aft N) Ary N 15 [] [] F=(Alp N (Abn F)):=by kernel_rfl
 rw [Ane]
 exact hK
def Nx (N:Nat) (args:List AV) (h:Ak) (k:KF R):Option R :=
 match args,h with
 | [],[]=>(Ey N (Abn k))
 | _,_=>none
def Arz (N:Nat):Tw:=⟨Nx N,fun args h k=>by
 unfold Nx;split
 exact twE (Abo ..) (Abo ..)
 rfl⟩
theorem Bf5 (N:Nat):Az Tryz.prog 15 (Arz N):=fun args h res g hh=>by
 change Nx N args h (fun v g=>some (v,g))=_ at hh
 unfold Nx at hh;split at hh
 exact Aa (T:=Aft N) ⟨A55 N,Bdf N,A2h N,Bfi N,Bf4 N,Be2 N,trivial⟩ follows ((Abo ..).trans hh)
 cases hh
def Bl5 (N:Nat) (r0:Bool→Option R)  (a b c:Int):Option R :=
 (cond ((decide (a≥b))==true) (r0 (cond true (decide (a≤c)) false)) (r0 false))
def Bl6 (N:Nat) (a b c:Int) (r0:Bool→Option R):Option R:=(Bl5 N r0 a b c)
def Hu:=(Al (@Bl6 R)).1
theorem Bf6:@Hu R=@Bl6 R:=(Al _).2
def Bjr:Hints:={ H:=(hS (hR [0,1,2]) (hS (hR [6]) hL)),nils:=[],modes:=[],free:=[],cob:=[] }
def Bf7 (N:Nat):List (Nat×Tw):=[]
def A6h  (F:KF R):Bool→Option R:=(fun e=>F (.bool e) [])
theorem A6i (N:Nat) (a b c:Int) (F:KF R):Ac Tryz.prog muts (Bf7 N) Bjr N 51 [(.int .i64 a),(.int .i64 b),(.int .i64 c)] [] F=(Hu N a b c (A6h F)):=by
 have hK:Ac Tryz.prog muts (Bf7 N) Bjr N 51 [(.int .i64 a),(.int .i64 b),(.int .i64 c)] [] F=(Bl5 N (A6h F) a b c):=by kernel_rfl
 rw [Bf6]
 exact hK
def Alr (N:Nat) (args:List AV) (h:Ak) (k:KF R):Option R :=
 match args,h with
 | [(.int .i64 a),(.int .i64 b),(.int .i64 c)],[]=>(Hu N a b c (A6h k))
 | _,_=>none
def A6j (N:Nat):Tw:=⟨Alr N,fun args h k=>by
 unfold Alr;split
 exact twE (A6i ..) (A6i ..)
 rfl⟩
theorem Bjs (N:Nat):Az Tryz.prog 51 (A6j N):=fun args h res d hh=>by
 change Alr N args h (fun v d=>some (v,d))=_ at hh
 unfold Alr at hh;split at hh
 exact Aa (T:=Bf7 N) trivial follows ((A6i ..).trans hh)
 cases hh
def Afu (N:Nat)  (r0:Bool→Option R) (b:Bool) (a:LA)   :Option R :=
 (rdI .i64 (List.drop 19 a) fun d=>(cond ((d != (0:Int))==true) (rdI .i64 (List.drop 19 a) fun e=>(cond ((cond true (e != (1:Int)) false)==true) (rdI .i64 (List.drop 19 a) fun f=>(cond ((cond true (f != (2:Int)) false)==false) (rdI .i64 (List.drop 20 a) fun g=>(cond ((cond false true (decide (g<(1:Int))))==false) (rdI .i64 (List.drop 20 a) fun i=>(cond (cond false true (decide (i>(48:Int)))) (r0 false) (rdI .i64 (List.drop 19 a) fun j=>(cond ((j != (1:Int))==false) (rdI .i64 (List.drop 20 a) fun l=>(rdI .i64 (List.drop 12 a) fun m=>(r0 (cond false true (decide (l≤m)))))) (r0 true))))) (r0 false))) (r0 false))) (rdI .i64 (List.drop 20 a) fun n=>(cond ((cond false true (decide (n<(1:Int))))==false) (rdI .i64 (List.drop 20 a) fun o=>(cond (cond false true (decide (o>(48:Int)))) (r0 false) (rdI .i64 (List.drop 19 a) fun p=>(cond ((p != (1:Int))==false) (rdI .i64 (List.drop 20 a) fun q=>(rdI .i64 (List.drop 12 a) fun r=>(r0 (cond false true (decide (q≤r)))))) (r0 true))))) (r0 false))))) (rdI .i64 (List.drop 20 a) fun t=>(cond ((cond false true (decide (t<(1:Int))))==false) (rdI .i64 (List.drop 20 a) fun u=>(cond (cond false true (decide (u>(48:Int)))) (r0 false) (rdI .i64 (List.drop 19 a) fun w=>(cond ((w != (1:Int))==false) (rdI .i64 (List.drop 20 a) fun x=>(rdI .i64 (List.drop 12 a) fun y=>(r0 (cond false true (decide (x≤y)))))) (r0 true))))) (r0 false)))))
def Als (N:Nat)  (r0:Bool→Option R) (b:Bool) (a:LA) :Option R:=(Afu N r0 b a)
def Azl (N:Nat) (r0:Bool→Option R) (q0:Option R) (a:LA) (b:Bool):Option R :=
 (rdI .i64 (List.drop 10 a) fun z=>(cond ((decide (z<(0:Int)))==false) (rdI .i64 (List.drop 10 a) fun aa=>(cond ((cond false true (decide (aa>(24:Int))))==false) (rdI .i64 (List.drop 11 a) fun ab=>(cond ((cond false true (decide (ab<(0:Int))))==false) (rdI .i64 (List.drop 11 a) fun ac=>(cond ((cond false true (decide (ac>(24:Int))))==false) (rdI .i64 (List.drop 12 a) fun ad=>(cond ((cond false true (decide (ad<(0:Int))))==false) (rdI .i64 (List.drop 12 a) fun ae=>(cond ((cond false true (decide (ae>(24:Int))))==false) (rdI .i64 (List.drop 15 a) fun af=>(cond ((cond false true (decide (af<(0:Int))))==false) (rdI .i64 (List.drop 15 a) fun ag=>(cond (cond false true (decide (ag>(24:Int)))) (r0 false) q0)) (r0 false))) (r0 false))) (r0 false))) (r0 false))) (r0 false))) (r0 false))) (r0 false)))
def Azm (N:Nat) (a:LA) (b:Bool) (r0:Bool→Option R):Option R:=(Azl N r0 (Als N r0 b a) a b)
def Ahg:=(Al (@Azm R)).1
theorem Av6:@Ahg R=@Azm R:=(Al _).2
def Yb:Hints:={ H:=(hS (hR [1]) (hJ (hS (hR [1,40]) (hN [1] (hS (hR [2]) hL) hL)) (hS (hS (hR [1,63]) (hN [1] (hS (hR [2]) hL) hL)) (hS (hR [2]) hL)))),nils:=[],modes:=[],free:=[],cob:=[] }
def Aea (N:Nat):List (Nat×Tw):=[]
def Aeb (N:Nat):Env:=mkE 74 Yb (Aea N)
def Bhy (N:Nat) (F:KF R):=As (Aeb N) Tryz.f52 Yb.modes [] F
def A2v (N:Nat) (F:KF R):=atF (Aeb N) [] N Tryz.f52 Yb (Bhy N F)
def Qv  (F:KF R):Bool→Option R:=(fun ah=>F (.bool ah) [])
def Yc (b:Bool) (a:LA):St:={ s:=[(1,(.optr 300000 0))],h:=[(300000,⟨false,false,true,b,0,a,false⟩)] }
def A2w (N:Nat) (F:KF R):St→Option R:=Bh (Aeb N) [] N (A2v N F [1,1] [])
def A2x (N:Nat) (F:KF R):St→Option R:=Bl (Aeb N) [] N (A2v N F [1,1] [])
theorem Bai (N:Nat)  (F:KF R) (b:Bool) (a:LA):A2x N F (Yc b a)=(Als N (Qv F) b a):=by
 have hK:A2x N F (Yc b a)=(Afu N (Qv F) b a):=by kernel_rfl
 exact hK
theorem Alt (N:Nat) (a:LA) (b:Bool) (F:KF R):Ac Tryz.prog muts (Aea N) Yb N 52 [(.pagg a b)] [] F=(Ahg N a b (Qv F)):=by
 have e1:=(show A2w N F (Yc b a)=_ from (Aq ..).trans (Bai N F b a))
 have hK:Ac Tryz.prog muts (Aea N) Yb N 52 [(.pagg a b)] [] F=(Azl N (Qv F) (A2w N F (Yc b a)) a b):=by kernel_rfl
 rw [Av6]
 exact hK.trans (by rw [e1];rfl)
def Us (N:Nat) (args:List AV) (h:Ak) (k:KF R):Option R :=
 match args,h with
 | [(.pagg a b)],[]=>(Ahg N a b (Qv k))
 | _,_=>none
def A2y (N:Nat):Tw:=⟨Us N,fun args h k=>by
 unfold Us;split
 exact twE (Alt ..) (Alt ..)
 rfl⟩
theorem Bl7 (N:Nat):Az Tryz.prog 52 (A2y N):=fun args h res c hh=>by
 change Us N args h (fun v c=>some (v,c))=_ at hh
 unfold Us at hh;split at hh
 exact Aa (T:=Aea N) trivial follows ((Alt ..).trans hh)
 cases hh
def Md (N:Nat)  (r0:Bool→Option R) (c:Bool) (b:LA) (k0:Int→Int→Option R)  (d a:Int):Option R :=
 (rdL 2 (List.drop 4 b) fun ad g=>(cond (decide (a<((g:Nat):Int))) (rdL 2 (List.drop 4 b) fun e i=>(cond (Aj a i) (cond (Nat.ble 2 (List.length (List.drop ((Int.toNat a)*2) e))) (cond ((!c)||(Bu (List.take 2 (List.drop ((Int.toNat a)*2) e)))) (cond ((Nat.beq (List.length (List.take 2 (List.drop ((Int.toNat a)*2) e))) 2)&&((Nat.ble 2 2)&&(!false))) (rdI .i64 (setCells [(.int .i64 0),(.int .i64 0)] 0 (List.take 2 (List.drop ((Int.toNat a)*2) e))) fun j=>(Hu N j 1 1048576 (fun l=>(cond ((!l)==false) (rdI .i64 (List.drop 1 (setCells [(.int .i64 0),(.int .i64 0)] 0 (List.take 2 (List.drop ((Int.toNat a)*2) e)))) fun m=>(Hu N m (-1048576) 1048576 (fun o=>(cond ((cond false true (!o))==false) (cond ((decide (a>(0:Int)))==true) (rdI .i64 (List.drop 1 (setCells [(.int .i64 0),(.int .i64 0)] 0 (List.take 2 (List.drop ((Int.toNat a)*2) e)))) fun p=>(rdL 2 (List.drop 4 b) fun q r=>(cond (Aj (IntKind.wrap .i64 (a - (1:Int))) r) (rdI .i64 (List.drop 1 (List.drop ((Int.toNat (IntKind.wrap .i64 (a - (1:Int))))*2) q)) fun t=>(cond ((cond false true (cond true (decide (p<t)) false))==false) (rdI .i64 (setCells [(.int .i64 0),(.int .i64 0)] 0 (List.take 2 (List.drop ((Int.toNat a)*2) e))) fun u=>(cond (cond false true (decide (u>d))) (r0 false) (rdI .i64 (setCells [(.int .i64 0),(.int .i64 0)] 0 (List.take 2 (List.drop ((Int.toNat a)*2) e))) fun w=>(k0 (IntKind.wrap .i64 (d - w)) (IntKind.wrap .i64 (a+(1:Int))))))) (r0 false))) none))) (rdI .i64 (setCells [(.int .i64 0),(.int .i64 0)] 0 (List.take 2 (List.drop ((Int.toNat a)*2) e))) fun x=>(cond (cond false true (decide (x>d))) (r0 false) (rdI .i64 (setCells [(.int .i64 0),(.int .i64 0)] 0 (List.take 2 (List.drop ((Int.toNat a)*2) e))) fun y=>(k0 (IntKind.wrap .i64 (d - y)) (IntKind.wrap .i64 (a+(1:Int)))))))) (r0 false))))) (r0 false))))) none) none) none) none)) (r0 (d==(0:Int)))))
def Ed (N:Nat)  (r0:Bool→Option R) (c:Bool) (b:LA):Nat→Int→Int→Option R
 | 0,_,_=>none
 | n+1,d,a=>(Md N r0 c b (Ed N r0 c b n) d a)
def Afv (N:Nat) (r0:Bool→Option R) (q0:Int→Int→Option R) (b:LA) (c:Bool):Option R :=
 (rdL 2 (List.drop 4 b) fun ae z=>(cond (decide (((z:Nat):Int)>(8:Int))) (r0 false) (rdI .i64 (List.drop 3 b) fun aa=>(rdI .i64 (List.drop 2 b) fun ab=>(q0 (IntKind.wrap .i64 (aa - ab)) 0)))))
def Afw (N:Nat) (b:LA) (c:Bool) (r0:Bool→Option R):Option R:=(Afv N r0 (fun d a=>(Ed N r0 c b N d a)) b c)
def Qw:=(Al (@Afw R)).1
theorem Ahh:@Qw R=@Afw R:=(Al _).2
def Ny:Hints:={ H:=(hS (hR [1]) (hS (hS (hR [1,9]) (hN [1] (hS (hR [2]) hL) hL)) (hS (hR [1,3]) (hS (hS (hR [1,3,4]) (hN [3] (hN [1,3,4] (hS (hS (hR [1,3,4,19]) (hN [1,3,4] hL hL)) (hS (hN [1,3,4] (hS (hR [1,3,4,5]) (hS (hS (hR [1,3,4,5,58]) (hN [1,3,4,5] (hS (hR [2]) hL) hL)) (hR [1,3,4]))) hL) (hR [1,3,4]))) hL) hL)) (hS (hR [2]) hL))))),nils:=[],modes:=[],free:=[],cob:=[] }
def Qx (N:Nat):List (Nat×Tw):=[(51,A6j N)]
def Qy (N:Nat):Env:=mkE 65 Ny (Qx N)
def A6k (N:Nat) (F:KF R):=As (Qy N) Tryz.f53 Ny.modes [] F
def Anf (N:Nat) (F:KF R):=atF (Qy N) [] N Tryz.f53 Ny (A6k N F)
def Ja  (F:KF R):Bool→Option R:=(fun ac=>F (.bool ac) [])
def F6 (c:Bool) (b:LA) (d a:Int):St:={ s:=[(1,(.optr 300000 0)),(3,(.int .i64 d)),(4,(.int .i64 a))],h:=[(300000,⟨false,false,true,c,0,b,false⟩)] }
def Ang (N:Nat) (F:KF R):St→Option R:=Bx (Qy N) [] N (Anf N F [1,1,1,0,1,0] []) N
def Nz (N:Nat) (F:KF R) (n:Nat):St→Option R:=A9 (Qy N) [] N (Anf N F [1,1,1,0,1,0] []) n
theorem Azn (N:Nat)  (F:KF R) (c:Bool) (b:LA):∀ (n:Nat) (d a:Int),Nz N F n (F6 c b d a)=(Ed N (Ja F) c b n d a):=by
 intro n
 induction n with
 | zero=>intros;kernel_rfl
 | succ n ih =>
  intro d a
  have e0:=funext fun d=>funext fun a=>(show Nz N F n (F6 c b d a)=_ from ih d a)
  have hK:Nz N F (n+1) (F6 c b d a)=(Md N (Ja F) c b (fun d a=>Nz N F n (F6 c b d a)) d a):=by kernel_rfl
  exact hK.trans (by rw [e0];rfl)
theorem We (N:Nat) (b:LA) (c:Bool) (F:KF R):Ac Tryz.prog muts (Qx N) Ny N 53 [(.pagg b c)] [] F=(Qw N b c (Ja F)):=by
 have e1:=funext fun d=>funext fun a=>(show Ang N F (F6 c b d a)=_ from (Au ..).trans (Azn N F c b N d a))
 have hK:Ac Tryz.prog muts (Qx N) Ny N 53 [(.pagg b c)] [] F=(Afv N (Ja F) (fun d a=>Ang N F (F6 c b d a)) b c):=by kernel_rfl
 rw [Ahh]
 exact hK.trans (by rw [e1];rfl)
def Me (N:Nat) (args:List AV) (h:Ak) (k:KF R):Option R :=
 match args,h with
 | [(.pagg b c)],[]=>(Qw N b c (Ja k))
 | _,_=>none
def Anh (N:Nat):Tw:=⟨Me N,fun args h k=>by
 unfold Me;split
 exact twE (We ..) (We ..)
 rfl⟩
theorem Baj (N:Nat):Az Tryz.prog 53 (Anh N):=fun args h res f hh=>by
 change Me N args h (fun v f=>some (v,f))=_ at hh
 unfold Me at hh;split at hh
 exact Aa (T:=Qx N) ⟨Bjs N,trivial⟩ follows ((We ..).trans hh)
 cases hh
def Ut (N:Nat)  (r0:Bool→Option R) (b:Int) (c:Bool) (a:LA) (k3:Int→Option R)  (d:Int):Option R :=
 (rdL 1 (List.drop 18 a) fun bi f=>(cond (decide (d<((f:Nat):Int))) (rdL 1 (List.drop 18 a) fun g i=>(cond (Aj d i) (rdI .i64 (List.drop ((Int.toNat d)*1) g) fun j=>(Hu N j 0 (IntKind.wrap .i64 (b - (1:Int))) (fun l=>(cond ((!l)==false) (cond ((decide (d>(0:Int)))==true) (rdL 1 (List.drop 18 a) fun m o=>(cond (Aj d o) (rdI .i64 (List.drop ((Int.toNat d)*1) m) fun p=>(rdL 1 (List.drop 18 a) fun q r=>(cond (Aj (IntKind.wrap .i64 (d - (1:Int))) r) (rdI .i64 (List.drop ((Int.toNat (IntKind.wrap .i64 (d - (1:Int))))*1) q) fun t=>(cond (cond false true (cond true (decide (p≤t)) false)) (r0 false) (k3 (IntKind.wrap .i64 (d+(1:Int)))))) none))) none)) (k3 (IntKind.wrap .i64 (d+(1:Int))))) (r0 false))))) none)) (rdI .i64 (List.drop 19 a) fun u=>(cond (u==(2:Int)) (rdI .i64 (List.drop 21 a) fun w=>(rdI .i64 (List.drop 2 a) fun x=>(rdI .i64 (List.drop 3 a) fun y=>(Hu N w x y (fun z=>(r0 z)))))) (rdI .i64 (List.drop 21 a) fun aa=>(r0 (aa==(0:Int))))))))
def Mf (N:Nat)  (r0:Bool→Option R) (b:Int) (c:Bool) (a:LA):Nat→Int→Option R
 | 0,_=>none
 | n+1,d=>(Ut N r0 b c a (Mf N r0 b c a n) d)
def Afx (N:Nat)  (r0:Bool→Option R) (b:Int) (c:Bool) (a:LA)  (q3:Int→Option R) :Option R :=
 (q3 0)
def Alu (N:Nat)  (r0:Bool→Option R) (b:Int) (c:Bool) (a:LA) :Option R:=(Afx N r0 b c a (fun d=>(Mf N r0 b c a N d)))
def Afy (N:Nat)  (r0:Bool→Option R) (b:Int) (c:Bool) (a:LA)  (q2:Option R) :Option R :=
 (rdI .i64 (List.drop 5 a) fun ab=>(Hu N ab 0 1048576 (fun ac=>(cond ((!ac)==false) (rdI .i64 (List.drop 13 a) fun ad=>(Hu N ad 0 1048576 (fun ae=>(cond ((cond false true (!ae))==false) (rdI .i64 (List.drop 14 a) fun af=>(Hu N af 0 1048576 (fun ag=>(cond ((cond false true (!ag))==false) (rdI .i64 (List.drop 17 a) fun ah=>(Hu N ah 0 1048576 (fun ai=>(cond (cond false true (!ai)) (r0 false) q2)))) (r0 false))))) (r0 false))))) (r0 false)))))
def Alv (N:Nat)  (r0:Bool→Option R) (b:Int) (c:Bool) (a:LA) :Option R:=(Afy N r0 b c a (Alu N r0 b c a))
def Afz (N:Nat)  (r0:Bool→Option R) (b:Int) (c:Bool) (a:LA)  (q1:Option R) :Option R :=
 (rdI .i64 (List.drop 6 a) fun aj=>(Hu N aj 0 1048576 (fun ak=>(cond ((!ak)==false) (rdI .i64 (List.drop 7 a) fun al=>(Hu N al 0 1048576 (fun am=>(cond ((cond false true (!am))==false) (rdI .i64 (List.drop 16 a) fun an=>(Hu N an 0 1048576 (fun ao=>(cond ((cond false true (!ao))==false) (rdI .i64 (List.drop 8 a) fun ap=>(rdI .i64 (List.drop 2 a) fun aq=>(rdI .i64 (List.drop 3 a) fun ar=>(Hu N ap aq ar (fun au=>(cond ((cond false true (!au))==false) (rdI .i64 (List.drop 9 a) fun av=>(rdI .i64 (List.drop 2 a) fun aw=>(rdI .i64 (List.drop 3 a) fun ax=>(Hu N av aw ax (fun ay=>(cond (cond false true (!ay)) (r0 false) q1)))))) (r0 false))))))) (r0 false))))) (r0 false))))) (r0 false)))))
def Alw (N:Nat)  (r0:Bool→Option R) (b:Int) (c:Bool) (a:LA) :Option R:=(Afz N r0 b c a (Alv N r0 b c a))
def Azo (N:Nat) (r0:Bool→Option R) (q0:Option R) (a:LA) (c:Bool) (b:Int):Option R :=
 (Hu N b 1 24 (fun az=>(cond ((!az)==false) (cond (Nat.ble 22 (List.length a)) (Ahg N (List.take 22 a) c (fun ba=>(cond ((cond false true (!ba))==false) (rdI .i64 (List.drop 2 a) fun bb=>(Hu N bb 0 1048576 (fun bc=>(cond ((cond false true (!bc))==false) (rdI .i64 (List.drop 3 a) fun bd=>(rdI .i64 (List.drop 2 a) fun be=>(Hu N bd be 1048576 (fun bf=>(cond ((cond false true (!bf))==false) (cond (Nat.ble 22 (List.length a)) (Qw N (List.take 22 a) c (fun bg=>(cond (cond false true (!bg)) (r0 false) q0))) none) (r0 false)))))) (r0 false))))) (r0 false)))) none) (r0 false))))
def Azp (N:Nat) (a:LA) (c:Bool) (b:Int) (r0:Bool→Option R):Option R:=(Azo N r0 (Alw N r0 b c a) a c b)
def Jp:=(Al (@Azp R)).1
theorem Av7:@Jp R=@Azp R:=(Al _).2
def Yd:Hints:={ H:=(hS (hR [1,2]) (hJ (hS (hR [1,2,32]) (hN [1,2] (hS (hR [4]) hL) hL)) (hJ (hS (hR [1,2,68]) (hN [1,2] (hS (hR [4]) hL) hL)) (hJ (hS (hR [1,2,90]) (hN [1,2] (hS (hR [4]) hL) hL)) (hS (hS (hR [1,2,5]) (hN [2] (hN [1,2,5] (hS (hS (hR [1,2,5,95]) (hN [1,2,5] hL hL)) (hS (hN [1,2,5] (hS (hR [1,2,5,124]) (hN [1,2,5] (hS (hR [4]) hL) hL)) hL) (hR [1,2,5]))) hL) hL)) (hS (hS (hR [2,127]) (hN [2] (hS (hR [4]) hL) hL)) (hS (hR [4]) hL))))))),nils:=[],modes:=[],free:=[],cob:=[] }
def Aec (N:Nat):List (Nat×Tw):=[(51,A6j N),(52,A2y N),(53,Anh N)]
def Ez (N:Nat):Env:=mkE 138 Yd (Aec N)
def Bhz (N:Nat) (F:KF R):=As (Ez N) Tryz.f17 Yd.modes [] F
def Ge (N:Nat) (F:KF R):=atF (Ez N) [] N Tryz.f17 Yd (Bhz N F)
def Dc  (F:KF R):Bool→Option R:=(fun bh=>F (.bool bh) [])
def Mg (b:Int) (c:Bool) (a:LA) (d:Int):St:={ s:=[(1,(.int .i64 b)),(2,(.optr 300000 0)),(5,(.int .i64 d))],h:=[(300000,⟨false,false,true,c,0,a,false⟩)] }
def A2z (N:Nat) (F:KF R):St→Option R:=Bx (Ez N) [] N (Ge N F [1,1,1,1,0,1,0] []) N
def Ye (N:Nat) (F:KF R) (n:Nat):St→Option R:=A9 (Ez N) [] N (Ge N F [1,1,1,1,0,1,0] []) n
def Yf (b:Int) (c:Bool) (a:LA):St:={ s:=[(1,(.int .i64 b)),(2,(.optr 300000 0))],h:=[(300000,⟨false,false,true,c,0,a,false⟩)] }
def A20 (N:Nat) (F:KF R):St→Option R:=Bh (Ez N) [] N (Ge N F [1,1,1,1] [])
def A21 (N:Nat) (F:KF R):St→Option R:=Bl (Ez N) [] N (Ge N F [1,1,1,1] [])
def Yg (b:Int) (c:Bool) (a:LA):St:={ s:=[(1,(.int .i64 b)),(2,(.optr 300000 0))],h:=[(300000,⟨false,false,true,c,0,a,false⟩)] }
def A22 (N:Nat) (F:KF R):St→Option R:=Bh (Ez N) [] N (Ge N F [1,1,1] [])
def A23 (N:Nat) (F:KF R):St→Option R:=Bl (Ez N) [] N (Ge N F [1,1,1] [])
def Yh (b:Int) (c:Bool) (a:LA):St:={ s:=[(1,(.int .i64 b)),(2,(.optr 300000 0))],h:=[(300000,⟨false,false,true,c,0,a,false⟩)] }
def A24 (N:Nat) (F:KF R):St→Option R:=Bh (Ez N) [] N (Ge N F [1,1] [])
def A25 (N:Nat) (F:KF R):St→Option R:=Bl (Ez N) [] N (Ge N F [1,1] [])
theorem Bak (N:Nat)  (F:KF R) (b:Int) (c:Bool) (a:LA):∀ (n:Nat) (d:Int),Ye N F n (Mg b c a d)=(Mf N (Dc F) b c a n d):=by
 intro n
 induction n with
 | zero=>intros;kernel_rfl
 | succ n ih =>
  intro d
  have e0:=funext fun d=>(show Ye N F n (Mg b c a d)=_ from ih d)
  have hK:Ye N F (n+1) (Mg b c a d)=(Ut N (Dc F) b c a (fun d=>Ye N F n (Mg b c a d)) d):=by kernel_rfl
  exact hK.trans (by rw [e0];rfl)
theorem Bal (N:Nat)  (F:KF R) (b:Int) (c:Bool) (a:LA):A21 N F (Yf b c a)=(Alu N (Dc F) b c a):=by
 have e1:=funext fun d=>(show A2z N F (Mg b c a d)=_ from (Au ..).trans (Bak N F b c a N d))
 have hK:A21 N F (Yf b c a)=(Afx N (Dc F) b c a (fun d=>A2z N F (Mg b c a d))):=by kernel_rfl
 exact hK.trans (by rw [e1];rfl)
theorem Bam (N:Nat)  (F:KF R) (b:Int) (c:Bool) (a:LA):A23 N F (Yg b c a)=(Alv N (Dc F) b c a):=by
 have e1:=(show A20 N F (Yf b c a)=_ from (Aq ..).trans (Bal N F b c a))
 have hK:A23 N F (Yg b c a)=(Afy N (Dc F) b c a (A20 N F (Yf b c a))):=by kernel_rfl
 exact hK.trans (by rw [e1];rfl)
theorem Ban (N:Nat)  (F:KF R) (b:Int) (c:Bool) (a:LA):A25 N F (Yh b c a)=(Alw N (Dc F) b c a):=by
 have e1:=(show A22 N F (Yg b c a)=_ from (Aq ..).trans (Bam N F b c a))
 have hK:A25 N F (Yh b c a)=(Afz N (Dc F) b c a (A22 N F (Yg b c a))):=by kernel_rfl
 exact hK.trans (by rw [e1];rfl)
theorem Alx (N:Nat) (a:LA) (c:Bool) (b:Int) (F:KF R):Ac Tryz.prog muts (Aec N) Yd N 17 [(.pagg a c),(.int .i64 b)] [] F=(Jp N a c b (Dc F)):=by
 have e1:=(show A24 N F (Yh b c a)=_ from (Aq ..).trans (Ban N F b c a))
 have hK:Ac Tryz.prog muts (Aec N) Yd N 17 [(.pagg a c),(.int .i64 b)] [] F=(Azo N (Dc F) (A24 N F (Yh b c a)) a c b):=by kernel_rfl
 rw [Av7]
 exact hK.trans (by rw [e1];rfl)
def Uu (N:Nat) (args:List AV) (h:Ak) (k:KF R):Option R :=
 match args,h with
 | [(.pagg a c),(.int .i64 b)],[]=>(Jp N a c b (Dc k))
 | _,_=>none
def A26 (N:Nat):Tw:=⟨Uu N,fun args h k=>by
 unfold Uu;split
 exact twE (Alx ..) (Alx ..)
 rfl⟩
theorem Bl8 (N:Nat):Az Tryz.prog 17 (A26 N):=fun args h res e hh=>by
 change Uu N args h (fun v e=>some (v,e))=_ at hh
 unfold Uu at hh;split at hh
 exact Aa (T:=Aec N) ⟨Bjs N,Bl7 N,Baj N,trivial⟩ follows ((Alx ..).trans hh)
 cases hh
end
end Gx

namespace Gx
open Go Go.Proofs
set_option maxRecDepth 100000
noncomputable section
variable {R:Type}
def Kz (N:Nat)  (r0:Int→Int→Int→Int→Int→Int→Int→Int→Int→Int→Int→Int→Int→Int→Int→Int→Int→Int→Option R) (r1:Nat→Nat→LA→LA→Option R) (aa ab:Int) (x w:LA) (y:List UInt8) (z a b:Int) (ae:Nat) (c d e f g i j l m n o p q:Int) (af:Nat) (r t u:Int) (ag:LA) (ac ad:Nat)   (aj:LA):Option R :=
 (cond (ab==(20:Int)) (cond ((Nat.ble (af+1) 140737488355328)&&(Nat.ble ((af+1)*8) 140737488355328)) (r1 ae (af+1) aj ((List.take (af*1) ag)++[(.int .i64 aa)])) none) (r1 ae af aj ag))
def G1 (N:Nat)  (r0:Int→Int→Int→Int→Int→Int→Int→Int→Int→Int→Int→Int→Int→Int→Int→Int→Int→Int→Option R) (r1:Nat→Nat→LA→LA→Option R) (aa ab:Int) (x w:LA) (y:List UInt8) (z a b:Int) (ae:Nat) (c d e f g i j l m n o p q:Int) (af:Nat) (r t u:Int) (ag:LA) (ac ad:Nat) (aj:LA):Option R:=(Kz N r0 r1 aa ab x w y z a b ae c d e f g i j l m n o p q af r t u ag ac ad aj)
def K0 (N:Nat)  (r0:Int→Int→Int→Int→Int→Int→Int→Int→Int→Int→Int→Int→Int→Int→Int→Int→Int→Int→Option R) (r1:Nat→Nat→LA→LA→Option R) (aa ab:Int) (x w:LA) (y:List UInt8) (z a b:Int) (ae:Nat) (c d e f g i j l m n o p q:Int) (af:Nat) (r t u:Int) (ag:LA) (ac ad:Nat)  (q2:LA→Option R) (ah:LA):Option R :=
 (cond ((ab==(19:Int))==true) (cond (cond true (decide (((ae:Nat):Int)>(0:Int))) false) (cond (Aj (0:Int) ae) (rdI .i64 ah fun am=>(cond (Aj (0:Int) ae) (cond ((Nat.beq 1 1)&&((Nat.ble 1 (List.length ah))&&(!false))) (q2 (List.set ah 0 (.int .i64 (IntKind.wrap .i64 (am - aa))))) none) none)) none) (q2 ah)) (q2 ah))
def G2 (N:Nat)  (r0:Int→Int→Int→Int→Int→Int→Int→Int→Int→Int→Int→Int→Int→Int→Int→Int→Int→Int→Option R) (r1:Nat→Nat→LA→LA→Option R) (aa ab:Int) (x w:LA) (y:List UInt8) (z a b:Int) (ae:Nat) (c d e f g i j l m n o p q:Int) (af:Nat) (r t u:Int) (ag:LA) (ac ad:Nat) (ah:LA):Option R:=(K0 N r0 r1 aa ab x w y z a b ae c d e f g i j l m n o p q af r t u ag ac ad (fun aj=>(G1 N r0 r1 aa ab x w y z a b ae c d e f g i j l m n o p q af r t u ag ac ad aj)) ah)
def Gf (N:Nat)  (r0:Int→Int→Int→Int→Int→Int→Int→Int→Int→Int→Int→Int→Int→Int→Int→Int→Int→Int→Option R) (r1:Nat→Nat→LA→LA→Option R) (aa ab:Int) (x w:LA) (y:List UInt8) (z a b c d e f g i j l m n o p q r t u:Int) (ac ad:Nat)  (q1:LA→Option R) (ak:Bool) (ai ag:LA) (ae af:Nat):Option R :=
 (cond ak (cond (Aj (IntKind.wrap .i64 (((ae:Nat):Int) - (1:Int))) ae) (rdI .i64 (List.drop ((0+((Int.toNat (IntKind.wrap .i64 (((ae:Nat):Int) - (1:Int))))*2))+1) ai) fun an=>(cond (Aj (IntKind.wrap .i64 (((ae:Nat):Int) - (1:Int))) ae) (cond ((Nat.beq 1 1)&&((Nat.ble (((0+((Int.toNat (IntKind.wrap .i64 (((ae:Nat):Int) - (1:Int))))*2))+1)+1) (List.length ai))&&(!false))) (q1 (List.set ai ((0+((Int.toNat (IntKind.wrap .i64 (((ae:Nat):Int) - (1:Int))))*2))+1) (.int .i64 (IntKind.wrap .i64 (an - aa))))) none) none)) none) (q1 ai))
def Dg (N:Nat)  (r0:Int→Int→Int→Int→Int→Int→Int→Int→Int→Int→Int→Int→Int→Int→Int→Int→Int→Int→Option R) (r1:Nat→Nat→LA→LA→Option R) (aa ab:Int) (x w:LA) (y:List UInt8) (z a b c d e f g i j l m n o p q r t u:Int) (ac ad:Nat) (ak:Bool) (ai ag:LA) (ae af:Nat):Option R:=(Gf N r0 r1 aa ab x w y z a b c d e f g i j l m n o p q r t u ac ad (fun ah=>(G2 N r0 r1 aa ab x w y z a b ae c d e f g i j l m n o p q af r t u ag ac ad ah)) ak ai ag ae af)
def Qz (N:Nat) (r0:Int→Int→Int→Int→Int→Int→Int→Int→Int→Int→Int→Int→Int→Int→Int→Int→Int→Int→Option R) (r1:Nat→Nat→LA→LA→Option R) (q0:Int→Bool→LA→LA→Nat→Nat→Option R) (y:List UInt8) (z a b:Int) (ac:Nat) (c d e f g i j l m n o p q:Int) (ad:Nat) (r t u al aa:Int) (x w:LA):Option R :=
 (Aw N al 22 (fun ab=>(cond (decide (ab<(18:Int))) (cond (Aj ab 18) (cond (Nat.beq (0+((Int.toNat ab)*1)) 0) (r0 (IntKind.wrap .i64 (a - aa)) b c d e f g i j l m n o p q r t u) (cond (Nat.beq (0+((Int.toNat ab)*1)) 1) (r0 a (IntKind.wrap .i64 (b - aa)) c d e f g i j l m n o p q r t u) (cond (Nat.beq (0+((Int.toNat ab)*1)) 2) (r0 a b (IntKind.wrap .i64 (c - aa)) d e f g i j l m n o p q r t u) (cond (Nat.beq (0+((Int.toNat ab)*1)) 3) (r0 a b c (IntKind.wrap .i64 (d - aa)) e f g i j l m n o p q r t u) (cond (Nat.beq (0+((Int.toNat ab)*1)) 4) (r0 a b c d (IntKind.wrap .i64 (e - aa)) f g i j l m n o p q r t u) (cond (Nat.beq (0+((Int.toNat ab)*1)) 5) (r0 a b c d e (IntKind.wrap .i64 (f - aa)) g i j l m n o p q r t u) (cond (Nat.beq (0+((Int.toNat ab)*1)) 6) (r0 a b c d e f (IntKind.wrap .i64 (g - aa)) i j l m n o p q r t u) (cond (Nat.beq (0+((Int.toNat ab)*1)) 7) (r0 a b c d e f g (IntKind.wrap .i64 (i - aa)) j l m n o p q r t u) (cond (Nat.beq (0+((Int.toNat ab)*1)) 8) (r0 a b c d e f g i (IntKind.wrap .i64 (j - aa)) l m n o p q r t u) (cond (Nat.beq (0+((Int.toNat ab)*1)) 9) (r0 a b c d e f g i j (IntKind.wrap .i64 (l - aa)) m n o p q r t u) (cond (Nat.beq (0+((Int.toNat ab)*1)) 10) (r0 a b c d e f g i j l (IntKind.wrap .i64 (m - aa)) n o p q r t u) (cond (Nat.beq (0+((Int.toNat ab)*1)) 11) (r0 a b c d e f g i j l m (IntKind.wrap .i64 (n - aa)) o p q r t u) (cond (Nat.beq (0+((Int.toNat ab)*1)) 12) (r0 a b c d e f g i j l m n (IntKind.wrap .i64 (o - aa)) p q r t u) (cond (Nat.beq (0+((Int.toNat ab)*1)) 13) (r0 a b c d e f g i j l m n o (IntKind.wrap .i64 (p - aa)) q r t u) (cond (Nat.beq (0+((Int.toNat ab)*1)) 14) (r0 a b c d e f g i j l m n o p (IntKind.wrap .i64 (q - aa)) r t u) (cond (Nat.beq (0+((Int.toNat ab)*1)) 15) (r0 a b c d e f g i j l m n o p q (IntKind.wrap .i64 (r - aa)) t u) (cond (Nat.beq (0+((Int.toNat ab)*1)) 16) (r0 a b c d e f g i j l m n o p q r (IntKind.wrap .i64 (t - aa)) u) (cond (Nat.beq (0+((Int.toNat ab)*1)) 17) (r0 a b c d e f g i j l m n o p q r t (IntKind.wrap .i64 (u - aa))) none)))))))))))))))))) none) (cond ((Nat.ble (0+ac) 140737488355328)&&(Nat.ble ((0+ac)*16) 140737488355328)) (cond ((Nat.ble (0+ad) 140737488355328)&&(Nat.ble ((0+ad)*8) 140737488355328)) (cond ((ab==(18:Int))==true) (q0 ab (cond true (decide ((((0+ac):Nat):Int)>(0:Int))) false) (List.take (ac*2) x) (List.take (ad*1) w) (0+ac) (0+ad)) (q0 ab false (List.take (ac*2) x) (List.take (ad*1) w) (0+ac) (0+ad))) none) none))))
def Q3 (N:Nat) (y:List UInt8) (z a b:Int) (ac:Nat) (c d e f g i j l m n o p q:Int) (ad:Nat) (r t u al aa:Int) (x w:LA) (r0:Int→Int→Int→Int→Int→Int→Int→Int→Int→Int→Int→Int→Int→Int→Int→Int→Int→Int→Option R) (r1:Nat→Nat→LA→LA→Option R):Option R:=(Qz N r0 r1 (fun ab ak ai ag ae af=>(Dg N r0 r1 aa ab x w y z a b c d e f g i j l m n o p q r t u ac ad ak ai ag ae af)) y z a b ac c d e f g i j l m n o p q ad r t u al aa x w)
def Hv:=(Al (@Q3 R)).1
theorem Vp:@Hv R=@Q3 R:=(Al _).2
def G3:Hints:={ H:=(hS (hR [1,2,3,6]) (hS (hR [1,2,3,6,7]) (hS (hR [2,3,6,7,8]) (hS (hS (hR [2,3,6,7,8,36]) (hN [2,3,6,7,8] (hS (hR [3,6]) (hS (hR [6]) hL)) hL)) (hS (hR [2,3,6,7,8]) (hS (hR [2,3,6,7,8]) (hJ (hJ (hR [2,3,6,7,8,66]) (hN [2,3,6,7,8] (hR [2,3,6,7,8]) hL)) (hJ (hS (hR [2,3,6,7,8,90]) (hN [2,3,6,7,8] (hR [2,3,6,7,8]) hL)) (hS (hS (hR [2,3,6,104]) (hN [3,6] (hR [3,6]) hL)) (hS (hR [6]) hL)))))))))),nils:=[],modes:=[],free:=[],cob:=[] }
def It (N:Nat):List (Nat×Tw):=[(12,P5 N)]
def Ce (N:Nat):Env:=mkE 112 G3 (It N)
def Ar0 (N:Nat) (F:KF R):=As (Ce N) Tryz.f13 G3.modes [100000,100001] F
def Dh (N:Nat) (F:KF R):=atF (Ce N) [100000,100001] N Tryz.f13 G3 (Ar0 N F)
def Bs (y:List UInt8) (z:Int) (ac ad:Nat) (x w:LA) (F:KF R):Int→Int→Int→Int→Int→Int→Int→Int→Int→Int→Int→Int→Int→Int→Int→Int→Int→Int→Option R:=(fun ao ap aq ar au av aw ax ay az ba bb bc bd be bf bg bh=>F (.agg [(.str y),(.int .i64 z),(.int .i64 ao),(.int .i64 ap),(.own 100000 0 ac),(.int .i64 aq),(.int .i64 ar),(.int .i64 au),(.int .i64 av),(.int .i64 aw),(.int .i64 ax),(.int .i64 ay),(.int .i64 az),(.int .i64 ba),(.int .i64 bb),(.int .i64 bc),(.int .i64 bd),(.int .i64 be),(.own 100001 0 ad),(.int .i64 bf),(.int .i64 bg),(.int .i64 bh)]) [(100000,⟨false,false,true,false,2,x,false⟩),(100001,⟨false,false,true,false,1,w,false⟩)])
def Bt (y:List UInt8) (z a b c d e f g i j l m n o p q r t u:Int) (x w:LA) (F:KF R):Nat→Nat→LA→LA→Option R:=(fun bi bj bk bl=>F (.agg [(.str y),(.int .i64 z),(.int .i64 a),(.int .i64 b),(.own 300000 0 bi),(.int .i64 c),(.int .i64 d),(.int .i64 e),(.int .i64 f),(.int .i64 g),(.int .i64 i),(.int .i64 j),(.int .i64 l),(.int .i64 m),(.int .i64 n),(.int .i64 o),(.int .i64 p),(.int .i64 q),(.own 300001 0 bj),(.int .i64 r),(.int .i64 t),(.int .i64 u)]) [(100000,⟨false,false,true,false,2,x,false⟩),(100001,⟨false,false,true,false,1,w,false⟩),(300000,⟨false,false,true,false,2,bk,false⟩),(300001,⟨false,false,true,false,1,bl,false⟩)])
def G4 (aa ab:Int) (x w:LA) (y:List UInt8) (z a b:Int) (ae:Nat) (c d e f g i j l m n o p q:Int) (af:Nat) (r t u:Int) (ag:LA) (ac ad:Nat) (aj:LA):St:={ s:=[(2,(.int .i64 aa)),(3,(.optr 300000 0)),(6,(.optr 300001 0)),(7,(.own 300002 0 18)),(8,(.int .i64 ab))],h:=[(100000,⟨false,false,true,false,2,x,false⟩),(100001,⟨false,false,true,false,1,w,false⟩),(300000,⟨false,false,false,false,0,[(.str y),(.int .i64 z),(.int .i64 a),(.int .i64 b),(.own 300003 0 ae),(.int .i64 c),(.int .i64 d),(.int .i64 e),(.int .i64 f),(.int .i64 g),(.int .i64 i),(.int .i64 j),(.int .i64 l),(.int .i64 m),(.int .i64 n),(.int .i64 o),(.int .i64 p),(.int .i64 q),(.own 300004 0 af),(.int .i64 r),(.int .i64 t),(.int .i64 u)],false⟩),(300001,⟨false,false,false,false,0,[(.str ([]:List UInt8)),(.int .i64 0),(.int .i64 0),(.int .i64 0),.nsl,(.int .i64 0),(.int .i64 0),(.int .i64 0),(.int .i64 0),(.int .i64 0),(.int .i64 0),(.int .i64 0),(.int .i64 0),(.int .i64 0),(.int .i64 0),(.int .i64 0),(.int .i64 0),(.int .i64 0),.nsl,(.int .i64 0),(.int .i64 0),(.int .i64 0)],false⟩),(300002,⟨false,false,false,false,1,[(.optr 300000 2),(.optr 300000 3),(.optr 300000 5),(.optr 300000 6),(.optr 300000 7),(.optr 300000 8),(.optr 300000 9),(.optr 300000 10),(.optr 300000 11),(.optr 300000 12),(.optr 300000 13),(.optr 300000 14),(.optr 300000 15),(.optr 300000 16),(.optr 300000 17),(.optr 300000 19),(.optr 300000 20),(.optr 300000 21)],false⟩),(300003,⟨false,false,true,false,2,aj,false⟩),(300004,⟨false,false,true,false,1,ag,false⟩)] }
def Wp (N:Nat) (F:KF R):St→Option R:=Bh (Ce N) [100000,100001] N (Dh N F [1,1,1,1,1,1,1,1] [])
def Wq (N:Nat) (F:KF R):St→Option R:=Bl (Ce N) [100000,100001] N (Dh N F [1,1,1,1,1,1,1,1] [])
def G5 (aa ab:Int) (x w:LA) (y:List UInt8) (z a b:Int) (ae:Nat) (c d e f g i j l m n o p q:Int) (af:Nat) (r t u:Int) (ag:LA) (ac ad:Nat) (ah:LA):St:={ s:=[(2,(.int .i64 aa)),(3,(.optr 300000 0)),(6,(.optr 300001 0)),(7,(.own 300002 0 18)),(8,(.int .i64 ab))],h:=[(100000,⟨false,false,true,false,2,x,false⟩),(100001,⟨false,false,true,false,1,w,false⟩),(300000,⟨false,false,false,false,0,[(.str y),(.int .i64 z),(.int .i64 a),(.int .i64 b),(.own 300003 0 ae),(.int .i64 c),(.int .i64 d),(.int .i64 e),(.int .i64 f),(.int .i64 g),(.int .i64 i),(.int .i64 j),(.int .i64 l),(.int .i64 m),(.int .i64 n),(.int .i64 o),(.int .i64 p),(.int .i64 q),(.own 300004 0 af),(.int .i64 r),(.int .i64 t),(.int .i64 u)],false⟩),(300001,⟨false,false,false,false,0,[(.str ([]:List UInt8)),(.int .i64 0),(.int .i64 0),(.int .i64 0),.nsl,(.int .i64 0),(.int .i64 0),(.int .i64 0),(.int .i64 0),(.int .i64 0),(.int .i64 0),(.int .i64 0),(.int .i64 0),(.int .i64 0),(.int .i64 0),(.int .i64 0),(.int .i64 0),(.int .i64 0),.nsl,(.int .i64 0),(.int .i64 0),(.int .i64 0)],false⟩),(300002,⟨false,false,false,false,1,[(.optr 300000 2),(.optr 300000 3),(.optr 300000 5),(.optr 300000 6),(.optr 300000 7),(.optr 300000 8),(.optr 300000 9),(.optr 300000 10),(.optr 300000 11),(.optr 300000 12),(.optr 300000 13),(.optr 300000 14),(.optr 300000 15),(.optr 300000 16),(.optr 300000 17),(.optr 300000 19),(.optr 300000 20),(.optr 300000 21)],false⟩),(300003,⟨false,false,true,false,2,ah,false⟩),(300004,⟨false,false,true,false,1,ag,false⟩)] }
def Wr (N:Nat) (F:KF R):St→Option R:=Bh (Ce N) [100000,100001] N (Dh N F [1,1,1,1,1,1,1] [])
def Ws (N:Nat) (F:KF R):St→Option R:=Bl (Ce N) [100000,100001] N (Dh N F [1,1,1,1,1,1,1] [])
def G6 (aa ab:Int) (x w:LA) (y:List UInt8) (z a b c d e f g i j l m n o p q r t u:Int) (ac ad:Nat) (ak:Bool) (ai ag:LA) (ae af:Nat):St:={ s:=[(2,(.int .i64 aa)),(3,(.optr 300000 0)),(6,(.optr 300001 0)),(7,(.own 300002 0 18)),(8,(.int .i64 ab)),(66,(.bool ak))],h:=[(800,⟨false,false,true,false,2,ai,false⟩),(880,⟨false,false,true,false,1,ag,false⟩),(100000,⟨false,false,true,false,2,x,false⟩),(100001,⟨false,false,true,false,1,w,false⟩),(300000,⟨false,false,false,false,0,[(.str y),(.int .i64 z),(.int .i64 a),(.int .i64 b),(.own 800 0 ae),(.int .i64 c),(.int .i64 d),(.int .i64 e),(.int .i64 f),(.int .i64 g),(.int .i64 i),(.int .i64 j),(.int .i64 l),(.int .i64 m),(.int .i64 n),(.int .i64 o),(.int .i64 p),(.int .i64 q),(.own 880 0 af),(.int .i64 r),(.int .i64 t),(.int .i64 u)],false⟩),(300001,⟨false,false,false,false,0,[(.str ([]:List UInt8)),(.int .i64 0),(.int .i64 0),(.int .i64 0),.nsl,(.int .i64 0),(.int .i64 0),(.int .i64 0),(.int .i64 0),(.int .i64 0),(.int .i64 0),(.int .i64 0),(.int .i64 0),(.int .i64 0),(.int .i64 0),(.int .i64 0),(.int .i64 0),(.int .i64 0),.nsl,(.int .i64 0),(.int .i64 0),(.int .i64 0)],false⟩),(300002,⟨false,false,false,false,1,[(.optr 300000 2),(.optr 300000 3),(.optr 300000 5),(.optr 300000 6),(.optr 300000 7),(.optr 300000 8),(.optr 300000 9),(.optr 300000 10),(.optr 300000 11),(.optr 300000 12),(.optr 300000 13),(.optr 300000 14),(.optr 300000 15),(.optr 300000 16),(.optr 300000 17),(.optr 300000 19),(.optr 300000 20),(.optr 300000 21)],false⟩)] }
def Wt (N:Nat) (F:KF R):St→Option R:=Bh (Ce N) [100000,100001] N (Dh N F [1,1,1,1,1,1,0,1] [])
def Wu (N:Nat) (F:KF R):St→Option R:=Bl (Ce N) [100000,100001] N (Dh N F [1,1,1,1,1,1,0,1] [])
theorem Aly (N:Nat)  (F:KF R) (aa ab:Int) (x w:LA) (y:List UInt8) (z a b:Int) (ae:Nat) (c d e f g i j l m n o p q:Int) (af:Nat) (r t u:Int) (ag:LA) (ac ad:Nat):∀ (aj:LA),Wq N F (G4 aa ab x w y z a b ae c d e f g i j l m n o p q af r t u ag ac ad aj)=(G1 N (Bs y z ac ad x w F) (Bt y z a b c d e f g i j l m n o p q r t u x w F) aa ab x w y z a b ae c d e f g i j l m n o p q af r t u ag ac ad aj):=by
 intro aj
 have hK:Wq N F (G4 aa ab x w y z a b ae c d e f g i j l m n o p q af r t u ag ac ad aj)=(Kz N (Bs y z ac ad x w F) (Bt y z a b c d e f g i j l m n o p q r t u x w F) aa ab x w y z a b ae c d e f g i j l m n o p q af r t u ag ac ad aj):=by kernel_rfl
 exact hK
theorem Alz (N:Nat)  (F:KF R) (aa ab:Int) (x w:LA) (y:List UInt8) (z a b:Int) (ae:Nat) (c d e f g i j l m n o p q:Int) (af:Nat) (r t u:Int) (ag:LA) (ac ad:Nat):∀ (ah:LA),Ws N F (G5 aa ab x w y z a b ae c d e f g i j l m n o p q af r t u ag ac ad ah)=(G2 N (Bs y z ac ad x w F) (Bt y z a b c d e f g i j l m n o p q r t u x w F) aa ab x w y z a b ae c d e f g i j l m n o p q af r t u ag ac ad ah):=by
 intro ah
 have e1:=funext fun aj=>(show Wp N F (G4 aa ab x w y z a b ae c d e f g i j l m n o p q af r t u ag ac ad aj)=_ from (Aq ..).trans (Aly N F aa ab x w y z a b ae c d e f g i j l m n o p q af r t u ag ac ad aj))
 have hK:Ws N F (G5 aa ab x w y z a b ae c d e f g i j l m n o p q af r t u ag ac ad ah)=(K0 N (Bs y z ac ad x w F) (Bt y z a b c d e f g i j l m n o p q r t u x w F) aa ab x w y z a b ae c d e f g i j l m n o p q af r t u ag ac ad (fun aj=>Wp N F (G4 aa ab x w y z a b ae c d e f g i j l m n o p q af r t u ag ac ad aj)) ah):=by kernel_rfl
 exact hK.trans (by rw [e1];rfl)
theorem Al0 (N:Nat)  (F:KF R) (aa ab:Int) (x w:LA) (y:List UInt8) (z a b c d e f g i j l m n o p q r t u:Int) (ac ad:Nat):∀ (ak:Bool) (ai ag:LA) (ae af:Nat),Wu N F (G6 aa ab x w y z a b c d e f g i j l m n o p q r t u ac ad ak ai ag ae af)=(Dg N (Bs y z ac ad x w F) (Bt y z a b c d e f g i j l m n o p q r t u x w F) aa ab x w y z a b c d e f g i j l m n o p q r t u ac ad ak ai ag ae af):=by
 intro ak ai ag ae af
 have e1:=funext fun ah=>(show Wr N F (G5 aa ab x w y z a b ae c d e f g i j l m n o p q af r t u ag ac ad ah)=_ from (Aq ..).trans (Alz N F aa ab x w y z a b ae c d e f g i j l m n o p q af r t u ag ac ad ah))
 have hK:Wu N F (G6 aa ab x w y z a b c d e f g i j l m n o p q r t u ac ad ak ai ag ae af)=(Gf N (Bs y z ac ad x w F) (Bt y z a b c d e f g i j l m n o p q r t u x w F) aa ab x w y z a b c d e f g i j l m n o p q r t u ac ad (fun ah=>Wr N F (G5 aa ab x w y z a b ae c d e f g i j l m n o p q af r t u ag ac ad ah)) ak ai ag ae af):=by kernel_rfl
 exact hK.trans (by rw [e1];rfl)
theorem Mn (N:Nat) (y:List UInt8) (z a b:Int) (ac:Nat) (c d e f g i j l m n o p q:Int) (ad:Nat) (r t u al aa:Int) (x w:LA) (F:KF R):Ac Tryz.prog muts (It N) G3 N 13 [(.agg [(.str y),(.int .i64 z),(.int .i64 a),(.int .i64 b),(.own 100000 0 ac),(.int .i64 c),(.int .i64 d),(.int .i64 e),(.int .i64 f),(.int .i64 g),(.int .i64 i),(.int .i64 j),(.int .i64 l),(.int .i64 m),(.int .i64 n),(.int .i64 o),(.int .i64 p),(.int .i64 q),(.own 100001 0 ad),(.int .i64 r),(.int .i64 t),(.int .i64 u)]),(.int .i64 al),(.int .i64 aa)] [(100000,⟨false,false,true,false,2,x,false⟩),(100001,⟨false,false,true,false,1,w,false⟩)] F=(Hv N y z a b ac c d e f g i j l m n o p q ad r t u al aa x w (Bs y z ac ad x w F) (Bt y z a b c d e f g i j l m n o p q r t u x w F)):=by
 have e1:=funext fun ab=>funext fun ak=>funext fun ai=>funext fun ag=>funext fun ae=>funext fun af=>(show Wt N F (G6 aa ab x w y z a b c d e f g i j l m n o p q r t u ac ad ak ai ag ae af)=_ from (Aq ..).trans (Al0 N F aa ab x w y z a b c d e f g i j l m n o p q r t u ac ad ak ai ag ae af))
 have hK:Ac Tryz.prog muts (It N) G3 N 13 [(.agg [(.str y),(.int .i64 z),(.int .i64 a),(.int .i64 b),(.own 100000 0 ac),(.int .i64 c),(.int .i64 d),(.int .i64 e),(.int .i64 f),(.int .i64 g),(.int .i64 i),(.int .i64 j),(.int .i64 l),(.int .i64 m),(.int .i64 n),(.int .i64 o),(.int .i64 p),(.int .i64 q),(.own 100001 0 ad),(.int .i64 r),(.int .i64 t),(.int .i64 u)]),(.int .i64 al),(.int .i64 aa)] [(100000,⟨false,false,true,false,2,x,false⟩),(100001,⟨false,false,true,false,1,w,false⟩)] F=(Qz N (Bs y z ac ad x w F) (Bt y z a b c d e f g i j l m n o p q r t u x w F) (fun ab ak ai ag ae af=>Wt N F (G6 aa ab x w y z a b c d e f g i j l m n o p q r t u ac ad ak ai ag ae af)) y z a b ac c d e f g i j l m n o p q ad r t u al aa x w):=by kernel_rfl
 rw [Vp]
 exact hK.trans (by rw [e1];rfl)
def K1 (N:Nat) (r0:Bool→Option R)  (a:List UInt8) (b d e:Int) (s:LA) (f:Nat) (ae c:Bool) (g i j l m t u w n o x p q:Int) (af:LA) (y:Nat) (ah ab:Bool) (z aa r ac ad ag:Int) (ai:Bool):Option R :=
 (Vg N [(.str a),(.int .i64 b),(.int .i64 d),(.int .i64 e),(.imm s f 2 false c),(.int .i64 g),(.int .i64 i),(.int .i64 j),(.int .i64 l),(.int .i64 m),(.int .i64 t),(.int .i64 u),(.int .i64 w),(.int .i64 n),(.int .i64 o),(.int .i64 x),(.int .i64 p),(.int .i64 q),(.imm af y 1 false ab),(.int .i64 z),(.int .i64 aa),(.int .i64 r)] (c||(ab||false)) (fun dl=>(cond (!dl) (r0 true) (cond ai (Aw N ac 12 (fun aj=>(Aqm N a b d e s f ae c g i j l m t u w n o x p q af y ah ab z aa r (IntKind.wrap .i64 (aj+(1:Int))) (fun av aw ax ay am az ba bb=>(Uf N a b d e s f ae c g i j l m av aw ax n o ay p q am az ba r ad (Int.tmod ag (4:Int)) bb (fun bw bx bz ca cb cc cd ce cf cg ch ci cj ck cl cm cn co=>(Ey N (fun dm=>(cond (dm==true) (Hp N [(.str a),(.int .i64 b),(.int .i64 bw),(.int .i64 bx),(.imm s f 2 false c),(.int .i64 bz),(.int .i64 ca),(.int .i64 cb),(.int .i64 cc),(.int .i64 cd),(.int .i64 ce),(.int .i64 cf),(.int .i64 cg),(.int .i64 ch),(.int .i64 ci),(.int .i64 cj),(.int .i64 ck),(.int .i64 cl),(.imm (List.take (am*1) bb) am 1 false true),(.int .i64 cm),(.int .i64 cn),(.int .i64 co)] (c||true) (IntKind.wrap .i64 (aj+(1:Int))) (fun dn=>(Jp N [(.str a),(.int .i64 b),(.int .i64 bw),(.int .i64 bx),(.imm s f 2 false c),(.int .i64 bz),(.int .i64 ca),(.int .i64 cb),(.int .i64 cc),(.int .i64 cd),(.int .i64 ce),(.int .i64 cf),(.int .i64 cg),(.int .i64 ch),(.int .i64 ci),(.int .i64 cj),(.int .i64 ck),(.int .i64 cl),(.imm (List.take (am*1) bb) am 1 false true),(.int .i64 cm),(.int .i64 cn),(.int .i64 co)] (c||true) (IntKind.wrap .i64 (aj+(1:Int))) (fun dp=>(r0 (cond true (dn==dp) false)))))) (r0 false))))) (fun ap aq cp cq=>(Ey N (fun dq=>(cond (dq==true) (Hp N [(.str a),(.int .i64 b),(.int .i64 d),(.int .i64 e),(.imm (List.take (ap*2) cp) ap 2 false true),(.int .i64 g),(.int .i64 i),(.int .i64 j),(.int .i64 l),(.int .i64 m),(.int .i64 av),(.int .i64 aw),(.int .i64 ax),(.int .i64 n),(.int .i64 o),(.int .i64 ay),(.int .i64 p),(.int .i64 q),(.imm (List.take (aq*1) cq) aq 1 false true),(.int .i64 az),(.int .i64 ba),(.int .i64 r)] true (IntKind.wrap .i64 (aj+(1:Int))) (fun dr=>(Jp N [(.str a),(.int .i64 b),(.int .i64 d),(.int .i64 e),(.imm (List.take (ap*2) cp) ap 2 false true),(.int .i64 g),(.int .i64 i),(.int .i64 j),(.int .i64 l),(.int .i64 m),(.int .i64 av),(.int .i64 aw),(.int .i64 ax),(.int .i64 n),(.int .i64 o),(.int .i64 ay),(.int .i64 p),(.int .i64 q),(.imm (List.take (aq*1) cq) aq 1 false true),(.int .i64 az),(.int .i64 ba),(.int .i64 r)] true (IntKind.wrap .i64 (aj+(1:Int))) (fun ds=>(r0 (cond true (dr==ds) false)))))) (r0 false))))))) (fun bc bd an be bf bg bh bi bj bk bl bm bn bo bp bq ao br bs bt bu bv=>(Hv N a b bc bd an be bf bg bh bi bj bk bl bm bn bo bp bq ao br bs bt ad (Int.tmod ag (4:Int)) bu bv (fun cr cs ct cu cv cw cx cy cz da db dc dd de df dg dh di=>(Ey N (fun dt=>(cond (dt==true) (Hp N [(.str a),(.int .i64 b),(.int .i64 cr),(.int .i64 cs),(.imm (List.take (an*2) bu) an 2 false true),(.int .i64 ct),(.int .i64 cu),(.int .i64 cv),(.int .i64 cw),(.int .i64 cx),(.int .i64 cy),(.int .i64 cz),(.int .i64 da),(.int .i64 db),(.int .i64 dc),(.int .i64 dd),(.int .i64 de),(.int .i64 df),(.imm (List.take (ao*1) bv) ao 1 false true),(.int .i64 dg),(.int .i64 dh),(.int .i64 di)] true (IntKind.wrap .i64 (aj+(1:Int))) (fun du=>(Jp N [(.str a),(.int .i64 b),(.int .i64 cr),(.int .i64 cs),(.imm (List.take (an*2) bu) an 2 false true),(.int .i64 ct),(.int .i64 cu),(.int .i64 cv),(.int .i64 cw),(.int .i64 cx),(.int .i64 cy),(.int .i64 cz),(.int .i64 da),(.int .i64 db),(.int .i64 dc),(.int .i64 dd),(.int .i64 de),(.int .i64 df),(.imm (List.take (ao*1) bv) ao 1 false true),(.int .i64 dg),(.int .i64 dh),(.int .i64 di)] true (IntKind.wrap .i64 (aj+(1:Int))) (fun dv=>(r0 (cond true (du==dv) false)))))) (r0 false))))) (fun ar au dj dk=>(Ey N (fun dw=>(cond (dw==true) (Hp N [(.str a),(.int .i64 b),(.int .i64 bc),(.int .i64 bd),(.imm (List.take (ar*2) dj) ar 2 false true),(.int .i64 be),(.int .i64 bf),(.int .i64 bg),(.int .i64 bh),(.int .i64 bi),(.int .i64 bj),(.int .i64 bk),(.int .i64 bl),(.int .i64 bm),(.int .i64 bn),(.int .i64 bo),(.int .i64 bp),(.int .i64 bq),(.imm (List.take (au*1) dk) au 1 false true),(.int .i64 br),(.int .i64 bs),(.int .i64 bt)] true (IntKind.wrap .i64 (aj+(1:Int))) (fun dx=>(Jp N [(.str a),(.int .i64 b),(.int .i64 bc),(.int .i64 bd),(.imm (List.take (ar*2) dj) ar 2 false true),(.int .i64 be),(.int .i64 bf),(.int .i64 bg),(.int .i64 bh),(.int .i64 bi),(.int .i64 bj),(.int .i64 bk),(.int .i64 bl),(.int .i64 bm),(.int .i64 bn),(.int .i64 bo),(.int .i64 bp),(.int .i64 bq),(.imm (List.take (au*1) dk) au 1 false true),(.int .i64 br),(.int .i64 bs),(.int .i64 bt)] true (IntKind.wrap .i64 (aj+(1:Int))) (fun dy=>(r0 (cond true (dx==dy) false)))))) (r0 false)))))))))) (Ey N (fun dz=>(cond (dz==true) (Hp N [(.str a),(.int .i64 b),(.int .i64 d),(.int .i64 e),(.imm s f 2 false c),(.int .i64 g),(.int .i64 i),(.int .i64 j),(.int .i64 l),(.int .i64 m),(.int .i64 t),(.int .i64 u),(.int .i64 w),(.int .i64 n),(.int .i64 o),(.int .i64 x),(.int .i64 p),(.int .i64 q),(.imm af y 1 false ab),(.int .i64 z),(.int .i64 aa),(.int .i64 r)] (c||(ab||false)) ac (fun ea=>(Jp N [(.str a),(.int .i64 b),(.int .i64 d),(.int .i64 e),(.imm s f 2 false c),(.int .i64 g),(.int .i64 i),(.int .i64 j),(.int .i64 l),(.int .i64 m),(.int .i64 t),(.int .i64 u),(.int .i64 w),(.int .i64 n),(.int .i64 o),(.int .i64 x),(.int .i64 p),(.int .i64 q),(.imm af y 1 false ab),(.int .i64 z),(.int .i64 aa),(.int .i64 r)] (c||(ab||false)) ac (fun eb=>(r0 (cond true (ea==eb) false)))))) (r0 false))))))))
def K2 (N:Nat) (a:List UInt8) (b d e:Int) (s:LA) (f:Nat) (ae c:Bool) (g i j l m t u w n o x p q:Int) (af:LA) (y:Nat) (ah ab:Bool) (z aa r ac ad ag:Int) (ai:Bool) (r0:Bool→Option R):Option R:=(K1 N r0 a b d e s f ae c g i j l m t u w n o x p q af y ah ab z aa r ac ad ag ai)
def G7:=(Al (@K2 R)).1
theorem Ov:@G7 R=@K2 R:=(Al _).2
def Q4:Hints:={ H:=(hS (hR [1,2,3,4,5]) (hS (hS (hR [1,2,3,4,5,13]) (hN [1,2,3,4,5] (hS (hR [10]) hL) hL)) (hS (hS (hR [1,2,3,5,14]) (hN [1,5] (hS (hR [1,2,3,5]) (hR [1,5])) hL)) (hS (hR [10]) hL)))),nils:=[],modes:=[],free:=[],cob:=[] }
def Bp (N:Nat) (args:List AV) (h:Ak) (k:KF R):Option R :=
 match args,h with
 | [(.agg [(.str a),(.int .i64 b),(.int .i64 d),(.int .i64 e),(.imm s f 2 ae c),(.int .i64 g),(.int .i64 i),(.int .i64 j),(.int .i64 l),(.int .i64 m),(.int .i64 t),(.int .i64 u),(.int .i64 w),(.int .i64 n),(.int .i64 o),(.int .i64 x),(.int .i64 p),(.int .i64 q),(.own 100000 0 y),(.int .i64 z),(.int .i64 aa),(.int .i64 r)]),(.int .i64 ac),(.int .i64 ad)],[(100000,⟨false,false,true,false,1,al,false⟩)]=>(Uf N a b d e s f ae c g i j l m t u w n o x p q y z aa r ac ad al (Ci a b s f ae c y al k) (Cj a b d e g i j l m t u w n o x p q z aa r al k))
 | [(.agg [(.str a),(.int .i64 b),(.int .i64 d),(.int .i64 e),(.own 100000 0 f),(.int .i64 g),(.int .i64 i),(.int .i64 j),(.int .i64 l),(.int .i64 m),(.int .i64 t),(.int .i64 u),(.int .i64 w),(.int .i64 n),(.int .i64 o),(.int .i64 x),(.int .i64 p),(.int .i64 q),(.own 100001 0 y),(.int .i64 z),(.int .i64 aa),(.int .i64 r)]),(.int .i64 ac),(.int .i64 ad)],[(100000,⟨false,false,true,false,2,al,false⟩),(100001,⟨false,false,true,false,1,ak,false⟩)]=>(Hv N a b d e f g i j l m t u w n o x p q y z aa r ac ad al ak (Bs a b f y al ak k) (Bt a b d e g i j l m t u w n o x p q z aa r al ak k))
 | _,_=>none
def D7 (N:Nat):Tw:=⟨Bp N,fun args h k=>by
 unfold Bp;split
 exact twE (So ..) (So ..)
 exact twE (Mn ..) (Mn ..)
 rfl⟩
theorem Mh (N:Nat):Az Tryz.prog 13 (D7 N):=fun args h res ak hh=>by
 change Bp N args h (fun v ak=>some (v,ak))=_ at hh
 unfold Bp at hh;split at hh
 exact Aa (T:=Np N) ⟨X1 N,trivial⟩ follows ((So ..).trans hh)
 exact Aa (T:=It N) ⟨X1 N,trivial⟩ follows ((Mn ..).trans hh)
 cases hh
def Js (N:Nat):List (Nat×Tw):=[(11,Aqf N),(12,P5 N),(14,A85 N),(13,D7 N),(15,Arz N),(16,Vk N),(17,A26 N)]
def Iu  (F:KF R):Bool→Option R:=(fun ec=>F (.bool ec) [])
theorem Iv (N:Nat) (a:List UInt8) (b d e:Int) (s:LA) (f:Nat) (ae c:Bool) (g i j l m t u w n o x p q:Int) (af:LA) (y:Nat) (ah ab:Bool) (z aa r ac ad ag:Int) (ai:Bool) (F:KF R):Ac Tryz.prog muts (Js N) Q4 N 3 [(.agg [(.str a),(.int .i64 b),(.int .i64 d),(.int .i64 e),(.imm s f 2 ae c),(.int .i64 g),(.int .i64 i),(.int .i64 j),(.int .i64 l),(.int .i64 m),(.int .i64 t),(.int .i64 u),(.int .i64 w),(.int .i64 n),(.int .i64 o),(.int .i64 x),(.int .i64 p),(.int .i64 q),(.imm af y 1 ah ab),(.int .i64 z),(.int .i64 aa),(.int .i64 r)]),(.int .i64 ac),(.int .i64 ad),(.int .i64 ag),(.bool ai)] [] F=(G7 N a b d e s f ae c g i j l m t u w n o x p q af y ah ab z aa r ac ad ag ai (Iu F)):=by
 have hK:Ac Tryz.prog muts (Js N) Q4 N 3 [(.agg [(.str a),(.int .i64 b),(.int .i64 d),(.int .i64 e),(.imm s f 2 ae c),(.int .i64 g),(.int .i64 i),(.int .i64 j),(.int .i64 l),(.int .i64 m),(.int .i64 t),(.int .i64 u),(.int .i64 w),(.int .i64 n),(.int .i64 o),(.int .i64 x),(.int .i64 p),(.int .i64 q),(.imm af y 1 ah ab),(.int .i64 z),(.int .i64 aa),(.int .i64 r)]),(.int .i64 ac),(.int .i64 ad),(.int .i64 ag),(.bool ai)] [] F=(K1 N (Iu F) a b d e s f ae c g i j l m t u w n o x p q af y ah ab z aa r ac ad ag ai):=by kernel_rfl
 rw [Ov]
 exact hK
def D8 (N:Nat) (args:List AV) (h:Ak) (k:KF R):Option R :=
 match args,h with
 | [(.agg [(.str a),(.int .i64 b),(.int .i64 d),(.int .i64 e),(.imm s f 2 ae c),(.int .i64 g),(.int .i64 i),(.int .i64 j),(.int .i64 l),(.int .i64 m),(.int .i64 t),(.int .i64 u),(.int .i64 w),(.int .i64 n),(.int .i64 o),(.int .i64 x),(.int .i64 p),(.int .i64 q),(.imm af y 1 ah ab),(.int .i64 z),(.int .i64 aa),(.int .i64 r)]),(.int .i64 ac),(.int .i64 ad),(.int .i64 ag),(.bool ai)],[]=>(G7 N a b d e s f ae c g i j l m t u w n o x p q af y ah ab z aa r ac ad ag ai (Iu k))
 | _,_=>none
def Q5 (N:Nat):Tw:=⟨D8 N,fun args h k=>by
 unfold D8;split
 exact twE (Iv ..) (Iv ..)
 rfl⟩
theorem Al1 (N:Nat):Az Tryz.prog 3 (Q5 N):=fun args h res ak hh=>by
 change D8 N args h (fun v ak=>some (v,ak))=_ at hh
 unfold D8 at hh;split at hh
 exact Aa (T:=Js N) ⟨Be3 N,X1 N,Bnz N,Mh N,Bf5 N,Adz N,Bl8 N,trivial⟩ follows ((Iv ..).trans hh)
 cases hh
end
end Gx

namespace Gx
open Go
theorem wrap_u8 (a:Nat):IntKind.wrap .u8 (a:Int)=((a%256:Nat):Int):=by rw [IntKind.wrap_u8];omega
theorem wrap_u32 (a:Nat) (h:a<4294967296):IntKind.wrap .u32 (a:Int)=(a:Int):=IntWalk.u32_in _ (by omega)
theorem Bsc (a:Nat):IntKind.wrap .u32 (a:Int)=((a%4294967296:Nat):Int):=by rw [IntKind.wrap_u32];omega
theorem Btf (a:Int) (h:-9223372036854775808≤a∧a≤9223372036854775807):IntKind.wrap .i64 a=a:=IntWalk.i64_in _ h
theorem wrap_u64 (a:Nat) (h:a<18446744073709551616):IntKind.wrap .u64 (a:Int)=(a:Int):=IntWalk.u64_in _ (by omega)
theorem Atz (w a:Nat):BitVec.ofInt w (a:Int)=BitVec.ofNat w a:=by simp
theorem Bp7 {k:IntKind} (hs:k.signed=false) {a b:Nat} (ha:a<2 ^ k.bits) (hb:b<2 ^ k.bits):Bpk k a b=((a &&& b:Nat):Int):=by
  unfold Bpk
  rw [Atz,Atz]
  have h1:(BitVec.ofNat k.bits a &&& BitVec.ofNat k.bits b).toNat=a &&& b:=by
    rw [BitVec.toNat_and,BitVec.toNat_ofNat,BitVec.toNat_ofNat,Nat.mod_eq_of_lt ha,Nat.mod_eq_of_lt hb]
  rw [h1]
  have h2:a &&& b<2 ^ k.bits:=Nat.and_lt_two_pow _ hb
  unfold IntKind.wrap
  simp only [hs,Bool.false_and,Bool.false_eq_true,if_false]
  have:(2 ^ k.bits:Int)=((2 ^ k.bits:Nat):Int):=by simp
  rw [this,← Int.natCast_emod,Nat.mod_eq_of_lt h2]
theorem Bjt {k:IntKind} (hs:k.signed=false) {a b:Nat} (ha:a<2 ^ k.bits) (hb:b<2 ^ k.bits):Of k a b=((a ||| b:Nat):Int):=by
  unfold Of
  rw [Atz,Atz]
  have h1:(BitVec.ofNat k.bits a ||| BitVec.ofNat k.bits b).toNat=a ||| b:=by
    rw [BitVec.toNat_or,BitVec.toNat_ofNat,BitVec.toNat_ofNat,Nat.mod_eq_of_lt ha,Nat.mod_eq_of_lt hb]
  rw [h1]
  have h2:a ||| b<2 ^ k.bits:=Nat.or_lt_two_pow ha hb
  unfold IntKind.wrap
  simp only [hs,Bool.false_and,Bool.false_eq_true,if_false]
  have:(2 ^ k.bits:Int)=((2 ^ k.bits:Nat):Int):=by simp
  rw [this,← Int.natCast_emod,Nat.mod_eq_of_lt h2]
theorem Q6 (a k:Nat):Int.fdiv (a:Int) (2 ^ k)=((a/2 ^ k:Nat):Int):=by
  have:(2 ^ k:Int)=((2 ^ k:Nat):Int):=by simp
  rw [this,Int.fdiv_eq_ediv_of_nonneg (a:Int) (Int.natCast_nonneg (2 ^ k))]
  rfl
theorem Be {R:Type} {k:IntKind} {n:Int} {r:List AV} {f:Int→Option R}:rdI k (.int k n::r) f=f n:=by simp [rdI,A62,Oy]
theorem Ah {i n:Nat} (h:i<n):Aj (i:Int) n=true:=by simp [Aj];omega
end Gx

namespace Gx
def val:List Nat→Nat
  | []=>0
  | x::r=>x+4294967296*val r
def Ag (l:List Nat):Prop:=∀ x ∈ l,x<4294967296
def Bn6:Nat→Nat→List Nat
  | 0,_=>[]
  | f+1,n=>if n=0 then [] else n%4294967296::Bn6 f (n/4294967296)
def dig (n:Nat):List Nat:=Bn6 n n
theorem Bq9:∀ (f n:Nat),n≤f→∀ g,n≤g→Bn6 f n=Bn6 g n
  | 0,n,h,g,_=>by
    have:n=0:=by omega
    subst this;cases g<;>simp [Bn6]
  | f+1,n,h,g,hg=>by
    by_cases h0:n=0
    · subst h0;cases g<;>simp [Bn6]
    · cases g with
      | zero=>omega
      | succ g=>simp only [Bn6,h0,if_false];rw [Bq9 f _ (by omega) g (by omega)]
theorem C3:dig 0=[]:=rfl
theorem Al2 {n:Nat} (h:n≠0):dig n=n%4294967296::dig (n/4294967296):=by
  unfold dig
  cases n with
  | zero=>omega
  | succ n=>simp only [Bn6,h,if_false];rw [Bq9 n _ (by omega) ((n+1)/4294967296) (by omega)]
theorem Af:∀ n,val (dig n)=n:=by
  intro n
  induction n using Nat.strongRecOn with
  | _ n ih =>
    by_cases h:n=0
    · subst h;rfl
    · rw [Al2 h,val,ih _ (by omega)];omega
theorem Ab:∀ n,Ag (dig n):=by
  intro n
  induction n using Nat.strongRecOn with
  | _ n ih =>
    by_cases h:n=0
    · subst h;intro x hx;simp [C3] at hx
    · rw [Al2 h];intro x hx
      simp at hx
      rcases hx with rfl | hx
      · omega
      · exact ih _ (by omega) x hx
theorem S8:Ag []:=by intro x hx;simp at hx
theorem Cp {x:Nat} {r:List Nat}:Ag (x::r)↔x<4294967296∧Ag r:=by simp [Ag]
theorem A27 {a b:List Nat}:Ag (a++b)↔Ag a∧Ag b:=by simp [Ag,or_imp,forall_and]
theorem Bw {a:List Nat} (h:Ag a) (n:Nat):Ag (a.take n):=fun x hx=>h x (List.mem_of_mem_take hx)
theorem Al3 {a:List Nat} (h:Ag a) (n:Nat):Ag (a.drop n):=fun x hx=>h x (List.mem_of_mem_drop hx)
theorem Ay {a:List Nat} (h:Ag a) {i:Nat} (hi:i<a.length):a[i]<4294967296:=h _ (List.getElem_mem hi)
theorem B4 {a:List Nat} (h:Ag a) {v:Nat} (hv:v<4294967296) (i:Nat):Ag (a.set i v):=fun x hx=>by
  rcases List.mem_or_eq_of_mem_set hx with h1 | h1
  · exact h x h1
  · omega
theorem B0 (n:Nat):Ag (List.replicate n 0):=fun x hx=>by simp at hx;omega
theorem Oc:∀ (a b:List Nat),val (a++b)=val a+4294967296 ^ a.length*val b
  | [],b=>by simp [val]
  | x::r,b=>by
    simp only [List.cons_append,val,List.length_cons,Oc r b,Nat.pow_succ]
    rw [Nat.mul_add,← Nat.add_assoc,← Nat.mul_assoc];congr 2;rw [Nat.mul_comm]
theorem C9:∀ n,val (List.replicate n 0)=0
  | 0=>rfl
  | n+1=>by rw [List.replicate_succ,val,C9 n]
theorem A7:∀ {a:List Nat},Ag a→val a<4294967296 ^ a.length
  | [],_=>by simp [val]
  | x::r,h=>by
    have h1:=Cp.1 h
    have h2:=A7 h1.2
    rw [val,List.length_cons,Nat.pow_succ]
    omega
theorem Bp8 (a:List Nat) (x:Nat):val (a++[x])=val a+4294967296 ^ a.length*x:=by rw [Oc];simp [val]
theorem Azq {n:Nat} (h:n≠0):dig n≠[]:=by rw [Al2 h];simp
theorem Bf8 {n:Nat}:dig n=[]↔n=0:=by
  constructor
  · intro h;by_cases h0:n=0;exact h0;exact absurd h (Azq h0)
  · intro h;rw [h];rfl
theorem Bd {n:Nat}:(dig n).length=0↔n=0:=by rw [List.length_eq_zero_iff,Bf8]
theorem Bc:∀ {l:List Nat},Ag l→l=dig (val l)++List.replicate (l.length - (dig (val l)).length) 0∧(dig (val l)).length≤l.length
  | [],_=>by simp [val,C3]
  | x::r,h=>by
    have h1:=Cp.1 h
    obtain ⟨h2,h3⟩:=Bc h1.2
    rw [val]
    by_cases h0:x+4294967296*val r=0
    · have hx:x=0:=by omega
      have hr:val r=0:=by omega
      rw [h0,C3]
      rw [hr,C3] at h2
      simp at h2
      subst hx
      refine ⟨?_,by simp⟩
      rw [List.nil_append,List.length_nil,Nat.sub_zero,List.length_cons,List.replicate_succ,← h2]
    · rw [Al2 h0,show (x+4294967296*val r)%4294967296=x by omega,show (x+4294967296*val r)/4294967296=val r by omega]
      refine ⟨?_,by simp;exact h3⟩
      rw [List.cons_append,List.length_cons,List.length_cons,Nat.add_sub_add_right,← h2]
theorem Bf9:∀ (n:Nat) (h:dig n≠[]),(dig n).getLast h≠0:=by
  intro n
  induction n using Nat.strongRecOn with
  | _ n ih =>
    intro h
    have h0:n≠0:=fun e=>h (by rw [e];rfl)
    have e:=Al2 h0
    by_cases h1:n/4294967296=0
    · rw [h1,C3] at e
      have:n<4294967296:=by omega
      simp [e];omega
    · have h2:=Azq h1
      have:=ih _ (by omega) h2
      have h3:(dig n).getLast h=(dig (n/4294967296)).getLast h2:=by
        simp only [e];rw [List.getLast_cons h2]
      rw [h3];exact this
theorem Bvw:∀ {l:List Nat},Ag l→(∀ h:l≠[],l.getLast h≠0)→dig (val l)=l:=by
  intro l h hl
  obtain ⟨h1,h2⟩:=Bc h
  by_cases hk:l.length - (dig (val l)).length=0
  · rw [hk] at h1;simpa using h1.symm
  · exfalso
    obtain ⟨k,hk⟩:=Nat.exists_eq_succ_of_ne_zero hk
    rw [hk,List.replicate_succ',← List.append_assoc] at h1
    have hne:l≠[]:=by intro e;rw [e] at h1;simp at h1
    apply hl hne
    have h3:l.getLast?=some 0:=by rw [h1,List.getLast?_append];rfl
    rw [List.getLast?_eq_some_getLast hne] at h3
    simpa using h3
theorem Dd {n k:Nat} (h:n<4294967296 ^ k):(dig n).length≤k:=by
  induction k generalizing n with
  | zero => have : n = 0 := by simpa using h
            subst this;simp [C3]
  | succ k ih =>
    by_cases h0:n=0
    · subst h0;simp [C3]
    · rw [Al2 h0,List.length_cons]
      have:n/4294967296<4294967296 ^ k:=by
        rw [Nat.pow_succ] at h
        exact Nat.div_lt_of_lt_mul (by rw [Nat.mul_comm];exact h)
      have:=ih this
      omega
theorem Bk {a b:Nat} (h:a≤b):(dig a).length≤(dig b).length:=by
  apply Dd
  have:=A7 (Ab b)
  rw [Af] at this
  omega
end Gx

namespace Gx
theorem Bju {U V U3 V2 P d:Nat} (hV:V2*P≤V) (hU:U<(U3+1)*P) (h:U3<d*V2) (hv:0<V):U/V<d:=by
  rw [Nat.div_lt_iff_lt_mul hv]
  have h1:(U3+1)*P≤d*V2*P:=Nat.mul_le_mul_right _ h
  have h2:d*(V2*P)≤d*V:=Nat.mul_le_mul_left _ hV
  rw [← Nat.mul_assoc] at h2
  omega
theorem Bjv {U V U3 V2 P d:Nat} (hV:V<(V2+1)*P) (hU:U3*P≤U) (h:d*V2≤U3) (hd:d≤V2+1) (hv:0<V):d≤U/V+1:=by
  cases d with
  | zero=>exact Nat.zero_le _
  | succ d =>
    have:d≤U/V:=by
      rw [Nat.le_div_iff_mul_le hv]
      have h1:(d+1)*V2*P≤U3*P:=Nat.mul_le_mul_right _ h
      have h2:d*V≤d*((V2+1)*P):=Nat.mul_le_mul_left _ (by omega)
      have h3:d*((V2+1)*P)≤(d+1)*V2*P:=by
        rw [← Nat.mul_assoc]
        apply Nat.mul_le_mul_right
        rw [Nat.mul_add,Nat.add_mul];omega
      omega
    omega
theorem Bn7 {a b u v s t x y:Nat} (hx:x+v*b=u*a) (hy:y+s*a=t*b) (hdet:u*t=v*s+1):Nat.gcd x y=Nat.gcd a b:=by
  have e1:t*x+v*y=a:=by
    have h1:t*x+t*v*b=t*u*a:=by rw [← Nat.mul_assoc t u a |>.symm,Nat.mul_assoc t v b,← Nat.mul_add,hx]
    have h2:v*y+v*s*a=v*t*b:=by rw [Nat.mul_assoc,Nat.mul_assoc,← Nat.mul_add,hy]
    have h3:t*u*a=v*s*a+a:=by rw [Nat.mul_comm t u,hdet,Nat.add_mul,Nat.one_mul]
    have h4:t*v*b=v*t*b:=by rw [Nat.mul_comm t v]
    omega
  have e2:s*x+u*y=b:=by
    have h1:s*x+s*v*b=s*u*a:=by rw [Nat.mul_assoc,Nat.mul_assoc,← Nat.mul_add,hx]
    have h2:u*y+u*s*a=u*t*b:=by rw [Nat.mul_assoc,Nat.mul_assoc,← Nat.mul_add,hy]
    have h3:u*t*b=v*s*b+b:=by rw [hdet,Nat.add_mul,Nat.one_mul]
    have h4:s*u*a=u*s*a:=by rw [Nat.mul_comm s u]
    have h5:s*v*b=v*s*b:=by rw [Nat.mul_comm s v]
    omega
  apply Nat.dvd_antisymm
  · apply Nat.dvd_gcd
    · rw [← e1];exact Nat.dvd_add (Nat.dvd_mul_left_of_dvd (Nat.gcd_dvd_left x y) t) (Nat.dvd_mul_left_of_dvd (Nat.gcd_dvd_right x y) v)
    · rw [← e2];exact Nat.dvd_add (Nat.dvd_mul_left_of_dvd (Nat.gcd_dvd_left x y) s) (Nat.dvd_mul_left_of_dvd (Nat.gcd_dvd_right x y) u)
  · apply Nat.dvd_gcd
    · have h1:Nat.gcd a b∣x+v*b:=by rw [hx];exact Nat.dvd_mul_left_of_dvd (Nat.gcd_dvd_left a b) u
      exact (Nat.dvd_add_left (Nat.dvd_mul_left_of_dvd (Nat.gcd_dvd_right a b) v)).1 h1
    · have h1:Nat.gcd a b∣y+s*a:=by rw [hy];exact Nat.dvd_mul_left_of_dvd (Nat.gcd_dvd_right a b) t
      exact (Nat.dvd_add_left (Nat.dvd_mul_left_of_dvd (Nat.gcd_dvd_left a b) s)).1 h1
theorem Aed {a b x y P u v w:Nat} (ha:x*P≤a) (hb:b<(y+1)*P) (hw:u*x=w+v*y) (hv:v≤w):v*b≤u*a:=by
  have h1:u*(x*P)≤u*a:=Nat.mul_le_mul_left _ ha
  have h2:v*b≤v*((y+1)*P):=Nat.mul_le_mul_left _ (by omega)
  have h3:v*((y+1)*P)≤u*(x*P):=by
    rw [← Nat.mul_assoc,← Nat.mul_assoc]
    apply Nat.mul_le_mul_right
    rw [hw,Nat.mul_add];omega
  omega
end Gx

namespace Gx
open Go
section
variable {R:Type}
def Ad (l:List Nat):List AV:=l.map fun n:Nat=>.int .u32 (n:Int)
theorem Y6 (x:Nat) (l:List Nat):Ad (x::l)=.int .u32 (x:Int)::Ad l:=rfl
theorem Bf (l:List Nat):(Ad l).length=l.length:=by simp [Ad]
theorem Bsd (l:List Nat) (n:Nat):(Ad l).drop n=Ad (l.drop n):=by simp [Ad,List.map_drop]
theorem S9 (l:List Nat) (n:Nat):(Ad l).take n=Ad (l.take n):=by simp [Ad,List.map_take]
theorem A28 (l:List Nat) (j:Nat) (v:Nat):List.set (Ad l) j (.int .u32 (v:Int))=Ad (l.set j v):=by simp [Ad,List.map_set]
theorem Cf (n:Nat):List.replicate n (AV.int .u32 0)=Ad (List.replicate n 0):=by simp [Ad]
theorem Bn8 {l:List Nat} {i:Nat} (h:i<l.length) {f:Int→Option R}:rdI .u32 (List.drop i (Ad l)) f=f (l[i]:Nat):=by
  rw [Bsd,List.drop_eq_getElem_cons h,Y6,Be]
theorem Aee:∀ l:List Nat,Bu (Ad l)=true
  | []=>rfl
  | x::r=>by rw [Y6,Bu];exact Aee r
theorem Ahi (a b:Nat):(a:Int)+(b:Int)=((a+b:Nat):Int):=by omega
theorem Bga (a b:Nat):(a:Int)*(b:Int)=((a*b:Nat):Int):=by simp
theorem w64 {a:Nat} (h:a<18446744073709551616):IntKind.wrap .u64 (a:Int)=(a:Int):=wrap_u64 a h
theorem w32 {a:Nat} (h:a<4294967296):IntKind.wrap .u32 (a:Int)=(a:Int):=wrap_u32 a h
theorem Azr (a:Nat):IntKind.wrap .u32 (a:Int)=((a%4294967296:Nat):Int):=Bsc a
theorem Azs (a:Int):IntKind.wrap .u64 a=a%18446744073709551616:=IntKind.wrap_u64 a
theorem A6l {a b:Nat} (ha:a<18446744073709551616) (hb:b≤a):IntKind.wrap .u64 ((a:Int) - (b:Int))=((a - b:Nat):Int):=by rw [Azs];omega
theorem Btg {a b:Nat} (h:a<b) (hb:b≤18446744073709551616):IntKind.wrap .u64 ((a:Int) - (b:Int))=((18446744073709551616+a - b:Nat):Int):=by rw [Azs];omega
theorem A6m (a:Nat):Int.fdiv (a:Int) (2 ^ 32)=((a/4294967296:Nat):Int):=Q6 a 32
theorem Bwj (a:Nat):Int.fdiv (a:Int) (2 ^ 63)=((a/9223372036854775808:Nat):Int):=Q6 a 63
theorem i64 {a:Int} (h:-9223372036854775808≤a∧a≤9223372036854775807):IntKind.wrap .i64 a=a:=Btf a h
theorem Bp9 {a b:Nat} (ha:a<18446744073709551616) (hb:b<18446744073709551616):Of .u64 (a:Int) (b:Int)=((a ||| b:Nat):Int):=Bjt rfl ha hb
theorem A6n {a b k:Nat} (h:b<2 ^ k):a*2 ^ k ||| b=a*2 ^ k+b:=by
  rw [← Nat.shiftLeft_eq,Nat.shiftLeft_add_eq_or_of_lt h]
end
end Gx

namespace Gx
open Go Go.Proofs
section
variable {R:Type}
def fit (k N:Nat):Prop:=100*k+1000≤N∧k≤1000000000
theorem fit.le {j k N:Nat} (h:fit k N) (hj:j≤k):fit j N:=⟨by have:=h.1;omega,by have:=h.2;omega⟩
theorem ct (x y:Option R):cond true x y=x:=rfl
theorem cf (x y:Option R):cond false x y=y:=rfl
theorem ctB (x y:Bool):cond true x y=x:=rfl
theorem cfB (x y:Bool):cond false x y=y:=rfl
theorem Bqa (c:Nat):((decide (((c+1:Nat):Int)>(0:Int)))==true)=true:=by simp
theorem ltT {j n:Nat} (h:j<n):decide ((j:Int)<(n:Int))=true:=by simp;omega
theorem ltF {j n:Nat} (h:n≤j):decide ((j:Int)<(n:Int))=false:=by simp;omega
theorem wS {j:Nat} (h:j≤1000000000000):IntKind.wrap .i64 ((j:Int)+1)=((j+1:Nat):Int):=by rw [i64 (by omega)];omega
theorem wP {j:Nat} (h:j≤1000000000000):IntKind.wrap .i64 (((j+1:Nat):Int) - 1)=(j:Int):=by rw [i64 (by omega)];omega
theorem wA {j k:Nat} (h:j+k≤1000000000000):IntKind.wrap .i64 ((j:Int)+(k:Int))=((j+k:Nat):Int):=by rw [i64 (by omega)];omega
theorem rdl {l:List Nat} {j:Nat} (h:j<l.length) {f:Int→Option R}:rdI .u32 (List.drop ((Int.toNat (j:Int))*1) (Ad l)) f=f (l[j]:Nat):=by
  rw [Int.toNat_natCast,Nat.mul_one,Bn8 h]
theorem A29 {l:List Nat} {j:Nat} (h:j<l.length) {f:Int→Option R}:rdI .u32 (List.drop (0+((Int.toNat (j:Int))*1)) (Ad l)) f=f (l[j]:Nat):=by
  rw [Nat.zero_add,rdl h]
theorem sl0 {c a:Nat} (h:c≤a):((decide ((0:Int)≤(0:Int)))&&((decide ((0:Int)≤(c:Int)))&&((decide ((c:Int)≤(a:Int)))&&(decide ((a:Int)≤(a:Int))))))=true:=by
  simp;omega
theorem mk4 {n:Nat} (h:n≤1000000000000):((decide ((0:Int)≤(n:Int)))&&((decide ((n:Int)≤(n:Int)))&&((decide ((n:Int)≤(140737488355328:Int)))&&(decide (((n:Int)*((4:Nat):Int))≤(140737488355328:Int))))))=true:=by
  simp;omega
theorem st1 {x:Nat} {m:List Nat} (h:x<m.length):((Nat.beq 1 1)&&((Nat.ble ((0+((Int.toNat (x:Int))*1))+1) (List.length (Ad m)))&&(!false)))=true:=by
  rw [Bf,Int.toNat_natCast];simp;omega
theorem Ar1 {x v:Nat} {m:List Nat}:List.set (Ad m) (0+((Int.toNat (x:Int))*1)) (.int .u32 (v:Int))=Ad (m.set x v):=by
  rw [Int.toNat_natCast,Nat.mul_one,Nat.zero_add,A28]
theorem Bn9 {l:List Nat} (h:Ag l):l.take (dig (val l)).length=dig (val l):=by
  obtain ⟨h1,h2⟩:=Bc h
  rw [congrArg (List.take (dig (val l)).length) h1,List.take_left]
theorem Jq {l:List Nat} (h:Ag l):List.take ((dig (val l)).length*1) (Ad l)=Ad (dig (val l)):=by rw [Nat.mul_one,S9,Bn9 h]
theorem At {l:List Nat} {c:Nat} (h:c<l.length):val (l.take (c+1))=val (l.take c)+4294967296 ^ c*l[c]:=by
  rw [List.take_succ_eq_append_getElem h,Bp8,List.length_take,Nat.min_eq_left (by omega)]
theorem Bl9 {l:List Nat} {c:Nat} (hl:Ag l) (h:c<l.length) (h0:l[c]≠0):dig (val (l.take (c+1)))=l.take (c+1):=by
  apply Bvw (Bw hl _)
  intro hne
  rw [List.getLast_eq_getElem]
  simp only [List.length_take,Nat.min_eq_left (show c+1≤l.length by omega),Nat.add_sub_cancel,List.getElem_take]
  exact h0
theorem Bgb {N:Nat} {l:List Nat} {K:Nat→Option R} (hl:Ag l) (hs:l.length≤1000000000000):∀ (c fuel:Nat),c≤l.length→c<fuel →
    Yq N K l.length (Ad l) fuel (c:Int)=K (dig (val (l.take c))).length
  | 0,fuel+1,hc,_=>by
    rw [Yq];unfold Aiz
    rw [show decide (((0:Nat):Int)>0)=false by simp]
    rw [show ((false:Bool)==true)=false by rfl,cf,sl0 (by omega),ct,Int.toNat_natCast];rfl
  | c+1,fuel+1,hc,hf=>by
    rw [Yq];unfold Aiz
    rw [Bqa,ct,wP (by omega),Ah (by omega),ct,A29 (by omega),ctB,sl0 (by omega),ct,Bgb hl hs c fuel (by omega) (by omega),Int.toNat_natCast]
    by_cases h0:l[c]=0
    · rw [At (by omega),h0];simp
    · rw [Bl9 hl (by omega) h0,List.length_take,Nat.min_eq_left hc]
      rw [show (((l[c]:Nat):Int)==0)=false by simp;exact h0,cf]
theorem Ahj {N:Nat} {l:List Nat} {n:Nat} {K:Nat→Option R} (hn:n=l.length) (hl:Ag l) (hf:fit l.length N):Vw N n (Ad l) K=K (dig (val l)).length:=by
  subst hn
  have h1:=hf.1;have h2:=hf.2
  rw [Axf];unfold Baw Bav
  dsimp only
  rw [Bgb hl (by omega) l.length N (Nat.le_refl _) (by omega),List.take_length]
theorem Bjw {N:Nat} {l:List Nat} {t o:Bool} {K:LA→Nat→Option R} (hl:Ag l) (hs:l.length≤1000000000000):∀ (c fuel:Nat),c≤l.length→c<fuel →
    Lj N K (Ad l) l.length t o fuel (c:Int)=K (Ad (dig (val (l.take c)))) (dig (val (l.take c))).length
  | 0,fuel+1,hc,_=>by
    rw [Lj];unfold Ts
    rw [show decide (((0:Nat):Int)>0)=false by simp]
    rw [show ((false:Bool)==true)=false by rfl,cf,sl0 (by omega),ct,Int.toNat_natCast];rfl
  | c+1,fuel+1,hc,hf=>by
    rw [Lj];unfold Ts
    rw [Bqa,ct,wP (by omega),Ah (by omega),ct,rdl (by omega),ctB,sl0 (by omega),ct,Bjw hl hs c fuel (by omega) (by omega),Int.toNat_natCast,Nat.mul_one,S9]
    by_cases h0:l[c]=0
    · rw [At (by omega),h0];simp
    · rw [Bl9 hl (by omega) h0,List.length_take,Nat.min_eq_left hc]
      rw [show (((l[c]:Nat):Int)==0)=false by simp;exact h0,cf]
theorem Bo {N:Nat} {l:List Nat} {n:Nat} {t o:Bool} {K:LA→Nat→Option R} (hn:n=l.length) (hl:Ag l) (hf:fit l.length N):Bv N (Ad l) n t o K=K (Ad (dig (val l))) (dig (val l)).length:=by
  subst hn
  have h1:=hf.1;have h2:=hf.2
  rw [Au5];unfold Axj Axi
  dsimp only
  rw [Bjw hl (by omega) l.length N (Nat.le_refl _) (by omega),List.take_length]
theorem Bse {N:Nat} {K:LA→Option R} (hN:1≤N):Agi N K=K []:=by
  rw [Au7];unfold Axl Axk
  cases N with
  | zero=>omega
  | succ N=>rw [Xi];rfl
end
end Gx

namespace Gx
open Go Go.RowKit
theorem Bsf {P:Program} {f:Nat} {t:Tw} (hok:Az P f t) {W:World} {avs:List AV} {vs:List Value} (hr:Reps (fun _ k=>k<W.heap.size) (fun _=>none) [] W avs vs)
    (hrun:(t.runK avs [] fun v h=>some (v,h))=some (.bool true,[])):Calls P f vs.toArray W fun e w'=>e=.returned (.bool true)∧Below W.heap.size W w':=by
  have S:SimH (fun _ k=>k<W.heap.size) (fun _=>none) [] W:=⟨fun _ _ h=>h,fun _ h=>h,fun b x hb=>by simp [Am] at hb,fun b x hb=>by simp [Am] at hb,fun b b' x x' k o o' hb=>by simp [Am] at hb⟩
  refine Calls.mono (hok avs [] _ _ hrun _ _ W vs S hr) ?_
  rintro e w' ⟨vc,J',β',rfl,F,hv⟩
  rw [Rep] at hv;subst hv
  refine ⟨rfl,F.os,F.tape,F.output,F.size,fun k hk=>F.frame k hk ?_⟩
  rintro ⟨b,x,o,hb,_⟩
  change Am [] b=some x at hb
  simp [Am] at hb
structure Opens (P:Program) (t:TypeId) {α:Type} (e:α→List AV) (n:Nat):Prop where
  size:P.cellsOf t=n
  pos:0<n
  len:∀ a,(e a).length=n
  read:∀ {H:Type} (enc:TypeId×Value→H) (W:World) (fuel:Nat) (cs:List Value) (d:DataW H) (ps:List MemPlace),DataW.trod enc P W 0 (fun _=>true) true fuel t cs=some (d,ps) →
    cs.length=n∧∃ a,RepCs (fun k=>k<W.heap.size) W (e a) (fun j=>cs[j]?) 0
theorem Bsg {P:Program} {t:TypeId} {k:IntKind} (hu:P.underlying t=some (.int k)) (hc:P.cellsOf t=1):Opens P t (α:={ n:Int // (Lit.int k n).wf=true }) (fun n=>[.int k n.1]) 1:=by
  refine ⟨hc,by omega,fun _=>rfl,fun enc W fuel cs d ps h=>?_⟩
  obtain ⟨n,rfl,_,hw⟩:=DataW.trod_int hu h
  exact ⟨rfl,⟨n,hw⟩,by simp [RepCs,RepC]⟩
theorem A9q {α β:Type} {e:α→List β} {n:Nat} (hn:0<n) (he:∀ a,(e a).length=n):∀ (l:List α) (j:Nat),(l.flatMap e)[j]?=(l[j/n]?).bind fun a=>(e a)[j%n]?
  | [],j=>by simp
  | a::r,j=>by
    rw [List.flatMap_cons]
    by_cases hj:j<n
    · rw [List.getElem?_append_left (by rw [he];exact hj),Nat.div_eq_of_lt hj,Nat.mod_eq_of_lt hj];simp
    · rw [List.getElem?_append_right (by rw [he];omega),he,A9q hn he r (j - n)]
      have h1:j/n=(j - n)/n+1:=by
        have:=Nat.add_div_right (j - n) hn
        rw [show j - n+n=j by omega] at this;exact this
      have h2:j%n=(j - n)%n:=by
        have:=Nat.add_mod_right (j - n) n
        rw [show j - n+n=j by omega] at this;exact this
      rw [h1,h2];simp
theorem A9r {α β:Type} {e:α→List β} {n:Nat} (he:∀ a,(e a).length=n):∀ (l:List α),(l.flatMap e).length=l.length*n
  | []=>by simp
  | a::r=>by rw [List.flatMap_cons,List.length_append,he,A9r he r,List.length_cons,Nat.succ_mul];omega
theorem Boa {α β:Type} {f:α→Option β}:∀ {l:List α} {r:List β},l.mapM f=some r→r.length=l.length∧∀ (i:Nat) (a:α),l[i]?=some a→f a=r[i]?
  | [],r,h=>by simp at h;subst h;simp
  | x::l,r,h=>by
    rw [List.mapM_cons] at h
    cases hx:f x with
    | none=>simp [hx] at h
    | some y =>
      cases hl:l.mapM f with
      | none=>simp [hx,hl] at h
      | some ys =>
        simp [hx,hl] at h
        subst h
        obtain ⟨h1,h2⟩:=Boa hl
        refine ⟨by simp [h1],fun i a hi=>?_⟩
        cases i with
        | zero=>simp at hi;subst hi;simpa using hx
        | succ i=>simpa using h2 i a (by simpa using hi)
theorem A9s {P:Program} {t el:TypeId} {α:Type} {e:α→List AV} {n:Nat} (hu:P.underlying t=some (.slice el)) (hc:P.cellsOf t=1) (he:Opens P el e n) :
    Opens P t (α:={ l:List α // l.length≤maxLen }) (fun l=>[.imm (l.1.flatMap e) l.1.length n false false]) 1:=by
  refine ⟨hc,by omega,fun _=>rfl,fun enc W fuel cs d ps h=>?_⟩
  cases fuel with
  | zero=>simp [DataW.trod] at h
  | succ fuel =>
    unfold DataW.trod at h
    simp only [hu] at h
    split at h
    all_goals first | (rename_i hx;simp at hx;done) | (rename_i hx _;simp at hx;done) | (rename_i hx _ _;simp at hx;done) | skip
    · refine ⟨rfl,⟨[],by simp⟩,?_⟩
      simp [RepCs,RepC]
    · rename_i e' a len cap hx
      simp at hx;subst hx
      split at h
      · rename_i hcond
        obtain ⟨hb,hlc,hcm⟩:=hcond
        refine ⟨rfl,?_⟩
        cases hm:(List.range len).mapM (fun i=>(W.cells? 0 (a.add (i*P.cellsOf el)) (P.cellsOf el)).bind (DataW.trod enc P W 0 (fun _=>true) true fuel el)) with
        | none=>rw [hm] at h;simp at h
        | some Bh8 =>
          obtain ⟨h1,h2⟩:=Boa hm
          rw [he.size] at h2
          have each:∀ i:Nat,i<len→∃ x:α,∃ cs,W.cells? 0 (a.add (i*n)) n=some cs∧RepCs (fun k=>k<W.heap.size) W (e x) (fun j=>cs[j]?) 0:=by
            intro i hi
            have h3:=h2 i i (by simp [hi])
            rw [List.getElem?_eq_getElem (by rw [h1];simpa using hi)] at h3
            cases hcs:W.cells? 0 (a.add (i*n)) n with
            | none=>rw [hcs] at h3;simp at h3
            | some cs =>
              rw [hcs] at h3
              obtain ⟨_,x,hx⟩:=he.read enc W fuel cs _ _ h3
              exact ⟨x,cs,rfl,hx⟩
          have build:∀ m,m≤len→∃ l:List α,l.length=m∧∀ i x,l[i]?=some x→∃ cs,W.cells? 0 (a.add (i*n)) n=some cs∧RepCs (fun k=>k<W.heap.size) W (e x) (fun j=>cs[j]?) 0:=by
            intro m
            induction m with
            | zero=>intro _;exact ⟨[],rfl,by simp⟩
            | succ m ih =>
              intro hm
              obtain ⟨l,hl,hl2⟩:=ih (by omega)
              obtain ⟨x,cs,hx1,hx2⟩:=each m (by omega)
              refine ⟨l++[x],by simp [hl],fun i y hy=>?_⟩
              rw [List.getElem?_append] at hy
              split at hy
              · exact hl2 i y hy
              · have : i = m := by
                  have:=(List.getElem?_eq_some_iff.1 hy).1
                  simp at this;omega
                subst this
                simp [hl] at hy;subst hy
                exact ⟨cs,hx1,hx2⟩
          obtain ⟨l,hl,hl2⟩:=build len (Nat.le_refl _)
          refine ⟨⟨l,by omega⟩,?_⟩
          simp only [RepCs,RepC,and_true]
          refine ⟨_,rfl,?_,some a,cap,by rw [hl],by omega,by simp,?_⟩
          · exact A9r he.len l
          · by_cases h0:l.length=0
            · exact .inl h0
            · right
              refine ⟨a,rfl,?_,?_⟩
              · obtain ⟨x,cs,hx,_⟩:=each 0 (by omega)
                have:=World.cells?_block hx he.pos
                rwa [Rf] at this
              · rw [B3]
                intro j x hj
                rw [A9q he.pos he.len] at hj
                cases hq:l[j/n]? with
                | none=>rw [hq] at hj;simp at hj
                | some y =>
                  rw [hq] at hj
                  simp at hj
                  obtain ⟨cs,hcs,hrep⟩:=hl2 (j/n) y hq
                  rw [B3] at hrep
                  obtain ⟨u,hu1,hu2⟩:=hrep (j%n) x hj
                  refine ⟨u,?_,hu2⟩
                  obtain ⟨_,hlen,hcell⟩:=World.cells?_some hcs
                  have hlt:j%n<n:=Nat.mod_lt _ he.pos
                  have:=hcell (j%n) hlt
                  rw [Addr.add_add,show j/n*n+j%n=j by rw [Nat.mul_comm];exact Nat.div_add_mod j n] at this
                  simp only [Nat.zero_add] at hu1 ⊢
                  rw [this];exact hu1
      · simp at h
    · simp at h
end Gx

namespace Gx
open Go Go.RowKit
section
variable {P:Program} {W:World} {H:Type} {enc:TypeId×Value→H} {β:B9} {h:Ak}
theorem Bma {k:IntKind} {n:Int}:Rep (fun _ k=>k<W.heap.size) β h W (.int k n) (.int k n):=by rw [Rep]
theorem Bth {b:Bool}:Rep (fun _ k=>k<W.heap.size) β h W (.bool b) (.bool b):=by rw [Rep]
theorem Bti:Reps (fun _ k=>k<W.heap.size) β h W [] []:=by rw [Reps]
theorem Ahk {x:AV} {xs:List AV} {v:Value} {vs:List Value} (h1:Rep (fun _ k=>k<W.heap.size) β h W x v) (h2:Reps (fun _ k=>k<W.heap.size) β h W xs vs):Reps (fun _ k=>k<W.heap.size) β h W (x::xs) (v::vs):=by
  rw [Reps];exact ⟨v,vs,rfl,h1,h2⟩
end
end Gx

namespace Gx
open Go Go.RowKit
section
variable {P:Program} {W:World} {H:Type} {enc:TypeId×Value→H} {β:B9} {h:Ak}
theorem Btj {t:TypeId} {α:Type} {e:α→List AV} {n:Nat} {cs:Array Value} {d:DataW H} {p:List MemPlace} (he:Opens P t e n)
    (hd:DataW.Trod enc P W 0 (fun _=>true) true t (.agg cs) d p):∃ a:α,Rep (fun _ k=>k<W.heap.size) β h W (.pagg (e a) false) (.agg cs):=by
  obtain ⟨fuel,hf⟩:=hd
  obtain ⟨hl,a,hr⟩:=he.read enc W fuel _ _ _ hf
  refine ⟨a,?_⟩
  rw [Rep]
  exact ⟨cs.toList,rfl,by rw [he.len];exact hl,hr⟩
end
end Gx

namespace Gx
open Go Go.Proofs
inductive Sl (α:Type) where
  | nil
  | of (l:List α) (t o:Bool)
def Sl.l {α:Type}:Sl α→List α
  | .nil=>[]
  | .of l _ _=>l
def Sl.av {α:Type} (sz:Nat) (e:α→List AV):Sl α→AV
  | .nil=>.nsl
  | .of l t o=>.imm (l.flatMap e) l.length sz t o
def Bun (n:Int):List AV:=[.int .i64 n]
def Eo (l:List Int):List AV:=l.map fun n=>.int .i64 n
theorem At0:∀ l:List Int,l.flatMap Bun=Eo l
  | []=>rfl
  | a::r=>by rw [List.flatMap_cons,At0 r];rfl
theorem A9t (l:List Int):(Eo l).length=l.length:=by simp [Eo]
structure SegD where
  width:Int
  price:Int
structure UnitD where
  name:List UInt8
  bus:Int
  min:Int
  max:Int
  segs:Sl SegD
  noLoad:Int
  rampUp:Int
  rampDown:Int
  startRamp:Int
  stopRamp:Int
  upTime:Int
  downTime:Int
  startTime:Int
  hotCost:Int
  coldCost:Int
  hotHours:Int
  reserve:Int
  reservePrice:Int
  away:Sl Int
  state:Int
  hours:Int
  output:Int
def SegD.av (s:SegD):List AV:=[.int .i64 s.width,.int .i64 s.price]
def UnitD.av (u:UnitD):List AV:=[.str u.name,.int .i64 u.bus,.int .i64 u.min,.int .i64 u.max,u.segs.av 2 SegD.av,.int .i64 u.noLoad,.int .i64 u.rampUp,.int .i64 u.rampDown,.int .i64 u.startRamp,.int .i64 u.stopRamp,.int .i64 u.upTime,.int .i64 u.downTime,.int .i64 u.startTime,.int .i64 u.hotCost,.int .i64 u.coldCost,.int .i64 u.hotHours,.int .i64 u.reserve,.int .i64 u.reservePrice,u.away.av 1 Bun,.int .i64 u.state,.int .i64 u.hours,.int .i64 u.output]
section
variable {R:Type}
theorem Btk {α:Type} {sz:Nat} {e:α→List AV} {s:Sl α} {r:List AV} {f:List AV→Nat→Option R}:rdL sz (s.av sz e::r) f=f (s.l.flatMap e) s.l.length:=by
  cases s<;>simp [rdL,Sl.av,Sl.l,Bsy]
theorem Bjx {α:Type} {e:α→List AV} {sz:Nat} (he:∀ a,(e a).length=sz):∀ (l:List α) (j:Nat) (h:j<l.length),List.drop (j*sz) (l.flatMap e)=e l[j]++(l.drop (j+1)).flatMap e
  | a::r,0,_=>by simp
  | a::r,j+1,h=>by
    have:=Bjx he r j (by simpa using h)
    rw [List.flatMap_cons,List.drop_append,he,show (j+1)*sz - sz=j*sz by rw [Nat.add_mul];omega,List.drop_eq_nil_of_le (by rw [he,Nat.add_mul];omega)]
    simpa using this
theorem Btl {l:List Int} {i:Nat} (h:i<l.length) {f:Int→Option R}:rdI .i64 (List.drop i (Eo l)) f=f l[i]:=by
  rw [Eo,List.drop_eq_getElem_cons (by simpa using h)];simp [Be]
theorem Vq {l:List Int} {i:Nat} (h:i<l.length) {f:Int→Option R}:rdI .i64 (List.drop ((Int.toNat (i:Int))*1) (Eo l)) f=f l[i]:=by
  rw [Int.toNat_natCast,Nat.mul_one,Btl h]
theorem Bgc {α:Type} {l:List α} {j:Nat} (h:j<l.length):l.drop j=l[j]::l.drop (j+1):=List.drop_eq_getElem_cons h
theorem Bgd {α:Type} {l:List α} {j:Nat} (h:l.length≤j):l.drop j=[]:=List.drop_eq_nil_of_le h
theorem cK {α:Type} (K:α→Option R) (c:Bool) (a b:α):cond c (K a) (K b)=K (cond c a b):=by cases c<;>rfl
theorem Ta (u:UnitD):List.take 22 u.av=u.av:=rfl
theorem Ahl (u:UnitD):Nat.ble 22 (List.length u.av)=true:=rfl
theorem u2 {u:UnitD} {f:Int→Option R}:rdI .i64 (List.drop 2 u.av) f=f u.min:=Be
theorem u3 {u:UnitD} {f:Int→Option R}:rdI .i64 (List.drop 3 u.av) f=f u.max:=Be
theorem u5 {u:UnitD} {f:Int→Option R}:rdI .i64 (List.drop 5 u.av) f=f u.noLoad:=Be
theorem u6 {u:UnitD} {f:Int→Option R}:rdI .i64 (List.drop 6 u.av) f=f u.rampUp:=Be
theorem u7 {u:UnitD} {f:Int→Option R}:rdI .i64 (List.drop 7 u.av) f=f u.rampDown:=Be
theorem u8 {u:UnitD} {f:Int→Option R}:rdI .i64 (List.drop 8 u.av) f=f u.startRamp:=Be
theorem u9 {u:UnitD} {f:Int→Option R}:rdI .i64 (List.drop 9 u.av) f=f u.stopRamp:=Be
theorem u10 {u:UnitD} {f:Int→Option R}:rdI .i64 (List.drop 10 u.av) f=f u.upTime:=Be
theorem u11 {u:UnitD} {f:Int→Option R}:rdI .i64 (List.drop 11 u.av) f=f u.downTime:=Be
theorem u12 {u:UnitD} {f:Int→Option R}:rdI .i64 (List.drop 12 u.av) f=f u.startTime:=Be
theorem u13 {u:UnitD} {f:Int→Option R}:rdI .i64 (List.drop 13 u.av) f=f u.hotCost:=Be
theorem u14 {u:UnitD} {f:Int→Option R}:rdI .i64 (List.drop 14 u.av) f=f u.coldCost:=Be
theorem u15 {u:UnitD} {f:Int→Option R}:rdI .i64 (List.drop 15 u.av) f=f u.hotHours:=Be
theorem u16 {u:UnitD} {f:Int→Option R}:rdI .i64 (List.drop 16 u.av) f=f u.reserve:=Be
theorem u17 {u:UnitD} {f:Int→Option R}:rdI .i64 (List.drop 17 u.av) f=f u.reservePrice:=Be
theorem u19 {u:UnitD} {f:Int→Option R}:rdI .i64 (List.drop 19 u.av) f=f u.state:=Be
theorem u20 {u:UnitD} {f:Int→Option R}:rdI .i64 (List.drop 20 u.av) f=f u.hours:=Be
theorem u21 {u:UnitD} {f:Int→Option R}:rdI .i64 (List.drop 21 u.av) f=f u.output:=Be
theorem u4 {u:UnitD} {f:List AV→Nat→Option R}:rdL 2 (List.drop 4 u.av) f=f (u.segs.l.flatMap SegD.av) u.segs.l.length:=Btk
theorem u18 {u:UnitD} {f:List AV→Nat→Option R}:rdL 1 (List.drop 18 u.av) f=f (Eo u.away.l) u.away.l.length:=by rw [← At0];exact Btk
def inR (lo hi x:Int):Bool:=decide (lo≤x)&&decide (x≤hi)
theorem A3a {N:Nat} {b c:Int} {e f:Bool} {K:Bool→Option R} (l:List Int) (hs:l.length≤1000000000000):∀ (m j fuel:Nat),j+m=l.length→m<fuel →
    Jm N K b c (Eo l) l.length e f fuel (l.length:Int) (j:Int)=K ((l.drop j).all (inR b c))
  | 0,j,fuel+1,hj,_=>by
    rw [Jm];unfold P6
    rw [ltF (by omega),cf,Bgd (by omega),List.all_nil]
  | m+1,j,fuel+1,hj,hf=>by
    rw [Jm];unfold P6
    have h:j<l.length:=by omega
    rw [ltT h,ct,Ah h,ct,Vq h,wS (by omega),A3a l hs m (j+1) fuel (by omega) (by omega),Bgc h,List.all_cons]
    simp only [cK];congr 1
    generalize (List.drop (j+1) l).all (inR b c)=t
    rw [Bool.eq_iff_iff];cases t<;>simp [inR]<;>omega
theorem Yi {N:Nat} {b c:Int} {e f:Bool} {K:Bool→Option R} (l:List Int) (n:Nat) (hn:n=l.length) (hN:l.length<N) (hs:l.length≤1000000000000):Cn N b c (Eo l) n e f K=K (l.all (inR b c)):=by
  subst hn
  rw [Aqu];unfold Aqt Aqs
  have:=A3a (N:=N) (b:=b) (c:=c) (e:=e) (f:=f) (K:=K) l hs l.length 0 N (by omega) hN
  simpa using this
theorem At1 {N:Nat} {a b c:Int} {K:Bool→Option R}:Hu N a b c K=K (inR b c a):=by
  rw [Bf6];unfold Bl6 Bl5
  simp only [cK];congr 1
  rw [Bool.eq_iff_iff];simp [inR]
def A6o (u:UnitD):Bool:=inR 0 24 u.upTime&&(inR 0 24 u.downTime&&(inR 0 24 u.startTime&&(inR 0 24 u.hotHours&&((u.state==0||(u.state==1||u.state==2))&&(inR 1 48 u.hours&&(!(u.state==1)||decide (u.hours≤u.startTime)))))))
theorem A6p {N:Nat} {u:UnitD} {b:Bool} {K:Bool→Option R}:Adq N K b u.av=K (inR 1 48 u.hours&&(!(u.state==1)||decide (u.hours≤u.startTime))):=by
  unfold Adq Aky
  simp only [u20,u19,u12,cK];congr 1
  rw [Bool.eq_iff_iff];simp [inR];omega
theorem A6q {N n:Nat} {u:UnitD} {d e f g:Int} {b:Bool} {K:Bool→Option R}:Vh N K d e f g b u.av (n+5) 0 =
    K (inR 0 24 d&&(inR 0 24 e&&(inR 0 24 f&&(inR 0 24 g&&((u.state==0||(u.state==1||u.state==2))&&(inR 1 48 u.hours&&(!(u.state==1)||decide (u.hours≤u.startTime)))))))):=by
  have a1:IntKind.wrap .i64 ((0:Int)+1)=1:=by decide
  have a2:IntKind.wrap .i64 ((1:Int)+1)=2:=by decide
  have a3:IntKind.wrap .i64 ((2:Int)+1)=3:=by decide
  have a4:IntKind.wrap .i64 ((3:Int)+1)=4:=by decide
  simp only [Vh,Akz,A6p,a1,a2,a3,a4,u19]
  simp [Aj,cK];congr 1
  generalize (decide (u.hours≤u.startTime))=t
  generalize inR 1 48 u.hours=s
  by_cases h0:u.state=0<;>by_cases h1:u.state=1<;>by_cases h2:u.state=2<;>first | omega | skip
  all_goals (rw [Bool.eq_iff_iff];cases s<;>cases t<;>simp [inR,h0,h1,h2]<;>omega)
theorem Av8 {N:Nat} {u:UnitD} {b:Bool} {K:Bool→Option R} (hN:64≤N):M0 N u.av b K=K (A6o u):=by
  rw [A2b];unfold A58 A57
  obtain ⟨n,rfl⟩:∃ n,N=n+5:=⟨N - 5,by omega⟩
  simp only [u10,u11,u12,u15,A6q];rfl
end
end Gx

namespace Gx
open Go Go.Proofs
section
variable {R:Type}
theorem Bge {N:Nat} {u:UnitD} {b:Bool} {K:Bool→Option R}:Ahg N u.av b K=K (A6o u):=by
  rw [Av6];unfold Azm Azl Als Afu
  simp only [u10,u11,u12,u15,u19,u20]
  simp [cK];congr 1
  unfold A6o
  by_cases h0:u.state=0<;>by_cases h1:u.state=1<;>by_cases h2:u.state=2<;>first | omega | skip
  all_goals (rw [Bool.eq_iff_iff];simp [inR,h0,h1,h2]<;>omega)
theorem in1 {N:Nat} {b c x:Int} {e f:Bool} {K:Bool→Option R} (hN:64≤N):Cn N b c [(.int .i64 x)] 1 e f K=K (inR b c x):=by
  have:=Yi (N:=N) (b:=b) (c:=c) (e:=e) (f:=f) (K:=K) [x] 1 rfl (by simp;omega) (by simp)
  simpa [Eo] using this
theorem in2 {N:Nat} {b c x y:Int} {e f:Bool} {K:Bool→Option R} (hN:64≤N):Cn N b c [(.int .i64 x),(.int .i64 y)] 2 e f K=K (inR b c x&&inR b c y):=by
  have:=Yi (N:=N) (b:=b) (c:=c) (e:=e) (f:=f) (K:=K) [x,y] 2 rfl (by simp;omega) (by simp)
  simpa [Eo] using this
theorem in4 {N:Nat} {b c x y z w:Int} {e f:Bool} {K:Bool→Option R} (hN:64≤N):Cn N b c [(.int .i64 x),(.int .i64 y),(.int .i64 z),(.int .i64 w)] 4 e f K=K (inR b c x&&(inR b c y&&(inR b c z&&inR b c w))):=by
  have:=Yi (N:=N) (b:=b) (c:=c) (e:=e) (f:=f) (K:=K) [x,y,z,w] 4 rfl (by simp;omega) (by simp)
  simpa [Eo] using this
theorem in5 {N:Nat} {b c x y z w v:Int} {e f:Bool} {K:Bool→Option R} (hN:64≤N):Cn N b c [(.int .i64 x),(.int .i64 y),(.int .i64 z),(.int .i64 w),(.int .i64 v)] 5 e f K=K (inR b c x&&(inR b c y&&(inR b c z&&(inR b c w&&inR b c v)))):=by
  have:=Yi (N:=N) (b:=b) (c:=c) (e:=e) (f:=f) (K:=K) [x,y,z,w,v] 5 rfl (by simp;omega) (by simp)
  simpa [Eo] using this
def Abp (p:Int):List SegD→Bool
  | []=>true
  | s::r=>inR 1 1048576 s.width&&(inR (-1048576) 1048576 s.price&&(decide (p≤s.price)&&Abp s.price r))
def A6r:List SegD→Int
  | []=>0
  | s::r=>s.width+A6r r
def A9u (l:List SegD):Nat→Int
  | 0=>-1048576
  | j+1=>((l[j]?).map (·.price)).getD 0
theorem Al4 {l:List SegD} {j:Nat} (h:j<l.length):A9u l (j+1)=l[j].price:=by simp [A9u,h]
theorem Ar2 {l:List SegD} {j:Nat} (h:j<l.length):List.drop ((Int.toNat (j:Int))*2) (l.flatMap SegD.av)=(.int .i64 l[j].width)::(.int .i64 l[j].price)::(l.drop (j+1)).flatMap SegD.av:=by
  rw [Int.toNat_natCast,Bjx (e:=SegD.av) (sz:=2) (fun _=>rfl) _ _ h];rfl
theorem Bgf {x y:Int} {f:Int→Option R}:rdI .i64 (setCells [(.int .i64 0),(.int .i64 0)] 0 [(.int .i64 x),(.int .i64 y)]) f=f x:=rfl
theorem At2 {x y:Int} {f:Int→Option R}:rdI .i64 (List.drop 1 (setCells [(.int .i64 0),(.int .i64 0)] 0 [(.int .i64 x),(.int .i64 y)])) f=f y:=rfl
theorem A9v:∀ {l:List SegD} {p:Int},Abp p l=true→0≤A6r l
  | [],_,_=>by simp [A6r]
  | s::r,p,h=>by
    simp [Abp,inR] at h
    have:=A9v h.2.2.2
    simp [A6r];omega
theorem Bra {N:Nat} {u:UnitD} {b:Bool} {K:Bool→Option R} (hN:64≤N) (h2:0≤u.min∧u.min≤1048576) (h3:0≤u.max∧u.max≤1048576) (hl:u.segs.l.length≤8):∀ (m j fuel:Nat) (g:Int),j+m=u.segs.l.length→m<fuel→(0≤g∧g≤1048576*(j:Int)) →
    B5 N K (u.segs.l.flatMap SegD.av) u.segs.l.length b u.av fuel g (u.segs.l.length:Int) (j:Int)=K (Abp (A9u u.segs.l j) (u.segs.l.drop j)&&(g+A6r (u.segs.l.drop j)==u.max - u.min))
  | 0,j,fuel+1,g,hj,_,_=>by
    rw [B5];unfold Gb
    rw [ltF (by omega),cf,u3,u2,i64 (by omega),Bgd (l:=u.segs.l) (by omega)]
    simp [Abp,A6r]
  | m+1,j,fuel+1,g,hj,hf,hg=>by
    rw [B5];unfold Gb
    have h:j<u.segs.l.length:=by omega
    rw [ltT h,ct,Ah h,ct,Ar2 h]
    have p0:List.take 2 ((AV.int .i64 u.segs.l[j].width)::(AV.int .i64 u.segs.l[j].price)::(u.segs.l.drop (j+1)).flatMap SegD.av)=[(.int .i64 u.segs.l[j].width),(.int .i64 u.segs.l[j].price)]:=rfl
    rw [p0,show Nat.ble 2 (List.length ((AV.int .i64 u.segs.l[j].width)::(AV.int .i64 u.segs.l[j].price)::(u.segs.l.drop (j+1)).flatMap SegD.av))=true by simp,ct]
    rw [show ((!b)||Bu [(AV.int .i64 u.segs.l[j].width),(.int .i64 u.segs.l[j].price)])=true by cases b<;>rfl,ct]
    rw [show ((Nat.beq (List.length [(AV.int .i64 u.segs.l[j].width),(.int .i64 u.segs.l[j].price)]) 2)&&((Nat.ble 2 2)&&(!false)))=true from rfl,ct,Bgf,At2,in1 hN]
    simp only [in1 hN]
    rw [Bgc h,Abp,A6r]
    cases hw:inR 1 1048576 u.segs.l[j].width with
    | false=>simp
    | true =>
      cases hp:inR (-1048576) 1048576 u.segs.l[j].price with
      | false=>simp
      | true =>
        simp only [inR,Bool.and_eq_true,decide_eq_true_eq] at hw hp
        have step:=Bra (b:=b) (K:=K) hN h2 h3 hl m (j+1) fuel (g+u.segs.l[j].width) (by omega) (by omega) (by omega)
        rw [Al4 h] at step
        have e1:IntKind.wrap .i64 (g+u.segs.l[j].width)=g+u.segs.l[j].width:=i64 (by omega)
        have e2:IntKind.wrap .i64 ((j:Int)+1)=((j+1:Nat):Int):=wS (by omega)
        unfold Gw Ks
        simp only [u4,At2,Bgf,e1,e2,step]
        rcases j with _ | j
        · simp [A9u,hp.1,Int.add_assoc]
        · have hj':j<u.segs.l.length:=by omega
          rw [wP (by omega),Ah hj',ct,Ar2 hj',Bqa,ct]
          rw [show ∀ r:List AV,List.drop 1 ((AV.int .i64 u.segs.l[j].width)::(AV.int .i64 u.segs.l[j].price)::r)=(AV.int .i64 u.segs.l[j].price)::r from fun _=>rfl,Be,Al4 hj']
          simp only [Bool.not_true,beq_self_eq_true,cK,Int.add_assoc,Bool.true_and]
          simp only [cond_true,cond_false]
          congr 1
          by_cases hlt:u.segs.l[j+1].price<u.segs.l[j].price
          · simp [hlt,show ¬ u.segs.l[j].price≤u.segs.l[j+1].price by omega]
          · simp [hlt,show u.segs.l[j].price≤u.segs.l[j+1].price by omega]
def A9w (u:UnitD):Bool:=decide (u.segs.l.length≤8)&&(Abp (-1048576) u.segs.l&&(A6r u.segs.l==u.max - u.min))
theorem Buo {N:Nat} {u:UnitD} {b:Bool} {K:Bool→Option R} (hN:64≤N) (h2:0≤u.min∧u.min≤1048576) (h3:0≤u.max∧u.max≤1048576):Fa N u.av b K=K (A9w u):=by
  rw [Vj];unfold P9 P8
  rw [u4]
  by_cases hl:u.segs.l.length≤8
  · rw [show decide ((u.segs.l.length:Int)>8)=false by simp;omega,cf,u4]
    have:=Bra (b:=b) (K:=K) hN h2 h3 hl u.segs.l.length 0 N 0 (by omega) (by omega) (by omega)
    simpa [A9w,hl,A9u] using this
  · rw [show decide ((u.segs.l.length:Int)>8)=true by simp;omega,ct]
    simp [A9w,hl]
end
end Gx

namespace Gx
open Go Go.Proofs
section
variable {R:Type}
theorem Brb {N:Nat} {u:UnitD} {b:Bool} {K:Bool→Option R} (hl:u.segs.l.length≤8):∀ (m j fuel:Nat) (d:Int),j+m=u.segs.l.length→m<fuel→(0≤d∧d≤1048576) →
    Ed N K b u.av fuel d (j:Int)=K (Abp (A9u u.segs.l j) (u.segs.l.drop j)&&(A6r (u.segs.l.drop j)==d))
  | 0,j,fuel+1,d,hj,_,_=>by
    rw [Ed];unfold Md
    rw [u4,ltF (by omega),cf,Bgd (l:=u.segs.l) (by omega)]
    congr 1
    rw [Bool.eq_iff_iff];simp [Abp,A6r];omega
  | m+1,j,fuel+1,d,hj,hf,hd=>by
    rw [Ed];unfold Md
    have h:j<u.segs.l.length:=by omega
    rw [u4,ltT h,ct,u4,Ah h,ct,Ar2 h]
    have p0:List.take 2 ((AV.int .i64 u.segs.l[j].width)::(AV.int .i64 u.segs.l[j].price)::(u.segs.l.drop (j+1)).flatMap SegD.av)=[(.int .i64 u.segs.l[j].width),(.int .i64 u.segs.l[j].price)]:=rfl
    rw [p0,show Nat.ble 2 (List.length ((AV.int .i64 u.segs.l[j].width)::(AV.int .i64 u.segs.l[j].price)::(u.segs.l.drop (j+1)).flatMap SegD.av))=true by simp,ct]
    rw [show ((!b)||Bu [(AV.int .i64 u.segs.l[j].width),(.int .i64 u.segs.l[j].price)])=true by cases b<;>rfl,ct]
    rw [show ((Nat.beq (List.length [(AV.int .i64 u.segs.l[j].width),(.int .i64 u.segs.l[j].price)]) 2)&&((Nat.ble 2 2)&&(!false)))=true from rfl,ct]
    simp only [Bgf,At2,At1,u4]
    rw [Bgc h,Abp,A6r]
    cases hw:inR 1 1048576 u.segs.l[j].width with
    | false=>simp
    | true =>
      cases hp:inR (-1048576) 1048576 u.segs.l[j].price with
      | false=>simp
      | true =>
        simp only [inR,Bool.and_eq_true,decide_eq_true_eq] at hw hp
        have e2:IntKind.wrap .i64 ((j:Int)+1)=((j+1:Nat):Int):=wS (by omega)
        have key:(cond (cond false true (decide (u.segs.l[j].width>d))) (K false) (Ed N K b u.av fuel (IntKind.wrap .i64 (d - u.segs.l[j].width)) (IntKind.wrap .i64 ((j:Int)+1))))=K (Abp u.segs.l[j].price (u.segs.l.drop (j+1))&&(u.segs.l[j].width+A6r (u.segs.l.drop (j+1))==d)):=by
          by_cases hgt:u.segs.l[j].width>d
          · rw [show decide (u.segs.l[j].width>d)=true by simpa using hgt]
            simp only [cond_true,cond_false]
            congr 1
            cases hs:Abp u.segs.l[j].price (u.segs.l.drop (j+1)) with
            | false=>rfl
            | true =>
              have:=A9v hs
              symm;simp;omega
          · rw [show decide (u.segs.l[j].width>d)=false by simpa using hgt]
            simp only [cond_false]
            have e1:IntKind.wrap .i64 (d - u.segs.l[j].width)=d - u.segs.l[j].width:=i64 (by omega)
            rw [e1,e2,Brb hl m (j+1) fuel _ (by omega) (by omega) (by omega),Al4 h]
            congr 1
            rw [Bool.eq_iff_iff];simp;omega
        rw [key]
        rcases j with _ | j
        · simp [A9u,hp.1]
        · have hj':j<u.segs.l.length:=by omega
          rw [wP (by omega),Ah hj',ct,Ar2 hj',Bqa,ct]
          rw [show ∀ r:List AV,List.drop 1 ((AV.int .i64 u.segs.l[j].width)::(AV.int .i64 u.segs.l[j].price)::r)=(AV.int .i64 u.segs.l[j].price)::r from fun _=>rfl,Be,Al4 hj']
          by_cases hlt:u.segs.l[j+1].price<u.segs.l[j].price
          · simp [hlt,show ¬ u.segs.l[j].price≤u.segs.l[j+1].price by omega]
          · simp [hlt,show u.segs.l[j].price≤u.segs.l[j+1].price by omega]
theorem Bup {N:Nat} {u:UnitD} {b:Bool} {K:Bool→Option R} (hN:64≤N) (h2:0≤u.min∧u.min≤u.max) (h3:u.max≤1048576):Qw N u.av b K=K (A9w u):=by
  rw [Ahh];unfold Afw Afv
  rw [u4]
  by_cases hl:u.segs.l.length≤8
  · rw [show decide ((u.segs.l.length:Int)>8)=false by simp;omega,cf,u3,u2,i64 (by omega)]
    have:=Brb (b:=b) (N:=N) (K:=K) hl u.segs.l.length 0 N (u.max - u.min) (by omega) (by omega) (by omega)
    simpa [A9w,hl,A9u] using this
  · rw [show decide ((u.segs.l.length:Int)>8)=true by simp;omega,ct]
    simp [A9w,hl]
def Al5 (hi p:Int):List Int→Bool
  | []=>true
  | x::r=>inR 0 hi x&&(decide (p<x)&&Al5 hi x r)
def A9x (l:List Int):Nat→Int
  | 0=>-1
  | j+1=>(l[j]?).getD 0
theorem Al6 {l:List Int} {j:Nat} (h:j<l.length):A9x l (j+1)=l[j]:=by simp [A9x,h]
theorem Brc {N:Nat} {l:List Int} {e e':Bool} {f hi:Int} {K:Bool→Option R} (hN:64≤N) (hl:l.length≤1000000000000) (hf:IntKind.wrap .i64 (f - 1)=hi):∀ (m j fuel:Nat),j+m=l.length→m<fuel →
    F4 N K (Eo l) l.length e e' f fuel (l.length:Int) (j:Int)=K (Al5 hi (A9x l j) (l.drop j))
  | 0,j,fuel+1,hj,_=>by
    rw [F4];unfold L7
    rw [ltF (by omega),cf,Bgd (l:=l) (by omega),Al5]
  | m+1,j,fuel+1,hj,hfu=>by
    rw [F4];unfold L7
    have h:j<l.length:=by omega
    rw [ltT h,ct,Ah h,ct,Vq h,in1 hN,hf,wS (by omega),Brc hN hl hf m (j+1) fuel (by omega) (by omega),Bgc h,Al5,Al6 h]
    cases hw:inR 0 hi l[j] with
    | false=>simp
    | true =>
      simp only [inR,Bool.and_eq_true,decide_eq_true_eq] at hw
      rcases j with _ | j
      · simp [A9x,show (-1:Int)<l[0] by omega]
      · have hj':j<l.length:=by omega
        rw [wP (by omega),Ah hj',ct,Vq hj',Bqa,ct,Al6 hj']
        by_cases hlt:l[j]<l[j+1]
        · simp [hlt,show ¬ l[j+1]≤l[j] by omega]
        · simp [hlt,show l[j+1]≤l[j] by omega]
theorem Buq {N:Nat} {l:List Int} {n:Nat} {e e':Bool} {f hi:Int} {K:Bool→Option R} (hN:64≤N) (hl:l.length≤1000000000000) (hln:l.length<N) (hn:n=l.length) (hf:IntKind.wrap .i64 (f - 1)=hi):L8 N (Eo l) n e e' f K=K (Al5 hi (-1) l):=by
  subst hn
  rw [Ahf];unfold Afm Afl
  have:=Brc (N:=N) (e:=e) (e':=e') (K:=K) hN hl hf l.length 0 N (by omega) hln
  simpa [A9x] using this
def Bvx (u:UnitD):Bool:=cond (u.state==2) (inR u.min u.max u.output) (u.output==0)
theorem Bob {N:Nat} {u:UnitD} {c:Bool} {f hi:Int} {K:Bool→Option R} (hl:u.away.l.length≤1000000000000) (hf:IntKind.wrap .i64 (f - 1)=hi):∀ (m j fuel:Nat),j+m=u.away.l.length→m<fuel →
    Mf N K f c u.av fuel (j:Int)=K (Al5 hi (A9x u.away.l j) (u.away.l.drop j)&&Bvx u)
  | 0,j,fuel+1,hj,_=>by
    rw [Mf];unfold Ut
    rw [u18,ltF (by omega),cf,Bgd (l:=u.away.l) (by omega),Al5]
    simp only [u19,u21,u2,u3,At1,cK];rfl
  | m+1,j,fuel+1,hj,hfu=>by
    rw [Mf];unfold Ut
    have h:j<u.away.l.length:=by omega
    rw [u18,ltT h,ct,u18,Ah h,ct,Vq h,At1,hf,wS (by omega),Bob hl hf m (j+1) fuel (by omega) (by omega),Bgc h,Al5,Al6 h]
    cases hw:inR 0 hi u.away.l[j] with
    | false=>simp
    | true =>
      simp only [inR,Bool.and_eq_true,decide_eq_true_eq] at hw
      rcases j with _ | j
      · simp [A9x,show (-1:Int)<u.away.l[0] by omega]
      · have hj':j<u.away.l.length:=by omega
        rw [u18,Ah h,ct,Vq h,u18,wP (by omega),Ah hj',ct,Vq hj',Bqa,ct,Al6 hj']
        by_cases hlt:u.away.l[j]<u.away.l[j+1]
        · simp [hlt,show ¬ u.away.l[j+1]≤u.away.l[j] by omega]
        · simp [hlt,show u.away.l[j+1]≤u.away.l[j] by omega]
def K3 (u:UnitD) (hours:Int):Bool :=
  inR 1 24 hours&&(A6o u&&(inR 0 1048576 u.min&&(inR 0 1048576 u.max&&(inR 0 1048576 u.rampUp&&(inR 0 1048576 u.rampDown&&(inR 0 1048576 u.reserve&&(decide (u.min≤u.max)&&(inR u.min u.max u.startRamp&&(inR u.min u.max u.stopRamp &&
  (inR 0 1048576 u.noLoad&&(inR 0 1048576 u.hotCost&&(inR 0 1048576 u.coldCost&&(inR 0 1048576 u.reservePrice&&(Bvx u&&(A9w u&&Al5 (hours - 1) (-1) u.away.l)))))))))))))))
theorem Uv {N:Nat} {u:UnitD} {b:Bool} {hours:Int} {K:Bool→Option R} (hN:64≤N) (hl:u.away.l.length≤1000000000000) (hln:u.away.l.length<N):Hp N u.av b hours K=K (K3 u hours):=by
  rw [A2c];unfold A6b A6a
  rw [in1 hN]
  unfold K3
  cases h0:inR 1 24 hours with
  | false=>simp
  | true =>
    have hh:1≤hours∧hours≤24:=by simpa [inR] using h0
    rw [Ta,Ahl,ct,Av8 hN]
    cases A6o u with
    | false=>simp
    | true =>
      unfold Aqy Ak4
      simp only [u2,u3,u6,u7,u16,in5 hN]
      cases h1:inR 0 1048576 u.min with
      | false=>simp
      | true =>
        cases h2:inR 0 1048576 u.max with
        | false=>simp
        | true =>
          unfold Aqx Ak3
          simp only [inR,Bool.and_eq_true,decide_eq_true_eq] at h1 h2
          simp only [u2,u3,u5,u8,u9,u13,u14,u17,u19,u21,u18,Ta,Ahl,in2 hN,in4 hN,in1 hN,ct,Buo hN h1 h2,Buq hN hl hln rfl (i64 (a:=hours - 1) (by omega))]
          simp [cK];congr 1
          unfold Bvx
          by_cases hs:u.state=2
          · rw [Bool.eq_iff_iff];simp [hs];grind
          · rw [Bool.eq_iff_iff];simp [hs];grind
theorem Bgg {N:Nat} {u:UnitD} {b:Bool} {hours:Int} {K:Bool→Option R} (hN:64≤N) (hl:u.away.l.length≤1000000000000) (hln:u.away.l.length<N):Jp N u.av b hours K=K (K3 u hours):=by
  rw [Av7];unfold Azp Azo
  rw [At1]
  unfold K3
  cases h0:inR 1 24 hours with
  | false=>simp
  | true =>
    have hh:1≤hours∧hours≤24:=by simpa [inR] using h0
    rw [Ta,Ahl,ct,Bge]
    cases A6o u with
    | false=>simp
    | true =>
      simp only [u2,u3,At1]
      cases h1:inR 0 1048576 u.min with
      | false=>simp
      | true =>
        simp only [inR,Bool.and_eq_true,decide_eq_true_eq] at h1
        by_cases h2:u.min≤u.max∧u.max≤1048576
        · have h2':inR 0 1048576 u.max=true:=by simp [inR];omega
          have h2'':inR u.min 1048576 u.max=true:=by simp [inR];omega
          unfold Alw Afz Alv Afy Alu Afx
          have hv:=Bob (u:=u) (N:=N) (c:=b) (K:=K) hl (i64 (a:=hours - 1) (by omega)) u.away.l.length 0 N (by omega) hln
          simp only [A9x,List.drop_zero,Int.natCast_zero] at hv
          simp only [u2,u3,u5,u6,u7,u8,u9,u13,u14,u16,u17,At1,ct,hv,Bup hN ⟨h1.1,h2.1⟩ h2.2,h2',h2'']
          simp [cK,h2.1];congr 1
          rw [Bool.eq_iff_iff];simp;grind
        · have h2'':inR u.min 1048576 u.max=false:=by simp [inR];omega
          simp only [h2'']
          have:(inR 0 1048576 u.max&&decide (u.min≤u.max))=false:=by simp [inR];omega
          simp;congr 1;symm
          cases h3:inR 0 1048576 u.max with
          | false=>rfl
          | true =>
            rw [h3] at this
            simp at this
            simp;intro _ _ _ h5;omega
end
end Gx

namespace Gx
open Go Go.Proofs
section
variable {R:Type}
theorem Bgh {v n:Int} (hn:0<n):Int.tmod (Int.tmod v n+n) n=v%n:=by
  have h1:0≤Int.tmod v n+n:=by
    have:=Int.lt_tmod_of_pos v hn;omega
  rw [Int.tmod_eq_emod_of_nonneg h1,Int.tmod_def,show v - n*v.tdiv n+n=v+n*(1 - v.tdiv n) by rw [Int.mul_sub];omega,Int.add_mul_emod_self_left]
theorem Bjy {v n:Int} (hn:0<n) (h2:n≤4611686018427387904):IntKind.wrap .i64 (Int.tmod v n+n)=Int.tmod v n+n:=by
  have h1:=Int.lt_tmod_of_pos v hn
  have h3:=Int.tmod_lt_of_pos v hn
  exact i64 (by omega)
theorem Bao {N:Nat} {v n:Int} {K:Int→Option R} (hn:0<n) (h2:n≤4611686018427387904):Aw N v n K=K (v%n):=by
  rw [Avt];unfold Ay5 Ay4
  rw [Bjy hn h2,Bgh hn,show (n==0)=false by simp;omega,cf,cf]
theorem Bmb {N:Nat} {v n:Int} {K:Int→Option R} (hn:0<n) (h2:n≤4611686018427387904):E8 N v n K=K (v%n):=by
  rw [Avu];unfold Ay7 Ay6
  rw [Bjy hn h2,Bgh hn,show (n==0)=false by simp;omega,cf,cf]
theorem sz8 {j:Nat} (h:j≤1000000000000):((Nat.ble (j+1) 140737488355328)&&(Nat.ble ((j+1)*8) 140737488355328))=true:=by
  rw [Bool.and_eq_true,Nat.ble_eq,Nat.ble_eq];omega
theorem Bwu {j:Nat} (h:j≤1000000000000):((Nat.ble (j+1) 140737488355328)&&(Nat.ble ((j+1)*16) 140737488355328))=true:=by
  rw [Bool.and_eq_true,Nat.ble_eq,Nat.ble_eq];omega
theorem A6s (l:List Int) (v:Int):List.take (l.length*1) (Eo l)++[(.int .i64 v)]=Eo (l++[v]):=by
  rw [Nat.mul_one,← A9t l,List.take_length];simp [Eo]
theorem bt:((true:Bool)==true)=true:=rfl
theorem bf:((false:Bool)==true)=false:=rfl
section near24
variable {N:Nat} {X:Option R} {r0:Int→Int→Int→Int→Nat→Int→Int→LA→Option R} {a:List UInt8} {b c d:Int} {e:LA} {f:Nat} {g i:Bool} {j l m o p q r t u w:Int} {z aa:Bool} {aw:List Int}
theorem Boc {ac ad af ae ab ag:Int} (hX:∀ l:List Int,l.length≤4→r0 ac ad af ae l.length ab ag (Eo l)=X):∀ (k fuel:Nat) (s:List Int),s.length+k=4→k<fuel →
    H3 N r0 a b c d e f g i j l m o p ac ad af q r ae t u (Eo aw) aw.length z aa ab ag w fuel s.length (s.length:Int) (Eo s)=X
  | k,0,s,hk,hf=>by omega
  | k,fuel+1,s,hk,hf=>by
    rw [H3];unfold Akp
    by_cases h:s.length<aw.length
    · rw [ltT h,bt,ct,ctB]
      by_cases h4:s.length<4
      · rw [show decide ((s.length:Int)<4)=true by simp;omega,ct]
        unfold Add Ako
        dsimp only
        rw [Ah h,ct,Vq h,Bmb (by omega) (by omega),sz8 (by omega),ct,A6s,wS (by omega)]
        have:=Boc (ac:=ac) (ad:=ad) (af:=af) (ae:=ae) (ab:=ab) (ag:=ag) hX (k - 1) fuel (s++[aw[s.length]%12]) (by simp;omega) (by omega)
        simpa using this
      · rw [show decide ((s.length:Int)<4)=false by simp;omega,cf]
        exact hX s (by omega)
    · rw [ltF (by omega),bf,cf]
      exact hX s (by omega)
theorem Bod {an ao ap aq ar au:Int} (hN:64≤N) (hX:∀ (up dn st hot:Int) (l:List Int) (sta hrs:Int),l.length≤4→r0 up dn st hot l.length sta hrs (Eo l)=X) :
    Aqj N a b c d e f g i j l m o p an ao ap q r aq t u (Eo aw) aw.length z aa ar au w r0=X:=by
  rw [A15];unfold A51 A50 Aqi Akq
  have go:∀ ac ad ae ab af ag:Int,H3 N r0 a b c d e f g i j l m o p ac ad af q r ae t u (Eo aw) aw.length z aa ab ag w N 0 0 []=X:=by
    intro ac ad ae ab af ag
    exact Boc (fun l hl=>hX _ _ _ _ l _ _ hl) 4 N [] (by simp) (by omega)
  rw [Bmb (by omega) (by omega),Bmb (by omega) (by omega),Bmb (by omega) (by omega),Bmb (by omega) (by omega),Bmb (by omega) (by omega),Bmb (by omega) (by omega)]
  simp only [go]
  have h3:=Int.emod_nonneg ap (show (3:Int)≠0 by omega)
  have h4:=Int.emod_lt_of_pos ap (show (0:Int)<3 by omega)
  by_cases hs:ar%3=1
  · rw [show (ar%3==1)=true by simpa using hs,ct]
    by_cases h0:ap%3=0
    · rw [show (ap%3==0)=true by simpa using h0,ct,Bmb (by omega) (by omega)]
    · rw [show (ap%3==0)=false by simpa using h0,cf,Bmb (by omega) (by omega)]
  · rw [show (ar%3==1)=false by simpa using hs,cf]
end near24
end
end Gx

namespace Gx
open Go Go.Proofs
section
variable {R:Type}
theorem Brd {N:Nat} {X:Option R} {K:Bool→Option R} {l:List Int} {d e:Bool} {c:Int} (hl:l.length≤1000000000000) (hX:∀ b,K b=X):∀ (m j fuel:Nat),j+m=l.length→m<fuel→Y3 N K (Eo l) l.length d e c fuel (j:Int)=X
  | 0,j,fuel+1,hj,_=>by
    rw [Y3];unfold Aks
    rw [ltF (by omega),cf];exact hX _
  | m+1,j,fuel+1,hj,hf=>by
    rw [Y3];unfold Aks
    have h:j<l.length:=by omega
    rw [ltT h,ct,Ah h,ct,Vq h,wS (by omega),Brd hl hX m (j+1) fuel (by omega) (by omega),hX]
    cases (l[j]==c)<;>rfl
theorem Bwk {N:Nat} {X:Option R} {K:Bool→Option R} {l:List Int} {d e:Bool} {c:Int} (hl:l.length≤1000000000000) (hN:l.length<N) (hX:∀ b,K b=X):Be7 N (Eo l) l.length d e c K=X:=by
  rw [Be8];unfold Bl0 Blz
  exact Brd hl hX l.length 0 N (by omega) hN
theorem A3b (l:List Int):List.take (l.length*1) (Eo l)=Eo l:=by rw [Nat.mul_one,← A9t l,List.take_length]
theorem Bgi (s:List SegD):(s.flatMap SegD.av).length=s.length*2:=by
  induction s with
  | nil=>rfl
  | cons a r ih=>rw [List.flatMap_cons,List.length_append,ih];simp [SegD.av];omega
theorem A3c (s:List SegD):List.take (s.length*2) (s.flatMap SegD.av)=s.flatMap SegD.av:=by rw [← Bgi,List.take_length]
theorem Bsh (s:List SegD) (w p:Int):List.take (s.length*2) (s.flatMap SegD.av)++[(.int .i64 w),(.int .i64 p)]=(s++[SegD.mk w p]).flatMap SegD.av:=by
  rw [A3c];simp [SegD.av]
theorem Btm {l:List SegD} {j:Nat} (h:j<l.length) {f:Int→Option R}:rdI .i64 (List.drop ((0+((Int.toNat (j:Int))*2))+1) (l.flatMap SegD.av)) f=f l[j].price:=by
  rw [Nat.zero_add,← List.drop_drop,Ar2 h];exact Be
theorem Ba3 (v:Int) {n:Int} (h:0<n):0≤v%n∧v%n<n:=⟨Int.emod_nonneg v (by omega),Int.emod_lt_of_pos v h⟩
section near25
variable {N:Nat} {X:Option R} {r0:Int→Int→Int→Int→Nat→Int→Int→LA→Option R} {r1:Int→Int→Nat→Int→Int→Int→Int→Int→Int→Int→Int→Int→Int→Int→Int→Int→Nat→Int→Int→Int→LA→LA→Option R}
  {a:List UInt8} {b:Int} {r t:Bool} {e f g i j y z aa l m ab o p x ac q u w:Int} {ad:Nat} {ae:LA} {sg:List SegD}
theorem Btn {af:Int} (hN:64≤N) (h0:0≤af∧af<20)
    (hX:∀ (mx:Int) (s:List SegD) (nl ru rd sr sp hc cc rs rp out:Int),af≤mx→mx≤af+60→s.length≤3→r1 af mx s.length nl ru rd sr sp y z aa hc cc ab rs rp ad x ac out (s.flatMap SegD.av) ae=X) :
    ∀ (k fuel:Nat) (s:List SegD) (mx:Int),s.length+k=3→k<fuel→(af≤mx∧mx≤af+20*(s.length:Int)) →
    H5 N r0 r1 a b af (sg.flatMap SegD.av) sg.length r t e f g i j y z aa l m ab o p ad x ac q ae u w fuel s.length (s.length:Int) mx (s.flatMap SegD.av)=X
  | k,0,s,mx,hk,hf,_=>by omega
  | k,fuel+1,s,mx,hk,hf,hm=>by
    have fin:(Aw N f 25 (fun bo=>(Aw N g 25 (fun bp=>(Aw N i (IntKind.wrap .i64 ((IntKind.wrap .i64 (mx - af))+(1:Int))) (fun bq=>(Aw N j (IntKind.wrap .i64 ((IntKind.wrap .i64 (mx - af))+(1:Int))) (fun br=>(Aw N e 30 (fun bs=>(Aw N l 50 (fun bt=>(Aw N m 90 (fun bu=>(Aw N p 4 (fun bv=>(Aw N o 12 (fun bw=>(cond (x==(2:Int)) (Aw N q (IntKind.wrap .i64 ((IntKind.wrap .i64 (mx - af))+(1:Int))) (fun cl=>(r1 af mx s.length bs (IntKind.wrap .i64 ((1:Int)+bo)) (IntKind.wrap .i64 ((1:Int)+bp)) (IntKind.wrap .i64 (af+bq)) (IntKind.wrap .i64 (af+br)) y z aa bt bu ab bw bv ad x ac (IntKind.wrap .i64 (af+cl)) (s.flatMap SegD.av) ae))) (r1 af mx s.length bs (IntKind.wrap .i64 ((1:Int)+bo)) (IntKind.wrap .i64 ((1:Int)+bp)) (IntKind.wrap .i64 (af+bq)) (IntKind.wrap .i64 (af+br)) y z aa bt bu ab bw bv ad x ac 0 (s.flatMap SegD.av) ae))))))))))))))))))))=X:=by
      have e1:IntKind.wrap .i64 ((IntKind.wrap .i64 (mx - af))+(1:Int))=mx - af+1:=by rw [i64 (a:=mx - af) (by omega),i64 (by omega)]
      rw [e1]
      simp only [Bao (show (0:Int)<25 by omega) (by omega),Bao (show (0:Int)<30 by omega) (by omega),Bao (show (0:Int)<50 by omega) (by omega),Bao (show (0:Int)<90 by omega) (by omega),Bao (show (0:Int)<4 by omega) (by omega),Bao (show (0:Int)<12 by omega) (by omega),Bao (show (0:Int)<mx - af+1 by omega) (by omega)]
      rw [hX mx s _ _ _ _ _ _ _ _ _ _ hm.1 (by omega) (by omega),hX mx s _ _ _ _ _ _ _ _ _ _ hm.1 (by omega) (by omega)]
      cases (x==2)<;>rfl
    rw [H5];unfold Akv
    rw [fin]
    by_cases h:s.length<sg.length
    · rw [ltT h,bt,ct,ctB]
      by_cases h4:s.length<3
      · rw [show decide ((s.length:Int)<3)=true by simp;omega,ct]
        unfold Adh Aku
        dsimp only
        rw [Ah h,ct,Ar2 h,Be,Bao (by omega) (by omega),ct]
        rw [show ∀ r:List AV,List.drop 1 ((AV.int .i64 sg[s.length].width)::(AV.int .i64 sg[s.length].price)::r)=(AV.int .i64 sg[s.length].price)::r from fun _=>rfl,Be,Bao (by omega) (by omega)]
        have hb:=Ba3 sg[s.length].width (show (0:Int)<20 by omega)
        have e1:IntKind.wrap .i64 (mx+IntKind.wrap .i64 (1+sg[s.length].width%20))=mx+(1+sg[s.length].width%20):=by rw [i64 (a:=1+sg[s.length].width%20) (by omega),i64 (by omega)]
        have go:∀ pr:Int,H5 N r0 r1 a b af (sg.flatMap SegD.av) sg.length r t e f g i j y z aa l m ab o p ad x ac q ae u w fuel (s.length+1) ((s.length+1:Nat):Int) (mx+(1+sg[s.length].width%20)) ((s++[SegD.mk (IntKind.wrap .i64 (1+sg[s.length].width%20)) pr]).flatMap SegD.av)=X:=by
          intro pr
          have:=Btn hN h0 hX (k - 1) fuel (s++[SegD.mk (IntKind.wrap .i64 (1+sg[s.length].width%20)) pr]) (mx+(1+sg[s.length].width%20)) (by simp;omega) (by omega) (by simp;omega)
          simpa using this
        rw [e1,wS (by omega),Bwu (by omega)]
        simp only [Bsh,go,ct]
        by_cases hz:s.length=0
        · rw [decide_eq_false (show ¬ ((s.length:Int)>0) by omega),cf]
        · obtain ⟨s',hs'⟩:∃ s',s.length=s'+1:=⟨s.length - 1,by omega⟩
          rw [decide_eq_true (show ((s.length:Int)>0) by omega),ct,show IntKind.wrap .i64 ((s.length:Int) - 1)=((s':Nat):Int) by rw [hs',wP (by omega)],Ah (by omega),ct,Btm (by omega)]
      · rw [show decide ((s.length:Int)<3)=false by simp;omega,cf]
    · rw [ltF (by omega),bf,cf]
end near25
section near25b
variable {N:Nat} {X:Option R} {r0:Int→Int→Int→Int→Nat→Int→Int→LA→Option R} {r1:Int→Int→Nat→Int→Int→Int→Int→Int→Int→Int→Int→Int→Int→Int→Int→Int→Nat→Int→Int→Int→LA→LA→Option R}
  {a:List UInt8} {b:Int} {r t:Bool} {e f g i j y z aa l m ab o p x ac q u w:Int} {sg:List SegD} {aw:List Int}
theorem Bto {H:Nat} (hN:64≤N) (hH:H≤24) (ha:aw.length≤4)
    (hX:∀ (mn mx:Int) (s:List SegD) (nl ru rd sr sp hc cc rs rp out:Int) (l:List Int),0≤mn→mn<20→mn≤mx→mx≤mn+60→s.length≤3→l.length≤2→r1 mn mx s.length nl ru rd sr sp y z aa hc cc ab rs rp l.length x ac out (s.flatMap SegD.av) (Eo l)=X) :
    ∀ (k h fuel:Nat) (s:List Int),h+k=H→k<fuel→s.length≤2 →
    Kp N r0 r1 (H:Int) a b u w (sg.flatMap SegD.av) sg.length r t e f g i j y z aa l m ab o p aw.length x ac q (Eo aw) fuel s.length (h:Int) (Eo s)=X
  | k,h,0,s,_,hf,_=>by omega
  | 0,h,fuel+1,s,hk,hf,hs=>by
    rw [Kp];unfold X3
    rw [ltF (by omega),cf,Bao (by omega) (by omega)]
    have hu:=Ba3 u (show (0:Int)<20 by omega)
    exact Btn hN hu (fun mx s' nl ru rd sr sp hc cc rs rp out h1 h2 h3=>hX _ mx s' nl ru rd sr sp hc cc rs rp out s hu.1 hu.2 h1 h2 h3 hs) 3 N [] (u%20) (by simp) (by omega) (by simp)
  | k+1,h,fuel+1,s,hk,hf,hs=>by
    rw [Kp];unfold X3
    have n1:∀ s:List Int,s.length≤2→Kp N r0 r1 (H:Int) a b u w (sg.flatMap SegD.av) sg.length r t e f g i j y z aa l m ab o p aw.length x ac q (Eo aw) fuel s.length ((h+1:Nat):Int) (Eo s)=X:=fun s hs=>Bto hN hH ha hX k (h+1) fuel s (by omega) (by omega) hs
    rw [ltT (by omega),ct,wS (by omega),n1 s hs,A3b]
    by_cases h2:s.length<2
    · rw [show (decide ((s.length:Int)<2)==true)=true by simp;omega,ct]
      refine Bwk (by omega) (by omega) fun c=>?_
      cases c with
      | false=>rfl
      | true =>
        rw [ctB,ct,sz8 (by omega),ct,A6s]
        have:=n1 (s++[(h:Int)]) (by simp;omega)
        simpa using this
    · rw [show (decide ((s.length:Int)<2)==true)=false by simp;omega,cf]
end near25b
section near25c
variable {N:Nat} {X:Option R} {r0:Int→Int→Int→Int→Nat→Int→Int→LA→Option R} {r1:Int→Int→Nat→Int→Int→Int→Int→Int→Int→Int→Int→Int→Int→Int→Int→Int→Nat→Int→Int→Int→LA→LA→Option R}
  {a:List UInt8} {b:Int} {r t ba bb:Bool} {e f g i j au av w' ax l m o p q u w bc bd:Int} {sg:List SegD} {aw:List Int}
theorem Boe {H:Nat} {hI:Int} (hN:64≤N) (hI1:hI=(H:Int)) (hH:1≤H∧H≤24)
    (hX:∀ (mn mx:Int) (s:List SegD) (nl ru rd sr sp y z aa hc cc ab rs rp x ac out:Int) (l:List Int),0≤mn→mn<20→mn≤mx→mx≤mn+60→s.length≤3→l.length≤2→r1 mn mx s.length nl ru rd sr sp y z aa hc cc ab rs rp l.length x ac out (s.flatMap SegD.av) (Eo l)=X) :
    Aqm N a b u w (sg.flatMap SegD.av) sg.length r t e f g i j au av w' l m ax o p (Eo aw) aw.length ba bb bc bd q hI r0 r1=X:=by
  subst hI1
  rw [A18];unfold A54 A53 Aql Akw
  refine Bod hN fun up dn st hot l' sta hrs hl'=>?_
  rw [show (decide ((H:Int)<1)==false)=true by simp;omega,ct,show decide ((H:Int)>24)=false by simp;omega,cfB,cf]
  exact Bto hN hH.2 hl' (fun mn mx s nl ru rd sr sp hc cc rs rp out l=>hX mn mx s nl ru rd sr sp _ _ _ hc cc _ rs rp _ _ out l) H 0 N [] (by omega) (by omega) (by simp)
end near25c
end
end Gx

namespace Gx
open Go Go.Proofs
section
variable {R:Type}
theorem Bjz:∀ (s:List SegD) (j:Nat) (h:j<s.length) (v:Int),List.set (s.flatMap SegD.av) ((0+(j*2))+1) (.int .i64 v)=(s.set j (SegD.mk s[j].width v)).flatMap SegD.av
  | a::r,0,_,v=>by simp [SegD.av]
  | a::r,j+1,h,v=>by
    have:=Bjz r j (by simpa using h) v
    rw [List.flatMap_cons,show (0+((j+1)*2))+1=((0+(j*2))+1)+1+1 by omega]
    rw [show SegD.av a++r.flatMap SegD.av=.int .i64 a.width::.int .i64 a.price::r.flatMap SegD.av from rfl,List.set_cons_succ,List.set_cons_succ,this]
    rfl
theorem Bsi (a:SegD) (r:List SegD) (v:Int):List.set ((a::r).flatMap SegD.av) 0 (.int .i64 v)=((SegD.mk v a.price)::r).flatMap SegD.av:=rfl
section ch
variable {N:Nat} {X:Option R} {r0:Int→Int→Int→Int→Int→Int→Int→Int→Int→Int→Int→Int→Int→Int→Int→Int→Int→Int→Option R} {r1:Nat→Nat→LA→LA→Option R} {y:List UInt8} {z a b c d e f g i j l m n o p q r t u al aa:Int} {s:List SegD} {w:List Int}
theorem Bvf {ab:Int} {x w':LA} {ac ad:Nat} {s':List SegD} (hw:w.length≤1000) (hs:s'.length=s.length) (h1:∀ (s':List SegD) (l':List Int),s'.length=s.length→l'.length≤w.length+1→r1 s'.length l'.length (s'.flatMap SegD.av) (Eo l')=X) :
    G1 N r0 r1 aa ab x w' y z a b s.length c d e f g i j l m n o p q w.length r t u (Eo w) ac ad (s'.flatMap SegD.av)=X:=by
  unfold G1 Kz
  rw [sz8 (by omega),ct,A6s]
  have e1:=h1 s' w hs (by omega)
  have e2:=h1 s' (w++[aa]) hs (by simp)
  rw [hs] at e1 e2
  rw [List.length_append] at e2
  simp only [List.length_cons,List.length_nil,Nat.zero_add] at e2
  rw [e1,e2]
  cases (ab==20)<;>rfl
theorem Bvg {ab:Int} {x w':LA} {ac ad:Nat} {s':List SegD} (hw:w.length≤1000) (hs:s'.length=s.length) (h1:∀ (s':List SegD) (l':List Int),s'.length=s.length→l'.length≤w.length+1→r1 s'.length l'.length (s'.flatMap SegD.av) (Eo l')=X) :
    G2 N r0 r1 aa ab x w' y z a b s.length c d e f g i j l m n o p q w.length r t u (Eo w) ac ad (s'.flatMap SegD.av)=X:=by
  unfold G2 K0
  dsimp only
  rw [Bvf hw hs h1]
  cases s' with
  | nil =>
    have:s.length=0:=by simpa using hs.symm
    rw [this]
    cases (ab==19)<;>rfl
  | cons a' r' =>
    have h0:0<s.length:=by rw [← hs];simp
    rw [show Aj (0:Int) s.length=true from Ah (i:=0) h0,ct]
    rw [show ∀ F:Int→Option R,rdI .i64 ((a'::r').flatMap SegD.av) F=F a'.width from fun F=>Be,ct]
    rw [show ((Nat.beq 1 1)&&((Nat.ble 1 (List.length ((a'::r').flatMap SegD.av)))&&(!false)))=true by rw [Bgi];simp;omega,ct,Bsi]
    rw [Bvf (s':=(SegD.mk (IntKind.wrap .i64 (a'.width - aa)) a'.price)::r') hw (by simpa using hs) h1]
    cases ((ab==19)==true)<;>cases (decide ((s.length:Int)>0))<;>rfl
theorem Bqb (hw:w.length≤1000) (hs:s.length≤1000) (h0:∀ a1 a2 a3 a4 a5 a6 a7 a8 a9 a10 a11 a12 a13 a14 a15 a16 a17 a18:Int,r0 a1 a2 a3 a4 a5 a6 a7 a8 a9 a10 a11 a12 a13 a14 a15 a16 a17 a18=X)
    (h1:∀ (s':List SegD) (l':List Int),s'.length=s.length→l'.length≤w.length+1→r1 s'.length l'.length (s'.flatMap SegD.av) (Eo l')=X) :
    Hv N y z a b s.length c d e f g i j l m n o p q w.length r t u al aa (s.flatMap SegD.av) (Eo w) r0 r1=X:=by
  rw [Vp];unfold Q3 Qz
  rw [Bao (by omega) (by omega)]
  have hk:=Ba3 al (show (0:Int)<22 by omega)
  generalize al%22=k at hk
  simp only [h0,Nat.zero_add,A3c,A3b]
  by_cases h18:k<18
  · obtain ⟨v,rfl⟩:∃ v:Nat,k=v:=⟨k.toNat,by omega⟩
    rw [show decide ((v:Int)<18)=true by simpa using h18,ct,Ah (by omega),ct,Int.toNat_natCast,Nat.mul_one]
    have hv:v<18:=by omega
    clear hk h18
    match v,hv with
    | 0,_ | 1,_ | 2,_ | 3,_ | 4,_ | 5,_ | 6,_ | 7,_ | 8,_ | 9,_ | 10,_ | 11,_ | 12,_ | 13,_ | 14,_ | 15,_ | 16,_ | 17,_=>rfl
    | v+18,hv=>exact absurd hv (by omega)
  · rw [show decide (k<18)=false by simpa using h18,cf]
    rw [show ((Nat.ble s.length 140737488355328)&&(Nat.ble (s.length*16) 140737488355328))=true by rw [Bool.and_eq_true,Nat.ble_eq,Nat.ble_eq];omega,ct]
    rw [show ((Nat.ble w.length 140737488355328)&&(Nat.ble (w.length*8) 140737488355328))=true by rw [Bool.and_eq_true,Nat.ble_eq,Nat.ble_eq];omega,ct]
    have g1:∀ (ak:Bool),ak=true→0<s.length→Dg N r0 r1 aa k (s.flatMap SegD.av) (Eo w) y z a b c d e f g i j l m n o p q r t u s.length w.length ak (s.flatMap SegD.av) (Eo w) s.length w.length=X:=by
      intro ak hak hpos
      subst hak
      unfold Dg Gf
      dsimp only
      obtain ⟨v,hv⟩:∃ v,s.length=v+1:=⟨s.length - 1,by omega⟩
      rw [show IntKind.wrap .i64 ((s.length:Int) - 1)=((v:Nat):Int) by rw [hv,wP (by omega)],Ah (by omega),ct,ct,Btm (by omega),ct]
      rw [Int.toNat_natCast,show ((Nat.beq 1 1)&&((Nat.ble (((0+(v*2))+1)+1) (List.length (s.flatMap SegD.av)))&&(!false)))=true by rw [Bgi];simp;omega,ct,Bjz s v (by omega)]
      exact Bvg hw (by simp) h1
    have g2:Dg N r0 r1 aa k (s.flatMap SegD.av) (Eo w) y z a b c d e f g i j l m n o p q r t u s.length w.length false (s.flatMap SegD.av) (Eo w) s.length w.length=X:=by
      unfold Dg Gf
      dsimp only
      rw [cf]
      exact Bvg hw rfl h1
    cases hb:(k==18) with
    | false=>rw [bf,cf];exact g2
    | true =>
      rw [bt,ct,ctB]
      cases hd:decide ((s.length:Int)>0) with
      | false=>exact g2
      | true=>exact g1 true rfl (by simp at hd;omega)
end ch
end
end Gx

namespace Gx
open Go Go.Proofs
section
variable {R:Type}
def Fu (x y:Nat):Int:=if x<y then -1 else if y<x then 1 else 0
theorem Y7 (x:Nat):Fu x x=0:=by unfold Fu;simp
theorem Al7 {a b:Nat} (h:(dig a).length<(dig b).length):a<b:=Nat.lt_of_not_le fun h2=>by
  have:=Bk h2;omega
theorem Ba4 {u w p q P:Nat} (hu:u<P) (hw:w<P) (h:p<q):u+P*p<w+P*q:=by
  have:P*(p+1)≤P*q:=Nat.mul_le_mul_left _ h
  rw [Nat.mul_add] at this
  omega
theorem Bj0 {N:Nat} {x y:List Nat} {t u:Bool} {K:Int→Option R} (hx:Ag x) (hy:Ag y) (hs:x.length≤1000000000000) (he:x.length=y.length):∀ (i fuel:Nat),i≤x.length→i<fuel →
    E3 N K (Ad x) x.length t (Ad y) y.length u fuel ((i:Int) - 1)=K (Fu (val (x.take i)) (val (y.take i)))
  | 0,fuel+1,_,_=>by
    rw [E3];unfold Jv
    rw [show decide ((((0:Nat):Int) - 1)≥0)=false by simp,cf]
    simp [Y7]
  | i+1,fuel+1,hi,hf=>by
    rw [E3];unfold Jv
    rw [show (((i+1:Nat):Int) - 1)=(i:Int) by omega,show decide ((i:Int)≥0)=true by simp,ct,Ah (by omega),ct,rdl (by omega),Ah (by omega),ct,rdl (by omega),ct,rdl (by omega),ct,rdl (by omega),i64 (by omega),
      Bj0 hx hy hs he i fuel (by omega) (by omega),At (by omega),At (by omega)]
    have h1:=A7 (Bw hx i)
    have h2:=A7 (Bw hy i)
    rw [List.length_take,Nat.min_eq_left (by omega)] at h1 h2
    by_cases c1:x[i]<y[i]
    · have:=Ba4 h1 h2 c1
      rw [show decide (((x[i]:Nat):Int)<((y[i]:Nat):Int))=true by simp;exact c1,ct]
      unfold Fu;rw [if_pos this]
    · by_cases c2:y[i]<x[i]
      · have:=Ba4 h2 h1 c2
        rw [show decide (((x[i]:Nat):Int)<((y[i]:Nat):Int))=false by simp;omega,cf,show decide (((x[i]:Nat):Int)>((y[i]:Nat):Int))=true by simp;exact c2,ct]
        unfold Fu;rw [if_neg (by omega),if_pos this]
      · have:x[i]=y[i]:=by omega
        rw [show decide (((x[i]:Nat):Int)<((y[i]:Nat):Int))=false by simp;omega,cf,show decide (((x[i]:Nat):Int)>((y[i]:Nat):Int))=false by simp;omega,cf,this]
        unfold Fu
        congr 1
        by_cases a1:val (x.take i)<val (y.take i)
        · rw [if_pos a1,if_pos (by omega)]
        · by_cases a2:val (y.take i)<val (x.take i)
          · rw [if_neg a1,if_pos a2,if_neg (by omega),if_pos (by omega)]
          · rw [if_neg a1,if_neg a2,if_neg (by omega),if_neg (by omega)]
theorem Ow {N:Nat} {a b:List Nat} {n m:Nat} {t o t' o':Bool} {K:Int→Option R} (hn:n=a.length) (hm:m=b.length) (ha:Ag a) (hb:Ag b) (hf:fit (a.length+b.length) N) :
    C7 N (Ad a) n t o (Ad b) m t' o' K=K (Fu (val a) (val b)):=by
  subst hn hm
  have h1:=hf.1;have h2:=hf.2
  rw [Acx];unfold Aag Aaf
  dsimp only
  rw [Bo rfl ha (hf.le (by omega)),Bo rfl hb (hf.le (by omega))]
  have la:=(Bc ha).2
  have lb:=(Bc hb).2
  by_cases he:(dig (val a)).length=(dig (val b)).length
  · rw [show ((((dig (val a)).length:Nat):Int) != (((dig (val b)).length:Nat):Int))=false by simp;omega,cf,i64 (by omega),Bj0 (Ab _) (Ab _) (by omega) he _ N (Nat.le_refl _) (by omega),List.take_length,he,List.take_length,Af,Af]
  · rw [show ((((dig (val a)).length:Nat):Int) != (((dig (val b)).length:Nat):Int))=true by simp;omega,ct]
    by_cases hl:(dig (val a)).length<(dig (val b)).length
    · have:=Al7 hl
      rw [show decide ((((dig (val a)).length:Nat):Int)<(((dig (val b)).length:Nat):Int))=true by simp;omega,ct]
      unfold Fu;rw [if_pos this]
    · have:=Al7 (show (dig (val b)).length<(dig (val a)).length by omega)
      rw [show decide ((((dig (val a)).length:Nat):Int)<(((dig (val b)).length:Nat):Int))=false by simp;omega,cf]
      unfold Fu;rw [if_neg (by omega),if_pos this]
theorem Bgj {N:Nat} {a:List Nat} {n:Nat} {t o:Bool} {K:Int→Option R} (hn:n=a.length) (ha:Ag a) (hf:fit a.length N):Rs N (Ad a) n t o K=K (Fu (val a) 0):=by
  subst hn
  have h1:=hf.1;have h2:=hf.2
  rw [Apc];unfold Apb Apa
  dsimp only
  rw [Bo rfl ha hf,Bse (by omega)]
  by_cases h0:val a=0
  · rw [h0,C3,Y7]
    cases N with
    | zero=>omega
    | succ N =>
      rw [Tu];unfold Z5
      rw [i64 (by simp)];simp
  · have hl:(dig (val a)).length≠0:=fun h=>h0 (Bd.1 h)
    rw [show ((((dig (val a)).length:Nat):Int) != (0:Int))=true by simp;exact fun h=>h0 (Bf8.1 h),ct]
    rw [show decide ((((dig (val a)).length:Nat):Int)<(0:Int))=false by simp,cf]
    unfold Fu;rw [if_neg (by omega),if_pos (by omega)]
end
end Gx

namespace Gx
open Go Go.Proofs
section
variable {R:Type}
theorem A3d:∀ {S:List Nat} {d v:Nat} (h:d<S.length),val (S.set d v)+4294967296 ^ d*S[d]=val S+4294967296 ^ d*v
  | x::r,0,v,_=>by simp [val];omega
  | x::r,d+1,v,h=>by
    have ih:=A3d (S:=r) (d:=d) (v:=v) (by simpa using h)
    simp only [List.set_cons_succ,val,List.getElem_cons_succ,Nat.pow_succ]
    have e1:∀ y,4294967296 ^ d*4294967296*y=4294967296*(4294967296 ^ d*y):=fun y=>by rw [Nat.mul_comm (4294967296 ^ d),Nat.mul_assoc]
    rw [e1,e1]
    omega
theorem Ox (b:List Nat) (d:Nat):val (b.take (d+1))=val (b.take d)+4294967296 ^ d*b.getD d 0:=by
  by_cases h:d<b.length
  · rw [At h,List.getD_eq_getElem?_getD,List.getElem?_eq_getElem h];rfl
  · rw [List.take_of_length_le (by omega),List.take_of_length_le (by omega),List.getD_eq_getElem?_getD,List.getElem?_eq_none (by omega)];simp
theorem K4 (P s:Nat):P*(s%4294967296)+P*4294967296*(s/4294967296)=P*s:=by
  rw [Nat.mul_assoc,← Nat.mul_add,Nat.add_comm,Nat.div_add_mod]
def zer (S:List Nat) (d:Nat):Prop:=∀ j (h:j<S.length),d≤j→S[j]=0
theorem Aef {S:List Nat} {d v:Nat} (h:zer S d):zer (S.set d v) (d+1):=fun j hj hd=>by
  rw [List.getElem_set]
  rw [if_neg (by omega)]
  exact h j (by simpa using hj) (by omega)
theorem Jr (n:Nat):zer (List.replicate n 0) 0:=fun j hj _=>by simp
theorem Uw {S:List Nat} {d v:Nat} (h:zer S d) (hd:d<S.length):val (S.set d v)=val S+4294967296 ^ d*v:=by
  have:=A3d (v:=v) hd
  rw [h d hd (Nat.le_refl _)] at this;simpa using this
theorem wmk {a:Nat} (h:a≤1000000000000):IntKind.wrap .i64 (((a:Nat):Int)+(1:Int))=((a+1:Nat):Int):=wS h
theorem Bwl {x:Nat} {m:List Nat} (h:x<m.length):((Nat.beq 1 1)&&((Nat.ble ((0+(x*1))+1) (List.length (Ad m)))&&(!false)))=true:=by
  rw [Bf];simp;omega
theorem Bvh {x v:Nat} {m:List Nat}:List.set (Ad m) (0+(x*1)) (.int .u32 (v:Int))=Ad (m.set x v):=by rw [Nat.mul_one,Nat.zero_add,A28]
theorem Bgk {N:Nat} {a b:List Nat} {t u:Bool} (ha:Ag a) (hb:Ag b) (hf:fit (a.length+1) N) (hab:b.length≤a.length):∀ (m d fuel:Nat) (S:List Nat) (c:Nat),d+m=a.length→m<fuel→Ag S→S.length=a.length+1→zer S d→c≤1 →
    val S+4294967296 ^ d*c=val (a.take d)+val (b.take d) →
    ∃ S',Ag S'∧S'.length=a.length+1∧val S'=val a+val b∧∀ K:Nat→LA→Option R,Si N K (Ad a) a.length t (Ad b) b.length u fuel (a.length+1) (c:Int) (a.length:Int) (d:Int) (Ad S)=K (dig (val a+val b)).length (Ad S')
  | 0,d,fuel+1,S,c,hd,_,hS,hl,hz,hc,hv=>by
    have h1:=hf.1;have h2:=hf.2
    have hd':d=a.length:=by omega
    subst hd'
    have hv2:val (S.set a.length c)=val a+val b:=by
      rw [Uw hz (by omega),hv,List.take_length,List.take_of_length_le hab]
    have hl2:=B4 hS (show c<4294967296 by omega) a.length
    refine ⟨S.set a.length c,hl2,by simpa using hl,hv2,fun K=>?_⟩
    rw [Si];unfold Aa2
    rw [ltF (Nat.le_refl _),cf,Ah (by omega),ct,Bwl (by omega),ct,w32 (by omega),Bvh,Ahj (by simp;omega) hl2 (by simp only [List.length_set,hl];exact hf),hv2]
  | m+1,d,fuel+1,S,c,hd,hfu,hS,hl,hz,hc,hv=>by
    have h1:=hf.1;have h2:=hf.2
    have hda:d<a.length:=by omega
    have ad:=Ay ha hda
    have step:∀ s:Nat,s<8589934592→s=c+a[d]+b.getD d 0→val (S.set d (s%4294967296))+4294967296 ^ (d+1)*(s/4294967296)=val (a.take (d+1))+val (b.take (d+1)):=by
      intro s _ hs
      rw [Uw hz (by omega),At hda,Ox b d,Nat.pow_succ]
      have e:=K4 (4294967296 ^ d) s
      have e2:4294967296 ^ d*s=4294967296 ^ d*c+4294967296 ^ d*a[d]+4294967296 ^ d*b.getD d 0:=by rw [hs,Nat.mul_add,Nat.mul_add]
      omega
    by_cases hdb:d<b.length
    · have bd:=Ay hb hdb
      have hg:b.getD d 0=b[d]:=by rw [List.getD_eq_getElem?_getD,List.getElem?_eq_getElem hdb];rfl
      obtain ⟨S',q1,q2,q3,q4⟩:=Bgk (t:=t) (u:=u) ha hb hf hab m (d+1) fuel (S.set d ((c+a[d]+b[d])%4294967296)) ((c+a[d]+b[d])/4294967296) (by omega) (by omega) (B4 hS (by omega) d) (by simpa using hl) (Aef hz) (by omega) (step _ (by omega) (by rw [hg]))
      refine ⟨S',q1,q2,q3,fun K=>?_⟩
      rw [Si];unfold Aa2
      rw [ltT hda,ct,Ah hda,ct,rdl hda,ltT hdb,ct,Ah hdb,ct,rdl hdb,Ah (by omega),ct,st1 (by omega),ct,w64 (by omega),w64 (by omega),Ahi,w64 (by omega),Ahi,w64 (by omega),A6m,Azr,Ar1,wS (by omega)]
      exact q4 K
    · have hg:b.getD d 0=0:=by rw [List.getD_eq_getElem?_getD,List.getElem?_eq_none (by omega)];rfl
      obtain ⟨S',q1,q2,q3,q4⟩:=Bgk (t:=t) (u:=u) ha hb hf hab m (d+1) fuel (S.set d ((c+a[d])%4294967296)) ((c+a[d])/4294967296) (by omega) (by omega) (B4 hS (by omega) d) (by simpa using hl) (Aef hz) (by omega) (step _ (by omega) (by rw [hg];rfl))
      refine ⟨S',q1,q2,q3,fun K=>?_⟩
      rw [Si];unfold Aa2
      rw [ltT hda,ct,Ah hda,ct,rdl hda,ltF (by omega),cf,Ah (by omega),ct,st1 (by omega),ct,w64 (by omega),Ahi,w64 (by omega),A6m,Azr,Ar1,wS (by omega)]
      exact q4 K
theorem Btp {N:Nat} {a b:List Nat} {t u:Bool} (ha:Ag a) (hb:Ag b) (hf:fit (a.length+1) N) (hab:b.length≤a.length) :
    ∃ S',Ag S'∧val S'=val a+val b∧∀ K:Nat→LA→Option R,Ate N K (Ad a) a.length t (Ad b) b.length u=K (dig (val a+val b)).length (Ad S'):=by
  have h1:=hf.1;have h2:=hf.2
  obtain ⟨S',q1,_,q3,q4⟩:=Bgk (R:=R) (t:=t) (u:=u) ha hb hf hab a.length 0 N (List.replicate (a.length+1) 0) 0 (by omega) (by omega) (B0 _) (by simp) (Jr _) (by omega) (by rw [C9];simp [val])
  refine ⟨S',q1,q3,fun K=>?_⟩
  unfold Ate Aym
  rw [wmk (by omega),mk4 (by omega),ct,Int.toNat_natCast,Cf]
  exact q4 K
theorem Btq {N:Nat} {a b:List Nat} {n m:Nat} {t o t' o':Bool} (hn:n=a.length) (hm:m=b.length) (ha:Ag a) (hb:Ag b) (hf:fit (a.length+b.length+1) N) :
    ∃ S',Ag S'∧val S'=val a+val b∧∀ K:Nat→LA→Option R,Bd8 N (Ad a) n t o (Ad b) m t' o' K=K (dig (val a+val b)).length (Ad S'):=by
  subst hn hm
  have la:=(Bc ha).2
  have lb:=(Bc hb).2
  by_cases hl:(dig (val a)).length<(dig (val b)).length
  · obtain ⟨S',q1,q2,q3⟩:=Btp (R:=R) (N:=N) (a:=dig (val b)) (b:=dig (val a)) (t:=o') (u:=o) (Ab _) (Ab _) (hf.le (by omega)) (by omega)
    rw [Af,Af,Nat.add_comm] at q2
    refine ⟨S',q1,q2,fun K=>?_⟩
    rw [Ayn];unfold Ba0 Baz
    dsimp only
    rw [Bo rfl ha (hf.le (by omega)),Bo rfl hb (hf.le (by omega)),ltT hl,ct,q3,Af,Af,Nat.add_comm (val b)]
  · obtain ⟨S',q1,q2,q3⟩:=Btp (R:=R) (N:=N) (a:=dig (val a)) (b:=dig (val b)) (t:=o) (u:=o') (Ab _) (Ab _) (hf.le (by omega)) (by omega)
    rw [Af,Af] at q2
    refine ⟨S',q1,q2,fun K=>?_⟩
    rw [Ayn];unfold Ba0 Baz
    dsimp only
    rw [Bo rfl ha (hf.le (by omega)),Bo rfl hb (hf.le (by omega)),ltF (by omega),cf,q3,Af,Af]
end
end Gx

namespace Gx
open Go Go.Proofs
section
variable {R:Type}
theorem At3 {x y:Nat} (hx:x<4294967296) (hy:y≤4294967296):∃ d c:Nat,d<4294967296∧c≤1∧x+4294967296*c=d+y∧IntKind.wrap .u32 (IntKind.wrap .u64 ((x:Int) - (y:Int)))=(d:Int)∧Int.fdiv (IntKind.wrap .u64 ((x:Int) - (y:Int))) (2 ^ 63)=(c:Int):=by
  by_cases h:y≤x
  · refine ⟨x - y,0,by omega,by omega,by omega,?_,?_⟩
    · rw [A6l (by omega) h,w32 (by omega)]
    · rw [A6l (by omega) h,Bwj,Nat.div_eq_of_lt (by omega)]
  · refine ⟨x+4294967296 - y,1,by omega,by omega,by omega,?_,?_⟩
    · rw [Btg (by omega) (by omega),Azr];congr 1;omega
    · rw [Btg (by omega) (by omega),Bwj];congr 1;omega
theorem Bur {x c w:Nat} (hx:x<4294967296) (hc:c≤1) (hw:w<4294967296):IntKind.wrap .u64 ((IntKind.wrap .u64 ((x:Int) - (c:Int))) - (w:Int))=IntKind.wrap .u64 ((x:Int) - ((c+w:Nat):Int)):=by
  rw [Azs,Azs,Azs];omega
theorem Bgl {N:Nat} {a b:List Nat} {t u:Bool} (ha:Ag a) (hb:Ag b) (hf:fit a.length N) (hab:b.length≤a.length) (hle:val b≤val a):∀ (m d fuel:Nat) (S:List Nat) (c:Nat),d+m=a.length→m<fuel→Ag S→S.length=a.length→zer S d→c≤1 →
    val S+val (b.take d)=val (a.take d)+4294967296 ^ d*c →
    ∃ S',Ag S'∧val S'=val a - val b∧∀ K:Nat→Bool→LA→Option R,Sg N K (Ad b) b.length t a.length (Ad a) u fuel (c:Int) (a.length:Int) (d:Int) (Ad S)=K (dig (val a - val b)).length true (Ad S')
  | 0,d,fuel+1,S,c,hd,_,hS,hl,hz,hc,hv=>by
    have hd':d=a.length:=by omega
    subst hd'
    rw [List.take_length,List.take_of_length_le hab] at hv
    have hlt:=A7 hS
    rw [hl] at hlt
    have hc0:c=0:=by
      rcases Nat.lt_or_ge 0 c with h | h
      · exfalso
        have:c=1:=by omega
        subst this
        omega
      · omega
    subst hc0
    have hv2:val S=val a - val b:=by omega
    refine ⟨S,hS,hv2,fun K=>?_⟩
    rw [Sg];unfold Aa0
    rw [ltF (Nat.le_refl _),cf,Ahj hl.symm hS (by rw [hl];exact hf),hv2]
  | m+1,d,fuel+1,S,c,hd,hfu,hS,hl,hz,hc,hv=>by
    have h1:=hf.1;have h2:=hf.2
    have hda:d<a.length:=by omega
    have ad:=Ay ha hda
    have step:∀ y g c':Nat,y=c+b.getD d 0→a[d]+4294967296*c'=g+y→val (S.set d g)+val (b.take (d+1))=val (a.take (d+1))+4294967296 ^ (d+1)*c':=by
      intro y g c' hy hg
      rw [Uw hz (by omega),At hda,Ox b d,Nat.pow_succ,Nat.mul_assoc]
      have e:4294967296 ^ d*(a[d]+4294967296*c')=4294967296 ^ d*(g+(c+b.getD d 0)):=by rw [hg,hy]
      rw [Nat.mul_add,Nat.mul_add,Nat.mul_add] at e
      omega
    by_cases hdb:d<b.length
    · have bd:=Ay hb hdb
      have hg:b.getD d 0=b[d]:=by rw [List.getD_eq_getElem?_getD,List.getElem?_eq_getElem hdb];rfl
      obtain ⟨g,c',g1,g2,g3,g4,g5⟩:=At3 ad (show c+b[d]≤4294967296 by omega)
      obtain ⟨S',q1,q3,q4⟩:=Bgl (t:=t) (u:=u) ha hb hf hab hle m (d+1) fuel (S.set d g) c' (by omega) (by omega) (B4 hS g1 d) (by simpa using hl) (Aef hz) g2 (step _ _ _ (by rw [hg]) g3)
      refine ⟨S',q1,q3,fun K=>?_⟩
      rw [Sg];unfold Aa0
      rw [ltT hda,ct,Ah hda,ct,rdl hda,ltT hdb,ct,Ah hdb,ct,rdl hdb,ct,st1 (by omega),ct,w64 (show a[d]<18446744073709551616 by omega),w64 (show b[d]<18446744073709551616 by omega),Bur ad hc bd,g4,g5,Ar1,wS (by omega)]
      exact q4 K
    · have hg:b.getD d 0=0:=by rw [List.getD_eq_getElem?_getD,List.getElem?_eq_none (by omega)];rfl
      obtain ⟨g,c',g1,g2,g3,g4,g5⟩:=At3 ad (show c≤4294967296 by omega)
      obtain ⟨S',q1,q3,q4⟩:=Bgl (t:=t) (u:=u) ha hb hf hab hle m (d+1) fuel (S.set d g) c' (by omega) (by omega) (B4 hS g1 d) (by simpa using hl) (Aef hz) g2 (step _ _ _ (by rw [hg];rfl) g3)
      refine ⟨S',q1,q3,fun K=>?_⟩
      rw [Sg];unfold Aa0
      rw [ltT hda,ct,Ah hda,ct,rdl hda,ltF (by omega),cf,ct,st1 (by omega),ct,w64 (show a[d]<18446744073709551616 by omega),g4,g5,Ar1,wS (by omega)]
      exact q4 K
theorem Bgm {N:Nat} {a b:List Nat} {n m:Nat} {t o t' o':Bool} (hn:n=a.length) (hm:m=b.length) (ha:Ag a) (hb:Ag b) (hf:fit (a.length+b.length) N) (hle:val b≤val a) :
    ∃ S',Ag S'∧val S'=val a - val b∧∀ K:Nat→Bool→LA→Option R,Apz N (Ad a) n t o (Ad b) m t' o' K=K (dig (val a - val b)).length true (Ad S'):=by
  subst hn hm
  have h1:=hf.1;have h2:=hf.2
  have la:=(Bc ha).2
  have lb:=(Bc hb).2
  have hll:=Bk hle
  obtain ⟨S',q1,q2,q3⟩:=Bgl (R:=R) (N:=N) (a:=dig (val a)) (b:=dig (val b)) (t:=o') (u:=o) (Ab _) (Ab _) (hf.le (by omega)) hll (by rw [Af,Af];exact hle) (dig (val a)).length 0 N (List.replicate (dig (val a)).length 0) 0 (by omega) (by omega) (B0 _) (by simp) (Jr _) (by omega) (by rw [C9];simp [val])
  rw [Af,Af] at q2
  refine ⟨S',q1,q2,fun K=>?_⟩
  rw [Aye];unfold Bay Bax
  dsimp only
  rw [Bo rfl ha (hf.le (by omega)),Bo rfl hb (hf.le (by omega)),Ow rfl rfl (Ab _) (Ab _) (hf.le (by omega)),Af,Af]
  have:decide (Fu (val a) (val b)<0)=false:=by unfold Fu;split<;>(try split)<;>simp<;>omega
  rw [this,cf,mk4 (by omega),ct,Cf]
  have:=q3 K
  rw [Af,Af] at this
  exact this
theorem Btr {N:Nat} {a b:List Nat} {n m:Nat} {t o t' o':Bool} {K:Nat→Bool→LA→Option R} (hn:n=a.length) (hm:m=b.length) (ha:Ag a) (hb:Ag b) (hf:fit (a.length+b.length) N) (hle:val a<val b) :
    Apz N (Ad a) n t o (Ad b) m t' o' K=K 0 false []:=by
  subst hn hm
  have la:=(Bc ha).2
  have lb:=(Bc hb).2
  rw [Aye];unfold Bay Bax
  dsimp only
  rw [Bo rfl ha (hf.le (by omega)),Bo rfl hb (hf.le (by omega)),Ow rfl rfl (Ab _) (Ab _) (hf.le (by omega)),Af,Af]
  have:decide (Fu (val a) (val b)<0)=true:=by unfold Fu;rw [if_pos hle];rfl
  rw [this,ct]
end
end Gx
