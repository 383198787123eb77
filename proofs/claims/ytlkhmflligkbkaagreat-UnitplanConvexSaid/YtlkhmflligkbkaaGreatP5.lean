/- A part of the proof: what it holds is said by each theorem. -/
import Derived.Test.YtlkhmflligkbkaaGreatP4
set_option linter.unusedVariables false
namespace Gx
open Go Go.Proofs
set_option maxRecDepth 100000
noncomputable section
variable {R:Type}
def A8e (N:Nat) (k0:Int→LA→Option R) (r0:LA→Int→Option R) (b:Bool) (a:LA)   (q:Int) (ak:LA):Option R :=
 (cond (Nat.ble 8 (List.length a)) (C6 N (List.take 8 a) b 1 q ak (fun an=>(cond (Nat.ble 8 (List.length a)) (rdL 3 (List.drop 2 a) fun ao ap=>(cond (Ak q ap) (rdL 1 (List.drop 1 (List.drop ((Int.toNat q)*3) ao)) fun aq ar=>(C1 N (List.take 8 a) b aq ar false b 0 1048576 1 q 1 an (fun au=>(rdL 3 (List.drop 2 a) fun av aw=>(cond (Ak q aw) (rdI .i64 (List.drop 2 (List.drop ((Int.toNat q)*3) av)) fun ax=>(As N 0 1048576 [(.int .i64 ax)] 1 false true (fun ay=>(Ab N ay 1 q 2 3 au (fun az=>(k0 (IntKind.wrap .i64 (q+(1:Int))) az)))))) none))))) none)) none))) none)
def Av6 (N:Nat) (k0:Int→LA→Option R) (r0:LA→Int→Option R) (b:Bool) (a:LA) (q:Int) (ak:LA):Option R:=(A8e N k0 r0 b a q ak)
def A3j (N:Nat) (k7:Int→LA→Option R) (k9:Int→Int→LA→Option R) (r0:LA→Int→Option R) (d e:Nat) (b:Bool) (a f g:LA) (k10:Int→Int→Nat→Int→LA→LA→Option R)  (p l:Int) (j:Nat) (m:Int) (r t:LA):Option R :=
 (cond (decide (m<((e:Nat):Int))) (rdL 4 (List.drop 7 a) fun ba bb=>(cond (Ak l bb) (rdL 1 (List.drop 1 (List.drop ((Int.toNat l)*4) ba)) fun bc bd=>(cond (Ak m e) (rdI .i64 (List.drop (0+((Int.toNat m)*1)) g) fun be=>(A5c N bc bd false b be (fun bf=>(cond bf (cond ((Nat.ble (j+1) 140737488355328)&&(Nat.ble ((j+1)*8) 140737488355328)) (k10 p l (j+1) (IntKind.wrap .i64 (m+(1:Int))) r ((List.take (j*1) t)++[(.int .i64 m)])) none) (k10 p l j (IntKind.wrap .i64 (m+(1:Int))) r t))))) none)) none)) (rdL 3 (List.drop 2 a) fun cj bg=>(Abe N ((bg:Nat):Int) (List.take (d*2) f) d false true (List.take (j*1) t) j false true (fun bh=>(Ab N (!bh) 6 l p 13 r (fun bi=>(k9 p (IntKind.wrap .i64 (l+(1:Int))) bi)))))))
def Abf (N:Nat) (k7:Int→LA→Option R) (k9:Int→Int→LA→Option R) (r0:LA→Int→Option R) (d e:Nat) (b:Bool) (a f g:LA):Nat→Int→Int→Nat→Int→LA→LA→Option R
 | 0,_,_,_,_,_,_=>none
 | n+1,p,l,j,m,r,t=>(A3j N k7 k9 r0 d e b a f g (Abf N k7 k9 r0 d e b a f g n) p l j m r t)
def A8f (N:Nat) (k7:Int→LA→Option R) (r0:LA→Int→Option R) (d e:Nat) (b:Bool) (a f g:LA) (k9:Int→Int→LA→Option R) (q10:Int→Int→Nat→Int→LA→LA→Option R) (u w:Int) (x:LA):Option R :=
 (rdL 4 (List.drop 7 a) fun ck bj=>(cond (decide (w<((bj:Nat):Int))) (q10 u w 0 0 x []) (k7 (IntKind.wrap .i64 (u+(1:Int))) x)))
def Xf (N:Nat) (k7:Int→LA→Option R) (r0:LA→Int→Option R) (d e:Nat) (b:Bool) (a f g:LA):Nat→Int→Int→LA→Option R
 | 0,_,_,_=>none
 | n+1,u,w,x=>(A8f N k7 r0 d e b a f g (Xf N k7 r0 d e b a f g n) (fun p l j m r t=>(Abf N k7 (Xf N k7 r0 d e b a f g n) r0 d e b a f g N p l j m r t)) u w x)
def A8g (N:Nat) (k7:Int→LA→Option R) (r0:LA→Int→Option R) (b:Bool) (a:LA)  (q9:Nat→Nat→LA→LA→Int→Int→LA→Option R) (aj:Int) (al:LA):Option R :=
 (cond (Nat.ble 8 (List.length a)) (A5f N (List.take 8 a) b aj (fun d e f g=>(q9 d e f g aj 0 al))) none)
def Av7 (N:Nat) (k7:Int→LA→Option R) (r0:LA→Int→Option R) (b:Bool) (a:LA) (aj:Int) (al:LA):Option R:=(A8g N k7 r0 b a (fun d e f g u w x=>(Xf N k7 r0 d e b a f g N u w x)) aj al)
def A8h (N:Nat)  (r0:LA→Int→Option R) (b:Bool) (a:LA) (k7:Int→LA→Option R) (q8:Int→LA→Option R) (i:Int) (c:LA):Option R :=
 (rdI .i64 a fun bk=>(cond ((decide (i<bk))==true) (rdI .i64 (List.drop 3 c) fun bl=>(cond (cond true (bl==(0:Int)) false) (q8 i c) (cond (Nat.ble 3 (List.length c)) (rdI .i64 (List.drop 3 c) fun bm=>(cond ((Nat.beq (List.length (List.take 3 c)) 3)&&((Nat.ble 3 3)&&(!false))) (cond (Nat.ble 3 (List.length (setCells [(.int .i64 0),(.int .i64 0),(.int .i64 0)] 0 (List.take 3 c)))) (r0 (List.take 3 (setCells [(.int .i64 0),(.int .i64 0),(.int .i64 0)] 0 (List.take 3 c))) bm) none) none)) none))) (cond (Nat.ble 3 (List.length c)) (rdI .i64 (List.drop 3 c) fun bn=>(cond ((Nat.beq (List.length (List.take 3 c)) 3)&&((Nat.ble 3 3)&&(!false))) (cond (Nat.ble 3 (List.length (setCells [(.int .i64 0),(.int .i64 0),(.int .i64 0)] 0 (List.take 3 c)))) (r0 (List.take 3 (setCells [(.int .i64 0),(.int .i64 0),(.int .i64 0)] 0 (List.take 3 c))) bn) none) none)) none)))
def Xg (N:Nat)  (r0:LA→Int→Option R) (b:Bool) (a:LA):Nat→Int→LA→Option R
 | 0,_,_=>none
 | n+1,i,c=>(A8h N r0 b a (Xg N r0 b a n) (fun aj al=>(Av7 N (Xg N r0 b a n) r0 b a aj al)) i c)
def A8i (N:Nat)  (r0:LA→Int→Option R) (b:Bool) (a:LA) (k6:Int→LA→Option R) (q7:Int→LA→Option R) (ae:Int) (z:LA):Option R :=
 (rdL 4 (List.drop 7 a) fun cl bo=>(cond ((decide (ae<((bo:Nat):Int)))==true) (rdI .i64 (List.drop 3 z) fun bp=>(cond (cond true (bp==(0:Int)) false) (cond (Nat.ble 8 (List.length a)) (Lx N (List.take 8 a) b ae z (fun bq=>(k6 (IntKind.wrap .i64 (ae+(1:Int))) bq))) none) (q7 0 z))) (q7 0 z)))
def Av8 (N:Nat)  (r0:LA→Int→Option R) (b:Bool) (a:LA):Nat→Int→LA→Option R
 | 0,_,_=>none
 | n+1,ae,z=>(A8i N r0 b a (Av8 N r0 b a n) (fun i c=>(Xg N r0 b a N i c)) ae z)
def A8j (N:Nat)  (r0:LA→Int→Option R) (b:Bool) (a:LA) (k5:Int→LA→Option R) (q6:Int→LA→Option R) (af:Int) (aa:LA):Option R :=
 (rdL 5 (List.drop 6 a) fun cm br=>(cond ((decide (af<((br:Nat):Int)))==true) (rdI .i64 (List.drop 3 aa) fun bs=>(cond (cond true (bs==(0:Int)) false) (cond (Nat.ble 8 (List.length a)) (S9 N (List.take 8 a) b af aa (fun bt=>(k5 (IntKind.wrap .i64 (af+(1:Int))) bt))) none) (q6 0 aa))) (q6 0 aa)))
def Av9 (N:Nat)  (r0:LA→Int→Option R) (b:Bool) (a:LA):Nat→Int→LA→Option R
 | 0,_,_=>none
 | n+1,af,aa=>(A8j N r0 b a (Av9 N r0 b a n) (fun ae z=>(Av8 N r0 b a N ae z)) af aa)
def A8k (N:Nat)  (r0:LA→Int→Option R) (b:Bool) (a:LA) (k4:Int→LA→Option R) (q5:Int→LA→Option R) (ag:Int) (ab:LA):Option R :=
 (rdL 9 (List.drop 5 a) fun cn bu=>(cond ((decide (ag<((bu:Nat):Int)))==true) (rdI .i64 (List.drop 3 ab) fun bv=>(cond (cond true (bv==(0:Int)) false) (cond (Nat.ble 8 (List.length a)) (Nx N (List.take 8 a) b ag ab (fun bw=>(k4 (IntKind.wrap .i64 (ag+(1:Int))) bw))) none) (q5 0 ab))) (q5 0 ab)))
def Awa (N:Nat)  (r0:LA→Int→Option R) (b:Bool) (a:LA):Nat→Int→LA→Option R
 | 0,_,_=>none
 | n+1,ag,ab=>(A8k N r0 b a (Awa N r0 b a n) (fun af aa=>(Av9 N r0 b a N af aa)) ag ab)
def A8l (N:Nat)  (r0:LA→Int→Option R) (b:Bool) (a:LA) (k3:Int→LA→Option R) (q4:Int→LA→Option R) (ah:Int) (ac:LA):Option R :=
 (rdL 22 (List.drop 4 a) fun co bx=>(cond ((decide (ah<((bx:Nat):Int)))==true) (rdI .i64 (List.drop 3 ac) fun bz=>(cond (cond true (bz==(0:Int)) false) (cond (Nat.ble 8 (List.length a)) (Qh N (List.take 8 a) b ah ac (fun ca=>(k3 (IntKind.wrap .i64 (ah+(1:Int))) ca))) none) (q4 0 ac))) (q4 0 ac)))
def Awb (N:Nat)  (r0:LA→Int→Option R) (b:Bool) (a:LA):Nat→Int→LA→Option R
 | 0,_,_=>none
 | n+1,ah,ac=>(A8l N r0 b a (Awb N r0 b a n) (fun ag ab=>(Awa N r0 b a N ag ab)) ah ac)
def A8m (N:Nat)  (r0:LA→Int→Option R) (b:Bool) (a:LA) (k2:Int→LA→Option R) (q3:Int→LA→Option R) (ai:Int) (ad:LA):Option R :=
 (rdL 12 (List.drop 3 a) fun cp cb=>(cond ((decide (ai<((cb:Nat):Int)))==true) (rdI .i64 (List.drop 3 ad) fun cc=>(cond (cond true (cc==(0:Int)) false) (cond (Nat.ble 8 (List.length a)) (Qg N (List.take 8 a) b ai ad (fun cd=>(k2 (IntKind.wrap .i64 (ai+(1:Int))) cd))) none) (q3 0 ad))) (q3 0 ad)))
def Awc (N:Nat)  (r0:LA→Int→Option R) (b:Bool) (a:LA):Nat→Int→LA→Option R
 | 0,_,_=>none
 | n+1,ai,ad=>(A8m N r0 b a (Awc N r0 b a n) (fun ah ac=>(Awb N r0 b a N ah ac)) ai ad)
def A8n (N:Nat)  (r0:LA→Int→Option R) (b:Bool) (a:LA) (k0:Int→LA→Option R) (q1:Int→LA→Option R) (q2:Int→LA→Option R) (y:Int) (o:LA):Option R :=
 (rdL 3 (List.drop 2 a) fun cq ce=>(cond ((decide (y<((ce:Nat):Int)))==true) (rdI .i64 (List.drop 3 o) fun cf=>(cond (cond true (cf==(0:Int)) false) (q1 y o) (q2 0 o))) (q2 0 o)))
def Xh (N:Nat)  (r0:LA→Int→Option R) (b:Bool) (a:LA):Nat→Int→LA→Option R
 | 0,_,_=>none
 | n+1,y,o=>(A8n N r0 b a (Xh N r0 b a n) (fun q ak=>(Av6 N (Xh N r0 b a n) r0 b a q ak)) (fun ai ad=>(Awc N r0 b a N ai ad)) y o)
def Bvz (N:Nat) (r0:LA→Int→Option R) (q0:Int→LA→Option R) (a:LA) (b:Bool):Option R :=
 (cond (Nat.ble 8 (List.length a)) (Nw N (List.take 8 a) b [(.int .i64 0),(.int .i64 0),(.int .i64 0),(.int .i64 0)] (fun cg=>(q0 0 cg))) none)
def Bv0 (N:Nat) (a:LA) (b:Bool) (r0:LA→Int→Option R):Option R:=(Bvz N r0 (fun y o=>(Xh N r0 b a N y o)) a b)
def A5g:=(Aj (@Bv0 R)).1
theorem Bxz:@A5g R=@Bv0 R:=(Aj _).2
def Agi:Hints:={ H:=(hS (hR [1,2]) (hS (hR [1,2,4]) (hS (hR [1,2,4]) (hS (hS (hR [1,2,4,5]) (hN [1,2,4] (hN [1,2,4,5] (hJ (hS (hR [1,2,4,5,33]) (hN [1,2,4,5] hL hL)) (hS (hN [1,2,4,5] (hS (hR [1,2,4,5]) (hS (hR [1,2,4,5]) (hR [1,2,4,5]))) hL) (hR [1,2,4,5]))) hL) hL)) (hS (hS (hR [1,2,4,6]) (hN [1,2,4] (hN [1,2,4,6] (hS (hS (hR [1,2,4,6,72]) (hN [1,2,4,6] hL hL)) (hS (hN [1,2,4,6] (hR [1,2,4,6]) hL) (hR [1,2,4,6]))) hL) hL)) (hS (hS (hR [1,2,4,7]) (hN [1,2,4] (hN [1,2,4,7] (hS (hS (hR [1,2,4,7,90]) (hN [1,2,4,7] hL hL)) (hS (hN [1,2,4,7] (hR [1,2,4,7]) hL) (hR [1,2,4,7]))) hL) hL)) (hS (hS (hR [1,2,4,8]) (hN [1,2,4] (hN [1,2,4,8] (hS (hS (hR [1,2,4,8,108]) (hN [1,2,4,8] hL hL)) (hS (hN [1,2,4,8] (hR [1,2,4,8]) hL) (hR [1,2,4,8]))) hL) hL)) (hS (hS (hR [1,2,4,9]) (hN [1,2,4] (hN [1,2,4,9] (hS (hS (hR [1,2,4,9,126]) (hN [1,2,4,9] hL hL)) (hS (hN [1,2,4,9] (hR [1,2,4,9]) hL) (hR [1,2,4,9]))) hL) hL)) (hS (hS (hR [1,2,4,10]) (hN [1,2,4] (hN [1,2,4,10] (hS (hS (hR [1,2,4,10,144]) (hN [1,2,4,10] hL hL)) (hS (hN [1,2,4,10] (hR [1,2,4,10]) hL) (hR [1,2,4,10]))) hL) hL)) (hS (hS (hR [1,2,4,11]) (hN [2,4] (hN [1,2,4,11] (hJ (hS (hR [1,2,4,11,161]) (hN [1,2,4,11] hL hL)) (hS (hN [1,2,4,11] (hS (hR [1,2,4,11,12,13]) (hS (hR [1,2,4,11,12,13,14]) (hN [1,2,4,11] (hN [1,2,4,11,12,13,14] (hS (hS (hR [1,2,4,11,12,13,14,174]) (hN [1,2,4,11,12,13,14] hL hL)) (hS (hN [1,2,4,11,12,13,14] (hS (hR [1,2,4,11,12,13,14,15]) (hS (hS (hR [1,2,4,11,12,13,14,15,16]) (hN [1,2,4,11,12,13,14,15] (hN [1,2,4,11,12,13,14,15,16] (hS (hS (hR [1,2,4,11,12,13,14,15,16,180]) (hN [1,2,4,11,12,13,14,15,16] hL hL)) (hS (hN [1,2,4,11,12,13,14,15,16] (hS (hR [1,2,4,11,12,13,14,15,16,193]) (hN [1,2,4,11,12,13,14,15,16] (hR [1,2,4,11,12,13,14,15,16]) hL)) hL) (hR [1,2,4,11,12,13,14,15,16]))) hL) hL)) (hR [1,2,4,11,12,13,14]))) hL) (hR [1,2,4,11,12,13,14]))) hL) hL))) hL) (hR [1,2,4,11]))) hL) hL)) (hS (hR [2,3]) hL))))))))))),nils:=[(15,1)],modes:=[(3,0),(0,0)],free:=[],cob:=[] }
def Anr (N:Nat):List (Nat×Tw):=[(152,Ab6 N),(153,Dg N),(154,Hh N),(156,Cg N),(155,Bd N),(157,Aea N),(158,Aeh N),(159,Acf N),(160,Ake N),(161,Xv N),(162,Bgi N),(163,Av1 N),(164,Aq9 N)]
def Bc (N:Nat):Env:=mkE 217 Agi (Anr N)
def Bx0 (N:Nat) (F:KF R):=Ar (Bc N) Tryz.f112 Agi.modes [] F
def A9 (N:Nat) (F:KF R):=atF (Bc N) [] N Tryz.f112 Agi (Bx0 N F)
def Ay  (F:KF R):LA→Int→Option R:=(fun ch ci=>F (.tup [(.pagg ch false),(.int .i64 ci)]) [])
def Agj (b:Bool) (a:LA) (q:Int) (ak:LA):St:={ s:=[(1,(.optr 300000 0)),(2,(.optr 300001 0)),(4,(.optr 300002 0)),(5,(.int .i64 q))],h:=[(300000,⟨false,false,true,b,0,a,false⟩),(300001,⟨false,false,true,false,0,[(.int .i64 0),(.int .i64 0),(.int .i64 0)],false⟩),(300002,⟨false,false,true,false,0,ak,false⟩)] }
def Bgt (N:Nat) (F:KF R) (Q0:St→Option R):St→Option R:=Bh (Bc N) [] N (A9 N F [1,1,1,0,1,0,0,1] [Q0])
def Bgu (N:Nat) (F:KF R) (Q0:St→Option R):St→Option R:=Bk (Bc N) [] N (A9 N F [1,1,1,0,1,0,0,1] [Q0])
def My (d e:Nat) (b:Bool) (a f g:LA) (p l:Int) (j:Nat) (m:Int) (r t:LA):St:={ s:=[(1,(.optr 300000 0)),(2,(.optr 300001 0)),(4,(.optr 300002 0)),(11,(.int .i64 p)),(12,(.own 300003 0 d)),(13,(.own 300004 0 e)),(14,(.int .i64 l)),(15,(.own 300005 0 j)),(16,(.int .i64 m))],h:=[(300000,⟨false,false,true,b,0,a,false⟩),(300001,⟨false,false,true,false,0,[(.int .i64 0),(.int .i64 0),(.int .i64 0)],false⟩),(300002,⟨false,false,true,false,0,r,false⟩),(300003,⟨false,false,true,false,2,f,false⟩),(300004,⟨false,false,true,false,1,g,false⟩),(300005,⟨false,false,true,false,1,t,false⟩)] }
def A8o (N:Nat) (F:KF R) (Q7:St→Option R) (Q9:St→Option R):St→Option R:=A4 (Bc N) [] N (A9 N F [1,1,1,1,1,1,1,1,1,0,1,0,0,1,0,0,1,1,0,0,1,0,0,1,0,1,0] [Q7,Q9]) N
def Abg (N:Nat) (F:KF R) (Q7:St→Option R) (Q9:St→Option R) (n:Nat):St→Option R:=Av (Bc N) [] N (A9 N F [1,1,1,1,1,1,1,1,1,0,1,0,0,1,0,0,1,1,0,0,1,0,0,1,0,1,0] [Q7,Q9]) n
def Im (d e:Nat) (b:Bool) (a f g:LA) (u w:Int) (x:LA):St:={ s:=[(1,(.optr 300000 0)),(2,(.optr 300001 0)),(4,(.optr 300002 0)),(11,(.int .i64 u)),(12,(.own 300003 0 d)),(13,(.own 300004 0 e)),(14,(.int .i64 w))],h:=[(300000,⟨false,false,true,b,0,a,false⟩),(300001,⟨false,false,true,false,0,[(.int .i64 0),(.int .i64 0),(.int .i64 0)],false⟩),(300002,⟨false,false,true,false,0,x,false⟩),(300003,⟨false,false,true,false,2,f,false⟩),(300004,⟨false,false,true,false,1,g,false⟩)] }
def Bgv (N:Nat) (F:KF R) (Q7:St→Option R):St→Option R:=A4 (Bc N) [] N (A9 N F [1,1,1,1,1,1,1,1,1,0,1,0,0,1,0,0,1,1,0] [Q7]) N
def Ly (N:Nat) (F:KF R) (Q7:St→Option R) (n:Nat):St→Option R:=Av (Bc N) [] N (A9 N F [1,1,1,1,1,1,1,1,1,0,1,0,0,1,0,0,1,1,0] [Q7]) n
def Agk (b:Bool) (a:LA) (aj:Int) (al:LA):St:={ s:=[(1,(.optr 300000 0)),(2,(.optr 300001 0)),(4,(.optr 300002 0)),(11,(.int .i64 aj))],h:=[(300000,⟨false,false,true,b,0,a,false⟩),(300001,⟨false,false,true,false,0,[(.int .i64 0),(.int .i64 0),(.int .i64 0)],false⟩),(300002,⟨false,false,true,false,0,al,false⟩)] }
def Bgw (N:Nat) (F:KF R) (Q7:St→Option R):St→Option R:=Bh (Bc N) [] N (A9 N F [1,1,1,1,1,1,1,1,1,0,1,0,0,1] [Q7])
def Bgx (N:Nat) (F:KF R) (Q7:St→Option R):St→Option R:=Bk (Bc N) [] N (A9 N F [1,1,1,1,1,1,1,1,1,0,1,0,0,1] [Q7])
def Cn (b:Bool) (a:LA) (i:Int) (c:LA):St:={ s:=[(1,(.optr 300000 0)),(2,(.optr 300001 0)),(4,(.optr 300002 0)),(11,(.int .i64 i))],h:=[(300000,⟨false,false,true,b,0,a,false⟩),(300001,⟨false,false,true,false,0,[(.int .i64 0),(.int .i64 0),(.int .i64 0)],false⟩),(300002,⟨false,false,true,false,0,c,false⟩)] }
def Bgy (N:Nat) (F:KF R):St→Option R:=A4 (Bc N) [] N (A9 N F [1,1,1,1,1,1,1,1,1,0,1,0] []) N
def Lz (N:Nat) (F:KF R) (n:Nat):St→Option R:=Av (Bc N) [] N (A9 N F [1,1,1,1,1,1,1,1,1,0,1,0] []) n
def Qo (b:Bool) (a:LA) (ae:Int) (z:LA):St:={ s:=[(1,(.optr 300000 0)),(2,(.optr 300001 0)),(4,(.optr 300002 0)),(10,(.int .i64 ae))],h:=[(300000,⟨false,false,true,b,0,a,false⟩),(300001,⟨false,false,true,false,0,[(.int .i64 0),(.int .i64 0),(.int .i64 0)],false⟩),(300002,⟨false,false,true,false,0,z,false⟩)] }
def Bgz (N:Nat) (F:KF R):St→Option R:=A4 (Bc N) [] N (A9 N F [1,1,1,1,1,1,1,1,0,1,0] []) N
def Agl (N:Nat) (F:KF R) (n:Nat):St→Option R:=Av (Bc N) [] N (A9 N F [1,1,1,1,1,1,1,1,0,1,0] []) n
def Qp (b:Bool) (a:LA) (af:Int) (aa:LA):St:={ s:=[(1,(.optr 300000 0)),(2,(.optr 300001 0)),(4,(.optr 300002 0)),(9,(.int .i64 af))],h:=[(300000,⟨false,false,true,b,0,a,false⟩),(300001,⟨false,false,true,false,0,[(.int .i64 0),(.int .i64 0),(.int .i64 0)],false⟩),(300002,⟨false,false,true,false,0,aa,false⟩)] }
def Bg0 (N:Nat) (F:KF R):St→Option R:=A4 (Bc N) [] N (A9 N F [1,1,1,1,1,1,1,0,1,0] []) N
def Agm (N:Nat) (F:KF R) (n:Nat):St→Option R:=Av (Bc N) [] N (A9 N F [1,1,1,1,1,1,1,0,1,0] []) n
def Qq (b:Bool) (a:LA) (ag:Int) (ab:LA):St:={ s:=[(1,(.optr 300000 0)),(2,(.optr 300001 0)),(4,(.optr 300002 0)),(8,(.int .i64 ag))],h:=[(300000,⟨false,false,true,b,0,a,false⟩),(300001,⟨false,false,true,false,0,[(.int .i64 0),(.int .i64 0),(.int .i64 0)],false⟩),(300002,⟨false,false,true,false,0,ab,false⟩)] }
def Bg1 (N:Nat) (F:KF R):St→Option R:=A4 (Bc N) [] N (A9 N F [1,1,1,1,1,1,0,1,0] []) N
def Agn (N:Nat) (F:KF R) (n:Nat):St→Option R:=Av (Bc N) [] N (A9 N F [1,1,1,1,1,1,0,1,0] []) n
def Qr (b:Bool) (a:LA) (ah:Int) (ac:LA):St:={ s:=[(1,(.optr 300000 0)),(2,(.optr 300001 0)),(4,(.optr 300002 0)),(7,(.int .i64 ah))],h:=[(300000,⟨false,false,true,b,0,a,false⟩),(300001,⟨false,false,true,false,0,[(.int .i64 0),(.int .i64 0),(.int .i64 0)],false⟩),(300002,⟨false,false,true,false,0,ac,false⟩)] }
def Bg2 (N:Nat) (F:KF R):St→Option R:=A4 (Bc N) [] N (A9 N F [1,1,1,1,1,0,1,0] []) N
def Ago (N:Nat) (F:KF R) (n:Nat):St→Option R:=Av (Bc N) [] N (A9 N F [1,1,1,1,1,0,1,0] []) n
def Qs (b:Bool) (a:LA) (ai:Int) (ad:LA):St:={ s:=[(1,(.optr 300000 0)),(2,(.optr 300001 0)),(4,(.optr 300002 0)),(6,(.int .i64 ai))],h:=[(300000,⟨false,false,true,b,0,a,false⟩),(300001,⟨false,false,true,false,0,[(.int .i64 0),(.int .i64 0),(.int .i64 0)],false⟩),(300002,⟨false,false,true,false,0,ad,false⟩)] }
def Bg3 (N:Nat) (F:KF R):St→Option R:=A4 (Bc N) [] N (A9 N F [1,1,1,1,0,1,0] []) N
def Agp (N:Nat) (F:KF R) (n:Nat):St→Option R:=Av (Bc N) [] N (A9 N F [1,1,1,1,0,1,0] []) n
def In (b:Bool) (a:LA) (y:Int) (o:LA):St:={ s:=[(1,(.optr 300000 0)),(2,(.optr 300001 0)),(4,(.optr 300002 0)),(5,(.int .i64 y))],h:=[(300000,⟨false,false,true,b,0,a,false⟩),(300001,⟨false,false,true,false,0,[(.int .i64 0),(.int .i64 0),(.int .i64 0)],false⟩),(300002,⟨false,false,true,false,0,o,false⟩)] }
def Bg4 (N:Nat) (F:KF R):St→Option R:=A4 (Bc N) [] N (A9 N F [1,1,1,0,1,0] []) N
def L0 (N:Nat) (F:KF R) (n:Nat):St→Option R:=Av (Bc N) [] N (A9 N F [1,1,1,0,1,0] []) n
theorem Bo5 (N:Nat) (Q0:St→Option R) (F:KF R) (b:Bool) (a:LA):∀ (q:Int) (ak:LA),Bgu N F Q0 (Agj b a q ak)=(Av6 N (fun y o=>Q0 (In b a y o)) (Ay F) b a q ak):=by
 intro q ak
 have hK:Bgu N F Q0 (Agj b a q ak)=(A8e N (fun y o=>Q0 (In b a y o)) (Ay F) b a q ak):=by kernel_rfl
 exact hK
theorem Bkw (N:Nat) (Q7:St→Option R) (Q9:St→Option R) (F:KF R) (d e:Nat) (b:Bool) (a f g:LA):∀ (n:Nat) (p l:Int) (j:Nat) (m:Int) (r t:LA),Abg N F Q7 Q9 n (My d e b a f g p l j m r t)=(Abf N (fun i c=>Q7 (Cn b a i c)) (fun u w x=>Q9 (Im d e b a f g u w x)) (Ay F) d e b a f g n p l j m r t):=by
 intro n
 induction n with
 | zero=>intros;kernel_rfl
 | succ n ih =>
  intro p l j m r t
  have e0:=funext fun p=>funext fun l=>funext fun j=>funext fun m=>funext fun r=>funext fun t=>(show Abg N F Q7 Q9 n (My d e b a f g p l j m r t)=_ from ih p l j m r t)
  have hK:Abg N F Q7 Q9 (n+1) (My d e b a f g p l j m r t)=(A3j N (fun i c=>Q7 (Cn b a i c)) (fun u w x=>Q9 (Im d e b a f g u w x)) (Ay F) d e b a f g (fun p l j m r t=>Abg N F Q7 Q9 n (My d e b a f g p l j m r t)) p l j m r t):=by kernel_rfl
  exact hK.trans (by rw [e0];rfl)
theorem Bo6 (N:Nat) (Q7:St→Option R) (F:KF R) (d e:Nat) (b:Bool) (a f g:LA):∀ (n:Nat) (u w:Int) (x:LA),Ly N F Q7 n (Im d e b a f g u w x)=(Xf N (fun i c=>Q7 (Cn b a i c)) (Ay F) d e b a f g n u w x):=by
 intro n
 induction n with
 | zero=>intros;kernel_rfl
 | succ n ih =>
  intro u w x
  have e0:=funext fun u=>funext fun w=>funext fun x=>(show Ly N F Q7 n (Im d e b a f g u w x)=_ from ih u w x)
  have e1:(fun p l j m r t=>A8o N F Q7 (Ly N F Q7 n) (My d e b a f g p l j m r t))=(fun p l j m r t=>(Abf N (fun i c=>Q7 (Cn b a i c)) (Xf N (fun i c=>Q7 (Cn b a i c)) (Ay F) d e b a f g n) (Ay F) d e b a f g N p l j m r t)):=by funext p;funext l;funext j;funext m;funext r;funext t;exact ((An ..).trans (Bkw N Q7 (Ly N F Q7 n) F d e b a f g N p l j m r t)).trans (by rw [e0])
  have hK:Ly N F Q7 (n+1) (Im d e b a f g u w x)=(A8f N (fun i c=>Q7 (Cn b a i c)) (Ay F) d e b a f g (fun u w x=>Ly N F Q7 n (Im d e b a f g u w x)) (fun p l j m r t=>A8o N F Q7 (Ly N F Q7 n) (My d e b a f g p l j m r t)) u w x):=by kernel_rfl
  exact hK.trans (by rw [e0,e1];rfl)
theorem Bo7 (N:Nat) (Q7:St→Option R) (F:KF R) (b:Bool) (a:LA):∀ (aj:Int) (al:LA),Bgx N F Q7 (Agk b a aj al)=(Av7 N (fun i c=>Q7 (Cn b a i c)) (Ay F) b a aj al):=by
 intro aj al
 have e1:=funext fun d=>funext fun e=>funext fun f=>funext fun g=>funext fun u=>funext fun w=>funext fun x=>(show Bgv N F Q7 (Im d e b a f g u w x)=_ from (An ..).trans (Bo6 N Q7 F d e b a f g N u w x))
 have hK:Bgx N F Q7 (Agk b a aj al)=(A8g N (fun i c=>Q7 (Cn b a i c)) (Ay F) b a (fun d e f g u w x=>Bgv N F Q7 (Im d e b a f g u w x)) aj al):=by kernel_rfl
 exact hK.trans (by rw [e1];rfl)
theorem Bo8 (N:Nat)  (F:KF R) (b:Bool) (a:LA):∀ (n:Nat) (i:Int) (c:LA),Lz N F n (Cn b a i c)=(Xg N (Ay F) b a n i c):=by
 intro n
 induction n with
 | zero=>intros;kernel_rfl
 | succ n ih =>
  intro i c
  have e0:=funext fun i=>funext fun c=>(show Lz N F n (Cn b a i c)=_ from ih i c)
  have e1:(fun aj al=>Bgw N F (Lz N F n) (Agk b a aj al))=(fun aj al=>(Av7 N (Xg N (Ay F) b a n) (Ay F) b a aj al)):=by funext aj;funext al;exact ((Au ..).trans (Bo7 N (Lz N F n) F b a aj al)).trans (by rw [e0])
  have hK:Lz N F (n+1) (Cn b a i c)=(A8h N (Ay F) b a (fun i c=>Lz N F n (Cn b a i c)) (fun aj al=>Bgw N F (Lz N F n) (Agk b a aj al)) i c):=by kernel_rfl
  exact hK.trans (by rw [e0,e1];rfl)
theorem Bo9 (N:Nat)  (F:KF R) (b:Bool) (a:LA):∀ (n:Nat) (ae:Int) (z:LA),Agl N F n (Qo b a ae z)=(Av8 N (Ay F) b a n ae z):=by
 intro n
 induction n with
 | zero=>intros;kernel_rfl
 | succ n ih =>
  intro ae z
  have e0:=funext fun ae=>funext fun z=>(show Agl N F n (Qo b a ae z)=_ from ih ae z)
  have e1:=funext fun i=>funext fun c=>(show Bgy N F (Cn b a i c)=_ from (An ..).trans (Bo8 N F b a N i c))
  have hK:Agl N F (n+1) (Qo b a ae z)=(A8i N (Ay F) b a (fun ae z=>Agl N F n (Qo b a ae z)) (fun i c=>Bgy N F (Cn b a i c)) ae z):=by kernel_rfl
  exact hK.trans (by rw [e0,e1];rfl)
theorem Bpa (N:Nat)  (F:KF R) (b:Bool) (a:LA):∀ (n:Nat) (af:Int) (aa:LA),Agm N F n (Qp b a af aa)=(Av9 N (Ay F) b a n af aa):=by
 intro n
 induction n with
 | zero=>intros;kernel_rfl
 | succ n ih =>
  intro af aa
  have e0:=funext fun af=>funext fun aa=>(show Agm N F n (Qp b a af aa)=_ from ih af aa)
  have e1:=funext fun ae=>funext fun z=>(show Bgz N F (Qo b a ae z)=_ from (An ..).trans (Bo9 N F b a N ae z))
  have hK:Agm N F (n+1) (Qp b a af aa)=(A8j N (Ay F) b a (fun af aa=>Agm N F n (Qp b a af aa)) (fun ae z=>Bgz N F (Qo b a ae z)) af aa):=by kernel_rfl
  exact hK.trans (by rw [e0,e1];rfl)
theorem Bpb (N:Nat)  (F:KF R) (b:Bool) (a:LA):∀ (n:Nat) (ag:Int) (ab:LA),Agn N F n (Qq b a ag ab)=(Awa N (Ay F) b a n ag ab):=by
 intro n
 induction n with
 | zero=>intros;kernel_rfl
 | succ n ih =>
  intro ag ab
  have e0:=funext fun ag=>funext fun ab=>(show Agn N F n (Qq b a ag ab)=_ from ih ag ab)
  have e1:=funext fun af=>funext fun aa=>(show Bg0 N F (Qp b a af aa)=_ from (An ..).trans (Bpa N F b a N af aa))
  have hK:Agn N F (n+1) (Qq b a ag ab)=(A8k N (Ay F) b a (fun ag ab=>Agn N F n (Qq b a ag ab)) (fun af aa=>Bg0 N F (Qp b a af aa)) ag ab):=by kernel_rfl
  exact hK.trans (by rw [e0,e1];rfl)
theorem Bpc (N:Nat)  (F:KF R) (b:Bool) (a:LA):∀ (n:Nat) (ah:Int) (ac:LA),Ago N F n (Qr b a ah ac)=(Awb N (Ay F) b a n ah ac):=by
 intro n
 induction n with
 | zero=>intros;kernel_rfl
 | succ n ih =>
  intro ah ac
  have e0:=funext fun ah=>funext fun ac=>(show Ago N F n (Qr b a ah ac)=_ from ih ah ac)
  have e1:=funext fun ag=>funext fun ab=>(show Bg1 N F (Qq b a ag ab)=_ from (An ..).trans (Bpb N F b a N ag ab))
  have hK:Ago N F (n+1) (Qr b a ah ac)=(A8l N (Ay F) b a (fun ah ac=>Ago N F n (Qr b a ah ac)) (fun ag ab=>Bg1 N F (Qq b a ag ab)) ah ac):=by kernel_rfl
  exact hK.trans (by rw [e0,e1];rfl)
theorem Bpd (N:Nat)  (F:KF R) (b:Bool) (a:LA):∀ (n:Nat) (ai:Int) (ad:LA),Agp N F n (Qs b a ai ad)=(Awc N (Ay F) b a n ai ad):=by
 intro n
 induction n with
 | zero=>intros;kernel_rfl
 | succ n ih =>
  intro ai ad
  have e0:=funext fun ai=>funext fun ad=>(show Agp N F n (Qs b a ai ad)=_ from ih ai ad)
  have e1:=funext fun ah=>funext fun ac=>(show Bg2 N F (Qr b a ah ac)=_ from (An ..).trans (Bpc N F b a N ah ac))
  have hK:Agp N F (n+1) (Qs b a ai ad)=(A8m N (Ay F) b a (fun ai ad=>Agp N F n (Qs b a ai ad)) (fun ah ac=>Bg2 N F (Qr b a ah ac)) ai ad):=by kernel_rfl
  exact hK.trans (by rw [e0,e1];rfl)
theorem Bpe (N:Nat)  (F:KF R) (b:Bool) (a:LA):∀ (n:Nat) (y:Int) (o:LA),L0 N F n (In b a y o)=(Xh N (Ay F) b a n y o):=by
 intro n
 induction n with
 | zero=>intros;kernel_rfl
 | succ n ih =>
  intro y o
  have e0:=funext fun y=>funext fun o=>(show L0 N F n (In b a y o)=_ from ih y o)
  have e1:(fun q ak=>Bgt N F (L0 N F n) (Agj b a q ak))=(fun q ak=>(Av6 N (Xh N (Ay F) b a n) (Ay F) b a q ak)):=by funext q;funext ak;exact ((Au ..).trans (Bo5 N (L0 N F n) F b a q ak)).trans (by rw [e0])
  have e2:=funext fun ai=>funext fun ad=>(show Bg3 N F (Qs b a ai ad)=_ from (An ..).trans (Bpd N F b a N ai ad))
  have hK:L0 N F (n+1) (In b a y o)=(A8n N (Ay F) b a (fun y o=>L0 N F n (In b a y o)) (fun q ak=>Bgt N F (L0 N F n) (Agj b a q ak)) (fun ai ad=>Bg3 N F (Qs b a ai ad)) y o):=by kernel_rfl
  exact hK.trans (by rw [e0,e1,e2];rfl)
theorem Awd (N:Nat) (a:LA) (b:Bool) (F:KF R):Ac Tryz.prog muts (Anr N) Agi N 112 [(.pagg a b)] [] F=(A5g N a b (Ay F)):=by
 have e1:=funext fun y=>funext fun o=>(show Bg4 N F (In b a y o)=_ from (An ..).trans (Bpe N F b a N y o))
 have hK:Ac Tryz.prog muts (Anr N) Agi N 112 [(.pagg a b)] [] F=(Bvz N (Ay F) (fun y o=>Bg4 N F (In b a y o)) a b):=by kernel_rfl
 rw [Bxz]
 exact hK.trans (by rw [e1];rfl)
def Abh (N:Nat) (args:List AV) (h:Al) (k:KF R):Option R :=
 match args,h with
 | [(.pagg a b)],[]=>(A5g N a b (Ay k))
 | _,_=>none
def Bg5 (N:Nat):Tw:=⟨Abh N,fun args h k=>by
 unfold Abh;split
 exact twE (Awd ..) (Awd ..)
 rfl⟩
theorem B2v (N:Nat):A0 Tryz.prog 112 (Bg5 N):=fun args h res am hh=>by
 change Abh N args h (fun v am=>some (v,am))=_ at hh
 unfold Abh at hh;split at hh
 exact Aa (T:=Anr N) ⟨A2z N,Ea N,M5 N,C0 N,Bl N,A5v N,A5w N,A3a N,Bci N,Ax8 N,B2t N,Bcl N,Bkv N,trivial⟩ follows ((Awd ..).trans hh)
 cases hh
end
end Gx

namespace Gx
open Go Go.Proofs
set_option maxRecDepth 100000
noncomputable section
variable {R:Type}
def Bn0 (N:Nat) (k2:Int→Int→Nat→LA→Option R) (r0:LA→Option R) (j:Int) (a:LA) (b:Nat) (c:Bool) (e:Int) (f d:Nat) (i g:LA)   (aq ar:Int) (ah:Nat) (au:LA):Option R :=
 (Ag N j a b false c ar (fun bc br=>(Ag N (IntKind.wrap .i64 (j - (1:Int))) a b false c br (fun bs bt=>(cond (j==(0:Int)) none (Ww N ((ah:Nat):Int) bc (Int.tmod (IntKind.wrap .i64 ((IntKind.wrap .i64 (bc+(1:Int)))+bs)) j) e a b false c bt (fun bd bu=>(cond ((Nat.beq (List.length bd) 12)&&(Nat.ble 12 12)) (cond ((Nat.ble (ah+1) 140737488355328)&&(Nat.ble ((ah+1)*120) 140737488355328)) (k2 (IntKind.wrap .i64 (aq - (1:Int))) bu (ah+1) ((List.take (ah*12) au)++(List.take 12 (setCells [(.str ([]:List UInt8)),(.int .i64 0),(.int .i64 0),(.int .i64 0),(.int .i64 0),(.int .i64 0),(.int .i64 0),(.int .i64 0),(.int .i64 0),(.int .i64 0),(.int .i64 0),.nsl] 0 bd)))) none) none))))))))
def Bcm (N:Nat) (k2:Int→Int→Nat→LA→Option R) (r0:LA→Option R) (j:Int) (a:LA) (b:Nat) (c:Bool) (e:Int) (f d:Nat) (i g:LA) (aq ar:Int) (ah:Nat) (au:LA):Option R:=(Bn0 N k2 r0 j a b c e f d i g aq ar ah au)
def Bn1 (N:Nat) (k7:Int→Int→Nat→LA→Option R) (r0:LA→Option R) (a:LA) (b:Nat) (c:Bool) (e:Int) (f d m l q t:Nat) (i g o p r u:LA)   (ap av:Int) (w:Nat) (ao:LA):Option R :=
 (Wz N ((w:Nat):Int) ((m:Nat):Int) ((l:Nat):Int) a b false c av (fun az be=>(cond ((Nat.beq 0 0)&&((Nat.beq (List.length az) 4)&&(Nat.beq 4 4))) (cond ((Nat.ble (0+w) 140737488355328)&&(Nat.ble ((0+w)*72) 140737488355328)) (cond (Nat.ble 4 (List.length az)) (cond ((Nat.beq (List.length (List.take 4 az)) 4)&&(Nat.ble 4 4)) (cond ((Nat.ble ((0+w)+1) 140737488355328)&&(Nat.ble (((0+w)+1)*72) 140737488355328)) (A5g N [(.int .i64 e),(.imm (List.take (f*1) i) f 1 false true),(.imm (List.take (d*3) g) d 3 false true),(.imm (List.take (m*12) o) m 12 false true),(.imm (List.take (l*22) p) l 22 false true),(.imm (List.take (q*9) r) q 9 false true),(.imm (List.take (t*5) u) t 5 false true),(.imm (List.take (((0+w)+1)*4) ((List.take ((0+w)*4) (List.take (w*4) ao))++(List.take 4 (setCells [(.str ([]:List UInt8)),.nsl,(.bool false),.nsl] 0 (List.take 4 az))))) ((0+w)+1) 4 false true)] true (fun bv bw=>(cond ((Nat.beq (List.length bv) 3)&&((Nat.ble 3 3)&&(!false))) (cond (bw==(0:Int)) (k7 (IntKind.wrap .i64 (ap - (1:Int))) be ((0+w)+1) ((List.take ((0+w)*4) (List.take (w*4) ao))++(List.take 4 (setCells [(.str ([]:List UInt8)),.nsl,(.bool false),.nsl] 0 (List.take 4 az))))) (k7 (IntKind.wrap .i64 (ap - (1:Int))) be w ao)) none))) none) none) none) none) none)))
def Bcn (N:Nat) (k7:Int→Int→Nat→LA→Option R) (r0:LA→Option R) (a:LA) (b:Nat) (c:Bool) (e:Int) (f d m l q t:Nat) (i g o p r u:LA) (ap av:Int) (w:Nat) (ao:LA):Option R:=(Bn1 N k7 r0 a b c e f d m l q t i g o p r u ap av w ao)
def Bn2 (N:Nat)  (r0:LA→Option R) (a:LA) (b:Nat) (c:Bool) (e:Int) (f d m l q t:Nat) (i g o p r u:LA) (k7:Int→Int→Nat→LA→Option R) (q8:Int→Int→Nat→LA→Option R) (ac af:Int) (x:Nat) (y:LA):Option R :=
 (cond ((decide (ac>(0:Int)))==true) (cond (cond true (decide (((m:Nat):Int)>(0:Int))) false) (q8 ac af x y) (r0 [(.int .i64 e),(.imm (List.take (f*1) i) f 1 false false),(.imm (List.take (d*3) g) d 3 false false),(.imm (List.take (m*12) o) m 12 false false),(.imm (List.take (l*22) p) l 22 false false),(.imm (List.take (q*9) r) q 9 false false),(.imm (List.take (t*5) u) t 5 false false),(.imm (List.take (x*4) y) x 4 false false)])) (r0 [(.int .i64 e),(.imm (List.take (f*1) i) f 1 false false),(.imm (List.take (d*3) g) d 3 false false),(.imm (List.take (m*12) o) m 12 false false),(.imm (List.take (l*22) p) l 22 false false),(.imm (List.take (q*9) r) q 9 false false),(.imm (List.take (t*5) u) t 5 false false),(.imm (List.take (x*4) y) x 4 false false)]))
def Aki (N:Nat)  (r0:LA→Option R) (a:LA) (b:Nat) (c:Bool) (e:Int) (f d m l q t:Nat) (i g o p r u:LA):Nat→Int→Int→Nat→LA→Option R
 | 0,_,_,_,_=>none
 | n+1,ac,af,x,y=>(Bn2 N r0 a b c e f d m l q t i g o p r u (Aki N r0 a b c e f d m l q t i g o p r u n) (fun ap av w ao=>(Bcn N (Aki N r0 a b c e f d m l q t i g o p r u n) r0 a b c e f d m l q t i g o p r u ap av w ao)) ac af x y)
def Bn3 (N:Nat)  (r0:LA→Option R) (a:LA) (b:Nat) (c:Bool) (e:Int) (f d m l q:Nat) (i g o p r:LA)  (q7:Int→Int→Nat→LA→Option R) (aw:Int) (t:Nat) (u:LA):Option R :=
 (Ag N 4 a b false c aw (fun bx bz=>(q7 bx bz 0 [])))
def Bv1 (N:Nat)  (r0:LA→Option R) (a:LA) (b:Nat) (c:Bool) (e:Int) (f d m l q:Nat) (i g o p r:LA) (aw:Int) (t:Nat) (u:LA):Option R:=(Bn3 N r0 a b c e f d m l q i g o p r (fun ac af x y=>(Aki N r0 a b c e f d m l q t i g o p r u N ac af x y)) aw t u)
def Bn4 (N:Nat)  (r0:LA→Option R) (j:Int) (a:LA) (b:Nat) (c:Bool) (e:Int) (f d m l:Nat) (i g o p:LA)  (q6:Int→Nat→LA→Option R) (ax:Int) (q:Nat) (r:LA):Option R :=
 (Ag N 3 a b false c ax (fun ca bf=>(cond (ca==(2:Int)) (Ag N j a b false c bf (fun cb cc=>(Gg N e 12 a b false c cc (fun bg cd ce=>(Gg N e 12 a b false c cd (fun bh cf cg=>(Gg N e 40 a b false c cf (fun bi ch ci=>(q6 ch 1 [(.str ([116,48]:List UInt8)),(.int .i64 cb),(.imm (List.take (bg*1) ce) bg 1 false false),(.imm (List.take (bh*1) cg) bh 1 false false),(.imm (List.take (bi*1) ci) bi 1 false false)]))))))))) (q6 bf 0 []))))
def Bv2 (N:Nat)  (r0:LA→Option R) (j:Int) (a:LA) (b:Nat) (c:Bool) (e:Int) (f d m l:Nat) (i g o p:LA) (ax:Int) (q:Nat) (r:LA):Option R:=(Bn4 N r0 j a b c e f d m l i g o p (fun aw t u=>(Bv1 N r0 a b c e f d m l q i g o p r aw t u)) ax q r)
def Bn5 (N:Nat)  (r0:LA→Option R) (j:Int) (a:LA) (b:Nat) (c:Bool) (e:Int) (f d:Nat) (i g:LA) (k4:Int→Int→Nat→Nat→LA→LA→Option R) (q5:Int→Nat→LA→Option R) (aj ak:Int) (m l:Nat) (o p:LA):Option R :=
 (cond (decide (aj>(0:Int))) (Af2 N ((l:Nat):Int) j e a b false c ak (fun bj cj=>(cond ((Nat.beq (List.length bj) 22)&&(Nat.ble 22 22)) (cond ((Nat.ble (l+1) 140737488355328)&&(Nat.ble ((l+1)*216) 140737488355328)) (k4 (IntKind.wrap .i64 (aj - (1:Int))) cj m (l+1) o ((List.take (l*22) p)++(List.take 22 (setCells [(.str ([]:List UInt8)),(.int .i64 0),(.int .i64 0),(.int .i64 0),.nsl,(.int .i64 0),(.int .i64 0),(.int .i64 0),(.int .i64 0),(.int .i64 0),(.int .i64 0),(.int .i64 0),(.int .i64 0),(.int .i64 0),(.int .i64 0),(.int .i64 0),(.int .i64 0),(.int .i64 0),.nsl,(.int .i64 0),(.int .i64 0),(.int .i64 0)] 0 bj)))) none) none))) (Ag N 3 a b false c ak (fun ck bk=>(cond (ck==(2:Int)) (Ag N j a b false c bk (fun cl cm=>(Ag N 20 a b false c cm (fun bb cn=>(Ag N 8 a b false c cn (fun co cp=>(Ag N 8 a b false c cp (fun cq cr=>(Ag N 4 a b false c cr (fun cs ct=>(Ag N (IntKind.wrap .i64 (bb+(1:Int))) a b false c ct (fun cu cv=>(Ag N (IntKind.wrap .i64 (bb+(1:Int))) a b false c cv (fun cw cx=>(q5 cx 1 [(.str ([115,48]:List UInt8)),(.int .i64 cl),(.int .i64 bb),(.int .i64 cu),(.int .i64 cw),(.int .i64 co),(.int .i64 cq),(.int .i64 (IntKind.wrap .i64 ((1:Int)+cs))),(.int .i64 4)]))))))))))))))) (q5 bk 0 [])))))
def Bco (N:Nat)  (r0:LA→Option R) (j:Int) (a:LA) (b:Nat) (c:Bool) (e:Int) (f d:Nat) (i g:LA):Nat→Int→Int→Nat→Nat→LA→LA→Option R
 | 0,_,_,_,_,_,_=>none
 | n+1,aj,ak,m,l,o,p=>(Bn5 N r0 j a b c e f d i g (Bco N r0 j a b c e f d i g n) (fun ax q r=>(Bv2 N r0 j a b c e f d m l i g o p ax q r)) aj ak m l o p)
def Bn6 (N:Nat)  (r0:LA→Option R) (j:Int) (a:LA) (b:Nat) (c:Bool) (e:Int) (f d:Nat) (i g:LA) (k2:Int→Int→Nat→LA→Option R) (q3:Int→Int→Nat→LA→Option R) (q4:Int→Int→Nat→Nat→LA→LA→Option R) (ad z:Int) (aa:Nat) (ab:LA):Option R :=
 (cond ((decide (ad>(0:Int)))==true) (cond (cond true (decide (j>(1:Int))) false) (q3 ad z aa ab) (Ag N 3 a b false c z (fun cy cz=>(q4 (IntKind.wrap .i64 ((1:Int)+cy)) cz aa 0 ab [])))) (Ag N 3 a b false c z (fun da db=>(q4 (IntKind.wrap .i64 ((1:Int)+da)) db aa 0 ab []))))
def Akj (N:Nat)  (r0:LA→Option R) (j:Int) (a:LA) (b:Nat) (c:Bool) (e:Int) (f d:Nat) (i g:LA):Nat→Int→Int→Nat→LA→Option R
 | 0,_,_,_,_=>none
 | n+1,ad,z,aa,ab=>(Bn6 N r0 j a b c e f d i g (Akj N r0 j a b c e f d i g n) (fun aq ar ah au=>(Bcm N (Akj N r0 j a b c e f d i g n) r0 j a b c e f d i g aq ar ah au)) (fun aj ak m l o p=>(Bco N r0 j a b c e f d i g N aj ak m l o p)) ad z aa ab)
def Bn7 (N:Nat)  (r0:LA→Option R) (a:LA) (b:Nat) (c:Bool) (e:Int) (f d:Nat) (i g:LA) (k1:Int→Int→Int→Nat→LA→Option R) (q2:Int→Int→Nat→LA→Option R) (j ag al:Int) (ae:Nat) (am:LA):Option R :=
 (cond (decide (ag<j)) (Ag N ag a b false c al (fun dc dd=>(Ww N ((ae:Nat):Int) dc ag e a b false c dd (fun bl de=>(cond ((Nat.beq (List.length bl) 12)&&(Nat.ble 12 12)) (cond ((Nat.ble (ae+1) 140737488355328)&&(Nat.ble ((ae+1)*120) 140737488355328)) (k1 j (IntKind.wrap .i64 (ag+(1:Int))) de (ae+1) ((List.take (ae*12) am)++(List.take 12 (setCells [(.str ([]:List UInt8)),(.int .i64 0),(.int .i64 0),(.int .i64 0),(.int .i64 0),(.int .i64 0),(.int .i64 0),(.int .i64 0),(.int .i64 0),(.int .i64 0),(.int .i64 0),.nsl] 0 bl)))) none) none))))) (Ag N 5 a b false c al (fun df dg=>(q2 df dg ae am))))
def Bcp (N:Nat)  (r0:LA→Option R) (a:LA) (b:Nat) (c:Bool) (e:Int) (f d:Nat) (i g:LA):Nat→Int→Int→Int→Nat→LA→Option R
 | 0,_,_,_,_,_=>none
 | n+1,j,ag,al,ae,am=>(Bn7 N r0 a b c e f d i g (Bcp N r0 a b c e f d i g n) (fun ad z aa ab=>(Akj N r0 j a b c e f d i g N ad z aa ab)) j ag al ae am)
def Bn8 (N:Nat)  (r0:LA→Option R) (a:LA) (b:Nat) (c:Bool) (f:Nat) (i:LA) (k0:Int→Int→Int→Nat→LA→Option R) (q1:Int→Int→Int→Nat→LA→Option R) (ai an e:Int) (d:Nat) (g:LA):Option R :=
 (cond (decide (ai>(0:Int))) (Ave N ([98]:List UInt8) ((d:Nat):Int) (fun bm=>(Gg N e 14 a b false c an (fun ba dh bn=>(Ag N 2 a b false c dh (fun di bo=>(cond (di==(1:Int)) (Ag N 200 a b false c bo (fun dj dk=>(cond ((Nat.ble (d+1) 140737488355328)&&(Nat.ble ((d+1)*48) 140737488355328)) (k0 (IntKind.wrap .i64 (ai - (1:Int))) dk e (d+1) ((List.take (d*3) g)++[(.str bm),(.imm (List.take (ba*1) bn) ba 1 false false),(.int .i64 (IntKind.wrap .i64 ((100:Int)+dj)))])) none))) (cond ((Nat.ble (d+1) 140737488355328)&&(Nat.ble ((d+1)*48) 140737488355328)) (k0 (IntKind.wrap .i64 (ai - (1:Int))) bo e (d+1) ((List.take (d*3) g)++[(.str bm),(.imm (List.take (ba*1) bn) ba 1 false false),(.int .i64 0)])) none)))))))) (q1 ((d:Nat):Int) 1 an 0 []))
def Bcq (N:Nat)  (r0:LA→Option R) (a:LA) (b:Nat) (c:Bool) (f:Nat) (i:LA):Nat→Int→Int→Int→Nat→LA→Option R
 | 0,_,_,_,_,_=>none
 | n+1,ai,an,e,d,g=>(Bn8 N r0 a b c f i (Bcq N r0 a b c f i n) (fun j ag al ae am=>(Bcp N r0 a b c e f d i g N j ag al ae am)) ai an e d g)
def B5l (N:Nat) (r0:LA→Option R) (q0:Nat→LA→Int→Int→Int→Nat→LA→Option R) (a:LA) (b:Nat) (ay c:Bool):Option R :=
 (B2k N a b false c (Ag N 3 a b false c 0 (fun bp dl=>(Gg N (IntKind.wrap .i64 ((1:Int)+bp)) 5 a b false c dl (fun f dm i=>(Ag N 4 a b false c dm (fun dn dp=>(q0 f i (IntKind.wrap .i64 ((1:Int)+dn)) dp (IntKind.wrap .i64 ((1:Int)+bp)) 0 []))))))))
def B5m (N:Nat) (a:LA) (b:Nat) (ay c:Bool) (r0:LA→Option R):Option R:=(B5l N r0 (fun f i ai an e d g=>(Bcq N r0 a b c f i N ai an e d g)) a b ay c)
def Bpv:=(Aj (@B5m R)).1
theorem B5n:@Bpv R=@B5m R:=(Aj _).2
def Awe:Hints:={ H:=(hS (hR [0,2]) (hS (hR [2,3]) (hS (hR [2,3,4]) (hS (hR [2,3,4]) (hS (hS (hR [2,3,4,5]) (hN [2,3,4] (hN [2,3,4,5] (hS (hS (hR [2,3,4,5,33]) (hN [2,3,4,5] hL hL)) (hS (hN [2,3,4,5] (hS (hR [2,3,4,5,6]) (hS (hS (hR [2,3,4,5,6,47]) (hN [2,3,4,5,6] (hR [2,3,4,5,6]) hL)) (hR [2,3,4,5]))) hL) (hR [2,3,4,5]))) hL) hL)) (hS (hR [2,3,4,7]) (hS (hS (hR [2,3,4,7,8]) (hN [2,3,4,7] (hN [2,3,4,7,8] (hS (hS (hR [2,3,4,7,8,63]) (hN [2,3,4,7,8] hL hL)) (hS (hN [2,3,4,7,8] (hR [2,3,4,7,8]) hL) (hR [2,3,4,7,8]))) hL) hL)) (hS (hS (hR [2,3,4,7,9]) (hN [2,3,4,7] (hN [2,3,4,7,9] (hJ (hS (hR [2,3,4,7,9,89]) (hN [2,3,4,7,9] hL hL)) (hS (hN [2,3,4,7,9] (hS (hR [2,3,4,7,9,10]) (hR [2,3,4,7,9])) hL) (hR [2,3,4,7,9]))) hL) hL)) (hS (hS (hR [2,3,4,7,11]) (hN [2,3,4,7] (hN [2,3,4,7,11] (hS (hS (hR [2,3,4,7,11,121]) (hN [2,3,4,7,11] hL hL)) (hS (hN [2,3,4,7,11] (hR [2,3,4,7,11]) hL) (hR [2,3,4,7,11]))) hL) hL)) (hJ (hS (hR [2,3,4,7,139]) (hN [2,3,4,7] (hS (hR [2,3,4,7,12]) (hS (hR [2,3,4,7,12]) (hR [2,3,4,7]))) hL)) (hJ (hS (hR [2,3,4,7,174]) (hN [2,3,4] (hR [2,3,4]) hL)) (hS (hS (hR [2,3,4,13]) (hN [2,4] (hN [2,3,4,13] (hJ (hS (hR [2,3,4,13,205]) (hN [2,3,4,13] hL hL)) (hS (hN [2,3,4,13] (hS (hR [2,3,4,13,14]) (hS (hR [2,3,4,13,14,15]) (hS (hR [2,3,4,13,15]) (hS (hR [2,3,4,13,15,17]) (hS (hR [2,3,4,13,15,234]) (hN [2,3,4,13] (hR [2,3,4,13]) hL)))))) hL) (hR [2,3,4,13]))) hL) hL)) (hS (hR [2]) hL))))))))))))),nils:=[],modes:=[(3,0)],free:=[],cob:=[23,44,192] }
def A5h (N:Nat):List (Nat×Tw):=[(105,B0d N),(106,Fp N),(107,Aqt N),(108,Ajx N),(109,Axp N),(110,Axu N),(111,Am5 N),(112,Bg5 N)]
def Cu (N:Nat):Env:=mkE 237 Awe (A5h N)
def B5o (N:Nat) (F:KF R):=Ar (Cu N) Tryz.f61 Awe.modes [] F
def Cl (N:Nat) (F:KF R):=atF (Cu N) [] N Tryz.f61 Awe (B5o N F)
def Bj  (F:KF R):LA→Option R:=(fun dq=>F (.pagg dq false) [])
def Awf (j:Int) (a:LA) (b:Nat) (c:Bool) (e:Int) (f d:Nat) (i g:LA) (aq ar:Int) (ah:Nat) (au:LA):St:={ s:=[(2,(.optr 300000 0)),(3,(.optr 300001 0)),(4,(.optr 300002 0)),(7,(.int .i64 j)),(9,(.int .i64 aq))],h:=[(300000,⟨false,false,false,false,0,[(.int .i64 0),.nsl,.nsl,.nsl,.nsl,.nsl,.nsl,.nsl],false⟩),(300001,⟨false,false,false,false,0,[(.imm a b 1 false c),(.int .i64 ar)],false⟩),(300002,⟨false,false,false,false,0,[(.int .i64 e),(.own 300003 0 f),(.own 300004 0 d),(.own 300005 0 ah),(.own 300006 0 0),(.own 300007 0 0),(.own 300008 0 0),(.own 300009 0 0)],false⟩),(300003,⟨false,false,true,false,1,i,false⟩),(300004,⟨false,false,true,false,3,g,false⟩),(300005,⟨false,false,true,false,12,au,false⟩),(300006,⟨false,false,true,false,22,[],false⟩),(300007,⟨false,false,true,false,9,[],false⟩),(300008,⟨false,false,true,false,5,[],false⟩),(300009,⟨false,false,true,false,4,[],false⟩)] }
def Bv3 (N:Nat) (F:KF R) (Q2:St→Option R):St→Option R:=Bh (Cu N) [] N (Cl N F [1,1,1,1,1,1,1,0,1,0,0,1] [Q2])
def Bv4 (N:Nat) (F:KF R) (Q2:St→Option R):St→Option R:=Bk (Cu N) [] N (Cl N F [1,1,1,1,1,1,1,0,1,0,0,1] [Q2])
def Awg (a:LA) (b:Nat) (c:Bool) (e:Int) (f d m l q t:Nat) (i g o p r u:LA) (ap av:Int) (w:Nat) (ao:LA):St:={ s:=[(2,(.optr 300000 0)),(3,(.optr 300001 0)),(4,(.optr 300002 0)),(13,(.int .i64 ap))],h:=[(300000,⟨false,false,false,false,0,[(.int .i64 0),.nsl,.nsl,.nsl,.nsl,.nsl,.nsl,.nsl],false⟩),(300001,⟨false,false,false,false,0,[(.imm a b 1 false c),(.int .i64 av)],false⟩),(300002,⟨false,false,false,false,0,[(.int .i64 e),(.own 300003 0 f),(.own 300004 0 d),(.own 300005 0 m),(.own 300006 0 l),(.own 300007 0 q),(.own 300008 0 t),(.own 300009 0 w)],false⟩),(300003,⟨false,false,true,false,1,i,false⟩),(300004,⟨false,false,true,false,3,g,false⟩),(300005,⟨false,false,true,false,12,o,false⟩),(300006,⟨false,false,true,false,22,p,false⟩),(300007,⟨false,false,true,false,9,r,false⟩),(300008,⟨false,false,true,false,5,u,false⟩),(300009,⟨false,false,true,false,4,ao,false⟩)] }
def Bv5 (N:Nat) (F:KF R) (Q7:St→Option R):St→Option R:=Bh (Cu N) [] N (Cl N F [1,1,1,1,1,1,1,1,1,1,1,0,1,0,0,1] [Q7])
def Bv6 (N:Nat) (F:KF R) (Q7:St→Option R):St→Option R:=Bk (Cu N) [] N (Cl N F [1,1,1,1,1,1,1,1,1,1,1,0,1,0,0,1] [Q7])
def O0 (a:LA) (b:Nat) (c:Bool) (e:Int) (f d m l q t:Nat) (i g o p r u:LA) (ac af:Int) (x:Nat) (y:LA):St:={ s:=[(2,(.optr 300000 0)),(3,(.optr 300001 0)),(4,(.optr 300002 0)),(13,(.int .i64 ac))],h:=[(300000,⟨false,false,false,false,0,[(.int .i64 0),.nsl,.nsl,.nsl,.nsl,.nsl,.nsl,.nsl],false⟩),(300001,⟨false,false,false,false,0,[(.imm a b 1 false c),(.int .i64 af)],false⟩),(300002,⟨false,false,false,false,0,[(.int .i64 e),(.own 300003 0 f),(.own 300004 0 d),(.own 300005 0 m),(.own 300006 0 l),(.own 300007 0 q),(.own 300008 0 t),(.own 300009 0 x)],false⟩),(300003,⟨false,false,true,false,1,i,false⟩),(300004,⟨false,false,true,false,3,g,false⟩),(300005,⟨false,false,true,false,12,o,false⟩),(300006,⟨false,false,true,false,22,p,false⟩),(300007,⟨false,false,true,false,9,r,false⟩),(300008,⟨false,false,true,false,5,u,false⟩),(300009,⟨false,false,true,false,4,y,false⟩)] }
def Bv7 (N:Nat) (F:KF R):St→Option R:=A4 (Cu N) [] N (Cl N F [1,1,1,1,1,1,1,1,1,1,1,0,1,0] []) N
def Ty (N:Nat) (F:KF R) (n:Nat):St→Option R:=Av (Cu N) [] N (Cl N F [1,1,1,1,1,1,1,1,1,1,1,0,1,0] []) n
def Awh (a:LA) (b:Nat) (c:Bool) (e:Int) (f d m l q:Nat) (i g o p r:LA) (aw:Int) (t:Nat) (u:LA):St:={ s:=[(2,(.optr 300000 0)),(3,(.optr 300001 0)),(4,(.optr 300002 0))],h:=[(300000,⟨false,false,false,false,0,[(.int .i64 0),.nsl,.nsl,.nsl,.nsl,.nsl,.nsl,.nsl],false⟩),(300001,⟨false,false,false,false,0,[(.imm a b 1 false c),(.int .i64 aw)],false⟩),(300002,⟨false,false,false,false,0,[(.int .i64 e),(.own 300003 0 f),(.own 300004 0 d),(.own 300005 0 m),(.own 300006 0 l),(.own 300007 0 q),(.own 300008 0 t),(.own 300009 0 0)],false⟩),(300003,⟨false,false,true,false,1,i,false⟩),(300004,⟨false,false,true,false,3,g,false⟩),(300005,⟨false,false,true,false,12,o,false⟩),(300006,⟨false,false,true,false,22,p,false⟩),(300007,⟨false,false,true,false,9,r,false⟩),(300008,⟨false,false,true,false,5,u,false⟩),(300009,⟨false,false,true,false,4,[],false⟩)] }
def Bv8 (N:Nat) (F:KF R):St→Option R:=Bh (Cu N) [] N (Cl N F [1,1,1,1,1,1,1,1,1,1,1] [])
def Bv9 (N:Nat) (F:KF R):St→Option R:=Bk (Cu N) [] N (Cl N F [1,1,1,1,1,1,1,1,1,1,1] [])
def Awi (j:Int) (a:LA) (b:Nat) (c:Bool) (e:Int) (f d m l:Nat) (i g o p:LA) (ax:Int) (q:Nat) (r:LA):St:={ s:=[(2,(.optr 300000 0)),(3,(.optr 300001 0)),(4,(.optr 300002 0)),(7,(.int .i64 j))],h:=[(300000,⟨false,false,false,false,0,[(.int .i64 0),.nsl,.nsl,.nsl,.nsl,.nsl,.nsl,.nsl],false⟩),(300001,⟨false,false,false,false,0,[(.imm a b 1 false c),(.int .i64 ax)],false⟩),(300002,⟨false,false,false,false,0,[(.int .i64 e),(.own 300003 0 f),(.own 300004 0 d),(.own 300005 0 m),(.own 300006 0 l),(.own 300007 0 q),(.own 300008 0 0),(.own 300009 0 0)],false⟩),(300003,⟨false,false,true,false,1,i,false⟩),(300004,⟨false,false,true,false,3,g,false⟩),(300005,⟨false,false,true,false,12,o,false⟩),(300006,⟨false,false,true,false,22,p,false⟩),(300007,⟨false,false,true,false,9,r,false⟩),(300008,⟨false,false,true,false,5,[],false⟩),(300009,⟨false,false,true,false,4,[],false⟩)] }
def Bwa (N:Nat) (F:KF R):St→Option R:=Bh (Cu N) [] N (Cl N F [1,1,1,1,1,1,1,1,1,1] [])
def Bwb (N:Nat) (F:KF R):St→Option R:=Bk (Cu N) [] N (Cl N F [1,1,1,1,1,1,1,1,1,1] [])
def Zl (j:Int) (a:LA) (b:Nat) (c:Bool) (e:Int) (f d:Nat) (i g:LA) (aj ak:Int) (m l:Nat) (o p:LA):St:={ s:=[(2,(.optr 300000 0)),(3,(.optr 300001 0)),(4,(.optr 300002 0)),(7,(.int .i64 j)),(11,(.int .i64 aj))],h:=[(300000,⟨false,false,false,false,0,[(.int .i64 0),.nsl,.nsl,.nsl,.nsl,.nsl,.nsl,.nsl],false⟩),(300001,⟨false,false,false,false,0,[(.imm a b 1 false c),(.int .i64 ak)],false⟩),(300002,⟨false,false,false,false,0,[(.int .i64 e),(.own 300003 0 f),(.own 300004 0 d),(.own 300005 0 m),(.own 300006 0 l),(.own 300007 0 0),(.own 300008 0 0),(.own 300009 0 0)],false⟩),(300003,⟨false,false,true,false,1,i,false⟩),(300004,⟨false,false,true,false,3,g,false⟩),(300005,⟨false,false,true,false,12,o,false⟩),(300006,⟨false,false,true,false,22,p,false⟩),(300007,⟨false,false,true,false,9,[],false⟩),(300008,⟨false,false,true,false,5,[],false⟩),(300009,⟨false,false,true,false,4,[],false⟩)] }
def Bwc (N:Nat) (F:KF R):St→Option R:=A4 (Cu N) [] N (Cl N F [1,1,1,1,1,1,1,1,0,1,0] []) N
def Awj (N:Nat) (F:KF R) (n:Nat):St→Option R:=Av (Cu N) [] N (Cl N F [1,1,1,1,1,1,1,1,0,1,0] []) n
def O1 (j:Int) (a:LA) (b:Nat) (c:Bool) (e:Int) (f d:Nat) (i g:LA) (ad z:Int) (aa:Nat) (ab:LA):St:={ s:=[(2,(.optr 300000 0)),(3,(.optr 300001 0)),(4,(.optr 300002 0)),(7,(.int .i64 j)),(9,(.int .i64 ad))],h:=[(300000,⟨false,false,false,false,0,[(.int .i64 0),.nsl,.nsl,.nsl,.nsl,.nsl,.nsl,.nsl],false⟩),(300001,⟨false,false,false,false,0,[(.imm a b 1 false c),(.int .i64 z)],false⟩),(300002,⟨false,false,false,false,0,[(.int .i64 e),(.own 300003 0 f),(.own 300004 0 d),(.own 300005 0 aa),(.own 300006 0 0),(.own 300007 0 0),(.own 300008 0 0),(.own 300009 0 0)],false⟩),(300003,⟨false,false,true,false,1,i,false⟩),(300004,⟨false,false,true,false,3,g,false⟩),(300005,⟨false,false,true,false,12,ab,false⟩),(300006,⟨false,false,true,false,22,[],false⟩),(300007,⟨false,false,true,false,9,[],false⟩),(300008,⟨false,false,true,false,5,[],false⟩),(300009,⟨false,false,true,false,4,[],false⟩)] }
def Bwd (N:Nat) (F:KF R):St→Option R:=A4 (Cu N) [] N (Cl N F [1,1,1,1,1,1,1,0,1,0] []) N
def Tz (N:Nat) (F:KF R) (n:Nat):St→Option R:=Av (Cu N) [] N (Cl N F [1,1,1,1,1,1,1,0,1,0] []) n
def Zm (a:LA) (b:Nat) (c:Bool) (e:Int) (f d:Nat) (i g:LA) (j ag al:Int) (ae:Nat) (am:LA):St:={ s:=[(2,(.optr 300000 0)),(3,(.optr 300001 0)),(4,(.optr 300002 0)),(7,(.int .i64 j)),(8,(.int .i64 ag))],h:=[(300000,⟨false,false,false,false,0,[(.int .i64 0),.nsl,.nsl,.nsl,.nsl,.nsl,.nsl,.nsl],false⟩),(300001,⟨false,false,false,false,0,[(.imm a b 1 false c),(.int .i64 al)],false⟩),(300002,⟨false,false,false,false,0,[(.int .i64 e),(.own 300003 0 f),(.own 300004 0 d),(.own 300005 0 ae),(.own 300006 0 0),(.own 300007 0 0),(.own 300008 0 0),(.own 300009 0 0)],false⟩),(300003,⟨false,false,true,false,1,i,false⟩),(300004,⟨false,false,true,false,3,g,false⟩),(300005,⟨false,false,true,false,12,am,false⟩),(300006,⟨false,false,true,false,22,[],false⟩),(300007,⟨false,false,true,false,9,[],false⟩),(300008,⟨false,false,true,false,5,[],false⟩),(300009,⟨false,false,true,false,4,[],false⟩)] }
def Bwe (N:Nat) (F:KF R):St→Option R:=A4 (Cu N) [] N (Cl N F [1,1,1,1,1,1,0,1,0] []) N
def Awk (N:Nat) (F:KF R) (n:Nat):St→Option R:=Av (Cu N) [] N (Cl N F [1,1,1,1,1,1,0,1,0] []) n
def Zn (a:LA) (b:Nat) (c:Bool) (f:Nat) (i:LA) (ai an e:Int) (d:Nat) (g:LA):St:={ s:=[(2,(.optr 300000 0)),(3,(.optr 300001 0)),(4,(.optr 300002 0)),(5,(.int .i64 ai))],h:=[(300000,⟨false,false,false,false,0,[(.int .i64 0),.nsl,.nsl,.nsl,.nsl,.nsl,.nsl,.nsl],false⟩),(300001,⟨false,false,false,false,0,[(.imm a b 1 false c),(.int .i64 an)],false⟩),(300002,⟨false,false,false,false,0,[(.int .i64 e),(.own 300003 0 f),(.own 300004 0 d),(.own 300005 0 0),(.own 300006 0 0),(.own 300007 0 0),(.own 300008 0 0),(.own 300009 0 0)],false⟩),(300003,⟨false,false,true,false,1,i,false⟩),(300004,⟨false,false,true,false,3,g,false⟩),(300005,⟨false,false,true,false,12,[],false⟩),(300006,⟨false,false,true,false,22,[],false⟩),(300007,⟨false,false,true,false,9,[],false⟩),(300008,⟨false,false,true,false,5,[],false⟩),(300009,⟨false,false,true,false,4,[],false⟩)] }
def Bwf (N:Nat) (F:KF R):St→Option R:=A4 (Cu N) [] N (Cl N F [1,1,1,1,0,1,0] []) N
def Awl (N:Nat) (F:KF R) (n:Nat):St→Option R:=Av (Cu N) [] N (Cl N F [1,1,1,1,0,1,0] []) n
theorem Bx1 (N:Nat) (Q2:St→Option R) (F:KF R) (j:Int) (a:LA) (b:Nat) (c:Bool) (e:Int) (f d:Nat) (i g:LA):∀ (aq ar:Int) (ah:Nat) (au:LA),Bv4 N F Q2 (Awf j a b c e f d i g aq ar ah au)=(Bcm N (fun ad z aa ab=>Q2 (O1 j a b c e f d i g ad z aa ab)) (Bj F) j a b c e f d i g aq ar ah au):=by
 intro aq ar ah au
 have hK:Bv4 N F Q2 (Awf j a b c e f d i g aq ar ah au)=(Bn0 N (fun ad z aa ab=>Q2 (O1 j a b c e f d i g ad z aa ab)) (Bj F) j a b c e f d i g aq ar ah au):=by kernel_rfl
 exact hK
theorem Bx2 (N:Nat) (Q7:St→Option R) (F:KF R) (a:LA) (b:Nat) (c:Bool) (e:Int) (f d m l q t:Nat) (i g o p r u:LA):∀ (ap av:Int) (w:Nat) (ao:LA),Bv6 N F Q7 (Awg a b c e f d m l q t i g o p r u ap av w ao)=(Bcn N (fun ac af x y=>Q7 (O0 a b c e f d m l q t i g o p r u ac af x y)) (Bj F) a b c e f d m l q t i g o p r u ap av w ao):=by
 intro ap av w ao
 have hK:Bv6 N F Q7 (Awg a b c e f d m l q t i g o p r u ap av w ao)=(Bn1 N (fun ac af x y=>Q7 (O0 a b c e f d m l q t i g o p r u ac af x y)) (Bj F) a b c e f d m l q t i g o p r u ap av w ao):=by kernel_rfl
 exact hK
theorem Bx3 (N:Nat)  (F:KF R) (a:LA) (b:Nat) (c:Bool) (e:Int) (f d m l q t:Nat) (i g o p r u:LA):∀ (n:Nat) (ac af:Int) (x:Nat) (y:LA),Ty N F n (O0 a b c e f d m l q t i g o p r u ac af x y)=(Aki N (Bj F) a b c e f d m l q t i g o p r u n ac af x y):=by
 intro n
 induction n with
 | zero=>intros;kernel_rfl
 | succ n ih =>
  intro ac af x y
  have e0:=funext fun ac=>funext fun af=>funext fun x=>funext fun y=>(show Ty N F n (O0 a b c e f d m l q t i g o p r u ac af x y)=_ from ih ac af x y)
  have e1:(fun ap av w ao=>Bv5 N F (Ty N F n) (Awg a b c e f d m l q t i g o p r u ap av w ao))=(fun ap av w ao=>(Bcn N (Aki N (Bj F) a b c e f d m l q t i g o p r u n) (Bj F) a b c e f d m l q t i g o p r u ap av w ao)):=by funext ap;funext av;funext w;funext ao;exact ((Au ..).trans (Bx2 N (Ty N F n) F a b c e f d m l q t i g o p r u ap av w ao)).trans (by rw [e0])
  have hK:Ty N F (n+1) (O0 a b c e f d m l q t i g o p r u ac af x y)=(Bn2 N (Bj F) a b c e f d m l q t i g o p r u (fun ac af x y=>Ty N F n (O0 a b c e f d m l q t i g o p r u ac af x y)) (fun ap av w ao=>Bv5 N F (Ty N F n) (Awg a b c e f d m l q t i g o p r u ap av w ao)) ac af x y):=by kernel_rfl
  exact hK.trans (by rw [e0,e1];rfl)
theorem Bx4 (N:Nat)  (F:KF R) (a:LA) (b:Nat) (c:Bool) (e:Int) (f d m l q:Nat) (i g o p r:LA):∀ (aw:Int) (t:Nat) (u:LA),Bv9 N F (Awh a b c e f d m l q i g o p r aw t u)=(Bv1 N (Bj F) a b c e f d m l q i g o p r aw t u):=by
 intro aw t u
 have e1:=funext fun ac=>funext fun af=>funext fun x=>funext fun y=>(show Bv7 N F (O0 a b c e f d m l q t i g o p r u ac af x y)=_ from (An ..).trans (Bx3 N F a b c e f d m l q t i g o p r u N ac af x y))
 have hK:Bv9 N F (Awh a b c e f d m l q i g o p r aw t u)=(Bn3 N (Bj F) a b c e f d m l q i g o p r (fun ac af x y=>Bv7 N F (O0 a b c e f d m l q t i g o p r u ac af x y)) aw t u):=by kernel_rfl
 exact hK.trans (by rw [e1];rfl)
theorem Bx5 (N:Nat)  (F:KF R) (j:Int) (a:LA) (b:Nat) (c:Bool) (e:Int) (f d m l:Nat) (i g o p:LA):∀ (ax:Int) (q:Nat) (r:LA),Bwb N F (Awi j a b c e f d m l i g o p ax q r)=(Bv2 N (Bj F) j a b c e f d m l i g o p ax q r):=by
 intro ax q r
 have e1:=funext fun aw=>funext fun t=>funext fun u=>(show Bv8 N F (Awh a b c e f d m l q i g o p r aw t u)=_ from (Au ..).trans (Bx4 N F a b c e f d m l q i g o p r aw t u))
 have hK:Bwb N F (Awi j a b c e f d m l i g o p ax q r)=(Bn4 N (Bj F) j a b c e f d m l i g o p (fun aw t u=>Bv8 N F (Awh a b c e f d m l q i g o p r aw t u)) ax q r):=by kernel_rfl
 exact hK.trans (by rw [e1];rfl)
theorem Bx6 (N:Nat)  (F:KF R) (j:Int) (a:LA) (b:Nat) (c:Bool) (e:Int) (f d:Nat) (i g:LA):∀ (n:Nat) (aj ak:Int) (m l:Nat) (o p:LA),Awj N F n (Zl j a b c e f d i g aj ak m l o p)=(Bco N (Bj F) j a b c e f d i g n aj ak m l o p):=by
 intro n
 induction n with
 | zero=>intros;kernel_rfl
 | succ n ih =>
  intro aj ak m l o p
  have e0:=funext fun aj=>funext fun ak=>funext fun m=>funext fun l=>funext fun o=>funext fun p=>(show Awj N F n (Zl j a b c e f d i g aj ak m l o p)=_ from ih aj ak m l o p)
  have e1:=funext fun ax=>funext fun q=>funext fun r=>(show Bwa N F (Awi j a b c e f d m l i g o p ax q r)=_ from (Au ..).trans (Bx5 N F j a b c e f d m l i g o p ax q r))
  have hK:Awj N F (n+1) (Zl j a b c e f d i g aj ak m l o p)=(Bn5 N (Bj F) j a b c e f d i g (fun aj ak m l o p=>Awj N F n (Zl j a b c e f d i g aj ak m l o p)) (fun ax q r=>Bwa N F (Awi j a b c e f d m l i g o p ax q r)) aj ak m l o p):=by kernel_rfl
  exact hK.trans (by rw [e0,e1];rfl)
theorem Bx7 (N:Nat)  (F:KF R) (j:Int) (a:LA) (b:Nat) (c:Bool) (e:Int) (f d:Nat) (i g:LA):∀ (n:Nat) (ad z:Int) (aa:Nat) (ab:LA),Tz N F n (O1 j a b c e f d i g ad z aa ab)=(Akj N (Bj F) j a b c e f d i g n ad z aa ab):=by
 intro n
 induction n with
 | zero=>intros;kernel_rfl
 | succ n ih =>
  intro ad z aa ab
  have e0:=funext fun ad=>funext fun z=>funext fun aa=>funext fun ab=>(show Tz N F n (O1 j a b c e f d i g ad z aa ab)=_ from ih ad z aa ab)
  have e1:(fun aq ar ah au=>Bv3 N F (Tz N F n) (Awf j a b c e f d i g aq ar ah au))=(fun aq ar ah au=>(Bcm N (Akj N (Bj F) j a b c e f d i g n) (Bj F) j a b c e f d i g aq ar ah au)):=by funext aq;funext ar;funext ah;funext au;exact ((Au ..).trans (Bx1 N (Tz N F n) F j a b c e f d i g aq ar ah au)).trans (by rw [e0])
  have e2:=funext fun aj=>funext fun ak=>funext fun m=>funext fun l=>funext fun o=>funext fun p=>(show Bwc N F (Zl j a b c e f d i g aj ak m l o p)=_ from (An ..).trans (Bx6 N F j a b c e f d i g N aj ak m l o p))
  have hK:Tz N F (n+1) (O1 j a b c e f d i g ad z aa ab)=(Bn6 N (Bj F) j a b c e f d i g (fun ad z aa ab=>Tz N F n (O1 j a b c e f d i g ad z aa ab)) (fun aq ar ah au=>Bv3 N F (Tz N F n) (Awf j a b c e f d i g aq ar ah au)) (fun aj ak m l o p=>Bwc N F (Zl j a b c e f d i g aj ak m l o p)) ad z aa ab):=by kernel_rfl
  exact hK.trans (by rw [e0,e1,e2];rfl)
theorem Bx8 (N:Nat)  (F:KF R) (a:LA) (b:Nat) (c:Bool) (e:Int) (f d:Nat) (i g:LA):∀ (n:Nat) (j ag al:Int) (ae:Nat) (am:LA),Awk N F n (Zm a b c e f d i g j ag al ae am)=(Bcp N (Bj F) a b c e f d i g n j ag al ae am):=by
 intro n
 induction n with
 | zero=>intros;kernel_rfl
 | succ n ih =>
  intro j ag al ae am
  have e0:=funext fun j=>funext fun ag=>funext fun al=>funext fun ae=>funext fun am=>(show Awk N F n (Zm a b c e f d i g j ag al ae am)=_ from ih j ag al ae am)
  have e1:=funext fun ad=>funext fun z=>funext fun aa=>funext fun ab=>(show Bwd N F (O1 j a b c e f d i g ad z aa ab)=_ from (An ..).trans (Bx7 N F j a b c e f d i g N ad z aa ab))
  have hK:Awk N F (n+1) (Zm a b c e f d i g j ag al ae am)=(Bn7 N (Bj F) a b c e f d i g (fun j ag al ae am=>Awk N F n (Zm a b c e f d i g j ag al ae am)) (fun ad z aa ab=>Bwd N F (O1 j a b c e f d i g ad z aa ab)) j ag al ae am):=by kernel_rfl
  exact hK.trans (by rw [e0,e1];rfl)
theorem Bx9 (N:Nat)  (F:KF R) (a:LA) (b:Nat) (c:Bool) (f:Nat) (i:LA):∀ (n:Nat) (ai an e:Int) (d:Nat) (g:LA),Awl N F n (Zn a b c f i ai an e d g)=(Bcq N (Bj F) a b c f i n ai an e d g):=by
 intro n
 induction n with
 | zero=>intros;kernel_rfl
 | succ n ih =>
  intro ai an e d g
  have e0:=funext fun ai=>funext fun an=>funext fun e=>funext fun d=>funext fun g=>(show Awl N F n (Zn a b c f i ai an e d g)=_ from ih ai an e d g)
  have e1:=funext fun j=>funext fun ag=>funext fun al=>funext fun ae=>funext fun am=>(show Bwe N F (Zm a b c e f d i g j ag al ae am)=_ from (An ..).trans (Bx8 N F a b c e f d i g N j ag al ae am))
  have hK:Awl N F (n+1) (Zn a b c f i ai an e d g)=(Bn8 N (Bj F) a b c f i (fun ai an e d g=>Awl N F n (Zn a b c f i ai an e d g)) (fun j ag al ae am=>Bwe N F (Zm a b c e f d i g j ag al ae am)) ai an e d g):=by kernel_rfl
  exact hK.trans (by rw [e0,e1];rfl)
theorem Bcr (N:Nat) (a:LA) (b:Nat) (ay c:Bool) (F:KF R):Ac Tryz.prog muts (A5h N) Awe N 61 [(.imm a b 1 ay c)] [] F=(Bpv N a b ay c (Bj F)):=by
 have e1:=funext fun f=>funext fun i=>funext fun ai=>funext fun an=>funext fun e=>funext fun d=>funext fun g=>(show Bwf N F (Zn a b c f i ai an e d g)=_ from (An ..).trans (Bx9 N F a b c f i N ai an e d g))
 have hK:Ac Tryz.prog muts (A5h N) Awe N 61 [(.imm a b 1 ay c)] [] F=(B5l N (Bj F) (fun f i ai an e d g=>Bwf N F (Zn a b c f i ai an e d g)) a b ay c):=by kernel_rfl
 rw [B5n]
 exact hK.trans (by rw [e1];rfl)
def Ans (N:Nat) (args:List AV) (h:Al) (k:KF R):Option R :=
 match args,h with
 | [(.imm a b 1 ay c)],[]=>(Bpv N a b ay c (Bj k))
 | _,_=>none
def Bwg (N:Nat):Tw:=⟨Ans N,fun args h k=>by
 unfold Ans;split
 exact twE (Bcr ..) (Bcr ..)
 rfl⟩
theorem B7n (N:Nat):A0 Tryz.prog 61 (Bwg N):=fun args h res bq hh=>by
 change Ans N args h (fun v bq=>some (v,bq))=_ at hh
 unfold Ans at hh;split at hh
 exact Aa (T:=A5h N) ⟨B9z N,H2 N,Bkm N,Avf N,Bor N,Bos N,Bfy N,B2v N,trivial⟩ follows ((Bcr ..).trans hh)
 cases hh
end
end Gx

namespace Gx.Cf
open Go Go.Proofs
def Sl.av {α:Type} (sz:Nat) (e:α→List AV):Sl α→AV
  | .nil=>.nsl
  | .of l t o=>.imm (l.flatMap e) l.length sz t o
def UnitD.av (u:UnitD):List AV:=[.str u.name,.int .i64 u.bus,.int .i64 u.min,.int .i64 u.max,u.segs.av 2 SegD.av,.int .i64 u.noLoad,.int .i64 u.rampUp,.int .i64 u.rampDown,.int .i64 u.startRamp,.int .i64 u.stopRamp,.int .i64 u.upTime,.int .i64 u.downTime,.int .i64 u.startTime,.int .i64 u.hotCost,.int .i64 u.coldCost,.int .i64 u.hotHours,.int .i64 u.reserve,.int .i64 u.reservePrice,u.away.av 1 intE,.int .i64 u.state,.int .i64 u.hours,.int .i64 u.output]
section
variable {R:Type}
theorem ct (x y:Option R):cond true x y=x:=rfl
end
end Gx.Cf

namespace Gx.Cf
open Go Go.Proofs
section
variable {R:Type}
def segOk (s:SegD):Bool:=btw 1 1048576 s.width&&btw (-1048576) 1048576 s.price
end
end Gx.Cf

namespace Gx
open Go Go.Proofs
set_option maxRecDepth 100000
noncomputable section
variable {R:Type}
def Bwh (N:Nat) (r0:LA→Int→Option R)  (a:LA) (b:Nat) (d c:Bool):Option R :=
 (Bpv N a b false c (fun f=>(cond ((Nat.beq 0 0)&&((Nat.beq (List.length f) 8)&&(Nat.beq 8 8))) (rdL 22 (List.drop 4 f) fun e i=>(cond (Ak (0:Int) i) (cond (Nat.ble 22 (List.length e)) (rdI .i64 f fun j=>(cond ((Nat.beq 0 0)&&((Nat.beq (List.length (List.take 22 e)) 22)&&(Nat.beq 22 22))) (cond (Nat.ble 22 (List.length (List.take 22 e))) (r0 (List.take 22 (List.take 22 e)) j) none) none)) none) none)) none)))
def Bwi (N:Nat) (a:LA) (b:Nat) (d c:Bool) (r0:LA→Int→Option R):Option R:=(Bwh N r0 a b d c)
def Bg6:=(Aj (@Bwi R)).1
theorem Bn9:@Bg6 R=@Bwi R:=(Aj _).2
def Bwj:Hints:={ H:=(hS (hR [0,2]) (hS (hR [2,4]) (hS (hR [2,3]) hL))),nils:=[],modes:=[(3,0),(0,0)],free:=[],cob:=[] }
def Bkx (N:Nat):List (Nat×Tw):=[(61,Bwg N)]
def Bcs  (F:KF R):LA→Int→Option R:=(fun l m=>F (.tup [(.pagg l false),(.int .i64 m)]) [])
theorem Bct (N:Nat) (a:LA) (b:Nat) (d c:Bool) (F:KF R):Ac Tryz.prog muts (Bkx N) Bwj N 27 [(.imm a b 1 d c)] [] F=(Bg6 N a b d c (Bcs F)):=by
 have hK:Ac Tryz.prog muts (Bkx N) Bwj N 27 [(.imm a b 1 d c)] [] F=(Bwh N (Bcs F) a b d c):=by kernel_rfl
 rw [Bn9]
 exact hK
def Ant (N:Nat) (args:List AV) (h:Al) (k:KF R):Option R :=
 match args,h with
 | [(.imm a b 1 d c)],[]=>(Bg6 N a b d c (Bcs k))
 | _,_=>none
def Bwk (N:Nat):Tw:=⟨Ant N,fun args h k=>by
 unfold Ant;split
 exact twE (Bct ..) (Bct ..)
 rfl⟩
theorem B7o (N:Nat):A0 Tryz.prog 27 (Bwk N):=fun args h res g hh=>by
 change Ant N args h (fun v g=>some (v,g))=_ at hh
 unfold Ant at hh;split at hh
 exact Aa (T:=Bkx N) ⟨B7n N,trivial⟩ follows ((Bct ..).trans hh)
 cases hh
def Iw (N:Nat)  (r0:Bool→Option R) (i j:Bool) (a b c d f g:LA)   :Option R :=
 (cond (Nat.ble 3 (List.length b)) (cond (Nat.ble 3 (List.length a)) (Afp N (List.take 3 b) false (List.take 3 a) false (fun r=>(cond ((Nat.beq 0 0)&&((Nat.beq (List.length r) 3)&&(Nat.beq 3 3))) (cond (Nat.ble 3 (List.length r)) (Abv N (List.take 3 r) false (fun w=>(cond (w==(1:Int)) (cond (j==true) (cond (Nat.ble 3 (List.length d)) (cond (Nat.ble 3 (List.length c)) (Afp N (List.take 3 d) false (List.take 3 c) false (fun aa=>(cond (Nat.ble 3 (List.length g)) (cond (Nat.ble 3 (List.length r)) (At6 N (List.take 3 g) false (List.take 3 r) false (fun ab=>(Ef N aa false ab false (fun ac=>(r0 (cond true (decide (ac≥(0:Int))) false)))))) none) none))) none) none) (r0 false)) (cond (w==(-1:Int)) (cond (i==true) (cond (Nat.ble 3 (List.length d)) (cond (Nat.ble 3 (List.length c)) (Afp N (List.take 3 d) false (List.take 3 c) false (fun ad=>(cond (Nat.ble 3 (List.length f)) (cond (Nat.ble 3 (List.length r)) (At6 N (List.take 3 f) false (List.take 3 r) false (fun ae=>(Ef N ad false ae false (fun af=>(r0 (cond true (decide (af≥(0:Int))) false)))))) none) none))) none) none) (r0 false)) (r0 true))))) none) none))) none) none)
def Fg (N:Nat)  (r0:Bool→Option R) (i j:Bool) (a b c d f g:LA) :Option R:=(Iw N r0 i j a b c d f g)
def Ix (N:Nat)  (r0:Bool→Option R) (e a b c d:LA)  (q1:Bool→Bool→LA→LA→Option R) :Option R :=
 (cond (Nat.ble 22 (List.length e)) (cond (Nat.ble 3 (List.length a)) (Uf N (List.take 22 e) false (List.take 3 a) false (fun f g i j=>(cond ((Nat.beq 0 0)&&((Nat.beq (List.length f) 3)&&(Nat.beq 3 3))) (cond ((Nat.beq 0 0)&&((Nat.beq (List.length g) 3)&&(Nat.beq 3 3))) (cond (i==true) (cond ((cond true j false)==true) (cond (Nat.ble 3 (List.length f)) (cond (Nat.ble 3 (List.length g)) (Ef N (List.take 3 f) false (List.take 3 g) false (fun ag=>(cond (cond true (decide (ag>(0:Int))) false) (r0 false) (q1 i j f g)))) none) none) (q1 i j f g)) (q1 i j f g)) none) none))) none) none)
def Ku (N:Nat)  (r0:Bool→Option R) (e a b c d:LA) :Option R:=(Ix N r0 e a b c d (fun i j f g=>(Fg N r0 i j a b c d f g)))
def M9 (N:Nat) (r0:Bool→Option R) (q0:LA→LA→LA→LA→LA→Option R) (m:LA) (l:Nat) (q n:Bool) (o p:Int):Option R :=
 (cond (decide (((l:Nat):Int)>(200:Int))) (r0 true) (Bg6 N m l false n (fun e ax=>(cond ((Nat.beq 0 0)&&((Nat.beq (List.length e) 22)&&(Nat.beq 22 22))) (rdI .i64 (List.drop 3 e) fun x=>(rdI .i64 (List.drop 2 e) fun y=>(rdI .i64 (List.drop 2 e) fun ah=>(Ag8 N o (IntKind.wrap .i64 ((IntKind.wrap .i64 ((2:Int)*(IntKind.wrap .i64 (x - y))))+(1:Int))) (fun ai=>(Bjl N (IntKind.wrap .i64 ((IntKind.wrap .i64 ((2:Int)*ah))+ai)) 2 (fun a=>(rdI .i64 (List.drop 2 e) fun aj=>(Ag8 N p (IntKind.wrap .i64 ((IntKind.wrap .i64 ((2:Int)*(IntKind.wrap .i64 (x - y))))+(1:Int))) (fun ak=>(Bjl N (IntKind.wrap .i64 ((IntKind.wrap .i64 ((2:Int)*aj))+ak)) 2 (fun b=>(cond ((Nat.beq 0 0)&&((Nat.beq (List.length a) 3)&&(Nat.beq 3 3))) (cond ((Nat.beq 0 0)&&((Nat.beq (List.length b) 3)&&(Nat.beq 3 3))) (cond (Nat.ble 3 (List.length a)) (cond (Nat.ble 3 (List.length b)) (Afo N (List.take 3 a) false (List.take 3 b) false (fun al=>(E1 N 2 (fun am=>(A01 N al false am false (fun u=>(cond ((Nat.beq 0 0)&&((Nat.beq (List.length u) 3)&&(Nat.beq 3 3))) (cond (Nat.ble 22 (List.length e)) (cond (Nat.ble 3 (List.length a)) (E2 N (List.take 22 e) false (List.take 3 a) false (fun c an=>(cond ((Nat.beq 0 0)&&((Nat.beq (List.length c) 3)&&(Nat.beq 3 3))) (cond (Nat.ble 22 (List.length e)) (cond (Nat.ble 3 (List.length b)) (E2 N (List.take 22 e) false (List.take 3 b) false (fun d ao=>(cond ((Nat.beq 0 0)&&((Nat.beq (List.length d) 3)&&(Nat.beq 3 3))) (cond (Nat.ble 22 (List.length e)) (cond (Nat.ble 3 (List.length u)) (E2 N (List.take 22 e) false (List.take 3 u) false (fun t ap=>(cond ((Nat.beq 0 0)&&((Nat.beq (List.length t) 3)&&(Nat.beq 3 3))) (Ab2 N (fun aq=>(cond ((!aq)==false) (cond ((cond false true (an != (0:Int)))==false) (cond ((cond false true (ao != (0:Int)))==false) (cond ((cond false true (ap != (0:Int)))==false) (cond (Nat.ble 3 (List.length t)) (cond (Nat.ble 3 (List.length t)) (Afo N (List.take 3 t) false (List.take 3 t) false (fun ar=>(cond (Nat.ble 3 (List.length c)) (cond (Nat.ble 3 (List.length d)) (Afo N (List.take 3 c) false (List.take 3 d) false (fun au=>(Ef N ar false au false (fun av=>(cond (cond false true (decide (av>(0:Int)))) (r0 false) (q0 e a b c d)))))) none) none))) none) none) (r0 false)) (r0 false)) (r0 false)) (r0 false)))) none))) none) none) none))) none) none) none))) none) none) none))))))) none) none) none) none))))))))))))) none))))
def Na (N:Nat) (m:LA) (l:Nat) (q n:Bool) (o p:Int) (r0:Bool→Option R):Option R:=(M9 N r0 (fun e a b c d=>(Ku N r0 e a b c d)) m l q n o p)
def Io:=(Aj (@Na R)).1
theorem Ru:@Io R=@Na R:=(Aj _).2
def Fh:Hints:={ H:=(hS (hR [0,1,2]) (hS (hS (hR [0,1,2,26]) (hN [0,1,2] (hS (hR [6]) hL) hL)) (hS (hR [1,2,7]) (hS (hR [1,2,7,9]) (hS (hR [7,10,11]) (hS (hR [7,10,11,12]) (hS (hR [7,10,11,12,13,14]) (hS (hR [7,10,11,12,13,14,15,16]) (hS (hR [7,10,11,13,14,15,16,17,18]) (hJ (hS (hR [7,10,11,13,15,102]) (hN [7,10,11,13,15] (hS (hR [6]) hL) hL)) (hS (hR [10,11,13,15,19,20,21,22]) (hJ (hS (hR [10,11,13,15,19,20,21,22,120]) (hN [10,11,13,15,19,20,21,22] (hS (hR [6]) hL) hL)) (hS (hR [13,15,19,20,21,22,23]) (hS (hS (hR [13,15,19,20,21,22,23,125]) (hS (hS (hR [13,15,19,20,21,22,23,125,126]) (hS (hS (hR [6]) hL) (hS (hR [13,15,19,21,23,139]) (hS (hS (hR [6]) hL) hL)))) hL)) (hS (hR [6]) hL))))))))))))))),nils:=[],modes:=[],free:=[],cob:=[] }
def F7 (N:Nat):List (Nat×Tw):=[(27,Bwk N),(12,Bey N),(19,Bzs N),(32,Bbe N),(20,Ah6 N),(31,Bmu N),(21,Wa N),(15,A2f N),(25,Ajb N),(23,Ajh N),(33,Bbh N),(34,Al4 N),(35,Btw N)]
def C7 (N:Nat):Env:=mkE 152 Fh (F7 N)
def Aph (N:Nat) (F:KF R):=Ar (C7 N) Tryz.f6 Fh.modes [] F
def Fi (N:Nat) (F:KF R):=atF (C7 N) [] N Tryz.f6 Fh (Aph N F)
def B7  (F:KF R):Bool→Option R:=(fun aw=>F (.bool aw) [])
def Fj (i j:Bool) (a b c d f g:LA):St:={ s:=[(10,(.optr 300000 0)),(11,(.optr 300001 0)),(13,(.optr 300002 0)),(15,(.optr 300003 0)),(19,(.optr 300004 0)),(20,(.optr 300005 0)),(21,(.bool i)),(22,(.bool j))],h:=[(300000,⟨false,false,true,false,0,a,false⟩),(300001,⟨false,false,true,false,0,b,false⟩),(300002,⟨false,false,true,false,0,c,false⟩),(300003,⟨false,false,true,false,0,d,false⟩),(300004,⟨false,false,true,false,0,f,false⟩),(300005,⟨false,false,true,false,0,g,false⟩)] }
def Un (N:Nat) (F:KF R):St→Option R:=Bh (C7 N) [] N (Fi N F [1,1,1,1,1,1,1,1,1,1,1,1] [])
def Uo (N:Nat) (F:KF R):St→Option R:=Bk (C7 N) [] N (Fi N F [1,1,1,1,1,1,1,1,1,1,1,1] [])
def Fk (e a b c d:LA):St:={ s:=[(7,(.optr 300000 0)),(10,(.optr 300001 0)),(11,(.optr 300002 0)),(13,(.optr 300003 0)),(15,(.optr 300004 0))],h:=[(300000,⟨false,false,true,false,0,e,false⟩),(300001,⟨false,false,true,false,0,a,false⟩),(300002,⟨false,false,true,false,0,b,false⟩),(300003,⟨false,false,true,false,0,c,false⟩),(300004,⟨false,false,true,false,0,d,false⟩)] }
def Up (N:Nat) (F:KF R):St→Option R:=Bh (C7 N) [] N (Fi N F [1,1,1,1,1,1,1,1,1,1] [])
def Uq (N:Nat) (F:KF R):St→Option R:=Bk (C7 N) [] N (Fi N F [1,1,1,1,1,1,1,1,1,1] [])
theorem Akk (N:Nat)  (F:KF R) (i j:Bool) (a b c d f g:LA):Uo N F (Fj i j a b c d f g)=(Fg N (B7 F) i j a b c d f g):=by
 have hK:Uo N F (Fj i j a b c d f g)=(Iw N (B7 F) i j a b c d f g):=by kernel_rfl
 exact hK
theorem Akl (N:Nat)  (F:KF R) (e a b c d:LA):Uq N F (Fk e a b c d)=(Ku N (B7 F) e a b c d):=by
 have e1:=funext fun i=>funext fun j=>funext fun f=>funext fun g=>(show Un N F (Fj i j a b c d f g)=_ from (Au ..).trans (Akk N F i j a b c d f g))
 have hK:Uq N F (Fk e a b c d)=(Ix N (B7 F) e a b c d (fun i j f g=>Un N F (Fj i j a b c d f g))):=by kernel_rfl
 exact hK.trans (by rw [e1];rfl)
theorem Kv (N:Nat) (m:LA) (l:Nat) (q n:Bool) (o p:Int) (F:KF R):Ac Tryz.prog muts (F7 N) Fh N 6 [(.imm m l 1 q n),(.int .i64 o),(.int .i64 p)] [] F=(Io N m l q n o p (B7 F)):=by
 have e1:=funext fun e=>funext fun a=>funext fun b=>funext fun c=>funext fun d=>(show Up N F (Fk e a b c d)=_ from (Au ..).trans (Akl N F e a b c d))
 have hK:Ac Tryz.prog muts (F7 N) Fh N 6 [(.imm m l 1 q n),(.int .i64 o),(.int .i64 p)] [] F=(M9 N (B7 F) (fun e a b c d=>Up N F (Fk e a b c d)) m l q n o p):=by kernel_rfl
 rw [Ru]
 exact hK.trans (by rw [e1];rfl)
def Ew (N:Nat) (args:List AV) (h:Al) (k:KF R):Option R :=
 match args,h with
 | [(.imm m l 1 q n),(.int .i64 o),(.int .i64 p)],[]=>(Io N m l q n o p (B7 k))
 | _,_=>none
def Ur (N:Nat):Tw:=⟨Ew N,fun args h k=>by
 unfold Ew;split
 exact twE (Kv ..) (Kv ..)
 rfl⟩
theorem Ara (N:Nat):A0 Tryz.prog 6 (Ur N):=fun args h res z hh=>by
 change Ew N args h (fun v z=>some (v,z))=_ at hh
 unfold Ew at hh;split at hh
 exact Aa (T:=F7 N) ⟨B7o N,B19 N,B9f N,Btm N,Azo N,B4e N,Amm N,Bus N,A00 N,A1q N,Btq N,A0y N,B6x N,trivial⟩ follows ((Kv ..).trans hh)
 cases hh
end
end Gx

namespace Gx
open Go Go.Proofs
section
variable {R:Type}
def cvS (s:Cf.SegD):SegD:=⟨s.width,s.price⟩
def A3k:Cf.Sl Cf.SegD→Sl SegD
  | .nil=>.nil
  | .of l t o=>.of (l.map cvS) t o
def Bky:Cf.Sl Int→Sl Int
  | .nil=>.nil
  | .of l t o=>.of l t o
def cvU (u:Cf.UnitD):UnitD:=⟨u.name,u.bus,u.min,u.max,A3k u.segs,u.noLoad,u.rampUp,u.rampDown,u.startRamp,u.stopRamp,u.upTime,u.downTime,u.startTime,u.hotCost,u.coldCost,u.hotHours,u.reserve,u.reservePrice,Bky u.away,u.state,u.hours,u.output⟩
theorem B5p:∀ l:List Cf.SegD,(l.map cvS).flatMap SegD.av=l.flatMap Cf.SegD.av
  | []=>rfl
  | a::r=>by rw [List.map_cons,List.flatMap_cons,List.flatMap_cons,B5p r];rfl
theorem B91 (s:Cf.Sl Cf.SegD):(A3k s).av 2 SegD.av=s.av 2 Cf.SegD.av:=by
  cases s with
  | nil=>rfl
  | of l t o=>simp only [A3k,Sl.av,Cf.Sl.av,B5p,List.length_map]
theorem B92 (s:Cf.Sl Int):(Bky s).av 1 intE=s.av 1 Cf.intE:=by cases s<;>rfl
theorem Cdg (u:Cf.UnitD):(cvU u).av=u.av:=by
  unfold UnitD.av Cf.UnitD.av
  rw [show (cvU u).segs=A3k u.segs from rfl,show (cvU u).away=Bky u.away from rfl,B91,B92];rfl
theorem Bwl (s:Cf.Sl Cf.SegD):(A3k s).l=s.l.map cvS:=by cases s<;>rfl
theorem B5q (s:Cf.Sl Int):(Bky s).l=s.l:=by cases s<;>rfl
theorem Bg7 (a b n:Int):Cf.btw a b n=inR a b n:=by
  rw [Bool.eq_iff_iff];simp [Cf.btw,inR]<;>omega
theorem B0l:∀ (l:List Cf.SegD) (p:Int),l.all Cf.segOk=true→Cf.ordP l=true→(∀ s ∈ l.head?,p≤s.price)→segOk p (l.map cvS)=true
  | [],_,_,_,_=>rfl
  | [a],p,h1,_,h3=>by
    simp [Cf.segOk,Bg7] at h1
    have:=h3 a (by simp)
    simp [segOk,cvS,h1,this]
  | a::b::r,p,h1,h2,h3=>by
    have h4:=h3 a (by simp)
    simp only [List.all_cons,Bool.and_eq_true] at h1
    simp only [Cf.ordP,Bool.and_eq_true] at h2
    have ih:=B0l (b::r) a.price (by simp only [List.all_cons,Bool.and_eq_true];exact h1.2) h2.2 (by intro s hs;simp at hs;subst hs;have:=h2.1;simp at this;exact this)
    have h5:=h1.1
    simp [Cf.segOk,Bg7] at h5
    rw [List.map_cons,segOk,show (cvS a).price=a.price from rfl,ih]
    simp [cvS,h5,h4]
theorem B0m:∀ (l:List Cf.SegD) (a:Int),l.all Cf.segOk=true→l.length≤100→-1000000000000≤a - 1048576*(100 - (l.length:Int))→(0≤a∧a≤1048576*(100 - (l.length:Int)))→Cf.wsum a l=a+Ao4 (l.map cvS)
  | [],a,_,_,_,_=>by simp [Cf.wsum,Ao4]
  | s::r,a,h1,h2,h3,h4=>by
    simp only [List.all_cons,Bool.and_eq_true] at h1
    have h5:=h1.1
    simp [Cf.segOk,Bg7,inR] at h5
    rw [List.length_cons] at h2 h3 h4
    rw [Cf.wsum,i64 (by omega),B0m r (a+s.width) h1.2 (by omega) (by omega) (by omega),List.map_cons,Ao4]
    simp [cvS];omega
theorem Bwm {i:Nat} {nb H c:Int} {u:Cf.UnitD} (g:Cf.UnitG i nb H u) (hH:1≤H∧H≤c) (hc:c≤24):Fo (cvU u) c=true:=by
  have e:=g
  obtain ⟨_,_,h1,h2,h3,h4,h5,h6,h7,h8,h9,h10,h11,h12,h13,h14,h15,h16,h17,h18,h19,h20,h21,h22,_,h24,h25,h26⟩:=e
  simp only [Bg7] at h1 h2 h7 h8 h9 h10 h11 h12 h13 h14 h15 h16 h17 h18 h19 h22 h24 h26
  have hw:=B0m u.segs.l 0 h4 (by omega) (by omega) (by omega)
  have hm1:=h1;have hm2:=h2
  simp only [inR,Bool.and_eq_true,decide_eq_true_eq] at hm1 hm2
  have hsum:Ao4 (cvU u).segs.l=u.max - u.min:=by
    have:Cf.wsum 0 u.segs.l=IntKind.wrap .i64 (u.max - u.min):=by simpa using h6
    rw [hw,i64 (by omega)] at this
    show Ao4 (A3k u.segs).l=_
    rw [Bwl];omega
  have hseg:segOk (-1048576) (cvU u).segs.l=true:=by
    show segOk _ (A3k u.segs).l=true
    rw [Bwl]
    refine B0l _ _ h4 h5 fun s hs=>?_
    have hs':s ∈ u.segs.l:=List.mem_of_mem_head? hs
    have:=List.all_eq_true.1 h4 s hs'
    simp [Cf.segOk,Bg7,inR] at this;omega
  have hlen:(cvU u).segs.l.length≤8:=by
    show (A3k u.segs).l.length≤8
    rw [Bwl,List.length_map];omega
  have haw:Au4 (c - 1) (-1) (cvU u).away.l=true:=by
    show Au4 _ _ (Bky u.away).l=true
    rw [B5q]
    cases hl:u.away.l with
    | nil=>rfl
    | cons x r =>
      have hr:r=[]:=by
        have:=h20;rw [hl] at this;simp at this;exact this
      subst hr
      have:=h21 x (by rw [hl];simp)
      simp [Au4,inR];omega
  have hst:Buy (cvU u)=true:=by
    unfold Buy
    show (inR 0 24 u.upTime&&(inR 0 24 u.downTime&&(inR 0 24 u.startTime&&(inR 0 24 u.hotHours&&((u.state==0||(u.state==1||u.state==2))&&(inR 1 48 u.hours&&(!(u.state==1)||decide (u.hours≤u.startTime))))))))=true
    have hs3:(u.state==0||(u.state==1||u.state==2))=true:=by
      simp only [inR,Bool.and_eq_true,decide_eq_true_eq] at h22
      simp;omega
    rw [h12,h13,h14,h17,h24,hs3]
    exact h25
  have hsB:Bu0 (cvU u)=true:=by
    unfold Bu0;rw [hseg,hsum];simp [hlen];rfl
  have hoB:Cbp (cvU u)=true:=by
    unfold Cbp
    show cond (u.state==2) (inR u.min u.max u.output) (u.output==0)=true
    cases hb:(u.state==2) with
    | true=>rw [hb] at h26;exact h26
    | false=>rw [hb] at h26;simp [inR] at h26;simp;omega
  have hmx:inR 0 1048576 u.max=true:=by simp [inR];omega
  have hle:decide (u.min≤u.max)=true:=by simp;omega
  have hcc:inR 1 24 c=true:=by simp [inR];omega
  unfold Fo
  rw [hst,haw,hsB,hoB]
  show (inR 1 24 c&&(true&&(inR 0 1048576 u.min&&(inR 0 1048576 u.max&&(inR 0 1048576 u.rampUp&&(inR 0 1048576 u.rampDown&&(inR 0 1048576 u.reserve&&(decide (u.min≤u.max)&&(inR u.min u.max u.startRamp&&(inR u.min u.max u.stopRamp&&(inR 0 1048576 u.noLoad&&(inR 0 1048576 u.hotCost&&(inR 0 1048576 u.coldCost&&(inR 0 1048576 u.reservePrice&&(true&&(true&&true))))))))))))))))=true
  rw [hcc,h1,hmx,h8,h9,h18,hle,h10,h11,h7,h15,h16,h19];rfl
theorem B7p {N:Nat} {X:Option R} {K:LA→Int→Option R} {l:List Int} {n:Nat} {t o:Bool} (hn:n=l.length) (hN:4096≤N) (hl:l.length≤9223372036854775807)
    (h:∀ (u:UnitD) (H:Int),1≤H→H≤3→Fo u H=true→Fo u 24=true→u.away.l.length≤1→K u.av H=X):Bg6 N (ints l) n t o K=X:=by
  rw [Bn9];unfold Bwi Bwh
  obtain ⟨c,hc,e⟩:=Cf.mk_Case_spec (R:=R) (N:=N) (l:=l) (n:=n) (t:=false) (o:=o) hn hN hl
  rw [show ints l=Cf.ints l from rfl,e]
  obtain ⟨H,res,bs,ls,us,ss,ts,os,hB,_,_,rfl⟩:=hc
  obtain ⟨u0,us',rfl⟩:∃ u0 us',us=u0::us':=by
    cases us with
    | nil=>have:=hB.ul;simp at this
    | cons a r=>exact ⟨a,r,rfl⟩
  have g:=hB.ug 0 (by simp)
  simp only [List.getElem_cons_zero] at g
  have hH:=hB.h
  have:=h (cvU u0) (H:Int) (by omega) (by omega) (Bwm g (by omega) (by omega)) (Bwm g (by omega) (by omega)) (by show (Bky u0.away).l.length≤1;rw [B5q];exact g.aw)
  rw [Cdg] at this
  refine Eq.trans ?_ this
  rw [show List.drop 4 (Cf.mkc false H res bs ls (u0::us') ss ts os).av=(Cf.Sl.of (u0::us') false false).av 22 Cf.UnitD.av::List.drop 5 (Cf.mkc false H res bs ls (u0::us') ss ts os).av from rfl,Cf.rdL_sl]
  rw [show (Cf.Sl.of (u0::us') false false).l=u0::us' from rfl,List.flatMap_cons,show Ak (0:Int) (u0::us').length=true from Am (i:=0) (by simp),show Nat.ble 22 (List.length (u0.av++us'.flatMap Cf.UnitD.av))=true from rfl,show List.take 22 (u0.av++us'.flatMap Cf.UnitD.av)=u0.av from rfl]
  rw [show ∀ F:Int→Option R,rdI .i64 (Cf.mkc false H res bs ls (u0::us') ss ts os).av F=F (H:Int) from fun F=>B5]
  rfl
end
end Gx

namespace Gx
open Go Go.Proofs
section
variable {R:Type}
theorem Cdh {a b:Rat} (h:0<b.num):mkRat (a.num*(b.den:Int)) (((a.den:Nat):Int)*b.num).natAbs=a/b:=by
  obtain ⟨n,hn⟩:∃ n:Nat,b.num=n:=⟨b.num.toNat,by omega⟩
  rw [Rat.div_def,Rat.inv_def,hn,Rat.divInt_ofNat,Int.natAbs_mul,Int.natAbs_natCast,Int.natAbs_natCast]
  have:=Rat.mkRat_mul_mkRat a.num (b.den:Int) a.den n
  rw [← this,Rat.mkRat_self]
theorem B7q {N:Nat} {x y:RatD} {o o':Bool} {K:LA→Option R} (hx:x.ok) (hy:y.ok) (hp:0<y.q.num) (hf:fit (16*(x.m+y.m)+80) N):A01 N x.av o y.av o' K=K (cqD (x.q/y.q)).av:=by
  have hqx:=Axk x hx
  have hqy:=Axk y hy
  have x1:=Ao8 x.q
  have x2:((x.q.den:Nat):Int).natAbs<4294967296 ^ qm x.q:=by rw [Int.natAbs_natCast];exact Ac3 _
  have y1:=Ao8 y.q
  have y2:((y.q.den:Nat):Int).natAbs<4294967296 ^ qm y.q:=by rw [Int.natAbs_natCast];exact Ac3 _
  have L1:=B6 x1
  have L2:=B6 x2
  have L3:=B6 y1
  have L4:=B6 y2
  have M1:=B6 (Ha x1 y2)
  have M4:=B6 (Ha x2 y1)
  rw [Bew];unfold Bjr Bjq
  rw [Ht,ct,Ht,ct,Db,Db,Bms];unfold Bty Btx
  simp only [Ht,Db,ct]
  rw [A2o hy (hf.le (by omega)),show (y.q.num.sign==0)=false by rw [Int.sign_eq_one_of_pos hp];rfl,cf,Ib hx (hf.le (by omega)),Bnk,ct,Py hy (hf.le (by omega)),A2n,B7e (hf.le (show (dig x.q.num.natAbs).length+(dig ((y.q.den:Nat):Int).natAbs).length≤_ by omega)),Py hx (hf.le (by omega)),Ib hy (hf.le (by omega)),Bnk,ct,A2n,B7e (hf.le (show (dig ((x.q.den:Nat):Int).natAbs).length+(dig y.q.num.natAbs).length≤_ by omega)),B0b (Int.mul_nonneg (by omega) (by omega)) (hf.le (show 4*((dig (x.q.num*((y.q.den:Nat):Int)).natAbs).length+(dig (((x.q.den:Nat):Int)*y.q.num).natAbs).length)+10≤_ by omega))]
  rw [Cdh hp]
  rfl
end
end Gx

namespace Gx
open Go Go.Proofs
def hiS:Rat→List SegD→Bool×Rat
  | _,[]=>(false,0)
  | t,s::r=>cond (decide (0≤t)&&decide (t<(s.width:Rat))) (true,(s.price:Rat)) (hiS (t - (s.width:Rat)) r)
def loS:Rat→List SegD→Bool×Rat
  | _,[]=>(false,0)
  | t,s::r=>cond (decide (0<t)&&decide (t≤(s.width:Rat))) (true,(s.price:Rat)) (loS (t - (s.width:Rat)) r)
def B7r (l:List SegD):Prop:=∀ s ∈ l,(0:Rat)<(s.width:Rat)
theorem Cbg:∀ {l:List SegD} {t:Rat},B7r l→t<0→(hiS t l).1=false
  | [],_,_,_=>rfl
  | s::r,t,h,ht=>by
    rw [hiS,decide_eq_false (by grind),Bool.false_and,cond_false]
    exact Cbg (fun s hs=>h s (by simp [hs])) (by have:=h s (by simp);grind)
theorem B7s:∀ {l:List SegD} {t:Rat},B7r l→t≤0→(loS t l).1=false
  | [],_,_,_=>rfl
  | s::r,t,h,ht=>by
    rw [loS,decide_eq_false (by grind),Bool.false_and,cond_false]
    exact B7s (fun s hs=>h s (by simp [hs])) (by have:=h s (by simp);grind)
theorem Ccb {p q:Rat}:decide (Wu p q≥0)=decide (0≤p - q):=by rw [B2m,decide_eq_decide];grind
theorem Ccc {p q:Rat}:decide (Wu p q<0)=decide (p<q):=by
  rw [decide_eq_decide];unfold Wu
  by_cases h:p<q
  · simp [h]
  · rw [if_neg h];simp only [h,iff_false];split<;>omega
theorem B2w {p q:Rat}:decide (Wu p q>0)=decide (q<p):=by
  rw [decide_eq_decide];unfold Wu
  by_cases h:p<q
  · rw [if_pos h];simp;grind
  · rw [if_neg h];split<;>simp [*]
theorem A3l (a b:Int):((a+b:Int):Rat)=(a:Rat)+(b:Rat):=Rat.intCast_add a b
theorem B2x:∀ {l:List SegD} {p:Rat} {a:Int} {b:Bool} {q:Rat},B7r l→Boq p a b q l=cond (hiS (p - (a:Rat)) l).1 (hiS (p - (a:Rat)) l) (b,q)
  | [],_,_,_,_,_=>rfl
  | s::r,p,a,b,q,h=>by
    have hr:B7r r:=fun s hs=>h s (by simp [hs])
    rw [Boq,hiS,B2x hr,B2x hr,Ccb,Ccc,A3l]
    have e1:decide (p<(a:Rat)+(s.width:Rat))=decide (p - (a:Rat)<(s.width:Rat)):=by rw [decide_eq_decide];grind
    have e2:p - ((a:Rat)+(s.width:Rat))=p - (a:Rat) - (s.width:Rat):=by grind
    rw [e1,e2]
    cases hc:(decide (0≤p - (a:Rat))&&decide (p - (a:Rat)<(s.width:Rat))) with
    | true =>
      simp only [Bool.and_eq_true,decide_eq_true_eq] at hc
      have:=Cbg hr (t:=p - (a:Rat) - (s.width:Rat)) (by grind)
      simp only [cond_true,this,cond_false]
    | false=>simp only [cond_false]
theorem B2y:∀ {l:List SegD} {p:Rat} {a:Int} {b:Bool} {q:Rat},B7r l→Bxr p a b q l=cond (loS (p - (a:Rat)) l).1 (loS (p - (a:Rat)) l) (b,q)
  | [],_,_,_,_,_=>rfl
  | s::r,p,a,b,q,h=>by
    have hr:B7r r:=fun s hs=>h s (by simp [hs])
    rw [Bxr,loS,B2y hr,B2y hr,B2w,Cbd,A3l]
    have e0:decide ((a:Rat)<p)=decide (0<p - (a:Rat)):=by rw [decide_eq_decide];grind
    have e1:decide (p≤(a:Rat)+(s.width:Rat))=decide (p - (a:Rat)≤(s.width:Rat)):=by rw [decide_eq_decide];grind
    have e2:p - ((a:Rat)+(s.width:Rat))=p - (a:Rat) - (s.width:Rat):=by grind
    rw [e0,e1,e2]
    cases hc:(decide (0<p - (a:Rat))&&decide (p - (a:Rat)≤(s.width:Rat))) with
    | true =>
      simp only [Bool.and_eq_true,decide_eq_true_eq] at hc
      have:=B7s hr (t:=p - (a:Rat) - (s.width:Rat)) (by grind)
      simp only [cond_true,this,cond_false]
    | false=>simp only [cond_false]
theorem B2z {p:Int} {l:List SegD} (h:segOk p l=true):B7r l:=fun s hs=>by
  have:=B2n h s hs
  have h1:(0:Int)<s.width:=by omega
  exact Rat.intCast_pos.2 h1
theorem A5i {p:Int} {s:SegD} {r:List SegD} (h:segOk p (s::r)=true):(p:Rat)≤(s.price:Rat)∧segOk s.price r=true∧(0:Rat)<(s.width:Rat):=by
  have hw:=B2z h s (by simp)
  simp only [segOk,Bool.and_eq_true,decide_eq_true_eq] at h
  exact ⟨Rat.intCast_le_intCast.2 h.2.2.1,h.2.2.2,hw⟩
theorem A5j {w:Rat} {s:SegD} {r:List SegD} {t:Rat} (hw:w=(s.width:Rat)) (h0:0≤t) (h1:t≤w):Kg t (s::r)=(s.price:Rat)*t:=by
  subst hw
  rw [Kg]
  by_cases h2:t≤0
  · have:t=0:=Rat.le_antisymm h2 h0
    subst this;simp
  · rw [if_neg h2,if_pos h1,Rat.sub_self]
    have:Kg 0 r=0:=by cases r with
      | nil=>rfl
      | cons a b=>rw [Kg,if_pos Rat.le_refl]
    rw [this,Rat.add_zero]
theorem A5k {s:SegD} {r:List SegD} {t:Rat} (hw:(0:Rat)<(s.width:Rat)) (h1:(s.width:Rat)≤t):Kg t (s::r)=(s.price:Rat)*(s.width:Rat)+Kg (t - (s.width:Rat)) r:=by
  rw [Kg,if_neg (by grind)]
  by_cases h2:t≤(s.width:Rat)
  · have:t=(s.width:Rat):=Rat.le_antisymm h2 h1
    rw [if_pos h2,this]
  · rw [if_neg h2]
theorem B93 (l:List SegD):Kg 0 l=0:=by cases l with
  | nil=>rfl
  | cons a b=>rw [Kg,if_pos Rat.le_refl]
theorem B8t:∀ {l:List SegD} {p:Int} {t:Rat},segOk p l=true→0≤t→t≤(Ao4 l:Rat)→(p:Rat)*t≤Kg t l
  | [],p,t,_,h0,h1=>by
    have:t=0:=Rat.le_antisymm (by simpa [Ao4] using h1) h0
    subst this;simp [Kg]
  | s::r,p,t,h,h0,h1=>by
    obtain ⟨hp,hr,hw⟩:=A5i h
    by_cases h2:t≤(s.width:Rat)
    · rw [A5j rfl h0 h2];exact Rat.mul_le_mul_of_nonneg_right hp h0
    · have h3:(s.width:Rat)≤t:=by grind
      rw [A5k hw h3]
      rw [Ao4,A3l] at h1
      have ih:=B8t hr (t:=t - (s.width:Rat)) (by grind) (by grind)
      have:=Rat.mul_le_mul_of_nonneg_right hp h0
      grind
theorem Ccn:∀ {l:List SegD} {p:Int} {t:Rat},segOk p l=true→(hiS t l).1=true→(p:Rat)≤(hiS t l).2
  | [],_,_,_,h=>by cases h
  | s::r,p,t,h,ht=>by
    obtain ⟨hp,hr,hw⟩:=A5i h
    rw [hiS] at ht ⊢
    cases hc:(decide (0≤t)&&decide (t<(s.width:Rat))) with
    | true=>rw [hc] at ht;simpa using hp
    | false =>
      rw [hc] at ht
      have:=Ccn hr ht
      simp only [cond_false]
      grind
theorem Cco:∀ {l:List SegD} {p:Int} {t:Rat},segOk p l=true→(loS t l).1=true→(p:Rat)≤(loS t l).2
  | [],_,_,_,h=>by cases h
  | s::r,p,t,h,ht=>by
    obtain ⟨hp,hr,hw⟩:=A5i h
    rw [loS] at ht ⊢
    cases hc:(decide (0<t)&&decide (t≤(s.width:Rat))) with
    | true=>rw [hc] at ht;simpa using hp
    | false =>
      rw [hc] at ht
      have:=Cco hr ht
      simp only [cond_false]
      grind
theorem B5r:∀ {l:List SegD} {p:Int} {t s:Rat},segOk p l=true→0≤t→t<s→s≤(Ao4 l:Rat)→(hiS t l).1=true∧(hiS t l).2*(s - t)≤Kg s l - Kg t l
  | [],p,t,s,_,h0,h1,h2=>by simp [Ao4] at h2;grind
  | a::r,p,t,s,h,h0,h1,h2=>by
    obtain ⟨hp,hr,hw⟩:=A5i h
    rw [Ao4,A3l] at h2
    rw [hiS]
    by_cases h3:t<(a.width:Rat)
    · rw [decide_eq_true h0,decide_eq_true h3]
      refine ⟨rfl,?_⟩
      show (a.price:Rat)*(s - t)≤_
      rw [A5j rfl h0 (Rat.le_of_lt h3)]
      by_cases h4:s≤(a.width:Rat)
      · rw [A5j rfl (by grind) h4];grind
      · rw [A5k hw (by grind)]
        have:=B8t hr (t:=s - (a.width:Rat)) (by grind) (by grind)
        grind
    · rw [decide_eq_false h3,Bool.and_false,cond_false,A5k hw (show (a.width:Rat)≤t by grind),A5k hw (show (a.width:Rat)≤s by grind)]
      have ih:=B5r hr (t:=t - (a.width:Rat)) (s:=s - (a.width:Rat)) (by grind) (by grind) (by grind)
      exact ⟨ih.1,by have:=ih.2;grind⟩
theorem Bwn:∀ {l:List SegD} {p:Int} {t s:Rat},segOk p l=true→0≤s→s<t→t≤(Ao4 l:Rat)→(loS t l).1=true∧(loS t l).2*(s - t)≤Kg s l - Kg t l
  | [],p,t,s,_,h0,h1,h2=>by simp [Ao4] at h2;grind
  | a::r,p,t,s,h,h0,h1,h2=>by
    obtain ⟨hp,hr,hw⟩:=A5i h
    rw [Ao4,A3l] at h2
    rw [loS]
    by_cases h3:t≤(a.width:Rat)
    · rw [decide_eq_true (show 0<t by grind),decide_eq_true h3]
      refine ⟨rfl,?_⟩
      show (a.price:Rat)*(s - t)≤_
      rw [A5j rfl (by grind) h3,A5j rfl h0 (by grind)];grind
    · rw [decide_eq_false h3,Bool.and_false,cond_false,A5k hw (show (a.width:Rat)≤t by grind)]
      by_cases h4:(a.width:Rat)≤s
      · rw [A5k hw h4]
        have ih:=Bwn hr (t:=t - (a.width:Rat)) (s:=s - (a.width:Rat)) (by grind) (by grind) (by grind)
        exact ⟨ih.1,by have:=ih.2;grind⟩
      · have h5:s≤(a.width:Rat):=by grind
        rw [A5j rfl h0 h5]
        have ih:=Bwn hr (t:=t - (a.width:Rat)) (s:=0) Rat.le_refl (by grind) (by grind)
        refine ⟨ih.1,?_⟩
        have h6:=Cco hr ih.1
        have h7:=Rat.mul_le_mul_of_nonneg_right h6 (show 0≤(a.width:Rat) - s by grind)
        have h8:=ih.2
        rw [B93] at h8
        grind
theorem Ccp:∀ {l:List SegD} {p:Int} {t:Rat},segOk p l=true→(loS t l).1=true→(hiS t l).1=true→(loS t l).2≤(hiS t l).2
  | [],_,_,_,h,_=>by cases h
  | a::r,p,t,h,h1,h2=>by
    obtain ⟨hp,hr,hw⟩:=A5i h
    rw [loS] at h1 ⊢
    rw [hiS] at h2 ⊢
    by_cases h3:t<(a.width:Rat)
    · by_cases h4:0<t
      · rw [decide_eq_true h4,decide_eq_true (show t≤(a.width:Rat) by grind),decide_eq_true (show 0≤t by grind),decide_eq_true h3]
        exact Rat.le_refl
      · exfalso
        rw [decide_eq_false h4,Bool.false_and,cond_false,B7s (B2z hr) (by grind)] at h1;cases h1
    · rw [decide_eq_false h3,Bool.and_false,cond_false] at h2 ⊢
      by_cases h4:t≤(a.width:Rat)
      · rw [decide_eq_true (show 0<t by grind),decide_eq_true h4]
        exact Ccn hr h2
      · rw [decide_eq_false h4,Bool.and_false,cond_false] at h1 ⊢
        exact Ccp hr h1 h2
end Gx

namespace Gx
open Go Go.Proofs
set_option maxRecDepth 100000
section
variable {R:Type}
theorem Cdt {N:Nat} {x:RatD} {e:Rat} {m:Nat} {o:Bool} {K:Int→Option R} (hx:x.is e m) (hf:fit (8*m+10) N):Abv N x.av o K=K e.num.sign:=by
  rw [A2o hx.1 (hf.le (by have:=hx.2.2;omega)),hx.2.1]
def two:Rat:=((2:Int):Rat)
theorem Ccd (a:Rat):qm (a/two)≤qm a+1:=by
  have e:two⁻¹=mkRat 1 2:=by kernel_rfl
  rw [Rat.div_def,e]
  have h1:=Bvc a (mkRat 1 2)
  have h2:=B8n 1 2 1 (by decide) (by decide) (by decide)
  omega
theorem Bpw {a v:Int}:((a:Rat)≤mkRat v 2↔2*a≤v)∧(mkRat v 2≤(a:Rat)↔v≤2*a):=by
  have h1:=Bz8 (a:=v) (c:=a) (b:=2) (d:=1) (by decide) (by decide)
  have h2:=Bz8 (a:=a) (c:=v) (b:=1) (d:=2) (by decide) (by decide)
  rw [B7f] at h1 h2
  constructor
  · rw [← Rat.not_lt,h1];omega
  · rw [← Rat.not_lt,h2];omega
theorem Cbh {v:Int} (h:-9223372036854775808≤v∧v≤9223372036854775807):qm (mkRat v 2)≤2:=B8n v 2 2 (by omega) (by omega) (by omega)
section
variable {u:UnitD} {x y:Rat}
def cQ (u:UnitD) (p:Rat):Rat:=Kg (p - (u.min:Rat)) u.segs.l
theorem B20 (hv:Fo u 24=true) (hx:(u.min:Rat)≤x∧x≤(u.max:Rat)):scQ u x=cQ u x∧scE u x=0∧mgB u x=true:=by
  have hi:inQ x u.min u.max=true:=by unfold inQ;rw [decide_eq_true hx.1,decide_eq_true hx.2];rfl
  unfold scQ scE mgB cQ
  rw [hv,hi];exact ⟨rfl,rfl,rfl⟩
theorem B5s (hv:Fo u 24=true):(Ao4 u.segs.l:Rat)=(u.max:Rat) - (u.min:Rat):=by
  rw [(Ln hv).2.2,Rat.intCast_sub]
theorem Cbi (hv:Fo u 24=true) (hx:(u.min:Rat)≤x∧x≤(u.max:Rat)):mgL u x=cond (loS (x - (u.min:Rat)) u.segs.l).1 (loS (x - (u.min:Rat)) u.segs.l) (false,0)∧mgH u x=cond (hiS (x - (u.min:Rat)) u.segs.l).1 (hiS (x - (u.min:Rat)) u.segs.l) (false,0):=by
  have hw:=B2z (Ln hv).2.1
  unfold mgL mgH
  rw [(B20 hv hx).2.2,cond_true,cond_true,B2y hw,B2x hw]
  exact ⟨rfl,rfl⟩
theorem Ccq (hv:Fo u 24=true) (hx:(u.min:Rat)≤x∧x≤(u.max:Rat)) (h1:(mgL u x).1=true) (h2:(mgH u x).1=true):(mgL u x).2≤(mgH u x).2:=by
  obtain ⟨e1,e2⟩:=Cbi hv hx
  rw [e1] at h1 ⊢
  rw [e2] at h2 ⊢
  cases g1:(loS (x - (u.min:Rat)) u.segs.l).1 with
  | false=>rw [g1] at h1;cases h1
  | true =>
    cases g2:(hiS (x - (u.min:Rat)) u.segs.l).1 with
    | false=>rw [g2] at h2;cases h2
    | true=>exact Ccp (Ln hv).2.1 g1 g2
theorem Ccr (hv:Fo u 24=true) (hx:(u.min:Rat)≤x∧x≤(u.max:Rat)) (hy:(u.min:Rat)≤y∧y≤(u.max:Rat)) (h:x<y):(mgH u x).1=true∧(mgH u x).2*(y - x)≤cQ u y - cQ u x:=by
  obtain ⟨e1,e2⟩:=Cbi hv hx
  have hs:=B5s hv
  have:=B5r (Ln hv).2.1 (t:=x - (u.min:Rat)) (s:=y - (u.min:Rat)) (by grind) (by grind) (by grind)
  rw [e2,this.1,cond_true]
  refine ⟨this.1,?_⟩
  have h2:=this.2
  unfold cQ
  rw [show y - (u.min:Rat) - (x - (u.min:Rat))=y - x by grind] at h2
  exact h2
theorem Ccs (hv:Fo u 24=true) (hx:(u.min:Rat)≤x∧x≤(u.max:Rat)) (hy:(u.min:Rat)≤y∧y≤(u.max:Rat)) (h:y<x):(mgL u x).1=true∧(mgL u x).2*(y - x)≤cQ u y - cQ u x:=by
  obtain ⟨e1,e2⟩:=Cbi hv hx
  have hs:=B5s hv
  have:=Bwn (Ln hv).2.1 (t:=x - (u.min:Rat)) (s:=y - (u.min:Rat)) (by grind) (by grind) (by grind)
  rw [e1,this.1,cond_true]
  refine ⟨this.1,?_⟩
  have h2:=this.2
  unfold cQ
  rw [show y - (u.min:Rat) - (x - (u.min:Rat))=y - x by grind] at h2
  exact h2
theorem mid (x y:Rat):(x+y)/two+(x+y)/two=x+y:=by
  have:two=2:=rfl
  rw [this];grind
theorem Cdi (hv:Fo u 24=true) (hx:(u.min:Rat)≤x∧x≤(u.max:Rat)) (hy:(u.min:Rat)≤y∧y≤(u.max:Rat)):cQ u ((x+y)/two)+cQ u ((x+y)/two)≤cQ u x+cQ u y:=by
  have hm:=mid x y
  generalize (x+y)/two=m at hm
  have hmm:(u.min:Rat)≤m∧m≤(u.max:Rat):=by constructor<;>grind
  have key:∀ a b:Rat,(u.min:Rat)≤a∧a≤(u.max:Rat)→(u.min:Rat)≤b∧b≤(u.max:Rat)→m+m=a+b→a<b→cQ u m+cQ u m≤cQ u a+cQ u b:=by
    intro a b ha hb e hab
    have h1:=Ccr hv hmm hb (by grind)
    have h2:=Ccs hv hmm ha (by grind)
    have h3:=Ccq hv hmm h2.1 h1.1
    have h4:=Rat.mul_le_mul_of_nonneg_right h3 (show 0≤b - m by grind)
    have h5:a - m=-(b - m):=by grind
    have h6:=h1.2
    have h7:=h2.2
    rw [h5] at h7
    grind
  by_cases h1:x<y
  · exact key x y hx hy hm h1
  · by_cases h2:y<x
    · have:=key y x hy hx (by grind) h2
      grind
    · have e:x=y:=by grind
      subst e
      have:m=x:=by grind
      subst this
      exact Rat.le_refl
end
theorem A50 {N:Nat} {K:Bool→Option R} (hf:fit 1000000 N) {l:List Int} {t o:Bool} {a b:Int} (hl:l.length≤9223372036854775807):Io N (ints l) l.length t o a b K=K true:=by
  have hN:4096≤N:=by have:=hf.1;omega
  rw [Ru];unfold Na M9
  by_cases h200:l.length≤200
  · rw [show decide ((l.length:Int)>200)=false by simp;omega,cf]
    refine B7p rfl hN hl fun u H h1 h2 _ hv ha=>?_
    have hmm:=A5b hv
    rw [show ((Nat.beq 0 0)&&((Nat.beq (List.length u.av) 22)&&(Nat.beq 22 22)))=true from rfl,ct]
    simp only [u2,u3]
    have e1:IntKind.wrap .i64 ((IntKind.wrap .i64 ((2:Int)*(IntKind.wrap .i64 (u.max - u.min))))+(1:Int))=2*(u.max - u.min)+1:=by
      rw [i64 (a:=u.max - u.min) (by omega),i64 (a:=2*(u.max - u.min)) (by omega),i64 (by omega)]
    have ma:=B8e a (show (0:Int)<2*(u.max - u.min)+1 by omega)
    have mb:=B8e b (show (0:Int)<2*(u.max - u.min)+1 by omega)
    rw [e1,Cdl (by omega) (by omega)]
    generalize a%(2*(u.max - u.min)+1)=va at ma
    have e2:∀ v:Int,0≤v→v<2*(u.max - u.min)+1→IntKind.wrap .i64 ((IntKind.wrap .i64 ((2:Int)*u.min))+v)=2*u.min+v:=by
      intro v _ _
      rw [i64 (a:=2*u.min) (by omega),i64 (by omega)]
    rw [e2 va ma.1 ma.2,B5a (by omega) (by omega) (by omega),Cdl (by omega) (by omega)]
    generalize b%(2*(u.max - u.min)+1)=vb at mb
    rw [e2 vb mb.1 mb.2,B5a (by omega) (by omega) (by omega)]
    have hx:(u.min:Rat)≤mkRat (2*u.min+va) 2∧mkRat (2*u.min+va) 2≤(u.max:Rat):=⟨Bpw.1.2 (by omega),Bpw.2.2 (by omega)⟩
    have hy:(u.min:Rat)≤mkRat (2*u.min+vb) 2∧mkRat (2*u.min+vb) 2≤(u.max:Rat):=⟨Bpw.1.2 (by omega),Bpw.2.2 (by omega)⟩
    have qx:=Cbh (v:=2*u.min+va) (by omega)
    have qy:=Cbh (v:=2*u.min+vb) (by omega)
    rw [show ∀ v:Int,cq (mkRat v (2:Int).natAbs)=(cqD (mkRat v 2)).av from fun _=>rfl,show ∀ v:Int,cq (mkRat v (2:Int).natAbs)=(cqD (mkRat v 2)).av from fun _=>rfl]
    generalize mkRat (2*u.min+va) 2=x at hx qx
    generalize mkRat (2*u.min+vb) 2=y at hy qy
    have qs:=Bkf x y
    have qh:=Ccd (x+y)
    have hmid:=mid x y
    have hm:(u.min:Rat)≤(x+y)/two∧(x+y)/two≤(u.max:Rat):=by
      generalize (x+y)/two=m at hmid
      constructor<;>grind
    simp only [c3,b3,tk3,ct,Amu,Ws]
    have t2:(cqD ((2:Int):Rat)).is two 2:=qiI (by omega)
    rw [Cda (Adq qx) (Adq qy) (hf.le (by omega)),B0g (by omega) (by omega),B7q (B2j _) (B2j _) (by rw [B48];decide) (hf.le (by rw [B8m,B8m];have:=qi (v:=2) (by omega);omega)),B48,B48]
    rw [show (((2:Int):Rat))=two from rfl]
    simp only [c3,b3,tk3,ct]
    have ix:=B20 hv hx
    have iy:=B20 hv hy
    have im:=B20 hv hm
    refine Wv (Adq qx) (by omega) (hf.le (by omega)) (by omega) fun d1 g1=>?_
    rw [ix.2.1];rw [ix.1] at g1
    simp only [c3,b3,tk3,ct]
    refine Wv (Adq qy) (by omega) (hf.le (by omega)) (by omega) fun d2 g2=>?_
    rw [iy.2.1];rw [iy.1] at g2
    simp only [c3,b3,tk3,ct]
    refine Wv (Adq (m:=7) (by omega)) (by omega) (hf.le (by omega)) (by omega) fun d3 g3=>?_
    rw [im.2.1];rw [im.1] at g3
    simp only [c3,b3,tk3,ct]
    rw [B7m (hf.le (by omega))]
    have k1:=g1.qm;have k2:=g2.qm;have k3:=g3.qm
    rw [show ((!true)==false)=true from rfl,ct,show ((cond false true ((0:Int) != 0))==false)=true from rfl,ct,ct,ct]
    have k4:=Bkf (cQ u ((x+y)/two)) (cQ u ((x+y)/two))
    have k5:=Bkf (cQ u x) (cQ u y)
    rw [Cda g3 g3 (hf.le (by omega)),Cda g1 g2 (hf.le (by omega)),B7k (Adq (m:=2000) (by omega)) (Adq (m:=2000) (by omega)) (hf.le (by omega)),B2w,decide_eq_false (Rat.not_lt.2 (Cdi hv hx hy)),show (cond false true false)=false from rfl,cf]
    unfold Ku Ix
    simp only [b3,tk3,ct,Amu,Ws]
    refine Bnn (Adq qx) (by omega) (hf.le (by omega)) (by omega) fun lo hi hlo hhi=>?_
    simp only [c3,b3,tk3,ct]
    have fin:Fg N K (mgL u x).1 (mgH u x).1 (cqD x).av (cqD y).av d1.av d2.av lo.av hi.av=K true:=by
      unfold Fg Iw
      have k6:=Bca y x
      have k7:=Bca (cQ u y) (cQ u x)
      have k8:=Bvc (mgH u x).2 (y - x)
      have k9:=Bvc (mgL u x).2 (y - x)
      have k10:=hlo.qm;have k11:=hhi.qm
      simp only [b3,tk3,ct]
      rw [Cc9 (Adq qy) (Adq qx) (hf.le (by omega))]
      simp only [c3,b3,tk3,ct]
      have hst:(cqD (y - x)).is (y - x) 5:=Adq (by omega)
      rw [Cdt hst (hf.le (by omega)),B49,Cc9 g2 g1 (hf.le (by omega)),Cc9 g2 g1 (hf.le (by omega)),Cds hhi hst (hf.le (by omega)),Cds hlo hst (hf.le (by omega)),B7k (Adq (m:=2000) (by omega)) (Adq (m:=10) (by omega)) (hf.le (by omega)),B7k (Adq (m:=2000) (by omega)) (Adq (m:=10) (by omega)) (hf.le (by omega)),B2m,B2m]
      unfold Wu
      by_cases hlt:y<x
      · have:=Ccs hv hx hy hlt
        rw [if_pos hlt,this.1,decide_eq_true this.2];rfl
      · by_cases hgt:x<y
        · have:=Ccr hv hx hy hgt
          rw [if_neg hlt,if_pos hgt,this.1,decide_eq_true this.2];rfl
        · rw [if_neg hlt,if_neg hgt];rfl
    rw [fin]
    rw [B7k hlo hhi (hf.le (by omega)),B2w]
    cases j1:(mgL u x).1 with
    | false=>rfl
    | true =>
      cases j2:(mgH u x).1 with
      | false=>rfl
      | true=>rw [decide_eq_false (Rat.not_lt.2 (Ccq hv hx j1 j2))];rfl
  · rw [show decide ((l.length:Int)>200)=true by simp;omega];rfl
end
end Gx

namespace Gx
open Go Go.Proofs
theorem B5t {p:Int→Prop}:∀ m:List { n:Int // p n },m.flatMap (fun n=>[AV.int .i64 n.1])=ints (m.map (·.1))
  | []=>rfl
  | a::r=>by rw [List.flatMap_cons,B5t r];rfl
end Gx
