/- A part of the proof: what it holds is said by each theorem. -/
import Derived.Test.YtlkhmflligkbkaaGreatP1
set_option linter.unusedVariables false
set_option linter.defProp false
set_option linter.unusedSimpArgs false
namespace Gx
open Go Go.Proofs
open IntKind (wrap)
set_option maxRecDepth 100000
noncomputable section
variable {R:Type} (N:Nat)
def UP (k1:LA→Nat→Bool→LA→Nat→Bool→O R) (r0:Nat→LA→O R) (k2:Int→Int→O R) (l i:Int):O R :=
 (cond (i != 0) (cond (i==0) none (k2 i (Int.tmod l i))) (Ce N l (fun al am=>(r0 al am))))
def Tx (k1:LA→Nat→Bool→LA→Nat→Bool→O R) (r0:Nat→LA→O R):Nat→Int→Int→O R
 | 0,_,_=>none
 | n+1,l,i=>(UP N k1 r0 (Tx k1 r0 n) l i)
def GM (r0:Nat→LA→O R) (k1:LA→Nat→Bool→LA→Nat→Bool→O R) (q2:Int→Int→O R) (d:LA) (b:Nat) (e:Bool) (f:LA) (c:Nat) (g:Bool):O R :=
 (cond (decide (((c:Nat):Int)>0)) (cond (decide (((b:Nat):Int)≤2)) (Sb N d b false e (fun an=>(Sb N f c false g (fun ao=>(q2 an ao))))) (W7 N d b false e f c false g (fun ab=>(cond ((Nat.beq (ab.length) 5)&&((Nat.ble 5 5)&&(!false))) (An .u64 ((setCells [(.int .u64 0),(.int .u64 0),(.int .u64 0),(.int .u64 0),(.bool false)] 0 ab).drop 2) fun ap=>(cond (ap==0) (Fx N d b false e f c false g (fun bl ag bm bn aq=>(k1 f c g (aq.take (ag*1)) ag false))) (ON ((setCells [(.int .u64 0),(.int .u64 0),(.int .u64 0),(.int .u64 0),(.bool false)] 0 ab).drop 4) fun ar=>(cond ar (An .u64 (setCells [(.int .u64 0),(.int .u64 0),(.int .u64 0),(.int .u64 0),(.bool false)] 0 ab) fun au=>(An .u64 ((setCells [(.int .u64 0),(.int .u64 0),(.int .u64 0),(.int .u64 0),(.bool false)] 0 ab).drop 2) fun av=>(G0 N d b false e au f c false g av (fun ah aw=>(An .u64 ((setCells [(.int .u64 0),(.int .u64 0),(.int .u64 0),(.int .u64 0),(.bool false)] 0 ab).drop 3) fun ax=>(An .u64 ((setCells [(.int .u64 0),(.int .u64 0),(.int .u64 0),(.int .u64 0),(.bool false)] 0 ab).drop 1) fun ay=>(G0 N f c false g ax d b false e ay (fun ai az=>(k1 (aw.take (ah*1)) ah false (az.take (ai*1)) ai false))))))))) (An .u64 ((setCells [(.int .u64 0),(.int .u64 0),(.int .u64 0),(.int .u64 0),(.bool false)] 0 ab).drop 2) fun ba=>(An .u64 (setCells [(.int .u64 0),(.int .u64 0),(.int .u64 0),(.int .u64 0),(.bool false)] 0 ab) fun bb=>(G0 N f c false g ba d b false e bb (fun aj bc=>(An .u64 ((setCells [(.int .u64 0),(.int .u64 0),(.int .u64 0),(.int .u64 0),(.bool false)] 0 ab).drop 1) fun bd=>(An .u64 ((setCells [(.int .u64 0),(.int .u64 0),(.int .u64 0),(.int .u64 0),(.bool false)] 0 ab).drop 3) fun be=>(G0 N d b false e bd f c false g be (fun ak bf=>(k1 (bc.take (aj*1)) aj false (bf.take (ak*1)) ak false))))))))))))) none)))) (C_ N d b false e (fun bg bh=>(r0 bg bh))))
def Fy (r0:Nat→LA→O R):Nat→LA→Nat→Bool→LA→Nat→Bool→O R
 | 0,_,_,_,_,_,_=>none
 | n+1,d,b,e,f,c,g=>(GM N r0 (Fy r0 n) (fun l i=>(Tx N (Fy r0 n) r0 N l i)) d b e f c g)
def nN (N:Nat) (r0:Nat→LA→O R) (q1:LA→Nat→Bool→LA→Nat→Bool→O R) (m:LA) (o:Nat) (p:Bool) (q:LA) (r:Nat) (s:Bool):O R :=
 (q1 m o p q r s)
def iE (r0:Nat→LA→O R) (m:LA) (o:Nat) (p:Bool) (q:LA) (r:Nat) (s:Bool):O R:=(nN N r0 (fun d b e f c g=>(Fy N r0 N d b e f c g)) m o p q r s)
def Ab6 (r0:Nat→LA→O R) (q0:LA→Nat→Bool→LA→Nat→Bool→O R) (v:LA) (w:Nat) (x t:Bool) (y:LA) (z:Nat) (aa u:Bool):O R :=
 (Cq N v w x t (fun ac ad=>(Cq N y z aa u (fun ae af=>(El N ac ad false t ae af false u (fun bi=>(cond (decide (bi<0)) (q0 ae af u ac ad t) (q0 ac ad t ae af u))))))))
def eC:=(Af (fun (N:Nat) (v:LA) (w:Nat) (x t:Bool) (y:LA) (z:Nat) (aa u:Bool) (r0:Nat→LA→O R)=>(Ab6 N r0 (fun m o p q r s=>(iE N r0 m o p q r s)) v w x t y z aa u))).1
theorem Af4 (v w x t y z aa u r0):(@eC R N v w x t y z aa u r0)=(Ab6 N r0 (fun m o p q r s=>(iE N r0 m o p q r s)) v w x t y z aa u):=by rw[eC,(Af _).2]
def Apm:Hints:={ H:=(hS hL (hS hL (hJ [0,1] hL (hS (hS (hP [0,1] (hS hL (hS (hS (hS hL (hS (hS hL (hS (hS (hP [5,6] hL) hL) hL)) hL)) hL) hL))) hL) hL)))),nils:=[(0,1000001),(1,1000001)],modes:=[(2,1)] }
def Ayl:Ef:=[(171,Uo N),(132,Ks N),(181,mg N),(195,Amu N),(175,pw N),(196,Am2 N),(173,UM N),(149,Hi N)]
def uN (F:KF R):=Ja Tryz.f174 Apm (Ayl N) [] N F
def Nr (F:KF R):Nat→LA→O R:=(fun bj bk=>F (.own 300000 0 bj) (hq [(bQ 1 bk)]))
def A7x (l i:Int):St:=⟨[(5,(.int .u64 l)),(6,(.int .u64 i))],[]⟩
def A7y (F:KF R) (Q1:St→O R):=uN N F [1,1,1,0,0,0,1,0,0,1,0,1,0,0] [Q1]
def uO (d:LA) (b:Nat) (e:Bool) (f:LA) (c:Nat) (g:Bool):St:=⟨[(0,(.imm d b 1 false e)),(1,(.imm f c 1 false g))],[]⟩
def Apn (F:KF R):=uN N F [1,1,1,0,0] []
def A7z (m:LA) (o:Nat) (p:Bool) (q:LA) (r:Nat) (s:Bool):St:=⟨[(0,(.imm m o 1 false p)),(1,(.imm q r 1 false s))],[]⟩
def A70 (F:KF R):=uN N F [1,1,1] []
theorem qC (Q1:St→O R) (F:KF R):∀ (n:Nat) (l i:Int),Ap (A7y N F Q1) n (A7x l i)=(Tx N (fun d b e f c g=>Q1 (uO d b e f c g)) (Nr F) n l i)
 | 0,_,_=>by kernel_rfl
 | n+1,l,i=>Eq.trans (by kernel_rfl) (Bn (UP N (fun d b e f c g=>Q1 (uO d b e f c g)) (Nr F) · l i) (funext fun l=>funext fun i=>(qC Q1 F n l i)):_)
theorem qD (F:KF R):∀ (n:Nat) (d:LA) (b:Nat) (e:Bool) (f:LA) (c:Nat) (g:Bool),Ap (Apn N F) n (uO d b e f c g)=(Fy N (Nr F) n d b e f c g)
 | 0,_,_,_,_,_,_=>by kernel_rfl
 | n+1,d,b,e,f,c,g=>have e0:=(funext fun d=>funext fun b=>funext fun e=>funext fun f=>funext fun c=>funext fun g=>(qD F n d b e f c g))
  Eq.trans (by kernel_rfl) (cR (GM N (Nr F) · · d b e f c g) e0 (funext fun l=>funext fun i=>(Aj ..).trans ((qC N (Ap (Apn N F) n) F N l i).trans (Bn (Tx N · (Nr F) N l i) e0))):_)
theorem Atm (F:KF R):∀ (m:LA) (o:Nat) (p:Bool) (q:LA) (r:Nat) (s:Bool),A8 (A70 N F) (A7z m o p q r s)=(iE N (Nr F) m o p q r s):=by
 intro m o p q r s
 exact Eq.trans (by kernel_rfl) (Bn (nN N (Nr F) · m o p q r s) (funext fun d=>funext fun b=>funext fun e=>funext fun f=>funext fun c=>funext fun g=>(Aj ..).trans (qD N F N d b e f c g)):_)
theorem Apo (v:LA) (w:Nat) (x t:Bool) (y:LA) (z:Nat) (aa u:Bool) (F:KF R):Cm (Ayl N) Apm N 174 [(.imm v w 1 x t),(.imm y z 1 aa u)] [] F=(eC N v w x t y z aa u (Nr F)):=by
 rw[Af4]
 exact Eq.trans (by kernel_rfl) (Bn (Ab6 N (Nr F) · v w x t y z aa u) (funext fun m=>funext fun o=>funext fun p=>funext fun q=>funext fun r=>funext fun s=>(Ar ..).trans (Atm N F m o p q r s)):_)
def Af5 (a:LA) (h:Am) (k:KF R):O R :=
 match a,h with
 | [(.imm v w 1 x t),(.imm y z 1 aa u)],[]=>(eC N v w x t y z aa u (Nr k))
 | _,_=>none
theorem App:Ao N 174 @Af5:=by
 intro R Q a h k j;unfold Af5;split;exact Ay (Apo ..) (Apo ..) ⟨Up N,Kt N,mh N,Amv N,pz N,Am3 N,UN N,Hj N,trivial⟩;exact A0
def A71:=Az (App N)
def A72:=Cj (App N)
def nO (d:LA) (f:Bool) (g:LA) (i:Nat) (m l:Bool) (r0:LA→O R):O R :=
 (ON d fun v=>(Co 1 (d.drop 1) fun w x=>(cond (Nat.beq (d.length) 2) (pk N [(.bool v),(.imm w x 1 false f)] (f||false) (fun q c o=>(C_ N g i false l (fun e p=>(cond (((c:Nat):Int)==0) (r0 [(.bool false),.nsl,(.imm [(.int .u32 1)] 1 1 false false)]) (eC N (o.take (c*1)) c false true (p.take (e*1)) e false true (fun b n=>(cond ((((b:Nat):Int) != 1)==false) (cond (Ac 0 b) (An .u32 n fun y=>(cond (cond false true (y != 1)) (Fx N (o.take (c*1)) c false true (n.take (b*1)) b false true (fun r ae af z ag=>(Fx N (p.take (e*1)) e false true (n.take (b*1)) b false true (fun s ah ai aa aj=>(r0 [(.bool q),(.imm (z.take (r*1)) r 1 false false),(.imm (aa.take (s*1)) s 1 false false)]))))) (r0 [(.bool q),(.imm (o.take (c*1)) c 1 false false),(.imm (p.take (e*1)) e 1 false false)]))) none) (Fx N (o.take (c*1)) c false true (n.take (b*1)) b false true (fun t ak al ab am=>(Fx N (p.take (e*1)) e false true (n.take (b*1)) b false true (fun u an ao ac ap=>(r0 [(.bool q),(.imm (ab.take (t*1)) t 1 false false),(.imm (ac.take (u*1)) u 1 false false)]))))))))))))) none)))
def Qc:=(Af (@nO R)).1
theorem kV:@Qc R=@nO R:=(Af _).2
def Atn:Hints:={ H:=hL,modes:=[(3,0)],cob:=[2] }
def Aym:Ef:=[(172,A2q N),(173,UM N),(174,A71 N),(175,pw N)]
def qF (F:KF R):LA→O R:=(fun ad=>F (.pagg ad false) [])
theorem qG (d:LA) (f:Bool) (g:LA) (i:Nat) (m l:Bool) (F:KF R):Cm (Aym N) Atn N 133 [(.pagg d f),(.imm g i 1 m l)] [] F=(Qc N d f g i m l (qF F)):=by
 rw[kV]
 kernel_rfl
def kW (a:LA) (h:Am) (k:KF R):O R :=
 match a,h with
 | [(.pagg d f),(.imm g i 1 m l)],[]=>(Qc N d f g i m l (qF k))
 | _,_=>none
theorem qH:Ao N 133 @kW:=by
 intro R Q a h k j;unfold kW;split;exact Ay (qG ..) (qG ..) ⟨A2r N,UN N,A72 N,pz N,trivial⟩;exact A0
def UQ:=Az (qH N)
def UR:=Cj (qH N)
def qI (b:LA) (c:Bool) (r0:LA→O R):O R :=
 (cond (Nat.ble 3 (b.length)) (G7 N (b.take 3) c (fun f g i=>(cond i (Jc N f g (fun d=>(cond ((Nat.beq 0 0)&&((Nat.beq (d.length) 3)&&(Nat.beq 3 3))) (cond (Nat.ble 3 (d.length)) (r0 (d.take 3)) none) none))) (cond (Nat.ble 3 (b.length)) (M7 N (b.take 3) c (fun l m n o p=>(Qc N l m n o false p (fun e=>(cond ((Nat.beq 0 0)&&((Nat.beq (e.length) 3)&&(Nat.beq 3 3))) (cond (Nat.ble 3 (e.length)) (r0 (e.take 3)) none) none))))) none)))) none)
def KN:=(Af (@qI R)).1
theorem eD:@KN R=@qI R:=(Af _).2
def A73:Ef:=[(99,JU N),(131,FY N),(101,Y3 N),(133,UQ N)]
def Af6 (F:KF R):LA→O R:=(fun q=>F (.pagg q false) [])
theorem Af7 (b:LA) (c:Bool) (F:KF R):Cm (A73 N) Ou N 130 [(.pagg b c)] [] F=(KN N b c (Af6 F)):=by
 rw[eD]
 kernel_rfl
def xm (a:LA) (h:Am) (k:KF R):O R :=
 match a,h with
 | [(.pagg b c)],[]=>(KN N b c (Af6 k))
 | _,_=>none
theorem Af8:Ao N 130 @xm:=by
 intro R Q a h k j;unfold xm;split;exact Ay (Af7 ..) (Af7 ..) ⟨JV N,FZ N,Y4 N,UR N,trivial⟩;exact A0
def Af9:=Az (Af8 N)
def Aga:=Cj (Af8 N)
def GN (r0:Nat→LA→O R) (c:LA) (b:Nat) (e:Bool) (f:LA) (d:Nat) (i:Bool) (k1:Nat→Int→Int→Int→LA→O R) (m:Nat) (o p g:Int) (l:LA):O R :=
 (cond (decide (g<p)) (cond (Ac g b) (An .u32 (c.drop ((g.toNat)*1)) fun y=>(cond (decide (g<((d:Nat):Int))) (cond (Ac g d) (An .u32 (f.drop ((g.toNat)*1)) fun ab=>(cond (Ac g m) (cond ((Nat.beq 1 1)&&((Nat.ble ((0+((g.toNat)*1))+1) (l.length))&&(!false))) (k1 m (Int.fdiv (wrap .u64 ((wrap .u64 (o+(wrap .u64 y)))+(wrap .u64 ab))) (2 ^ 32)) p (wrap .i64 (g+1)) (l.set (0+((g.toNat)*1)) (.int .u32 (wrap .u32 (wrap .u64 ((wrap .u64 (o+(wrap .u64 y)))+(wrap .u64 ab))))))) none) none)) none) (cond (Ac g m) (cond ((Nat.beq 1 1)&&((Nat.ble ((0+((g.toNat)*1))+1) (l.length))&&(!false))) (k1 m (Int.fdiv (wrap .u64 (o+(wrap .u64 y))) (2 ^ 32)) p (wrap .i64 (g+1)) (l.set (0+((g.toNat)*1)) (.int .u32 (wrap .u32 (wrap .u64 (o+(wrap .u64 y))))))) none) none))) none) (cond (Ac ((b:Nat):Int) m) (cond ((Nat.beq 1 1)&&((Nat.ble ((0+(b*1))+1) (l.length))&&(!false))) (W2 N m (l.set (0+(b*1)) (.int .u32 (wrap .u32 o))) (fun ae=>(r0 ae (l.set (0+(b*1)) (.int .u32 (wrap .u32 o)))))) none) none))
def Xb (r0:Nat→LA→O R) (c:LA) (b:Nat) (e:Bool) (f:LA) (d:Nat) (i:Bool):Nat→Nat→Int→Int→Int→LA→O R
 | 0,_,_,_,_,_=>none
 | n+1,m,o,p,g,l=>(GN N r0 c b e f d i (Xb r0 c b e f d i n) m o p g l)
def nP (N:Nat) (r0:Nat→LA→O R) (q1:Nat→Int→Int→Int→LA→O R) (c:LA) (b:Nat) (e:Bool) (f:LA) (d:Nat) (i:Bool):O R :=
 (cond ((decide (0≤(wrap .i64 (((b:Nat):Int)+1))))&&((decide ((wrap .i64 (((b:Nat):Int)+1))≤(wrap .i64 (((b:Nat):Int)+1))))&&((decide ((wrap .i64 (((b:Nat):Int)+1))≤140737488355328))&&(decide (((wrap .i64 (((b:Nat):Int)+1))*((4:Nat):Int))≤140737488355328))))) (q1 ((wrap .i64 (((b:Nat):Int)+1)).toNat) 0 ((b:Nat):Int) 0 (List.replicate ((wrap .i64 (((b:Nat):Int)+1)).toNat) (.int .u32 0))) none)
def PZ (r0:Nat→LA→O R) (c:LA) (b:Nat) (e:Bool) (f:LA) (d:Nat) (i:Bool):O R:=(nP N r0 (fun m o p g l=>(Xb N r0 c b e f d i N m o p g l)) c b e f d i)
def qJ (r0:Nat→LA→O R) (q0:LA→Nat→Bool→LA→Nat→Bool→O R) (s:LA) (t:Nat) (u q:Bool) (v:LA) (w:Nat) (x r:Bool):O R :=
 (Cq N s t u q (fun ac z=>(Cq N v w x r (fun ad aa=>(cond (decide (((z:Nat):Int)<((aa:Nat):Int))) (q0 ad aa r ac z q) (q0 ac z q ad aa r))))))
def uP:=(Af (fun (N:Nat) (s:LA) (t:Nat) (u q:Bool) (v:LA) (w:Nat) (x r:Bool) (r0:Nat→LA→O R)=>(qJ N r0 (fun c b e f d i=>(PZ N r0 c b e f d i)) s t u q v w x r))).1
theorem nQ (s t u q v w x r r0):(@uP R N s t u q v w x r r0)=(qJ N r0 (fun c b e f d i=>(PZ N r0 c b e f d i)) s t u q v w x r):=by rw[uP,(Af _).2]
def Apq:Hints:={ H:=(hS hL (hS hL (hJ [0,1] hL (hS hL (hS hL (hS (hS hL (hS (hP [0,1,5,6,24,25,26] hL) hL)) hL)))))),nils:=[(4,1)],modes:=[(2,1)] }
def Ayn:Ef:=[(171,Gn N)]
def Apr (F:KF R):=Ja Tryz.f176 Apq (Ayn N) [] N F
def Xc (F:KF R):Nat→LA→O R:=(fun af ag=>F (.own 300000 0 af) (hq [(bQ 1 ag)]))
def A74 (c:LA) (b:Nat) (e:Bool) (f:LA) (d:Nat) (i:Bool) (m:Nat) (o p g:Int) (l:LA):St:=⟨[(0,(.imm c b 1 false e)),(1,(.imm f d 1 false i)),(5,(.own 300000 0 m)),(6,(.int .u64 o)),(24,(.imm c b 1 false e)),(25,(iv p)),(26,(iv g))],(hq [(bQ 1 l)])⟩
def A75 (F:KF R):=Apr N F [1,1,1,1,1,0,1,0] []
def A76 (c:LA) (b:Nat) (e:Bool) (f:LA) (d:Nat) (i:Bool):St:=⟨[(0,(.imm c b 1 false e)),(1,(.imm f d 1 false i))],[]⟩
def A77 (F:KF R):=Apr N F [1,1,1] []
theorem qK (F:KF R) (c:LA) (b:Nat) (e:Bool) (f:LA) (d:Nat) (i:Bool):∀ (n m:Nat) (o p g:Int) (l:LA),Ap (A75 N F) n (A74 c b e f d i m o p g l)=(Xb N (Xc F) c b e f d i n m o p g l)
 | 0,_,_,_,_,_=>by kernel_rfl
 | n+1,m,o,p,g,l=>Eq.trans (by kernel_rfl) (Bn (GN N (Xc F) c b e f d i · m o p g l) (funext fun m=>funext fun o=>funext fun p=>funext fun g=>funext fun l=>(qK F c b e f d i n m o p g l)):_)
theorem Ato (F:KF R):∀ (c:LA) (b:Nat) (e:Bool) (f:LA) (d:Nat) (i:Bool),A8 (A77 N F) (A76 c b e f d i)=(PZ N (Xc F) c b e f d i):=by
 intro c b e f d i
 exact Eq.trans (by kernel_rfl) (Bn (nP N (Xc F) · c b e f d i) (funext fun m=>funext fun o=>funext fun p=>funext fun g=>funext fun l=>(Aj ..).trans (qK N F c b e f d i N m o p g l)):_)
theorem Aps (s:LA) (t:Nat) (u q:Bool) (v:LA) (w:Nat) (x r:Bool) (F:KF R):Cm (Ayn N) Apq N 176 [(.imm s t 1 u q),(.imm v w 1 x r)] [] F=(uP N s t u q v w x r (Xc F)):=by
 rw[nQ]
 exact Eq.trans (by kernel_rfl) (Bn (qJ N (Xc F) · s t u q v w x r) (funext fun c=>funext fun b=>funext fun e=>funext fun f=>funext fun d=>funext fun i=>(Ar ..).trans (Ato N F c b e f d i)):_)
def Agb (a:LA) (h:Am) (k:KF R):O R :=
 match a,h with
 | [(.imm s t 1 u q),(.imm v w 1 x r)],[]=>(uP N s t u q v w x r (Xc k))
 | _,_=>none
theorem Apt:Ao N 176 @Agb:=by
 intro R Q a h k j;unfold Agb;split;exact Ay (Aps ..) (Aps ..) ⟨Gp N,trivial⟩;exact A0
def A78:=Az (Apt N)
def A79:=Cj (Apt N)
def qL (b:LA) (d:Bool) (c:LA) (e:Bool) (r0:Bool→Nat→LA→O R):O R :=
 (ON b fun o=>(ON c fun p=>(cond (o==p) (ON b fun q=>(Co 1 (b.drop 1) fun r s=>(Co 1 (c.drop 1) fun t u=>(uP N r s false d t u false e (fun f g=>(Kq N q f g (fun v=>(r0 v f g)))))))) (Co 1 (b.drop 1) fun w x=>(Co 1 (c.drop 1) fun y z=>(UO N w x false d y z false e (fun i aa l=>(cond aa (ON b fun ab=>(Kq N ab i l (fun ac=>(r0 ac i l)))) (Co 1 (c.drop 1) fun ad ae=>(Co 1 (b.drop 1) fun af ag=>(UO N ad ae false e af ag false d (fun m am n=>(ON c fun ah=>(Kq N ah m n (fun ai=>(r0 ai m n))))))))))))))))
def uQ:=(Af (@qL R)).1
theorem US:@uQ R=@qL R:=(Af _).2
def Baq:Ef:=[(176,A78 N),(148,CW N),(177,Apk N)]
def Apu (F:KF R):Bool→Nat→LA→O R:=(fun aj ak al=>F (.agg [(.bool aj),(.own 300000 0 ak)]) (hq [(bQ 1 al)]))
theorem Apv (b:LA) (d:Bool) (c:LA) (e:Bool) (F:KF R):Cm (Baq N) Dr N 134 [(.pagg b d),(.pagg c e)] [] F=(uQ N b d c e (Apu F)):=by
 rw[US]
 kernel_rfl
def Agc (a:LA) (h:Am) (k:KF R):O R :=
 match a,h with
 | [(.pagg b d),(.pagg c e)],[]=>(uQ N b d c e (Apu k))
 | _,_=>none
theorem Apw:Ao N 134 @Agc:=by
 intro R Q a h k j;unfold Agc;split;exact Ay (Apv ..) (Apv ..) ⟨A79 N,CX N,Apl N,trivial⟩;exact A0
def A8a:=Az (Apw N)
def A8b:=Cj (Apw N)
def P_ (r0:LA→O R) (d:Bool) (b:LA) (e:Bool) (c:LA):O R :=
 (cond (Nat.ble 3 (b.length)) (M7 N (b.take 3) d (fun n aa q r o=>(cond ((Nat.beq 0 0)&&((Nat.beq (n.length) 2)&&(Nat.beq 2 2))) (cond (Nat.ble 3 (c.length)) (M7 N (c.take 3) e (fun p ab t u s=>(cond ((Nat.beq 0 0)&&((Nat.beq (p.length) 2)&&(Nat.beq 2 2))) (El N q r false o t u false s (fun ah=>(cond (ah==0) (cond (Nat.ble 2 (n.length)) (cond (Nat.ble 2 (p.length)) (uQ N (n.take 2) aa (p.take 2) ab (fun ai ac aj=>(Qc N [(.bool ai),(.imm (aj.take (ac*1)) ac 1 false true)] true q r false o (fun v=>(cond ((Nat.beq 0 0)&&((Nat.beq (v.length) 3)&&(Nat.beq 3 3))) (cond (Nat.ble 3 (v.length)) (r0 (v.take 3)) none) none))))) none) none) (cond (Nat.ble 2 (n.length)) (UH N (n.take 2) aa [(.bool false),(.imm t u 1 false s)] (s||false) (fun ak ad al=>(cond (Nat.ble 2 (p.length)) (UH N (p.take 2) ab [(.bool false),(.imm q r 1 false o)] (o||false) (fun am ae an=>(uQ N [(.bool ak),(.imm (al.take (ad*1)) ad 1 false true)] true [(.bool am),(.imm (an.take (ae*1)) ae 1 false true)] true (fun ao af ap=>(NE N q r false o t u false s (fun ag aq=>(Qc N [(.bool ao),(.imm (ap.take (af*1)) af 1 false true)] true (aq.take (ag*1)) ag false true (fun w=>(cond ((Nat.beq 0 0)&&((Nat.beq (w.length) 3)&&(Nat.beq 3 3))) (cond (Nat.ble 3 (w.length)) (r0 (w.take 3)) none) none))))))))) none))) none)))) none))) none) none))) none)
def UT (r0:LA→O R) (i f l g:Int) (d:Bool) (b:LA) (e:Bool) (c:LA) (q1:O R) (m:Bool):O R :=
 (cond m (Jc N (wrap .i64 ((wrap .i64 (i*g))+(wrap .i64 (l*f)))) (wrap .i64 (f*g)) (fun x=>(cond ((Nat.beq 0 0)&&((Nat.beq (x.length) 3)&&(Nat.beq 3 3))) (cond (Nat.ble 3 (x.length)) (r0 (x.take 3)) none) none))) q1)
def Ty (r0:LA→O R) (i f l g:Int) (d:Bool) (b:LA) (e:Bool) (c:LA) (m:Bool):O R:=(UT N r0 i f l g d b e c (P_ N r0 d b e c) m)
def iF (r0:LA→O R) (q0:Int→Int→Int→Int→Bool→O R) (b:LA) (d:Bool) (c:LA) (e:Bool):O R :=
 (cond (Nat.ble 3 (b.length)) (Sa N (b.take 3) d (fun ar=>(cond (ar==0) (cond (Nat.ble 3 (c.length)) (KN N (c.take 3) e (fun y=>(cond ((Nat.beq 0 0)&&((Nat.beq (y.length) 3)&&(Nat.beq 3 3))) (cond (Nat.ble 3 (y.length)) (r0 (y.take 3)) none) none))) none) (cond (Nat.ble 3 (c.length)) (Sa N (c.take 3) e (fun au=>(cond (au==0) (cond (Nat.ble 3 (b.length)) (KN N (b.take 3) d (fun z=>(cond ((Nat.beq 0 0)&&((Nat.beq (z.length) 3)&&(Nat.beq 3 3))) (cond (Nat.ble 3 (z.length)) (r0 (z.take 3)) none) none))) none) (cond (Nat.ble 3 (b.length)) (G7 N (b.take 3) d (fun i f av=>(cond (Nat.ble 3 (c.length)) (G7 N (c.take 3) e (fun l g aw=>(cond (av==true) (q0 i f l g (cond true aw false)) (q0 i f l g false)))) none))) none)))) none)))) none)
def N0:=(Af (fun (N:Nat) (b:LA) (d:Bool) (c:LA) (e:Bool) (r0:LA→O R)=>(iF N r0 (fun i f l g m=>(Ty N r0 i f l g d b e c m)) b d c e))).1
theorem UU (b d c e r0):(@N0 R N b d c e r0)=(iF N r0 (fun i f l g m=>(Ty N r0 i f l g d b e c m)) b d c e):=by rw[N0,(Af _).2]
def Apx:Hints:={ H:=(hS hL (hS hL (hS hL (hS hL (hS hL (hJ [2,3,4] (hJ [2,3,4,5,6,8,9,41] hL hL) hL)))))),modes:=[(3,0)] }
def Ayo:Ef:=[(95,UD N),(130,Af9 N),(99,JU N),(131,FY N),(101,Y3 N),(132,Ks N),(134,A8a N),(133,UQ N),(103,tj N),(135,h_ N)]
def Apy (F:KF R):=Ja Tryz.f81 Apx (Ayo N) [] N F
def EE (F:KF R):LA→O R:=(fun ax=>F (.pagg ax false) [])
def A8c (d:Bool) (b:LA) (e:Bool) (c:LA):St:=⟨[(2,(op 0)),(3,(op 1)),(4,(op 2))],(hq [(bP d 0 b),(bP e 0 c),⟨false,false,false,false,0,[(.bool false),.nsl,.nsl],false⟩])⟩
def A8d (F:KF R):=Apy N F [1,1,1,1,1,1] []
def A8e (i f l g:Int) (d:Bool) (b:LA) (e:Bool) (c:LA) (m:Bool):St:=⟨[(2,(op 0)),(3,(op 1)),(4,(op 2)),(5,(iv i)),(6,(iv f)),(8,(iv l)),(9,(iv g)),(41,(.bool m))],(hq [(bP d 0 b),(bP e 0 c),⟨false,false,false,false,0,[(.bool false),.nsl,.nsl],false⟩])⟩
def A8f (F:KF R):=Apy N F [1,1,1,1,1,0,1] []
theorem Atp (F:KF R) (d:Bool) (b:LA) (e:Bool) (c:LA):A8 (A8d N F) (A8c d b e c)=(P_ N (EE F) d b e c):=by
 kernel_rfl
theorem Atq (F:KF R) (i f l g:Int) (d:Bool) (b:LA) (e:Bool) (c:LA):∀ (m:Bool),A8 (A8f N F) (A8e i f l g d b e c m)=(Ty N (EE F) i f l g d b e c m):=by
 intro m
 exact Eq.trans (by kernel_rfl) (Bn (UT N (EE F) i f l g d b e c · m) ((Ar ..).trans (Atp N F d b e c)):_)
theorem Apz (b:LA) (d:Bool) (c:LA) (e:Bool) (F:KF R):Cm (Ayo N) Apx N 81 [(.pagg b d),(.pagg c e)] [] F=(N0 N b d c e (EE F)):=by
 rw[UU]
 exact Eq.trans (by kernel_rfl) (Bn (iF N (EE F) · b d c e) (funext fun i=>funext fun f=>funext fun l=>funext fun g=>funext fun m=>(Ar ..).trans (Atq N F i f l g d b e c m)):_)
def Agd (a:LA) (h:Am) (k:KF R):O R :=
 match a,h with
 | [(.pagg b d),(.pagg c e)],[]=>(N0 N b d c e (EE k))
 | _,_=>none
theorem Ap0:Ao N 81 @Agd:=by
 intro R Q a h k j;unfold Agd;split;exact Ay (Apz ..) (Apz ..) ⟨UE N,Aga N,JV N,FZ N,Y4 N,Kt N,A8b N,UR N,tn N,iA N,trivial⟩;exact A0
def EF:=Az (Ap0 N)
def EG:=Cj (Ap0 N)
def Atr (b:LA) (c:Bool) (d:LA) (e:Bool) (r0:LA→O R):O R :=
 (ON b fun g=>(Co 1 (b.drop 1) fun i l=>(Co 1 (b.drop 2) fun m n=>(cond (Nat.beq (b.length) 3) (ON d fun o=>(Co 1 (d.drop 1) fun p q=>(Co 1 (d.drop 2) fun r s=>(cond (Nat.beq (d.length) 3) (N0 N [(.bool g),(.imm i l 1 false c),(.imm m n 1 false c)] (c||(c||false)) [(.bool (!o)),(.imm p q 1 false e),(.imm r s 1 false e)] (e||(e||false)) (fun f=>(cond ((Nat.beq 0 0)&&((Nat.beq (f.length) 3)&&(Nat.beq 3 3))) (cond (Nat.ble 3 (f.length)) (r0 (f.take 3)) none) none))) none)))) none))))
def GO:=(Af (@Atr R)).1
theorem Age:@GO R=@Atr R:=(Af _).2
def A8g:Hints:={ H:=hL,modes:=[(3,0)],cob:=[2,3] }
def Bar:Ef:=[(81,EF N)]
def Ap1 (F:KF R):LA→O R:=(fun t=>F (.pagg t false) [])
theorem Ap2 (b:LA) (c:Bool) (d:LA) (e:Bool) (F:KF R):Cm (Bar N) A8g N 83 [(.pagg b c),(.pagg d e)] [] F=(GO N b c d e (Ap1 F)):=by
 rw[Age]
 kernel_rfl
def Agf (a:LA) (h:Am) (k:KF R):O R :=
 match a,h with
 | [(.pagg b c),(.pagg d e)],[]=>(GO N b c d e (Ap1 k))
 | _,_=>none
theorem Ap3:Ao N 83 @Agf:=by
 intro R Q a h k j;unfold Agf;split;exact Ay (Ap2 ..) (Ap2 ..) ⟨EG N,trivial⟩;exact A0
def uS:=Az (Ap3 N)
def uT:=Cj (Ap3 N)
def Ab7 (b:LA) (d:Bool) (c:LA) (e:Bool) (r0:LA→O R):O R :=
 (cond (Nat.ble 3 (b.length)) (cond (Nat.ble 3 (c.length)) (Fu N (b.take 3) d (c.take 3) e (fun i=>(cond (decide (i≤0)) (cond (Nat.ble 3 (b.length)) (KN N (b.take 3) d (fun f=>(cond ((Nat.beq 0 0)&&((Nat.beq (f.length) 3)&&(Nat.beq 3 3))) (cond (Nat.ble 3 (f.length)) (r0 (f.take 3)) none) none))) none) (cond (Nat.ble 3 (c.length)) (KN N (c.take 3) e (fun g=>(cond ((Nat.beq 0 0)&&((Nat.beq (g.length) 3)&&(Nat.beq 3 3))) (cond (Nat.ble 3 (g.length)) (r0 (g.take 3)) none) none))) none)))) none) none)
def uU:=(Af (@Ab7 R)).1
theorem nR:@uU R=@Ab7 R:=(Af _).2
def Bas:Ef:=[(59,Rl N),(130,Af9 N)]
def Ap4 (F:KF R):LA→O R:=(fun l=>F (.pagg l false) [])
theorem Ap5 (b:LA) (d:Bool) (c:LA) (e:Bool) (F:KF R):Cm (Bas N) Ou N 96 [(.pagg b d),(.pagg c e)] [] F=(uU N b d c e (Ap4 F)):=by
 rw[nR]
 kernel_rfl
def Agg (a:LA) (h:Am) (k:KF R):O R :=
 match a,h with
 | [(.pagg b d),(.pagg c e)],[]=>(uU N b d c e (Ap4 k))
 | _,_=>none
theorem Ap6:Ao N 96 @Agg:=by
 intro R Q a h k j;unfold Agg;split;exact Ay (Ap5 ..) (Ap5 ..) ⟨Rm N,Aga N,trivial⟩;exact A0
def A8h:=Az (Ap6 N)
def A8i:=Cj (Ap6 N)
def P' (r0:LA→O R) (d:Bool) (b:LA) (e:Bool) (c:LA):O R :=
 (cond (Nat.ble 3 (b.length)) (M7 N (b.take 3) d (fun f o p q r=>(cond ((Nat.beq 0 0)&&((Nat.beq (f.length) 2)&&(Nat.beq 2 2))) (cond (Nat.ble 3 (c.length)) (M7 N (c.take 3) e (fun g s t u v=>(cond ((Nat.beq 0 0)&&((Nat.beq (g.length) 2)&&(Nat.beq 2 2))) (cond (Nat.ble 2 (f.length)) (cond (Nat.ble 2 (g.length)) (UH N (f.take 2) o (g.take 2) s (fun w m x=>(NE N p q false r t u false v (fun n y=>(Qc N [(.bool w),(.imm (x.take (m*1)) m 1 false true)] true (y.take (n*1)) n false true (fun i=>(cond ((Nat.beq 0 0)&&((Nat.beq (i.length) 3)&&(Nat.beq 3 3))) (cond (Nat.ble 3 (i.length)) (r0 (i.take 3)) none) none))))))) none) none) none))) none) none))) none)
def iG (r0:LA→O R) (q0:O R) (b:LA) (d:Bool) (c:LA) (e:Bool):O R :=
 (cond (Nat.ble 3 (b.length)) (G7 N (b.take 3) d (fun z aa ab=>(cond (Nat.ble 3 (c.length)) (G7 N (c.take 3) e (fun ac ad ae=>(cond (ab==true) (cond (cond true ae false) (Jc N (wrap .i64 (z*ac)) (wrap .i64 (aa*ad)) (fun l=>(cond ((Nat.beq 0 0)&&((Nat.beq (l.length) 3)&&(Nat.beq 3 3))) (cond (Nat.ble 3 (l.length)) (r0 (l.take 3)) none) none))) q0) q0))) none))) none)
def NI:=(Af (fun (N:Nat) (b:LA) (d:Bool) (c:LA) (e:Bool) (r0:LA→O R)=>(iG N r0 (P' N r0 d b e c) b d c e))).1
theorem UV (b d c e r0):(@NI R N b d c e r0)=(iG N r0 (P' N r0 d b e c) b d c e):=by rw[NI,(Af _).2]
def Ap7:Hints:={ H:=(hS hL (hS hL (hS hL (hJ [2,3,4] hL hL)))),modes:=[(3,0)] }
def Ayp:Ef:=[(99,JU N),(131,FY N),(101,Y3 N),(103,tj N),(135,h_ N),(133,UQ N)]
def A8j (F:KF R):=Ja Tryz.f82 Ap7 (Ayp N) [] N F
def iH (F:KF R):LA→O R:=(fun af=>F (.pagg af false) [])
def A8k (d:Bool) (b:LA) (e:Bool) (c:LA):St:=⟨[(2,(op 0)),(3,(op 1)),(4,(op 2))],(hq [(bP d 0 b),(bP e 0 c),⟨false,false,false,false,0,[(.bool false),.nsl,.nsl],false⟩])⟩
def A8l (F:KF R):=A8j N F [1,1,1,1] []
theorem Ats (F:KF R) (d:Bool) (b:LA) (e:Bool) (c:LA):A8 (A8l N F) (A8k d b e c)=(P' N (iH F) d b e c):=by
 kernel_rfl
theorem Ap8 (b:LA) (d:Bool) (c:LA) (e:Bool) (F:KF R):Cm (Ayp N) Ap7 N 82 [(.pagg b d),(.pagg c e)] [] F=(NI N b d c e (iH F)):=by
 rw[UV]
 exact Eq.trans (by kernel_rfl) (Bn (iG N (iH F) · b d c e) ((Ar ..).trans (Ats N F d b e c)):_)
def Agh (a:LA) (h:Am) (k:KF R):O R :=
 match a,h with
 | [(.pagg b d),(.pagg c e)],[]=>(NI N b d c e (iH k))
 | _,_=>none
theorem Ap9:Ao N 82 @Agh:=by
 intro R Q a h k j;unfold Agh;split;exact Ay (Ap8 ..) (Ap8 ..) ⟨JV N,FZ N,Y4 N,tn N,iA N,UR N,trivial⟩;exact A0
def Aqa:=Az (Ap9 N)
def Aqb:=Cj (Ap9 N)
def uV (b:LA) (c:Bool) (r0:LA→O R):O R :=
 (cond (Nat.ble 2 (b.length)) (Co 1 (b.drop 2) fun e f=>(Rf N (b.take 2) c [(.bool false),(.imm e f 1 false c)] (c||false) (fun d=>(cond ((Nat.beq 0 0)&&((Nat.beq (d.length) 3)&&(Nat.beq 3 3))) (cond (Nat.ble 3 (d.length)) (r0 (d.take 3)) none) none)))) none)
def U0:=(Af (@uV R)).1
theorem qM:@U0 R=@uV R:=(Af _).2
def A2s:Ef:=[(54,JL N)]
def xn (F:KF R):LA→O R:=(fun g=>F (.pagg g false) [])
theorem xo (b:LA) (c:Bool) (F:KF R):Cm (A2s N) Ou N 70 [(.pagg b c)] [] F=(U0 N b c (xn F)):=by
 rw[qM]
 kernel_rfl
def qN (a:LA) (h:Am) (k:KF R):O R :=
 match a,h with
 | [(.pagg b c)],[]=>(U0 N b c (xn k))
 | _,_=>none
theorem xp:Ao N 70 @qN:=by
 intro R Q a h k j;unfold qN;split;exact Ay (xo ..) (xo ..) ⟨JM N,trivial⟩;exact A0
def KO:=Az (xp N)
def KP:=Cj (xp N)
def Agi (b:LA) (c:Bool) (r0:LA→O R):O R :=
 (cond (Nat.ble 3 (b.length)) (U0 N (b.take 3) c (fun d=>(Co 1 (d.drop 2) fun e f=>(r0 [(.bool false),(.imm e f 1 false false)])))) none)
def DA:=(Af (@Agi R)).1
theorem xq:@DA R=@Agi R:=(Af _).2
def A8m:Ef:=[(70,KO N)]
def Agj (F:KF R):LA→O R:=(fun g=>F (.pagg g false) [])
theorem Agk (b:LA) (c:Bool) (F:KF R):Cm (A8m N) Ou N 73 [(.pagg b c)] [] F=(DA N b c (Agj F)):=by
 rw[xq]
 kernel_rfl
def xr (a:LA) (h:Am) (k:KF R):O R :=
 match a,h with
 | [(.pagg b c)],[]=>(DA N b c (Agj k))
 | _,_=>none
theorem Agl:Ao N 73 @xr:=by
 intro R Q a h k j;unfold xr;split;exact Ay (Agk ..) (Agk ..) ⟨KP N,trivial⟩;exact A0
def Agm:=Az (Agl N)
def Agn:=Cj (Agl N)
def Ago (b:LA) (c:Bool) (r0:LA→O R):O R :=
 (cond (Nat.ble 3 (b.length)) (U0 N (b.take 3) c (fun e=>(cond (Nat.ble 2 (e.length)) (CV N (e.take 2) false (fun f=>(cond (Nat.ble 3 (b.length)) (DA N (b.take 3) c (fun g=>(Rf N f false g false (fun d=>(cond ((Nat.beq 0 0)&&((Nat.beq (d.length) 3)&&(Nat.beq 3 3))) (cond (Nat.ble 3 (d.length)) (r0 (d.take 3)) none) none))))) none))) none))) none)
def qO:=(Af (@Ago R)).1
theorem xt:@qO R=@Ago R:=(Af _).2
def A8n:Ef:=[(70,KO N),(92,m8 N),(73,Agm N),(54,JL N)]
def Agp (F:KF R):LA→O R:=(fun i=>F (.pagg i false) [])
theorem Agq (b:LA) (c:Bool) (F:KF R):Cm (A8n N) Ou N 74 [(.pagg b c)] [] F=(qO N b c (Agp F)):=by
 rw[xt]
 kernel_rfl
def xu (a:LA) (h:Am) (k:KF R):O R :=
 match a,h with
 | [(.pagg b c)],[]=>(qO N b c (Agp k))
 | _,_=>none
theorem Agr:Ao N 74 @xu:=by
 intro R Q a h k j;unfold xu;split;exact Ay (Agq ..) (Agq ..) ⟨KP N,m9 N,Agn N,JM N,trivial⟩;exact A0
def A2t:=Az (Agr N)
def A2u:=Cj (Agr N)
def KQ (N:Nat) (k0:Nat→Int→LA→O R) (r0:Nat→LA→O R) (d:LA) (c:Nat) (f g:Bool) (e:LA) (b:Nat) (i l:Bool) (m:Nat) (k1:Int→Int→Int→LA→O R) (o t p:Int) (s:LA):O R :=
 (cond (decide (p<((b:Nat):Int))) (cond (Ac (wrap .i64 (o+p)) m) (An .u32 (s.drop (0+(((wrap .i64 (o+p)).toNat)*1))) fun u=>(cond (Ac o c) (An .u32 (d.drop ((o.toNat)*1)) fun v=>(cond (Ac p b) (An .u32 (e.drop ((p.toNat)*1)) fun w=>(cond (Ac (wrap .i64 (o+p)) m) (cond ((Nat.beq 1 1)&&((Nat.ble ((0+(((wrap .i64 (o+p)).toNat)*1))+1) (s.length))&&(!false))) (k1 o (Int.fdiv (wrap .u64 (t+(wrap .u64 ((wrap .u64 u)+(wrap .u64 ((wrap .u64 v)*(wrap .u64 w))))))) (2 ^ 32)) (wrap .i64 (p+1)) (s.set (0+(((wrap .i64 (o+p)).toNat)*1)) (.int .u32 (wrap .u32 (wrap .u64 (t+(wrap .u64 ((wrap .u64 u)+(wrap .u64 ((wrap .u64 v)*(wrap .u64 w))))))))))) none) none)) none)) none)) none) (cond (Ac (wrap .i64 (o+((b:Nat):Int))) m) (cond ((Nat.beq 1 1)&&((Nat.ble ((0+(((wrap .i64 (o+((b:Nat):Int))).toNat)*1))+1) (s.length))&&(!false))) (k0 m (wrap .i64 (o+1)) (s.set (0+(((wrap .i64 (o+((b:Nat):Int))).toNat)*1)) (.int .u32 (wrap .u32 t)))) none) none))
def Tc (k0:Nat→Int→LA→O R) (r0:Nat→LA→O R) (d:LA) (c:Nat) (f g:Bool) (e:LA) (b:Nat) (i l:Bool) (m:Nat):Nat→Int→Int→Int→LA→O R
 | 0,_,_,_,_=>none
 | n+1,o,t,p,s=>(KQ N k0 r0 d c f g e b i l m (Tc k0 r0 d c f g e b i l m n) o t p s)
def KR (r0:Nat→LA→O R) (d:LA) (c:Nat) (f g:Bool) (e:LA) (b:Nat) (i l:Bool) (k0:Nat→Int→LA→O R) (q1:Int→Int→Int→LA→O R) (m:Nat) (q:Int) (r:LA):O R :=
 (cond (decide (q<((c:Nat):Int))) (q1 q 0 0 r) (Ek N (r.take (m*1)) m false true (fun x y=>(r0 x y))))
def L5 (r0:Nat→LA→O R) (d:LA) (c:Nat) (f g:Bool) (e:LA) (b:Nat) (i l:Bool):Nat→Nat→Int→LA→O R
 | 0,_,_,_=>none
 | n+1,m,q,r=>(KR N r0 d c f g e b i l (L5 r0 d c f g e b i l n) (fun o t p s=>(Tc N (L5 r0 d c f g e b i l n) r0 d c f g e b i l m N o t p s)) m q r)
def qP (N:Nat) (r0:Nat→LA→O R) (q0:Nat→Int→LA→O R) (d:LA) (c:Nat) (f g:Bool) (e:LA) (b:Nat) (i l:Bool):O R :=
 (cond ((decide (0≤(wrap .i64 (((c:Nat):Int)+((b:Nat):Int)))))&&((decide ((wrap .i64 (((c:Nat):Int)+((b:Nat):Int)))≤(wrap .i64 (((c:Nat):Int)+((b:Nat):Int)))))&&((decide ((wrap .i64 (((c:Nat):Int)+((b:Nat):Int)))≤140737488355328))&&(decide (((wrap .i64 (((c:Nat):Int)+((b:Nat):Int)))*((4:Nat):Int))≤140737488355328))))) (q0 ((wrap .i64 (((c:Nat):Int)+((b:Nat):Int))).toNat) 0 (List.replicate ((wrap .i64 (((c:Nat):Int)+((b:Nat):Int))).toNat) (.int .u32 0))) none)
def iI:=(Af (fun (N:Nat) (d:LA) (c:Nat) (f g:Bool) (e:LA) (b:Nat) (i l:Bool) (r0:Nat→LA→O R)=>(qP N r0 (fun m q r=>(L5 N r0 d c f g e b i l N m q r)) d c f g e b i l))).1
theorem xv (d c f g e b i l r0):(@iI R N d c f g e b i l r0)=(qP N r0 (fun m q r=>(L5 N r0 d c f g e b i l N m q r)) d c f g e b i l):=by rw[iI,(Af _).2]
def Ags:Hints:={ H:=(hS hL (hS hL (hS (hS hL (hS (hP [0,1,5,6] (hS hL (hS (hS (hS hL (hS (hS hL (hS (hP [0,1,5,6,7,8] hL) hL)) hL)) hL) hL))) hL)) hL))),nils:=[(4,1)],modes:=[(2,1)] }
def Aqc:Ef:=[(143,Hd N)]
def Agt (F:KF R):=Ja Tryz.f124 Ags (Aqc N) [] N F
def O0 (F:KF R):Nat→LA→O R:=(fun z aa=>F (.own 300000 0 z) (hq [(bQ 1 aa)]))
def A2v (d:LA) (c:Nat) (f g:Bool) (e:LA) (b:Nat) (i l:Bool) (m:Nat) (o t p:Int) (s:LA):St:=⟨[(0,(.imm d c 1 f g)),(1,(.imm e b 1 i l)),(5,(.own 300000 0 m)),(6,(iv o)),(7,(.int .u64 t)),(8,(iv p))],(hq [(bQ 1 s)])⟩
def A2w (F:KF R) (Q0:St→O R):=Agt N F [1,1,0,1,0,0,1,0,0,1,0,1,0] [Q0]
def nS (d:LA) (c:Nat) (f g:Bool) (e:LA) (b:Nat) (i l:Bool) (m:Nat) (q:Int) (r:LA):St:=⟨[(0,(.imm d c 1 f g)),(1,(.imm e b 1 i l)),(5,(.own 300000 0 m)),(6,(iv q))],(hq [(bQ 1 r)])⟩
def Agu (F:KF R):=Agt N F [1,1,0,1,0] []
theorem kX (Q0:St→O R) (F:KF R) (d:LA) (c:Nat) (f g:Bool) (e:LA) (b:Nat) (i l:Bool) (m:Nat):∀ (n:Nat) (o t p:Int) (s:LA),Ap (A2w N F Q0) n (A2v d c f g e b i l m o t p s)=(Tc N (fun m q r=>Q0 (nS d c f g e b i l m q r)) (O0 F) d c f g e b i l m n o t p s)
 | 0,_,_,_,_=>by kernel_rfl
 | n+1,o,t,p,s=>Eq.trans (by kernel_rfl) (Bn (KQ N (fun m q r=>Q0 (nS d c f g e b i l m q r)) (O0 F) d c f g e b i l m · o t p s) (funext fun o=>funext fun t=>funext fun p=>funext fun s=>(kX Q0 F d c f g e b i l m n o t p s)):_)
theorem kY (F:KF R) (d:LA) (c:Nat) (f g:Bool) (e:LA) (b:Nat) (i l:Bool):∀ (n m:Nat) (q:Int) (r:LA),Ap (Agu N F) n (nS d c f g e b i l m q r)=(L5 N (O0 F) d c f g e b i l n m q r)
 | 0,_,_,_=>by kernel_rfl
 | n+1,m,q,r=>have e0:=(funext fun m=>funext fun q=>funext fun r=>(kY F d c f g e b i l n m q r))
  Eq.trans (by kernel_rfl) (cR (KR N (O0 F) d c f g e b i l · · m q r) e0 (funext fun o=>funext fun t=>funext fun p=>funext fun s=>(Aj ..).trans ((kX N (Ap (Agu N F) n) F d c f g e b i l m N o t p s).trans (Bn (Tc N · (O0 F) d c f g e b i l m N o t p s) e0))):_)
theorem Agv (d:LA) (c:Nat) (f g:Bool) (e:LA) (b:Nat) (i l:Bool) (F:KF R):Cm (Aqc N) Ags N 124 [(.imm d c 1 f g),(.imm e b 1 i l)] [] F=(iI N d c f g e b i l (O0 F)):=by
 rw[xv]
 exact Eq.trans (by kernel_rfl) (Bn (qP N (O0 F) · d c f g e b i l) (funext fun m=>funext fun q=>funext fun r=>(Aj ..).trans (kY N F d c f g e b i l N m q r)):_)
def xw (a:LA) (h:Am) (k:KF R):O R :=
 match a,h with
 | [(.imm d c 1 f g),(.imm e b 1 i l)],[]=>(iI N d c f g e b i l (O0 k))
 | _,_=>none
theorem Agw:Ao N 124 @xw:=by
 intro R Q a h k j;unfold xw;split;exact Ay (Agv ..) (Agv ..) ⟨He N,trivial⟩;exact A0
def A2x:=Az (Agw N)
def A2y:=Cj (Agw N)
def Agx (b:LA) (d:Bool) (c:LA) (e:Bool) (r0:LA→O R):O R :=
 (ON b fun i=>(ON c fun l=>(Co 1 (b.drop 1) fun m n=>(Co 1 (c.drop 1) fun o p=>(iI N m n false d o p false e (fun g q=>(G6 N (!(i==l)) (q.take (g*1)) g false true (fun f=>(cond ((Nat.beq 0 0)&&((Nat.beq (f.length) 2)&&(Nat.beq 2 2))) (cond (Nat.ble 2 (f.length)) (r0 (f.take 2)) none) none)))))))))
def KS:=(Af (@Agx R)).1
theorem xx:@KS R=@Agx R:=(Af _).2
def A8o:Ef:=[(124,A2x N),(93,Lh N)]
def Agy (F:KF R):LA→O R:=(fun r=>F (.pagg r false) [])
theorem Agz (b:LA) (d:Bool) (c:LA) (e:Bool) (F:KF R):Cm (A8o N) Ou N 72 [(.pagg b d),(.pagg c e)] [] F=(KS N b d c e (Agy F)):=by
 rw[xx]
 kernel_rfl
def xy (a:LA) (h:Am) (k:KF R):O R :=
 match a,h with
 | [(.pagg b d),(.pagg c e)],[]=>(KS N b d c e (Agy k))
 | _,_=>none
theorem Ag0:Ao N 72 @xy:=by
 intro R Q a h k j;unfold xy;split;exact Ay (Agz ..) (Agz ..) ⟨A2y N,Li N,trivial⟩;exact A0
def A2z:=Az (Ag0 N)
def A20:=Cj (Ag0 N)
def Ag1 (b:LA) (d:Bool) (c:LA) (e:Bool) (r0:LA→O R):O R :=
 (cond (Nat.ble 3 (b.length)) (U0 N (b.take 3) d (fun f=>(cond (Nat.ble 3 (c.length)) (U0 N (c.take 3) e (fun g=>(cond ((Nat.beq 0 0)&&((Nat.beq (f.length) 3)&&(Nat.beq 3 3))) (cond ((Nat.beq 0 0)&&((Nat.beq (g.length) 3)&&(Nat.beq 3 3))) (cond (Nat.ble 2 (f.length)) (cond (Nat.ble 3 (c.length)) (DA N (c.take 3) e (fun l=>(KS N (f.take 2) false l false (fun m=>(cond (Nat.ble 2 (g.length)) (cond (Nat.ble 3 (b.length)) (DA N (b.take 3) d (fun n=>(KS N (g.take 2) false n false (fun o=>(CU N m false o false (fun p=>(cond (Nat.ble 3 (b.length)) (DA N (b.take 3) d (fun q=>(cond (Nat.ble 3 (c.length)) (DA N (c.take 3) e (fun r=>(KS N q false r false (fun s=>(Rf N p false s false (fun i=>(cond ((Nat.beq 0 0)&&((Nat.beq (i.length) 3)&&(Nat.beq 3 3))) (cond (Nat.ble 3 (i.length)) (r0 (i.take 3)) none) none))))))) none))) none))))))) none) none))))) none) none) none) none))) none))) none)
def X4:=(Af (@Ag1 R)).1
theorem xz:@X4 R=@Ag1 R:=(Af _).2
def A8p:Ef:=[(70,KO N),(73,Agm N),(72,A2z N),(71,mZ N),(54,JL N)]
def Ag2 (F:KF R):LA→O R:=(fun t=>F (.pagg t false) [])
theorem Ag3 (b:LA) (d:Bool) (c:LA) (e:Bool) (F:KF R):Cm (A8p N) Ou N 32 [(.pagg b d),(.pagg c e)] [] F=(X4 N b d c e (Ag2 F)):=by
 rw[xz]
 kernel_rfl
def yA (a:LA) (h:Am) (k:KF R):O R :=
 match a,h with
 | [(.pagg b d),(.pagg c e)],[]=>(X4 N b d c e (Ag2 k))
 | _,_=>none
theorem Ag4:Ao N 32 @yA:=by
 intro R Q a h k j;unfold yA;split;exact Ay (Ag3 ..) (Ag3 ..) ⟨KP N,Agn N,A20 N,m7 N,JM N,trivial⟩;exact A0
def Ag5:=Az (Ag4 N)
def Ag6:=Cj (Ag4 N)
def Ag7 (b:LA) (d:Bool) (c:LA) (e:Bool) (r0:LA→O R):O R :=
 (cond (Nat.ble 3 (b.length)) (cond (Nat.ble 3 (c.length)) (qO N (c.take 3) e (fun g=>(X4 N (b.take 3) d g false (fun f=>(cond ((Nat.beq 0 0)&&((Nat.beq (f.length) 3)&&(Nat.beq 3 3))) (cond (Nat.ble 3 (f.length)) (r0 (f.take 3)) none) none))))) none) none)
def qQ:=(Af (@Ag7 R)).1
theorem yB:@qQ R=@Ag7 R:=(Af _).2
def A8q:Ef:=[(74,A2t N),(32,Ag5 N)]
def Ag8 (F:KF R):LA→O R:=(fun i=>F (.pagg i false) [])
theorem Ag9 (b:LA) (d:Bool) (c:LA) (e:Bool) (F:KF R):Cm (A8q N) Ou N 33 [(.pagg b d),(.pagg c e)] [] F=(qQ N b d c e (Ag8 F)):=by
 rw[yB]
 kernel_rfl
def yC (a:LA) (h:Am) (k:KF R):O R :=
 match a,h with
 | [(.pagg b d),(.pagg c e)],[]=>(qQ N b d c e (Ag8 k))
 | _,_=>none
theorem Aha:Ao N 33 @yC:=by
 intro R Q a h k j;unfold yC;split;exact Ay (Ag9 ..) (Ag9 ..) ⟨A2u N,Ag6 N,trivial⟩;exact A0
def A21:=Az (Aha N)
def A22:=Cj (Aha N)
def uW (b:LA) (c:Bool) (r0:Int→O R):O R :=
 (cond (Nat.ble 3 (b.length)) (U0 N (b.take 3) c (fun d=>(cond (Nat.ble 2 (d.length)) (FE N (d.take 2) false (fun e=>(r0 e))) none))) none)
def GP:=(Af (@uW R)).1
theorem qS:@GP R=@uW R:=(Af _).2
def A23:Ef:=[(70,KO N),(75,w_ N)]
def yD (F:KF R):Int→O R:=(fun f=>F (iv f) [])
theorem yE (b:LA) (c:Bool) (F:KF R):Cm (A23 N) Dr N 34 [(.pagg b c)] [] F=(GP N b c (yD F)):=by
 rw[qS]
 kernel_rfl
def qT (a:LA) (h:Am) (k:KF R):O R :=
 match a,h with
 | [(.pagg b c)],[]=>(GP N b c (yD k))
 | _,_=>none
theorem yF:Ao N 34 @qT:=by
 intro R Q a h k j;unfold qT;split;exact Ay (yE ..) (yE ..) ⟨KP N,wc N,trivial⟩;exact A0
def yG:=Az (yF N)
def yH:=Cj (yF N)
def UW (b:LA) (d:Bool) (c:LA) (e:Bool) (r0:Int→O R):O R :=
 (cond (Nat.ble 3 (b.length)) (cond (Nat.ble 3 (c.length)) (qQ N (b.take 3) d (c.take 3) e (fun f=>(GP N f false (fun g=>(r0 g))))) none) none)
def Jf:=(Af (@UW R)).1
theorem YK:@Jf R=@UW R:=(Af _).2
def Am4:Ef:=[(33,A21 N),(34,yG N)]
def eE (F:KF R):Int→O R:=(fun i=>F (iv i) [])
theorem eF (b:LA) (d:Bool) (c:LA) (e:Bool) (F:KF R):Cm (Am4 N) Dr N 25 [(.pagg b d),(.pagg c e)] [] F=(Jf N b d c e (eE F)):=by
 rw[YK]
 kernel_rfl
def YL (a:LA) (h:Am) (k:KF R):O R :=
 match a,h with
 | [(.pagg b d),(.pagg c e)],[]=>(Jf N b d c e (eE k))
 | _,_=>none
theorem eG:Ao N 25 @YL:=by
 intro R Q a h k j;unfold YL;split;exact Ay (eF ..) (eF ..) ⟨A22 N,yH N,trivial⟩;exact A0
def eH:=Az (eG N)
def eI:=Cj (eG N)
end
end Gx

namespace Gx
open Go Go.Proofs
open IntKind (wrap)
set_option maxRecDepth 100000
noncomputable section
variable {R:Type} (N:Nat)
def nT (b:LA) (c:Bool) (d e:Int) (r0:Bool→O R):O R :=
 (cond (Nat.ble 3 (b.length)) (B6 N d (fun f=>(Fu N (b.take 3) c f false (fun g=>(cond ((decide (g≥0))==true) (cond (Nat.ble 3 (b.length)) (B6 N e (fun i=>(Fu N (b.take 3) c i false (fun l=>(r0 (cond true (decide (l≤0)) false)))))) none) (r0 false)))))) none)
def Xd:=(Af (@nT R)).1
theorem kZ:@Xd R=@nT R:=(Af _).2
def Ayq:Ef:=[(60,F7 N),(59,Rl N)]
def qU (F:KF R):Bool→O R:=(fun m=>F (.bool m) [])
theorem qV (b:LA) (c:Bool) (d e:Int) (F:KF R):Cm (Ayq N) Dr N 56 [(.pagg b c),(iv d),(iv e)] [] F=(Xd N b c d e (qU F)):=by
 rw[kZ]
 kernel_rfl
def k8 (a:LA) (h:Am) (k:KF R):O R :=
 match a,h with
 | [(.pagg b c),(.int .i64 d),(.int .i64 e)],[]=>(Xd N b c d e (qU k))
 | _,_=>none
theorem qW:Ao N 56 @k8:=by
 intro R Q a h k j;unfold k8;split;exact Ay (qV ..) (qV ..) ⟨F8 N,Rm N,trivial⟩;exact A0
def UX:=Az (qW N)
def UY:=Cj (qW N)
def iJ (c:Int) (b:LA) (d:Bool) (r0:LA→O R):O R :=
 (B6 N c (fun f=>(cond (Nat.ble 3 (b.length)) (NI N f false (b.take 3) d (fun e=>(cond ((Nat.beq 0 0)&&((Nat.beq (e.length) 3)&&(Nat.beq 3 3))) (cond (Nat.ble 3 (e.length)) (r0 (e.take 3)) none) none))) none)))
def QA:=(Af (@iJ R)).1
theorem UZ:@QA R=@iJ R:=(Af _).2
def A24:Ef:=[(60,F7 N),(82,Aqa N)]
def yI (F:KF R):LA→O R:=(fun g=>F (.pagg g false) [])
theorem yJ (c:Int) (b:LA) (d:Bool) (F:KF R):Cm (A24 N) Ou N 86 [(iv c),(.pagg b d)] [] F=(QA N c b d (yI F)):=by
 rw[UZ]
 kernel_rfl
def qX (a:LA) (h:Am) (k:KF R):O R :=
 match a,h with
 | [(.int .i64 c),(.pagg b d)],[]=>(QA N c b d (yI k))
 | _,_=>none
theorem yK:Ao N 86 @qX:=by
 intro R Q a h k j;unfold qX;split;exact Ay (yJ ..) (yJ ..) ⟨F8 N,Aqb N,trivial⟩;exact A0
def yL:=Az (yK N)
def yM:=Cj (yK N)
def L6 (r0:LA→O R) (f:LA) (g:Nat) (c:Bool) (k0:Int→Int→LA→LA→O R) (i d:Int) (e b:LA):O R :=
 (cond (decide (d<i)) (cond (Ac d g) (cond (Nat.ble 2 ((f.drop ((d.toNat)*2)).length)) (cond ((!c)||(Ba ((f.drop ((d.toNat)*2)).take 2))) (cond ((Nat.beq (((f.drop ((d.toNat)*2)).take 2).length) 2)&&((Nat.ble 2 2)&&(!false))) (cond (Nat.ble 3 (e.length)) (Sa N (e.take 3) false (fun u=>(cond (decide (u≤0)) (cond (Nat.ble 3 (b.length)) (cond ((Nat.beq 0 0)&&((Nat.beq ((b.take 3).length) 3)&&(Nat.beq 3 3))) (cond (Nat.ble 3 ((b.take 3).length)) (r0 ((b.take 3).take 3)) none) none) none) (cond (Nat.ble 3 (e.length)) (An .i64 (setCells [(.int .i64 0),(.int .i64 0)] 0 ((f.drop ((d.toNat)*2)).take 2)) fun v=>(B6 N v (fun w=>(uU N (e.take 3) false w false (fun p=>(cond ((Nat.beq 0 0)&&((Nat.beq (p.length) 3)&&(Nat.beq 3 3))) (cond (Nat.ble 3 (b.length)) (An .i64 ((setCells [(.int .i64 0),(.int .i64 0)] 0 ((f.drop ((d.toNat)*2)).take 2)).drop 1) fun x=>(cond (Nat.ble 3 (p.length)) (QA N x (p.take 3) false (fun y=>(N0 N (b.take 3) false y false (fun q=>(cond ((Nat.beq (q.length) 3)&&((Nat.ble 3 (b.length))&&(!false))) (cond (Nat.ble 3 (e.length)) (cond (Nat.ble 3 (p.length)) (GO N (e.take 3) false (p.take 3) false (fun r=>(cond ((Nat.beq (r.length) 3)&&((Nat.ble 3 (e.length))&&(!false))) (k0 i (wrap .i64 (d+1)) (setCells e 0 r) (setCells b 0 q)) none))) none) none) none))))) none)) none) none)))))) none)))) none) none) none) none) none) (cond (Nat.ble 3 (b.length)) (cond ((Nat.beq 0 0)&&((Nat.beq ((b.take 3).length) 3)&&(Nat.beq 3 3))) (cond (Nat.ble 3 ((b.take 3).length)) (r0 ((b.take 3).take 3)) none) none) none))
def E7 (r0:LA→O R) (f:LA) (g:Nat) (c:Bool):Nat→Int→Int→LA→LA→O R
 | 0,_,_,_,_=>none
 | n+1,i,d,e,b=>(L6 N r0 f g c (E7 r0 f g c n) i d e b)
def Sc (r0:LA→O R) (q0:LA→Nat→Int→Int→LA→LA→O R) (l:LA) (c:Bool) (m:LA) (o:Bool):O R :=
 (cond (Nat.ble 3 (m.length)) (An .i64 (l.drop 2) fun z=>(B6 N z (fun aa=>(GO N (m.take 3) o aa false (fun s=>(cond ((Nat.beq 0 0)&&((Nat.beq (s.length) 3)&&(Nat.beq 3 3))) (B6 N 0 (fun t=>(cond ((Nat.beq 0 0)&&((Nat.beq (t.length) 3)&&(Nat.beq 3 3))) (Co 2 (l.drop 4) fun f g=>(q0 f g ((g:Nat):Int) 0 s t)) none))) none)))))) none)
def H6:=(Af (fun (N:Nat) (l:LA) (c:Bool) (m:LA) (o:Bool) (r0:LA→O R)=>(Sc N r0 (fun f g i d e b=>(E7 N r0 f g c N i d e b)) l c m o))).1
theorem GQ (l c m o r0):(@H6 R N l c m o r0)=(Sc N r0 (fun f g i d e b=>(E7 N r0 f g c N i d e b)) l c m o):=by rw[H6,(Af _).2]
def KT:Hints:={ H:=(hS hL (hS hL (hS hL (hS (hS hL (hS (hP [4,5,6,17,18,19] hL) hL)) hL)))),modes:=[(3,0)] }
def QB:Ef:=[(60,F7 N),(83,uS N),(95,UD N),(96,A8h N),(86,yL N),(81,EF N)]
def qY (F:KF R):=Ja Tryz.f57 KT (QB N) [] N F
def Jg (F:KF R):LA→O R:=(fun ab=>F (.pagg ab false) [])
def qZ (f:LA) (g:Nat) (c:Bool) (i d:Int) (e b:LA):St:=⟨[(4,(op 0)),(5,(op 1)),(6,(op 2)),(17,(.imm f g 2 false c)),(18,(iv i)),(19,(iv d))],(hq [⟨false,false,false,false,0,[(.bool false),.nsl,.nsl],false⟩,(bQ 0 e),(bQ 0 b)])⟩
def q_ (F:KF R):=qY N F [1,1,1,0,1,0] []
theorem Zc (F:KF R) (f:LA) (g:Nat) (c:Bool):∀ (n:Nat) (i d:Int) (e b:LA),Ap (q_ N F) n (qZ f g c i d e b)=(E7 N (Jg F) f g c n i d e b)
 | 0,_,_,_,_=>by kernel_rfl
 | n+1,i,d,e,b=>Eq.trans (by kernel_rfl) (Bn (L6 N (Jg F) f g c · i d e b) (funext fun i=>funext fun d=>funext fun e=>funext fun b=>(Zc F f g c n i d e b)):_)
theorem KU (l:LA) (c:Bool) (m:LA) (o:Bool) (F:KF R):Cm (QB N) KT N 57 [(.pagg l c),(.pagg m o)] [] F=(H6 N l c m o (Jg F)):=by
 rw[GQ]
 exact Eq.trans (by kernel_rfl) (Bn (Sc N (Jg F) · l c m o) (funext fun f=>funext fun g=>funext fun i=>funext fun d=>funext fun e=>funext fun b=>(Aj ..).trans (Zc N F f g c N i d e b)):_)
def GR (a:LA) (h:Am) (k:KF R):O R :=
 match a,h with
 | [(.pagg l c),(.pagg m o)],[]=>(H6 N l c m o (Jg k))
 | _,_=>none
theorem KV:Ao N 57 @GR:=by
 intro R Q a h k j;unfold GR;split;exact Ay (KU ..) (KU ..) ⟨F8 N,uT N,UE N,A8i N,yM N,EG N,trivial⟩;exact A0
def KW:=Az (KV N)
def KX:=Cj (KV N)
def AI (b:LA) (d:Bool) (c:LA) (e:Bool) (r0:LA→Int→O R):O R :=
 (cond (Nat.ble 22 (b.length)) (Uw N (b.take 22) d 24 (fun g=>(cond (!g) (r0 [(.bool false),.nsl,.nsl] 1) (cond (Nat.ble 3 (c.length)) (An .i64 (b.drop 2) fun i=>(An .i64 (b.drop 3) fun l=>(Xd N (c.take 3) e i l (fun m=>(cond (!m) (r0 [(.bool false),.nsl,.nsl] 3) (cond (Nat.ble 22 (b.length)) (cond (Nat.ble 3 (c.length)) (H6 N (b.take 22) d (c.take 3) e (fun f=>(cond ((Nat.beq 0 0)&&((Nat.beq (f.length) 3)&&(Nat.beq 3 3))) (cond (Nat.ble 3 (f.length)) (r0 (f.take 3) 0) none) none))) none) none)))))) none)))) none)
def O1:=(Af (@AI R)).1
theorem GS:@O1 R=@AI R:=(Af _).2
def uX:Ef:=[(16,KE N),(56,UX N),(57,KW N)]
def KY (F:KF R):LA→Int→O R:=(fun n o=>F (.tup [(.pagg n false),(iv o)]) [])
theorem KZ (b:LA) (d:Bool) (c:LA) (e:Bool) (F:KF R):Cm (uX N) Bam N 21 [(.pagg b d),(.pagg c e)] [] F=(O1 N b d c e (KY F)):=by
 rw[GS]
 kernel_rfl
def GT (a:LA) (h:Am) (k:KF R):O R :=
 match a,h with
 | [(.pagg b d),(.pagg c e)],[]=>(O1 N b d c e (KY k))
 | _,_=>none
theorem K_:Ao N 21 @GT:=by
 intro R Q a h k j;unfold GT;split;exact Ay (KZ ..) (KZ ..) ⟨KG N,UY N,KX N,trivial⟩;exact A0
def qa:=Az (K_ N)
def qb:=Cj (K_ N)
def O2 (k1:Bool→Bool→Int→Int→Int→LA→LA→O R) (r0:LA→LA→Bool→Bool→O R) (l:Bool) (s t:Int) (g:LA) (m:Nat) (d:Bool) (i e:Int) (c:Bool) (b f:LA) (u:Bool) (v:Int) (w x:LA):O R :=
 (cond ((decide (s≥0))==true) (cond (cond true (decide (t<0)) false) (An .i64 (x.drop 1) fun ab=>(B6 N ab (fun z=>(cond ((Nat.beq (z.length) 3)&&((Nat.ble 3 (f.length))&&(!false))) (k1 u true v i (wrap .i64 (e+1)) w (setCells f 0 z)) none)))) (k1 u l v i (wrap .i64 (e+1)) w f)) (k1 u l v i (wrap .i64 (e+1)) w f))
def Sd (r0:LA→LA→Bool→Bool→O R) (g:LA) (m:Nat) (d c:Bool) (b:LA) (k1:Bool→Bool→Int→Int→Int→LA→LA→O R) (q2:Int→Int→Bool→Int→LA→LA→O R) (r l:Bool) (q i e:Int) (p f:LA):O R :=
 (cond (decide (e<i)) (cond (Ac e m) (cond (Nat.ble 2 ((g.drop ((e.toNat)*2)).length)) (cond ((!d)||(Ba ((g.drop ((e.toNat)*2)).take 2))) (cond ((Nat.beq (((g.drop ((e.toNat)*2)).take 2).length) 2)&&((Nat.ble 2 2)&&(!false))) (An .i64 (setCells [(.int .i64 0),(.int .i64 0)] 0 ((g.drop ((e.toNat)*2)).take 2)) fun y=>(cond (Nat.ble 3 (b.length)) (B6 N q (fun ac=>(Fu N (b.take 3) c ac false (fun s=>(cond (Nat.ble 3 (b.length)) (B6 N (wrap .i64 (q+y)) (fun ad=>(Fu N (b.take 3) c ad false (fun t=>(cond ((decide (s>0))==true) (cond (cond true (decide (t≤0)) false) (An .i64 ((setCells [(.int .i64 0),(.int .i64 0)] 0 ((g.drop ((e.toNat)*2)).take 2)).drop 1) fun ae=>(B6 N ae (fun aa=>(cond ((Nat.beq (aa.length) 3)&&((Nat.ble 3 (p.length))&&(!false))) (q2 s t true (wrap .i64 (q+y)) (setCells p 0 aa) (setCells [(.int .i64 0),(.int .i64 0)] 0 ((g.drop ((e.toNat)*2)).take 2))) none)))) (q2 s t r (wrap .i64 (q+y)) p (setCells [(.int .i64 0),(.int .i64 0)] 0 ((g.drop ((e.toNat)*2)).take 2)))) (q2 s t r (wrap .i64 (q+y)) p (setCells [(.int .i64 0),(.int .i64 0)] 0 ((g.drop ((e.toNat)*2)).take 2)))))))) none))))) none)) none) none) none) none) (cond (Nat.ble 3 (p.length)) (cond (Nat.ble 3 (f.length)) (cond ((Nat.beq ((p.take 3).length) 3)&&((Nat.ble 3 (p.length))&&(!false))) (cond ((Nat.beq ((f.take 3).length) 3)&&((Nat.ble 3 (f.length))&&(!false))) (cond (Nat.ble 3 ((setCells p 0 (p.take 3)).length)) (cond (Nat.ble 3 ((setCells f 0 (f.take 3)).length)) (r0 ((setCells p 0 (p.take 3)).take 3) ((setCells f 0 (f.take 3)).take 3) r l) none) none) none) none) none) none))
def Gi (r0:LA→LA→Bool→Bool→O R) (g:LA) (m:Nat) (d c:Bool) (b:LA):Nat→Bool→Bool→Int→Int→Int→LA→LA→O R
 | 0,_,_,_,_,_,_,_=>none
 | n+1,r,l,q,i,e,p,f=>(Sd N r0 g m d c b (Gi r0 g m d c b n) (fun s t u v w x=>(O2 N (Gi r0 g m d c b n) r0 l s t g m d i e c b f u v w x)) r l q i e p f)
def AJ (N:Nat) (r0:LA→LA→Bool→Bool→O R) (d:Bool) (o:LA) (c:Bool) (b:LA) (q1:LA→Nat→Bool→Bool→Int→Int→Int→LA→LA→O R):O R :=
 (An .i64 (o.drop 2) fun af=>(Co 2 (o.drop 4) fun g m=>(q1 g m false false af ((m:Nat):Int) 0 [(.bool false),.nsl,.nsl] [(.bool false),.nsl,.nsl])))
def U4 (r0:LA→LA→Bool→Bool→O R) (d:Bool) (o:LA) (c:Bool) (b:LA):O R:=(AJ N r0 d o c b (fun g m r l q i e p f=>(Gi N r0 g m d c b N r l q i e p f)))
def DB (r0:LA→LA→Bool→Bool→O R) (q0:O R) (o:LA) (d:Bool) (b:LA) (c:Bool):O R :=
 (cond (Nat.ble 22 (o.length)) (Uw N (o.take 22) d 24 (fun ag=>(cond ((!ag)==false) (cond (Nat.ble 3 (b.length)) (An .i64 (o.drop 2) fun ah=>(An .i64 (o.drop 3) fun ai=>(Xd N (b.take 3) c ah ai (fun aj=>(cond (cond false true (!aj)) (r0 [(.bool false),.nsl,.nsl] [(.bool false),.nsl,.nsl] false false) q0))))) none) (r0 [(.bool false),.nsl,.nsl] [(.bool false),.nsl,.nsl] false false)))) none)
def Tz:=(Af (fun (N:Nat) (o:LA) (d:Bool) (b:LA) (c:Bool) (r0:LA→LA→Bool→Bool→O R)=>(DB N r0 (U4 N r0 d o c b) o d b c))).1
theorem YM (o d b c r0):(@Tz R N o d b c r0)=(DB N r0 (U4 N r0 d o c b) o d b c):=by rw[Tz,(Af _).2]
def eJ:Hints:={ H:=(hS hL (hJ [2,3,4,5,6,7] hL (hS hL (hS (hS hL (hS (hP [3,4,5,6,7,8,31,32,33] (hS hL (hS hL (hS (hS (hS hL (hS hL (hS hL (hS hL (hJ [3,4,5,6,7,10,11,12,13,31,32,33] hL hL))))) hL) hL)))) hL)) hL)))),modes:=[(3,0),(3,0),(0,0),(0,0)],cob:=[4,5,10] }
def k_:Ef:=[(16,KE N),(56,UX N),(60,F7 N),(59,Rl N)]
def GU (F:KF R):=Ja Tryz.f23 eJ (k_ N) [] N F
def E8 (F:KF R):LA→LA→Bool→Bool→O R:=(fun ak al am an=>F (.tup [(.pagg ak false),(.pagg al false),(.bool am),(.bool an)]) [])
def Ahb (l:Bool) (s t:Int) (g:LA) (m:Nat) (d:Bool) (i e:Int) (c:Bool) (b f:LA) (u:Bool) (v:Int) (w x:LA):St:=⟨[(3,(op 0)),(4,(op 1)),(5,(op 2)),(6,(.bool u)),(7,(.bool l)),(10,(op 3)),(11,(iv v)),(12,(iv s)),(13,(iv t)),(31,(.imm g m 2 false d)),(32,(iv i)),(33,(iv e))],(hq [(bP c 0 b),(bQ 0 w),(bQ 0 f),(bQ 0 x)])⟩
def Ahc (F:KF R) (Q1:St→O R):=GU N F [1,1,1,0,1,0,0,1,1,0,0,1,1,1,1,1] [Q1]
def eK (g:LA) (m:Nat) (d c:Bool) (b:LA) (r l:Bool) (q i e:Int) (p f:LA):St:=⟨[(3,(op 0)),(4,(op 1)),(5,(op 2)),(6,(.bool r)),(7,(.bool l)),(8,(iv q)),(31,(.imm g m 2 false d)),(32,(iv i)),(33,(iv e))],(hq [(bP c 0 b),(bQ 0 p),(bQ 0 f)])⟩
def eL (F:KF R):=GU N F [1,1,1,0,1,0] []
def Ahd (d:Bool) (o:LA) (c:Bool) (b:LA):St:=⟨[(2,(op 0)),(3,(op 1)),(4,(op 2)),(5,(op 3)),(6,(.bool false)),(7,(.bool false))],(hq [(bP d 0 o),(bP c 0 b),(bQ 0 [(.bool false),.nsl,.nsl]),(bQ 0 [(.bool false),.nsl,.nsl])])⟩
def Ahe (F:KF R):=GU N F [1,1] []
theorem qc (Q1:St→O R) (F:KF R) (l:Bool) (s t:Int) (g:LA) (m:Nat) (d:Bool) (i e:Int) (c:Bool) (b f:LA):∀ (u:Bool) (v:Int) (w x:LA),A8 (Ahc N F Q1) (Ahb l s t g m d i e c b f u v w x)=(O2 N (fun r l q i e p f=>Q1 (eK g m d c b r l q i e p f)) (E8 F) l s t g m d i e c b f u v w x):=by
 intro u v w x
 kernel_rfl
theorem LB (F:KF R) (g:LA) (m:Nat) (d c:Bool) (b:LA):∀ (n:Nat) (r l:Bool) (q i e:Int) (p f:LA),Ap (eL N F) n (eK g m d c b r l q i e p f)=(Gi N (E8 F) g m d c b n r l q i e p f)
 | 0,_,_,_,_,_,_,_=>by kernel_rfl
 | n+1,r,l,q,i,e,p,f=>have e0:=(funext fun r=>funext fun l=>funext fun q=>funext fun i=>funext fun e=>funext fun p=>funext fun f=>(LB F g m d c b n r l q i e p f))
  Eq.trans (by kernel_rfl) (cR (Sd N (E8 F) g m d c b · · r l q i e p f) e0 (funext fun s=>funext fun t=>funext fun u=>funext fun v=>funext fun w=>funext fun x=>(Ar ..).trans ((qc N (Ap (eL N F) n) F l s t g m d i e c b f u v w x).trans (Bn (O2 N · (E8 F) l s t g m d i e c b f u v w x) e0))):_)
theorem qd (F:KF R) (d:Bool) (o:LA) (c:Bool) (b:LA):A8 (Ahe N F) (Ahd d o c b)=(U4 N (E8 F) d o c b):=by
 exact Eq.trans (by kernel_rfl) (Bn (AJ N (E8 F) d o c b ·) (funext fun g=>funext fun m=>funext fun r=>funext fun l=>funext fun q=>funext fun i=>funext fun e=>funext fun p=>funext fun f=>(Aj ..).trans (LB N F g m d c b N r l q i e p f)):_)
theorem eM (o:LA) (d:Bool) (b:LA) (c:Bool) (F:KF R):Cm (k_ N) eJ N 23 [(.pagg o d),(.pagg b c)] [] F=(Tz N o d b c (E8 F)):=by
 rw[YM]
 exact Eq.trans (by kernel_rfl) (Bn (DB N (E8 F) · o d b c) ((Ar ..).trans (qd N F d o c b)):_)
def YN (a:LA) (h:Am) (k:KF R):O R :=
 match a,h with
 | [(.pagg o d),(.pagg b c)],[]=>(Tz N o d b c (E8 k))
 | _,_=>none
theorem eN:Ao N 23 @YN:=by
 intro R Q a h k j;unfold YN;split;exact Ay (eM ..) (eM ..) ⟨KG N,UY N,F8 N,Rm N,trivial⟩;exact A0
def Ahf:=Az (eN N)
def Ahg:=Cj (eN N)
def LC (N:Nat) (r0:LA→O R) (e:LA) (d:Nat) (b:Bool) (k0:Int→Int→LA→O R) (f c:Int) (g:LA):O R :=
 (cond (decide (c<f)) (cond (Ac c d) (An .i64 (e.drop ((c.toNat)*1)) fun l=>(k0 f (wrap .i64 (c+1)) (A07 g l))) none) (r0 g))
def Td (r0:LA→O R) (e:LA) (d:Nat) (b:Bool):Nat→Int→Int→LA→O R
 | 0,_,_,_=>none
 | n+1,f,c,g=>(LC N r0 e d b (Td r0 e d b n) f c g)
def qe (N:Nat) (r0:LA→O R) (q0:LA→Nat→Int→Int→LA→O R) (i:LA) (b:Bool):O R :=
 (Co 1 (i.drop 18) fun e d=>(q0 e d ((d:Nat):Int) 0 []))
def U_:=(Af (fun (N:Nat) (i:LA) (b:Bool) (r0:LA→O R)=>(qe N r0 (fun e d f c g=>(Td N r0 e d b N f c g)) i b))).1
theorem eO (i b r0):(@U_ R N i b r0)=(qe N r0 (fun e d f c g=>(Td N r0 e d b N f c g)) i b):=by rw[U_,(Af _).2]
def Ahh:Hints:={ H:=(hS hL (hS hL (hS (hS hL (hS (hP [3,8,9,10] hL) hL)) hL))) }
def A25 (F:KF R):=Ja Tryz.f117 Ahh [] [] N F
def GV (F:KF R):LA→O R:=(fun m=>F (.omap 300000) (hq [⟨false,false,true,false,0,m,true⟩]))
def A26 (e:LA) (d:Nat) (b:Bool) (f c:Int) (g:LA):St:=⟨[(3,(.omap 300000)),(8,(.imm e d 1 false b)),(9,(iv f)),(10,(iv c))],(hq [⟨false,false,true,false,0,g,true⟩])⟩
def A27 (F:KF R):=A25 N F [1,1,0,1,0] []
theorem kc (F:KF R) (e:LA) (d:Nat) (b:Bool):∀ (n:Nat) (f c:Int) (g:LA),Ap (A27 N F) n (A26 e d b f c g)=(Td N (GV F) e d b n f c g)
 | 0,_,_,_=>by kernel_rfl
 | n+1,f,c,g=>Eq.trans (by kernel_rfl) (Bn (LC N (GV F) e d b · f c g) (funext fun f=>funext fun c=>funext fun g=>(kc F e d b n f c g)):_)
theorem Ahi (i:LA) (b:Bool) (F:KF R):Cm [] Ahh N 117 [(.pagg i b)] [] F=(U_ N i b (GV F)):=by
 rw[eO]
 exact Eq.trans (by kernel_rfl) (Bn (qe N (GV F) · i b) (funext fun e=>funext fun d=>funext fun f=>funext fun c=>funext fun g=>(Aj ..).trans (kc N F e d b N f c g)):_)
def yN (a:LA) (h:Am) (k:KF R):O R :=
 match a,h with
 | [(.pagg i b)],[]=>(U_ N i b (GV k))
 | _,_=>none
theorem Ahj:Ao N 117 @yN:=by
 intro R Q a h k j;unfold yN;split;exact Ay (Ahi ..) (Ahi ..) trivial;exact A0
def A28:=Az (Ahj N)
def A29:=Cj (Ahj N)
def qf (b:LA) (c:Bool) (r0:Int→Int→O R):O R :=
 (cond (Nat.ble 22 (b.length)) (Oy N (b.take 22) c (fun d=>(cond (!d) (r0 0 0) (An .i64 (b.drop 11) fun e=>(An .i64 (b.drop 15) fun f=>(An .i64 (b.drop 10) fun g=>(r0 (Iq (Iq e (wrap .i64 (f+1))) 1) (Iq g 1)))))))) none)
def LD:=(Af (@qf R)).1
theorem eP:@LD R=@qf R:=(Af _).2
def A8r:Ef:=[(48,Y8 N)]
def Ahk (F:KF R):Int→Int→O R:=(fun i l=>F (.tup [(iv i),(iv l)]) [])
theorem Ahl (b:LA) (c:Bool) (F:KF R):Cm (A8r N) Dr N 136 [(.pagg b c)] [] F=(LD N b c (Ahk F)):=by
 rw[eP]
 kernel_rfl
def yO (a:LA) (h:Am) (k:KF R):O R :=
 match a,h with
 | [(.pagg b c)],[]=>(LD N b c (Ahk k))
 | _,_=>none
theorem Ahm:Ao N 136 @yO:=by
 intro R Q a h k j;unfold yO;split;exact Ay (Ahl ..) (Ahl ..) ⟨Y9 N,trivial⟩;exact A0
def nU:=Az (Ahm N)
def nV:=Cj (Ahm N)
def LE (b:LA) (c:Bool) (r0:LA→O R):O R :=
 (cond (Nat.ble 22 (b.length)) (Oy N (b.take 22) c (fun f=>(cond (!f) (r0 [(.int .i64 0),(.int .i64 0)]) (cond (Nat.ble 22 (b.length)) (LD N (b.take 22) c (fun g i=>(An .i64 (b.drop 19) fun d=>(An .i64 (b.drop 20) fun e=>(cond (d==0) (r0 [(.int .i64 d),(.int .i64 (Bv e g))]) (cond (d==2) (r0 [(.int .i64 d),(.int .i64 (Bv e i))]) (r0 [(.int .i64 d),(.int .i64 e)]))))))) none)))) none)
def Te:=(Af (@LE R)).1
theorem GW:@Te R=@LE R:=(Af _).2
def Att:Ef:=[(48,Y8 N),(136,nU N)]
def ke (F:KF R):LA→O R:=(fun l=>F (.pagg l false) [])
theorem kf (b:LA) (c:Bool) (F:KF R):Cm (Att N) Ou N 84 [(.pagg b c)] [] F=(Te N b c (ke F)):=by
 rw[GW]
 kernel_rfl
def eQ (a:LA) (h:Am) (k:KF R):O R :=
 match a,h with
 | [(.pagg b c)],[]=>(Te N b c (ke k))
 | _,_=>none
theorem kg:Ao N 84 @eQ:=by
 intro R Q a h k j;unfold eQ;split;exact Ay (kf ..) (kf ..) ⟨Y9 N,nV N,trivial⟩;exact A0
def ki:=Az (kg N)
def kj:=Cj (kg N)
def GX (N:Nat) (r0:Int→O R) (f g:Int) (d:Bool) (c:LA) (e:Bool) (b:LA) (l:Bool):O R :=
 (cond l (An .i64 (b.drop 1) fun m=>(r0 (wrap .i64 ((wrap .i64 (f+m)) - 1)))) (An .i64 b fun n=>(cond ((n==2)==true) (An .i64 (b.drop 1) fun o=>(cond (cond true (decide (o≤g)) false) (An .i64 (c.drop 12) fun p=>(An .i64 (b.drop 1) fun q=>(r0 (wrap .i64 ((wrap .i64 ((wrap .i64 (f+p))+q)) - 1))))) (r0 (-1)))) (r0 (-1)))))
def AK (N:Nat) (r0:Int→O R) (f g:Int) (d:Bool) (c:LA) (e:Bool) (b:LA) (q2:Bool→O R) (i:Bool):O R :=
 (cond i (An .i64 (b.drop 1) fun r=>(r0 (wrap .i64 (r - 1)))) (An .i64 b fun s=>(cond ((s==1)==true) (An .i64 (b.drop 1) fun t=>(An .i64 (c.drop 12) fun u=>(q2 (cond true (decide (t≤u)) false)))) (q2 false))))
def GY (r0:Int→O R) (f g:Int) (d:Bool) (c:LA) (e:Bool) (b:LA) (i:Bool):O R:=(AK N r0 f g d c e b (fun l=>(GX N r0 f g d c e b l)) i)
def Se (r0:Int→O R) (d:Bool) (c:LA) (e:Bool) (b:LA) (q1:Int→Int→Bool→O R):O R :=
 (cond (Nat.ble 22 (c.length)) (LD N (c.take 22) d (fun f g=>(An .i64 b fun v=>(cond ((v==0)==true) (An .i64 (b.drop 1) fun w=>(q1 f g (cond true (decide (w≤f)) false))) (q1 f g false))))) none)
def O3 (r0:Int→O R) (d:Bool) (c:LA) (e:Bool) (b:LA):O R:=(Se N r0 d c e b (fun f g i=>(GY N r0 f g d c e b i)))
def U5 (r0:Int→O R) (q0:O R) (c:LA) (d:Bool) (b:LA) (e:Bool):O R :=
 (cond (Nat.ble 22 (c.length)) (Oy N (c.take 22) d (fun x=>(cond ((!x)==false) (An .i64 (b.drop 1) fun y=>(cond (cond false true (decide (y<1))) (r0 (-1)) q0)) (r0 (-1))))) none)
def Ln:=(Af (fun (N:Nat) (c:LA) (d:Bool) (b:LA) (e:Bool) (r0:Int→O R)=>(U5 N r0 (O3 N r0 d c e b) c d b e))).1
theorem AL (c d b e r0):(@Ln R N c d b e r0)=(U5 N r0 (O3 N r0 d c e b) c d b e):=by rw[Ln,(Af _).2]
def eR:Hints:={ H:=(hS hL (hJ [2,3] hL (hS hL (hS (hS (hJ [2,3,5,6,20] hL (hS hL (hJ [2,3,5,6,33] hL hL))) hL) hL)))) }
def ko:Ef:=[(48,Y8 N),(136,nU N)]
def GZ (F:KF R):=Ja Tryz.f167 eR (ko N) [] N F
def Gj (F:KF R):Int→O R:=(fun z=>F (iv z) [])
def Ahn (f g:Int) (d:Bool) (c:LA) (e:Bool) (b:LA) (l:Bool):St:=⟨[(2,(op 0)),(3,(op 1)),(5,(iv f)),(6,(iv g)),(33,(.bool l))],(hq [(bP d 0 c),(bP e 0 b)])⟩
def Aho (F:KF R):=GZ N F [1,1,1,0,0,1,1,1] []
def Ahp (f g:Int) (d:Bool) (c:LA) (e:Bool) (b:LA) (i:Bool):St:=⟨[(2,(op 0)),(3,(op 1)),(5,(iv f)),(6,(iv g)),(20,(.bool i))],(hq [(bP d 0 c),(bP e 0 b)])⟩
def Ahq (F:KF R):=GZ N F [1,1,1,0,0,1] []
def Ahr (d:Bool) (c:LA) (e:Bool) (b:LA):St:=⟨[(2,(op 0)),(3,(op 1))],(hq [(bP d 0 c),(bP e 0 b)])⟩
def Ahs (F:KF R):=GZ N F [1,1] []
theorem qg (F:KF R) (f g:Int) (d:Bool) (c:LA) (e:Bool) (b:LA):∀ (l:Bool),A8 (Aho N F) (Ahn f g d c e b l)=(GX N (Gj F) f g d c e b l):=by
 intro l
 kernel_rfl
theorem qk (F:KF R) (f g:Int) (d:Bool) (c:LA) (e:Bool) (b:LA):∀ (i:Bool),A8 (Ahq N F) (Ahp f g d c e b i)=(GY N (Gj F) f g d c e b i):=by
 intro i
 exact Eq.trans (by kernel_rfl) (Bn (AK N (Gj F) f g d c e b · i) (funext fun l=>(Ar ..).trans (qg N F f g d c e b l)):_)
theorem qn (F:KF R) (d:Bool) (c:LA) (e:Bool) (b:LA):A8 (Ahs N F) (Ahr d c e b)=(O3 N (Gj F) d c e b):=by
 exact Eq.trans (by kernel_rfl) (Bn (Se N (Gj F) d c e b ·) (funext fun f=>funext fun g=>funext fun i=>(Ar ..).trans (qk N F f g d c e b i)):_)
theorem eT (c:LA) (d:Bool) (b:LA) (e:Bool) (F:KF R):Cm (ko N) eR N 167 [(.pagg c d),(.pagg b e)] [] F=(Ln N c d b e (Gj F)):=by
 rw[AL]
 exact Eq.trans (by kernel_rfl) (Bn (U5 N (Gj F) · c d b e) ((Ar ..).trans (qn N F d c e b)):_)
def YO (a:LA) (h:Am) (k:KF R):O R :=
 match a,h with
 | [(.pagg c d),(.pagg b e)],[]=>(Ln N c d b e (Gj k))
 | _,_=>none
theorem eV:Ao N 167 @YO:=by
 intro R Q a h k j;unfold YO;split;exact Ay (eT ..) (eT ..) ⟨Y9 N,nV N,trivial⟩;exact A0
def Aht:=Az (eV N)
def Ahu:=Cj (eV N)
def VA (N:Nat) (r0:LA→Nat→O R) (d:Bool) (c:LA) (e:Bool) (b:LA) (g:Bool) (f:LA):O R :=
 (cond g (r0 (List.take 4 ((f.take 2)++[(.int .i64 1),(.int .i64 1)])) 2) (An .i64 (b.drop 1) fun o=>(An .i64 (c.drop 11) fun p=>(cond (decide (o≥p)) (r0 (List.take 4 ((f.take 2)++[(.int .i64 2),(.int .i64 1)])) 2) (r0 (f.take 2) 1)))))
def eX (r0:LA→Nat→O R) (q0:Bool→LA→O R) (c:LA) (d:Bool) (b:LA) (e:Bool):O R :=
 (cond (Nat.ble 22 (c.length)) (cond (Nat.ble 2 (b.length)) (cond ((!e)||(Ba (b.take 2))) (Ln N (c.take 22) d (b.take 2) false (fun q=>(cond (decide (q<0)) (r0 [] 0) (cond (Nat.ble 22 (c.length)) (LD N (c.take 22) d (fun l m=>(An .i64 b fun i=>(cond (i==0) (An .i64 (b.drop 1) fun n=>(An .i64 (b.drop 1) fun r=>(An .i64 (c.drop 11) fun s=>(cond ((decide (r≥s))==true) (An .i64 (c.drop 12) fun t=>(q0 (cond true (decide (t>0)) false) [(.int .i64 0),(.int .i64 (Bv (wrap .i64 (n+1)) l))])) (q0 false [(.int .i64 0),(.int .i64 (Bv (wrap .i64 (n+1)) l))]))))) (cond (i==1) (An .i64 (b.drop 1) fun u=>(An .i64 (c.drop 12) fun v=>(cond (decide (u<v)) (An .i64 (b.drop 1) fun w=>(r0 [(.int .i64 1),(.int .i64 (wrap .i64 (w+1)))] 1)) (r0 [(.int .i64 2),(.int .i64 1)] 1)))) (cond (i==2) (An .i64 (b.drop 1) fun x=>(An .i64 (c.drop 10) fun y=>(cond (decide (x≥y)) (An .i64 (b.drop 1) fun z=>(r0 [(.int .i64 0),(.int .i64 1),(.int .i64 2),(.int .i64 (Bv (wrap .i64 (z+1)) m))] 2)) (An .i64 (b.drop 1) fun aa=>(r0 [(.int .i64 2),(.int .i64 (Bv (wrap .i64 (aa+1)) m))] 1))))) (r0 [] 0))))))) none)))) none) none) none)
def U6:=(Af (fun (N:Nat) (c:LA) (d:Bool) (b:LA) (e:Bool) (r0:LA→Nat→O R)=>(eX N r0 (fun g f=>(VA N r0 d c e b g f)) c d b e))).1
theorem eY (c d b e r0):(@U6 R N c d b e r0)=(eX N r0 (fun g f=>(VA N r0 d c e b g f)) c d b e):=by rw[U6,(Af _).2]
def Ahv:Hints:={ H:=(hS hL (hS hL (hS hL (hS hL (hS (hS hL (hS (hS hL (hS (hS hL (hJ [2,3,7,39] hL hL)) hL)) hL)) hL))))),nils:=[(4,2),(7,2)],modes:=[(1,2)] }
def Aqd:Ef:=[(167,Aht N),(136,nU N)]
def A3a (F:KF R):=Ja Tryz.f118 Ahv (Aqd N) [] N F
def VB (F:KF R):LA→Nat→O R:=(fun ab ac=>F (.imm ab ac 2 false false) [])
def A3b (d:Bool) (c:LA) (e:Bool) (b:LA) (g:Bool) (f:LA):St:=⟨[(2,(op 0)),(3,(op 1)),(7,(.own 300002 0 1)),(39,(.bool g))],(hq [(bP d 0 c),(bP e 0 b),(bQ 2 f)])⟩
def A3c (F:KF R):=A3a N F [1,1,1,1,0,1,0,1,0,1,1] []
theorem Am5 (F:KF R) (d:Bool) (c:LA) (e:Bool) (b:LA):∀ (g:Bool) (f:LA),A8 (A3c N F) (A3b d c e b g f)=(VA N (VB F) d c e b g f):=by
 intro g f
 kernel_rfl
theorem Ahw (c:LA) (d:Bool) (b:LA) (e:Bool) (F:KF R):Cm (Aqd N) Ahv N 118 [(.pagg c d),(.pagg b e)] [] F=(U6 N c d b e (VB F)):=by
 rw[eY]
 exact Eq.trans (by kernel_rfl) (Bn (eX N (VB F) · c d b e) (funext fun g=>funext fun f=>(Ar ..).trans (Am5 N F d c e b g f)):_)
def yP (a:LA) (h:Am) (k:KF R):O R :=
 match a,h with
 | [(.pagg c d),(.pagg b e)],[]=>(U6 N c d b e (VB k))
 | _,_=>none
theorem Ahx:Ao N 118 @yP:=by
 intro R Q a h k j;unfold yP;split;exact Ay (Ahw ..) (Ahw ..) ⟨Ahu N,nV N,trivial⟩;exact A0
def Ahy:=Az (Ahx N)
def Ahz:=Cj (Ahx N)
def yQ (N:Nat) (c:LA) (d:Bool) (b:Int) (r0:Bool→O R):O R :=
 (An .i64 c fun e=>(r0 (e==b)))
def L7:=(Af (@yQ R)).1
theorem G_:@L7 R=@yQ R:=(Af _).2
def kp (b:Int) (F:KF R):Bool→O R:=(fun f=>F (.bool f) [(100000,⟨false,false,false,false,0,[(iv b)],false⟩)])
theorem kq (c:LA) (d:Bool) (b:Int) (F:KF R):Cm [] Dr N 120 [(.pagg c d),(.optr 100000 0)] [(100000,⟨false,false,false,false,0,[(iv b)],false⟩)] F=(L7 N c d b (kp b F)):=by
 rw[G_]
 kernel_rfl
def e9 (a:LA) (h:Am) (k:KF R):O R :=
 match a,h with
 | [(.pagg c d),(.optr 100000 0)],[(100000,⟨false,false,false,false,0,[(.int .i64 b)],false⟩)]=>(L7 N c d b (kp b k))
 | _,_=>none
theorem ku:Ao N 120 @e9:=by
 intro R Q a h k j;unfold e9;split;exact Ay (kq ..) (kq ..) trivial;exact A0
def Am6:=Az (ku N)
def Am7:=Cj (ku N)
def Bf (r0:Int→O R) (c:LA) (d:Nat) (f e:Bool) (b:Int) (k0:Int→Int→O R) (i g:Int):O R :=
 (cond (decide (g<i)) (cond (Ac g d) (cond (Nat.ble 2 ((c.drop ((g.toNat)*2)).length)) (cond ((!e)||(Ba ((c.drop ((g.toNat)*2)).take 2))) (L7 N ((c.drop ((g.toNat)*2)).take 2) false b (fun l=>(cond l (r0 g) (k0 i (wrap .i64 (g+1)))))) none) none) none) (r0 (-1)))
def Ax (r0:Int→O R) (c:LA) (d:Nat) (f e:Bool) (b:Int):Nat→Int→Int→O R
 | 0,_,_=>none
 | n+1,i,g=>(Bf N r0 c d f e b (Ax r0 c d f e b n) i g)
def Bk (N:Nat) (r0:Int→O R) (q0:Int→Int→O R) (c:LA) (d:Nat) (f e:Bool) (b:Int):O R :=
 (q0 ((d:Nat):Int) 0)
def Aq:=(Af (fun (N:Nat) (c:LA) (d:Nat) (f e:Bool) (b:Int) (r0:Int→O R)=>(Bk N r0 (fun i g=>(Ax N r0 c d f e b N i g)) c d f e b))).1
theorem Bg (c d f e b r0):(@Aq R N c d f e b r0)=(Bk N r0 (fun i g=>(Ax N r0 c d f e b N i g)) c d f e b):=by rw[Aq,(Af _).2]
def D5:Hints:={ H:=(hS hL (hS (hS hL (hS (hP [0,1,7,8] hL) hL)) hL)) }
def Ee:Ef:=[(120,Am6 N)]
def Iu (F:KF R):=Ja Tryz.f119 D5 (Ee N) [100000] N F
def Bb (b:Int) (F:KF R):Int→O R:=(fun m=>F (iv m) [(100000,⟨false,false,false,false,0,[(iv b)],false⟩)])
def Iv (c:LA) (d:Nat) (f e:Bool) (b i g:Int):St:=⟨[(0,(.imm c d 2 f e)),(1,(.fn 120 [(.optr 100000 0)])),(7,(iv i)),(8,(iv g))],[(100000,⟨false,false,false,false,0,[(iv b)],false⟩)]⟩
def Iw (F:KF R):=Iu N F [1,0,1,0] []
theorem Dg (F:KF R) (c:LA) (d:Nat) (f e:Bool) (b:Int):∀ (n:Nat) (i g:Int),Ap (Iw N F) n (Iv c d f e b i g)=(Ax N (Bb b F) c d f e b n i g)
 | 0,_,_=>by kernel_rfl
 | n+1,i,g=>Eq.trans (by kernel_rfl) (Bn (Bf N (Bb b F) c d f e b · i g) (funext fun i=>funext fun g=>(Dg F c d f e b n i g)):_)
theorem D6 (c:LA) (d:Nat) (f e:Bool) (b:Int) (F:KF R):Cm (Ee N) D5 N 119 [(.imm c d 2 f e),(.fn 120 [(.optr 100000 0)])] [(100000,⟨false,false,false,false,0,[(iv b)],false⟩)] F=(Aq N c d f e b (Bb b F)):=by
 rw[Bg]
 exact Eq.trans (by kernel_rfl) (Bn (Bk N (Bb b F) · c d f e b) (funext fun i=>funext fun g=>(Aj ..).trans (Dg N F c d f e b N i g)):_)
def D2 (a:LA) (h:Am) (k:KF R):O R :=
 match a,h with
 | [(.imm c d 2 f e),(.fn 120 [(.optr 100000 0)])],[(100000,⟨false,false,false,false,0,[(.int .i64 b)],false⟩)]=>(Aq N c d f e b (Bb b k))
 | _,_=>none
theorem D7:Ao N 119 @D2:=by
 intro R Q a h k j;unfold D2;split;exact Ay (D6 ..) (D6 ..) ⟨Am7 N,trivial⟩;exact A0
def Ix:=Az (D7 N)
def Iy:=Cj (D7 N)
end
end Gx

namespace Gx
open Go Go.Proofs
open IntKind (wrap)
set_option maxRecDepth 100000
noncomputable section
variable {R:Type} (N:Nat)
def LF (r0:Nat→Int→Int→LA→O R) (f:LA) (c:Nat) (g i d:Bool) (b q:LA) (k0:Nat→Int→Int→LA→LA→O R) (l:Nat) (o m:Int) (p e:LA):O R :=
 (cond (decide (m<o)) (cond (Ac m c) (An .i64 (f.drop ((m.toNat)*1)) fun u=>(cond (Nat.ble 22 (b.length)) (cond (Nat.ble 2 (e.length)) (U6 N (b.take 22) d (e.take 2) false (fun s t=>(Aq N s t false false u (fun r=>(cond ((decide (r<0))==false) (cond ((u != 0)==true) (cond (cond false true (cond true (oK q m) false)) (r0 0 m 16 []) (cond (Ac r t) (cond (Nat.ble 2 ((s.drop ((r.toNat)*2)).length)) (cond ((Nat.beq (((s.drop ((r.toNat)*2)).take 2).length) 2)&&((Nat.ble 2 (e.length))&&(!false))) (cond (Nat.ble 2 ((setCells e 0 ((s.drop ((r.toNat)*2)).take 2)).length)) (cond ((Nat.beq (((setCells e 0 ((s.drop ((r.toNat)*2)).take 2)).take 2).length) 2)&&(Nat.ble 2 2)) (cond ((Nat.ble (l+1) 140737488355328)&&(Nat.ble ((l+1)*16) 140737488355328)) (k0 (l+1) o (wrap .i64 (m+1)) ((p.take (l*2))++((setCells [(.int .i64 0),(.int .i64 0)] 0 ((setCells e 0 ((s.drop ((r.toNat)*2)).take 2)).take 2)).take 2)) (setCells e 0 ((s.drop ((r.toNat)*2)).take 2))) none) none) none) none) none) none)) (cond (Ac r t) (cond (Nat.ble 2 ((s.drop ((r.toNat)*2)).length)) (cond ((Nat.beq (((s.drop ((r.toNat)*2)).take 2).length) 2)&&((Nat.ble 2 (e.length))&&(!false))) (cond (Nat.ble 2 ((setCells e 0 ((s.drop ((r.toNat)*2)).take 2)).length)) (cond ((Nat.beq (((setCells e 0 ((s.drop ((r.toNat)*2)).take 2)).take 2).length) 2)&&(Nat.ble 2 2)) (cond ((Nat.ble (l+1) 140737488355328)&&(Nat.ble ((l+1)*16) 140737488355328)) (k0 (l+1) o (wrap .i64 (m+1)) ((p.take (l*2))++((setCells [(.int .i64 0),(.int .i64 0)] 0 ((setCells e 0 ((s.drop ((r.toNat)*2)).take 2)).take 2)).take 2)) (setCells e 0 ((s.drop ((r.toNat)*2)).take 2))) none) none) none) none) none) none)) (r0 0 m 16 [])))))) none) none)) none) (r0 l ((c:Nat):Int) 0 p))
def O4 (r0:Nat→Int→Int→LA→O R) (f:LA) (c:Nat) (g i d:Bool) (b q:LA):Nat→Nat→Int→Int→LA→LA→O R
 | 0,_,_,_,_,_=>none
 | n+1,l,o,m,p,e=>(LF N r0 f c g i d b q (O4 r0 f c g i d b q n) l o m p e)
def e_ (r0:Nat→Int→Int→LA→O R) (q0:LA→Nat→Int→Int→LA→LA→O R) (b:LA) (d:Bool) (f:LA) (c:Nat) (g i:Bool):O R :=
 (cond (Nat.ble 22 (b.length)) (Oy N (b.take 22) d (fun w=>(cond (!w) (r0 0 0 1 []) (cond (Nat.ble 22 (b.length)) (U_ N (b.take 22) d (fun q=>(cond ((decide ((0:Int)≤(0:Int)))&&((decide (0≤((c:Nat):Int)))&&((decide (((c:Nat):Int)≤140737488355328))&&(decide ((((c:Nat):Int)*((16:Nat):Int))≤140737488355328))))) (cond (Nat.ble 22 (b.length)) (Te N (b.take 22) d (fun v=>(cond ((Nat.beq (v.length) 2)&&((Nat.ble 2 2)&&(!false))) (q0 q 0 ((c:Nat):Int) 0 [] (setCells [(.int .i64 0),(.int .i64 0)] 0 v)) none))) none) none))) none)))) none)
def DC:=(Af (fun (N:Nat) (b:LA) (d:Bool) (f:LA) (c:Nat) (g i:Bool) (r0:Nat→Int→Int→LA→O R)=>(e_ N r0 (fun q l o m p e=>(O4 N r0 f c g i d b q N l o m p e)) b d f c g i))).1
theorem ee (b d f c g i r0):(@DC R N b d f c g i r0)=(e_ N r0 (fun q l o m p e=>(O4 N r0 f c g i d b q N l o m p e)) b d f c g i):=by rw[DC,(Af _).2]
def Ah0:Hints:={ H:=(hS hL (hS hL (hS hL (hS hL (hS hL (hS (hS hL (hS (hP [1,2,7,8,9,24,25,26] hL) hL)) hL)))))),nils:=[(4,2)],modes:=[(2,2),(0,0),(0,0)] }
def Aqe:Ef:=[(48,Y8 N),(117,A28 N),(84,ki N),(118,Ahy N),(119,Ix N)]
def A3d (F:KF R):=Ja Tryz.f64 Ah0 (Aqe N) [] N F
def G' (F:KF R):Nat→Int→Int→LA→O R:=(fun x y z aa=>F (.tup [(.own 300000 0 x),(iv y),(iv z)]) (hq [(bQ 2 aa)]))
def A3e (f:LA) (c:Nat) (g i d:Bool) (b q:LA) (l:Nat) (o m:Int) (p e:LA):St:=⟨[(1,(.imm f c 1 g i)),(2,(op 0)),(7,(.omap 300001)),(8,(.own 300002 0 l)),(9,(op 3)),(24,(.imm f c 1 g i)),(25,(iv o)),(26,(iv m))],(hq [(bP d 0 b),⟨false,false,true,false,0,q,true⟩,(bQ 2 p),(bQ 0 e)])⟩
def A3f (F:KF R):=A3d N F [1,1,1,1,1,0,1,0] []
theorem kv (F:KF R) (f:LA) (c:Nat) (g i d:Bool) (b q:LA):∀ (n l:Nat) (o m:Int) (p e:LA),Ap (A3f N F) n (A3e f c g i d b q l o m p e)=(O4 N (G' F) f c g i d b q n l o m p e)
 | 0,_,_,_,_,_=>by kernel_rfl
 | n+1,l,o,m,p,e=>Eq.trans (by kernel_rfl) (Bn (LF N (G' F) f c g i d b q · l o m p e) (funext fun l=>funext fun o=>funext fun m=>funext fun p=>funext fun e=>(kv F f c g i d b q n l o m p e)):_)
theorem Ah1 (b:LA) (d:Bool) (f:LA) (c:Nat) (g i:Bool) (F:KF R):Cm (Aqe N) Ah0 N 64 [(.pagg b d),(.imm f c 1 g i)] [] F=(DC N b d f c g i (G' F)):=by
 rw[ee]
 exact Eq.trans (by kernel_rfl) (Bn (e_ N (G' F) · b d f c g i) (funext fun q=>funext fun l=>funext fun o=>funext fun m=>funext fun p=>funext fun e=>(Aj ..).trans (kv N F f c g i d b q N l o m p e)):_)
def yR (a:LA) (h:Am) (k:KF R):O R :=
 match a,h with
 | [(.pagg b d),(.imm f c 1 g i)],[]=>(DC N b d f c g i (G' k))
 | _,_=>none
theorem Ah2:Ao N 64 @yR:=by
 intro R Q a h k j;unfold yR;split;exact Ay (Ah1 ..) (Ah1 ..) ⟨Y9 N,A29 N,kj N,Ahz N,Iy N,trivial⟩;exact A0
def nW:=Az (Ah2 N)
def nX:=Cj (Ah2 N)
def NJ (N:Nat) (k0:Nat→Bool→Int→LA→LA→O R) (r0:Nat→LA→O R) (e:LA) (f:Nat) (i l:Bool) (g:Nat) (c:Int) (m:Bool) (b d o:LA) (p:Int) (s:Bool) (t:Int) (u:Bool):O R :=
 (cond u (An .i64 (b.drop 2) fun v=>(An .i64 o fun w=>(An .i64 (b.drop 7) fun x=>(An .i64 (b.drop 3) fun y=>(An .i64 (o.drop 1) fun z=>(An .i64 (b.drop 6) fun aa=>(cond (Ac p g) (cond ((Nat.beq 2 2)&&((Nat.ble ((0+((p.toNat)*2))+2) (d.length))&&(!false))) (cond (Ac p g) (cond (Nat.ble 2 (((C0 d (0+((p.toNat)*2)) [(.int .i64 (Iq v (wrap .i64 (w - x)))),(.int .i64 (Bv y (wrap .i64 (z+aa))))]).drop (0+((p.toNat)*2))).length)) (cond ((Nat.beq ((((C0 d (0+((p.toNat)*2)) [(.int .i64 (Iq v (wrap .i64 (w - x)))),(.int .i64 (Bv y (wrap .i64 (z+aa))))]).drop (0+((p.toNat)*2))).take 2).length) 2)&&((Nat.ble 2 (o.length))&&(!false))) (k0 g s (wrap .i64 (t+1)) (C0 d (0+((p.toNat)*2)) [(.int .i64 (Iq v (wrap .i64 (w - x)))),(.int .i64 (Bv y (wrap .i64 (z+aa))))]) (setCells o 0 (((C0 d (0+((p.toNat)*2)) [(.int .i64 (Iq v (wrap .i64 (w - x)))),(.int .i64 (Bv y (wrap .i64 (z+aa))))]).drop (0+((p.toNat)*2))).take 2))) none) none) none) none) none))))))) (cond s (An .i64 (b.drop 2) fun ab=>(An .i64 (b.drop 8) fun ac=>(cond (Ac p g) (cond ((Nat.beq 2 2)&&((Nat.ble ((0+((p.toNat)*2))+2) (d.length))&&(!false))) (cond (Ac p g) (cond (Nat.ble 2 (((C0 d (0+((p.toNat)*2)) [(.int .i64 ab),(.int .i64 ac)]).drop (0+((p.toNat)*2))).length)) (cond ((Nat.beq ((((C0 d (0+((p.toNat)*2)) [(.int .i64 ab),(.int .i64 ac)]).drop (0+((p.toNat)*2))).take 2).length) 2)&&((Nat.ble 2 (o.length))&&(!false))) (k0 g s (wrap .i64 (t+1)) (C0 d (0+((p.toNat)*2)) [(.int .i64 ab),(.int .i64 ac)]) (setCells o 0 (((C0 d (0+((p.toNat)*2)) [(.int .i64 ab),(.int .i64 ac)]).drop (0+((p.toNat)*2))).take 2))) none) none) none) none) none))) (cond (Ac p g) (cond (Nat.ble 2 ((d.drop (0+((p.toNat)*2))).length)) (cond ((Nat.beq (((d.drop (0+((p.toNat)*2))).take 2).length) 2)&&((Nat.ble 2 (o.length))&&(!false))) (k0 g s (wrap .i64 (t+1)) d (setCells o 0 ((d.drop (0+((p.toNat)*2))).take 2))) none) none) none)))
def ef (N:Nat) (r0:Nat→LA→O R) (e:LA) (f:Nat) (i l:Bool) (c:Int) (m:Bool) (b:LA) (k0:Nat→Bool→Int→LA→LA→O R) (q1:Int→Bool→Int→Bool→O R) (g:Nat) (r:Bool) (q:Int) (d o:LA):O R :=
 (cond (decide (q<c)) (cond (Ac q f) (An .i64 (e.drop ((q.toNat)*1)) fun ad=>(cond ((ad==2)==true) (q1 q (ad==2) q (cond true r false)) (q1 q (ad==2) q false))) none) (r0 g d))
def Rq (r0:Nat→LA→O R) (e:LA) (f:Nat) (i l:Bool) (c:Int) (m:Bool) (b:LA):Nat→Nat→Bool→Int→LA→LA→O R
 | 0,_,_,_,_,_=>none
 | n+1,g,r,q,d,o=>(ef N r0 e f i l c m b (Rq r0 e f i l c m b n) (fun p s t u=>(NJ N (Rq r0 e f i l c m b n) r0 e f i l g c m b d o p s t u)) g r q d o)
def eg (N:Nat) (r0:Nat→LA→O R) (q0:Nat→Bool→Int→LA→LA→O R) (b:LA) (m:Bool) (c:Int) (e:LA) (f:Nat) (i l:Bool):O R :=
 (cond ((decide (0≤c))&&((decide (c≤c))&&((decide (c≤140737488355328))&&(decide ((c*((16:Nat):Int))≤140737488355328))))) (An .i64 (b.drop 19) fun ae=>(An .i64 (b.drop 21) fun af=>(An .i64 (b.drop 21) fun ag=>(q0 (c.toNat) (ae==2) 0 (List.flatten (List.replicate (c.toNat) ([(.int .i64 0),(.int .i64 0)]:LA))) [(.int .i64 af),(.int .i64 ag)])))) none)
def Xe:=(Af (fun (N:Nat) (b:LA) (m:Bool) (c:Int) (e:LA) (f:Nat) (i l:Bool) (r0:Nat→LA→O R)=>(eg N r0 (fun g r q d o=>(Rq N r0 e f i l c m b N g r q d o)) b m c e f i l))).1
theorem eh (b m c e f i l r0):(@Xe R N b m c e f i l r0)=(eg N r0 (fun g r q d o=>(Rq N r0 e f i l c m b N g r q d o)) b m c e f i l):=by rw[Xe,(Af _).2]
def kw:Hints:={ H:=(hS hL (hS hL (hS hL (hS (hS hL (hS (hP [2,3,7,8,9,22,23] (hS hL (hS hL (hS (hS (hS hL (hS hL (hS (hJ [2,3,7,9,10,11,22,23,34] hL hL) hL))) hL) hL)))) hL)) hL)))),nils:=[(6,2)],modes:=[(2,2)] }
def ky (F:KF R):=Ja Tryz.f65 kw [] [] N F
def J6 (F:KF R):Nat→LA→O R:=(fun ah ai=>F (.own 300000 0 ah) (hq [(bQ 2 ai)]))
def Am8 (e:LA) (f:Nat) (i l:Bool) (g:Nat) (c:Int) (m:Bool) (b d o:LA) (p:Int) (s:Bool) (t:Int) (u:Bool):St:=⟨[(2,(.imm e f 1 i l)),(3,(op 0)),(7,(.own 300001 0 g)),(9,(op 2)),(10,(iv p)),(11,(.bool s)),(22,(iv c)),(23,(iv t)),(34,(.bool u))],(hq [(bP m 0 b),(bQ 2 d),(bQ 0 o)])⟩
def Am9 (F:KF R) (Q0:St→O R):=ky N F [1,1,1,0,1,0,0,1,1,0,0,1,1,0,1] [Q0]
def kz (e:LA) (f:Nat) (i l:Bool) (c:Int) (m:Bool) (b:LA) (g:Nat) (r:Bool) (q:Int) (d o:LA):St:=⟨[(2,(.imm e f 1 i l)),(3,(op 0)),(7,(.own 300001 0 g)),(8,(.bool r)),(9,(op 2)),(22,(iv c)),(23,(iv q))],(hq [(bP m 0 b),(bQ 2 d),(bQ 0 o)])⟩
def lA (F:KF R):=ky N F [1,1,1,0,1,0] []
theorem uY (Q0:St→O R) (F:KF R) (e:LA) (f:Nat) (i l:Bool) (g:Nat) (c:Int) (m:Bool) (b d o:LA):∀ (p:Int) (s:Bool) (t:Int) (u:Bool),A8 (Am9 N F Q0) (Am8 e f i l g c m b d o p s t u)=(NJ N (fun g r q d o=>Q0 (kz e f i l c m b g r q d o)) (J6 F) e f i l g c m b d o p s t u):=by
 intro p s t u
 kernel_rfl
theorem QC (F:KF R) (e:LA) (f:Nat) (i l:Bool) (c:Int) (m:Bool) (b:LA):∀ (n g:Nat) (r:Bool) (q:Int) (d o:LA),Ap (lA N F) n (kz e f i l c m b g r q d o)=(Rq N (J6 F) e f i l c m b n g r q d o)
 | 0,_,_,_,_,_=>by kernel_rfl
 | n+1,g,r,q,d,o=>have e0:=(funext fun g=>funext fun r=>funext fun q=>funext fun d=>funext fun o=>(QC F e f i l c m b n g r q d o))
  Eq.trans (by kernel_rfl) (cR (ef N (J6 F) e f i l c m b · · g r q d o) e0 (funext fun p=>funext fun s=>funext fun t=>funext fun u=>(Ar ..).trans ((uY N (Ap (lA N F) n) F e f i l g c m b d o p s t u).trans (Bn (NJ N · (J6 F) e f i l g c m b d o p s t u) e0))):_)
theorem lB (b:LA) (m:Bool) (c:Int) (e:LA) (f:Nat) (i l:Bool) (F:KF R):Cm [] kw N 65 [(.pagg b m),(iv c),(.imm e f 1 i l)] [] F=(Xe N b m c e f i l (J6 F)):=by
 rw[eh]
 exact Eq.trans (by kernel_rfl) (Bn (eg N (J6 F) · b m c e f i l) (funext fun g=>funext fun r=>funext fun q=>funext fun d=>funext fun o=>(Aj ..).trans (QC N F e f i l c m b N g r q d o)):_)
def ei (a:LA) (h:Am) (k:KF R):O R :=
 match a,h with
 | [(.pagg b m),(.int .i64 c),(.imm e f 1 i l)],[]=>(Xe N b m c e f i l (J6 k))
 | _,_=>none
theorem lC:Ao N 65 @ei:=by
 intro R Q a h k j;unfold ei;split;exact Ay (lB ..) (lB ..) trivial;exact A0
def Ana:=Az (lC N)
def Anb:=Cj (lC N)
def YP (N:Nat) (r0:LA→O R) (d:Nat) (f:LA) (g:Nat) (i l m:Bool) (e:LA) (k0:Int→LA→O R) (b:Int) (c:LA):O R :=
 (cond (decide (b≥0)) (cond (Ac b g) (An .i64 (f.drop ((b.toNat)*1)) fun p=>(cond (p != 2) (k0 (wrap .i64 (b - 1)) c) (cond (Ac b d) (cond (Nat.ble 2 ((c.drop (0+((b.toNat)*2))).length)) (cond (Ac (wrap .i64 (b+1)) d) (cond (Nat.ble 2 ((c.drop (0+(((wrap .i64 (b+1)).toNat)*2))).length)) (cond ((Nat.beq (((c.drop (0+((b.toNat)*2))).take 2).length) 2)&&((Nat.ble 2 2)&&(!false))) (cond ((Nat.beq (((c.drop (0+(((wrap .i64 (b+1)).toNat)*2))).take 2).length) 2)&&((Nat.ble 2 2)&&(!false))) (cond (Ac (wrap .i64 (b+1)) g) (An .i64 (f.drop (((wrap .i64 (b+1)).toNat)*1)) fun q=>(cond (q != 2) (An .i64 (setCells [(.int .i64 0),(.int .i64 0)] 0 ((c.drop (0+((b.toNat)*2))).take 2)) fun r=>(An .i64 ((setCells [(.int .i64 0),(.int .i64 0)] 0 ((c.drop (0+((b.toNat)*2))).take 2)).drop 1) fun s=>(An .i64 (e.drop 9) fun t=>(cond (Ac b d) (cond ((Nat.beq 2 2)&&((Nat.ble ((0+((b.toNat)*2))+2) (c.length))&&(!false))) (k0 (wrap .i64 (b - 1)) (C0 c (0+((b.toNat)*2)) [(.int .i64 r),(.int .i64 (Bv s t))])) none) none)))) (An .i64 (setCells [(.int .i64 0),(.int .i64 0)] 0 ((c.drop (0+((b.toNat)*2))).take 2)) fun u=>(An .i64 (setCells [(.int .i64 0),(.int .i64 0)] 0 ((c.drop (0+(((wrap .i64 (b+1)).toNat)*2))).take 2)) fun v=>(An .i64 (e.drop 6) fun w=>(An .i64 ((setCells [(.int .i64 0),(.int .i64 0)] 0 ((c.drop (0+((b.toNat)*2))).take 2)).drop 1) fun x=>(An .i64 ((setCells [(.int .i64 0),(.int .i64 0)] 0 ((c.drop (0+(((wrap .i64 (b+1)).toNat)*2))).take 2)).drop 1) fun y=>(An .i64 (e.drop 7) fun z=>(cond (Ac b d) (cond ((Nat.beq 2 2)&&((Nat.ble ((0+((b.toNat)*2))+2) (c.length))&&(!false))) (k0 (wrap .i64 (b - 1)) (C0 c (0+((b.toNat)*2)) [(.int .i64 (Iq u (wrap .i64 (v - w)))),(.int .i64 (Bv x (wrap .i64 (y+z))))])) none) none))))))))) none) none) none) none) none) none) none))) none) (r0 c))
def U7 (r0:LA→O R) (d:Nat) (f:LA) (g:Nat) (i l m:Bool) (e:LA):Nat→Int→LA→O R
 | 0,_,_=>none
 | n+1,b,c=>(YP N r0 d f g i l m e (U7 r0 d f g i l m e n) b c)
def VC (N:Nat) (r0:LA→O R) (q0:Int→LA→O R) (e:LA) (m:Bool) (d:Nat) (f:LA) (g:Nat) (i l:Bool) (o:LA):O R :=
 (q0 (wrap .i64 (((d:Nat):Int) - 2)) o)
def T0:=(Af (fun (N:Nat) (e:LA) (m:Bool) (d:Nat) (f:LA) (g:Nat) (i l:Bool) (o:LA) (r0:LA→O R)=>(VC N r0 (fun b c=>(U7 N r0 d f g i l m e N b c)) e m d f g i l o))).1
theorem YQ (e m d f g i l o r0):(@T0 R N e m d f g i l o r0)=(VC N r0 (fun b c=>(U7 N r0 d f g i l m e N b c)) e m d f g i l o):=by rw[T0,(Af _).2]
def ej:Hints:={ H:=(hS hL (hS hL (hS (hP [1,2,3,6] hL) hL))) }
def Ah3 (F:KF R):=Ja Tryz.f66 ej [] [100000] N F
def O5 (F:KF R):LA→O R:=(fun aa=>F (.tup []) [(100000,(bQ 2 aa))])
def Ah4 (d:Nat) (f:LA) (g:Nat) (i l m:Bool) (e:LA) (b:Int) (c:LA):St:=⟨[(1,(.own 100000 0 d)),(2,(.imm f g 1 i l)),(3,(op 0)),(6,(iv b))],[(100000,(bQ 2 c)),(300000,(bP m 0 e))]⟩
def Ah5 (F:KF R):=Ah3 N F [1,1,0] []
theorem LG (F:KF R) (d:Nat) (f:LA) (g:Nat) (i l m:Bool) (e:LA):∀ (n:Nat) (b:Int) (c:LA),Ap (Ah5 N F) n (Ah4 d f g i l m e b c)=(U7 N (O5 F) d f g i l m e n b c)
 | 0,_,_=>by kernel_rfl
 | n+1,b,c=>Eq.trans (by kernel_rfl) (Bn (YP N (O5 F) d f g i l m e · b c) (funext fun b=>funext fun c=>(LG F d f g i l m e n b c)):_)
theorem ek (e:LA) (m:Bool) (d:Nat) (f:LA) (g:Nat) (i l:Bool) (o:LA) (F:KF R):Cm [] ej N 66 [(.pagg e m),(.own 100000 0 d),(.imm f g 1 i l)] [(100000,(bQ 2 o))] F=(T0 N e m d f g i l o (O5 F)):=by
 rw[YQ]
 exact Eq.trans (by kernel_rfl) (Bn (VC N (O5 F) · e m d f g i l o) (funext fun b=>funext fun c=>(Aj ..).trans (LG N F d f g i l m e N b c)):_)
def YR (a:LA) (h:Am) (k:KF R):O R :=
 match a,h with
 | [(.pagg e m),(.own 100000 0 d),(.imm f g 1 i l)],[(100000,⟨false,false,true,false,2,o,false⟩)]=>(T0 N e m d f g i l o (O5 k))
 | _,_=>none
theorem eo:Ao N 66 @YR:=by
 intro R Q a h k j;unfold YR;split;exact Ay (ek ..) (ek ..) trivial;exact A0
def Ah6:=Az (eo N)
def Ah7:=Cj (eo N)
def YS (N:Nat) (r0:Nat→Int→LA→O R) (c:LA) (b:Nat) (e d:Bool) (o:Nat) (k1:Int→Int→LA→O R) (p g:Int) (m:LA):O R :=
 (cond (decide (g<p)) (cond (Ac g o) (cond (Nat.ble 2 ((m.drop (0+((g.toNat)*2))).length)) (cond ((Nat.beq (((m.drop (0+((g.toNat)*2))).take 2).length) 2)&&((Nat.ble 2 2)&&(!false))) (An .i64 (setCells [(.int .i64 0),(.int .i64 0)] 0 ((m.drop (0+((g.toNat)*2))).take 2)) fun q=>(An .i64 ((setCells [(.int .i64 0),(.int .i64 0)] 0 ((m.drop (0+((g.toNat)*2))).take 2)).drop 1) fun r=>(cond (decide (q>r)) (r0 0 7 []) (cond (Ac g b) (An .i64 (c.drop ((g.toNat)*1)) fun s=>(cond (s != 2) (cond (Ac g o) (cond ((Nat.beq 2 2)&&((Nat.ble ((0+((g.toNat)*2))+2) (m.length))&&(!false))) (k1 p (wrap .i64 (g+1)) (C0 m (0+((g.toNat)*2)) [(.int .i64 0),(.int .i64 0)])) none) none) (k1 p (wrap .i64 (g+1)) m))) none)))) none) none) none) (r0 o 0 m))
def HA (r0:Nat→Int→LA→O R) (c:LA) (b:Nat) (e d:Bool) (o:Nat):Nat→Int→Int→LA→O R
 | 0,_,_,_=>none
 | n+1,p,g,m=>(YS N r0 c b e d o (HA r0 c b e d o n) p g m)
def AM (r0:Nat→Int→LA→O R) (l:Int) (c:LA) (b:Nat) (e d i:Bool) (f:LA) (q1:Nat→Int→Int→LA→O R):O R :=
 (cond (Nat.ble 22 (f.length)) (Xe N (f.take 22) i l c b false d (fun o t=>(cond (Nat.ble 22 (f.length)) (T0 N (f.take 22) i o c b false d t (fun u=>(q1 o ((o:Nat):Int) 0 u))) none))) none)
def U8 (r0:Nat→Int→LA→O R) (l:Int) (c:LA) (b:Nat) (e d i:Bool) (f:LA):O R:=(AM N r0 l c b e d i f (fun o p g m=>(HA N r0 c b e d o N p g m)))
def DD (r0:Nat→Int→LA→O R) (q0:O R) (f:LA) (i:Bool) (l:Int) (c:LA) (b:Nat) (e d:Bool):O R :=
 (cond (Nat.ble 22 (f.length)) (Uw N (f.take 22) i l (fun v=>(cond (!v) (r0 0 1 []) (cond (((b:Nat):Int) != l) (r0 0 4 []) (cond (Nat.ble 22 (f.length)) (DC N (f.take 22) i c b false d (fun ae af w ag=>(cond (w != 0) (r0 0 16 []) (An .i64 (f.drop 19) fun x=>(cond ((x==2)==true) (cond (Ac 0 b) (An .i64 c fun y=>(cond ((cond true (y != 2) false)==true) (An .i64 (f.drop 21) fun z=>(An .i64 (f.drop 9) fun aa=>(cond (cond true (decide (z>aa)) false) (r0 0 7 []) q0))) q0)) none) q0))))) none))))) none)
def T1:=(Af (fun (N:Nat) (f:LA) (i:Bool) (l:Int) (c:LA) (b:Nat) (e d:Bool) (r0:Nat→Int→LA→O R)=>(DD N r0 (U8 N r0 l c b e d i f) f i l c b e d))).1
theorem YT (f i l c b e d r0):(@T1 R N f i l c b e d r0)=(DD N r0 (U8 N r0 l c b e d i f) f i l c b e d):=by rw[T1,(Af _).2]
def ep:Hints:={ H:=(hS hL (hS hL (hS hL (hS hL (hJ [1,2,3] hL (hS hL (hS hL (hS (hS hL (hS (hP [2,11,55,56,57] hL) hL)) hL)))))))),nils:=[(6,2)],modes:=[(2,2),(0,0)] }
def lD:Ef:=[(16,KE N),(64,nW N),(65,Ana N),(66,Ah6 N)]
def ex (F:KF R):=Ja Tryz.f29 ep (lD N) [] N F
def H7 (F:KF R):Nat→Int→LA→O R:=(fun ab ac ad=>F (.tup [(.own 300000 0 ab),(iv ac)]) (hq [(bQ 2 ad)]))
def Ah8 (c:LA) (b:Nat) (e d:Bool) (o:Nat) (p g:Int) (m:LA):St:=⟨[(2,(.imm c b 1 e d)),(11,(.own 300000 0 o)),(55,(.own 300000 0 o)),(56,(iv p)),(57,(iv g))],(hq [(bQ 2 m)])⟩
def Ah9 (F:KF R):=ex N F [1,1,1,1,1,1,1,0,1,0] []
def Aia (l:Int) (c:LA) (b:Nat) (e d i:Bool) (f:LA):St:=⟨[(1,(iv l)),(2,(.imm c b 1 e d)),(3,(op 0))],(hq [(bP i 0 f)])⟩
def Aib (F:KF R):=ex N F [1,1,1,1,1] []
theorem LH (F:KF R) (c:LA) (b:Nat) (e d:Bool) (o:Nat):∀ (n:Nat) (p g:Int) (m:LA),Ap (Ah9 N F) n (Ah8 c b e d o p g m)=(HA N (H7 F) c b e d o n p g m)
 | 0,_,_,_=>by kernel_rfl
 | n+1,p,g,m=>Eq.trans (by kernel_rfl) (Bn (YS N (H7 F) c b e d o · p g m) (funext fun p=>funext fun g=>funext fun m=>(LH F c b e d o n p g m)):_)
theorem qo (F:KF R) (l:Int) (c:LA) (b:Nat) (e d i:Bool) (f:LA):A8 (Aib N F) (Aia l c b e d i f)=(U8 N (H7 F) l c b e d i f):=by
 exact Eq.trans (by kernel_rfl) (Bn (AM N (H7 F) l c b e d i f ·) (funext fun o=>funext fun p=>funext fun g=>funext fun m=>(Aj ..).trans (LH N F c b e d o N p g m)):_)
theorem ey (f:LA) (i:Bool) (l:Int) (c:LA) (b:Nat) (e d:Bool) (F:KF R):Cm (lD N) ep N 29 [(.pagg f i),(iv l),(.imm c b 1 e d)] [] F=(T1 N f i l c b e d (H7 F)):=by
 rw[YT]
 exact Eq.trans (by kernel_rfl) (Bn (DD N (H7 F) · f i l c b e d) ((Ar ..).trans (qo N F l c b e d i f)):_)
def YU (a:LA) (h:Am) (k:KF R):O R :=
 match a,h with
 | [(.pagg f i),(.int .i64 l),(.imm c b 1 e d)],[]=>(T1 N f i l c b e d (H7 k))
 | _,_=>none
theorem ez:Ao N 29 @YU:=by
 intro R Q a h k j;unfold YU;split;exact Ay (ey ..) (ey ..) ⟨KG N,nX N,Anb N,Ah7 N,trivial⟩;exact A0
def Aic:=Az (ez N)
def Aid:=Cj (ez N)
def VD (r0:Bool→O R):O R :=
 (Rn N (fun c=>(cond ((Nat.beq 0 0)&&((Nat.beq (c.length) 22)&&(Nat.beq 22 22))) (cond (Nat.ble 22 (c.length)) (Fk N 35 (fun i=>(O1 N (c.take 22) false i false (fun d l=>(cond ((Nat.beq 0 0)&&((Nat.beq (d.length) 3)&&(Nat.beq 3 3))) (cond (Nat.ble 22 (c.length)) (Fk N 30 (fun m=>(Tz N (c.take 22) false m false (fun e f n o=>(cond ((Nat.beq 0 0)&&((Nat.beq (e.length) 3)&&(Nat.beq 3 3))) (cond ((Nat.beq 0 0)&&((Nat.beq (f.length) 3)&&(Nat.beq 3 3))) (cond (Nat.ble 22 (c.length)) (T1 N (c.take 22) false 3 [(.int .i64 2),(.int .i64 2),(.int .i64 0)] 3 false true (fun g p b=>(cond (Nat.ble 3 (d.length)) (Fk N 85 (fun q=>(Jf N (d.take 3) false q false (fun r=>(cond ((r==0)==true) (cond ((cond true (l==0) false)==true) (cond (Nat.ble 3 (e.length)) (Fk N 3 (fun s=>(Jf N (e.take 3) false s false (fun t=>(cond ((cond true (t==0) false)==true) (cond (Nat.ble 3 (f.length)) (Fk N 5 (fun u=>(Jf N (f.take 3) false u false (fun v=>(cond ((cond true (v==0) false)==true) (cond ((cond true n false)==true) (cond ((cond true o false)==true) (cond ((cond true (p==0) false)==true) (cond ((cond true (((g:Nat):Int)==3) false)==true) (cond (Ac 0 g) (cond (Nat.ble 2 (b.length)) (cond ((Nat.ble 1 2)&&((Nat.beq ((b.take 2).length) 2)&&((Nat.beq 2 2)&&(true&&(!false))))) (An .i64 (b.take 2) fun w=>(An .i64 ((b.take 2).drop 1) fun x=>(cond ((cond true ((w==10)&&((x==17)&&true)) false)==true) (cond (Ac 1 g) (cond (Nat.ble 2 ((b.drop 2).length)) (cond ((Nat.ble 1 2)&&((Nat.beq (((b.drop 2).take 2).length) 2)&&((Nat.beq 2 2)&&(true&&(!false))))) (An .i64 ((b.drop 2).take 2) fun y=>(An .i64 (((b.drop 2).take 2).drop 1) fun z=>(r0 (cond true ((y==10)&&((z==15)&&true)) false)))) none) none) none) (r0 false)))) none) none) none) (r0 false)) (r0 false)) (r0 false)) (r0 false)) (r0 false)))))) none) (r0 false)))))) none) (r0 false)) (r0 false)))))) none))) none) none) none))))) none) none))))) none) none)))
def Jh:=(Af (@VD R)).1
theorem YV:@Jh R=@VD R:=(Af _).2
def Anc:Ef:=[(46,uA N),(20,dF N),(21,qa N),(23,Ahf N),(29,Aic N),(25,eH N)]
def fA (F:KF R):Bool→O R:=(fun aa=>F (.bool aa) [])
theorem fB (F:KF R):Cm (Anc N) Dr N 15 [] [] F=(Jh N (fA F)):=by
 rw[YV]
 kernel_rfl
def YW (a:LA) (h:Am) (k:KF R):O R :=
 match a,h with
 | [],[]=>(Jh N (fA k))
 | _,_=>none
theorem fC:Ao N 15 @YW:=by
 intro R Q a h k j;unfold YW;split;exact Ay (fB ..) (fB ..) ⟨uB N,dG N,qb N,Ahg N,Aid N,eI N,trivial⟩;exact A0
def Aie:=Az (fC N)
def Aif:=Cj (fC N)
def Atu (N:Nat) (b c d:Int) (r0:Bool→O R):O R :=
 (cond ((decide (b≥c))==true) (r0 (cond true (decide (b≤d)) false)) (r0 false))
def Ky:=(Af (@Atu R)).1
theorem Aig:@Ky R=@Atu R:=(Af _).2
def Aqf (F:KF R):Bool→O R:=(fun e=>F (.bool e) [])
theorem Aqg (b c d:Int) (F:KF R):Cm [] Dr N 51 [(iv b),(iv c),(iv d)] [] F=(Ky N b c d (Aqf F)):=by
 rw[Aig]
 kernel_rfl
def Aih (a:LA) (h:Am) (k:KF R):O R :=
 match a,h with
 | [(.int .i64 b),(.int .i64 c),(.int .i64 d)],[]=>(Ky N b c d (Aqf k))
 | _,_=>none
theorem Aqh:Ao N 51 @Aih:=by
 intro R Q a h k j;unfold Aih;split;exact Ay (Aqg ..) (Aqg ..) trivial;exact A0
def Aqi:=Az (Aqh N)
def Aqj:=Cj (Aqh N)
def DE (N:Nat) (r0:Bool→O R) (c:Bool) (b:LA):O R :=
 (An .i64 (b.drop 19) fun d=>(cond ((d != 0)==true) (An .i64 (b.drop 19) fun e=>(cond ((cond true (e != 1) false)==true) (An .i64 (b.drop 19) fun f=>(cond ((cond true (f != 2) false)==false) (An .i64 (b.drop 20) fun g=>(cond ((cond false true (decide (g<1)))==false) (An .i64 (b.drop 20) fun i=>(cond (cond false true (decide (i>48))) (r0 false) (An .i64 (b.drop 19) fun l=>(cond ((l != 1)==false) (An .i64 (b.drop 20) fun m=>(An .i64 (b.drop 12) fun n=>(r0 (cond false true (decide (m≤n)))))) (r0 true))))) (r0 false))) (r0 false))) (An .i64 (b.drop 20) fun o=>(cond ((cond false true (decide (o<1)))==false) (An .i64 (b.drop 20) fun p=>(cond (cond false true (decide (p>48))) (r0 false) (An .i64 (b.drop 19) fun q=>(cond ((q != 1)==false) (An .i64 (b.drop 20) fun r=>(An .i64 (b.drop 12) fun s=>(r0 (cond false true (decide (r≤s)))))) (r0 true))))) (r0 false))))) (An .i64 (b.drop 20) fun t=>(cond ((cond false true (decide (t<1)))==false) (An .i64 (b.drop 20) fun u=>(cond (cond false true (decide (u>48))) (r0 false) (An .i64 (b.drop 19) fun v=>(cond ((v != 1)==false) (An .i64 (b.drop 20) fun w=>(An .i64 (b.drop 12) fun x=>(r0 (cond false true (decide (w≤x)))))) (r0 true))))) (r0 false)))))
def VE (N:Nat) (r0:Bool→O R) (q0:O R) (b:LA) (c:Bool):O R :=
 (An .i64 (b.drop 10) fun y=>(cond ((decide (y<0))==false) (An .i64 (b.drop 10) fun z=>(cond ((cond false true (decide (z>24)))==false) (An .i64 (b.drop 11) fun aa=>(cond ((cond false true (decide (aa<0)))==false) (An .i64 (b.drop 11) fun ab=>(cond ((cond false true (decide (ab>24)))==false) (An .i64 (b.drop 12) fun ac=>(cond ((cond false true (decide (ac<0)))==false) (An .i64 (b.drop 12) fun ad=>(cond ((cond false true (decide (ad>24)))==false) (An .i64 (b.drop 15) fun ae=>(cond ((cond false true (decide (ae<0)))==false) (An .i64 (b.drop 15) fun af=>(cond (cond false true (decide (af>24))) (r0 false) q0)) (r0 false))) (r0 false))) (r0 false))) (r0 false))) (r0 false))) (r0 false))) (r0 false)))
def Kz:=(Af (fun (N:Nat) (b:LA) (c:Bool) (r0:Bool→O R)=>(VE N r0 (DE N r0 c b) b c))).1
theorem lE (b c r0):(@Kz R N b c r0)=(VE N r0 (DE N r0 c b) b c):=by rw[Kz,(Af _).2]
def qp:Hints:={ H:=(hS hL (hJ [1] hL hL)) }
def Atv (F:KF R):=Ja Tryz.f52 qp [] [] N F
def DF (F:KF R):Bool→O R:=(fun ag=>F (.bool ag) [])
def Atw (c:Bool) (b:LA):St:=⟨[(1,(op 0))],(hq [(bP c 0 b)])⟩
def Atx (F:KF R):=Atv N F [1,1] []
theorem Aam (F:KF R) (c:Bool) (b:LA):A8 (Atx N F) (Atw c b)=(DE N (DF F) c b):=by
 kernel_rfl
theorem qq (b:LA) (c:Bool) (F:KF R):Cm [] qp N 52 [(.pagg b c)] [] F=(Kz N b c (DF F)):=by
 rw[lE]
 exact Eq.trans (by kernel_rfl) (Bn (VE N (DF F) · b c) ((Ar ..).trans (Aam N F c b)):_)
def lF (a:LA) (h:Am) (k:KF R):O R :=
 match a,h with
 | [(.pagg b c)],[]=>(Kz N b c (DF k))
 | _,_=>none
theorem qr:Ao N 52 @lF:=by
 intro R Q a h k j;unfold lF;split;exact Ay (qq ..) (qq ..) trivial;exact A0
def Qd:=Az (qr N)
def Qe:=Cj (qr N)
def Qf (r0:Bool→O R) (d:Bool) (c:LA) (k0:Int→Int→O R) (e b:Int):O R :=
 (Co 2 (c.drop 4) fun ac g=>(cond (decide (b<((g:Nat):Int))) (Co 2 (c.drop 4) fun f i=>(cond (Ac b i) (cond (Nat.ble 2 ((f.drop ((b.toNat)*2)).length)) (cond ((!d)||(Ba ((f.drop ((b.toNat)*2)).take 2))) (cond ((Nat.beq (((f.drop ((b.toNat)*2)).take 2).length) 2)&&((Nat.ble 2 2)&&(!false))) (An .i64 (setCells [(.int .i64 0),(.int .i64 0)] 0 ((f.drop ((b.toNat)*2)).take 2)) fun l=>(Ky N l 1 1048576 (fun m=>(cond ((!m)==false) (An .i64 ((setCells [(.int .i64 0),(.int .i64 0)] 0 ((f.drop ((b.toNat)*2)).take 2)).drop 1) fun o=>(Ky N o (-1048576) 1048576 (fun p=>(cond ((cond false true (!p))==false) (cond ((decide (b>0))==true) (An .i64 ((setCells [(.int .i64 0),(.int .i64 0)] 0 ((f.drop ((b.toNat)*2)).take 2)).drop 1) fun q=>(Co 2 (c.drop 4) fun r s=>(cond (Ac (wrap .i64 (b - 1)) s) (An .i64 ((r.drop (((wrap .i64 (b - 1)).toNat)*2)).drop 1) fun t=>(cond ((cond false true (cond true (decide (q<t)) false))==false) (An .i64 (setCells [(.int .i64 0),(.int .i64 0)] 0 ((f.drop ((b.toNat)*2)).take 2)) fun u=>(cond (cond false true (decide (u>e))) (r0 false) (An .i64 (setCells [(.int .i64 0),(.int .i64 0)] 0 ((f.drop ((b.toNat)*2)).take 2)) fun v=>(k0 (wrap .i64 (e - v)) (wrap .i64 (b+1)))))) (r0 false))) none))) (An .i64 (setCells [(.int .i64 0),(.int .i64 0)] 0 ((f.drop ((b.toNat)*2)).take 2)) fun w=>(cond (cond false true (decide (w>e))) (r0 false) (An .i64 (setCells [(.int .i64 0),(.int .i64 0)] 0 ((f.drop ((b.toNat)*2)).take 2)) fun x=>(k0 (wrap .i64 (e - x)) (wrap .i64 (b+1))))))) (r0 false))))) (r0 false))))) none) none) none) none)) (r0 (e==0))))
def Fn (r0:Bool→O R) (d:Bool) (c:LA):Nat→Int→Int→O R
 | 0,_,_=>none
 | n+1,e,b=>(Qf N r0 d c (Fn r0 d c n) e b)
def X5 (N:Nat) (r0:Bool→O R) (q0:Int→Int→O R) (c:LA) (d:Bool):O R :=
 (Co 2 (c.drop 4) fun ad y=>(cond (decide (((y:Nat):Int)>8)) (r0 false) (An .i64 (c.drop 3) fun z=>(An .i64 (c.drop 2) fun aa=>(q0 (wrap .i64 (z - aa)) 0)))))
def Qg:=(Af (fun (N:Nat) (c:LA) (d:Bool) (r0:Bool→O R)=>(X5 N r0 (fun e b=>(Fn N r0 d c N e b)) c d))).1
theorem QD (c d r0):(@Qg R N c d r0)=(X5 N r0 (fun e b=>(Fn N r0 d c N e b)) c d):=by rw[Qg,(Af _).2]
def YX:Hints:={ H:=(hS hL (hS hL (hS hL (hS (hS hL (hS (hP [1,3,4] hL) hL)) hL)))) }
def fD:Ef:=[(51,Aqi N)]
def Aan (F:KF R):=Ja Tryz.f53 YX (fD N) [] N F
def Ng (F:KF R):Bool→O R:=(fun ab=>F (.bool ab) [])
def Aao (d:Bool) (c:LA) (e b:Int):St:=⟨[(1,(op 0)),(3,(iv e)),(4,(iv b))],(hq [(bP d 0 c)])⟩
def Aap (F:KF R):=Aan N F [1,1,1,0,1,0] []
theorem HB (F:KF R) (d:Bool) (c:LA):∀ (n:Nat) (e b:Int),Ap (Aap N F) n (Aao d c e b)=(Fn N (Ng F) d c n e b)
 | 0,_,_=>by kernel_rfl
 | n+1,e,b=>Eq.trans (by kernel_rfl) (Bn (Qf N (Ng F) d c · e b) (funext fun e=>funext fun b=>(HB F d c n e b)):_)
theorem YY (c:LA) (d:Bool) (F:KF R):Cm (fD N) YX N 53 [(.pagg c d)] [] F=(Qg N c d (Ng F)):=by
 rw[QD]
 exact Eq.trans (by kernel_rfl) (Bn (X5 N (Ng F) · c d) (funext fun e=>funext fun b=>(Aj ..).trans (HB N F d c N e b)):_)
def QE (a:LA) (h:Am) (k:KF R):O R :=
 match a,h with
 | [(.pagg c d)],[]=>(Qg N c d (Ng k))
 | _,_=>none
theorem YZ:Ao N 53 @QE:=by
 intro R Q a h k j;unfold QE;split;exact Ay (YY ..) (YY ..) ⟨Aqj N,trivial⟩;exact A0
def Aaq:=Az (YZ N)
def Aar:=Cj (YZ N)
end
end Gx

namespace Gx
open Go Go.Proofs
inductive Sl (α:Type) where
 | nil
 | of (l:List α) (t o:Bool)
def Sl.l {α:Type}:Sl α→List α
 | .nil=>[]
 | .of l _ _=>l
def Sl.av {α:Type} (sz:Nat) (e:α→LA):Sl α→AV
 | .nil=>.nsl
 | .of l t o=>.imm (l.flatMap e) l.length sz t o
def HC (n:Int):LA:=[.int .i64 n]
def Av (l:List Int):LA:=l.map fun n=>.int .i64 n
theorem Fz:∀ l:List Int,l.flatMap HC=Av l
 | []=>rfl
 | a::r=>by rw[List.flatMap_cons,Fz r];rfl
theorem Ew (l:List Int):(Av l).length=l.length:=by simp[Av]
structure SegD where
 width:Int
 price:Int
structure UnitD where
 name:List UInt8
 bus:Int
 min:Int
 max:Int
 segs:Sl SegD
 noLoad:Int
 rampUp:Int
 rampDown:Int
 startRamp:Int
 stopRamp:Int
 upTime:Int
 downTime:Int
 startTime:Int
 hotCost:Int
 coldCost:Int
 hotHours:Int
 reserve:Int
 reservePrice:Int
 away:Sl Int
 state:Int
 hours:Int
 output:Int
def SegD.av (s:SegD):LA:=[.int .i64 s.width,.int .i64 s.price]
def UnitD.av (u:UnitD):LA:=[.str u.name,.int .i64 u.bus,.int .i64 u.min,.int .i64 u.max,u.segs.av 2 SegD.av,.int .i64 u.noLoad,.int .i64 u.rampUp,.int .i64 u.rampDown,.int .i64 u.startRamp,.int .i64 u.stopRamp,.int .i64 u.upTime,.int .i64 u.downTime,.int .i64 u.startTime,.int .i64 u.hotCost,.int .i64 u.coldCost,.int .i64 u.hotHours,.int .i64 u.reserve,.int .i64 u.reservePrice,u.away.av 1 HC,.int .i64 u.state,.int .i64 u.hours,.int .i64 u.output]
section
variable {R:Type}
theorem H8 {α:Type} {sz:Nat} {e:α→LA} {s:Sl α} {r:LA} {f:LA→Nat→O R}:Co sz (s.av sz e::r) f=f (s.l.flatMap e) s.l.length:=by
 cases s<;>simp[Co,Sl.av,Sl.l,A6r]
theorem Bl {α:Type} {e:α→LA} {sz:Nat} (k:∀ a,(e a).length=sz):∀ (l:List α) (j:Nat) (h:j<l.length),List.drop (j*sz) (l.flatMap e)=e l[j]++(l.drop (j+1)).flatMap e
 | a::r,0,_=>by simp
 | a::r,j+1,h=>by
  have:=Bl k r j (by simpa using h)
  rw[List.flatMap_cons,List.drop_append,k,show(j+1)*sz - sz=j*sz by rw[Nat.add_mul];omega,List.drop_eq_nil_of_le (by rw[k,Nat.add_mul];omega)]
  simpa using this
theorem QF {l:List Int} {i:Nat} (h:i<l.length) {f:Int→O R}:An .i64 (List.drop i (Av l)) f=f l[i]:=by
 rw[Av,List.drop_eq_getElem_cons (by simpa using h)];simp[A4]
theorem D8 {l:List Int} {i:Nat} (h:i<l.length) {f:Int→O R}:An .i64 (List.drop ((Int.toNat (i:Int))*1) (Av l)) f=f l[i]:=by
 rw[Int.toNat_natCast,Nat.mul_one,QF h]
theorem Ci {α:Type} {l:List α} {j:Nat} (h:j<l.length):l.drop j=l[j]::l.drop (j+1):=List.drop_eq_getElem_cons h
theorem Es {α:Type} {l:List α} {j:Nat} (h:l.length≤j):l.drop j=[]:=List.drop_eq_nil_of_le h
theorem cK {α:Type} (K:α→O R) (c:Bool) (a b:α):cond c (K a) (K b)=K (cond c a b):=by cases c<;>rfl
theorem B7 (u:UnitD):List.take 22 u.av=u.av:=rfl
theorem Du (u:UnitD):Nat.ble 22 (List.length u.av)=true:=rfl
theorem u2 {u:UnitD} {f:Int→O R}:An .i64 (List.drop 2 u.av) f=f u.min:=A4
theorem u3 {u:UnitD} {f:Int→O R}:An .i64 (List.drop 3 u.av) f=f u.max:=A4
theorem u5 {u:UnitD} {f:Int→O R}:An .i64 (List.drop 5 u.av) f=f u.noLoad:=A4
theorem u6 {u:UnitD} {f:Int→O R}:An .i64 (List.drop 6 u.av) f=f u.rampUp:=A4
theorem u7 {u:UnitD} {f:Int→O R}:An .i64 (List.drop 7 u.av) f=f u.rampDown:=A4
theorem u8 {u:UnitD} {f:Int→O R}:An .i64 (List.drop 8 u.av) f=f u.startRamp:=A4
theorem u9 {u:UnitD} {f:Int→O R}:An .i64 (List.drop 9 u.av) f=f u.stopRamp:=A4
theorem Bf0 {u:UnitD} {f:Int→O R}:An .i64 (List.drop 10 u.av) f=f u.upTime:=A4
theorem Be0 {u:UnitD} {f:Int→O R}:An .i64 (List.drop 11 u.av) f=f u.downTime:=A4
theorem Bd8 {u:UnitD} {f:Int→O R}:An .i64 (List.drop 12 u.av) f=f u.startTime:=A4
theorem Bhe {u:UnitD} {f:Int→O R}:An .i64 (List.drop 13 u.av) f=f u.hotCost:=A4
theorem Bhf {u:UnitD} {f:Int→O R}:An .i64 (List.drop 14 u.av) f=f u.coldCost:=A4
theorem Bgb {u:UnitD} {f:Int→O R}:An .i64 (List.drop 15 u.av) f=f u.hotHours:=A4
theorem Bg2 {u:UnitD} {f:Int→O R}:An .i64 (List.drop 16 u.av) f=f u.reserve:=A4
theorem Bhg {u:UnitD} {f:Int→O R}:An .i64 (List.drop 17 u.av) f=f u.reservePrice:=A4
theorem A93 {u:UnitD} {f:Int→O R}:An .i64 (List.drop 19 u.av) f=f u.state:=A4
theorem Bg3 {u:UnitD} {f:Int→O R}:An .i64 (List.drop 20 u.av) f=f u.hours:=A4
theorem Bf1 {u:UnitD} {f:Int→O R}:An .i64 (List.drop 21 u.av) f=f u.output:=A4
theorem u4 {u:UnitD} {f:LA→Nat→O R}:Co 2 (List.drop 4 u.av) f=f (u.segs.l.flatMap SegD.av) u.segs.l.length:=H8
theorem Bd9 {u:UnitD} {f:LA→Nat→O R}:Co 1 (List.drop 18 u.av) f=f (Av u.away.l) u.away.l.length:=by rw[←Fz];exact H8
def Fq (lo hi x:Int):Bool:=decide (lo≤x)&&decide (x≤hi)
theorem qs {N:Nat} {b c:Int} {e f:Bool} {K:Bool→O R} (l:List Int) (hs:l.length≤1000000000000):∀ (m j fuel:Nat),j+m=l.length→m<fuel →
  Jz N K b c (Av l) l.length e f fuel (l.length:Int) (j:Int)=K ((l.drop j).all (Fq b c))
 | 0,j,fuel+1,k,_=>by
  rw[Jz];unfold Uu
  rw[Lm (by omega),cf,Es (by omega),List.all_nil]
 | m+1,j,fuel+1,k,C=>by
  rw[Jz];unfold Uu
  have h:j<l.length:=by omega
  rw[Jy h,ct,Aa h,ct,D8 h,wS (by omega),qs l hs m (j+1) fuel (by omega) (by omega),Ci h,List.all_cons]
  simp only[cK];congr 1
  generalize (List.drop (j+1) l).all (Fq b c)=t
  rw[Bool.eq_iff_iff];cases t<;>simp[Fq]<;>omega
theorem DG {N:Nat} {b c:Int} {e f:Bool} {K:Bool→O R} (l:List Int) (n:Nat) (hn:n=l.length) (hN:l.length<N) (hs:l.length≤1000000000000):Dt N b c (Av l) n e f K=K (l.all (Fq b c)):=by
 subst hn
 rw[d9];unfold KB
 have:=qs (N:=N) (b:=b) (c:=c) (e:=e) (f:=f) (K:=K) l hs l.length 0 N (by omega) hN
 simpa using this
theorem iK {N:Nat} {a b c:Int} {K:Bool→O R}:Ky N a b c K=K (Fq b c a):=by
 rw[Aig];unfold Atu
 simp only[cK];congr 1
 rw[Bool.eq_iff_iff];simp[Fq]
def Cw (u:UnitD):Bool:=Fq 0 24 u.upTime&&(Fq 0 24 u.downTime&&(Fq 0 24 u.startTime&&(Fq 0 24 u.hotHours&&((u.state==0||(u.state==1||u.state==2))&&(Fq 1 48 u.hours&&(!(u.state==1)||decide (u.hours≤u.startTime)))))))
theorem uZ {N:Nat} {u:UnitD} {b:Bool} {K:Bool→O R}:KC N K b u.av=K (Fq 1 48 u.hours&&(!(u.state==1)||decide (u.hours≤u.startTime))):=by
 unfold KC
 simp only[Bg3,A93,Bd8,cK];congr 1
 rw[Bool.eq_iff_iff];simp[Fq];omega
theorem u_ {N n:Nat} {u:UnitD} {d e f g:Int} {b:Bool} {K:Bool→O R}:Ts N K d e f g b u.av (n+5) 0 =
  K (Fq 0 24 d&&(Fq 0 24 e&&(Fq 0 24 f&&(Fq 0 24 g&&((u.state==0||(u.state==1||u.state==2))&&(Fq 1 48 u.hours&&(!(u.state==1)||decide (u.hours≤u.startTime)))))))):=by
 have a1:IntKind.wrap .i64 ((0:Int)+1)=1:=by decide
 have a2:IntKind.wrap .i64 ((1:Int)+1)=2:=by decide
 have a3:IntKind.wrap .i64 ((2:Int)+1)=3:=by decide
 have a4:IntKind.wrap .i64 ((3:Int)+1)=4:=by decide
 simp only[Ts,UJ,uZ,a1,a2,a3,a4,A93]
 simp[Ac,cK];congr 1
 generalize (decide (u.hours≤u.startTime))=t
 generalize Fq 1 48 u.hours=s
 by_cases k:u.state=0<;>by_cases C:u.state=1<;>by_cases D:u.state=2<;>first | omega | skip
 all_goals (rw[Bool.eq_iff_iff];cases s<;>cases t<;>simp[Fq,k,C,D]<;>omega)
theorem Ns {N:Nat} {u:UnitD} {b:Bool} {K:Bool→O R} (hN:64≤N):Oy N u.av b K=K (Cw u):=by
 rw[pg];unfold iC
 obtain⟨n,rfl⟩:∃ n,N=n+5:=⟨N - 5,by omega⟩
 simp only[Bf0,Be0,Bd8,Bgb,u_];rfl
end
end Gx

namespace Gx
open Go Go.Proofs
section
variable {R:Type}
theorem K3 {N:Nat} {u:UnitD} {b:Bool} {K:Bool→O R}:Kz N u.av b K=K (Cw u):=by
 rw[lE];unfold VE DE
 simp only[Bf0,Be0,Bd8,Bgb,A93,Bg3]
 simp[cK];congr 1
 unfold Cw
 by_cases k:u.state=0<;>by_cases C:u.state=1<;>by_cases D:u.state=2<;>first | omega | skip
 all_goals (rw[Bool.eq_iff_iff];simp[Fq,k,C,D]<;>omega)
theorem Bgc {N:Nat} {b c x:Int} {e f:Bool} {K:Bool→O R} (hN:64≤N):Dt N b c [(.int .i64 x)] 1 e f K=K (Fq b c x):=by
 have:=DG (N:=N) (b:=b) (c:=c) (e:=e) (f:=f) (K:=K) [x] 1 rfl (by simp;omega) (by simp)
 simpa[Av] using this
theorem Bhx {N:Nat} {b c x y:Int} {e f:Bool} {K:Bool→O R} (hN:64≤N):Dt N b c [(.int .i64 x),(.int .i64 y)] 2 e f K=K (Fq b c x&&Fq b c y):=by
 have:=DG (N:=N) (b:=b) (c:=c) (e:=e) (f:=f) (K:=K) [x,y] 2 rfl (by simp;omega) (by simp)
 simpa[Av] using this
theorem Bhy {N:Nat} {b c x y z w:Int} {e f:Bool} {K:Bool→O R} (hN:64≤N):Dt N b c [(.int .i64 x),(.int .i64 y),(.int .i64 z),(.int .i64 w)] 4 e f K=K (Fq b c x&&(Fq b c y&&(Fq b c z&&Fq b c w))):=by
 have:=DG (N:=N) (b:=b) (c:=c) (e:=e) (f:=f) (K:=K) [x,y,z,w] 4 rfl (by simp;omega) (by simp)
 simpa[Av] using this
theorem Bhz {N:Nat} {b c x y z w v:Int} {e f:Bool} {K:Bool→O R} (hN:64≤N):Dt N b c [(.int .i64 x),(.int .i64 y),(.int .i64 z),(.int .i64 w),(.int .i64 v)] 5 e f K=K (Fq b c x&&(Fq b c y&&(Fq b c z&&(Fq b c w&&Fq b c v)))):=by
 have:=DG (N:=N) (b:=b) (c:=c) (e:=e) (f:=f) (K:=K) [x,y,z,w,v] 5 rfl (by simp;omega) (by simp)
 simpa[Av] using this
def Gq (p:Int):List SegD→Bool
 | []=>true
 | s::r=>Fq 1 1048576 s.width&&(Fq (-1048576) 1048576 s.price&&(decide (p≤s.price)&&Gq s.price r))
def bL:List SegD→Int
 | []=>0
 | s::r=>s.width+bL r
def yS (l:List SegD):Nat→Int
 | 0=>-1048576
 | j+1=>((l[j]?).map (·.price)).getD 0
theorem VF {l:List SegD} {j:Nat} (h:j<l.length):yS l (j+1)=l[j].price:=by simp[yS,h]
theorem ua {l:List SegD} {j:Nat} (h:j<l.length):List.drop ((Int.toNat (j:Int))*2) (l.flatMap SegD.av)=(.int .i64 l[j].width)::(.int .i64 l[j].price)::(l.drop (j+1)).flatMap SegD.av:=by
 rw[Int.toNat_natCast,Bl (e:=SegD.av) (sz:=2) (fun _=>rfl) _ _ h];rfl
theorem Aii {x y:Int} {f:Int→O R}:An .i64 (setCells [(.int .i64 0),(.int .i64 0)] 0 [(.int .i64 x),(.int .i64 y)]) f=f x:=rfl
theorem iL {x y:Int} {f:Int→O R}:An .i64 (List.drop 1 (setCells [(.int .i64 0),(.int .i64 0)] 0 [(.int .i64 x),(.int .i64 y)])) f=f y:=rfl
theorem yT:∀ {l:List SegD} {p:Int},Gq p l=true→0≤bL l
 | [],_,_=>by simp[bL]
 | s::r,p,h=>by
  simp[Gq,Fq] at h
  have:=yT h.2.2.2
  simp[bL];omega
theorem A5n {N:Nat} {u:UnitD} {b:Bool} {K:Bool→O R} (hN:64≤N) (F:0≤u.min∧u.min≤1048576) (G:0≤u.max∧u.max≤1048576) (I:u.segs.l.length≤8):∀ (m j fuel:Nat) (g:Int),j+m=u.segs.l.length→m<fuel→(0≤g∧g≤1048576*(j:Int)) →
  C5 N K (u.segs.l.flatMap SegD.av) u.segs.l.length b u.av fuel g (u.segs.l.length:Int) (j:Int)=K (Gq (yS u.segs.l j) (u.segs.l.drop j)&&(g+bL (u.segs.l.drop j)==u.max - u.min))
 | 0,j,fuel+1,g,L,_,_=>by
  rw[C5];unfold Jd
  rw[Lm (by omega),cf,u3,u2,i64 (by omega),Es (l:=u.segs.l) (by omega)]
  simp[Gq,bL]
 | m+1,j,fuel+1,g,L,T,U=>by
  rw[C5];unfold Jd
  have h:j<u.segs.l.length:=by omega
  rw[Jy h,ct,Aa h,ct,ua h]
  have p0:List.take 2 ((AV.int .i64 u.segs.l[j].width)::(AV.int .i64 u.segs.l[j].price)::(u.segs.l.drop (j+1)).flatMap SegD.av)=[(.int .i64 u.segs.l[j].width),(.int .i64 u.segs.l[j].price)]:=rfl
  rw[p0,show Nat.ble 2 (List.length ((AV.int .i64 u.segs.l[j].width)::(AV.int .i64 u.segs.l[j].price)::(u.segs.l.drop (j+1)).flatMap SegD.av))=true by simp,ct]
  rw[show((!b)||Ba [(AV.int .i64 u.segs.l[j].width),(.int .i64 u.segs.l[j].price)])=true by cases b<;>rfl,ct]
  rw[show((Nat.beq (List.length [(AV.int .i64 u.segs.l[j].width),(.int .i64 u.segs.l[j].price)]) 2)&&((Nat.ble 2 2)&&(!false)))=true from rfl,ct,Aii,iL,Bgc hN]
  simp only[Bgc hN]
  rw[Ci h,Gq,bL]
  cases M:Fq 1 1048576 u.segs.l[j].width with
  | false=>simp
  | true =>
   cases D:Fq (-1048576) 1048576 u.segs.l[j].price with
   | false=>simp
   | true =>
    simp only[Fq,Bool.and_eq_true,decide_eq_true_eq] at M D
    have step:=A5n (b:=b) (K:=K) hN F G I m (j+1) fuel (g+u.segs.l[j].width) (by omega) (by omega) (by omega)
    rw[VF h] at step
    have e1:IntKind.wrap .i64 (g+u.segs.l[j].width)=g+u.segs.l[j].width:=i64 (by omega)
    have S:IntKind.wrap .i64 ((j:Int)+1)=((j+1:Nat):Int):=wS (by omega)
    unfold Kh
    simp only[u4,iL,Aii,e1,S,step]
    rcases j with _ | j
    ·simp[yS,D.1,Int.add_assoc]
    ·have k:j<u.segs.l.length:=by omega
     rw[wP (by omega),Aa k,ct,ua k,A2o,ct]
     rw[show ∀ r:LA,List.drop 1 ((AV.int .i64 u.segs.l[j].width)::(AV.int .i64 u.segs.l[j].price)::r)=(AV.int .i64 u.segs.l[j].price)::r from fun _=>rfl,A4,VF k]
     simp only[Bool.not_true,beq_self_eq_true,cK,Int.add_assoc,Bool.true_and]
     simp only[cond_true,cond_false]
     congr 1
     by_cases C:u.segs.l[j+1].price<u.segs.l[j].price
     ·simp[C,show ¬ u.segs.l[j].price≤u.segs.l[j+1].price by omega]
     ·simp[C,show u.segs.l[j].price≤u.segs.l[j+1].price by omega]
def lG (u:UnitD):Bool:=decide (u.segs.l.length≤8)&&(Gq (-1048576) u.segs.l&&(bL u.segs.l==u.max - u.min))
theorem Bcl {N:Nat} {u:UnitD} {b:Bool} {K:Bool→O R} (hN:64≤N) (C:0≤u.min∧u.min≤1048576) (D:0≤u.max∧u.max≤1048576):Fv N u.av b K=K (lG u):=by
 rw[Za];unfold N8
 rw[u4]
 by_cases k:u.segs.l.length≤8
 ·rw[show decide ((u.segs.l.length:Int)>8)=false by simp;omega,cf,u4]
  have:=A5n (b:=b) (K:=K) hN C D k u.segs.l.length 0 N 0 (by omega) (by omega) (by omega)
  simpa[lG,k,yS] using this
 ·rw[show decide ((u.segs.l.length:Int)>8)=true by simp;omega,ct]
  simp[lG,k]
end
end Gx

namespace Gx
open Go Go.Proofs
open IntKind (wrap)
set_option maxRecDepth 100000
noncomputable section
variable {R:Type} (N:Nat)
def X6 (r0:Bool→O R) (c:Int) (d:Bool) (b:LA) (k3:Int→O R) (e:Int):O R :=
 (Co 1 (b.drop 18) fun bh f=>(cond (decide (e<((f:Nat):Int))) (Co 1 (b.drop 18) fun g i=>(cond (Ac e i) (An .i64 (g.drop ((e.toNat)*1)) fun l=>(Ky N l 0 (wrap .i64 (c - 1)) (fun m=>(cond ((!m)==false) (cond ((decide (e>0))==true) (Co 1 (b.drop 18) fun o p=>(cond (Ac e p) (An .i64 (o.drop ((e.toNat)*1)) fun q=>(Co 1 (b.drop 18) fun r s=>(cond (Ac (wrap .i64 (e - 1)) s) (An .i64 (r.drop (((wrap .i64 (e - 1)).toNat)*1)) fun t=>(cond (cond false true (cond true (decide (q≤t)) false)) (r0 false) (k3 (wrap .i64 (e+1))))) none))) none)) (k3 (wrap .i64 (e+1)))) (r0 false))))) none)) (An .i64 (b.drop 19) fun u=>(cond (u==2) (An .i64 (b.drop 21) fun v=>(An .i64 (b.drop 2) fun w=>(An .i64 (b.drop 3) fun x=>(Ky N v w x (fun y=>(r0 y)))))) (An .i64 (b.drop 21) fun z=>(r0 (z==0)))))))
def Qh (r0:Bool→O R) (c:Int) (d:Bool) (b:LA):Nat→Int→O R
 | 0,_=>none
 | n+1,e=>(X6 N r0 c d b (Qh r0 c d b n) e)
def NK (N:Nat) (r0:Bool→O R) (c:Int) (d:Bool) (b:LA) (q3:Int→O R):O R :=
 (q3 0)
def VG (r0:Bool→O R) (c:Int) (d:Bool) (b:LA):O R:=(NK N r0 c d b (fun e=>(Qh N r0 c d b N e)))
def NL (r0:Bool→O R) (c:Int) (d:Bool) (b:LA) (q2:O R):O R :=
 (An .i64 (b.drop 5) fun aa=>(Ky N aa 0 1048576 (fun ab=>(cond ((!ab)==false) (An .i64 (b.drop 13) fun ac=>(Ky N ac 0 1048576 (fun ad=>(cond ((cond false true (!ad))==false) (An .i64 (b.drop 14) fun ae=>(Ky N ae 0 1048576 (fun af=>(cond ((cond false true (!af))==false) (An .i64 (b.drop 17) fun ag=>(Ky N ag 0 1048576 (fun ah=>(cond (cond false true (!ah)) (r0 false) q2)))) (r0 false))))) (r0 false))))) (r0 false)))))
def VH (r0:Bool→O R) (c:Int) (d:Bool) (b:LA):O R:=(NL N r0 c d b (VG N r0 c d b))
def NM (r0:Bool→O R) (c:Int) (d:Bool) (b:LA) (q1:O R):O R :=
 (An .i64 (b.drop 6) fun ai=>(Ky N ai 0 1048576 (fun aj=>(cond ((!aj)==false) (An .i64 (b.drop 7) fun ak=>(Ky N ak 0 1048576 (fun al=>(cond ((cond false true (!al))==false) (An .i64 (b.drop 16) fun am=>(Ky N am 0 1048576 (fun an=>(cond ((cond false true (!an))==false) (An .i64 (b.drop 8) fun ao=>(An .i64 (b.drop 2) fun ap=>(An .i64 (b.drop 3) fun aq=>(Ky N ao ap aq (fun ar=>(cond ((cond false true (!ar))==false) (An .i64 (b.drop 9) fun au=>(An .i64 (b.drop 2) fun av=>(An .i64 (b.drop 3) fun aw=>(Ky N au av aw (fun ax=>(cond (cond false true (!ax)) (r0 false) q1)))))) (r0 false))))))) (r0 false))))) (r0 false))))) (r0 false)))))
def DH (r0:Bool→O R) (c:Int) (d:Bool) (b:LA):O R:=(NM N r0 c d b (VH N r0 c d b))
def VI (r0:Bool→O R) (q0:O R) (b:LA) (d:Bool) (c:Int):O R :=
 (Ky N c 1 24 (fun ay=>(cond ((!ay)==false) (cond (Nat.ble 22 (b.length)) (Kz N (b.take 22) d (fun az=>(cond ((cond false true (!az))==false) (An .i64 (b.drop 2) fun ba=>(Ky N ba 0 1048576 (fun bb=>(cond ((cond false true (!bb))==false) (An .i64 (b.drop 3) fun bc=>(An .i64 (b.drop 2) fun bd=>(Ky N bc bd 1048576 (fun be=>(cond ((cond false true (!be))==false) (cond (Nat.ble 22 (b.length)) (Qg N (b.take 22) d (fun bf=>(cond (cond false true (!bf)) (r0 false) q0))) none) (r0 false)))))) (r0 false))))) (r0 false)))) none) (r0 false))))
def EH:=(Af (fun (N:Nat) (b:LA) (d:Bool) (c:Int) (r0:Bool→O R)=>(VI N r0 (DH N r0 c d b) b d c))).1
theorem lH (b d c r0):(@EH R N b d c r0)=(VI N r0 (DH N r0 c d b) b d c):=by rw[EH,(Af _).2]
def qt:Hints:={ H:=(hS hL (hJ [1,2] hL (hJ [1,2] hL (hJ [1,2] hL (hS (hS hL (hS (hP [1,2,5] hL) hL)) hL))))) }
def yU:Ef:=[(51,Aqi N),(52,Qd N),(53,Aaq N)]
def DI (F:KF R):=Ja Tryz.f17 qt (yU N) [] N F
def E9 (F:KF R):Bool→O R:=(fun bg=>F (.bool bg) [])
def Aty (c:Int) (d:Bool) (b:LA) (e:Int):St:=⟨[(1,(iv c)),(2,(op 0)),(5,(iv e))],(hq [(bP d 0 b)])⟩
def Atz (F:KF R):=DI N F [1,1,1,1,0,1,0] []
def At0 (c:Int) (d:Bool) (b:LA):St:=⟨[(1,(iv c)),(2,(op 0))],(hq [(bP d 0 b)])⟩
def At1 (F:KF R):=DI N F [1,1,1,1] []
def At2 (c:Int) (d:Bool) (b:LA):St:=⟨[(1,(iv c)),(2,(op 0))],(hq [(bP d 0 b)])⟩
def At3 (F:KF R):=DI N F [1,1,1] []
def At4 (c:Int) (d:Bool) (b:LA):St:=⟨[(1,(iv c)),(2,(op 0))],(hq [(bP d 0 b)])⟩
def At5 (F:KF R):=DI N F [1,1] []
theorem Y_ (F:KF R) (c:Int) (d:Bool) (b:LA):∀ (n:Nat) (e:Int),Ap (Atz N F) n (Aty c d b e)=(Qh N (E9 F) c d b n e)
 | 0,_=>by kernel_rfl
 | n+1,e=>Eq.trans (by kernel_rfl) (Bn (X6 N (E9 F) c d b · e) (funext fun e=>(Y_ F c d b n e)):_)
theorem Aas (F:KF R) (c:Int) (d:Bool) (b:LA):A8 (At1 N F) (At0 c d b)=(VG N (E9 F) c d b):=by
 exact Eq.trans (by kernel_rfl) (Bn (NK N (E9 F) c d b ·) (funext fun e=>(Aj ..).trans (Y_ N F c d b N e)):_)
theorem Aat (F:KF R) (c:Int) (d:Bool) (b:LA):A8 (At3 N F) (At2 c d b)=(VH N (E9 F) c d b):=by
 exact Eq.trans (by kernel_rfl) (Bn (NL N (E9 F) c d b ·) ((Ar ..).trans (Aas N F c d b)):_)
theorem Aau (F:KF R) (c:Int) (d:Bool) (b:LA):A8 (At5 N F) (At4 c d b)=(DH N (E9 F) c d b):=by
 exact Eq.trans (by kernel_rfl) (Bn (NM N (E9 F) c d b ·) ((Ar ..).trans (Aat N F c d b)):_)
theorem qu (b:LA) (d:Bool) (c:Int) (F:KF R):Cm (yU N) qt N 17 [(.pagg b d),(iv c)] [] F=(EH N b d c (E9 F)):=by
 rw[lH]
 exact Eq.trans (by kernel_rfl) (Bn (VI N (E9 F) · b d c) ((Ar ..).trans (Aau N F c d b)):_)
def lI (a:LA) (h:Am) (k:KF R):O R :=
 match a,h with
 | [(.pagg b d),(.int .i64 c)],[]=>(EH N b d c (E9 k))
 | _,_=>none
theorem qv:Ao N 17 @lI:=by
 intro R Q a h k j;unfold lI;split;exact Ay (qu ..) (qu ..) ⟨Aqj N,Qe N,Aar N,trivial⟩;exact A0
def At6:=Az (qv N)
def At7:=Cj (qv N)
def VJ (N:Nat) (r0:Bool→O R) (c:LA) (b:Nat) (d e:Bool) (k0:Int→O R) (f:Int):O R :=
 (cond (decide (f<((b:Nat):Int))) (cond (Ac f b) (Co 1 ((c.drop ((f.toNat)*3)).drop 1) fun m g=>(cond ((decide (((g:Nat):Int)>4))==false) (cond (Ac f b) (Co 1 ((c.drop ((f.toNat)*3)).drop 2) fun o i=>(cond (cond false true (decide (((i:Nat):Int)>4))) (r0 false) (k0 (wrap .i64 (f+1))))) none) (r0 false))) none) (r0 true))
def Xf (r0:Bool→O R) (c:LA) (b:Nat) (d e:Bool):Nat→Int→O R
 | 0,_=>none
 | n+1,f=>(VJ N r0 c b d e (Xf r0 c b d e n) f)
def Ab8 (N:Nat) (r0:Bool→O R) (q0:Int→O R) (c:LA) (b:Nat) (d e:Bool):O R :=
 (cond (decide (((b:Nat):Int)>30)) (r0 false) (q0 0))
def nY:=(Af (fun (N:Nat) (c:LA) (b:Nat) (d e:Bool) (r0:Bool→O R)=>(Ab8 N r0 (fun f=>(Xf N r0 c b d e N f)) c b d e))).1
theorem Aij (c b d e r0):(@nY R N c b d e r0)=(Ab8 N r0 (fun f=>(Xf N r0 c b d e N f)) c b d e):=by rw[nY,(Af _).2]
def Aqk:Hints:={ H:=(hS hL (hS hL (hS (hS hL (hS (hP [0,3] hL) hL)) hL))) }
def A8s (F:KF R):=Ja Tryz.f18 Aqk [] [] N F
def QG (F:KF R):Bool→O R:=(fun l=>F (.bool l) [])
def A8t (c:LA) (b:Nat) (d e:Bool) (f:Int):St:=⟨[(0,(.imm c b 3 d e)),(3,(iv f))],[]⟩
def A8u (F:KF R):=A8s N F [1,1,0,1,0] []
theorem qw (F:KF R) (c:LA) (b:Nat) (d e:Bool):∀ (n:Nat) (f:Int),Ap (A8u N F) n (A8t c b d e f)=(Xf N (QG F) c b d e n f)
 | 0,_=>by kernel_rfl
 | n+1,f=>Eq.trans (by kernel_rfl) (Bn (VJ N (QG F) c b d e · f) (funext fun f=>(qw F c b d e n f)):_)
theorem Aql (c:LA) (b:Nat) (d e:Bool) (F:KF R):Cm [] Aqk N 18 [(.imm c b 3 d e)] [] F=(nY N c b d e (QG F)):=by
 rw[Aij]
 exact Eq.trans (by kernel_rfl) (Bn (Ab8 N (QG F) · c b d e) (funext fun f=>(Aj ..).trans (qw N F c b d e N f)):_)
def Aik (a:LA) (h:Am) (k:KF R):O R :=
 match a,h with
 | [(.imm c b 3 d e)],[]=>(nY N c b d e (QG k))
 | _,_=>none
theorem Aqm:Ao N 18 @Aik:=by
 intro R Q a h k j;unfold Aik;split;exact Ay (Aql ..) (Aql ..) trivial;exact A0
def A8v:=Az (Aqm N)
def A8w:=Cj (Aqm N)
end
end Gx

namespace Gx
open Go Go.Proofs
section
variable {R:Type}
theorem A5o {N:Nat} {u:UnitD} {b:Bool} {K:Bool→O R} (G:u.segs.l.length≤8):∀ (m j fuel:Nat) (d:Int),j+m=u.segs.l.length→m<fuel→(0≤d∧d≤1048576) →
  Fn N K b u.av fuel d (j:Int)=K (Gq (yS u.segs.l j) (u.segs.l.drop j)&&(bL (u.segs.l.drop j)==d))
 | 0,j,fuel+1,d,I,_,_=>by
  rw[Fn];unfold Qf
  rw[u4,Lm (by omega),cf,Es (l:=u.segs.l) (by omega)]
  congr 1
  rw[Bool.eq_iff_iff];simp[Gq,bL];omega
 | m+1,j,fuel+1,d,I,S,T=>by
  rw[Fn];unfold Qf
  have h:j<u.segs.l.length:=by omega
  rw[u4,Jy h,ct,u4,Aa h,ct,ua h]
  have p0:List.take 2 ((AV.int .i64 u.segs.l[j].width)::(AV.int .i64 u.segs.l[j].price)::(u.segs.l.drop (j+1)).flatMap SegD.av)=[(.int .i64 u.segs.l[j].width),(.int .i64 u.segs.l[j].price)]:=rfl
  rw[p0,show Nat.ble 2 (List.length ((AV.int .i64 u.segs.l[j].width)::(AV.int .i64 u.segs.l[j].price)::(u.segs.l.drop (j+1)).flatMap SegD.av))=true by simp,ct]
  rw[show((!b)||Ba [(AV.int .i64 u.segs.l[j].width),(.int .i64 u.segs.l[j].price)])=true by cases b<;>rfl,ct]
  rw[show((Nat.beq (List.length [(AV.int .i64 u.segs.l[j].width),(.int .i64 u.segs.l[j].price)]) 2)&&((Nat.ble 2 2)&&(!false)))=true from rfl,ct]
  simp only[Aii,iL,iK,u4]
  rw[Ci h,Gq,bL]
  cases L:Fq 1 1048576 u.segs.l[j].width with
  | false=>simp
  | true =>
   cases F:Fq (-1048576) 1048576 u.segs.l[j].price with
   | false=>simp
   | true =>
    simp only[Fq,Bool.and_eq_true,decide_eq_true_eq] at L F
    have M:IntKind.wrap .i64 ((j:Int)+1)=((j+1:Nat):Int):=wS (by omega)
    have key:(cond (cond false true (decide (u.segs.l[j].width>d))) (K false) (Fn N K b u.av fuel (IntKind.wrap .i64 (d - u.segs.l[j].width)) (IntKind.wrap .i64 ((j:Int)+1))))=K (Gq u.segs.l[j].price (u.segs.l.drop (j+1))&&(u.segs.l[j].width+bL (u.segs.l.drop (j+1))==d)):=by
     by_cases C:u.segs.l[j].width>d
     ·rw[show decide (u.segs.l[j].width>d)=true by simpa using C]
      simp only[cond_true,cond_false]
      congr 1
      cases hs:Gq u.segs.l[j].price (u.segs.l.drop (j+1)) with
      | false=>rfl
      | true =>
       have:=yT hs
       symm;simp;omega
     ·rw[show decide (u.segs.l[j].width>d)=false by simpa using C]
      simp only[cond_false]
      have e1:IntKind.wrap .i64 (d - u.segs.l[j].width)=d - u.segs.l[j].width:=i64 (by omega)
      rw[e1,M,A5o G m (j+1) fuel _ (by omega) (by omega) (by omega),VF h]
      congr 1
      rw[Bool.eq_iff_iff];simp;omega
    rw[key]
    rcases j with _ | j
    ·simp[yS,F.1]
    ·have k:j<u.segs.l.length:=by omega
     rw[wP (by omega),Aa k,ct,ua k,A2o,ct]
     rw[show ∀ r:LA,List.drop 1 ((AV.int .i64 u.segs.l[j].width)::(AV.int .i64 u.segs.l[j].price)::r)=(AV.int .i64 u.segs.l[j].price)::r from fun _=>rfl,A4,VF k]
     by_cases D:u.segs.l[j+1].price<u.segs.l[j].price
     ·simp[D,show ¬ u.segs.l[j].price≤u.segs.l[j+1].price by omega]
     ·simp[D,show u.segs.l[j].price≤u.segs.l[j+1].price by omega]
theorem Bcm {N:Nat} {u:UnitD} {b:Bool} {K:Bool→O R} (hN:64≤N) (C:0≤u.min∧u.min≤u.max) (D:u.max≤1048576):Qg N u.av b K=K (lG u):=by
 rw[QD];unfold X5
 rw[u4]
 by_cases k:u.segs.l.length≤8
 ·rw[show decide ((u.segs.l.length:Int)>8)=false by simp;omega,cf,u3,u2,i64 (by omega)]
  have:=A5o (b:=b) (N:=N) (K:=K) k u.segs.l.length 0 N (u.max - u.min) (by omega) (by omega) (by omega)
  simpa[lG,k,yS] using this
 ·rw[show decide ((u.segs.l.length:Int)>8)=true by simp;omega,ct]
  simp[lG,k]
def AN (hi p:Int):List Int→Bool
 | []=>true
 | x::r=>Fq 0 hi x&&(decide (p<x)&&AN hi x r)
def yV (l:List Int):Nat→Int
 | 0=>-1
 | j+1=>(l[j]?).getD 0
theorem VK {l:List Int} {j:Nat} (h:j<l.length):yV l (j+1)=l[j]:=by simp[yV,h]
theorem A5p {N:Nat} {l:List Int} {e e':Bool} {f hi:Int} {K:Bool→O R} (hN:64≤N) (F:l.length≤1000000000000) (D:IntKind.wrap .i64 (f - 1)=hi):∀ (m j fuel:Nat),j+m=l.length→m<fuel →
  Gw N K (Av l) l.length e e' f fuel (l.length:Int) (j:Int)=K (AN hi (yV l j) (l.drop j))
 | 0,j,fuel+1,G,_=>by
  rw[Gw];unfold P8
  rw[Lm (by omega),cf,Es (l:=l) (by omega),AN]
 | m+1,j,fuel+1,G,I=>by
  rw[Gw];unfold P8
  have h:j<l.length:=by omega
  rw[Jy h,ct,Aa h,ct,D8 h,Bgc hN,D,wS (by omega),A5p hN F D m (j+1) fuel (by omega) (by omega),Ci h,AN,VK h]
  cases L:Fq 0 hi l[j] with
  | false=>simp
  | true =>
   simp only[Fq,Bool.and_eq_true,decide_eq_true_eq] at L
   rcases j with _ | j
   ·simp[yV,show(-1:Int)<l[0] by omega]
   ·have k:j<l.length:=by omega
    rw[wP (by omega),Aa k,ct,D8 k,A2o,ct,VK k]
    by_cases C:l[j]<l[j+1]
    ·simp[C,show ¬ l[j+1]≤l[j] by omega]
    ·simp[C,show l[j+1]≤l[j] by omega]
theorem Bcn {N:Nat} {l:List Int} {n:Nat} {e e':Bool} {f hi:Int} {K:Bool→O R} (hN:64≤N) (C:l.length≤1000000000000) (k:l.length<N) (hn:n=l.length) (D:IntKind.wrap .i64 (f - 1)=hi):Lx N (Av l) n e e' f K=K (AN hi (-1) l):=by
 subst hn
 rw[PK];unfold X1
 have:=A5p (N:=N) (e:=e) (e':=e') (K:=K) hN C D l.length 0 N (by omega) k
 simpa[yV] using this
def A3g (u:UnitD):Bool:=cond (u.state==2) (Fq u.min u.max u.output) (u.output==0)
theorem Ayr {N:Nat} {u:UnitD} {c:Bool} {f hi:Int} {K:Bool→O R} (F:u.away.l.length≤1000000000000) (D:IntKind.wrap .i64 (f - 1)=hi):∀ (m j fuel:Nat),j+m=u.away.l.length→m<fuel →
  Qh N K f c u.av fuel (j:Int)=K (AN hi (yV u.away.l j) (u.away.l.drop j)&&A3g u)
 | 0,j,fuel+1,G,_=>by
  rw[Qh];unfold X6
  rw[Bd9,Lm (by omega),cf,Es (l:=u.away.l) (by omega),AN]
  simp only[A93,Bf1,u2,u3,iK,cK];rfl
 | m+1,j,fuel+1,G,I=>by
  rw[Qh];unfold X6
  have h:j<u.away.l.length:=by omega
  rw[Bd9,Jy h,ct,Bd9,Aa h,ct,D8 h,iK,D,wS (by omega),Ayr F D m (j+1) fuel (by omega) (by omega),Ci h,AN,VK h]
  cases L:Fq 0 hi u.away.l[j] with
  | false=>simp
  | true =>
   simp only[Fq,Bool.and_eq_true,decide_eq_true_eq] at L
   rcases j with _ | j
   ·simp[yV,show(-1:Int)<u.away.l[0] by omega]
   ·have k:j<u.away.l.length:=by omega
    rw[Bd9,Aa h,ct,D8 h,Bd9,wP (by omega),Aa k,ct,D8 k,A2o,ct,VK k]
    by_cases C:u.away.l[j]<u.away.l[j+1]
    ·simp[C,show ¬ u.away.l[j+1]≤u.away.l[j] by omega]
    ·simp[C,show u.away.l[j+1]≤u.away.l[j] by omega]
def De (u:UnitD) (hours:Int):Bool :=
 Fq 1 24 hours&&(Cw u&&(Fq 0 1048576 u.min&&(Fq 0 1048576 u.max&&(Fq 0 1048576 u.rampUp&&(Fq 0 1048576 u.rampDown&&(Fq 0 1048576 u.reserve&&(decide (u.min≤u.max)&&(Fq u.min u.max u.startRamp&&(Fq u.min u.max u.stopRamp &&
 (Fq 0 1048576 u.noLoad&&(Fq 0 1048576 u.hotCost&&(Fq 0 1048576 u.coldCost&&(Fq 0 1048576 u.reservePrice&&(A3g u&&(lG u&&AN (hours - 1) (-1) u.away.l)))))))))))))))
theorem X7 {N:Nat} {u:UnitD} {b:Bool} {hours:Int} {K:Bool→O R} (hN:64≤N) (F:u.away.l.length≤1000000000000) (k:u.away.l.length<N):Uw N u.av b hours K=K (De u hours):=by
 rw[pi];unfold iD
 rw[Bgc hN]
 unfold De
 cases G:Fq 1 24 hours with
 | false=>simp
 | true =>
  have I:1≤hours∧hours≤24:=by simpa[Fq] using G
  rw[B7,Du,ct,Ns hN]
  cases Cw u with
  | false=>simp
  | true =>
   unfold KD UL
   simp only[u2,u3,u6,u7,Bg2,Bhz hN]
   cases C:Fq 0 1048576 u.min with
   | false=>simp
   | true =>
    cases D:Fq 0 1048576 u.max with
    | false=>simp
    | true =>
     unfold du
     simp only[Fq,Bool.and_eq_true,decide_eq_true_eq] at C D
     simp only[u2,u3,u5,u8,u9,Bhe,Bhf,Bhg,A93,Bf1,Bd9,B7,Du,Bhx hN,Bhy hN,Bgc hN,ct,Bcl hN C D,Bcn hN F k rfl (i64 (a:=hours - 1) (by omega))]
     simp[cK];congr 1
     unfold A3g
     by_cases hs:u.state=2
     ·rw[Bool.eq_iff_iff];simp[hs];grind
     ·rw[Bool.eq_iff_iff];simp[hs];grind
theorem Ail {N:Nat} {u:UnitD} {b:Bool} {hours:Int} {K:Bool→O R} (hN:64≤N) (L:u.away.l.length≤1000000000000) (C:u.away.l.length<N):EH N u.av b hours K=K (De u hours):=by
 rw[lH];unfold VI
 rw[iK]
 unfold De
 cases M:Fq 1 24 hours with
 | false=>simp
 | true =>
  have T:1≤hours∧hours≤24:=by simpa[Fq] using M
  rw[B7,Du,ct,K3]
  cases Cw u with
  | false=>simp
  | true =>
   simp only[u2,u3,iK]
   cases G:Fq 0 1048576 u.min with
   | false=>simp
   | true =>
    simp only[Fq,Bool.and_eq_true,decide_eq_true_eq] at G
    by_cases D:u.min≤u.max∧u.max≤1048576
    ·have F:Fq 0 1048576 u.max=true:=by simp[Fq];omega
     have k:Fq u.min 1048576 u.max=true:=by simp[Fq];omega
     unfold DH NM VH NL VG NK
     have I:=Ayr (u:=u) (N:=N) (c:=b) (K:=K) L (i64 (a:=hours - 1) (by omega)) u.away.l.length 0 N (by omega) C
     simp only[yV,List.drop_zero,Int.natCast_zero] at I
     simp only[u2,u3,u5,u6,u7,u8,u9,Bhe,Bhf,Bg2,Bhg,iK,ct,I,Bcm hN ⟨G.1,D.1⟩ D.2,F,k]
     simp[cK,D.1];congr 1
     rw[Bool.eq_iff_iff];simp;grind
    ·have k:Fq u.min 1048576 u.max=false:=by simp[Fq];omega
     simp only[k]
     have:(Fq 0 1048576 u.max&&decide (u.min≤u.max))=false:=by simp[Fq];omega
     simp;congr 1;symm
     cases S:Fq 0 1048576 u.max with
     | false=>rfl
     | true =>
      rw[S] at this
      simp at this
      simp;intro _ _ _ U;omega
end
end Gx

namespace Gx
open Go Go.Proofs
section
variable {R:Type}
theorem Aim {v n:Int} (hn:0<n):Int.tmod (Int.tmod v n+n) n=v%n:=by
 have k:0≤Int.tmod v n+n:=by
  have:=Int.lt_tmod_of_pos v hn;omega
 rw[Int.tmod_eq_emod_of_nonneg k,Int.tmod_def,show v - n*v.tdiv n+n=v+n*(1 - v.tdiv n) by rw[Int.mul_sub];omega,Int.add_mul_emod_self_left]
theorem Aqn {v n:Int} (hn:0<n) (k:n≤4611686018427387904):IntKind.wrap .i64 (Int.tmod v n+n)=Int.tmod v n+n:=by
 have C:=Int.lt_tmod_of_pos v hn
 have D:=Int.tmod_lt_of_pos v hn
 exact i64 (by omega)
theorem Bhh {N:Nat} {v n:Int} {K:Int→O R} (hn:0<n) (k:n≤4611686018427387904):PE N v n K=K (v%n):=by
 rw[jz];unfold mt
 rw[Aqn hn k,Aim hn,show(n==0)=false by simp;omega,cf,cf]
theorem A8x {j:Nat} (h:j≤1000000000000):((Nat.ble (j+1) 140737488355328)&&(Nat.ble ((j+1)*16) 140737488355328))=true:=by
 rw[Bool.and_eq_true,Nat.ble_eq,Nat.ble_eq];omega
theorem A8y (l:List Int) (v:Int):List.take (l.length*1) (Av l)++[(.int .i64 v)]=Av (l++[v]):=by
 rw[Nat.mul_one,←Ew l,List.take_length];simp[Av]
end
end Gx

namespace Gx
open Go Go.Proofs
section
variable {R:Type}
def Ir (x y:Nat):Int:=if x<y then -1 else if y<x then 1 else 0
theorem EI (x:Nat):Ir x x=0:=by unfold Ir;simp
theorem VL {a b:Nat} (h:(As a).length<(As b).length):a<b:=Nat.lt_of_not_le fun k=>by
 have:=Cd k;omega
theorem Ab9 {u w p q P:Nat} (k:u<P) (C:w<P) (h:p<q):u+P*p<w+P*q:=by
 have:P*(p+1)≤P*q:=Nat.mul_le_mul_left _ h
 rw[Nat.mul_add] at this
 omega
theorem Aqo {N:Nat} {x y:List Nat} {t u:Bool} {K:Int→O R} (D:Al x) (F:Al y) (hs:x.length≤1000000000000) (I:x.length=y.length):∀ (i fuel:Nat),i≤x.length→i<fuel →
  Ft N K (Ae x) x.length t (Ae y) y.length u fuel ((i:Int) - 1)=K (Ir (val (x.take i)) (val (y.take i)))
 | 0,fuel+1,_,_=>by
  rw[Ft];unfold N7
  rw[show decide ((((0:Nat):Int) - 1)≥0)=false by simp,cf]
  simp[EI]
 | i+1,fuel+1,hi,L=>by
  rw[Ft];unfold N7
  rw[show(((i+1:Nat):Int) - 1)=(i:Int) by omega,show decide ((i:Int)≥0)=true by simp,ct,Aa (by omega),ct,bJ (by omega),Aa (by omega),ct,bJ (by omega),ct,bJ (by omega),ct,bJ (by omega),i64 (by omega),
   Aqo D F hs I i fuel (by omega) (by omega),A5 (by omega),A5 (by omega)]
  have k:=Bo (Cv D i)
  have C:=Bo (Cv F i)
  rw[List.length_take,Nat.min_eq_left (by omega)] at k C
  by_cases c1:x[i]<y[i]
  ·have:=Ab9 k C c1
   rw[show decide (((x[i]:Nat):Int)<((y[i]:Nat):Int))=true by simp;exact c1,ct]
   unfold Ir;rw[if_pos this]
  ·by_cases G:y[i]<x[i]
   ·have:=Ab9 C k G
    rw[show decide (((x[i]:Nat):Int)<((y[i]:Nat):Int))=false by simp;omega,cf,show decide (((x[i]:Nat):Int)>((y[i]:Nat):Int))=true by simp;exact G,ct]
    unfold Ir;rw[if_neg (by omega),if_pos this]
   ·have:x[i]=y[i]:=by omega
    rw[show decide (((x[i]:Nat):Int)<((y[i]:Nat):Int))=false by simp;omega,cf,show decide (((x[i]:Nat):Int)>((y[i]:Nat):Int))=false by simp;omega,cf,this]
    unfold Ir
    congr 1
    by_cases a1:val (x.take i)<val (y.take i)
    ·rw[if_pos a1,if_pos (by omega)]
    ·by_cases a2:val (y.take i)<val (x.take i)
     ·rw[if_neg a1,if_pos a2,if_neg (by omega),if_pos (by omega)]
     ·rw[if_neg a1,if_neg a2,if_neg (by omega),if_neg (by omega)]
theorem T2 {N:Nat} {a b:List Nat} {n m:Nat} {t o t' o':Bool} {K:Int→O R} (hn:n=a.length) (G:m=b.length) (C:Al a) (D:Al b) (k:fit (a.length+b.length) N) :
  El N (Ae a) n t o (Ae b) m t' o' K=K (Ir (val a) (val b)):=by
 subst hn G
 have L:=k.1;have M:=k.2
 rw[JW];unfold Us
 dsimp only
 rw[Cg rfl C (k.le (by omega)),Cg rfl D (k.le (by omega))]
 have la:=(Bx C).2
 have lb:=(Bx D).2
 by_cases F:(As (val a)).length=(As (val b)).length
 ·rw[show((((As (val a)).length:Nat):Int) != (((As (val b)).length:Nat):Int))=false by simp;omega,cf,i64 (by omega),Aqo (Ad _) (Ad _) (by omega) F _ N (Nat.le_refl _) (by omega),List.take_length,F,List.take_length,Ak,Ak]
 ·rw[show((((As (val a)).length:Nat):Int) != (((As (val b)).length:Nat):Int))=true by simp;omega,ct]
  by_cases I:(As (val a)).length<(As (val b)).length
  ·have:=VL I
   rw[show decide ((((As (val a)).length:Nat):Int)<(((As (val b)).length:Nat):Int))=true by simp;omega,ct]
   unfold Ir;rw[if_pos this]
  ·have:=VL (show(As (val b)).length<(As (val a)).length by omega)
   rw[show decide ((((As (val a)).length:Nat):Int)<(((As (val b)).length:Nat):Int))=false by simp;omega,cf]
   unfold Ir;rw[if_neg (by omega),if_pos this]
theorem Ain {N:Nat} {a:List Nat} {n:Nat} {t o:Bool} {K:Int→O R} (hn:n=a.length) (D:Al a) (k:fit a.length N):S9 N (Ae a) n t o K=K (Ir (val a) 0):=by
 subst hn
 have F:=k.1;have G:=k.2
 rw[dN];unfold JP
 dsimp only
 rw[Cg rfl D k,A7l (by omega)]
 by_cases C:val a=0
 ·rw[C,Eu,EI]
  cases N with
  | zero=>omega
  | succ N =>
   rw[Rg];unfold FL
   rw[i64 (by simp)];simp
 ·have I:(As (val a)).length≠0:=fun h=>C (Bz.1 h)
  rw[show((((As (val a)).length:Nat):Int) != (0:Int))=true by simp;exact fun h=>C (Adl.1 h),ct]
  rw[show decide ((((As (val a)).length:Nat):Int)<(0:Int))=false by simp,cf]
  unfold Ir;rw[if_neg (by omega),if_pos (by omega)]
end
end Gx

namespace Gx
open Go Go.Proofs
section
variable {R:Type}
theorem qx:∀ {S:List Nat} {d v:Nat} (h:d<S.length),val (S.set d v)+4294967296 ^ d*S[d]=val S+4294967296 ^ d*v
 | x::r,0,v,_=>by simp[val];omega
 | x::r,d+1,v,h=>by
  have k:=qx (S:=r) (d:=d) (v:=v) (by simpa using h)
  simp only[List.set_cons_succ,val,List.getElem_cons_succ,Nat.pow_succ]
  have e1:∀ y,4294967296 ^ d*4294967296*y=4294967296*(4294967296 ^ d*y):=fun y=>by rw[Nat.mul_comm (4294967296 ^ d),Nat.mul_assoc]
  rw[e1,e1]
  omega
theorem T3 (b:List Nat) (d:Nat):val (b.take (d+1))=val (b.take d)+4294967296 ^ d*b.getD d 0:=by
 by_cases h:d<b.length
 ·rw[A5 h,List.getD_eq_getElem?_getD,List.getElem?_eq_getElem h];rfl
 ·rw[List.take_of_length_le (by omega),List.take_of_length_le (by omega),List.getD_eq_getElem?_getD,List.getElem?_eq_none (by omega)];simp
theorem O6 (P s:Nat):P*(s%4294967296)+P*4294967296*(s/4294967296)=P*s:=by
 rw[Nat.mul_assoc,←Nat.mul_add,Nat.add_comm,Nat.div_add_mod]
def A8z (S:List Nat) (d:Nat):Prop:=∀ j (h:j<S.length),d≤j→S[j]=0
theorem LI {S:List Nat} {d v:Nat} (h:A8z S d):A8z (S.set d v) (d+1):=fun j k C=>by
 rw[List.getElem_set]
 rw[if_neg (by omega)]
 exact h j (by simpa using k) (by omega)
theorem Nt (n:Nat):A8z (List.replicate n 0) 0:=fun j k _=>by simp
theorem X8 {S:List Nat} {d v:Nat} (h:A8z S d) (k:d<S.length):val (S.set d v)=val S+4294967296 ^ d*v:=by
 have:=qx (v:=v) k
 rw[h d k (Nat.le_refl _)] at this;simpa using this
theorem Bhs {a:Nat} (h:a≤1000000000000):IntKind.wrap .i64 (((a:Nat):Int)+(1:Int))=((a+1:Nat):Int):=wS h
theorem Bgd {x:Nat} {m:List Nat} (h:x<m.length):((Nat.beq 1 1)&&((Nat.ble ((0+(x*1))+1) (List.length (Ae m)))&&(!false)))=true:=by
 rw[Ca];simp;omega
theorem Bea {x v:Nat} {m:List Nat}:List.set (Ae m) (0+(x*1)) (.int .u32 (v:Int))=Ae (m.set x v):=by rw[Nat.mul_one,Nat.zero_add,oa]
theorem Aio {N:Nat} {a b:List Nat} {t u:Bool} (T:Al a) (U:Al b) (D:fit (a.length+1) N) (F:b.length≤a.length):∀ (m d fuel:Nat) (S:List Nat) (c:Nat),d+m=a.length→m<fuel→Al S→S.length=a.length+1→A8z S d→c≤1 →
  val S+4294967296 ^ d*c=val (a.take d)+val (b.take d) →
  ∃ S',Al S'∧S'.length=a.length+1∧val S'=val a+val b∧∀ K:Nat→LA→O R,Xb N K (Ae a) a.length t (Ae b) b.length u fuel (a.length+1) (c:Int) (a.length:Int) (d:Int) (Ae S)=K (As (val a+val b)).length (Ae S')
 | 0,d,fuel+1,S,c,hd,_,hS,G,I,hc,hv=>by
  have h1:=D.1;have h2:=D.2
  have V:d=a.length:=by omega
  subst V
  have L:val (S.set a.length c)=val a+val b:=by
   rw[X8 I (by omega),hv,List.take_length,List.take_of_length_le F]
  have M:=C4 hS (show c<4294967296 by omega) a.length
  refine⟨S.set a.length c,M,by simpa using G,L,fun K=>?_⟩
  rw[Xb];unfold GN
  rw[Lm (Nat.le_refl _),cf,Aa (by omega),ct,Bgd (by omega),ct,A5m (by omega),Bea,PC (by simp;omega) M (by simp only[List.length_set,G];exact D),L]
 | m+1,d,fuel+1,S,c,hd,hfu,hS,G,I,hc,hv=>by
  have h1:=D.1;have h2:=D.2
  have k:d<a.length:=by omega
  have ad:=Bd T k
  have step:∀ s:Nat,s<8589934592→s=c+a[d]+b.getD d 0→val (S.set d (s%4294967296))+4294967296 ^ (d+1)*(s/4294967296)=val (a.take (d+1))+val (b.take (d+1)):=by
   intro s _ hs
   rw[X8 I (by omega),A5 k,T3 b d,Nat.pow_succ]
   have e:=O6 (4294967296 ^ d) s
   have e2:4294967296 ^ d*s=4294967296 ^ d*c+4294967296 ^ d*a[d]+4294967296 ^ d*b.getD d 0:=by rw[hs,Nat.mul_add,Nat.mul_add]
   omega
  by_cases C:d<b.length
  ·have bd:=Bd U C
   have Y:b.getD d 0=b[d]:=by rw[List.getD_eq_getElem?_getD,List.getElem?_eq_getElem C];rfl
   obtain⟨S',q1,q2,q3,q4⟩:=Aio (t:=t) (u:=u) T U D F m (d+1) fuel (S.set d ((c+a[d]+b[d])%4294967296)) ((c+a[d]+b[d])/4294967296) (by omega) (by omega) (C4 hS (by omega) d) (by simpa using G) (LI I) (by omega) (step _ (by omega) (by rw[Y]))
   refine⟨S',q1,q2,q3,fun K=>?_⟩
   rw[Xb];unfold GN
   rw[Jy k,ct,Aa k,ct,bJ k,Jy C,ct,Aa C,ct,bJ C,Aa (by omega),ct,Aos (by omega),ct,Jt (by omega),Jt (by omega),OO,Jt (by omega),OO,Jt (by omega),tX,mX,d6,wS (by omega)]
   exact q4 K
  ·have Y:b.getD d 0=0:=by rw[List.getD_eq_getElem?_getD,List.getElem?_eq_none (by omega)];rfl
   obtain⟨S',q1,q2,q3,q4⟩:=Aio (t:=t) (u:=u) T U D F m (d+1) fuel (S.set d ((c+a[d])%4294967296)) ((c+a[d])/4294967296) (by omega) (by omega) (C4 hS (by omega) d) (by simpa using G) (LI I) (by omega) (step _ (by omega) (by rw[Y];rfl))
   refine⟨S',q1,q2,q3,fun K=>?_⟩
   rw[Xb];unfold GN
   rw[Jy k,ct,Aa k,ct,bJ k,Lm (by omega),cf,Aa (by omega),ct,Aos (by omega),ct,Jt (by omega),OO,Jt (by omega),tX,mX,d6,wS (by omega)]
   exact q4 K
theorem Bat {N:Nat} {a b:List Nat} {t u:Bool} (D:Al a) (F:Al b) (k:fit (a.length+1) N) (C:b.length≤a.length) :
  ∃ S',Al S'∧val S'=val a+val b∧∀ K:Nat→LA→O R,PZ N K (Ae a) a.length t (Ae b) b.length u=K (As (val a+val b)).length (Ae S'):=by
 have M:=k.1;have T:=k.2
 obtain⟨S',G,_,I,L⟩:=Aio (R:=R) (t:=t) (u:=u) D F k C a.length 0 N (List.replicate (a.length+1) 0) 0 (by omega) (by omega) (C2 _) (by simp) (Nt _) (by omega) (by rw[Ez];simp[val])
 refine⟨S',G,I,fun K=>?_⟩
 unfold PZ nP
 rw[Bhs (by omega),A92 (by omega),ct,Int.toNat_natCast,Dq]
 exact L K
theorem Bau {N:Nat} {a b:List Nat} {n m:Nat} {t o t' o':Bool} (hn:n=a.length) (L:m=b.length) (D:Al a) (F:Al b) (k:fit (a.length+b.length+1) N) :
  ∃ S',Al S'∧val S'=val a+val b∧∀ K:Nat→LA→O R,uP N (Ae a) n t o (Ae b) m t' o' K=K (As (val a+val b)).length (Ae S'):=by
 subst hn L
 have la:=(Bx D).2
 have lb:=(Bx F).2
 by_cases M:(As (val a)).length<(As (val b)).length
 ·obtain⟨S',G,C,I⟩:=Bat (R:=R) (N:=N) (a:=As (val b)) (b:=As (val a)) (t:=o') (u:=o) (Ad _) (Ad _) (k.le (by omega)) (by omega)
  rw[Ak,Ak,Nat.add_comm] at C
  refine⟨S',G,C,fun K=>?_⟩
  rw[nQ];unfold qJ
  dsimp only
  rw[Cg rfl D (k.le (by omega)),Cg rfl F (k.le (by omega)),Jy M,ct,I,Ak,Ak,Nat.add_comm (val b)]
 ·obtain⟨S',G,C,I⟩:=Bat (R:=R) (N:=N) (a:=As (val a)) (b:=As (val b)) (t:=o) (u:=o') (Ad _) (Ad _) (k.le (by omega)) (by omega)
  rw[Ak,Ak] at C
  refine⟨S',G,C,fun K=>?_⟩
  rw[nQ];unfold qJ
  dsimp only
  rw[Cg rfl D (k.le (by omega)),Cg rfl F (k.le (by omega)),Lm (by omega),cf,I,Ak,Ak]
end
end Gx

namespace Gx
open Go Go.Proofs
section
variable {R:Type}
theorem iM {x y:Nat} (k:x<4294967296) (C:y≤4294967296):∃ d c:Nat,d<4294967296∧c≤1∧x+4294967296*c=d+y∧IntKind.wrap .u32 (IntKind.wrap .u64 ((x:Int) - (y:Int)))=(d:Int)∧Int.fdiv (IntKind.wrap .u64 ((x:Int) - (y:Int))) (2 ^ 63)=(c:Int):=by
 by_cases h:y≤x
 ·refine⟨x - y,0,by omega,by omega,by omega,?_,?_⟩
  ·rw[tW (by omega) h,A5m (by omega)]
  ·rw[tW (by omega) h,Bf9,Nat.div_eq_of_lt (by omega)]
 ·refine⟨x+4294967296 - y,1,by omega,by omega,by omega,?_,?_⟩
  ·rw[Bal (by omega) (by omega),mX];congr 1;omega
  ·rw[Bal (by omega) (by omega),Bf9];congr 1;omega
theorem Bco {x c w:Nat} (k:x<4294967296) (C:c≤1) (D:w<4294967296):IntKind.wrap .u64 ((IntKind.wrap .u64 ((x:Int) - (c:Int))) - (w:Int))=IntKind.wrap .u64 ((x:Int) - ((c+w:Nat):Int)):=by
 rw[mY,mY,mY];omega
theorem Aip {N:Nat} {a b:List Nat} {t u:Bool} (U:Al a) (V:Al b) (G:fit a.length N) (D:b.length≤a.length) (I:val b≤val a):∀ (m d fuel:Nat) (S:List Nat) (c:Nat),d+m=a.length→m<fuel→Al S→S.length=a.length→A8z S d→c≤1 →
  val S+val (b.take d)=val (a.take d)+4294967296 ^ d*c →
  ∃ S',Al S'∧val S'=val a - val b∧∀ K:Nat→Bool→LA→O R,Tv N K (Ae b) b.length t a.length (Ae a) u fuel (c:Int) (a.length:Int) (d:Int) (Ae S)=K (As (val a - val b)).length true (Ae S')
 | 0,d,fuel+1,S,c,hd,_,hS,F,T,hc,hv=>by
  have Y:d=a.length:=by omega
  subst Y
  rw[List.take_length,List.take_of_length_le D] at hv
  have hlt:=Bo hS
  rw[F] at hlt
  have hc0:c=0:=by
   rcases Nat.lt_or_ge 0 c with h | h
   ·exfalso
    have:c=1:=by omega
    subst this
    omega
   ·omega
  subst hc0
  have L:val S=val a - val b:=by omega
  refine⟨S,hS,L,fun K=>?_⟩
  rw[Tv];unfold GL
  rw[Lm (Nat.le_refl _),cf,PC F.symm hS (by rw[F];exact G),L]
 | m+1,d,fuel+1,S,c,hd,hfu,hS,F,T,hc,hv=>by
  have h1:=G.1;have h2:=G.2
  have k:d<a.length:=by omega
  have ad:=Bd U k
  have step:∀ y g c':Nat,y=c+b.getD d 0→a[d]+4294967296*c'=g+y→val (S.set d g)+val (b.take (d+1))=val (a.take (d+1))+4294967296 ^ (d+1)*c':=by
   intro y g c' hy M
   rw[X8 T (by omega),A5 k,T3 b d,Nat.pow_succ,Nat.mul_assoc]
   have e:4294967296 ^ d*(a[d]+4294967296*c')=4294967296 ^ d*(g+(c+b.getD d 0)):=by rw[M,hy]
   rw[Nat.mul_add,Nat.mul_add,Nat.mul_add] at e
   omega
  by_cases C:d<b.length
  ·have bd:=Bd V C
   have M:b.getD d 0=b[d]:=by rw[List.getD_eq_getElem?_getD,List.getElem?_eq_getElem C];rfl
   obtain⟨g,c',g1,g2,g3,g4,g5⟩:=iM ad (show c+b[d]≤4294967296 by omega)
   obtain⟨S',q1,q3,q4⟩:=Aip (t:=t) (u:=u) U V G D I m (d+1) fuel (S.set d g) c' (by omega) (by omega) (C4 hS g1 d) (by simpa using F) (LI T) g2 (step _ _ _ (by rw[M]) g3)
   refine⟨S',q1,q3,fun K=>?_⟩
   rw[Tv];unfold GL
   rw[Jy k,ct,Aa k,ct,bJ k,Jy C,ct,Aa C,ct,bJ C,ct,Aos (by omega),ct,Jt (show a[d]<18446744073709551616 by omega),Jt (show b[d]<18446744073709551616 by omega),Bco ad hc bd,g4,g5,d6,wS (by omega)]
   exact q4 K
  ·have M:b.getD d 0=0:=by rw[List.getD_eq_getElem?_getD,List.getElem?_eq_none (by omega)];rfl
   obtain⟨g,c',g1,g2,g3,g4,g5⟩:=iM ad (show c≤4294967296 by omega)
   obtain⟨S',q1,q3,q4⟩:=Aip (t:=t) (u:=u) U V G D I m (d+1) fuel (S.set d g) c' (by omega) (by omega) (C4 hS g1 d) (by simpa using F) (LI T) g2 (step _ _ _ (by rw[M];rfl) g3)
   refine⟨S',q1,q3,fun K=>?_⟩
   rw[Tv];unfold GL
   rw[Jy k,ct,Aa k,ct,bJ k,Lm (by omega),cf,ct,Aos (by omega),ct,Jt (show a[d]<18446744073709551616 by omega),g4,g5,d6,wS (by omega)]
   exact q4 K
theorem Aiq {N:Nat} {a b:List Nat} {n m:Nat} {t o t' o':Bool} (hn:n=a.length) (L:m=b.length) (F:Al a) (G:Al b) (k:fit (a.length+b.length) N) (C:val b≤val a) :
  ∃ S',Al S'∧val S'=val a - val b∧∀ K:Nat→Bool→LA→O R,UO N (Ae a) n t o (Ae b) m t' o' K=K (As (val a - val b)).length true (Ae S'):=by
 subst hn L
 have U:=k.1;have V:=k.2
 have la:=(Bx F).2
 have lb:=(Bx G).2
 have D:=Cd C
 obtain⟨S',M,I,T⟩:=Aip (R:=R) (N:=N) (a:=As (val a)) (b:=As (val b)) (t:=o') (u:=o) (Ad _) (Ad _) (k.le (by omega)) D (by rw[Ak,Ak];exact C) (As (val a)).length 0 N (List.replicate (As (val a)).length 0) 0 (by omega) (by omega) (C2 _) (by simp) (Nt _) (by omega) (by rw[Ez];simp[val])
 rw[Ak,Ak] at I
 refine⟨S',M,I,fun K=>?_⟩
 rw[nM];unfold qA
 dsimp only
 rw[Cg rfl F (k.le (by omega)),Cg rfl G (k.le (by omega)),T2 rfl rfl (Ad _) (Ad _) (k.le (by omega)),Ak,Ak]
 have:decide (Ir (val a) (val b)<0)=false:=by unfold Ir;split<;>(try split)<;>simp<;>omega
 rw[this,cf,A92 (by omega),ct,Dq]
 have:=T K
 rw[Ak,Ak] at this
 exact this
theorem Bav {N:Nat} {a b:List Nat} {n m:Nat} {t o t' o':Bool} {K:Nat→Bool→LA→O R} (hn:n=a.length) (G:m=b.length) (D:Al a) (F:Al b) (k:fit (a.length+b.length) N) (C:val a<val b) :
  UO N (Ae a) n t o (Ae b) m t' o' K=K 0 false []:=by
 subst hn G
 have la:=(Bx D).2
 have lb:=(Bx F).2
 rw[nM];unfold qA
 dsimp only
 rw[Cg rfl D (k.le (by omega)),Cg rfl F (k.le (by omega)),T2 rfl rfl (Ad _) (Ad _) (k.le (by omega)),Ak,Ak]
 have:decide (Ir (val a) (val b)<0)=true:=by unfold Ir;rw[if_pos C];rfl
 rw[this,ct]
end
end Gx

namespace Gx
open Go Go.Proofs
section
variable {R:Type}
theorem And {n:Nat} (h:n≠0):(((n:Nat):Int)==(0:Int))=false:=by rw[beq_eq_false_iff_ne];omega
theorem Bht {n:Nat} (h:n=0):(((n:Nat):Int)==(0:Int))=true:=by subst h;rfl
theorem A3h:∀ {S:List Nat} {j:Nat} (h:j<S.length),4294967296 ^ j*S[j]≤val S
 | x::r,0,_=>by simp[val]
 | x::r,j+1,h=>by
  have:=A3h (S:=r) (j:=j) (by simpa using h)
  simp only[List.getElem_cons_succ,val,Nat.pow_succ]
  rw[Nat.mul_comm (4294967296 ^ j),Nat.mul_assoc]
  omega
theorem Baw {S:List Nat} {k:Nat} (h:val S<4294967296 ^ k):A8z S k:=fun j D F=>by
 have G:=A3h D
 have I:4294967296 ^ k≤4294967296 ^ j:=Nat.pow_le_pow_right (by omega) F
 rcases Nat.eq_zero_or_pos S[j] with C | C
 ·exact C
 ·have:=Nat.le_mul_of_pos_right (4294967296 ^ j) C
  omega
theorem Ays {p q y s:Nat} (k:p<4294967296) (hq:q<4294967296) (C:y<4294967296) (hs:s<4294967296):p+(q*y+s)<18446744073709551616:=by
 have:q*y≤4294967295*4294967295:=Nat.mul_le_mul (by omega) (by omega)
 omega
theorem Bax {N:Nat} {x y:List Nat} {c d:Bool} {f q J:Nat} (U:Al y) (hq:q<4294967296) (Y:f<x.length) (hs:x.length+y.length≤1000000000000):∀ (m l fuel:Nat) (S:List Nat) (p:Nat) (v:Nat),l+m=y.length→m<fuel→Al S→S.length=x.length+y.length→A8z S (f+y.length)→p<4294967296 →
  val S+4294967296 ^ (f+l)*p=v+4294967296 ^ f*(q*val (y.take l)) →
  ∃ S',Al S'∧S'.length=x.length+y.length∧val S'=v+4294967296 ^ f*(q*val y)∧∀ (D:Nat→Int→Int→LA→O R) (K:Nat→LA→O R),W5 N D K (Ae y) y.length d (x.length+y.length) (f:Int) (q:Int) (Ae x) x.length c (J:Int) fuel (p:Int) (y.length:Int) (l:Int) (Ae S)=D (x.length+y.length) J ((f+1:Nat):Int) (Ae S')
 | 0,l,fuel+1,S,p,v,hl,_,hS,k,I,G,L=>by
  have M:l=y.length:=by omega
  subst M
  rw[List.take_length] at L
  refine⟨S.set (f+y.length) p,C4 hS G _,by simpa using k,by rw[X8 I (by omega),L],fun D K=>?_⟩
  rw[W5];unfold UF
  rw[Lm (Nat.le_refl _),cf,wA (by omega),Aa (by omega),ct,Aos (by omega),ct,A5m G,d6,wS (by omega)]
 | m+1,l,fuel+1,S,p,v,hl,hfu,hS,k,I,G,L=>by
  have C:l<y.length:=by omega
  have yl:=Bd U C
  have hi:f+l<S.length:=by omega
  have sl:=Bd hS hi
  have hw:=Ays G hq yl sl
  have T:q*y[l]<18446744073709551616:=by omega
  generalize F:p+(q*y[l]+S[f+l])=s at *
  have V:=qx (v:=s%4294967296) hi
  have key:val (S.set (f+l) (s%4294967296))+4294967296 ^ (f+(l+1))*(s/4294967296)=v+4294967296 ^ f*(q*val (y.take (l+1))):=by
   rw[A5 C,←Nat.add_assoc f l 1,Nat.pow_succ]
   have e:=O6 (4294967296 ^ (f+l)) s
   have e2:4294967296 ^ (f+l)*s=4294967296 ^ (f+l)*p+(4294967296 ^ (f+l)*(q*y[l])+4294967296 ^ (f+l)*S[f+l]):=by rw[←F,Nat.mul_add,Nat.mul_add]
   have e3:4294967296 ^ f*(q*(val (y.take l)+4294967296 ^ l*y[l]))=4294967296 ^ f*(q*val (y.take l))+4294967296 ^ (f+l)*(q*y[l]):=by
    rw[Nat.mul_add,Nat.mul_add,Nat.pow_add]
    congr 1
    rw[Nat.mul_assoc];congr 1
    rw[←Nat.mul_assoc,←Nat.mul_assoc,Nat.mul_comm q]
   omega
  obtain⟨S',q1,q2,q3,q4⟩:=Bax (N:=N) (x:=x) (c:=c) (d:=d) (J:=J) U hq Y hs m (l+1) fuel (S.set (f+l) (s%4294967296)) (s/4294967296) v (by omega) (by omega) (C4 hS (by omega) _) (by simpa using k) (fun j hj hk=>by
   rw[List.getElem_set,if_neg (by omega)];exact I j (by simpa using hj) hk) (by omega) key
  refine⟨S',q1,q2,q3,fun D K=>?_⟩
  rw[W5];unfold UF
  rw[Jy C,ct,Aa C,ct,bJ C,wA (by omega),Aa (by omega),ct,pa hi,ct,Aos hi,ct,Jt (show q<18446744073709551616 by omega),Jt (show y[l]<18446744073709551616 by omega),Jt (show S[f+l]<18446744073709551616 by omega),Adn,Jt T,OO,Jt (by omega),OO,F,Jt hw,tX,mX,d6,wS (by omega)]
  exact q4 D K
theorem At8 {N:Nat} {x y:List Nat} {c d:Bool} (L:Al x) (M:Al y) (C:fit (x.length+y.length) N):∀ (m f fuel:Nat) (S:List Nat),f+m=x.length→m<fuel→Al S→S.length=x.length+y.length →
  val S=val (x.take f)*val y →
  ∃ S',Al S'∧val S'=val x*val y∧∀ K:Nat→LA→O R,P7 N K (Ae y) y.length d (Ae x) x.length c fuel (x.length+y.length) (x.length:Int) (f:Int) (Ae S)=K (As (val x*val y)).length (Ae S')
 | 0,f,fuel+1,S,hf,_,hS,D,I=>by
  have T:f=x.length:=by omega
  subst T
  rw[List.take_length] at I
  refine⟨S,hS,I,fun K=>?_⟩
  rw[P7];unfold FW
  rw[Lm (Nat.le_refl _),cf,PC D.symm hS (by rw[D];exact C),I]
 | m+1,f,fuel+1,S,hf,hfu,hS,D,I=>by
  have h1:=C.1;have h2:=C.2
  have k:f<x.length:=by omega
  have xf:=Bd L k
  have b1:=Bo (Cv L f)
  rw[List.length_take,Nat.min_eq_left (by omega)] at b1
  have b2:=Bo M
  have G:val S<4294967296 ^ (f+y.length):=by
   rw[I,Nat.pow_add];exact Nat.mul_lt_mul'' b1 b2
  have F:val (x.take (f+1))*val y=val S+4294967296 ^ f*(x[f]*val y):=by
   rw[A5 k,Nat.add_mul,I,Nat.mul_assoc]
  by_cases U:x[f]=0
  ·obtain⟨S',V,Y,q3⟩:=At8 (c:=c) (d:=d) L M C m (f+1) fuel S (by omega) (by omega) hS D (by rw[F,U];simp)
   refine⟨S',V,Y,fun K=>?_⟩
   rw[P7];unfold FW
   rw[Jy k,ct,Aa k,ct,bJ k,show(((x[f]:Nat):Int)==0)=true by simp[U],ct,wS (by omega)]
   exact q3 K
  ·obtain⟨S1,p1,p2,p3,p4⟩:=Bax (R:=R) (N:=N) (x:=x) (y:=y) (c:=c) (d:=d) (f:=f) (q:=x[f]) (J:=x.length) M xf k (by omega) y.length 0 N S 0 (val S) (by omega) (by omega) hS D (Baw G) (by omega) (by simp[val])
   obtain⟨S',V,Y,q3⟩:=At8 (c:=c) (d:=d) L M C m (f+1) fuel S1 (by omega) (by omega) p1 p2 (by rw[p3,F])
   refine⟨S',V,Y,fun K=>?_⟩
   rw[P7];unfold FW
   rw[Jy k,ct,Aa k,ct,bJ k,show(((x[f]:Nat):Int)==0)=false by simp;exact U,cf]
   have:=p4 (P7 N K (Ae y) y.length d (Ae x) x.length c fuel) K
   simp only[Int.natCast_zero] at this
   dsimp only
   rw[this]
   exact q3 K
theorem fE {N:Nat} {a b:List Nat} {n m:Nat} {t o t' o':Bool} (hn:n=a.length) (L:m=b.length) (F:Al a) (G:Al b) (k:fit (a.length+b.length) N) :
  ∃ S',Al S'∧val S'=val a*val b∧∀ K:Nat→LA→O R,NE N (Ae a) n t o (Ae b) m t' o' K=K (As (val a*val b)).length (Ae S'):=by
 subst hn L
 have U:=k.1;have V:=k.2
 have la:=(Bx F).2
 have lb:=(Bx G).2
 by_cases C:val a=0
 ·refine⟨[],Wy,by rw[C];simp[val],fun K=>?_⟩
  rw[UG];unfold hI
  dsimp only
  rw[Cg rfl F (k.le (by omega)),Cg rfl G (k.le (by omega)),C,Nat.zero_mul,Eu];rfl
 ·by_cases D:val b=0
  ·refine⟨[],Wy,by rw[D];simp[val],fun K=>?_⟩
   rw[UG];unfold hI
   dsimp only
   rw[Cg rfl F (k.le (by omega)),Cg rfl G (k.le (by omega)),D,Nat.mul_zero,Eu]
   cases ((((As (val a)).length:Nat):Int)==0)<;>rfl
  ·obtain⟨S',M,I,T⟩:=At8 (R:=R) (N:=N) (x:=As (val a)) (y:=As (val b)) (c:=o) (d:=o') (Ad _) (Ad _) (k.le (by omega)) (As (val a)).length 0 N (List.replicate ((As (val a)).length+(As (val b)).length) 0) (by omega) (by omega) (C2 _) (by simp) (by rw[Ez];simp[val])
   rw[Ak,Ak] at I
   refine⟨S',M,I,fun K=>?_⟩
   rw[UG];unfold hI
   dsimp only
   have n1:(As (val a)).length≠0:=fun h=>C (Bz.1 h)
   have n2:(As (val b)).length≠0:=fun h=>D (Bz.1 h)
   rw[Cg rfl F (k.le (by omega)),Cg rfl G (k.le (by omega)),And n1,show((false:Bool)==false)=true by rfl,ct,Bga,And n2,cf]
   unfold hG mq
   rw[wA (by omega),A92 (by omega),ct,Int.toNat_natCast,Dq]
   have:=T K
   rw[Ak,Ak] at this
   exact this
end
end Gx

namespace Gx
open Go Go.Proofs
section
variable {R:Type}
theorem qy {v:Nat} (h:(As v).length≤2):v<18446744073709551616:=by
 have:=Bo (Ad v)
 rw[Ak] at this
 have k:4294967296 ^ (As v).length≤4294967296 ^ 2:=Nat.pow_le_pow_right (by omega) h
 omega
theorem VM {v:Nat} (h:v<18446744073709551616):(As v).length≤2:=E5 (by simpa using h)
theorem QH {N:Nat} {l:List Nat} {n:Nat} {t o:Bool} {K:Int→O R} (hn:n=l.length) (k:Al l) (C:l.length≤2) (hN:4≤N):Sb N (Ae l) n t o K=K (val l:Int):=by
 subst hn
 obtain⟨M,rfl⟩:∃ M,N=M+4:=⟨N - 4,by omega⟩
 rw[xS];unfold pU
 match l,k,C with
 | [],_,_ =>
  dsimp only
  rw[Jx];unfold Ll
  simp[val]
 | [x],k,_ =>
  have D:=(D9.1 k).1
  dsimp only
  rw[Jx];unfold Ll
  simp only[List.length_cons,List.length_nil,Int.toNat_zero,Nat.zero_mul,List.drop_zero,DY,A4]
  rw[show decide ((0:Int)<((0+1:Nat):Int))=true by decide,ct,show Ac 0 (0+1)=true by decide,ct,show IntKind.wrap .i64 ((32:Int)*0)=0 by decide,show decide ((0:Int)<0)=false by decide,cf]
  rw[Jx];unfold Ll
  rw[show IntKind.wrap .i64 ((0:Int)+1)=1 by decide,show decide ((1:Int)<((0+1:Nat):Int))=false by decide,cf]
  have e:IntKind.wrap .u64 ((IntKind.wrap .u64 (x:Int))*2 ^ (min (Int.toNat 0) 64))=(x:Int):=by rw[Jt (by omega)];simp;exact Jt (by omega)
  rw[e,show(0:Int)=((0:Nat):Int) by rfl,A1z (by omega) (by omega)]
  simp[val]
 | [x,y],k,_ =>
  have D:=(D9.1 k).1
  have G:=(D9.1 (D9.1 k).2).1
  dsimp only
  rw[Jx];unfold Ll
  simp only[List.length_cons,List.length_nil,Int.toNat_zero,Nat.zero_mul,List.drop_zero,DY,A4]
  rw[show decide ((0:Int)<((0+1+1:Nat):Int))=true by decide,ct,show Ac 0 (0+1+1)=true by decide,ct,show IntKind.wrap .i64 ((32:Int)*0)=0 by decide,show decide ((0:Int)<0)=false by decide,cf]
  rw[Jx];unfold Ll
  rw[show IntKind.wrap .i64 ((0:Int)+1)=1 by decide,show decide ((1:Int)<((0+1+1:Nat):Int))=true by decide,ct,show Ac 1 (0+1+1)=true by decide,ct,show IntKind.wrap .i64 ((32:Int)*1)=32 by decide,show decide ((32:Int)<0)=false by decide]
  simp only[show Int.toNat 1*1=1 by rfl,List.drop_succ_cons,List.drop_zero,A4,cf]
  rw[Jx];unfold Ll
  rw[show IntKind.wrap .i64 ((1:Int)+1)=2 by decide,show decide ((2:Int)<((0+1+1:Nat):Int))=false by decide,cf]
  have e:IntKind.wrap .u64 ((IntKind.wrap .u64 (x:Int))*2 ^ (min (Int.toNat 0) 64))=(x:Int):=by rw[Jt (by omega)];simp;exact Jt (by omega)
  have F:IntKind.wrap .u64 ((IntKind.wrap .u64 (y:Int))*2 ^ (min (Int.toNat 32) 64))=((y*2 ^ 32:Nat):Int):=by
   rw[Jt (by omega),show(2:Int) ^ (min (Int.toNat 32) 64)=((2 ^ 32:Nat):Int) by rfl,Adn,Jt (by omega)]
  rw[e,F,show(0:Int)=((0:Nat):Int) by rfl,A1z (by omega) (by omega),A1z (by simp;omega) (by omega),Nat.zero_or,Nat.or_comm,tY (by omega)]
  congr 1;simp only[val];omega
theorem L8 {N:Nat} {v:Nat} (D:v<18446744073709551616) (hN:4≤N):∃ S,Al S∧val S=v∧∀ K:Nat→LA→O R,Ce N (v:Int) K=K (As v).length (Ae S):=by
 have C:Al [v%4294967296,v/4294967296]:=D9.2 ⟨by omega,D9.2 ⟨by omega,Wy⟩⟩
 have k:val [v%4294967296,v/4294967296]=v:=by simp[val];omega
 refine⟨_,C,k,fun K=>?_⟩
 rw[JN];unfold FJ
 rw[mX,tX,A5m (show v/4294967296<4294967296 by omega)]
 have:=Afo (R:=R) (N:=N) (l:=[v%4294967296,v/4294967296]) (K:=fun c=>K c (Ae [v%4294967296,v/4294967296])) C (by simp) 2 N (by simp) (by omega)
 rw[show [v%4294967296,v/4294967296].take 2=[v%4294967296,v/4294967296] by rfl,k] at this
 rw[m_];unfold pK
 exact this
theorem O7 {N:Nat} {l:List Nat} {n:Nat} {t o:Bool} {K:Int→Bool→O R} (hn:n=l.length) (C:Al l) (k:fit l.length N):EB N (Ae l) n t o K=if val l<18446744073709551616 then K (val l:Int) true else K 0 false:=by
 have F:=k.1
 rw[jq];unfold mj
 rw[Cg hn C k]
 by_cases h:val l<18446744073709551616
 ·have:=VM h
  rw[if_pos h,show decide ((((As (val l)).length:Nat):Int)>2)=false by simp;omega,cf,QH rfl (Ad _) this (by omega),Ak]
 ·have:¬ (As (val l)).length≤2:=fun D=>h (qy D)
  rw[if_neg h,show decide ((((As (val l)).length:Nat):Int)>2)=true by simp;omega,ct]
theorem iN {N:Nat} {l:List Nat} {n:Nat} {t o:Bool} {K:Nat→LA→O R} (hn:n=l.length) (C:Al l) (k:fit l.length N):C_ N (Ae l) n t o K=K (As (val l)).length (Ae (As (val l))):=by
 have D:=k.1;have F:=k.2
 have:=(Bx C).2
 rw[xg];unfold Afv
 rw[Cg hn C k,A92 (by omega),ct,IX,Bool.or_true,ct]
 congr 1
 unfold C0
 rw[Nat.min_self,Nat.mul_one,List.take_zero,List.nil_append,List.take_of_length_le (by rw[Ca];exact Nat.le_refl _),List.drop_eq_nil_of_le (by simp[Ca]),List.append_nil]
end
end Gx

namespace Gx
open Go Go.Proofs
section
variable {R:Type}
def Bh0:List UInt8:=[0,1,2,2,3,3,3,3,4,4,4,4,4,4,4,4,5,5,5,5,5,5,5,5,5,5,5,5,5,5,5,5,6,6,6,6,6,6,6,6,6,6,6,6,6,6,6,6,6,6,6,6,6,6,6,6,6,6,6,6,6,6,6,6,7,7,7,7,7,7,7,7,7,7,7,7,7,7,7,7,7,7,7,7,7,7,7,7,7,7,7,7,7,7,7,7,7,7,7,7,7,7,7,7,7,7,7,7,7,7,7,7,7,7,7,7,7,7,7,7,7,7,7,7,7,7,7,7,8,8,8,8,8,8,8,8,8,8,8,8,8,8,8,8,8,8,8,8,8,8,8,8,8,8,8,8,8,8,8,8,8,8,8,8,8,8,8,8,8,8,8,8,8,8,8,8,8,8,8,8,8,8,8,8,8,8,8,8,8,8,8,8,8,8,8,8,8,8,8,8,8,8,8,8,8,8,8,8,8,8,8,8,8,8,8,8,8,8,8,8,8,8,8,8,8,8,8,8,8,8,8,8,8,8,8,8,8,8,8,8,8,8,8,8,8,8,8,8,8,8,8,8,8,8,8,8]
theorem Bcp:∀ i:Fin 256,0<i.1→2 ^ (Bh0.getD i.1 0).toNat≤2*i.1∧i.1<2 ^ (Bh0.getD i.1 0).toNat:=by decide +kernel
theorem Air {k y x m:Nat} (h:2 ^ k≤2*y∧y<2 ^ k) (C:y=x/2 ^ m):2 ^ (k+m)≤2*x∧x<2 ^ (k+m):=by
 have D:0<2 ^ m:=Nat.pow_pos (by omega)
 have F:x<2 ^ m*(y+1):=by rw[C];have:=Nat.div_add_mod x (2 ^ m);have:=Nat.mod_lt x D;rw[Nat.mul_add];omega
 have G:2 ^ m*y≤x:=by rw[C];exact Nat.mul_div_le x _
 have I:2 ^ m*(y+1)≤2 ^ m*2 ^ k:=Nat.mul_le_mul_left _ h.2
 have L:2 ^ m*2 ^ k≤2 ^ m*(2*y):=Nat.mul_le_mul_left _ h.1
 rw[Nat.pow_add,Nat.mul_comm (2 ^ k)]
 have M:2 ^ m*(2*y)=2*(2 ^ m*y):=by rw[Nat.mul_left_comm]
 omega
theorem Beb {a:Nat} (h:a<256):IntKind.wrap .u8 (a:Int)=(a:Int):=by rw[wrap_u8];congr 1;omega
theorem Bec {N:Nat} {a b:Nat} {K:Int→O R} (I:0<a) (L:a<65536) (M:b≤16):∃ k:Nat,2 ^ k≤2*a∧a<2 ^ k∧k≤16∧Fw N K (a:Int) (b:Int)=K ((b+k:Nat):Int):=by
 have small:∀ i:Nat,0<i→i<256→∃ k:Nat,(2 ^ k≤2*i∧i<2 ^ k)∧k≤8∧(Bh0.getD i 0).toNat=k:=by
  intro i hi C
  have:=Bcp ⟨i,C⟩ hi
  refine⟨_,this,?_,rfl⟩
  rcases Nat.lt_or_ge 8 (Bh0.getD i 0).toNat with h | h
  ·have G:=this.1
   have S:2 ^ 9≤2 ^ (Bh0.getD i 0).toNat:=Nat.pow_le_pow_right (by omega) h
   simp only at G
   omega
  ·exact h
 by_cases h:a≥256
 ·obtain⟨k,p1,p2,D⟩:=small (a/256) (by omega) (by omega)
  have F:=Air (m:=8) p1 (show a/256=a/2 ^ 8 by rfl)
  refine⟨k+8,F.1,F.2,by omega,?_⟩
  unfold Fw
  rw[show decide (((a:Nat):Int)≥256)=true by simp;omega,ct,Uk a 8,show a/2 ^ 8=a/256 by rfl,Beb (by omega),Aa (by omega),ct,Int.toNat_natCast]
  change K (IntKind.wrap .i64 (IntKind.wrap .i64 ((b:Int)+8)+IntKind.wrap .i64 (((Bh0.getD (a/256) 0).toNat:Nat):Int)))=_
  rw[D,i64 (a:=(b:Int)+8) (by omega),i64 (a:=(k:Int)) (by omega),i64 (by omega)]
  congr 1;omega
 ·obtain⟨k,p1,p2,D⟩:=small a (by omega) (by omega)
  refine⟨k,p1.1,p1.2,by omega,?_⟩
  unfold Fw
  rw[show decide (((a:Nat):Int)≥256)=false by simp;omega,cf,Beb (by omega),Aa (by omega),ct,Int.toNat_natCast]
  change K (IntKind.wrap .i64 ((b:Int)+IntKind.wrap .i64 (((Bh0.getD a 0).toNat:Nat):Int)))=_
  rw[D,i64 (a:=(k:Int)) (by omega),i64 (by omega)]
  congr 1
theorem A3i {N:Nat} {c:Nat} {K:Int→O R} (G:0<c) (I:c<4294967296):∃ k:Nat,2 ^ k≤2*c∧c<2 ^ k∧k≤32∧I3 N (c:Int) K=K (k:Int):=by
 rw[BD];unfold P9
 by_cases h:c≥65536
 ·obtain⟨k,p1,p2,F,C⟩:=Bec (R:=R) (N:=N) (a:=c/65536) (b:=16) (K:=K) (by omega) (by omega) (by omega)
  have D:=Air (m:=16) ⟨p1,p2⟩ (show c/65536=c/2 ^ 16 by rfl)
  refine⟨k+16,D.1,D.2,by omega,?_⟩
  rw[show decide (((c:Nat):Int)≥65536)=true by simp;omega,ct,Uk c 16,show c/2 ^ 16=c/65536 by rfl]
  rw[Nat.add_comm k];exact C
 ·obtain⟨k,p1,p2,F,C⟩:=Bec (R:=R) (N:=N) (a:=c) (b:=0) (K:=K) (by omega) (by omega) (by omega)
  refine⟨k,p1,p2,by omega,?_⟩
  rw[show decide (((c:Nat):Int)≥65536)=false by simp;omega,cf]
  rw[Nat.zero_add] at C;exact C
theorem A5q {N:Nat} {c:Nat} (G:0<c) (I:c<4294967296):∃ s:Nat,s≤31∧2147483648≤c*2 ^ s∧c*2 ^ s<4294967296∧∀ K:Int→O R,Ck N (c:Int) K=K (s:Int):=by
 have key:∀ K:Int→O R,∃ s:Nat,(s≤31∧2147483648≤c*2 ^ s∧c*2 ^ s<4294967296)∧Ck N (c:Int) K=K (s:Int):=by
  intro K
  rw[Nc];unfold It
  obtain⟨k,p1,p2,S,L⟩:=A3i (R:=R) (N:=N) (K:=fun c=>K (IntKind.wrap .i64 ((32:Int) - c))) G I
  have e:2 ^ k*2 ^ (32 - k)=4294967296:=by rw[←Nat.pow_add,show k+(32 - k)=32 by omega]
  have T:1≤k:=by
   rcases Nat.eq_zero_or_pos k with h | h
   ·subst h;simp at p2;omega
   ·exact h
  refine⟨32 - k,⟨by omega,?_,?_⟩,?_⟩
  ·have:=Nat.mul_le_mul_right (2 ^ (32 - k)) p1
   rw[e,Nat.mul_assoc] at this;omega
  ·have:=(Nat.mul_lt_mul_right (show 0<2 ^ (32 - k) from Nat.pow_pos (by omega))).2 p2
   rw[e] at this;exact this
  ·rw[L,i64 (by omega)];congr 1;omega
 obtain⟨s,hs,_⟩:=key fun _=>none
 refine⟨s,hs.1,hs.2.1,hs.2.2,fun K=>?_⟩
 obtain⟨C,M,e⟩:=key K
 have:C=s:=by
  rcases Nat.lt_trichotomy s C with h | h | h
  ·exfalso
   have D:2 ^ (s+1)≤2 ^ C:=Nat.pow_le_pow_right (by omega) h
   have F:=Nat.mul_le_mul_left c D
   rw[Nat.pow_succ,←Nat.mul_assoc] at F
   omega
  ·exact h.symm
  ·exfalso
   have D:2 ^ (C+1)≤2 ^ s:=Nat.pow_le_pow_right (by omega) h
   have F:=Nat.mul_le_mul_left c D
   rw[Nat.pow_succ,←Nat.mul_assoc] at F
   omega
 rw[e,this]
theorem At9 {s:Nat} (h:s≤31):2 ^ s≤2147483648:=Nat.pow_le_pow_right (n:=2) (by omega) h
theorem Bay {x c s:Nat} (D:x<4294967296) (k:c<2 ^ s) (hs:s≤31):To .u64 (c:Int) (IntKind.wrap .u64 ((IntKind.wrap .u64 (x:Int))*2 ^ (min (Int.toNat (s:Int)) 64)))=((x*2 ^ s+c:Nat):Int)∧x*2 ^ s+c<4294967296*2 ^ s:=by
 have F:=At9 hs
 have G:x*2 ^ s≤4294967295*2 ^ s:=Nat.mul_le_mul_right _ (by omega)
 have C:(x+1)*2 ^ s≤4294967296*2 ^ s:=Nat.mul_le_mul_right _ (by omega)
 rw[Nat.add_mul] at C
 refine⟨?_,by omega⟩
 rw[Jt (by omega),Int.toNat_natCast,Nat.min_eq_left (by omega),show(2:Int) ^ s=((2 ^ s:Nat):Int) by simp,Adn,Jt (by omega),A1z (by omega) (by omega),Nat.or_comm,tY k]
theorem qz {N:Nat} {a:List Nat} {t o:Bool} {s:Nat} (M:Al a) (hs:s≤31) (D:a.length≤1000000000000):∀ (m d fuel:Nat) (S:List Nat) (c:Nat),d+m=a.length→m<fuel→Al S→S.length=a.length+1→A8z S d→c<2 ^ s →
  val S+4294967296 ^ d*c=val (a.take d)*2 ^ s →
  ∃ S',Al S'∧S'.length=a.length+1∧val S'=val a*2 ^ s∧∀ K:Nat→LA→O R,J4 N K (Ae a) a.length t o (s:Int) fuel (a.length+1) (c:Int) (a.length:Int) (d:Int) (Ae S)=K (a.length+1) (Ae S')
 | 0,d,fuel+1,S,c,V,_,hS,F,C,T,G=>by
  have I:d=a.length:=by omega
  subst I
  have hp:=At9 hs
  rw[List.take_length] at G
  refine⟨S.set a.length c,C4 hS (by omega) _,by simpa using F,by rw[X8 C (by omega),G],fun K=>?_⟩
  rw[J4];unfold Ux
  rw[Lm (Nat.le_refl _),cf,Aa (by omega),ct,Bgd (by omega),ct,A5m (by omega),Bea]
 | m+1,d,fuel+1,S,c,V,Y,hS,F,C,T,G=>by
  have k:d<a.length:=by omega
  have ad:=Bd M k
  obtain⟨w1,w2⟩:=Bay ad T hs
  generalize L:a[d]*2 ^ s+c=w at *
  have U:0<2 ^ s:=Nat.pow_pos (by omega)
  have key:val (S.set d (w%4294967296))+4294967296 ^ (d+1)*(w/4294967296)=val (a.take (d+1))*2 ^ s:=by
   rw[X8 C (by omega),A5 k,Nat.pow_succ,Nat.add_mul,Nat.mul_assoc _ a[d]]
   have e:=O6 (4294967296 ^ d) w
   have e2:4294967296 ^ d*w=4294967296 ^ d*(a[d]*2 ^ s)+4294967296 ^ d*c:=by rw[←L,Nat.mul_add]
   omega
  obtain⟨S',q1,q2,q3,q4⟩:=qz (t:=t) (o:=o) M hs D m (d+1) fuel (S.set d (w%4294967296)) (w/4294967296) (by omega) (by omega) (C4 hS (by omega) d) (by simpa using F) (LI C) (Nat.div_lt_of_lt_mul w2) key
  refine⟨S',q1,q2,q3,fun K=>?_⟩
  rw[J4];unfold Ux
  rw[Jy k,ct,Aa k,ct,bJ k,show decide (((s:Nat):Int)<0)=false by simp,cf,Aa (by omega),ct,Aos (by omega),ct,w1,tX,mX,d6,wS (by omega)]
  exact q4 K
theorem rA {N:Nat} {a:List Nat} {n:Nat} {t o:Bool} {s:Nat} (hn:n=a.length) (C:Al a) (hs:s≤31) (k:fit a.length N) :
  ∃ S',Al S'∧S'.length=a.length+1∧val S'=val a*2 ^ s∧∀ K:Nat→LA→O R,Tb N (Ae a) n t o (s:Int) K=K (a.length+1) (Ae S'):=by
 subst hn
 have L:=k.1;have M:=k.2
 obtain⟨S',D,F,G,I⟩:=qz (R:=R) (N:=N) (t:=t) (o:=o) C hs (by omega) a.length 0 N (List.replicate (a.length+1) 0) 0 (by omega) (by omega) (C2 _) (by simp) (Nt _) (Nat.pow_pos (by omega)) (by rw[Ez];simp[val])
 refine⟨S',D,F,G,fun K=>?_⟩
 rw[dx];unfold KJ
 rw[Bhs (by omega),A92 (by omega),ct,Int.toNat_natCast,Dq]
 exact I K
end
end Gx

namespace Gx
open Go Go.Proofs
section
variable {R:Type}
theorem Bed {P U Q:List Nat} {i:Nat} (h:i<U.length) {f:Int→O R}:An .u32 (List.drop (P.length+((Int.toNat (i:Int))*1)) (Ae (P++(U++Q)))) f=f (U[i]:Nat):=by
 rw[Int.toNat_natCast,Nat.mul_one,Axl (by simp;omega)]
 congr 2
 rw[List.getElem_append_right (by omega)]
 simp only[Nat.add_sub_cancel_left]
 rw[List.getElem_append_left h]
theorem Bge {P U Q:List Nat} {i:Nat} (h:i<U.length):((Nat.beq 1 1)&&((Nat.ble ((P.length+((Int.toNat (i:Int))*1))+1) (List.length (Ae (P++(U++Q)))))&&(!false)))=true:=by
 rw[Ca,Int.toNat_natCast];simp;omega
theorem Baz {P U Q:List Nat} {i v:Nat} (h:i<U.length):List.set (Ae (P++(U++Q))) (P.length+((Int.toNat (i:Int))*1)) (.int .u32 (v:Int))=Ae (P++(U.set i v++Q)):=by
 rw[Int.toNat_natCast,Nat.mul_one,oa,List.set_append_right _ _ (by omega),Nat.add_sub_cancel_left,List.set_append_left _ _ h]
theorem Bhi {P U Q:List Nat} {i:Nat} (h:i<U.length) {f:Int→O R}:An .u32 (List.drop (P.length+(i*1)) (Ae (P++(U++Q)))) f=f (U[i]:Nat):=by
 have:=Bed (R:=R) (P:=P) (Q:=Q) (f:=f) h;rw[Int.toNat_natCast] at this;exact this
theorem rB {X:List Nat} {p g:Nat} (h:p<X.length):val ((X.set p g).take (p+1))=val (X.take p)+4294967296 ^ p*g:=by
 rw[A5 (by simpa using h),List.getElem_set_self,List.take_set_of_le (Nat.le_refl _)]
theorem QI {X:List Nat} {n:Nat} (h:X.length=n+1):val X=val (X.take n)+4294967296 ^ n*X[n]:=by
 have:=A5 (l:=X) (c:=n) (by omega)
 rwa [List.take_of_length_le (by omega)] at this
theorem A5r {D:Nat} (h:1≤D) (k:D<18446744073709551616):IntKind.wrap .u64 ((D:Int) - 1)=((D - 1:Nat):Int):=by rw[mY];omega
theorem Bcq {D y t:Nat} (hD:D<4294967296) (k:y<4294967296) (C:t≤4294967296):D*y+t<18446744073709551616∧(D*y+t)/4294967296+1≤4294967296:=by
 have:D*y≤4294967295*4294967295:=Nat.mul_le_mul (by omega) (by omega)
 omega
theorem A5s {N:Nat} {P Q X v:List Nat} {n D:Nat} {f g:Bool} (hv:Al v) (hn:v.length=n) (hX:Al X) (hXl:X.length=n+1) (hs:n≤1000000000000) (hD:D<4294967296) (hD1:1≤D) {r:Nat} (hr:val X+val v=4294967296 ^ (n+1)+r) (L:r<4294967296 ^ n) :
  ∀ (m o fuel:Nat) (Y:List Nat) (c:Nat),o+m=n→m<fuel→Al Y→Y.length=n+1→(∀ j (T:j<Y.length) (U:j<X.length),o≤j→Y[j]=X[j])→c≤1→val (Y.take o)+4294967296 ^ o*c=val (X.take o)+val (v.take o) →
  ∃ Y',Al Y'∧Y'.length=n+1∧val Y'=r∧∀ K:Int→LA→O R,I4 N K P.length (n+1) (n:Int) (D:Int) (Ae v) n f g fuel (c:Int) (n:Int) (o:Int) (Ae (P++(Y++Q)))=K ((D - 1:Nat):Int) (Ae (P++(Y'++Q)))
 | 0,o,fuel+1,Y,c,ho,_,hY,hYl,C,hc,F=>by
  have V:o=n:=by omega
  subst V
  rw[show v.take o=v by rw[←hn];exact List.take_length] at F
  have e1:=QI hXl
  have eq:val (Y.take o)+4294967296 ^ o*(X[o]+c)=4294967296 ^ o*4294967296+r:=by
   rw[Nat.mul_add,←Nat.pow_succ];omega
  have yt:=Bo (Cv hY o)
  rw[List.length_take,Nat.min_eq_left (by omega)] at yt
  have hP:0<4294967296 ^ o:=Nat.pow_pos (by omega)
  have hw:X[o]+c=4294967296:=by
   have T:(val (Y.take o)+4294967296 ^ o*(X[o]+c))/4294967296 ^ o=X[o]+c:=by rw[Nat.add_mul_div_left _ _ hP,Nat.div_eq_of_lt yt,Nat.zero_add]
   have U:(4294967296 ^ o*4294967296+r)/4294967296 ^ o=4294967296:=by rw[Nat.mul_add_div hP,Nat.div_eq_of_lt L,Nat.add_zero]
   rw[←T,eq,U]
  have hyr:val (Y.take o)=r:=by rw[hw] at eq;omega
  have G:Y[o]=X[o]:=C o (by omega) (by omega) (Nat.le_refl _)
  have hl2:(Y.set o 0).length=o+1:=by simpa using hYl
  refine⟨Y.set o 0,C4 hY (by omega) o,hl2,?_,fun K=>?_⟩
  ·have:=rB (X:=Y) (p:=o) (g:=0) (by omega)
   rw[List.take_of_length_le (by omega),hyr] at this;simpa using this
  ·rw[I4];unfold Qb
   have hXo:=Bd hX (show o<X.length by omega)
   rw[Lm (Nat.le_refl _),cf,Aa (by omega),ct,Bed (by omega),ct,Bge (by omega),ct,G,A5m (show c<4294967296 by omega),OO,hw,mX,Baz (by omega),A5r hD1 (by omega),A5m (by omega)]
 | m+1,o,fuel+1,Y,c,ho,hfu,hY,hYl,C,hc,F=>by
  have M:o<n:=by omega
  have I:o<v.length:=by omega
  have vo:=Bd hv I
  have k:o<Y.length:=by omega
  have yo:=Bd hY k
  have G:Y[o]=X[o]:=C o (by omega) (by omega) (Nat.le_refl _)
  have hs1:c+(Y[o]+v[o])<18446744073709551616:=by omega
  have hs2:(c+(Y[o]+v[o]))/4294967296≤1:=by omega
  generalize S:c+(Y[o]+v[o])=s at *
  have key:val ((Y.set o (s%4294967296)).take (o+1))+4294967296 ^ (o+1)*(s/4294967296)=val (X.take (o+1))+val (v.take (o+1)):=by
   rw[rB k,A5 (l:=X) (by omega),A5 I,Nat.pow_succ]
   have e:=O6 (4294967296 ^ o) s
   have e2:4294967296 ^ o*s=4294967296 ^ o*c+(4294967296 ^ o*X[o]+4294967296 ^ o*v[o]):=by rw[←S,Nat.mul_add,Nat.mul_add,G]
   omega
  obtain⟨Y',q1,q2,q3,q4⟩:=A5s (N:=N) (P:=P) (Q:=Q) (f:=f) (g:=g) hv hn hX hXl hs hD hD1 hr L m (o+1) fuel (Y.set o (s%4294967296)) (s/4294967296) (by omega) (by omega) (C4 hY (by omega) o) (by simpa using hYl) (fun j T U hj=>by rw[List.getElem_set,if_neg (by omega)];exact C j (by simpa using T) U (by omega)) hs2 key
  refine⟨Y',q1,q2,q3,fun K=>?_⟩
  rw[I4];unfold Qb
  rw[Jy M,ct,Aa M,ct,bJ I,Aa (by omega),ct,Bed k,ct,Bge k,ct,Jt (show v[o]<18446744073709551616 by omega),Jt (show Y[o]<18446744073709551616 by omega),OO,Jt (by omega),OO,S,Jt hs1,tX,mX,Baz k,wS (by omega)]
  exact q4 K
theorem Ba0 {N:Nat} {P Q U v:List Nat} {n D:Nat} {f g:Bool} (T:Al v) (hn:v.length=n) (hU:Al U) (hUl:U.length=n+1) (hs:n≤1000000000000) (hN:n+2<N) (hD:D<4294967296) (I:0<val v) (hq1:val U/val v≤D) (hq2:D≤val U/val v+1) :
  ∀ (m p fuel:Nat) (X:List Nat) (t:Nat),p+m=n→m<fuel→Al X→X.length=n+1→(∀ j (h1:j<X.length) (h2:j<U.length),p≤j→X[j]=U[j])→t≤4294967296→val (X.take p)+D*val (v.take p)=val (U.take p)+4294967296 ^ p*t →
  ∃ X',Al X'∧X'.length=n+1∧val X'=val U%val v∧∀ K:Int→LA→O R,Gz N K P.length (n+1) (Ae v) n f g (n:Int) (D:Int) fuel (t:Int) (n:Int) (p:Int) (Ae (P++(X++Q)))=K ((val U/val v:Nat):Int) (Ae (P++(X'++Q)))
 | 0,p,fuel+1,X,t,hp,_,hX,hXl,k,ht,G=>by
  have hp':p=n:=by omega
  subst hp'
  rw[show v.take p=v by rw[←hn];exact List.take_length] at G
  have hXp:X[p]=U[p]:=k p (by omega) (by omega) (Nat.le_refl _)
  have up:=Bd hU (show p<U.length by omega)
  obtain⟨d,c,g1,g2,g3,V,g5⟩:=iM up ht
  have C:(X.set p d).length=p+1:=by simpa using hXl
  have hX2:=C4 hX g1 p
  have hv2:val (X.set p d)=val (X.take p)+4294967296 ^ p*d:=by
   have:=rB (X:=X) (p:=p) (g:=d) (by omega)
   rwa [List.take_of_length_le (by omega)] at this
  have eU:=QI hUl
  have main:val (X.set p d)+D*val v=val U+4294967296 ^ (p+1)*c:=by
   have e:4294967296 ^ p*(U[p]+4294967296*c)=4294967296 ^ p*(d+t):=by rw[g3]
   rw[Nat.mul_add,Nat.mul_add,←Nat.mul_assoc] at e
   rw[hv2,eU,Nat.pow_succ];omega
  have hlt:=Bo hX2
  rw[C] at hlt
  have hdm:=Nat.div_add_mod (val U) (val v)
  have hmod:=Nat.mod_lt (val U) I
  have vlt:=Bo T
  rw[hn] at vlt
  by_cases hc:c=0
  ·subst hc
   have hDq:D=val U/val v:=by
    have:D≤val U/val v:=by rw[Nat.le_div_iff_mul_le I];omega
    omega
   refine⟨X.set p d,hX2,C,?_,fun K=>?_⟩
   ·rw[hDq,Nat.mul_comm] at main;omega
   ·rw[Gz];unfold Kv
    rw[Lm (Nat.le_refl _),cf,Aa (by omega),ct,Bed (by omega),ct,Bge (by omega),ct,hXp,Jt (show U[p]<18446744073709551616 by omega),V,g5,show(((0:Nat):Int)==0)=true by rfl,ct,A5m hD,Baz (by omega),hDq]
  ·have hc1:c=1:=by omega
   subst hc1
   have hDq:D=val U/val v+1:=by
    have:¬ D≤val U/val v:=fun h=>by
     have:=Nat.mul_le_mul_left (val v) h
     rw[Nat.mul_comm] at this
     omega
    omega
   have hr:val (X.set p d)+val v=4294967296 ^ (p+1)+val U%val v:=by
    rw[hDq,Nat.add_mul,Nat.mul_comm (val U/val v)] at main;omega
   obtain⟨Y',q1,q2,q3,q4⟩:=A5s (R:=R) (N:=N) (P:=P) (Q:=Q) (f:=f) (g:=g) (X:=X.set p d) T hn hX2 C hs hD (by rw[hDq];exact Nat.le_add_left 1 _) hr (by omega) p 0 N (X.set p d) 0 (by omega) (by omega) hX2 C (fun _ _ _ _=>rfl) (by omega) (by simp[val])
   refine⟨Y',q1,q2,q3,fun K=>?_⟩
   rw[Gz];unfold Kv
   rw[Lm (Nat.le_refl _),cf,Aa (by omega),ct,Bed (by omega),ct,Bge (by omega),ct,hXp,Jt (show U[p]<18446744073709551616 by omega),V,g5,show(((1:Nat):Int)==0)=false by rfl,cf,Baz (by omega)]
   have:=q4 K
   rw[show D - 1=val U/val v by rw[hDq];rfl] at this
   exact this
 | m+1,p,fuel+1,X,t,hp,hfu,hX,hXl,k,ht,G=>by
  have M:p<n:=by omega
  have L:p<v.length:=by omega
  have vp:=Bd T L
  have F:p<X.length:=by omega
  have hXp:X[p]=U[p]:=k p (by omega) (by omega) (Nat.le_refl _)
  have up:=Bd hU (show p<U.length by omega)
  obtain⟨hw1,hw2⟩:=Bcq hD vp ht
  have hDv:D*v[p]<18446744073709551616:=by omega
  generalize S:D*v[p]+t=w at *
  obtain⟨d,c,g1,g2,g3,V,g5⟩:=iM up (show w%4294967296≤4294967296 by omega)
  have key:val ((X.set p d).take (p+1))+D*val (v.take (p+1))=val (U.take (p+1))+4294967296 ^ (p+1)*(w/4294967296+c):=by
   rw[rB F,A5 L,A5 (l:=U) (by omega),Nat.pow_succ]
   have e:=O6 (4294967296 ^ p) w
   have e2:4294967296 ^ p*w=4294967296 ^ p*(D*v[p])+4294967296 ^ p*t:=by rw[←S,Nat.mul_add]
   have e3:4294967296 ^ p*(U[p]+4294967296*c)=4294967296 ^ p*(d+w%4294967296):=by rw[g3]
   rw[Nat.mul_add,Nat.mul_add,←Nat.mul_assoc] at e3
   have e4:D*(val (v.take p)+4294967296 ^ p*v[p])=D*val (v.take p)+4294967296 ^ p*(D*v[p]):=by rw[Nat.mul_add,Nat.mul_left_comm]
   rw[e4,Nat.mul_add]
   omega
  obtain⟨X',q1,q2,q3,q4⟩:=Ba0 (N:=N) (P:=P) (Q:=Q) (f:=f) (g:=g) T hn hU hUl hs hN hD I hq1 hq2 m (p+1) fuel (X.set p d) (w/4294967296+c) (by omega) (by omega) (C4 hX g1 p) (by simpa using hXl) (fun j h1 h2 hj=>by rw[List.getElem_set,if_neg (by omega)];exact k j (by simpa using h1) h2 (by omega)) (by omega) key
  refine⟨X',q1,q2,q3,fun K=>?_⟩
  rw[Gz];unfold Kv
  rw[Jy M,ct,Aa M,ct,bJ L,Aa (by omega),ct,Bed F,ct,Bge F,ct,hXp,Jt (show v[p]<18446744073709551616 by omega),Adn,Jt hDv,OO,S,Jt hw1,mX,Jt (show w%4294967296<18446744073709551616 by omega),Jt (show U[p]<18446744073709551616 by omega),V,g5,tX,OO,Jt (by omega),Baz F,wS (by omega)]
  exact q4 K
end
end Gx

namespace Gx
open Go Go.Proofs
section
variable {R:Type}
theorem lJ (a b:Nat):Int.tdiv (a:Int) (b:Int)=((a/b:Nat):Int):=rfl
theorem fF (a b:Nat):Int.tmod (a:Int) (b:Int)=((a%b:Nat):Int):=rfl
theorem Bee {l:Nat} (h:l<4294967296):(((Int.fdiv (l:Int) (2 ^ 32)) != (0:Int)))=false:=by rw[tX,Nat.div_eq_of_lt h];rfl
theorem Bef {l:Nat} (h:4294967296≤l):(((Int.fdiv (l:Int) (2 ^ 32)) != (0:Int)))=true:=by
 have k:l/4294967296≠0:=by omega
 rw[tX];rw[bne_iff_ne];omega
theorem Be1 {a b:Nat} (k:a<4294967296) (C:b<4294967296):To .u64 (IntKind.wrap .u64 ((a:Int)*2 ^ 32)) (b:Int)=((a*4294967296+b:Nat):Int):=by
 rw[show(2:Int) ^ 32=((2 ^ 32:Nat):Int) by rfl,Adn,Jt (by omega),A1z (by omega) (by omega),tY (by omega)]
theorem Be2 {B l v1 v2 m u2:Nat} (h:m*B+u2<l*v2):(l*v1+m)*B+u2<l*(v1*B+v2):=by rw[Nat.add_mul,Nat.mul_add,←Nat.mul_assoc l v1];omega
theorem Be3 {B l v1 v2 m u2:Nat} (h:l*v2≤m*B+u2):l*(v1*B+v2)≤(l*v1+m)*B+u2:=by rw[Nat.add_mul,Nat.mul_add,←Nat.mul_assoc l v1];omega
theorem Be4 {B u0 u1 u2 v1 v2:Nat} (k:v2<B) (h:(u0*B+u1)*B+u2<(v1*B+v2+1)*B):u0*B+u1<v1*B+B:=by
 have:u0*B+u1<v1*B+v2+1:=Nat.lt_of_mul_lt_mul_right (Nat.lt_of_le_of_lt (Nat.le_add_right _ u2) h)
 omega
theorem Bf2 (P x:Nat):P*4294967296*x=P*(x*4294967296):=by rw[Nat.mul_assoc,Nat.mul_comm 4294967296]
theorem Ba1 {N:Nat} {P Q U v:List Nat} {n:Nat} {f g:Bool} {K:Int→LA→O R} (hn:v.length=n+2) (hv:Al v) (hU:Al U) (hUl:U.length=n+3) (hs:n≤1000000000000) {v1 v2 u2 top:Nat}
  (e1:v[n+1]'(by omega)=v1) (e2:v[n]'(by omega)=v2) (e3:U[n]'(by omega)=u2) (hv1:2147483648≤v1) (htop:top<v1*4294967296+4294967296)
  (hV:(v1*4294967296+v2)*4294967296 ^ n≤val v) (hV':val v<(v1*4294967296+v2+1)*4294967296 ^ n) (hUU:(top*4294967296+u2)*4294967296 ^ n≤val U) (hUU':val U<(top*4294967296+u2+1)*4294967296 ^ n) (hq:val U/val v<4294967296) :
  ∀ (k fuel l m:Nat),k<fuel→4294967296≤m+k*2147483648→m<4294967296→l*v1+m=top→val U/val v≤l→∃ D,D<4294967296∧val U/val v≤D∧D≤val U/val v+1 ∧
   Fm N K P.length (n+3) (Ae v) (n+2) f g (Ae (P++(U++Q))) fuel ((n+2:Nat):Int) (l:Int) (m:Int)=Fl N K P.length (n+3) (Ae v) (n+2) f g ((n+2:Nat):Int) (Ae (P++(U++Q))) (D:Int):=by
 have b1:=Bd hv (show n+1<v.length by omega)
 have b2:=Bd hv (show n<v.length by omega)
 have b3:=Bd hU (show n<U.length by omega)
 rw[e1] at b1;rw[e2] at b2;rw[e3] at b3
 have hP:0<4294967296 ^ n:=Nat.pow_pos (by omega)
 have M:0<val v:=Nat.lt_of_lt_of_le (Nat.mul_pos (by omega) hP) hV
 intro k
 induction k with
 | zero=>intro fuel l m _ h1 h2;omega
 | succ k ih =>
  intro fuel l m hf hm hm2 T hql
  obtain⟨fuel,rfl⟩:∃ F,fuel=F+1:=⟨fuel - 1,by omega⟩
  generalize S:val U/val v=q at *
  have wi1:IntKind.wrap .i64 (((n+2:Nat):Int) - 1)=((n+1:Nat):Int):=by rw[i64 (by omega)];omega
  have wi2:IntKind.wrap .i64 (((n+2:Nat):Int) - 2)=((n:Nat):Int):=by rw[i64 (by omega)];omega
  have lower:q<l→l<18446744073709551616→∃ D,D<4294967296∧q≤D∧D≤q+1 ∧
    Ne N (Fm N K P.length (n+3) (Ae v) (n+2) f g (Ae (P++(U++Q))) fuel) K P.length (n+3) (Ae v) (n+2) f g ((n+2:Nat):Int) (l:Int) (m:Int) (Ae (P++(U++Q)))=Fl N K P.length (n+3) (Ae v) (n+2) f g ((n+2:Nat):Int) (Ae (P++(U++Q))) (D:Int):=by
   intro hlt C
   have L:(l - 1)*v1+(m+v1)=top:=by
    have:l*v1=(l - 1)*v1+v1:=by
     obtain⟨l',rfl⟩:∃ l',l=l'+1:=⟨l - 1,by omega⟩
     rw[Nat.add_mul];simp
    omega
   unfold Ne W9
   rw[wi1,Aa (by omega),ct,bJ (show n+1<v.length by omega),e1,Jt (show v1<18446744073709551616 by omega),OO,Jt (show m+v1<18446744073709551616 by omega),A5r (by omega) C]
   by_cases V:4294967296≤m+v1
   ·have hDB:l - 1<4294967296:=by
     apply Nat.lt_of_not_le;intro hge
     have:=Nat.mul_le_mul_right v1 hge
     rw[Nat.mul_comm 4294967296] at this
     omega
    have G:(l - 1)*(v1*4294967296+v2)≤top*4294967296+u2:=by
     have x1:(l - 1)*v2≤4294967295*4294967295:=Nat.mul_le_mul (by omega) (by omega)
     rw[←L,Nat.add_mul,Nat.mul_add,←Nat.mul_assoc]
     omega
    have I:=Ao0 hV' hUU G (by omega) M
    rw[S] at I
    exact⟨l - 1,hDB,by omega,I,by rw[Bef V,ct]⟩
   ·obtain⟨D,d1,d2,d3,d4⟩:=ih fuel (l - 1) (m+v1) (by omega) (by omega) (by omega) L (by omega)
    exact⟨D,d1,d2,d3,by rw[Bee (by omega),cf,d4]⟩
  rw[Fm];unfold Xa
  by_cases hlB:l<4294967296
  ·rw[Bee hlB,show((false:Bool)==false)=true by rfl,ct,wi2,Aa (by omega),ct,bJ (show n<v.length by omega),Aa (by omega),ct,Bed (show n<U.length by omega),Bga,e2,e3,Jt (show v2<18446744073709551616 by omega),Jt (show u2<18446744073709551616 by omega),Adn]
   have x1:l*v2≤4294967295*4294967295:=Nat.mul_le_mul (by omega) (by omega)
   rw[Jt (show l*v2<18446744073709551616 by omega),Be1 hm2 b3]
   by_cases Y:m*4294967296+u2<l*v2
   ·rw[show decide (((l*v2:Nat):Int)>((m*4294967296+u2:Nat):Int))=true by rw[decide_eq_true_eq];omega,ct]
    have hup:val U/val v<l:=Aoz hV hUU' (by rw[←T];exact Be2 Y) M
    rw[S] at hup
    exact lower hup (by omega)
   ·rw[show decide (((l*v2:Nat):Int)>((m*4294967296+u2:Nat):Int))=false by rw[decide_eq_false_iff_not];omega,cf]
    have G:l*(v1*4294967296+v2)≤top*4294967296+u2:=by
     rw[←T];exact Be3 (Nat.le_of_not_lt Y)
    have I:=Ao0 hV' hUU G (by omega) M
    rw[S] at I
    exact⟨l,hlB,hql,I,rfl⟩
  ·rw[Bef (by omega),show((true:Bool)==false)=false by rfl,cf]
   have C:l<18446744073709551616:=by
    have:l*2147483648≤l*v1:=Nat.mul_le_mul_left _ hv1
    omega
   exact lower (by omega) C
theorem Ais {N:Nat} {P Q U v:List Nat} {n:Nat} {f g:Bool} (hn:v.length=n+2) (I:Al v) (hU:Al U) (hUl:U.length=n+3) (hs:n≤1000000000) (hN:n+8<N) (Y:2147483648≤v[n+1]'(by omega)) (hlt:val U<val v*4294967296) :
  ∃ U',Al U'∧U'.length=n+3∧val U'=val U%val v∧∀ K:Int→LA→O R,L0 N P.length (n+3) (Ae v) (n+2) f g (Ae (P++(U++Q))) K=K ((val U/val v:Nat):Int) (Ae (P++(U'++Q))):=by
 have b1:=Bd I (show n+1<v.length by omega)
 have b2:=Bd I (show n<v.length by omega)
 have b3:=Bd hU (show n<U.length by omega)
 have b4:=Bd hU (show n+1<U.length by omega)
 have b5:=Bd hU (show n+2<U.length by omega)
 have hP:0<4294967296 ^ n:=Nat.pow_pos (by omega)
 have vv:val v=val (v.take n)+4294967296 ^ n*(v[n+1]'(by omega)*4294967296+v[n]'(by omega)):=by
  have k:=A5 (l:=v) (c:=n+1) (by omega)
  have C:=A5 (l:=v) (c:=n) (by omega)
  rw[List.take_of_length_le (by omega)] at k
  rw[k,C,Nat.pow_succ,Nat.mul_add,Nat.mul_assoc,Nat.mul_comm 4294967296 v[n+1]];omega
 have uu:val U=val (U.take n)+4294967296 ^ n*((U[n+2]'(by omega)*4294967296+U[n+1]'(by omega))*4294967296+U[n]'(by omega)):=by
  have h0:=A5 (l:=U) (c:=n+2) (by omega)
  have k:=A5 (l:=U) (c:=n+1) (by omega)
  have C:=A5 (l:=U) (c:=n) (by omega)
  rw[List.take_of_length_le (by omega)] at h0
  have x1:4294967296 ^ (n+2)*U[n+2]=4294967296 ^ n*(U[n+2]*4294967296*4294967296):=by rw[Nat.pow_succ (n:=4294967296) (m:=n+1),Nat.pow_succ,Bf2,Bf2]
  have x2:4294967296 ^ (n+1)*U[n+1]=4294967296 ^ n*(U[n+1]*4294967296):=by rw[Nat.pow_succ,Bf2]
  rw[h0,k,C,x1,x2,Nat.add_mul,Nat.mul_add,Nat.mul_add];omega
 have tv:=Bo (Cv I n)
 have tu:=Bo (Cv hU n)
 rw[List.length_take,Nat.min_eq_left (by omega)] at tv tu
 generalize e1:v[n+1]'(by omega)=v1 at *
 generalize e2:v[n]'(by omega)=v2 at *
 generalize e3:U[n]'(by omega)=u2 at *
 generalize e4:U[n+1]'(by omega)=u1 at *
 generalize e5:U[n+2]'(by omega)=u0 at *
 have L:0<val v:=by
  have:0<4294967296 ^ n*(v1*4294967296+v2):=Nat.mul_pos hP (by omega)
  omega
 have hV:(v1*4294967296+v2)*4294967296 ^ n≤val v:=by rw[Nat.mul_comm];omega
 have hV':val v<(v1*4294967296+v2+1)*4294967296 ^ n:=by rw[Nat.mul_comm,Nat.mul_add];omega
 have hUU:((u0*4294967296+u1)*4294967296+u2)*4294967296 ^ n≤val U:=by rw[Nat.mul_comm];omega
 have hUU':val U<((u0*4294967296+u1)*4294967296+u2+1)*4294967296 ^ n:=by rw[Nat.mul_comm,Nat.mul_add];omega
 have hq:val U/val v<4294967296:=Nat.div_lt_of_lt_mul hlt
 have F:u0*4294967296+u1<v1*4294967296+4294967296:=by
  have k:((u0*4294967296+u1)*4294967296+u2)*4294967296 ^ n<(v1*4294967296+v2+1)*4294967296 ^ n*4294967296:=by
   have:=(Nat.mul_lt_mul_right (show 0<4294967296 by omega)).2 hV'
   omega
  rw[Nat.mul_right_comm] at k
  exact Be4 b2 (Nat.lt_of_mul_lt_mul_right k)
 obtain⟨top,M⟩:∃ top,u0*4294967296+u1=top:=⟨_,rfl⟩
 rw[M] at hUU hUU' F
 have hdm:=Nat.div_add_mod top v1
 have hmod:=Nat.mod_lt top (show 0<v1 by omega)
 have hq0:val U/val v≤top/v1:=by
  have k:val U/val v<top/v1+1:=by
   apply Aoz hV hUU' _ L
   have C:top<v1*(top/v1+1):=by rw[Nat.mul_add];omega
   have h3:(top+1)*4294967296≤v1*(top/v1+1)*4294967296:=Nat.mul_le_mul_right _ C
   rw[Nat.mul_add,←Nat.mul_assoc,Nat.mul_comm _ v1]
   omega
  omega
 have key:∀ K:Int→LA→O R,∃ D,D<4294967296∧val U/val v≤D∧D≤val U/val v+1∧L0 N P.length (n+3) (Ae v) (n+2) f g (Ae (P++(U++Q))) K=Fl N K P.length (n+3) (Ae v) (n+2) f g ((n+2:Nat):Int) (Ae (P++(U++Q))) (D:Int):=by
  intro K
  obtain⟨D,S,T,V,G⟩:=Ba1 (R:=R) (N:=N) (P:=P) (Q:=Q) (f:=f) (g:=g) (K:=K) hn I hU hUl (by omega) e1 e2 e3 Y F hV hV' hUU hUU' hq 2 N (top/v1) (top%v1) (by omega) (by omega) (by omega) (by rw[Nat.mul_comm];exact hdm) hq0
  refine⟨D,S,T,V,?_⟩
  rw[←G,PQ];unfold X3
  have wi1:IntKind.wrap .i64 (((n+2:Nat):Int) - 1)=((n+1:Nat):Int):=by rw[i64 (by omega)];omega
  rw[Aa (by omega),ct,Bhi (show n+2<U.length by omega),wi1,Aa (by omega),ct,Bed (show n+1<U.length by omega),Aa (by omega),ct,bJ (show n+1<v.length by omega),e1,e4,e5,Jt (show v1<18446744073709551616 by omega),And (by omega),cf,ct,bJ (show n+1<v.length by omega),e1,Jt (show v1<18446744073709551616 by omega),And (by omega),cf,Jt (show u0<18446744073709551616 by omega),Jt (show u1<18446744073709551616 by omega),Be1 b5 b4,M,lJ,fF,Jt (show top/v1<18446744073709551616 from Nat.lt_of_le_of_lt (Nat.div_le_self _ _) (by omega))]
 have fin:∀ D,D<4294967296→val U/val v≤D→D≤val U/val v+1→∃ U',Al U'∧U'.length=n+3∧val U'=val U%val v∧∀ K:Int→LA→O R,Fl N K P.length (n+3) (Ae v) (n+2) f g ((n+2:Nat):Int) (Ae (P++(U++Q))) (D:Int)=K ((val U/val v:Nat):Int) (Ae (P++(U'++Q))):=by
  intro D S T V
  obtain⟨X',q1,q2,q3,q4⟩:=Ba0 (R:=R) (N:=N) (P:=P) (Q:=Q) (U:=U) (v:=v) (n:=n+2) (D:=D) (f:=f) (g:=g) I hn hU hUl (by omega) (by omega) S L T V (n+2) 0 N U 0 (by omega) (by omega) hU hUl (fun _ _ _ _=>rfl) (by omega) (by simp[val])
  exact⟨X',q1,q2,q3,fun K=>by unfold Fl W8;exact q4 K⟩
 by_cases hz:val U/val v+1<4294967296
 ·obtain⟨U1,a1,a2,a3,a4⟩:=fin (val U/val v) hq (Nat.le_refl _) (by omega)
  obtain⟨U2,c1,c2,c3,c4⟩:=fin (val U/val v+1) hz (by omega) (Nat.le_refl _)
  have:U1=U2:=by
   have k:=(Bx a1).1;have C:=(Bx c1).1
   rw[a3] at k;rw[c3] at C;rw[k,C,a2,c2]
  subst this
  refine⟨U1,a1,a2,a3,fun K=>?_⟩
  obtain⟨D,S,T,V,G⟩:=key K
  have:D=val U/val v∨D=val U/val v+1:=by
   generalize val U/val v=q at *;omega
  rcases this with rfl | rfl
  ·rw[G,a4 K]
  ·rw[G,c4 K]
 ·obtain⟨U1,a1,a2,a3,a4⟩:=fin (val U/val v) hq (Nat.le_refl _) (by omega)
  refine⟨U1,a1,a2,a3,fun K=>?_⟩
  obtain⟨D,S,T,V,G⟩:=key K
  have:D=val U/val v:=by
   generalize val U/val v=q at *;omega
  subst this
  rw[G,a4 K]
end
end Gx

namespace Gx
open Go Go.Proofs
section
variable {R:Type}
theorem fG {l:List Nat} {d:Nat} (h:d<l.length):val (l.drop d)=l[d]+4294967296*val (l.drop (d+1)):=by
 rw[List.drop_eq_getElem_cons h,val]
theorem Ayt {S:List Nat} {d v:Nat} (h:d<S.length):(S.set d v).drop d=v::S.drop (d+1):=by
 rw[List.drop_eq_getElem_cons (by simpa using h),List.getElem_set_self,List.drop_set_of_lt (by omega)]
theorem yW {N:Nat} {a:List Nat} {t o:Bool} {b:Nat} (M:Al a) (C:0<b) (V:b<4294967296) (D:fit a.length N):∀ (c fuel:Nat) (S:List Nat) (r:Nat),c<fuel→c≤a.length→Al S→S.length=a.length→r<b→val (S.drop c)*b+r=val (a.drop c) →
  ∃ S' S2,Al S'∧val S'=val a/b∧Al S2∧val S2=val a%b∧∀ K:Nat→Nat→LA→LA→O R,Et N K (Ae a) a.length t o (b:Int) fuel (r:Int) ((c:Int) - 1) (Ae S)=K (As (val a/b)).length (As (val a%b)).length (Ae S') (Ae S2)
 | 0,fuel+1,S,r,_,_,hS,I,hr,F=>by
  have Y:=D.1
  rw[List.drop_zero,List.drop_zero] at F
  have hq:val a/b=val S:=by
   rw[←F,Nat.mul_comm,Nat.mul_add_div C,Nat.div_eq_of_lt hr,Nat.add_zero]
  have T:val a%b=r:=by rw[←F,Nat.mul_comm,Nat.mul_add_mod,Nat.mod_eq_of_lt hr]
  obtain⟨S2,s1,s2,s3⟩:=L8 (R:=R) (N:=N) (v:=r) (by omega) (by omega)
  refine⟨S,S2,hS,hq.symm,s1,by rw[T,s2],fun K=>?_⟩
  rw[Et];unfold Ki
  rw[show decide ((((0:Nat):Int) - 1)≥0)=false by simp,cf,PC I.symm hS (by rw[I];exact D),s3,hq,T]
 | c+1,fuel+1,S,r,hfu,hc,hS,I,hr,F=>by
  have Y:=D.1;have h2:=D.2
  have k:c<a.length:=by omega
  have ac:=Bd M k
  have hrB:r<4294967296:=by omega
  have U:r*4294967296+a[c]<b*4294967296:=by
   have:(r+1)*4294967296≤b*4294967296:=Nat.mul_le_mul_right _ hr
   rw[Nat.add_mul] at this;omega
  have L:r*4294967296+a[c]<18446744073709551616:=by omega
  obtain⟨w,G⟩:∃ w,r*4294967296+a[c]=w:=⟨_,rfl⟩
  rw[G] at U L
  have hqB:w/b<4294967296:=Nat.div_lt_of_lt_mul U
  have hdm:=Nat.div_add_mod w b
  obtain⟨S',S2,q1,q2,q3,q4,q5⟩:=yW (t:=t) (o:=o) M C V D c fuel (S.set c (w/b)) (w%b) (by omega) (by omega) (C4 hS hqB c) (by simpa using I) (Nat.mod_lt _ C) (by
   rw[Ayt (by omega),val,fG k,Nat.add_mul,Nat.mul_assoc,←F,Nat.mul_add,Nat.mul_comm (w/b)]
   omega)
  refine⟨S',S2,q1,q2,q3,q4,fun K=>?_⟩
  rw[Et];unfold Ki
  rw[show(((c+1:Nat):Int) - 1)=(c:Int) by omega,show decide ((c:Int)≥0)=true by simp,ct,Aa k,ct,bJ k,Jt (show b<18446744073709551616 by omega),And (by omega),cf,ct,Aos (by omega),ct,cf,Jt (show a[c]<18446744073709551616 by omega),Be1 hrB ac,G,lJ,fF,Jt (show w/b<18446744073709551616 by omega),A5m hqB,d6,i64 (by omega)]
  exact q5 K
theorem Ayu {N:Nat} {a:List Nat} {n:Nat} {t o:Bool} {b:Nat} (hn:n=a.length) (D:Al a) (k:0<b) (F:b<4294967296) (C:fit a.length N) :
  ∃ S' S2,Al S'∧val S'=val a/b∧Al S2∧val S2=val a%b∧∀ K:Nat→Nat→LA→LA→O R,Gy N (Ae a) n t o (b:Int) K=K (As (val a/b)).length (As (val a%b)).length (Ae S') (Ae S2):=by
 subst hn
 have U:=C.1;have V:=C.2
 obtain⟨S',S2,G,I,L,M,T⟩:=yW (R:=R) (t:=t) (o:=o) D k F C a.length N (List.replicate a.length 0) 0 (by omega) (Nat.le_refl _) (C2 _) (by simp) k (by rw[List.drop_eq_nil_of_le (by simp),List.drop_eq_nil_of_le (by simp)];simp[val])
 refine⟨S',S2,G,I,L,M,fun K=>?_⟩
 rw[BF];unfold Qa
 rw[A92 (by omega),ct,i64 (by omega),Dq]
 exact T K
theorem Ba2 {x V s:Nat} (F:x<4294967296) (hs:s≤31):(x+4294967296*V)/2 ^ s=(x+4294967296*(V%4294967296))/2 ^ s%4294967296+4294967296*(V/2 ^ s):=by
 have k:0<2 ^ s:=Nat.pow_pos (by omega)
 have D:2 ^ s∣4294967296:=⟨2 ^ (32 - s),by rw[←Nat.pow_add,show s+(32 - s)=32 by omega]⟩
 have key:∀ W,(x+4294967296*W)/2 ^ s=(x+4294967296*(W%2 ^ s))/2 ^ s+4294967296*(W/2 ^ s):=by
  intro W
  have e:x+4294967296*W=x+4294967296*(W%2 ^ s)+2 ^ s*(4294967296*(W/2 ^ s)):=by
   have h:=Nat.div_add_mod W (2 ^ s)
   have:4294967296*W=4294967296*(2 ^ s*(W/2 ^ s)+W%2 ^ s):=by rw[h]
   rw[this,Nat.mul_add,Nat.mul_left_comm];omega
  rw[e,Nat.add_mul_div_left _ _ k]
 have C:(x+4294967296*(V%2 ^ s))/2 ^ s<4294967296:=by
  rw[Nat.div_lt_iff_lt_mul k]
  have:V%2 ^ s+1≤2 ^ s:=Nat.mod_lt _ k
  have:=Nat.mul_le_mul_left 4294967296 this
  rw[Nat.mul_add] at this
  omega
 rw[key V,key (V%4294967296),Nat.mod_mod_of_dvd _ D,Nat.add_mul_mod_self_left,Nat.mod_eq_of_lt C]
theorem Bcr:∀ {l:List Nat},Al l→val l%4294967296=l.getD 0 0
 | [],_=>rfl
 | x::r,h=>by
  have:=(D9.1 h).1
  simp[val];omega
theorem Ayv {N:Nat} {a:List Nat} {o:Bool} {s:Nat} (F:Al a) (hs:s≤31) (G:fit a.length N):∀ (m d fuel:Nat) (S:List Nat),d+m=a.length→m<fuel→Al S→S.length=a.length→A8z S d→val S+4294967296 ^ d*(val (a.drop d)/2 ^ s)=val a/2 ^ s →
  ∃ S',Al S'∧val S'=val a/2 ^ s∧∀ K:Nat→Bool→LA→O R,D3 N K o fuel (Ae a) a.length (s:Int) a.length (Ae a) a.length (a.length:Int) (d:Int) (Ae S)=K (As (val a/2 ^ s)).length true (Ae S')
 | 0,d,fuel+1,S,hd,_,hS,I,L,D=>by
  have M:d=a.length:=by omega
  subst M
  rw[List.drop_length] at D
  simp[val] at D
  refine⟨S,hS,D,fun K=>?_⟩
  rw[D3];unfold Je
  rw[Lm (Nat.le_refl _),cf,PC I.symm hS (by rw[I];exact G),D]
 | m+1,d,fuel+1,S,hd,hfu,hS,I,L,D=>by
  have h1:=G.1;have h2:=G.2
  have k:d<a.length:=by omega
  have ad:=Bd F k
  have step:=Ba2 (V:=val (a.drop (d+1))) ad hs
  rw[Bcr (TU F _),←fG k] at step
  have hg:(a.drop (d+1)).getD 0 0=a.getD (d+1) 0:=by simp[List.getD_eq_getElem?_getD,List.getElem?_drop]
  rw[hg] at step
  have go:∀ w,(a[d]+4294967296*a.getD (d+1) 0)/2 ^ s=w→∃ S',Al S'∧val S'=val a/2 ^ s∧∀ K:Nat→Bool→LA→O R,D3 N K o fuel (Ae a) a.length (s:Int) a.length (Ae a) a.length (a.length:Int) ((d+1:Nat):Int) (Ae (S.set d (w%4294967296)))=K (As (val a/2 ^ s)).length true (Ae S'):=by
   intro w hw
   refine Ayv (o:=o) F hs G m (d+1) fuel (S.set d (w%4294967296)) (by omega) (by omega) (C4 hS (by omega) d) (by simpa using I) (LI L) ?_
   rw[X8 L (by omega),←D,step,hw,Nat.pow_succ,Nat.mul_add,Nat.mul_assoc];omega
  by_cases hn:d+1<a.length
  ·have an:=Bd F hn
   have C:a.getD (d+1) 0=a[d+1]:=by rw[List.getD_eq_getElem?_getD,List.getElem?_eq_getElem hn];rfl
   rw[C] at go
   obtain⟨S',T,U,Y⟩:=go _ rfl
   refine⟨S',T,U,fun K=>?_⟩
   rw[D3];unfold Je
   have e:To .u64 ((a[d]:Nat):Int) (IntKind.wrap .u64 (((a[d+1]:Nat):Int)*2 ^ 32))=((a[d]+4294967296*a[d+1]:Nat):Int):=by
    rw[show(2:Int) ^ 32=((2 ^ 32:Nat):Int) by rfl,Adn,Jt (by omega),A1z (by omega) (by omega),Nat.or_comm,tY (by omega)]
    congr 1;omega
   rw[Jy k,ct,Aa k,ct,bJ k,wS (by omega),Jy hn,ct,Aa hn,ct,bJ hn,show decide (((s:Nat):Int)<0)=false by simp,cf,ct,Aos (by omega),ct,Jt (show a[d]<18446744073709551616 by omega),Jt (show a[d+1]<18446744073709551616 by omega),e,Int.toNat_natCast s,Nat.min_eq_left (by omega),Uk,mX,d6]
   exact Y K
  ·have C:a.getD (d+1) 0=0:=by rw[List.getD_eq_getElem?_getD,List.getElem?_eq_none (by omega)];rfl
   rw[C,Nat.mul_zero,Nat.add_zero] at go
   obtain⟨S',T,U,Y⟩:=go _ rfl
   refine⟨S',T,U,fun K=>?_⟩
   rw[D3];unfold Je
   rw[Jy k,ct,Aa k,ct,bJ k,wS (by omega),Lm (by omega),cf,show decide (((s:Nat):Int)<0)=false by simp,cf,ct,Aos (by omega),ct,Jt (show a[d]<18446744073709551616 by omega),Int.toNat_natCast s,Nat.min_eq_left (by omega),Uk,mX,d6]
   exact Y K
theorem Ba3 {N:Nat} {a:List Nat} {n:Nat} {t o:Bool} {s:Nat} (hn:n=a.length) (C:Al a) (hs:s≤31) (k:fit a.length N) :
  ∃ S',Al S'∧val S'=val a/2 ^ s∧∀ K:Nat→Bool→LA→O R,Nq N (Ae a) n t o (s:Int) K=K (As (val a/2 ^ s)).length true (Ae S'):=by
 have T:=k.1;have U:=k.2
 have la:=(Bx C).2
 have F:IntKind.wrap .i64 (Int.tdiv ((s:Nat):Int) 32)=((0:Nat):Int):=by
  rw[show(32:Int)=((32:Nat):Int) by rfl,lJ,Nat.div_eq_of_lt (by omega)];decide
 have e1:Int.tmod ((s:Nat):Int) 32=(s:Int):=by rw[show(32:Int)=((32:Nat):Int) by rfl,fF,Nat.mod_eq_of_lt (by omega)]
 by_cases D:val a=0
 ·refine⟨[],Wy,by rw[D];simp[val],fun K=>?_⟩
  rw[Uy];unfold Oz
  rw[show decide (((s:Nat):Int)<0)=false by simp,cf,Cg hn C k,D,F,Nat.zero_div,Eu];rfl
 ·obtain⟨S',I,G,L⟩:=Ayv (R:=R) (o:=o) (a:=As (val a)) (Ad _) hs (k.le la) (As (val a)).length 0 N (List.replicate (As (val a)).length 0) (by omega) (by omega) (C2 _) (by simp) (Nt _) (by rw[Ez];simp)
  rw[Ak] at G
  refine⟨S',I,G,fun K=>?_⟩
  rw[Uy];unfold Oz
  have M:(As (val a)).length≠0:=fun h=>D (Bz.1 h)
  rw[show decide (((s:Nat):Int)<0)=false by simp,cf,Cg hn C k,F,e1,show decide (((0:Nat):Int)≥(((As (val a)).length:Nat):Int))=false by rw[decide_eq_false_iff_not];omega,cf]
  have c1:((decide ((0:Int)≤((0:Nat):Int)))&&((decide (((0:Nat):Int)≤(((As (val a)).length:Nat):Int)))&&((decide ((((As (val a)).length:Nat):Int)≤(((As (val a)).length:Nat):Int)))&&(decide ((((As (val a)).length:Nat):Int)≤(((As (val a)).length:Nat):Int))))))=true:=by simp
  rw[c1,ct,Int.toNat_natCast,Nat.sub_zero,A92 (by omega),ct,Nat.zero_mul,List.drop_zero,Nat.mul_one,Wz,List.take_length,Dq]
  have:=L K
  rw[Ak] at this
  exact this
end
end Gx

namespace Gx
open Go Go.Proofs
section
variable {R:Type}
theorem VN {S:List Nat} {k:Nat} (h:val S<4294967296 ^ k):val (S.take k)=val S:=by
 by_cases F:k≤S.length
 ·have C:=Sz (S.take k) (S.drop k)
  rw[List.take_append_drop,List.length_take,Nat.min_eq_left F] at C
  rcases Nat.eq_zero_or_pos (val (S.drop k)) with D | D
  ·rw[D] at C;simpa using C.symm
  ·have:=Nat.le_mul_of_pos_right (4294967296 ^ k) D
   omega
 ·rw[List.take_of_length_le (by omega)]
theorem VO {S:List Nat} {n:Nat} (hS:Al S) (h:S.length=n+1):val S<(S[n]+1)*4294967296 ^ n:=by
 have C:=QI h
 have k:=Bo (Cv hS n)
 rw[List.length_take,Nat.min_eq_left (by omega)] at k
 rw[Nat.add_mul,Nat.mul_comm S[n]];omega
theorem Bh1 {a b c:Nat} (k:a≤b) (C:b≤c):((decide ((0:Int)≤(a:Int)))&&((decide ((a:Int)≤(b:Int)))&&((decide ((b:Int)≤(c:Int)))&&(decide ((c:Int)≤(c:Int))))))=true:=by simp;omega
theorem Aqp {N:Nat} {v u0 Sv:List Nat} {n D s:Nat} (hn:v.length=n+2) (hv:Al v) (T:2147483648≤v[n+1]'(by omega)) (hSv:List.take ((n+2)*1) (Ae Sv)=Ae v) (hu:Al u0) (hul:u0.length=D+(n+2)) (hs:s≤31) (I:fit (D+n+4) N) :
  ∀ (j fuel c:Nat) (W q:List Nat),j<fuel→c+j=D→Al W→W.length=u0.length→Al q→q.length=D→W.take j=u0.take j→val (W.drop j)<val v→val (q.drop j)*val v+val (W.drop j)=val (u0.drop j) →
  ∃ Sq Sr,Al Sq∧val Sq=val u0/val v∧Al Sr∧val Sr=val u0%val v/2 ^ s∧∀ K:Nat→Nat→LA→LA→O R,Ev N K (s:Int) (n+2) u0.length (Ae Sv) fuel D ((n+2:Nat):Int) (D:Int) (D:Int) (c:Int) (Ae q) (Ae W)=K (As (val u0/val v)).length (As (val u0%val v/2 ^ s)).length (Ae Sq) (Ae Sr)
 | 0,fuel+1,c,W,q,_,hc,hW,hWl,hq,F,L,hr,C=>by
  have h1:=I.1;have h2:=I.2
  simp only[List.drop_zero] at C hr
  have M:0<val v:=by omega
  have vlt:=Bo hv
  rw[hn] at vlt
  have V:val u0/val v=val q:=by rw[←C,Nat.mul_comm,Nat.mul_add_div M,Nat.div_eq_of_lt hr,Nat.add_zero]
  have hm:val u0%val v=val W:=by rw[←C,Nat.mul_comm,Nat.mul_add_mod,Nat.mod_eq_of_lt hr]
  have ht:val (W.take (n+2))=val W:=VN (by omega)
  have Y:(W.take (n+2)).length=n+2:=by rw[List.length_take];omega
  obtain⟨S',q1,q3,q4⟩:=Ba3 (R:=R) (N:=N) (a:=W.take (n+2)) (n:=n+2) (t:=false) (o:=true) (s:=s) Y.symm (Cv hW _) hs (I.le (by rw[Y];omega))
  rw[ht,←hm] at q3 q4
  refine⟨q,S',hq,V.symm,q1,q3,fun K=>?_⟩
  have hcD:c=D:=by omega
  subst hcD
  rw[Ev];unfold Oe
  rw[Lm (Nat.le_refl _),cf,Bd7 (by omega),ct,Int.toNat_natCast,Nat.mul_one,Wz,q4,PC F.symm hq (by rw[F];exact I.le (by omega)),←V]
 | j+1,fuel+1,c,W,q,hfu,hc,hW,hWl,hq,F,L,hr,C=>by
  have h1:=I.1;have h2:=I.2
  have vlt:=Bo hv
  rw[hn] at vlt
  have hjW:j<W.length:=by omega
  have hju:j<u0.length:=by omega
  have hjq:j<q.length:=by omega
  have hWj:W[j]=u0[j]:=by
   have:=congrArg (fun l=>l[j]?) L
   simp only[List.getElem?_take_of_lt (show j<j+1 by omega),List.getElem?_eq_getElem hjW,List.getElem?_eq_getElem hju] at this
   exact Option.some.inj this
  have wj:=Bd hW hjW
  have eW:=fG hjW
  have eu:=fG hju
  have hUl:((W.drop j).take (n+3)).length=n+3:=by rw[List.length_take,List.length_drop];omega
  have k:val (W.drop j)<val v*4294967296:=by rw[eW];omega
  have hB:val (W.drop j)<4294967296 ^ (n+3):=by
   have:=(Nat.mul_lt_mul_right (show 0<4294967296 by omega)).2 vlt
   rw[←Nat.pow_succ] at this;exact Nat.lt_trans k this
  have hU:val ((W.drop j).take (n+3))=val (W.drop j):=VN hB
  have G:W=W.take j++((W.drop j).take (n+3)++(W.drop j).drop (n+3)):=by rw[List.take_append_drop,List.take_append_drop]
  have hPl:(W.take j).length=j:=by rw[List.length_take];omega
  obtain⟨U',u1,u2,u3,u4⟩:=Ais (R:=R) (N:=N) (P:=W.take j) (Q:=(W.drop j).drop (n+3)) (U:=(W.drop j).take (n+3)) (v:=v) (n:=n) (f:=false) (g:=true) hn hv (Cv (TU hW _) _) hUl (by omega) (by omega) T (by rw[hU];exact k)
  rw[hU] at u3 u4
  have hQ0:val ((W.drop j).drop (n+3))=0:=by
   have:=Sz ((W.drop j).take (n+3)) ((W.drop j).drop (n+3))
   rw[List.take_append_drop,hU,hUl] at this
   have hp:0<4294967296 ^ (n+3):=Nat.pow_pos (by omega)
   rcases Nat.eq_zero_or_pos (val ((W.drop j).drop (n+3))) with h | h
   ·exact h
   ·have:=Nat.le_mul_of_pos_right (4294967296 ^ (n+3)) h;omega
  have M:0<val v:=by omega
  have hqd:val (W.drop j)/val v<4294967296:=Nat.div_lt_of_lt_mul k
  have hdm:=Nat.div_add_mod (val (W.drop j)) (val v)
  have hmd:=Nat.mod_lt (val (W.drop j)) M
  have hW':Al (W.take j++(U'++(W.drop j).drop (n+3))):=o_.2 ⟨Cv hW _,o_.2 ⟨u1,TU (TU hW _) _⟩⟩
  have hWl':(W.take j++(U'++(W.drop j).drop (n+3))).length=u0.length:=by
   rw[List.length_append,List.length_append,hPl,u2,List.length_drop,List.length_drop];omega
  have hWd:(W.take j++(U'++(W.drop j).drop (n+3))).drop j=U'++(W.drop j).drop (n+3):=by
   rw[List.drop_append,hPl,Nat.sub_self,List.drop_zero,List.drop_eq_nil_of_le (by omega),List.nil_append]
  have hWt:(W.take j++(U'++(W.drop j).drop (n+3))).take j=u0.take j:=by
   rw[List.take_append,hPl,Nat.sub_self,List.take_zero,List.append_nil,List.take_take,Nat.min_self]
   have:=congrArg (List.take j) L
   rwa [List.take_take,List.take_take,Nat.min_eq_left (by omega)] at this
  have hWv:val (U'++(W.drop j).drop (n+3))=val (W.drop j)%val v:=by rw[Sz,hQ0,u3];simp
  obtain⟨Sq,Sr,a1,a2,a3,a4,a5⟩:=Aqp (N:=N) hn hv T hSv hu hul hs I j fuel (c+1) (W.take j++(U'++(W.drop j).drop (n+3))) (q.set j (val (W.drop j)/val v)) (by omega) (by omega) hW' hWl' (C4 hq hqd j) (by simpa using F) hWt (by rw[hWd,hWv];exact hmd) (by
   rw[hWd,hWv,Ayt hjq,val,eu,←C,←hWj,Nat.add_mul,Nat.mul_assoc,Nat.mul_add,Nat.mul_comm (val (W.drop j)/val v)]
   omega)
  refine⟨Sq,Sr,a1,a2,a3,a4,fun K=>?_⟩
  have w0:IntKind.wrap .i64 (IntKind.wrap .i64 (((D:Nat):Int) - 1) - (c:Int))=(j:Int):=by
   rw[i64 (a:=((D:Nat):Int) - 1) (by omega),i64 (by omega)];omega
  have w1:IntKind.wrap .i64 (IntKind.wrap .i64 ((j:Int)+((n+2:Nat):Int))+1)=((j+(n+3):Nat):Int):=by
   rw[i64 (a:=(j:Int)+((n+2:Nat):Int)) (by omega),i64 (by omega)];omega
  have:=u4 fun z aa=>cond (Ac (j:Int) D) (cond ((Nat.beq 1 1)&&((Nat.ble ((0+((Int.toNat (j:Int))*1))+1) (List.length (Ae q)))&&(!false))) (Ev N K (s:Int) (n+2) u0.length (Ae Sv) fuel D ((n+2:Nat):Int) (D:Int) (D:Int) (IntKind.wrap .i64 ((c:Int)+1)) (List.set (Ae q) (0+((Int.toNat (j:Int))*1)) (.int .u32 z)) aa) none) none
  rw[←G,hPl] at this
  rw[Ev];unfold Oe
  rw[Jy (by omega),ct,w0,w1,Bh1 (by omega) (by omega),ct,hSv,Int.toNat_natCast,Int.toNat_natCast,Nat.mul_one,Nat.zero_add,show j+(n+3) - j=n+3 by omega]
  rw[Int.toNat_natCast,Nat.mul_one,Nat.zero_add] at this
  rw[this,Aa (by omega),ct,show((Nat.beq 1 1)&&((Nat.ble (j+1) (List.length (Ae q)))&&(!false)))=true by (rw[Ca];simp;omega),ct,oa,wS (by omega)]
  exact a5 K
theorem A80 {N:Nat} {a b:List Nat} {n m:Nat} {t o t' o':Bool} (hn:n=a.length) (hm:m=b.length) (ha:Al a) (Y:Al b) (M:2≤b.length) (hlen:b.length≤a.length) (F:b.getLast (by intro h;rw[h] at M;simp at M)≠0) (S:fit (a.length+b.length+4) N) :
  ∃ Sq Sr,Al Sq∧val Sq=val a/val b∧Al Sr∧val Sr=val a%val b∧∀ K:Nat→Nat→LA→LA→O R,J5 N (Ae a) n t o (Ae b) m t' o' K=K (As (val a/val b)).length (As (val a%val b)).length (Ae Sq) (Ae Sr):=by
 subst hn hm
 have h1:=S.1;have h2:=S.2
 obtain⟨k,U⟩:∃ k,b.length=k+2:=⟨b.length - 2,by omega⟩
 have hbl2:b[k+1]'(by omega)≠0:=by
  rw[List.getLast_eq_getElem] at F
  simp only[U] at F
  exact F
 have bk:=Bd Y (show k+1<b.length by omega)
 obtain⟨s,s1,s2,s3,s4⟩:=A5q (R:=R) (N:=N) (c:=b[k+1]'(by omega)) (by omega) bk
 obtain⟨Sv,v1,v2,v3,v4⟩:=rA (R:=R) (N:=N) (a:=b) (t:=false) (o:=o') (s:=s) rfl Y s1 (S.le (by omega))
 obtain⟨Su,p1,p2,p3,p4⟩:=rA (R:=R) (N:=N) (a:=a) (t:=false) (o:=o) (s:=s) rfl ha s1 (S.le (by omega))
 have V:0<2 ^ s:=Nat.pow_pos (by omega)
 have hP:0<4294967296 ^ (k+1):=Nat.pow_pos (by omega)
 have bt:=VO Y U
 have bf:=QI U
 have hVlt:val b*2 ^ s<4294967296 ^ (k+2):=by
  have x1:val b*2 ^ s<(b[k+1]+1)*4294967296 ^ (k+1)*2 ^ s:=(Nat.mul_lt_mul_right V).2 bt
  have hd:2 ^ s∣4294967296:=⟨2 ^ (32 - s),by rw[←Nat.pow_add,show s+(32 - s)=32 by omega]⟩
  have x2:(b[k+1]+1)*2 ^ s≤4294967296:=by
   obtain⟨r,hr⟩:=hd
   have x3:b[k+1]<r:=by
    rw[hr,Nat.mul_comm] at s3
    exact Nat.lt_of_mul_lt_mul_left s3
   have x4:(b[k+1]+1)*2 ^ s≤r*2 ^ s:=Nat.mul_le_mul_right _ x3
   have x5:r*2 ^ s=4294967296:=by rw[Nat.mul_comm];exact hr.symm
   omega
  have x6:=Nat.mul_le_mul_right (4294967296 ^ (k+1)) x2
  rw[Nat.mul_right_comm] at x1
  rw[Nat.pow_succ,Nat.mul_comm _ 4294967296]
  exact Nat.lt_of_lt_of_le x1 x6
 have T:(Sv.take (k+2)).length=k+2:=by rw[List.length_take];omega
 have C:val (Sv.take (k+2))=val b*2 ^ s:=by rw[VN (by rw[v3];exact hVlt),v3]
 have G:2147483648*4294967296 ^ (k+1)≤val b*2 ^ s:=by
  have x1:4294967296 ^ (k+1)*b[k+1]≤val b:=by omega
  have x2:=Nat.mul_le_mul_right (2 ^ s) x1
  rw[Nat.mul_assoc,Nat.mul_comm (4294967296 ^ (k+1))] at x2
  have x3:=Nat.mul_le_mul_right (4294967296 ^ (k+1)) s2
  omega
 have I:2147483648≤(Sv.take (k+2))[k+1]'(by omega):=by
  have x1:=VO (Cv v1 (k+2)) T
  rw[C] at x1
  have x2:=Nat.lt_of_mul_lt_mul_right (Nat.lt_of_le_of_lt G x1)
  omega
 have hDl:Su.length=(a.length+1 - (k+2))+(k+2):=by omega
 have L:val (Su.drop (a.length+1 - (k+2)))<val (Sv.take (k+2)):=by
  have x1:=Sz (Su.take (a.length+1 - (k+2))) (Su.drop (a.length+1 - (k+2)))
  rw[List.take_append_drop,p3,List.length_take,Nat.min_eq_left (by omega)] at x1
  have x2:=Bo ha
  have x3:val a*2 ^ s<4294967296 ^ a.length*2 ^ s:=(Nat.mul_lt_mul_right V).2 x2
  have x4:a.length=(a.length+1 - (k+2))+(k+1):=by omega
  generalize hE:a.length+1 - (k+2)=E at *
  have x5:4294967296 ^ a.length=4294967296 ^ E*4294967296 ^ (k+1):=by rw[←Nat.pow_add];congr 1
  rw[x5,Nat.mul_assoc] at x3
  have x6:4294967296 ^ E*val (Su.drop E)<4294967296 ^ E*(4294967296 ^ (k+1)*2 ^ s):=by omega
  have x7:=Nat.lt_of_mul_lt_mul_left x6
  have x8:4294967296 ^ (k+1)*2 ^ s≤2147483648*4294967296 ^ (k+1):=by rw[Nat.mul_comm];exact Nat.mul_le_mul_right _ (At9 s1)
  rw[C];omega
 obtain⟨Sq,Sr,a1,a2,a3,a4,a5⟩:=Aqp (R:=R) (N:=N) (v:=Sv.take (k+2)) (u0:=Su) (Sv:=Sv) (n:=k) (D:=a.length+1 - (k+2)) (s:=s) T (Cv v1 _) I (by rw[Nat.mul_one,Wz]) p1 hDl s1 (S.le (by omega)) (a.length+1 - (k+2)) N 0 Su (List.replicate (a.length+1 - (k+2)) 0) (by omega) (by omega) p1 rfl (C2 _) (by simp) rfl L (by
  rw[List.drop_eq_nil_of_le (show(List.replicate (a.length+1 - (k+2)) 0).length≤a.length+1 - (k+2) by simp)];simp[val])
 have hq:val Su/val (Sv.take (k+2))=val a/val b:=by rw[p3,C,Nat.mul_div_mul_right _ _ V]
 have hr:val Su%val (Sv.take (k+2))/2 ^ s=val a%val b:=by rw[p3,C,Nat.mul_mod_mul_right,Nat.mul_div_cancel _ V]
 rw[hq] at a2;rw[hr] at a4
 refine⟨Sq,Sr,a1,a2,a3,a4,fun K=>?_⟩
 rw[KL];unfold Uz
 have w1:IntKind.wrap .i64 (((b.length:Nat):Int) - 1)=((k+1:Nat):Int):=by rw[i64 (by omega)];omega
 have w2:IntKind.wrap .i64 (((a.length+1:Nat):Int) - ((b.length:Nat):Int))=((a.length+1 - (k+2):Nat):Int):=by rw[i64 (by omega)];omega
 rw[w1,Aa (by omega),ct,bJ (by omega),s4,v4,Bd7 (by omega),ct,p4,w2,A92 (by omega),ct,Int.toNat_natCast,Dq]
 have:=a5 K
 rw[hq,hr,p2] at this
 rw[U]
 exact this
theorem fH {N:Nat} {a b:List Nat} {n m:Nat} {t o t' o':Bool} (hn:n=a.length) (hm:m=b.length) (ha:Al a) (hb:Al b) (G:val b≠0) (D:fit (a.length+b.length+4) N) :
  ∃ Sq Sr,Al Sq∧val Sq=val a/val b∧Al Sr∧val Sr=val a%val b∧∀ K:Nat→Nat→Bool→LA→LA→O R,Fx N (Ae a) n t o (Ae b) m t' o' K=K (As (val a/val b)).length (As (val a%val b)).length true (Ae Sq) (Ae Sr):=by
 have h1:=D.1;have h2:=D.2
 have la:=(Bx ha).2
 have lb:=(Bx hb).2
 have T:(As (val b)).length≠0:=fun h=>G (Bz.1 h)
 have start:∀ K:Nat→Nat→Bool→LA→LA→O R,Fx N (Ae a) n t o (Ae b) m t' o' K=cond (decide (Ir (val a) (val b)<0)) (C_ N (Ae (As (val a))) (As (val a)).length false o (fun s t=>(K 0 s true [] t))) (cond (decide ((((As (val a)).length:Nat):Int)≤(2:Int))) (Sb N (Ae (As (val a))) (As (val a)).length false o (fun p=>(Sb N (Ae (As (val b))) (As (val b)).length false o' (fun o=>(cond (o==(0:Int)) none (Ce N (IntKind.wrap .u64 (Int.tdiv p o)) (fun u w=>(cond (o==(0:Int)) none (Ce N (Int.tmod p o) (fun x y=>(K u x true w y))))))))))) (cond ((((As (val b)).length:Nat):Int)==(1:Int)) (cond (Ac (0:Int) (As (val b)).length) (An .u32 (Ae (As (val b))) fun z=>(Gy N (Ae (As (val a))) (As (val a)).length false o z (fun aa ab ac ad=>(K aa ab true ac ad)))) none) (J5 N (Ae (As (val a))) (As (val a)).length false o (Ae (As (val b))) (As (val b)).length false o' (fun ae af ag ah=>(K ae af true ag ah))))):=by
  intro K
  rw[kQ];unfold nL
  rw[Cg hn ha (D.le (by omega)),Cg hm hb (D.le (by omega)),And T,cf,T2 rfl rfl (Ad _) (Ad _) (D.le (by omega)),Ak,Ak]
 by_cases k:val a<val b
 ·refine⟨[],As (val a),Wy,by rw[Nat.div_eq_of_lt k];rfl,Ad _,by rw[Nat.mod_eq_of_lt k,Ak],fun K=>?_⟩
  rw[start,show decide (Ir (val a) (val b)<0)=true by (unfold Ir;rw[if_pos k];rfl),ct,iN rfl (Ad _) (D.le (by omega)),Ak,Nat.div_eq_of_lt k,Nat.mod_eq_of_lt k,Eu];rfl
 ·have C:decide (Ir (val a) (val b)<0)=false:=by unfold Ir;rw[if_neg k];split<;>rfl
  have I:=Cd (Nat.le_of_not_lt k)
  by_cases F:(As (val a)).length≤2
  ·have av:=qy F
   have bv:=qy (Nat.le_trans I F)
   have L:val a/val b<18446744073709551616:=Nat.lt_of_le_of_lt (Nat.div_le_self _ _) av
   have U:val a%val b<18446744073709551616:=Nat.lt_of_le_of_lt (Nat.mod_le _ _) av
   obtain⟨Sq,a1,a2,a3⟩:=L8 (R:=R) (N:=N) L (by omega)
   obtain⟨Sr,b1,b2,b3⟩:=L8 (R:=R) (N:=N) U (by omega)
   refine⟨Sq,Sr,a1,a2,b1,b2,fun K=>?_⟩
   rw[start,C,cf,show decide ((((As (val a)).length:Nat):Int)≤2)=true by simp;omega,ct,QH rfl (Ad _) F (by omega),QH rfl (Ad _) (by omega) (by omega),Ak,Ak,And G,cf,lJ,Jt L,a3,cf,fF,b3]
  ·have M:decide ((((As (val a)).length:Nat):Int)≤2)=false:=by simp;omega
   by_cases V:(As (val b)).length=1
   ·obtain⟨x,Y⟩:∃ x,As (val b)=[x]:=by
     match h:As (val b),V with
     | [x],_=>exact⟨x,rfl⟩
    have S:x=val b:=by have:=Ak (val b);rw[Y] at this;simpa[val] using this
    have xl:x<4294967296:=by have:=Ad (val b);rw[Y] at this;exact(D9.1 this).1
    obtain⟨Sq,Sr,a1,a2,a3,a4,a5⟩:=Ayu (R:=R) (N:=N) (a:=As (val a)) (t:=false) (o:=o) (b:=x) rfl (Ad _) (by omega) xl (D.le (by omega))
    rw[Ak,S] at a2 a4 a5
    refine⟨Sq,Sr,a1,a2,a3,a4,fun K=>?_⟩
    rw[start,C,cf,M,cf,Y]
    simp only[List.length_cons,List.length_nil,DY,A4]
    rw[show((((0+1:Nat)):Int)==1)=true by rfl,ct,show Ac 0 (0+1)=true by decide,ct,S,a5]
   ·obtain⟨Sq,Sr,a1,a2,a3,a4,a5⟩:=A80 (R:=R) (N:=N) (a:=As (val a)) (b:=As (val b)) (t:=false) (o:=o) (t':=false) (o':=o') rfl rfl (Ad _) (Ad _) (by omega) I (Adm _ _) (D.le (by omega))
    rw[Ak,Ak] at a2 a4 a5
    refine⟨Sq,Sr,a1,a2,a3,a4,fun K=>?_⟩
    rw[start,C,cf,M,cf,show((((As (val b)).length:Nat):Int)==1)=false by rw[beq_eq_false_iff_ne];omega,cf,a5]
end
end Gx

namespace Gx
open Go Go.Proofs
section
variable {R:Type}
def Bg4 (A B u0 u1 v0 v1:Nat) (e:Bool):Prop:=v0=0∨(1≤u1∧1≤v1∧match e with
 | true=>v0*B≤u0*A∧u1*A≤v1*B∧(v0+v1)*B≤(u0+u1)*A∧u0*v1=v0*u1+1
 | false=>u0*A≤v0*B∧v1*B≤u1*A∧(u0+u1)*A≤(v0+v1)*B∧u1*v0=v1*u0+1)
structure Lead (X Y x y u1 u2 v1 v2:Nat) (e:Bool):Prop where
 le:y≤x
 idV:x*v2+y*v1=X
 idU:x*u2+y*u1=Y
 pos:1≤v2
 par:match e with
  | false=>x+v1*Y=u1*X∧y+u2*X=v2*Y∧u1*v2=v1*u2+1
  | true=>x+u1*X=v1*Y∧y+v2*Y=u2*X∧u2*v1=v2*u1+1
 small:(v1=0∧u1=1∧u2=0∧v2=1∧e=false)∨(1≤v1∧u1≤v1∧u2≤v2∧1≤u2)
theorem Lead.init {X Y:Nat} (h:Y≤X):Lead X Y X Y 1 0 0 1 false:=⟨h,by simp,by simp,by omega,by simp,.inl ⟨rfl,rfl,rfl,rfl,rfl⟩⟩
theorem Lead.step {X Y x y u1 u2 v1 v2:Nat} {e:Bool} (L:Lead X Y x y u1 u2 v1 v2 e) (M:1≤y):Lead X Y y (x%y) u2 (u1+x/y*u2) v2 (v1+x/y*v2) (!e):=by
 have k:=Nat.div_add_mod x y
 have I:=Nat.mod_lt x (show 0<y by omega)
 have hq:1≤x/y:=by rw[Nat.le_div_iff_mul_le (by omega)];have:=L.le;omega
 generalize x/y=q at *
 generalize x%y=r at *
 have C:=L.pos
 refine⟨by omega,?_,?_,?_,?_,?_⟩
 ·rw[←L.idV,←k,Nat.mul_add,Nat.add_mul,Nat.mul_assoc];omega
 ·rw[←L.idU,←k,Nat.mul_add,Nat.add_mul,Nat.mul_assoc];omega
 ·have:=Nat.mul_le_mul hq C;omega
 ·have p:=L.par
  cases e with
  | false =>
   obtain⟨p1,p2,F⟩:=p
   refine⟨p2,?_,?_⟩
   ·have e1:q*(y+u2*X)=q*(v2*Y):=by rw[p2]
    rw[Nat.mul_add,←Nat.mul_assoc,←Nat.mul_assoc] at e1
    rw[Nat.mul_comm y q] at k
    rw[Nat.add_mul,Nat.add_mul];omega
   ·rw[Nat.add_mul,Nat.add_mul,Nat.mul_right_comm q u2,F];omega
  | true =>
   obtain⟨p1,p2,F⟩:=p
   refine⟨p2,?_,?_⟩
   ·have e1:q*(y+v2*Y)=q*(u2*X):=by rw[p2]
    rw[Nat.mul_add,←Nat.mul_assoc,←Nat.mul_assoc] at e1
    rw[Nat.mul_comm y q] at k
    rw[Nat.add_mul,Nat.add_mul];omega
   ·rw[Nat.mul_add,Nat.mul_add,F,Nat.mul_left_comm u2 q,Nat.mul_left_comm v2 q,Nat.mul_comm u2 v2];omega
 ·right
  rcases L.small with⟨s1,s2,D,G,_⟩ | ⟨s1,s2,D,G⟩
  ·subst s1 s2 D G;exact⟨by omega,by omega,by omega,by omega⟩
  ·have S:q*u2≤q*v2:=Nat.mul_le_mul_left _ D
   exact⟨C,D,by omega,by have:=Nat.mul_le_mul hq G;omega⟩
theorem Lead.cof {X Y x y u1 u2 v1 v2 A B P:Nat} {e:Bool} (L:Lead X Y x y u1 u2 v1 v2 e) (hA:X*P≤A) (hA':A<(X+1)*P) (hB:Y*P≤B) (hB':B<(Y+1)*P) (c1:v2≤y) (C:v1+v2≤x - y):Bg4 A B u1 u2 v1 v2 (!e):=by
 have p:=L.par
 have D:=L.le
 rcases L.small with⟨s1,_⟩ | ⟨s1,s2,G,F⟩
 ·exact .inl s1
 ·refine .inr ⟨F,L.pos,?_⟩
  cases e with
  | false =>
   obtain⟨p1,p2,k⟩:=p
   have n1:u2*A≤v2*B:=IW hB hA' (w:=y) (by omega) (by omega)
   have n2:(v1+v2)*B≤(u1+u2)*A:=IW hA hB' (w:=x - y) (by rw[Nat.add_mul,Nat.add_mul];omega) C
   refine⟨?_,n1,n2,k⟩
   rw[Nat.add_mul,Nat.add_mul] at n2;omega
  | true =>
   obtain⟨p1,p2,k⟩:=p
   have n1:v2*B≤u2*A:=IW hA hB' (w:=y) (by omega) (by omega)
   have n2:(u1+u2)*A≤(v1+v2)*B:=IW hB hA' (w:=x - y) (by rw[Nat.add_mul,Nat.add_mul];omega) (by omega)
   refine⟨?_,n1,n2,k⟩
   rw[Nat.add_mul,Nat.add_mul] at n2;omega
theorem fI {x y:Nat} (C:1≤y) (h:y≤x):2*(y*(x%y))≤x*y:=by
 have D:=Nat.div_add_mod x y
 have F:=Nat.mod_lt x (show 0<y by omega)
 have hq:1≤x/y:=by rw[Nat.le_div_iff_mul_le (by omega)];omega
 have G:y*1≤y*(x/y):=Nat.mul_le_mul_left _ hq
 have k:2*(x%y)≤x:=by omega
 have:=Nat.mul_le_mul_left y k
 rw[Nat.mul_comm x y,Nat.mul_left_comm];exact this
def A5t (u0 u1 v0 v1:Nat) (e:Bool):LA:=[.int .u64 (u0:Int),.int .u64 (u1:Int),.int .u64 (v0:Int),.int .u64 (v1:Int),.bool e]
theorem A81 {N:Nat} {X Y A B P:Nat} (hX:X<18446744073709551616) (hYX:Y≤X) (hA:X*P≤A) (hA':A<(X+1)*P) (hB:Y*P≤B) (hB':B<(Y+1)*P):∀ (k fuel x y u0 u1 u2 v0 v1 v2:Nat) (e:Bool),k<fuel→x*y<2 ^ k→Lead X Y x y u1 u2 v1 v2 e→Bg4 A B u0 u1 v0 v1 e→u0<18446744073709551616→u1<18446744073709551616→v0<18446744073709551616→v1<18446744073709551616 →
  ∃ (a1 a2 I G:Nat) (e':Bool),Bg4 A B a1 a2 I G e'∧a1<18446744073709551616∧a2<18446744073709551616∧I<18446744073709551616∧G<18446744073709551616∧∀ K:LA→O R,E2 N K fuel (x:Int) (y:Int) (u0:Int) (u1:Int) (u2:Int) (v0:Int) (v1:Int) (v2:Int) e=K (A5t a1 a2 I G e'):=by
 intro k
 induction k with
 | zero =>
  intro fuel x y u0 u1 u2 v0 v1 v2 e hf M L C I G b3 U
  obtain⟨fuel,rfl⟩:∃ F,fuel=F+1:=⟨fuel - 1,by omega⟩
  have T:y=0:=by
   rcases Nat.eq_zero_or_pos y with h | h
   ·exact h
   ·have h3:=Nat.mul_le_mul_left x (show 1≤y by omega)
    have h4:=L.le
    rw[Nat.pow_zero] at M
    omega
  refine⟨u0,u1,v0,v1,e,C,I,G,b3,U,fun K=>?_⟩
  rw[E2];unfold Ku
  have:=L.pos
  rw[show decide ((y:Int)≥(v2:Int))=false by simp;omega];rfl
 | succ k ih =>
  intro fuel x y u0 u1 u2 v0 v1 v2 e hf M L C I G b3 U
  obtain⟨fuel,rfl⟩:∃ F,fuel=F+1:=⟨fuel - 1,by omega⟩
  have hv2:=L.pos
  have S:=L.le
  by_cases c1:v2≤y
  ·have T:1≤y:=by omega
   have hxX:x≤X:=by
    have:=Nat.mul_le_mul_left x hv2
    have:=L.idV;omega
   have hsum:v1+v2≤X:=by
    have h1:=Nat.mul_le_mul_right v2 (show 1≤x by omega)
    have h2:=Nat.mul_le_mul_right v1 T
    have:=L.idV;omega
   by_cases c2:v1+v2≤x - y
   ·have L':=L.step T
    have C':=L.cof hA hA' hB hB' c1 c2
    have i1:=L'.idV
    have i2:=L'.idU
    have w1:v1+x/y*v2≤X:=by
     have:=Nat.mul_le_mul_right (v1+x/y*v2) T;omega
    have w2:u1+x/y*u2≤Y:=by
     have:=Nat.mul_le_mul_right (u1+x/y*u2) T;omega
    have hu2:u2<18446744073709551616:=by
     have h1:=Nat.mul_le_mul_right u2 (show 1≤x by omega)
     have:=L.idU;omega
    have V:v2<18446744073709551616:=by omega
    have hlt:y*(x%y)<2 ^ k:=by
     have:=fI T S
     rw[Nat.pow_succ] at M;omega
    obtain⟨a1,a2,d1,d2,e',r1,r2,r3,r4,r5,r6⟩:=ih fuel y (x%y) u1 u2 (u1+x/y*u2) v1 v2 (v1+x/y*v2) (!e) (by omega) hlt L' C' G hu2 U V
    refine⟨a1,a2,d1,d2,e',r1,r2,r3,r4,r5,fun K=>?_⟩
    rw[E2];unfold Ku
    have D:x<18446744073709551616:=by omega
    have hdiv:x/y<18446744073709551616:=Nat.lt_of_le_of_lt (Nat.div_le_self _ _) D
    rw[show decide ((y:Int)≥(v2:Int))=true by simp;omega,show((true:Bool)==true)=true by rfl,ct,tW D S,OO,Jt (show v1+v2<18446744073709551616 by omega),show decide (((x - y:Nat):Int)≥((v1+v2:Nat):Int))=true by rw[decide_eq_true_eq];omega,Ax7,ct]
    unfold X2
    dsimp only
    rw[And (by omega),cf,cf,lJ,fF,Jt hdiv,Adn,Adn,Jt (show x/y*u2<18446744073709551616 by omega),Jt (show x/y*v2<18446744073709551616 by omega),OO,OO,Jt (show u1+x/y*u2<18446744073709551616 by omega),Jt (show v1+x/y*v2<18446744073709551616 by omega)]
    exact r6 K
   ·refine⟨u0,u1,v0,v1,e,C,I,G,b3,U,fun K=>?_⟩
    rw[E2];unfold Ku
    rw[show decide ((y:Int)≥(v2:Int))=true by simp;omega,show((true:Bool)==true)=true by rfl,ct,tW (by omega) S,OO,Jt (show v1+v2<18446744073709551616 by omega),show decide (((x - y:Nat):Int)≥((v1+v2:Nat):Int))=false by rw[decide_eq_false_iff_not];omega,Ax7,cf]
    rfl
  ·refine⟨u0,u1,v0,v1,e,C,I,G,b3,U,fun K=>?_⟩
   rw[E2];unfold Ku
   rw[show decide ((y:Int)≥(v2:Int))=false by simp;omega];rfl
end
end Gx

namespace Gx
open Go Go.Proofs
section
variable {R:Type}
theorem ud {N:Nat} {a:List Nat} {n:Nat} {t o:Bool} {i:Nat} {K:Int→O R} (hn:n=a.length) (k:Al a):Lz N (i:Int) (Ae a) n t o K=K ((a.getD i 0:Nat):Int):=by
 subst hn
 rw[PM];unfold NH
 by_cases h:i<a.length
 ·have:=Bd k h
  rw[Jy h,ct,Aa h,ct,bJ h,Jt (by omega),List.getD_eq_getElem?_getD,List.getElem?_eq_getElem h];rfl
 ·rw[Lm (by omega),cf,List.getD_eq_getElem?_getD,List.getElem?_eq_none (by omega)];rfl
theorem EJ {a:List Nat} (k:Al a) (i:Nat):a.getD i 0<4294967296:=by
 by_cases h:i<a.length
 ·rw[List.getD_eq_getElem?_getD,List.getElem?_eq_getElem h];exact Bd k h
 ·rw[List.getD_eq_getElem?_getD,List.getElem?_eq_none (by omega)];simp
theorem Ba4 {a:List Nat} {n:Nat} (F:a.length≤n+3):val a=val (a.take n)+4294967296 ^ n*((a.getD (n+2) 0*4294967296+a.getD (n+1) 0)*4294967296+a.getD n 0):=by
 have k:=T3 a (n+2)
 have C:=T3 a (n+1)
 have D:=T3 a n
 rw[List.take_of_length_le (by omega)] at k
 have x1:4294967296 ^ (n+2)*a.getD (n+2) 0=4294967296 ^ n*(a.getD (n+2) 0*4294967296*4294967296):=by rw[Nat.pow_succ (n:=4294967296) (m:=n+1),Nat.pow_succ,Bf2,Bf2]
 have x2:4294967296 ^ (n+1)*a.getD (n+1) 0=4294967296 ^ n*(a.getD (n+1) 0*4294967296):=by rw[Nat.pow_succ,Bf2]
 rw[k,C,D,x1,x2,Nat.add_mul,Nat.mul_add,Nat.mul_add];omega
theorem yX {N:Nat} {a:List Nat} {m n s:Nat} {t o:Bool} {K:Int→O R} (I:m=a.length) (D:Al a) (Y:a.length≤n+3) (hs:s≤31) (C:a.getD (n+2) 0*2 ^ s<4294967296) (hn:n≤1000000000000) :
  ED N (Ae a) m t o ((n+3:Nat):Int) (s:Int) K=K ((val a/(4294967296 ^ n*2 ^ (32 - s)):Nat):Int)∧val a/(4294967296 ^ n*2 ^ (32 - s))<18446744073709551616:=by
 have hp:0<2 ^ s:=Nat.pow_pos (by omega)
 have F:0<2 ^ (32 - s):=Nat.pow_pos (by omega)
 have hP:0<4294967296 ^ n:=Nat.pow_pos (by omega)
 have k:2 ^ s*2 ^ (32 - s)=4294967296:=by rw[←Nat.pow_add,show s+(32 - s)=32 by omega]
 have b0:=EJ D (n+2)
 have b1:=EJ D (n+1)
 have b2:=EJ D n
 have tk:=Bo (Cv D n)
 have Ane:val (a.take n)<4294967296 ^ n:=by
  refine Nat.lt_of_lt_of_le tk (Nat.pow_le_pow_right (by omega) ?_)
  rw[List.length_take];omega
 have hv:=Ba4 Y
 generalize L:a.getD (n+2) 0=a0 at *
 generalize M:a.getD (n+1) 0=a1 at *
 generalize S:a.getD n 0=a2 at *
 have T:a0<2 ^ (32 - s):=by
  rw[←k,Nat.mul_comm] at C;exact Nat.lt_of_mul_lt_mul_left C
 have G:(a0*4294967296+a1)*2 ^ s<18446744073709551616:=by
  have x1:(a0+1)*4294967296≤2 ^ (32 - s)*4294967296:=Nat.mul_le_mul_right _ T
  have x2:a0*4294967296+a1<2 ^ (32 - s)*4294967296:=by rw[Nat.add_mul] at x1;omega
  have x3:=(Nat.mul_lt_mul_right hp).2 x2
  rw[Nat.mul_right_comm,Nat.mul_comm (2 ^ (32 - s)),k] at x3
  exact x3
 have U:a2/2 ^ (32 - s)<2 ^ s:=by
  rw[Nat.div_lt_iff_lt_mul F,k];exact b2
 have hq:val a/(4294967296 ^ n*2 ^ (32 - s))=(a0*4294967296+a1)*2 ^ s+a2/2 ^ (32 - s):=by
  rw[←Nat.div_div_eq_div_mul,hv,Nat.add_mul_div_left _ _ hP,Nat.div_eq_of_lt Ane,Nat.zero_add]
  have:(a0*4294967296+a1)*4294967296+a2=a2+2 ^ (32 - s)*((a0*4294967296+a1)*2 ^ s):=by
   rw[Nat.mul_left_comm,Nat.mul_comm (2 ^ (32 - s)),k];omega
  rw[this,Nat.add_mul_div_left _ _ F];omega
 have hb:(a0*4294967296+a1)*2 ^ s+a2/2 ^ (32 - s)<18446744073709551616:=by
  have V:2 ^ s*2 ^ (64 - s)=18446744073709551616:=by rw[←Nat.pow_add,show s+(64 - s)=64 by omega]
  obtain⟨r,hr⟩:∃ r,18446744073709551616=2 ^ s*r:=⟨2 ^ (64 - s),V.symm⟩
  rw[hr,Nat.mul_comm] at G
  have x1:=Nat.lt_of_mul_lt_mul_left G
  have x2:(a0*4294967296+a1+1)*2 ^ s≤r*2 ^ s:=Nat.mul_le_mul_right _ x1
  rw[Nat.add_mul,Nat.mul_comm r,←hr] at x2
  omega
 rw[hq]
 refine⟨?_,hb⟩
 rw[kF];unfold nD
 have w1:IntKind.wrap .i64 (((n+3:Nat):Int) - 1)=((n+2:Nat):Int):=by rw[i64 (by omega)];omega
 have w2:IntKind.wrap .i64 (((n+3:Nat):Int) - 2)=((n+1:Nat):Int):=by rw[i64 (by omega)];omega
 have w3:IntKind.wrap .i64 (((n+3:Nat):Int) - 3)=((n:Nat):Int):=by rw[i64 (by omega)];omega
 have w4:IntKind.wrap .i64 ((32:Int) - (s:Int))=((32 - s:Nat):Int):=by rw[i64 (by omega)];omega
 rw[w1,w2,w3,w4,ud I D,ud I D,show decide (((s:Nat):Int)<0)=false by simp,cf,ud I D,show decide (((32 - s:Nat):Int)<0)=false by simp,cf]
 rw[L,M,S,Be1 b0 b1,Int.toNat_natCast,Int.toNat_natCast,Nat.min_eq_left (by omega),Nat.min_eq_left (by omega),Uk,show(2:Int) ^ s=((2 ^ s:Nat):Int) by simp,Adn,Jt G,A1z G (by omega),tY U]
theorem Aua {N:Nat} {a b:List Nat} {n m:Nat} {t o t' o':Bool} (hn:n=a.length) (hm:m=b.length) (S:Al a) (hb:Al b) (G:3≤a.length) (D:a.getLast (by intro h;rw[h] at G;simp at G)≠0) (hlb:b.length≤a.length) (T:val b≤val a) (hf:fit a.length N) :
  ∃ (a1 a2 I L:Nat) (e:Bool),Bg4 (val a) (val b) a1 a2 I L e∧a1<18446744073709551616∧a2<18446744073709551616∧I<18446744073709551616∧L<18446744073709551616∧∀ K:LA→O R,W7 N (Ae a) n t o (Ae b) m t' o' K=K (A5t a1 a2 I L e):=by
 subst hn hm
 have h1:=hf.1;have h2:=hf.2
 obtain⟨k,hk⟩:∃ k,a.length=k+3:=⟨a.length - 3,by omega⟩
 have hla2:a[k+2]'(by omega)≠0:=by
  rw[List.getLast_eq_getElem] at D
  simp only[hk] at D
  exact D
 have ak:=Bd S (show k+2<a.length by omega)
 obtain⟨s,s1,s2,s3,s4⟩:=A5q (R:=R) (N:=N) (c:=a[k+2]'(by omega)) (by omega) ak
 have U:a.getD (k+2) 0=a[k+2]'(by omega):=by rw[List.getD_eq_getElem?_getD,List.getElem?_eq_getElem (by omega)];rfl
 have F:b.getD (k+2) 0≤a[k+2]'(by omega):=by
  apply Nat.le_of_not_lt;intro C
  have M:k+2<b.length:=by
   apply Nat.lt_of_not_le;intro V
   rw[List.getD_eq_getElem?_getD,List.getElem?_eq_none V] at C;simp at C
  have hbg:b.getD (k+2) 0=b[k+2]:=by rw[List.getD_eq_getElem?_getD,List.getElem?_eq_getElem M];rfl
  rw[hbg] at C
  have x1:=VO S (n:=k+2) (by omega)
  have x2:=A3h M
  have x3:(a[k+2]+1)*4294967296 ^ (k+2)≤b[k+2]*4294967296 ^ (k+2):=Nat.mul_le_mul_right _ C
  rw[Nat.mul_comm] at x2
  omega
 have hbt:b.getD (k+2) 0*2 ^ s<4294967296:=Nat.lt_of_le_of_lt (Nat.mul_le_mul_right _ F) s3
 have hPP:0<4294967296 ^ k*2 ^ (32 - s):=Nat.mul_pos (Nat.pow_pos (by omega)) (Nat.pow_pos (by omega))
 have wa:=fun K=>yX (R:=R) (N:=N) (a:=a) (m:=a.length) (n:=k) (s:=s) (t:=false) (o:=o) (K:=K) rfl S (by omega) s1 (by rw[U];exact s3) (by omega)
 have wb:=fun K=>yX (R:=R) (N:=N) (a:=b) (m:=b.length) (n:=k) (s:=s) (t:=false) (o:=o') (K:=K) rfl hb (by omega) s1 hbt (by omega)
 have hX:=(wa fun _=>none).2
 generalize hP:4294967296 ^ k*2 ^ (32 - s)=P at *
 have hYX:val b/P≤val a/P:=Nat.div_le_div_right T
 have q1:∀ z,z/P*P≤z:=fun z=>Nat.div_mul_le_self z P
 have q2:∀ z,z<(z/P+1)*P:=fun z=>by
  have:=Nat.div_add_mod z P;have:=Nat.mod_lt z hPP
  rw[Nat.add_mul,Nat.mul_comm];omega
 obtain⟨a1,a2,I,L,e,r1,r2,r3,r4,r5,r6⟩:=A81 (R:=R) (N:=N) (X:=val a/P) (Y:=val b/P) (A:=val a) (B:=val b) (P:=P) hX hYX (q1 _) (q2 _) (q1 _) (q2 _) 128 N (val a/P) (val b/P) 0 1 0 0 0 1 false (by omega) (by
  have:=Nat.mul_lt_mul'' hX (Nat.lt_of_le_of_lt hYX hX)
  exact this) (Lead.init hYX) (.inl rfl) (by omega) (by omega) (by omega) (by omega)
 refine⟨a1,a2,I,L,e,r1,r2,r3,r4,r5,fun K=>?_⟩
 rw[dv];unfold KH
 have w1:IntKind.wrap .i64 (((a.length:Nat):Int) - 1)=((k+2:Nat):Int):=by rw[i64 (by omega)];omega
 rw[w1,Aa (by omega),ct,bJ (by omega),s4,show((a.length:Nat):Int)=((k+3:Nat):Int) by rw[hk],(wa _).1,(wb _).1]
 exact r6 K
theorem DJ {N:Nat} {a b:List Nat} {n m:Nat} {x y:Nat} {t o t' o':Bool} (hn:n=a.length) (V:m=b.length) (G:Al a) (I:Al b) (C:x<18446744073709551616) (D:y<18446744073709551616) (F:val b*y≤val a*x) (k:fit (a.length+b.length+4) N) :
  ∃ S,Al S∧val S=val a*x - val b*y∧∀ K:Nat→LA→O R,G0 N (Ae a) n t o (x:Int) (Ae b) m t' o' (y:Int) K=K (As (val a*x - val b*y)).length (Ae S):=by
 subst hn V
 have h1:=k.1;have h2:=k.2
 obtain⟨Sx,x1,x2,x3⟩:=L8 (R:=R) (N:=N) C (by omega)
 obtain⟨Sy,y1,y2,y3⟩:=L8 (R:=R) (N:=N) D (by omega)
 have lx:=VM C
 have ly:=VM D
 obtain⟨P1,p1,p2,L⟩:=fE (R:=R) (N:=N) (a:=a) (b:=As x) (t:=false) (o:=o) (t':=false) (o':=true) rfl rfl G (Ad _) (k.le (by omega))
 obtain⟨P2,Y,M,T⟩:=fE (R:=R) (N:=N) (a:=b) (b:=As y) (t:=false) (o:=o') (t':=false) (o':=true) rfl rfl I (Ad _) (k.le (by omega))
 rw[Ak] at p2 L M T
 have l1:(As (val a*x)).length≤a.length+2:=E5 (by
  have:=Nat.mul_lt_mul'' (Bo G) C
  rw[Nat.pow_add];exact this)
 have l2:(As (val b*y)).length≤b.length+2:=E5 (by
  have:=Nat.mul_lt_mul'' (Bo I) D
  rw[Nat.pow_add];exact this)
 obtain⟨S,s1,s2,U⟩:=Aiq (R:=R) (N:=N) (a:=As (val a*x)) (b:=As (val b*y)) (t:=false) (o:=true) (t':=false) (o':=true) rfl rfl (Ad _) (Ad _) (k.le (by omega)) (by rw[Ak,Ak];exact F)
 rw[Ak,Ak] at s2 U
 refine⟨S,s1,s2,fun K=>?_⟩
 rw[eA];unfold dz
 have tx:List.take ((As x).length*1) (Ae Sx)=Ae (As x):=by rw[←x2,Np x1]
 have ty:List.take ((As y).length*1) (Ae Sy)=Ae (As y):=by rw[←y2,Np y1]
 have t1:List.take ((As (val a*x)).length*1) (Ae P1)=Ae (As (val a*x)):=by rw[←p2,Np p1]
 have t2:List.take ((As (val b*y)).length*1) (Ae P2)=Ae (As (val b*y)):=by rw[←M,Np Y]
 rw[x3,tx,L,y3,ty,T,t1,t2,U]
end
end Gx

namespace Gx
open Go Go.Proofs
section
variable {R:Type}
theorem A82 {N:Nat} (hN:4≤N):∀ (k fuel x y:Nat),k<fuel→x*y<2 ^ k→y≤x→x<18446744073709551616→∃ S,Al S∧val S=Nat.gcd x y∧∀ (D:LA→Nat→Bool→LA→Nat→Bool→O R) (K:Nat→LA→O R),Tx N D K fuel (x:Int) (y:Int)=K (As (Nat.gcd x y)).length (Ae S):=by
 have base:∀ (fuel x:Nat),x<18446744073709551616→∃ S,Al S∧val S=Nat.gcd x 0∧∀ (D:LA→Nat→Bool→LA→Nat→Bool→O R) (K:Nat→LA→O R),Tx N D K (fuel+1) (x:Int) ((0:Nat):Int)=K (As (Nat.gcd x 0)).length (Ae S):=by
  intro fuel x G
  obtain⟨S,s1,s2,L⟩:=L8 (R:=R) (N:=N) G hN
  refine⟨S,s1,by rw[s2,Nat.gcd_zero_right],fun D K=>?_⟩
  rw[Tx];unfold UP
  rw[show(((0:Nat):Int) != 0)=false by rfl,cf,L,Nat.gcd_zero_right]
 intro k
 induction k with
 | zero =>
  intro fuel x y M C I G
  obtain⟨fuel,rfl⟩:∃ F,fuel=F+1:=⟨fuel - 1,by omega⟩
  have T:y=0:=by
   rcases Nat.eq_zero_or_pos y with h | h
   ·exact h
   ·have Y:=Nat.mul_le_mul_left x (show 1≤y by omega)
    rw[Nat.pow_zero] at C;omega
  subst T
  exact base fuel x G
 | succ k U =>
  intro fuel x y M C I G
  obtain⟨fuel,rfl⟩:∃ F,fuel=F+1:=⟨fuel - 1,by omega⟩
  rcases Nat.eq_zero_or_pos y with h | h
  ·subst h;exact base fuel x G
  ·have hh:=fI (show 1≤y by omega) I
   have hm:=Nat.mod_lt x h
   obtain⟨S,s1,s2,L⟩:=U fuel y (x%y) (by omega) (by rw[Nat.pow_succ] at C;omega) (by omega) (by omega)
   have V:Nat.gcd y (x%y)=Nat.gcd x y:=by rw[Nat.gcd_comm,←Nat.gcd_rec,Nat.gcd_comm]
   rw[V] at s2 L
   refine⟨S,s1,s2,fun D K=>?_⟩
   rw[Tx];unfold UP
   rw[show((y:Int) != 0)=true by rw[bne_iff_ne];omega,ct,And (by omega),cf,fF]
   exact L D K
theorem Aqq {a b u v s t x y:Nat} (C:x+v*b=u*a) (D:y+s*a=t*b) (k:u*t=v*s+1):t*x+v*y=a∧s*x+u*y=b:=by
 constructor
 ·have F:t*x+t*v*b=t*u*a:=by rw[Nat.mul_assoc,Nat.mul_assoc,←Nat.mul_add,C]
  have G:v*y+v*s*a=v*t*b:=by rw[Nat.mul_assoc,Nat.mul_assoc,←Nat.mul_add,D]
  have I:t*u*a=v*s*a+a:=by rw[Nat.mul_comm t u,k,Nat.add_mul,Nat.one_mul]
  have L:t*v*b=v*t*b:=by rw[Nat.mul_comm t v]
  omega
 ·have F:s*x+s*v*b=s*u*a:=by rw[Nat.mul_assoc,Nat.mul_assoc,←Nat.mul_add,C]
  have G:u*y+u*s*a=u*t*b:=by rw[Nat.mul_assoc,Nat.mul_assoc,←Nat.mul_add,D]
  have I:u*t*b=v*s*b+b:=by rw[k,Nat.add_mul,Nat.one_mul]
  have L:s*u*a=u*s*a:=by rw[Nat.mul_comm s u]
  have M:s*v*b=v*s*b:=by rw[Nat.mul_comm s v]
  omega
theorem Aqr {A B a b p q r s:Nat} (hA:p*a+q*b=A) (hB:r*a+s*b=B) (k:1≤p) (hq:1≤q) (hr:1≤r) (C:b≤a):2*(a*b)≤A*B∧a≤A:=by
 have G:=Nat.mul_le_mul_right a k
 have I:=Nat.mul_le_mul_right b hq
 have L:=Nat.mul_le_mul_right a hr
 have D:2*b≤A:=by omega
 have F:a≤B:=by omega
 have:=Nat.mul_le_mul D F
 refine⟨?_,by omega⟩
 rw[Nat.mul_comm a b,←Nat.mul_assoc];exact this
theorem Be5 {u0 u1 v0 v1:Nat} {e:Bool}:setCells [(.int .u64 0),(.int .u64 0),(.int .u64 0),(.int .u64 0),(.bool false)] 0 (A5t u0 u1 v0 v1 e)=A5t u0 u1 v0 v1 e:=rfl
theorem Ayw {N:Nat}:∀ (k fuel A B:Nat) (d f:Bool),k<fuel→A*B<2 ^ k→B≤A→fit (2*(As A).length+4) N→∃ S,Al S∧val S=Nat.gcd A B∧∀ K:Nat→LA→O R,Fy N K fuel (Ae (As A)) (As A).length d (Ae (As B)) (As B).length f=K (As (Nat.gcd A B)).length (Ae S):=by
 have base:∀ (fuel A:Nat) (d f:Bool),fit (2*(As A).length+4) N→∃ S,Al S∧val S=Nat.gcd A 0∧∀ K:Nat→LA→O R,Fy N K (fuel+1) (Ae (As A)) (As A).length d (Ae (As 0)) (As 0).length f=K (As (Nat.gcd A 0)).length (Ae S):=by
  intro fuel A d f D
  refine⟨As A,Ad _,by rw[Ak,Nat.gcd_zero_right],fun K=>?_⟩
  rw[Fy];unfold GM
  rw[Eu,show decide ((((([]:List Nat).length:Nat)):Int)>0)=false by decide,cf,iN rfl (Ad _) (D.le (by omega)),Ak,Nat.gcd_zero_right]
 intro k
 induction k with
 | zero =>
  intro fuel A B d f hfu L I D
  obtain⟨fuel,rfl⟩:∃ F,fuel=F+1:=⟨fuel - 1,by omega⟩
  have hy:B=0:=by
   rcases Nat.eq_zero_or_pos B with h | h
   ·exact h
   ·have h3:=Nat.mul_le_mul_left A (show 1≤B by omega)
    rw[Nat.pow_zero] at L;omega
  subst hy
  exact base fuel A d f D
 | succ k ih =>
  intro fuel A B d f hfu L I D
  have h1:=D.1;have h2:=D.2
  obtain⟨fuel,rfl⟩:∃ F,fuel=F+1:=⟨fuel - 1,by omega⟩
  rcases Nat.eq_zero_or_pos B with h | h
  ·subst h;exact base fuel A d f D
  have hll:=Cd I
  have hbl:(As B).length≠0:=fun h0=>by have:=Bz.1 h0;omega
  have Y:decide ((((As B).length:Nat):Int)>0)=true:=by rw[decide_eq_true_eq];omega
  by_cases ha2:(As A).length≤2
  ·have av:=qy ha2
   obtain⟨S,s1,s2,T⟩:=A82 (R:=R) (N:=N) (by omega) 128 N A B (by omega) (by have:=Nat.mul_lt_mul'' av (Nat.lt_of_le_of_lt I av);exact this) I av
   refine⟨S,s1,s2,fun K=>?_⟩
   rw[Fy];unfold GM
   rw[Y,ct,show decide ((((As A).length:Nat):Int)≤2)=true by rw[decide_eq_true_eq];omega,ct,QH rfl (Ad _) ha2 (by omega),QH rfl (Ad _) (by omega) (by omega),Ak,Ak]
   exact T _ K
  ·have hd2:decide ((((As A).length:Nat):Int)≤2)=false:=by rw[decide_eq_false_iff_not];omega
   obtain⟨a1,a2,C,G,e,r1,r2,r3,r4,r5,r6⟩:=Aua (R:=R) (N:=N) (a:=As A) (b:=As B) (t:=false) (o:=d) (t':=false) (o':=f) rfl rfl (Ad _) (Ad _) (by omega) (Adm _ _) hll (by rw[Ak,Ak];exact I) (D.le (by omega))
   rw[Ak,Ak] at r1
   have start:∀ K:Nat→LA→O R,Fy N K (fuel+1) (Ae (As A)) (As A).length d (Ae (As B)) (As B).length f=cond ((C:Int)==0) (Fx N (Ae (As A)) (As A).length false d (Ae (As B)) (As B).length false f (fun bm ag bn bo ar=>(Fy N K fuel (Ae (As B)) (As B).length f (List.take (ag*1) ar) ag false))) (cond e (G0 N (Ae (As A)) (As A).length false d (a1:Int) (Ae (As B)) (As B).length false f (C:Int) (fun ah ax=>G0 N (Ae (As B)) (As B).length false f (G:Int) (Ae (As A)) (As A).length false d (a2:Int) (fun ai ba=>(Fy N K fuel (List.take (ah*1) ax) ah false (List.take (ai*1) ba) ai false)))) (G0 N (Ae (As B)) (As B).length false f (C:Int) (Ae (As A)) (As A).length false d (a1:Int) (fun aj bd=>G0 N (Ae (As A)) (As A).length false d (a2:Int) (Ae (As B)) (As B).length false f (G:Int) (fun ak bg=>(Fy N K fuel (List.take (aj*1) bd) aj false (List.take (ak*1) bg) ak false))))):=by
    intro K
    rw[Fy];unfold GM
    rw[Y,ct,hd2,cf,r6,Be5]
    rfl
   by_cases U:C=0
   ·obtain⟨Sq,Sr,q1,q2,q3,q4,q5⟩:=fH (R:=R) (N:=N) (a:=As A) (b:=As B) (t:=false) (o:=d) (t':=false) (o':=f) rfl rfl (Ad _) (Ad _) (by rw[Ak];omega) (D.le (by omega))
    rw[Ak,Ak] at q2 q4 q5
    have hm:=Nat.mod_lt A h
    have hh:=fI (show 1≤B by omega) I
    obtain⟨S,s1,s2,T⟩:=ih fuel B (A%B) f false (by omega) (by rw[Nat.pow_succ] at L;omega) (by omega) (D.le (by omega))
    have V:Nat.gcd B (A%B)=Nat.gcd A B:=by rw[Nat.gcd_comm,←Nat.gcd_rec,Nat.gcd_comm]
    rw[V] at s2 T
    refine⟨S,s1,s2,fun K=>?_⟩
    have tk:List.take ((As (A%B)).length*1) (Ae Sr)=Ae (As (A%B)):=by rw[←q4,Np q3]
    rw[start,Bht U,ct,q5,tk,T]
   ·rcases r1 with r1 | ⟨p1,p2,r1⟩
    ·exact absurd r1 U
    cases e with
    | true =>
     obtain⟨c1,c2,c3,c4⟩:=r1
     obtain⟨S1,t1,t2,t3⟩:=DJ (R:=R) (N:=N) (a:=As A) (b:=As B) (x:=a1) (y:=C) (t:=false) (o:=d) (t':=false) (o':=f) rfl rfl (Ad _) (Ad _) r2 r4 (by rw[Ak,Ak,Nat.mul_comm,Nat.mul_comm A];exact c1) (D.le (by omega))
     obtain⟨S2,w1,w2,w3⟩:=DJ (R:=R) (N:=N) (a:=As B) (b:=As A) (x:=G) (y:=a2) (t:=false) (o:=f) (t':=false) (o':=d) rfl rfl (Ad _) (Ad _) r5 r3 (by rw[Ak,Ak,Nat.mul_comm,Nat.mul_comm B];exact c2) (D.le (by omega))
     rw[Ak,Ak] at t2 t3 w2 w3
     have g1:(A*a1 - B*C)+C*B=a1*A:=by rw[Nat.mul_comm A,Nat.mul_comm B];omega
     have g2:(B*G - A*a2)+a2*A=G*B:=by rw[Nat.mul_comm A,Nat.mul_comm B];omega
     have M:B*G - A*a2≤A*a1 - B*C:=by rw[Nat.add_mul,Nat.add_mul] at c3;omega
     obtain⟨i1,i2⟩:=Aqq g1 g2 c4
     have V:=Axk g1 g2 c4
     obtain⟨i3,i4⟩:=Aqr i1 i2 p2 (by omega) p1 M
     have hl:=Cd i4
     obtain⟨S,s1,s2,T⟩:=ih fuel (A*a1 - B*C) (B*G - A*a2) false false (by omega) (by rw[Nat.pow_succ] at L;omega) M (D.le (by omega))
     rw[V] at s2 T
     refine⟨S,s1,s2,fun K=>?_⟩
     have tk1:List.take ((As (A*a1 - B*C)).length*1) (Ae S1)=Ae (As (A*a1 - B*C)):=by rw[←t2,Np t1]
     have Ane:List.take ((As (B*G - A*a2)).length*1) (Ae S2)=Ae (As (B*G - A*a2)):=by rw[←w2,Np w1]
     rw[start,And U,cf,ct,t3,w3,tk1,Ane,T]
    | false =>
     obtain⟨c1,c2,c3,c4⟩:=r1
     obtain⟨S1,t1,t2,t3⟩:=DJ (R:=R) (N:=N) (a:=As B) (b:=As A) (x:=C) (y:=a1) (t:=false) (o:=f) (t':=false) (o':=d) rfl rfl (Ad _) (Ad _) r4 r2 (by rw[Ak,Ak,Nat.mul_comm,Nat.mul_comm B];exact c1) (D.le (by omega))
     obtain⟨S2,w1,w2,w3⟩:=DJ (R:=R) (N:=N) (a:=As A) (b:=As B) (x:=a2) (y:=G) (t:=false) (o:=d) (t':=false) (o':=f) rfl rfl (Ad _) (Ad _) r3 r5 (by rw[Ak,Ak,Nat.mul_comm,Nat.mul_comm A];exact c2) (D.le (by omega))
     rw[Ak,Ak] at t2 t3 w2 w3
     have g1:(B*C - A*a1)+a1*A=C*B:=by rw[Nat.mul_comm A,Nat.mul_comm B];omega
     have g2:(A*a2 - B*G)+G*B=a2*A:=by rw[Nat.mul_comm A,Nat.mul_comm B];omega
     have M:A*a2 - B*G≤B*C - A*a1:=by rw[Nat.add_mul,Nat.add_mul] at c3;omega
     obtain⟨i1,i2⟩:=Aqq g2 g1 c4
     have V:=Axk g2 g1 c4
     rw[Nat.gcd_comm] at V
     rw[Nat.add_comm] at i1 i2
     obtain⟨i3,i4⟩:=Aqr i1 i2 p2 (by omega) p1 M
     have hl:=Cd i4
     obtain⟨S,s1,s2,T⟩:=ih fuel (B*C - A*a1) (A*a2 - B*G) false false (by omega) (by rw[Nat.pow_succ] at L;omega) M (D.le (by omega))
     rw[V] at s2 T
     refine⟨S,s1,s2,fun K=>?_⟩
     have tk1:List.take ((As (B*C - A*a1)).length*1) (Ae S1)=Ae (As (B*C - A*a1)):=by rw[←t2,Np t1]
     have Ane:List.take ((As (A*a2 - B*G)).length*1) (Ae S2)=Ae (As (A*a2 - B*G)):=by rw[←w2,Np w1]
     rw[start,And U,cf,cf,t3,w3,tk1,Ane,T]
theorem Ayx (n m:Nat):4294967296 ^ n*4294967296 ^ m=2 ^ (32*(n+m)):=by
 rw[←Nat.pow_add,show(4294967296:Nat)=2 ^ 32 by rfl,←Nat.pow_mul]
theorem Ba5 {N:Nat} {a b:List Nat} {n m:Nat} {t o t' o':Bool} (hn:n=a.length) (L:m=b.length) (F:Al a) (G:Al b) (C:fit (2*(a.length+b.length)+4) N) :
  ∃ S,Al S∧val S=Nat.gcd (val a) (val b)∧∀ K:Nat→LA→O R,eC N (Ae a) n t o (Ae b) m t' o' K=K (As (Nat.gcd (val a) (val b))).length (Ae S):=by
 have M:=C.1;have T:=C.2
 have la:=(Bx F).2
 have lb:=(Bx G).2
 have k:val a*val b<2 ^ (32*(a.length+b.length)):=by rw[←Ayx];exact Nat.mul_lt_mul'' (Bo F) (Bo G)
 have start:∀ K:Nat→LA→O R,eC N (Ae a) n t o (Ae b) m t' o' K=cond (decide (Ir (val a) (val b)<0)) (Fy N K N (Ae (As (val b))) (As (val b)).length o' (Ae (As (val a))) (As (val a)).length o) (Fy N K N (Ae (As (val a))) (As (val a)).length o (Ae (As (val b))) (As (val b)).length o'):=by
  intro K
  rw[Af4];unfold Ab6 iE nN
  dsimp only
  rw[Cg hn F (C.le (by omega)),Cg L G (C.le (by omega)),T2 rfl rfl (Ad _) (Ad _) (C.le (by omega)),Ak,Ak]
 by_cases D:val a<val b
 ·obtain⟨S,s1,s2,I⟩:=Ayw (R:=R) (N:=N) (32*(a.length+b.length)) N (val b) (val a) o' o (by omega) (by rw[Nat.mul_comm];exact k) (by omega) (C.le (by omega))
  rw[Nat.gcd_comm] at s2
  refine⟨S,s1,s2,fun K=>?_⟩
  rw[start,show decide (Ir (val a) (val b)<0)=true by (unfold Ir;rw[if_pos D];rfl),ct,I,Nat.gcd_comm]
 ·obtain⟨S,s1,s2,I⟩:=Ayw (R:=R) (N:=N) (32*(a.length+b.length)) N (val a) (val b) o o' (by omega) k (by omega) (C.le (by omega))
  refine⟨S,s1,s2,fun K=>?_⟩
  rw[start,show decide (Ir (val a) (val b)<0)=false by (unfold Ir;rw[if_neg D];split<;>rfl),cf,I]
end
end Gx

namespace Gx
open Go Go.Proofs
section
variable {R:Type}
theorem Bgf {c:Nat} (h:c≤1000000000000):((Nat.ble (0+c) 140737488355328)&&(Nat.ble ((0+c)*4) 140737488355328))=true:=by simp;omega
theorem nZ {N:Nat} {l:List Nat} {t o:Bool} {K:Nat→LA→O R} (C:Al l) (hs:l.length≤1000000000000):∀ (c fuel:Nat),c≤l.length→c<fuel →
  Ov N K (Ae l) l.length t o fuel (c:Int)=K (As (val (l.take c))).length (Ae (As (val (l.take c))))
 | 0,fuel+1,D,_=>by
  rw[Ov];unfold CS
  rw[show decide (((0:Nat):Int)>0)=false by simp]
  rw[show((false:Bool)==true)=false by rfl,cf,Bd7 (by omega),ct,Int.toNat_natCast,Nat.mul_one,Wz,IX,Bool.or_true,ct,Bgf (by omega),ct];rfl
 | c+1,fuel+1,D,F=>by
  rw[Ov];unfold CS
  rw[A2o,ct,wP (by omega),Aa (by omega),ct,bJ (by omega),Ax7,Bd7 (by omega),ct,nZ C hs c fuel (by omega) (by omega),Int.toNat_natCast,Nat.mul_one,Wz,IX,Bool.or_true,ct,Bgf (by omega),ct,Nat.zero_add]
  by_cases k:l[c]=0
  ·rw[A5 (by omega),k];simp
  ·rw[Ate C (by omega) k,List.length_take,Nat.min_eq_left D]
   rw[And k,cf]
theorem Eb {N:Nat} {l:List Nat} {n:Nat} {t o:Bool} {K:Nat→LA→O R} (hn:n=l.length) (C:Al l) (k:fit l.length N):Ek N (Ae l) n t o K=K (As (val l)).length (Ae (As (val l))):=by
 subst hn
 have D:=k.1;have F:=k.2
 rw[TV];unfold OP
 dsimp only
 rw[nZ C (by omega) l.length N (Nat.le_refl _) (by omega),List.take_length]
theorem Ayy {N:Nat} {a b:List Nat} {t o t' o':Bool} {K:Bool→O R} (hs:a.length≤1000000000000) (F:a.length=b.length):∀ (m j fuel:Nat),j+m=a.length→m<fuel →
  Lu N K (Ae a) a.length t o (Ae b) b.length t' o' fuel (j:Int)=K (decide (a.drop j=b.drop j))
 | 0,j,fuel+1,G,_=>by
  rw[Lu];unfold Xy
  rw[Lm (by omega),cf,List.drop_eq_nil_of_le (by omega),List.drop_eq_nil_of_le (by omega)];simp
 | m+1,j,fuel+1,G,I=>by
  have C:j<a.length:=by omega
  have D:j<b.length:=by omega
  rw[Lu];unfold Xy
  rw[Jy C,ct,Aa C,ct,bJ C,Aa D,ct,bJ D,wS (by omega),Ayy hs F m (j+1) fuel (by omega) (by omega),List.drop_eq_getElem_cons C,List.drop_eq_getElem_cons D]
  by_cases h:a[j]=b[j]
  ·rw[show((((a[j]:Nat):Int) != ((b[j]:Nat):Int)))=false by simp[h],cf];congr 1;rw[decide_eq_decide,List.cons.injEq];exact⟨fun k=>⟨h,k⟩,fun k=>k.2⟩
  ·rw[show((((a[j]:Nat):Int) != ((b[j]:Nat):Int)))=true by rw[bne_iff_ne];omega,ct];congr 1;symm;rw[decide_eq_false_iff_not,List.cons.injEq];exact fun k=>h k.1
theorem Ba6 {N:Nat} {a b:List Nat} {n m:Nat} {t o t' o':Bool} {K:Bool→O R} (hn:n=a.length) (D:m=b.length) (C:fit a.length N):DZ N (Ae a) n t o (Ae b) m t' o' K=K (decide (a=b)):=by
 subst hn D
 have F:=C.1;have G:=C.2
 rw[jQ];unfold TX
 by_cases k:a.length=b.length
 ·rw[show(((a.length:Nat):Int) != ((b.length:Nat):Int))=false by simp[k],cf]
  have:=Ayy (R:=R) (N:=N) (t:=t) (o:=o) (t':=t') (o':=o') (K:=K) (by omega) k a.length 0 N (by omega) (by omega)
  simpa using this
 ·rw[show(((a.length:Nat):Int) != ((b.length:Nat):Int))=true by rw[bne_iff_ne];omega,ct]
  congr 1;symm;rw[decide_eq_false_iff_not];intro h;exact k (by rw[h])
theorem LJ {N:Nat} {v:Nat} {K:Nat→LA→O R} (D:v<18446744073709551616) (hN:4≤N):Gf N (v:Int) K=K (As v).length (Ae (As v)):=by
 have C:Al [v%4294967296,v/4294967296]:=D9.2 ⟨by omega,D9.2 ⟨by omega,Wy⟩⟩
 have k:val [v%4294967296,v/4294967296]=v:=by simp[val];omega
 rw[FB];unfold AF
 rw[mX,tX,A5m (show v/4294967296<4294967296 by omega)]
 have:=nZ (R:=R) (N:=N) (l:=[v%4294967296,v/4294967296]) (t:=false) (o:=true) (K:=K) C (by simp) 2 N (by simp) (by omega)
 rw[show [v%4294967296,v/4294967296].take 2=[v%4294967296,v/4294967296] by rfl,k] at this
 rw[TV];unfold OP
 exact this
theorem VP {N:Nat} {l:List Nat} {n:Nat} {t o:Bool} {K:Int→Bool→O R} (hn:n=l.length) (L:Al l) (G:fit l.length N):S5 N (Ae l) n t o K=if val l<18446744073709551616 then K (val l:Int) true else K 0 false:=by
 have U:=G.1
 rw[cY];unfold JC
 rw[Eb hn L G]
 by_cases h:val l<18446744073709551616
 ·have S:=VM h
  rw[if_pos h,show decide ((((As (val l)).length:Nat):Int)>2)=false by simp;omega,cf]
  have k:=Ak (val l)
  have D:=Ad (val l)
  obtain⟨M,hM⟩:∃ M,N=M+4:=⟨N - 4,by omega⟩
  rw[hM]
  generalize As (val l)=d at *
  match d,S,k,D with
  | [],_,k,_ =>
   dsimp only
   rw[E1];unfold Gg
   rw[←k,i64 (by simp)];rfl
  | [x],_,k,D =>
   have F:=(D9.1 D).1
   have C:val l=x:=by rw[←k];simp[val]
   dsimp only
   rw[E1];unfold Gg
   rw[i64 (by simp),show((([x]:List Nat).length:Nat):Int) - 1=((0:Nat):Int) by rfl,show decide (((0:Nat):Int)≥0)=true by rfl,ct,Aa (by simp),ct,pa (by simp)]
   rw[E1];unfold Gg
   rw[i64 (by simp),show decide ((((0:Nat):Int) - 1)≥0)=false by rfl,cf]
   have:=Be1 (a:=0) (b:=x) (by omega) F
   simp only[List.getElem_cons_zero]
   rw[Jt (show x<18446744073709551616 by omega),show(0:Int)=((0:Nat):Int) by rfl,this,C];simp
  | [x,y],_,k,D =>
   have F:=(D9.1 D).1
   have I:=(D9.1 (D9.1 D).2).1
   have C:val l=y*4294967296+x:=by rw[←k];simp[val];omega
   dsimp only
   rw[E1];unfold Gg
   rw[i64 (by simp),show((([x,y]:List Nat).length:Nat):Int) - 1=((1:Nat):Int) by rfl,show decide (((1:Nat):Int)≥0)=true by rfl,ct,Aa (by simp),ct,pa (by simp)]
   rw[E1];unfold Gg
   rw[i64 (by simp),show(((1:Nat):Int) - 1)=((0:Nat):Int) by rfl,show decide (((0:Nat):Int)≥0)=true by rfl,ct,Aa (by simp),ct,pa (by simp)]
   rw[E1];unfold Gg
   rw[i64 (by simp),show decide ((((0:Nat):Int) - 1)≥0)=false by rfl,cf]
   have o1:=Be1 (a:=0) (b:=y) (by omega) I
   have o2:=Be1 (a:=y) (b:=x) I F
   simp only[List.getElem_cons_zero,List.getElem_cons_succ]
   rw[Jt (show y<18446744073709551616 by omega),Jt (show x<18446744073709551616 by omega),show(0:Int)=((0:Nat):Int) by rfl,o1,Nat.zero_mul,Nat.zero_add,o2,C]
 ·have:¬ (As (val l)).length≤2:=fun T=>h (qy T)
  rw[if_neg h,show decide ((((As (val l)).length:Nat):Int)>2)=true by simp;omega,ct]
theorem Aqs {N:Nat} {x y:List Nat} {K:Int→O R} (D:Al x) (F:Al y) (hs:x.length≤1000000000000) (I:x.length=y.length):∀ (i fuel:Nat),i≤x.length→i<fuel →
  H3 N K x.length y.length (Ae x) (Ae y) fuel ((i:Int) - 1)=K (Ir (val (x.take i)) (val (y.take i)))
 | 0,fuel+1,_,_=>by
  rw[H3];unfold R9
  rw[show decide ((((0:Nat):Int) - 1)≥0)=false by simp,cf]
  simp[EI]
 | i+1,fuel+1,hi,L=>by
  rw[H3];unfold R9
  rw[show(((i+1:Nat):Int) - 1)=(i:Int) by omega,show decide ((i:Int)≥0)=true by simp,ct,Aa (by omega),ct,pa (by omega),Aa (by omega),ct,pa (by omega),ct,pa (by omega),ct,pa (by omega),i64 (by omega),
   Aqs D F hs I i fuel (by omega) (by omega),A5 (by omega),A5 (by omega)]
  have k:=Bo (Cv D i)
  have C:=Bo (Cv F i)
  rw[List.length_take,Nat.min_eq_left (by omega)] at k C
  by_cases c1:x[i]<y[i]
  ·have:=Ab9 k C c1
   rw[show decide (((x[i]:Nat):Int)<((y[i]:Nat):Int))=true by simp;exact c1,ct]
   unfold Ir;rw[if_pos this]
  ·by_cases G:y[i]<x[i]
   ·have:=Ab9 C k G
    rw[show decide (((x[i]:Nat):Int)<((y[i]:Nat):Int))=false by simp;omega,cf,show decide (((x[i]:Nat):Int)>((y[i]:Nat):Int))=true by simp;exact G,ct]
    unfold Ir;rw[if_neg (by omega),if_pos this]
   ·have:x[i]=y[i]:=by omega
    rw[show decide (((x[i]:Nat):Int)<((y[i]:Nat):Int))=false by simp;omega,cf,show decide (((x[i]:Nat):Int)>((y[i]:Nat):Int))=false by simp;omega,cf,this]
    unfold Ir
    congr 1
    by_cases a1:val (x.take i)<val (y.take i)
    ·rw[if_pos a1,if_pos (by omega)]
    ·by_cases a2:val (y.take i)<val (x.take i)
     ·rw[if_neg a1,if_pos a2,if_neg (by omega),if_pos (by omega)]
     ·rw[if_neg a1,if_neg a2,if_neg (by omega),if_neg (by omega)]
theorem A83 {N:Nat} {a b:List Nat} {n m:Nat} {t o t' o':Bool} {K:Int→O R} (hn:n=a.length) (I:m=b.length) (C:Al a) (D:Al b) (k:fit (a.length+b.length) N) :
  Tp N (Ae a) n t o (Ae b) m t' o' K=K (Ir (val a) (val b)):=by
 subst hn I
 have L:=k.1;have M:=k.2
 rw[XQ];unfold CT
 dsimp only
 rw[Eb rfl C (k.le (by omega)),Eb rfl D (k.le (by omega))]
 have la:=(Bx C).2
 have lb:=(Bx D).2
 by_cases F:(As (val a)).length=(As (val b)).length
 ·rw[show((((As (val a)).length:Nat):Int) != (((As (val b)).length:Nat):Int))=false by simp;omega,cf,i64 (by omega),Aqs (Ad _) (Ad _) (by omega) F _ N (Nat.le_refl _) (by omega),List.take_length,F,List.take_length,Ak,Ak]
 ·rw[show((((As (val a)).length:Nat):Int) != (((As (val b)).length:Nat):Int))=true by simp;omega,ct]
  by_cases G:(As (val a)).length<(As (val b)).length
  ·have:=VL G
   rw[Jy G,ct]
   unfold Ir;rw[if_pos this]
  ·have:=VL (show(As (val b)).length<(As (val a)).length by omega)
   rw[Lm (by omega),cf]
   unfold Ir;rw[if_neg (by omega),if_pos this]
end
end Gx

namespace Gx
open Go Go.Proofs
section
variable {R:Type}
theorem Bgg (a b:Nat):Iq (a:Int) (b:Int)=((max a b:Nat):Int):=by
 unfold Iq
 by_cases h:(b:Int)>(a:Int)
 ·rw[decide_eq_true h];show(b:Int)=_;omega
 ·rw[decide_eq_false h];show(a:Int)=_;omega
theorem Aqt {N:Nat} {a b:List Nat} {t o t' o':Bool} {n:Nat} (I:Al a) (L:Al b) (M:a.length<n) (T:b.length<n) (hn:n≤max a.length b.length+1) (F:fit n N):∀ (m d fuel:Nat) (S:List Nat) (c:Nat),d+m=n→m<fuel→Al S→S.length=n→A8z S d→c≤1 →
  val S+4294967296 ^ d*c=val (a.take d)+val (b.take d) →
  ∀ K:Nat→LA→O R,Jv N K (Ae a) a.length t o (Ae b) b.length t' o' fuel n (c:Int) (d:Int) (Ae S)=K (As (val a+val b)).length (Ae (As (val a+val b)))
 | 0,d,fuel+1,S,c,hd,_,hS,G,U,hc,V=>by
  intro K
  have Y:d=n:=by omega
  subst Y
  rw[List.take_of_length_le (by omega),List.take_of_length_le (by omega)] at V
  have hc0:c=0:=by
   rcases Nat.eq_zero_or_pos c with h | h
   ·exact h
   ·exfalso
    have hc1:c=1:=by omega
    subst hc1
    obtain⟨e,rfl⟩:∃ e,d=e+1:=⟨d - 1,by omega⟩
    have x1:=Bo I
    have x2:=Bo L
    have y1:4294967296 ^ a.length≤4294967296 ^ e:=Nat.pow_le_pow_right (by omega) (by omega)
    have y2:4294967296 ^ b.length≤4294967296 ^ e:=Nat.pow_le_pow_right (by omega) (by omega)
    rw[Nat.pow_succ] at V
    omega
  subst hc0
  have hv2:val S=val a+val b:=by omega
  rw[Jv];unfold JD
  rw[Lm (Nat.le_refl _),cf,Nat.mul_one,List.take_of_length_le (by rw[Ca];omega),Eb G.symm hS (by rw[G];exact F),hv2]
 | m+1,d,fuel+1,S,c,hd,hfu,hS,G,U,hc,V=>by
  intro K
  have h1:=F.1;have h2:=F.2
  have ga:=EJ I d
  have gb:=EJ L d
  have step:∀ s:Nat,s=c+a.getD d 0+b.getD d 0→val (S.set d (s%4294967296))+4294967296 ^ (d+1)*(s/4294967296)=val (a.take (d+1))+val (b.take (d+1)):=by
   intro s hs
   rw[X8 U (by omega),T3 a d,T3 b d,Nat.pow_succ]
   have e:=O6 (4294967296 ^ d) s
   have e2:4294967296 ^ d*s=4294967296 ^ d*c+4294967296 ^ d*a.getD d 0+4294967296 ^ d*b.getD d 0:=by rw[hs,Nat.mul_add,Nat.mul_add]
   omega
  have next:∀ s:Nat,s=c+a.getD d 0+b.getD d 0→Jv N K (Ae a) a.length t o (Ae b) b.length t' o' fuel n ((s/4294967296:Nat):Int) ((d+1:Nat):Int) (Ae (S.set d (s%4294967296)))=K (As (val a+val b)).length (Ae (As (val a+val b))):=by
   intro s hs
   exact Aqt I L M T hn F m (d+1) fuel (S.set d (s%4294967296)) (s/4294967296) (by omega) (by omega) (C4 hS (by omega) d) (by simpa using G) (LI U) (by omega) (step s hs) K
  have second:∀ w:Nat,w=c+a.getD d 0→FF N (Jv N K (Ae a) a.length t o (Ae b) b.length t' o' fuel) K (Ae a) a.length t o (Ae b) b.length t' o' n (Ae S) (w:Int) (d:Int)=K (As (val a+val b)).length (Ae (As (val a+val b))):=by
   intro w hw
   unfold FF
   by_cases k:d<b.length
   ·have D:b.getD d 0=b[d]:=by rw[List.getD_eq_getElem?_getD,List.getElem?_eq_getElem k];rfl
    rw[Jy k,ct,Aa k,ct,bJ k,Aa (by omega),ct,Aos (by omega),ct,Jt (show b[d]<18446744073709551616 by omega),OO,Jt (show w+b[d]<18446744073709551616 by omega),tX,mX,d6,wS (by omega)]
    exact next _ (by rw[hw,D])
   ·have D:b.getD d 0=0:=by rw[List.getD_eq_getElem?_getD,List.getElem?_eq_none (by omega)];rfl
    rw[Lm (by omega),cf,Aa (by omega),ct,Aos (by omega),ct,tX,mX,d6,wS (by omega)]
    exact next _ (by rw[hw,D];rfl)
  rw[Jv];unfold JD
  rw[Jy (by omega),ct]
  by_cases C:d<a.length
  ·have D:a.getD d 0=a[d]:=by rw[List.getD_eq_getElem?_getD,List.getElem?_eq_getElem C];rfl
   rw[Jy C,ct,Aa C,ct,bJ C,Jt (show a[d]<18446744073709551616 by omega),OO,Jt (show c+a[d]<18446744073709551616 by omega)]
   exact second _ (by rw[D])
  ·have D:a.getD d 0=0:=by rw[List.getD_eq_getElem?_getD,List.getElem?_eq_none (by omega)];rfl
   rw[Lm (by omega),cf]
   exact second _ (by rw[D];rfl)
theorem ue {N:Nat} {a b:List Nat} {n m:Nat} {t o t' o':Bool} {K:Nat→LA→O R} (hn:n=a.length) (C:m=b.length) (D:Al a) (F:Al b) (k:fit (a.length+b.length+1) N) :
  JE N (Ae a) n t o (Ae b) m t' o' K=K (As (val a+val b)).length (Ae (As (val a+val b))):=by
 subst hn C
 have G:=k.1;have I:=k.2
 rw[ws];unfold pC
 rw[Bgg,wS (by omega),A92 (by omega),ct,Int.toNat_natCast,Dq]
 exact Aqt D F (n:=max a.length b.length+1) (by omega) (by omega) (Nat.le_refl _) (k.le (by omega)) (max a.length b.length+1) 0 N (List.replicate (max a.length b.length+1) 0) 0 (by omega) (by omega) (C2 _) (by simp) (Nt _) (by omega) (by rw[Ez];simp[val]) K
theorem Aqu {N:Nat} {a b:List Nat} (ha:Al a) (hb:Al b) (M:fit a.length N) (I:b.length≤a.length) (T:val b≤val a):∀ (m d fuel:Nat) (S:List Nat) (c:Nat),d+m=a.length→m<fuel→Al S→S.length=a.length→A8z S d→c≤1 →
  val S+val (b.take d)=val (a.take d)+4294967296 ^ d*c →
  ∀ K:Nat→Bool→LA→O R,Jw N K a.length b.length (Ae a) (Ae b) fuel (c:Int) (d:Int) (Ae S)=K (As (val a - val b)).length true (Ae (As (val a - val b)))
 | 0,d,fuel+1,S,c,hd,_,hS,L,U,hc,hv=>by
  intro K
  have V:d=a.length:=by omega
  subst V
  rw[List.take_length,List.take_of_length_le I] at hv
  have D:=Bo hS
  rw[L] at D
  have Y:c=0:=by
   rcases Nat.lt_or_ge 0 c with h | h
   ·exfalso
    have:c=1:=by omega
    subst this
    omega
   ·omega
  subst Y
  have hv2:val S=val a - val b:=by omega
  rw[Jw];unfold JG
  rw[Lm (Nat.le_refl _),cf,Nat.mul_one,List.take_of_length_le (by rw[Ca];omega),Eb L.symm hS (by rw[L];exact M),hv2]
 | m+1,d,fuel+1,S,c,hd,hfu,hS,L,U,hc,hv=>by
  intro K
  have h1:=M.1;have h2:=M.2
  have k:d<a.length:=by omega
  have ad:=Bd ha k
  have gb:=EJ hb d
  have step:∀ y g c':Nat,y=c+b.getD d 0→a[d]+4294967296*c'=g+y→val (S.set d g)+val (b.take (d+1))=val (a.take (d+1))+4294967296 ^ (d+1)*c':=by
   intro y g c' G F
   rw[X8 U (by omega),A5 k,T3 b d,Nat.pow_succ,Nat.mul_assoc]
   have e:4294967296 ^ d*(a[d]+4294967296*c')=4294967296 ^ d*(g+(c+b.getD d 0)):=by rw[F,G]
   rw[Nat.mul_add,Nat.mul_add,Nat.mul_add] at e
   omega
  have next:∀ y g c':Nat,g<4294967296→c'≤1→y=c+b.getD d 0→a[d]+4294967296*c'=g+y→Jw N K a.length b.length (Ae a) (Ae b) fuel (c':Int) ((d+1:Nat):Int) (Ae (S.set d g))=K (As (val a - val b)).length true (Ae (As (val a - val b))):=by
   intro y g c' F hc' G he
   exact Aqu ha hb M I T m (d+1) fuel (S.set d g) c' (by omega) (by omega) (C4 hS F d) (by simpa using L) (LI U) hc' (step y g c' G he) K
  have second:∀ y:Nat,y=c+b.getD d 0→FG N (Jw N K a.length b.length (Ae a) (Ae b) fuel) K a.length b.length (Ae a) (Ae b) (Ae S) (d:Int) (y:Int)=K (As (val a - val b)).length true (Ae (As (val a - val b))):=by
   intro y G
   unfold FG
   rw[Aa k,ct,pa k,Jt (show a[d]<18446744073709551616 by omega)]
   by_cases D:a[d]<y
   ·rw[Jy D,ct,ct,Aos (by omega),ct,show((a[d]:Nat):Int)+4294967296=((a[d]+4294967296:Nat):Int) by omega,Jt (show a[d]+4294967296<18446744073709551616 by omega),tW (by omega) (by omega),A5m (by omega),d6,wS (by omega)]
    exact next y (a[d]+4294967296 - y) 1 (by omega) (by omega) G (by omega)
   ·rw[Lm (by omega),cf,ct,Aos (by omega),ct,tW (by omega) (by omega),A5m (by omega),d6,wS (by omega)]
    exact next y (a[d] - y) 0 (by omega) (by omega) G (by omega)
  rw[Jw];unfold JG
  rw[Jy k,ct]
  by_cases C:d<b.length
  ·have F:b.getD d 0=b[d]:=by rw[List.getD_eq_getElem?_getD,List.getElem?_eq_getElem C];rfl
   rw[Jy C,ct,Aa C,ct,pa C,Jt (show b[d]<18446744073709551616 by omega),OO,Jt (show c+b[d]<18446744073709551616 by omega)]
   exact second _ (by rw[F])
  ·have F:b.getD d 0=0:=by rw[List.getD_eq_getElem?_getD,List.getElem?_eq_none (by omega)];rfl
   rw[Lm (by omega),cf]
   exact second _ (by rw[F];rfl)
theorem uf {N:Nat} {a b:List Nat} {n m:Nat} {t o t' o':Bool} {K:Nat→Bool→LA→O R} (hn:n=a.length) (I:m=b.length) (D:Al a) (F:Al b) (C:fit (a.length+b.length) N) :
  JH N (Ae a) n t o (Ae b) m t' o' K=if val b≤val a then K (As (val a - val b)).length true (Ae (As (val a - val b))) else K 0 false []:=by
 subst hn I
 have L:=C.1;have M:=C.2
 have la:=(Bx D).2
 have lb:=(Bx F).2
 rw[ww];unfold pE
 dsimp only
 rw[A83 rfl rfl D F C]
 by_cases k:val b≤val a
 ·have G:=Cd k
  rw[if_pos k,show decide (Ir (val a) (val b)<0)=false by (unfold Ir;rw[if_neg (by omega)];split<;>rfl),cf,Eb rfl D (C.le (by omega)),Eb rfl F (C.le (by omega)),A92 (by omega),ct,Dq]
  have:=Aqu (R:=R) (N:=N) (a:=As (val a)) (b:=As (val b)) (Ad _) (Ad _) (C.le (by omega)) G (by rw[Ak,Ak];exact k) (As (val a)).length 0 N (List.replicate (As (val a)).length 0) 0 (by omega) (by omega) (C2 _) (by simp) (Nt _) (by omega) (by rw[Ez];simp[val]) K
  rw[Ak,Ak] at this
  exact this
 ·rw[if_neg k,show decide (Ir (val a) (val b)<0)=true by (unfold Ir;rw[if_pos (by omega)];rfl),ct]
theorem A5u {N:Nat} {x y:List Nat} {c d c' d':Bool} {f:Nat} (V:Al x) (Y:Al y) (G:f<x.length) (hs:x.length+y.length≤1000000000000):∀ (m l fuel:Nat) (S:List Nat) (p:Nat) (v:Nat),l+m=y.length→m<fuel→Al S→S.length=x.length+y.length→A8z S (f+y.length)→p<4294967296 →
  val S+4294967296 ^ (f+l)*p=v+4294967296 ^ f*(x[f]*val (y.take l)) →
  ∃ S',Al S'∧S'.length=x.length+y.length∧val S'=v+4294967296 ^ f*(x[f]*val y)∧∀ (D:Nat→Int→LA→O R) (K:Nat→LA→O R),Tc N D K (Ae x) x.length c d (Ae y) y.length c' d' (x.length+y.length) fuel (f:Int) (p:Int) (l:Int) (Ae S)=D (x.length+y.length) ((f+1:Nat):Int) (Ae S')
 | 0,l,fuel+1,S,p,v,hl,_,hS,k,L,I,M=>by
  have T:l=y.length:=by omega
  subst T
  rw[List.take_length] at M
  refine⟨S.set (f+y.length) p,C4 hS I _,by simpa using k,by rw[X8 L (by omega),M],fun D K=>?_⟩
  rw[Tc];unfold KQ
  rw[Lm (Nat.le_refl _),cf,wA (by omega),Aa (by omega),ct,Aos (by omega),ct,A5m I,d6,wS (by omega)]
 | m+1,l,fuel+1,S,p,v,hl,hfu,hS,k,L,I,M=>by
  have C:l<y.length:=by omega
  have yl:=Bd Y C
  have hq:=Bd V G
  have hi:f+l<S.length:=by omega
  have sl:=Bd hS hi
  have hw:=Ays I hq yl sl
  have U:x[f]*y[l]<18446744073709551616:=by omega
  generalize F:p+(x[f]*y[l]+S[f+l])=s at *
  have hset:=qx (v:=s%4294967296) hi
  have key:val (S.set (f+l) (s%4294967296))+4294967296 ^ (f+(l+1))*(s/4294967296)=v+4294967296 ^ f*(x[f]*val (y.take (l+1))):=by
   rw[A5 C,←Nat.add_assoc f l 1,Nat.pow_succ]
   have e:=O6 (4294967296 ^ (f+l)) s
   have e2:4294967296 ^ (f+l)*s=4294967296 ^ (f+l)*p+(4294967296 ^ (f+l)*(x[f]*y[l])+4294967296 ^ (f+l)*S[f+l]):=by rw[←F,Nat.mul_add,Nat.mul_add]
   have e3:4294967296 ^ f*(x[f]*(val (y.take l)+4294967296 ^ l*y[l]))=4294967296 ^ f*(x[f]*val (y.take l))+4294967296 ^ (f+l)*(x[f]*y[l]):=by
    rw[Nat.mul_add,Nat.mul_add,Nat.pow_add]
    congr 1
    rw[Nat.mul_assoc];congr 1
    rw[←Nat.mul_assoc,←Nat.mul_assoc,Nat.mul_comm x[f]]
   omega
  obtain⟨S',q1,q2,q3,q4⟩:=A5u (N:=N) (c:=c) (d:=d) (c':=c') (d':=d') V Y G hs m (l+1) fuel (S.set (f+l) (s%4294967296)) (s/4294967296) v (by omega) (by omega) (C4 hS (by omega) _) (by simpa using k) (fun j hj hk=>by
   rw[List.getElem_set,if_neg (by omega)];exact L j (by simpa using hj) hk) (by omega) key
  refine⟨S',q1,q2,q3,fun D K=>?_⟩
  rw[Tc];unfold KQ
  rw[Jy C,ct,wA (by omega),Aa (by omega),ct,pa hi,Aa G,ct,bJ G,Aa C,ct,bJ C,ct,Aos hi,ct,Jt (show x[f]<18446744073709551616 by omega),Jt (show y[l]<18446744073709551616 by omega),Jt (show S[f+l]<18446744073709551616 by omega),Adn,Jt U,OO,Nat.add_comm S[f+l],Jt (by omega),OO,F,Jt hw,tX,mX,d6,wS (by omega)]
  exact q4 D K
theorem Ayz {N:Nat} {x y:List Nat} {c d c' d':Bool} (L:Al x) (M:Al y) (k:fit (x.length+y.length) N):∀ (m f fuel:Nat) (S:List Nat),f+m=x.length→m<fuel→Al S→S.length=x.length+y.length →
  val S=val (x.take f)*val y →
  ∀ K:Nat→LA→O R,L5 N K (Ae x) x.length c d (Ae y) y.length c' d' fuel (x.length+y.length) (f:Int) (Ae S)=K (As (val x*val y)).length (Ae (As (val x*val y)))
 | 0,f,fuel+1,S,V,_,hS,C,I=>by
  intro K
  have T:f=x.length:=by omega
  subst T
  rw[List.take_length] at I
  rw[L5];unfold KR
  rw[Lm (Nat.le_refl _),cf,Nat.mul_one,List.take_of_length_le (by rw[Ca];omega),Eb C.symm hS (by rw[C];exact k),I]
 | m+1,f,fuel+1,S,V,Y,hS,C,I=>by
  intro K
  have h1:=k.1;have h2:=k.2
  have F:f<x.length:=by omega
  have U:=Bo (Cv L f)
  rw[List.length_take,Nat.min_eq_left (by omega)] at U
  have b2:=Bo M
  have D:val S<4294967296 ^ (f+y.length):=by
   rw[I,Nat.pow_add];exact Nat.mul_lt_mul'' U b2
  have G:val (x.take (f+1))*val y=val S+4294967296 ^ f*(x[f]*val y):=by
   rw[A5 F,Nat.add_mul,I,Nat.mul_assoc]
  obtain⟨S1,p1,p2,p3,p4⟩:=A5u (R:=R) (N:=N) (x:=x) (y:=y) (c:=c) (d:=d) (c':=c') (d':=d') (f:=f) L M F (by omega) y.length 0 N S 0 (val S) (by omega) (by omega) hS C (Baw D) (by omega) (by simp[val])
  rw[L5];unfold KR
  rw[Jy F,ct]
  have:=p4 (L5 N K (Ae x) x.length c d (Ae y) y.length c' d' fuel) K
  simp only[Int.natCast_zero] at this
  dsimp only
  rw[this]
  exact Ayz L M k m (f+1) fuel S1 (by omega) (by omega) p1 p2 (by rw[p3,G]) K
theorem A84 {N:Nat} {a b:List Nat} {n m:Nat} {t o t' o':Bool} {K:Nat→LA→O R} (hn:n=a.length) (C:m=b.length) (D:Al a) (F:Al b) (k:fit (a.length+b.length) N) :
  iI N (Ae a) n t o (Ae b) m t' o' K=K (As (val a*val b)).length (Ae (As (val a*val b))):=by
 subst hn C
 have G:=k.1;have I:=k.2
 rw[xv];unfold qP
 rw[wA (by omega),A92 (by omega),ct,Int.toNat_natCast,Dq]
 exact Ayz D F k a.length 0 N (List.replicate (a.length+b.length) 0) (by omega) (by omega) (C2 _) (by simp) (by rw[Ez];simp[val]) K
end
end Gx

namespace Gx
open Go Go.Proofs
section
variable {R:Type}
theorem Ait {N:Nat}:∀ (k fuel n v:Nat),v<2 ^ k→k<fuel→n+k≤1000000000000→∃ b:Nat,b≤k∧v<2 ^ b∧(v≠0→2 ^ b≤2*v)∧(v=0→b=0)∧∀ K:Int→O R,Lk N K fuel (n:Int) (v:Int)=K ((n+b:Nat):Int)
 | 0,fuel+1,n,v,D,_,_=>by
  have C:v=0:=by simpa using D
  subst C
  refine⟨0,by omega,by simp,fun h=>absurd rfl h,fun _=>rfl,fun K=>?_⟩
  rw[Lk];unfold Um
  rw[show decide (((0:Nat):Int)>0)=false by rfl,cf];rfl
 | k+1,fuel+1,n,v,D,L,hn=>by
  by_cases C:v=0
  ·subst C
   refine⟨0,by omega,by simp,fun h=>absurd rfl h,fun _=>rfl,fun K=>?_⟩
   rw[Lk];unfold Um
   rw[show decide (((0:Nat):Int)>0)=false by rfl,cf];rfl
  ·obtain⟨b,M,S,b3,G,I⟩:=Ait (N:=N) k fuel (n+1) (v/2) (by rw[Nat.pow_succ] at D;omega) (by omega) (by omega)
   refine⟨b+1,by omega,by rw[Nat.pow_succ];omega,fun _=>?_,fun h=>absurd h C,fun K=>?_⟩
   ·by_cases F:v/2=0
    ·rw[G F];simp;omega
    ·have:=b3 F;rw[Nat.pow_succ];omega
   ·rw[Lk];unfold Um
    rw[show decide (((v:Nat):Int)>0)=true by rw[decide_eq_true_eq];omega,ct,wS (by omega),Uk v 1,show v/2 ^ 1=v/2 by rfl,I]
    congr 2;omega
theorem A3j {N:Nat} {a:List Nat} {n:Nat} {t o:Bool} (hn:n=a.length) (G:Al a) (F:fit a.length N):∃ nb:Nat,nb≤32*a.length∧val a<2 ^ nb∧(val a≠0→2 ^ nb≤2*val a)∧(val a=0→nb=0)∧∀ K:Int→O R,OT N (Ae a) n t o K=K (nb:Int):=by
 have Y:=F.1;have h2:=F.2
 have la:=(Bx G).2
 by_cases D:val a=0
 ·refine⟨0,by omega,by rw[D];simp,fun h=>absurd D h,fun _=>rfl,fun K=>?_⟩
  rw[TY];unfold OS
  rw[Eb hn G F,D,Eu];rfl
 ·have M:(As (val a)).length≠0:=fun h=>D (Bz.1 h)
  obtain⟨k,I⟩:∃ k,(As (val a)).length=k+1:=⟨(As (val a)).length - 1,by omega⟩
  have top:=Bd (Ad (val a)) (show k<(As (val a)).length by omega)
  have C:(As (val a))[k]'(by omega)≠0:=by
   have:=Adm (val a) (mW D)
   rw[List.getLast_eq_getElem] at this
   simp only[I,Nat.add_sub_cancel] at this
   exact this
  have tf:=QI I
  have tl:=VO (Ad (val a)) I
  rw[Ak] at tf tl
  obtain⟨b,b1,S,b3,b4,T⟩:=Ait (R:=R) (N:=N) 32 N (32*k) ((As (val a))[k]'(by omega)) (by exact top) (by omega) (by omega)
  have L:(2:Nat) ^ (32*k+b)=4294967296 ^ k*2 ^ b:=by rw[Nat.pow_add,Nat.pow_mul]
  refine⟨32*k+b,by omega,?_,fun _=>?_,fun h=>absurd h D,fun K=>?_⟩
  ·rw[L]
   have:((As (val a))[k]'(by omega)+1)*4294967296 ^ k≤2 ^ b*4294967296 ^ k:=Nat.mul_le_mul_right _ S
   rw[Nat.mul_comm (2 ^ b)] at this;omega
  ·rw[L]
   have:=Nat.mul_le_mul_left (4294967296 ^ k) (b3 C)
   rw[Nat.mul_left_comm] at this
   omega
  ·rw[TY];unfold OS
   have U:IntKind.wrap .i64 ((((As (val a)).length:Nat):Int) - 1)=((k:Nat):Int):=by rw[i64 (by omega)];omega
   have V:IntKind.wrap .i64 ((32:Int)*((k:Nat):Int))=((32*k:Nat):Int):=by rw[i64 (by omega)];omega
   rw[Eb hn G F,And M,cf,U,Aa (by omega),ct,pa (by omega),V]
   exact T K
theorem Ay0 {a:List Nat} {j:Nat} (h:j<a.length):val a=val (a.take j)+4294967296 ^ j*(a[j]+4294967296*val (a.drop (j+1))):=by
 have:=Sz (a.take j) (a.drop j)
 rw[List.take_append_drop,List.length_take,Nat.min_eq_left (by omega),fG h] at this
 exact this
theorem uh (j k:Nat):(2:Nat) ^ (32*j+k)=4294967296 ^ j*2 ^ k:=by rw[Nat.pow_add,Nat.pow_mul]
theorem Bcs {a:List Nat} {j k:Nat} (C:Al a) (h:j<a.length) (G:k<32):val a/2 ^ (32*j+k)%2=a[j]/2 ^ k%2:=by
 have tl:=Bo (Cv C j)
 rw[List.length_take,Nat.min_eq_left (by omega)] at tl
 have hP:0<4294967296 ^ j:=Nat.pow_pos (by omega)
 have D:0<2 ^ k:=Nat.pow_pos (by omega)
 rw[uh,←Nat.div_div_eq_div_mul,Ay0 h,Nat.add_mul_div_left _ _ hP,Nat.div_eq_of_lt tl,Nat.zero_add]
 have e:4294967296=2 ^ k*(2*2 ^ (31 - k)):=by rw[←Nat.pow_succ',←Nat.pow_add,show k+(31 - k+1)=32 by omega]
 have F:4294967296*val (a.drop (j+1))=2 ^ k*(2*(2 ^ (31 - k)*val (a.drop (j+1)))):=by
  rw[←Nat.mul_assoc 2,←Nat.mul_assoc,←e]
 rw[F,Nat.add_mul_div_left _ _ D,Nat.add_mul_mod_self_left]
theorem A85 {N:Nat} {a:List Nat} {n:Nat} {t o:Bool} {i:Nat} {K:Int→O R} (hn:n=a.length) (F:Al a) (hi:i<32*a.length) (hs:a.length≤1000000000):pD N (Ae a) n t o (i:Int) K=K ((val a/2 ^ i%2:Nat):Int):=by
 subst hn
 have C:i/32<a.length:=by omega
 have aj:=Bd F C
 rw[wu];unfold Adx
 have G:IntKind.wrap .i64 (Int.tdiv ((i:Nat):Int) 32)=((i/32:Nat):Int):=by rw[show(32:Int)=((32:Nat):Int) by rfl,lJ,i64 (by omega)]
 have I:IntKind.wrap .u64 (Int.tmod ((i:Nat):Int) 32)=((i%32:Nat):Int):=by rw[show(32:Int)=((32:Nat):Int) by rfl,fF,Jt (by omega)]
 rw[G,I,show decide (((i/32:Nat):Int)≥((a.length:Nat):Int))=false by rw[decide_eq_false_iff_not];omega,cf,Aa C,ct,bJ C,show decide (((i%32:Nat):Int)<0)=false by rw[decide_eq_false_iff_not];omega,cf,Int.toNat_natCast,Nat.min_eq_left (by omega),Uk]
 have D:a[i/32]/2 ^ (i%32)<4294967296:=Nat.lt_of_le_of_lt (Nat.div_le_self _ _) aj
 have e:=A1x (k:=.u32) rfl (a:=a[i/32]/2 ^ (i%32)) (b:=1) D (by decide)
 rw[show(1:Int)=((1:Nat):Int) by rfl,e,Nat.and_one_is_mod]
 have:=Bcs F C (k:=i%32) (by omega)
 rw[Nat.div_add_mod] at this
 rw[this]
theorem Ba7 {Q:List Nat} {j k:Nat} (hQ:Al Q) (h:j<Q.length) (F:k<32) (C:2 ^ (32*j+k+1)∣val Q):2 ^ (k+1)∣Q[j]:=by
 have tl:=Bo (Cv hQ j)
 rw[List.length_take,Nat.min_eq_left (by omega)] at tl
 have hP:0<4294967296 ^ j:=Nat.pow_pos (by omega)
 rw[Nat.add_assoc,uh,Ay0 h] at C
 have D:val (Q.take j)=0:=by
  have x1:4294967296 ^ j∣val (Q.take j):=(Nat.dvd_add_left (Nat.dvd_mul_right _ _)).1 (Nat.dvd_trans (Nat.dvd_mul_right _ _) C)
  exact Nat.eq_zero_of_dvd_of_lt x1 tl
 rw[D,Nat.zero_add] at C
 have x2:=Nat.dvd_of_mul_dvd_mul_left hP C
 have x3:2 ^ (k+1)∣4294967296*val (Q.drop (j+1)):=Nat.dvd_trans ⟨2 ^ (31 - k),by rw[←Nat.pow_add,show k+1+(31 - k)=32 by omega]⟩ (Nat.dvd_mul_right _ _)
 exact(Nat.dvd_add_left x3).1 x2
theorem ui {N:Nat} {a b:List Nat} {t o:Bool} {B:Nat} (ha:Al a) (G:b=As B) (hB:0<B) (F:fit (a.length+2*b.length+4) N):∀ (i fuel:Nat) (Q:List Nat) (r:Nat),i<fuel→i≤32*a.length→Al Q→Q.length=a.length→r=val a/2 ^ i%B→val Q=val a/2 ^ i/B*2 ^ i →
  ∀ K:Nat→Nat→Bool→LA→LA→O R,F5 N K (Ae a) a.length t o b.length (Ae b) fuel (As r).length ((i:Int) - 1) (Ae Q) (Ae (As r))=K (As (val a/B)).length (As (val a%B)).length true (Ae (As (val a/B))) (Ae (As (val a%B)))
 | 0,fuel+1,Q,r,_,_,hQ,T,hr,I=>by
  intro K
  rw[Nat.pow_zero,Nat.div_one] at hr I
  rw[Nat.mul_one] at I
  have lr:(As r).length≤b.length:=by
   rw[G];apply Cd;rw[hr];exact Nat.le_of_lt (Nat.mod_lt _ hB)
  rw[F5];unfold Un
  rw[show decide ((((0:Nat):Int) - 1)≥0)=false by rfl,cf,Nat.mul_one,List.take_of_length_le (by rw[Ca];omega),Eb T.symm hQ (by rw[T];exact F.le (by omega)),Nat.mul_one,List.take_of_length_le (by rw[Ca];omega),Eb rfl (Ad _) (F.le (by omega)),Ak,I,hr]
 | i+1,fuel+1,Q,r,hfu,hi,hQ,T,hr,I=>by
  intro K
  have h1:=F.1;have h2:=F.2
  have hrB:r<B:=by rw[hr];exact Nat.mod_lt _ hB
  have lr:(As r).length≤b.length:=by rw[G];exact Cd (Nat.le_of_lt hrB)
  have D:val a/2 ^ i=2*(val a/2 ^ (i+1))+val a/2 ^ i%2:=by
   have:=Nat.div_add_mod (val a/2 ^ i) 2
   rw[Nat.div_div_eq_div_mul,←Nat.pow_succ] at this
   exact this.symm
  have hdm:=Nat.div_add_mod (val a/2 ^ (i+1)) B
  have hb2:val a/2 ^ i%2<2:=Nat.mod_lt _ (by omega)
  generalize hH:val a/2 ^ (i+1)=H at *
  generalize U:val a/2 ^ i%2=bt at *
  have C:val a/2 ^ i=B*(2*(H/B))+(2*r+bt):=by
   rw[D,hr,Nat.mul_left_comm];omega
  clear hr hdm D
  have V:i/32<Q.length:=by omega
  have qj:=Bd hQ V
  have Y:2 ^ (32*(i/32)+i%32+1)∣val Q:=by rw[Nat.div_add_mod,I];exact Nat.dvd_mul_left _ _
  have L:=Ba7 hQ V (Nat.mod_lt _ (by omega)) Y
  have hpw:2 ^ i=4294967296 ^ (i/32)*2 ^ (i%32):=by rw[←uh,Nat.div_add_mod]
  have hpk:2 ^ (i%32+1)≤4294967296:=(Nat.pow_le_pow_right (by omega) (show i%32+1≤32 by omega):2 ^ (i%32+1)≤2 ^ 32)
  have hor:To .u32 ((Q[i/32]:Nat):Int) (IntKind.wrap .u32 ((1:Int)*2 ^ (min (Int.toNat ((i%32:Nat):Int)) 32)))=((Q[i/32]+2 ^ (i%32):Nat):Int)∧Q[i/32]+2 ^ (i%32)<4294967296:=by
   obtain⟨c,hc⟩:=L
   have hpos:0<2 ^ (i%32):=Nat.pow_pos (by omega)
   have hlt:Q[i/32]+2 ^ (i%32)<4294967296:=by
    obtain⟨w,hw⟩:∃ w,4294967296=2 ^ (i%32+1)*w:=⟨2 ^ (31 - i%32),by rw[←Nat.pow_add,show i%32+1+(31 - i%32)=32 by omega]⟩
    have x1:c<w:=by rw[hc,hw] at qj;exact Nat.lt_of_mul_lt_mul_left qj
    have x2:=Nat.mul_le_mul_left (2 ^ (i%32+1)) (show c+1≤w from x1)
    rw[Nat.mul_add,←hw,←hc,Nat.mul_one,Nat.pow_succ] at x2
    omega
   refine⟨?_,hlt⟩
   rw[Int.toNat_natCast,Nat.min_eq_left (by omega),Int.one_mul,show(2:Int) ^ (i%32)=((2 ^ (i%32):Nat):Int) by simp,A5m (by rw[Nat.pow_succ] at hpk;omega),Aoy (k:=.u32) rfl qj (by show 2 ^ (i%32)<4294967296;rw[Nat.pow_succ] at hpk;omega)]
   congr 1
   have e:Q[i/32]=c*2 ^ (i%32+1):=by rw[hc,Nat.mul_comm]
   rw[e];exact tY (by rw[Nat.pow_succ];omega)
  have w1:IntKind.wrap .i64 (Int.tdiv ((i:Nat):Int) 32)=((i/32:Nat):Int):=by rw[show(32:Int)=((32:Nat):Int) by rfl,lJ,i64 (by omega)]
  have w2:IntKind.wrap .u64 (Int.tmod ((i:Nat):Int) 32)=((i%32:Nat):Int):=by rw[show(32:Int)=((32:Nat):Int) by rfl,fF,Jt (by omega)]
  have l2:(As (2*r+bt)).length≤b.length+1:=by
   apply E5
   have x1:=Bo (Ad B)
   rw[Ak,←G] at x1
   rw[Nat.pow_succ];omega
  have second:Nn N (F5 N K (Ae a) a.length t o b.length (Ae b) fuel) K (Ae a) a.length t o b.length ((i:Nat):Int) (Ae b) (Ae Q) (As (2*r+bt)).length (Ae (As (2*r+bt)))=K (As (val a/B)).length (As (val a%B)).length true (Ae (As (val a/B))) (Ae (As (val a%B))):=by
   unfold Nn
   have lb:Al b:=by rw[G];exact Ad _
   have vb:val b=B:=by rw[G,Ak]
   rw[Nat.mul_one,Nat.mul_one,List.take_of_length_le (by rw[Ca];omega),List.take_of_length_le (by rw[Ca];omega),uf rfl rfl (Ad _) lb (F.le (by omega)),Ak,vb]
   by_cases hge:B≤2*r+bt
   ·have M:val a/2 ^ i/B=2*(H/B)+1:=by
     rw[C,show B*(2*(H/B))+(2*r+bt)=B*(2*(H/B)+1)+(2*r+bt - B) by rw[Nat.mul_add];omega,Nat.mul_add_div hB,Nat.div_eq_of_lt (show 2*r+bt - B<B by omega),Nat.add_zero]
    have S:val a/2 ^ i%B=2*r+bt - B:=by
     rw[C,show B*(2*(H/B))+(2*r+bt)=B*(2*(H/B)+1)+(2*r+bt - B) by rw[Nat.mul_add];omega,Nat.mul_add_mod,Nat.mod_eq_of_lt (by omega)]
    rw[if_pos hge,ct,w1,w2,Aa (by omega),ct,pa V,show decide (((i%32:Nat):Int)<0)=false by rw[decide_eq_false_iff_not];omega,cf,ct,Aos V,ct,hor.1,d6,i64 (by omega)]
    refine ui ha G hB F i fuel (Q.set (i/32) (Q[i/32]+2 ^ (i%32))) (2*r+bt - B) (by omega) (by omega) (C4 hQ hor.2 _) (by simpa using T) S.symm ?_ K
    have x1:=qx (v:=Q[i/32]+2 ^ (i%32)) V
    rw[Nat.mul_add,←hpw] at x1
    rw[M,Nat.add_mul,Nat.one_mul,Nat.mul_comm 2,Nat.mul_assoc,Nat.mul_comm 2,←Nat.pow_succ,←I]
    omega
   ·have M:val a/2 ^ i/B=2*(H/B):=by rw[C,Nat.mul_add_div hB,Nat.div_eq_of_lt (show 2*r+bt<B by omega),Nat.add_zero]
    have S:val a/2 ^ i%B=2*r+bt:=by rw[C,Nat.mul_add_mod,Nat.mod_eq_of_lt (by omega)]
    rw[if_neg hge,cf,i64 (by omega)]
    refine ui ha G hB F i fuel Q (2*r+bt) (by omega) (by omega) hQ T S.symm ?_ K
    rw[M,Nat.mul_comm 2,Nat.mul_assoc,Nat.mul_comm 2,←Nat.pow_succ,←I]
  rw[F5];unfold Un
  rw[show(((i+1:Nat):Int) - 1)=((i:Nat):Int) by omega,show decide (((i:Nat):Int)≥0)=true by rw[decide_eq_true_eq];omega,ct,Nat.mul_one,List.take_of_length_le (by rw[Ca];omega),ue rfl rfl (Ad _) (Ad _) (F.le (by omega)),Ak,A85 rfl ha (by omega) (by omega),U]
  have l3:(As (r+r)).length≤b.length+1:=by
   apply E5
   have x1:=Bo (Ad B)
   rw[Ak,←G] at x1
   rw[Nat.pow_succ];omega
  rcases(show bt=0∨bt=1 by omega) with rfl | rfl
  ·rw[show(((0:Nat):Int)==1)=false by rfl,cf]
   rw[show 2*r+0=r+r by omega] at second
   exact second
  ·rw[show(((1:Nat):Int)==1)=true by rfl,ct,Nat.mul_one,List.take_of_length_le (by rw[Ca];omega)]
   have:=ue (R:=R) (N:=N) (a:=As (r+r)) (b:=[1]) (n:=(As (r+r)).length) (m:=1) (t:=false) (o:=true) (t':=false) (o':=true) (K:=fun af ag=>Nn N (F5 N K (Ae a) a.length t o b.length (Ae b) fuel) K (Ae a) a.length t o b.length ((i:Nat):Int) (Ae b) (Ae Q) af ag) rfl rfl (Ad _) (by intro x hx;simp at hx;omega) (F.le (by simp;omega))
   rw[Ak,show val [1]=1 by rfl,show r+r+1=2*r+1 by omega] at this
   exact this.trans second
end
end Gx

namespace Gx
open Go Go.Proofs
section
variable {R:Type}
theorem VQ {N:Nat} {a b:List Nat} {n m:Nat} {t o t' o':Bool} {K:Nat→Nat→Bool→LA→LA→O R} (hn:n=a.length) (U:m=b.length) (I:Al a) (S:Al b) (F:val b≠0) (D:fit (a.length+2*b.length+4) N) :
  S8 N (Ae a) n t o (Ae b) m t' o' K=K (As (val a/val b)).length (As (val a%val b)).length true (Ae (As (val a/val b))) (Ae (As (val a%val b))):=by
 have V:=D.1;have Y:=D.2
 have lb:=(Bx S).2
 have L:(As (val b)).length≠0:=fun h=>F (Bz.1 h)
 rw[c8];unfold JI
 dsimp only
 have long:Re N K (Ae a) n t o (As (val b)).length (Ae (As (val b)))=K (As (val a/val b)).length (As (val a%val b)).length true (Ae (As (val a/val b))) (Ae (As (val a%val b))):=by
  obtain⟨nb,n1,n2,n3,n4,n5⟩:=A3j (R:=R) (N:=N) (a:=a) (n:=n) (t:=false) (o:=o) hn I (D.le (by omega))
  unfold Re FH
  dsimp only
  rw[n5,hn,A92 (by omega),ct,Dq,i64 (by omega)]
  have T:val a/2 ^ nb=0:=Nat.div_eq_of_lt n2
  have:=ui (R:=R) (N:=N) (a:=a) (b:=As (val b)) (t:=t) (o:=o) (B:=val b) I rfl (by omega) (D.le (by omega)) nb N (List.replicate a.length 0) 0 (by omega) n1 (C2 _) (by simp) (by rw[T];simp) (by rw[T,Ez];simp) K
  exact this
 rw[Eb U S (D.le (by omega)),And L,cf,VP hn I (D.le (by omega)),Nat.mul_one,List.take_of_length_le (by rw[Ca];exact Nat.le_refl _)]
 by_cases C:val a<18446744073709551616
 ·rw[if_pos C,VP rfl (Ad _) (D.le (by omega)),Ak]
  by_cases k:val b<18446744073709551616
  ·have G:val a/val b<18446744073709551616:=Nat.lt_of_le_of_lt (Nat.div_le_self _ _) C
   have M:val a%val b<18446744073709551616:=Nat.lt_of_le_of_lt (Nat.mod_le _ _) C
   rw[if_pos k,show((true:Bool)==true)=true by rfl,ct,Ax7,ct,And F,cf,lJ,Jt G,LJ G (by omega),cf,fF,LJ M (by omega)]
  ·rw[if_neg k,show((true:Bool)==true)=true by rfl,ct,Ax7,cf,long]
 ·rw[if_neg C,VP rfl (Ad _) (D.le (by omega)),Ak]
  by_cases k:val b<18446744073709551616
  ·rw[if_pos k,show((false:Bool)==true)=false by rfl,cf,long]
  ·rw[if_neg k,show((false:Bool)==true)=false by rfl,cf,long]
theorem A86 {N:Nat}:∀ (k fuel A B:Nat),k<fuel→A*B<2 ^ k→B<A→fit (3*(As A).length+4) N→∀ K:Nat→LA→O R,E6 N K fuel (As A).length (As B).length (Ae (As A)) (Ae (As B))=K (As (Nat.gcd A B)).length (Ae (As (Nat.gcd A B))):=by
 have base:∀ (fuel A:Nat) (K:Nat→LA→O R),E6 N K (fuel+1) (As A).length (As 0).length (Ae (As A)) (Ae (As 0))=K (As (Nat.gcd A 0)).length (Ae (As (Nat.gcd A 0))):=by
  intro fuel A K
  rw[E6];unfold Tq
  rw[Eu,show decide ((((([]:List Nat).length:Nat)):Int)>0)=false by decide,cf,Nat.gcd_zero_right]
 intro k
 induction k with
 | zero =>
  intro fuel A B I C D G K
  obtain⟨fuel,rfl⟩:∃ F,fuel=F+1:=⟨fuel - 1,by omega⟩
  have L:B=0:=by
   rcases Nat.eq_zero_or_pos B with h | h
   ·exact h
   ·have h3:=Nat.mul_le_mul_left A (show 1≤B by omega)
    rw[Nat.pow_zero] at C;omega
  subst L
  exact base fuel A K
 | succ k M =>
  intro fuel A B I C D G K
  have h1:=G.1;have h2:=G.2
  obtain⟨fuel,rfl⟩:∃ F,fuel=F+1:=⟨fuel - 1,by omega⟩
  rcases Nat.eq_zero_or_pos B with h | h
  ·subst h;exact base fuel A K
  have S:=Cd (Nat.le_of_lt D)
  have T:(As B).length≠0:=fun U=>by have:=Bz.1 U;omega
  have V:=Nat.mod_lt A h
  have hh:=fI (show 1≤B by omega) (Nat.le_of_lt D)
  have:=M fuel B (A%B) (by omega) (by rw[Nat.pow_succ] at C;omega) V (G.le (by omega)) K
  have Y:Nat.gcd B (A%B)=Nat.gcd A B:=by rw[Nat.gcd_comm,←Nat.gcd_rec,Nat.gcd_comm]
  rw[Y] at this
  rw[E6];unfold Tq
  rw[show decide ((((As B).length:Nat):Int)>0)=true by rw[decide_eq_true_eq];omega,ct,Nat.mul_one,Nat.mul_one,List.take_of_length_le (by rw[Ca];exact Nat.le_refl _),List.take_of_length_le (by rw[Ca];exact Nat.le_refl _),VQ rfl rfl (Ad _) (Ad _) (by rw[Ak];omega) (G.le (by omega)),Ak,Ak]
  exact this
theorem A87 {N:Nat} {a b:List Nat} {n m:Nat} {t o t' o':Bool} {K:Nat→LA→O R} (hn:n=a.length) (M:m=b.length) (D:Al a) (G:Al b) (C:fit (3*(a.length+b.length)+4) N) :
  gv N (Ae a) n t o (Ae b) m t' o' K=K (As (Nat.gcd (val a) (val b))).length (Ae (As (Nat.gcd (val a) (val b)))):=by
 have V:=C.1;have Y:=C.2
 have la:=(Bx D).2
 have lb:=(Bx G).2
 have I:val a*val b<2 ^ (32*(a.length+b.length)):=by rw[←Ayx];exact Nat.mul_lt_mul'' (Bo D) (Bo G)
 rw[wy];unfold pG
 dsimp only
 rw[Eb hn D (C.le (by omega)),Eb M G (C.le (by omega))]
 obtain⟨F,hF⟩:∃ F,N=F+1:=⟨N - 1,by omega⟩
 rcases Nat.eq_zero_or_pos (val b) with h | h
 ·rw[h,Eu,Nat.gcd_zero_right,hF,E6];unfold Tq
  rw[show decide ((((([]:List Nat).length:Nat)):Int)>0)=false by decide,cf]
 ·have L:=Nat.mod_lt (val a) h
  have S:(As (val b)).length≠0:=fun T=>by have:=Bz.1 T;omega
  have k:val b*(val a%val b)<2 ^ (32*(a.length+b.length)):=by
   have:val b*(val a%val b)≤val b*val a:=Nat.mul_le_mul_left _ (Nat.mod_le _ _)
   rw[Nat.mul_comm (val b) (val a)] at this;omega
  have:=A86 (R:=R) (N:=N) (32*(a.length+b.length)) F (val b) (val a%val b) (by omega) k L (C.le (by omega)) K
  have U:Nat.gcd (val b) (val a%val b)=Nat.gcd (val a) (val b):=by rw[Nat.gcd_comm,←Nat.gcd_rec,Nat.gcd_comm]
  rw[U] at this
  have e:E6 N K (F+1) (As (val a)).length (As (val b)).length (Ae (As (val a))) (Ae (As (val b)))=E6 N K F (As (val b)).length (As (val a%val b)).length (Ae (As (val b))) (Ae (As (val a%val b))):=by
   rw[E6];unfold Tq
   rw[show decide ((((As (val b)).length:Nat):Int)>0)=true by rw[decide_eq_true_eq];omega,ct,Nat.mul_one,Nat.mul_one,List.take_of_length_le (by rw[Ca];exact Nat.le_refl _),List.take_of_length_le (by rw[Ca];exact Nat.le_refl _),VQ rfl rfl (Ad _) (Ad _) (by rw[Ak];omega) (C.le (by omega)),Ak,Ak]
  conv=>lhs;rw[show(E6 N K N)=E6 N K (F+1) by rw[←hF]]
  rw[e];exact this
end
end Gx

namespace Gx
open Go Go.Proofs
section
variable {R:Type}
inductive LS where
 | nil
 | of (l:List Nat) (t o:Bool)
def LS.l:LS→List Nat
 | .nil=>[]
 | .of l _ _=>l
def LS.av:LS→AV
 | .nil=>.nsl
 | .of l t o=>.imm (Ae l) l.length 1 t o
theorem Aiu {s:LS} {r:LA} {f:LA→Nat→O R}:Co 1 (s.av::r) f=f (Ae s.l) s.l.length:=by
 cases s<;>simp[Co,LS.av,LS.l,A6r,Ae]
theorem Beg {b:Bool} {r:LA} {f:Bool→O R}:ON (.bool b::r) f=f b:=by simp[ON,asBool]
def Lg (neg:Bool) (s:LS):LA:=[.bool neg,s.av]
def A2 (neg:Bool) (s:LS):Int:=if neg then -(val s.l:Int) else (val s.l:Int)
theorem C6 (neg:Bool) (s:LS):(A2 neg s).natAbs=val s.l:=by unfold A2;cases neg<;>simp
theorem U9 {neg:Bool} {s:LS} {f:Bool→O R}:ON (Lg neg s) f=f neg:=Beg
theorem Qz {neg:Bool} {s:LS} {f:LA→Nat→O R}:Co 1 (List.drop 1 (Lg neg s)) f=f (Ae s.l) s.l.length:=by rw[Lg,List.drop_succ_cons,List.drop_zero,Aiu]
theorem O8 {N:Nat} {c:Bool} {a:Nat} {b:LA} {K:Bool→O R}:Kq N c a b K=K (c&&decide (0<a)):=by
 rw[j9];unfold mb
 cases c<;>simp
theorem EK {z:Int} {c:Bool} {m:Nat} (h:z=if c then -(m:Int) else (m:Int)):(c&&decide (0<(As m).length))=decide (z<0)∧z.natAbs=m:=by
 have D:z.natAbs=m:=by rw[h];cases c<;>simp
 refine⟨?_,D⟩
 by_cases C:m=0
 ·subst C;rw[h,Eu];cases c<;>simp
 ·have:0<(As m).length:=by
   rcases Nat.eq_zero_or_pos (As m).length with k | k
   ·exact absurd (Bz.1 k) C
   ·exact k
  rw[h];cases c<;>simp[this]<;>omega
theorem Anf {N:Nat} {v:Int} (G:-9223372036854775808≤v∧v≤9223372036854775807) (hN:4≤N):∃ S,Al S∧val S=v.natAbs∧∀ K:Bool→Nat→LA→O R,FK N v K=K (decide (v<0)) (As v.natAbs).length (Ae S):=by
 have D:v.natAbs<18446744073709551616:=by omega
 obtain⟨S,s1,s2,C⟩:=L8 (R:=R) (N:=N) D hN
 refine⟨S,s1,s2,fun K=>?_⟩
 rw[dI];unfold dH
 by_cases h:v<0
 ·have e:IntKind.wrap .u64 ((0:Int) - IntKind.wrap .u64 v)=(v.natAbs:Int):=by rw[mY,mY];omega
  rw[decide_eq_true h,ct,e,C,O8]
  have F:v.natAbs≠0:=by omega
  have:0<(As v.natAbs).length:=by
   rcases Nat.eq_zero_or_pos (As v.natAbs).length with k | k
   ·exact absurd (Bz.1 k) F
   ·exact k
  simp[this]
 ·have e:IntKind.wrap .u64 v=(v.natAbs:Int):=by rw[mY];omega
  rw[decide_eq_false h,cf,e,C,O8];rfl
theorem n0 {N:Nat} {neg:Bool} {s:LS} {o:Bool} {K:Int→O R} (hs:Al s.l) (k:fit s.l.length N):UC N (Lg neg s) o K=K (A2 neg s).sign:=by
 rw[xO];unfold Ae2
 rw[Qz,Ain rfl hs k]
 unfold A2
 by_cases h:val s.l=0
 ·rw[h,EI,show((0:Int)==0)=true by rfl,ct];cases neg<;>rfl
 ·have:Ir (val s.l) 0=1:=by unfold Ir;rw[if_neg (by omega),if_pos (by omega)]
  rw[this,show((1:Int)==0)=false by rfl,cf,U9]
  cases neg
  ·rw[cf];simp only[Bool.false_eq_true,if_false]
   congr 1
   rw[Int.sign_eq_one_of_pos];omega
  ·rw[ct];simp only[if_true]
   congr 1
   rw[Int.sign_eq_neg_one_of_neg];omega
theorem QJ {N:Nat} {n1 n2:Bool} {s1 s2:LS} {o1 o2:Bool} (C:Al s1.l) (D:Al s2.l) (F:fit (s1.l.length+s2.l.length) N):∃ S,Al S∧val S=(A2 n1 s1*A2 n2 s2).natAbs∧∀ K:Bool→Nat→LA→O R,UH N (Lg n1 s1) o1 (Lg n2 s2) o2 K=K (decide (A2 n1 s1*A2 n2 s2<0)) (As (A2 n1 s1*A2 n2 s2).natAbs).length (Ae S):=by
 obtain⟨S,a1,a2,a3⟩:=fE (R:=R) (N:=N) (a:=s1.l) (b:=s2.l) (t:=false) (o:=o1) (t':=false) (o':=o2) rfl rfl C D F
 have G:A2 n1 s1*A2 n2 s2=if (!(n1==n2)) then -((val s1.l*val s2.l:Nat):Int) else ((val s1.l*val s2.l:Nat):Int):=by
  unfold A2;cases n1<;>cases n2<;>simp[Int.mul_neg,Int.neg_mul]
 obtain⟨c1,k⟩:=EK G
 refine⟨S,a1,by rw[a2,k],fun K=>?_⟩
 rw[Afi];unfold Atc
 rw[U9,U9,Qz,Qz,a3,O8,c1,k]
theorem Aqv {N:Nat} {n1 n2:Bool} {s1 s2:LS} {o1 o2:Bool} (F:Al s1.l) (G:Al s2.l) (I:fit (s1.l.length+s2.l.length+1) N):∃ S,Al S∧val S=(A2 n1 s1+A2 n2 s2).natAbs∧∀ K:Bool→Nat→LA→O R,uQ N (Lg n1 s1) o1 (Lg n2 s2) o2 K=K (decide (A2 n1 s1+A2 n2 s2<0)) (As (A2 n1 s1+A2 n2 s2).natAbs).length (Ae S):=by
 by_cases hn:n1=n2
 ·subst hn
  obtain⟨S,a1,a2,a3⟩:=Bau (R:=R) (N:=N) (a:=s1.l) (b:=s2.l) (t:=false) (o:=o1) (t':=false) (o':=o2) rfl rfl F G I
  have C:A2 n1 s1+A2 n1 s2=if n1 then -((val s1.l+val s2.l:Nat):Int) else ((val s1.l+val s2.l:Nat):Int):=by
   unfold A2;cases n1<;>simp;omega
  obtain⟨c1,k⟩:=EK C
  refine⟨S,a1,by rw[a2,k],fun K=>?_⟩
  rw[US];unfold qL
  rw[U9,U9,show(n1==n1)=true by simp,ct,U9,Qz,Qz,a3,O8,c1,k]
 ·have D:(n1==n2)=false:=by simp[hn]
  by_cases L:val s2.l≤val s1.l
  ·obtain⟨S,a1,a2,a3⟩:=Aiq (R:=R) (N:=N) (a:=s1.l) (b:=s2.l) (t:=false) (o:=o1) (t':=false) (o':=o2) rfl rfl F G (I.le (by omega)) L
   have C:A2 n1 s1+A2 n2 s2=if n1 then -((val s1.l - val s2.l:Nat):Int) else ((val s1.l - val s2.l:Nat):Int):=by
    unfold A2;cases n1<;>cases n2<;>simp at hn ⊢<;>omega
   obtain⟨c1,k⟩:=EK C
   refine⟨S,a1,by rw[a2,k],fun K=>?_⟩
   rw[US];unfold qL
   rw[U9,U9,D,cf,Qz,Qz,a3,ct,U9,O8,c1,k]
  ·obtain⟨S,a1,a2,a3⟩:=Aiq (R:=R) (N:=N) (a:=s2.l) (b:=s1.l) (t:=false) (o:=o2) (t':=false) (o':=o1) rfl rfl G F (I.le (by omega)) (by omega)
   have C:A2 n1 s1+A2 n2 s2=if n2 then -((val s2.l - val s1.l:Nat):Int) else ((val s2.l - val s1.l:Nat):Int):=by
    unfold A2;cases n1<;>cases n2<;>simp at hn ⊢<;>omega
   obtain⟨c1,k⟩:=EK C
   refine⟨S,a1,by rw[a2,k],fun K=>?_⟩
   rw[US];unfold qL
   rw[U9,U9,D,cf,Qz,Qz,Bav rfl rfl F G (I.le (by omega)) (by omega),cf,Qz,Qz,a3,U9,O8,c1,k]
theorem A3k {N:Nat} {n1:Bool} {s1:LS} {o1:Bool} {K:Bool→Nat→LA→O R} (k:Al s1.l) (C:fit s1.l.length N):pk N (Lg n1 s1) o1 K=K (decide (A2 n1 s1<0)) (As (A2 n1 s1).natAbs).length (Ae (As (A2 n1 s1).natAbs)):=by
 obtain⟨c1,D⟩:=EK (z:=A2 n1 s1) (c:=n1) (m:=val s1.l) (by unfold A2;cases n1<;>simp)
 rw[xj];unfold Afz
 rw[U9,Qz,iN rfl k C,O8,c1,D]
def rC (x y:Int):Int:=if x<y then -1 else if y<x then 1 else 0
theorem Ba8 (x y:Nat):rC (x:Int) (y:Int)=Ir x y:=by unfold rC Ir;simp
theorem Ba9 (x y:Nat):rC (-(x:Int)) (-(y:Int))=Ir y x:=by
 unfold rC Ir
 by_cases h:y<x
 ·rw[if_pos (by omega),if_pos h]
 ·rw[if_neg (by omega),if_neg h]
  by_cases k:x<y
  ·rw[if_pos (by omega),if_pos k]
  ·rw[if_neg (by omega),if_neg k]
theorem Ang {N:Nat} {n1 n2:Bool} {s1 s2:LS} {o1 o2:Bool} {K:Int→O R} (D:Al s1.l) (F:Al s2.l) (C:fit (s1.l.length+s2.l.length) N):FX N (Lg n1 s1) o1 (Lg n2 s2) o2 K=K (rC (A2 n1 s1) (A2 n2 s2)):=by
 rw[dS];unfold dR
 have l2:∀ n s,List.take 2 (Lg n s)=Lg n s:=fun n s=>rfl
 have l3:∀ n s,Nat.ble 2 (List.length (Lg n s))=true:=fun n s=>rfl
 rw[l2,l2,l3,l3,ct,n0 D (C.le (by omega)),ct,n0 F (C.le (by omega))]
 have sg:∀ z:Int,z.sign=if z<0 then -1 else if 0<z then 1 else 0:=by
  intro z
  rcases Int.lt_trichotomy z 0 with h | h | h
  ·rw[Int.sign_eq_neg_one_of_neg h,if_pos h]
  ·subst h;rfl
  ·rw[Int.sign_eq_one_of_pos h,if_neg (by omega),if_pos h]
 by_cases c1:(A2 n1 s1).sign<(A2 n2 s2).sign
 ·rw[decide_eq_true c1,ct]
  rw[sg,sg] at c1
  unfold rC;rw[if_pos]
  split at c1<;>split at c1<;>(try split at c1)<;>(try split at c1)<;>omega
 ·rw[decide_eq_false c1,cf]
  by_cases k:(A2 n1 s1).sign>(A2 n2 s2).sign
  ·rw[decide_eq_true k,ct]
   rw[sg,sg] at k
   unfold rC;rw[if_neg,if_pos]
   ·split at k<;>split at k<;>(try split at k)<;>(try split at k)<;>omega
   ·split at k<;>split at k<;>(try split at k)<;>(try split at k)<;>omega
  ·rw[decide_eq_false k,cf]
   have I:(A2 n1 s1).sign=(A2 n2 s2).sign:=by omega
   by_cases c3:(A2 n1 s1).sign<0
   ·rw[decide_eq_true c3,ct,Qz,Qz,T2 rfl rfl F D (C.le (by omega))]
    have p1:A2 n1 s1<0:=by rw[sg] at c3;split at c3;assumption;split at c3<;>omega
    have p2:A2 n2 s2<0:=by rw[I,sg] at c3;split at c3;assumption;split at c3<;>omega
    have e1:A2 n1 s1=-(val s1.l:Int):=by unfold A2 at p1 ⊢;cases n1<;>simp at p1 ⊢;omega
    have G:A2 n2 s2=-(val s2.l:Int):=by unfold A2 at p2 ⊢;cases n2<;>simp at p2 ⊢;omega
    rw[e1,G,Ba9]
   ·rw[decide_eq_false c3,cf,Qz,Qz,T2 rfl rfl D F (C.le (by omega))]
    have p1:0≤A2 n1 s1:=by
     apply Int.not_lt.1;intro h;rw[Int.sign_eq_neg_one_of_neg h] at c3;omega
    have p2:0≤A2 n2 s2:=by
     apply Int.not_lt.1;intro h;rw[I,Int.sign_eq_neg_one_of_neg h] at c3;omega
    have e1:A2 n1 s1=(val s1.l:Int):=by have:=C6 n1 s1;omega
    have G:A2 n2 s2=(val s2.l:Int):=by have:=C6 n2 s2;omega
    rw[e1,G,Ba8]
end
end Gx
