/- A part of the proof: what it holds is said by each theorem. -/
import Derived.Test.YtlkhmflligkbkaaGreatP1
set_option linter.unusedVariables false
set_option linter.defProp false
set_option linter.unusedSimpArgs false
namespace Gx
open Go Go.Proofs
open IntKind (wrap)
set_option maxRecDepth 100000
noncomputable section
variable {R:Type} (N:Nat)
def XU (k1:LA→Nat→Bool→LA→Nat→Bool→O R) (r0:Nat→LA→O R) (k2:Int→Int→O R) (l i:Int):O R :=
 (cond (i != 0) (cond (i==0) none (k2 i (Int.tmod l i))) (Ck N l (fun al am=>(r0 al am))))
def Uy (k1:LA→Nat→Bool→LA→Nat→Bool→O R) (r0:Nat→LA→O R):Nat→Int→Int→O R
 | 0,_,_=>none
 | n+1,l,i=>(XU N k1 r0 (Uy k1 r0 n) l i)
def IW (r0:Nat→LA→O R) (k1:LA→Nat→Bool→LA→Nat→Bool→O R) (q2:Int→Int→O R) (d:LA) (b:Nat) (e:Bool) (f:LA) (c:Nat) (g:Bool):O R :=
 (cond (decide (((c:Nat):Int)>0)) (cond (decide (((b:Nat):Int)≤2)) (Tj N d b false e (fun an=>(Tj N f c false g (fun ao=>(q2 an ao))))) (Yb N d b false e f c false g (fun ab=>(cond ((Nat.beq (ab.length) 5)&&((Nat.ble 5 5)&&(!false))) (Ao .u64 ((setCells [(.int .u64 0),(.int .u64 0),(.int .u64 0),(.int .u64 0),(.bool false)] 0 ab).drop 2) fun ap=>(cond (ap==0) (F0 N d b false e f c false g (fun bl ag bm bn aq=>(k1 f c g (aq.take (ag*1)) ag false))) (RW ((setCells [(.int .u64 0),(.int .u64 0),(.int .u64 0),(.int .u64 0),(.bool false)] 0 ab).drop 4) fun ar=>(cond ar (Ao .u64 (setCells [(.int .u64 0),(.int .u64 0),(.int .u64 0),(.int .u64 0),(.bool false)] 0 ab) fun au=>(Ao .u64 ((setCells [(.int .u64 0),(.int .u64 0),(.int .u64 0),(.int .u64 0),(.bool false)] 0 ab).drop 2) fun av=>(G3 N d b false e au f c false g av (fun ah aw=>(Ao .u64 ((setCells [(.int .u64 0),(.int .u64 0),(.int .u64 0),(.int .u64 0),(.bool false)] 0 ab).drop 3) fun ax=>(Ao .u64 ((setCells [(.int .u64 0),(.int .u64 0),(.int .u64 0),(.int .u64 0),(.bool false)] 0 ab).drop 1) fun ay=>(G3 N f c false g ax d b false e ay (fun ai az=>(k1 (aw.take (ah*1)) ah false (az.take (ai*1)) ai false))))))))) (Ao .u64 ((setCells [(.int .u64 0),(.int .u64 0),(.int .u64 0),(.int .u64 0),(.bool false)] 0 ab).drop 2) fun ba=>(Ao .u64 (setCells [(.int .u64 0),(.int .u64 0),(.int .u64 0),(.int .u64 0),(.bool false)] 0 ab) fun bb=>(G3 N f c false g ba d b false e bb (fun aj bc=>(Ao .u64 ((setCells [(.int .u64 0),(.int .u64 0),(.int .u64 0),(.int .u64 0),(.bool false)] 0 ab).drop 1) fun bd=>(Ao .u64 ((setCells [(.int .u64 0),(.int .u64 0),(.int .u64 0),(.int .u64 0),(.bool false)] 0 ab).drop 3) fun be=>(G3 N d b false e bd f c false g be (fun ak bf=>(k1 (bc.take (aj*1)) aj false (bf.take (ak*1)) ak false))))))))))))) none)))) (FC N d b false e (fun bg bh=>(r0 bg bh))))
def F1 (r0:Nat→LA→O R):Nat→LA→Nat→Bool→LA→Nat→Bool→O R
 | 0,_,_,_,_,_,_=>none
 | n+1,d,b,e,f,c,g=>(IW N r0 (F1 r0 n) (fun l i=>(Uy N (F1 r0 n) r0 N l i)) d b e f c g)
def qn (N:Nat) (r0:Nat→LA→O R) (q1:LA→Nat→Bool→LA→Nat→Bool→O R) (m:LA) (o:Nat) (p:Bool) (q:LA) (r:Nat) (s:Bool):O R :=
 (q1 m o p q r s)
def kq (r0:Nat→LA→O R) (m:LA) (o:Nat) (p:Bool) (q:LA) (r:Nat) (s:Bool):O R:=(qn N r0 (fun d b e f c g=>(F1 N r0 N d b e f c g)) m o p q r s)
def Ahr (r0:Nat→LA→O R) (q0:LA→Nat→Bool→LA→Nat→Bool→O R) (v:LA) (w:Nat) (x t:Bool) (y:LA) (z:Nat) (aa u:Bool):O R :=
 (Cv N v w x t (fun ac ad=>(Cv N y z aa u (fun ae af=>(Er N ac ad false t ae af false u (fun bi=>(cond (decide (bi<0)) (q0 ae af u ac ad t) (q0 ac ad t ae af u))))))))
def gY:=(Ae (fun (N:Nat) (v:LA) (w:Nat) (x t:Bool) (y:LA) (z:Nat) (aa u:Bool) (r0:Nat→LA→O R)=>(Ahr N r0 (fun m o p q r s=>(kq N r0 m o p q r s)) v w x t y z aa u))).1
theorem Alp (v w x t y z aa u r0):(@gY R N v w x t y z aa u r0)=(Ahr N r0 (fun m o p q r s=>(kq N r0 m o p q r s)) v w x t y z aa u):=by rw[gY,(Ae _).2]
def Av5:Hints:={ H:=(hS hL (hS hL (hJ [0,1] hL (hS (hS (hP [0,1] (hS hL (hS (hS (hS hL (hS (hS hL (hS (hS (hP [5,6] hL) hL) hL)) hL)) hL) hL))) hL) hL)))),nils:=[(0,1000001),(1,1000001)],modes:=[(2,1)] }
def A5c:Dg:=[(171,Vt N),(132,K4 N),(181,qM N),(195,Ast N),(175,tU N),(196,As1 N),(173,XR N),(149,Hq N)]
def yF (F:KF R):=Hp Tryz.f174 Av5 (A5c N) [] N F
def Oc (F:KF R):Nat→LA→O R:=(fun bj bk=>F (.own 300000 0 bj) (hq [(bQ 1 bk)]))
def Bei (l i:Int):St:=⟨[(5,(.int .u64 l)),(6,(.int .u64 i))],[]⟩
def Bej (F:KF R) (Q1:St→O R):=yF N F [1,1,1,0,0,0,1,0,0,1,0,1,0,0] [Q1]
def yG (d:LA) (b:Nat) (e:Bool) (f:LA) (c:Nat) (g:Bool):St:=⟨[(0,(.imm d b 1 false e)),(1,(.imm f c 1 false g))],[]⟩
def Av6 (F:KF R):=yF N F [1,1,1,0,0] []
def Bek (m:LA) (o:Nat) (p:Bool) (q:LA) (r:Nat) (s:Bool):St:=⟨[(0,(.imm m o 1 false p)),(1,(.imm q r 1 false s))],[]⟩
def Bel (F:KF R):=yF N F [1,1,1] []
theorem tY (Q1:St→O R) (F:KF R):∀ (n:Nat) (l i:Int),Ap (Bej N F Q1) n (Bei l i)=(Uy N (fun d b e f c g=>Q1 (yG d b e f c g)) (Oc F) n l i)
 | 0,_,_=>by kernel_rfl
 | n+1,l,i=>Eq.trans (by kernel_rfl) (Bm (XU N (fun d b e f c g=>Q1 (yG d b e f c g)) (Oc F) · l i) (funext fun l=>funext fun i=>(tY Q1 F n l i)):_)
theorem tZ (F:KF R):∀ (n:Nat) (d:LA) (b:Nat) (e:Bool) (f:LA) (c:Nat) (g:Bool),Ap (Av6 N F) n (yG d b e f c g)=(F1 N (Oc F) n d b e f c g)
 | 0,_,_,_,_,_,_=>by kernel_rfl
 | n+1,d,b,e,f,c,g=>have e0:=(funext fun d=>funext fun b=>funext fun e=>funext fun f=>funext fun c=>funext fun g=>(tZ F n d b e f c g))
  Eq.trans (by kernel_rfl) (fQ (IW N (Oc F) · · d b e f c g) e0 (funext fun l=>funext fun i=>(Ai ..).trans ((tY N (Ap (Av6 N F) n) F N l i).trans (Bm (Uy N · (Oc F) N l i) e0))):_)
theorem Az4 (F:KF R):∀ (m:LA) (o:Nat) (p:Bool) (q:LA) (r:Nat) (s:Bool),A9 (Bel N F) (Bek m o p q r s)=(kq N (Oc F) m o p q r s):=by
 intro m o p q r s
 exact Eq.trans (by kernel_rfl) (Bm (qn N (Oc F) · m o p q r s) (funext fun d=>funext fun b=>funext fun e=>funext fun f=>funext fun c=>funext fun g=>(Ai ..).trans (tZ N F N d b e f c g)):_)
theorem Av7 (v:LA) (w:Nat) (x t:Bool) (y:LA) (z:Nat) (aa u:Bool) (F:KF R):Cd (A5c N) Av5 N 174 [(.imm v w 1 x t),(.imm y z 1 aa u)] [] F=(gY N v w x t y z aa u (Oc F)):=by
 rw[Alp]
 exact Eq.trans (by kernel_rfl) (Bm (Ahr N (Oc F) · v w x t y z aa u) (funext fun m=>funext fun o=>funext fun p=>funext fun q=>funext fun r=>funext fun s=>(Aq ..).trans (Az4 N F m o p q r s)):_)
def Alq (a:LA) (h:Ak) (k:KF R):O R :=
 match a,h with
 | [(.imm v w 1 x t),(.imm y z 1 aa u)],[]=>(gY N v w x t y z aa u (Oc k))
 | _,_=>none
theorem Av8:An N 174 @Alq:=by
 intro R Q a h k j;unfold Alq;split;exact Ax (Av7 ..) (Av7 ..) ⟨Vu N,K5 N,qN N,Asu N,tV N,As2 N,XS N,Hr N,trivial⟩;exact Az
def Bem:=Ay (Av8 N)
def Ben:=Ca (Av8 N)
def qo (d:LA) (f:Bool) (g:LA) (i:Nat) (m l:Bool) (r0:LA→O R):O R :=
 (RW d fun v=>(B9 1 (d.drop 1) fun w x=>(cond (Nat.beq (d.length) 2) (tM N [(.bool v),(.imm w x 1 false f)] (f||false) (fun q c o=>(FC N g i false l (fun e p=>(cond (((c:Nat):Int)==0) (r0 [(.bool false),.nsl,(.imm [(.int .u32 1)] 1 1 false false)]) (gY N (o.take (c*1)) c false true (p.take (e*1)) e false true (fun b n=>(cond ((((b:Nat):Int) != 1)==false) (cond (Ac 0 b) (Ao .u32 n fun y=>(cond (cond false true (y != 1)) (F0 N (o.take (c*1)) c false true (n.take (b*1)) b false true (fun r ae af z ag=>(F0 N (p.take (e*1)) e false true (n.take (b*1)) b false true (fun s ah ai aa aj=>(r0 [(.bool q),(.imm (z.take (r*1)) r 1 false false),(.imm (aa.take (s*1)) s 1 false false)]))))) (r0 [(.bool q),(.imm (o.take (c*1)) c 1 false false),(.imm (p.take (e*1)) e 1 false false)]))) none) (F0 N (o.take (c*1)) c false true (n.take (b*1)) b false true (fun t ak al ab am=>(F0 N (p.take (e*1)) e false true (n.take (b*1)) b false true (fun u an ao ac ap=>(r0 [(.bool q),(.imm (ab.take (t*1)) t 1 false false),(.imm (ac.take (u*1)) u 1 false false)]))))))))))))) none)))
def Q5:=(Ae (@qo R)).1
theorem ni:@Q5 R=@qo R:=(Ae _).2
def Az5:Hints:={ H:=hL,modes:=[(3,0)],cob:=[2] }
def A5d:Dg:=[(172,A9i N),(173,XR N),(174,Bem N),(175,tU N)]
def t4 (F:KF R):LA→O R:=(fun ad=>F (.pagg ad false) [])
theorem t5 (d:LA) (f:Bool) (g:LA) (i:Nat) (m l:Bool) (F:KF R):Cd (A5d N) Az5 N 133 [(.pagg d f),(.imm g i 1 m l)] [] F=(Q5 N d f g i m l (t4 F)):=by
 rw[ni]
 kernel_rfl
def nk (a:LA) (h:Ak) (k:KF R):O R :=
 match a,h with
 | [(.pagg d f),(.imm g i 1 m l)],[]=>(Q5 N d f g i m l (t4 k))
 | _,_=>none
theorem t6:An N 133 @nk:=by
 intro R Q a h k j;unfold nk;split;exact Ax (t5 ..) (t5 ..) ⟨A9j N,XS N,Ben N,tV N,trivial⟩;exact Az
def XV:=Ay (t6 N)
def XW:=Ca (t6 N)
def t7 (b:LA) (c:Bool) (r0:LA→O R):O R :=
 (cond (Nat.ble 3 (b.length)) (Hb N (b.take 3) c (fun f g i=>(cond i (Jj N f g (fun d=>(cond ((Nat.beq 0 0)&&((Nat.beq (d.length) 3)&&(Nat.beq 3 3))) (cond (Nat.ble 3 (d.length)) (r0 (d.take 3)) none) none))) (cond (Nat.ble 3 (b.length)) (Nq N (b.take 3) c (fun l m n o p=>(Q5 N l m n o false p (fun e=>(cond ((Nat.beq 0 0)&&((Nat.beq (e.length) 3)&&(Nat.beq 3 3))) (cond (Nat.ble 3 (e.length)) (r0 (e.take 3)) none) none))))) none)))) none)
def NL:=(Ae (@t7 R)).1
theorem gZ:@NL R=@t7 R:=(Ae _).2
def Beo:Dg:=[(99,MU N),(131,IF N),(101,AI N),(133,XV N)]
def Alr (F:KF R):LA→O R:=(fun q=>F (.pagg q false) [])
theorem Als (b:LA) (c:Bool) (F:KF R):Cd (Beo N) Lu N 130 [(.pagg b c)] [] F=(NL N b c (Alr F)):=by
 rw[gZ]
 kernel_rfl
def Abp (a:LA) (h:Ak) (k:KF R):O R :=
 match a,h with
 | [(.pagg b c)],[]=>(NL N b c (Alr k))
 | _,_=>none
theorem Alt:An N 130 @Abp:=by
 intro R Q a h k j;unfold Abp;split;exact Ax (Als ..) (Als ..) ⟨MV N,IG N,AJ N,XW N,trivial⟩;exact Az
def Alu:=Ay (Alt N)
def Alv:=Ca (Alt N)
def IX (r0:Nat→LA→O R) (c:LA) (b:Nat) (e:Bool) (f:LA) (d:Nat) (i:Bool) (k1:Nat→Int→Int→Int→LA→O R) (m:Nat) (o p g:Int) (l:LA):O R :=
 (cond (decide (g<p)) (cond (Ac g b) (Ao .u32 (c.drop ((g.toNat)*1)) fun y=>(cond (decide (g<((d:Nat):Int))) (cond (Ac g d) (Ao .u32 (f.drop ((g.toNat)*1)) fun ab=>(cond (Ac g m) (cond ((Nat.beq 1 1)&&((Nat.ble ((0+((g.toNat)*1))+1) (l.length))&&(!false))) (k1 m (Int.fdiv (wrap .u64 ((wrap .u64 (o+(wrap .u64 y)))+(wrap .u64 ab))) (2 ^ 32)) p (wrap .i64 (g+1)) (l.set (0+((g.toNat)*1)) (.int .u32 (wrap .u32 (wrap .u64 ((wrap .u64 (o+(wrap .u64 y)))+(wrap .u64 ab))))))) none) none)) none) (cond (Ac g m) (cond ((Nat.beq 1 1)&&((Nat.ble ((0+((g.toNat)*1))+1) (l.length))&&(!false))) (k1 m (Int.fdiv (wrap .u64 (o+(wrap .u64 y))) (2 ^ 32)) p (wrap .i64 (g+1)) (l.set (0+((g.toNat)*1)) (.int .u32 (wrap .u32 (wrap .u64 (o+(wrap .u64 y))))))) none) none))) none) (cond (Ac ((b:Nat):Int) m) (cond ((Nat.beq 1 1)&&((Nat.ble ((0+(b*1))+1) (l.length))&&(!false))) (X6 N m (l.set (0+(b*1)) (.int .u32 (wrap .u32 o))) (fun ae=>(r0 ae (l.set (0+(b*1)) (.int .u32 (wrap .u32 o)))))) none) none))
def Yf (r0:Nat→LA→O R) (c:LA) (b:Nat) (e:Bool) (f:LA) (d:Nat) (i:Bool):Nat→Nat→Int→Int→Int→LA→O R
 | 0,_,_,_,_,_=>none
 | n+1,m,o,p,g,l=>(IX N r0 c b e f d i (Yf r0 c b e f d i n) m o p g l)
def qp (N:Nat) (r0:Nat→LA→O R) (q1:Nat→Int→Int→Int→LA→O R) (c:LA) (b:Nat) (e:Bool) (f:LA) (d:Nat) (i:Bool):O R :=
 (cond ((decide (0≤(wrap .i64 (((b:Nat):Int)+1))))&&((decide ((wrap .i64 (((b:Nat):Int)+1))≤(wrap .i64 (((b:Nat):Int)+1))))&&((decide ((wrap .i64 (((b:Nat):Int)+1))≤140737488355328))&&(decide (((wrap .i64 (((b:Nat):Int)+1))*((4:Nat):Int))≤140737488355328))))) (q1 ((wrap .i64 (((b:Nat):Int)+1)).toNat) 0 ((b:Nat):Int) 0 (List.replicate ((wrap .i64 (((b:Nat):Int)+1)).toNat) (.int .u32 0))) none)
def TI (r0:Nat→LA→O R) (c:LA) (b:Nat) (e:Bool) (f:LA) (d:Nat) (i:Bool):O R:=(qp N r0 (fun m o p g l=>(Yf N r0 c b e f d i N m o p g l)) c b e f d i)
def t8 (r0:Nat→LA→O R) (q0:LA→Nat→Bool→LA→Nat→Bool→O R) (s:LA) (t:Nat) (u q:Bool) (v:LA) (w:Nat) (x r:Bool):O R :=
 (Cv N s t u q (fun ac z=>(Cv N v w x r (fun ad aa=>(cond (decide (((z:Nat):Int)<((aa:Nat):Int))) (q0 ad aa r ac z q) (q0 ac z q ad aa r))))))
def yH:=(Ae (fun (N:Nat) (s:LA) (t:Nat) (u q:Bool) (v:LA) (w:Nat) (x r:Bool) (r0:Nat→LA→O R)=>(t8 N r0 (fun c b e f d i=>(TI N r0 c b e f d i)) s t u q v w x r))).1
theorem qq (s t u q v w x r r0):(@yH R N s t u q v w x r r0)=(t8 N r0 (fun c b e f d i=>(TI N r0 c b e f d i)) s t u q v w x r):=by rw[yH,(Ae _).2]
def Av9:Hints:={ H:=(hS hL (hS hL (hJ [0,1] hL (hS hL (hS hL (hS (hS hL (hS (hP [0,1,5,6,24,25,26] hL) hL)) hL)))))),nils:=[(4,1)],modes:=[(2,1)] }
def A5e:Dg:=[(171,Gr N)]
def Awa (F:KF R):=Hp Tryz.f176 Av9 (A5e N) [] N F
def Yg (F:KF R):Nat→LA→O R:=(fun af ag=>F (.own 300000 0 af) (hq [(bQ 1 ag)]))
def Bep (c:LA) (b:Nat) (e:Bool) (f:LA) (d:Nat) (i:Bool) (m:Nat) (o p g:Int) (l:LA):St:=⟨[(0,(.imm c b 1 false e)),(1,(.imm f d 1 false i)),(5,(.own 300000 0 m)),(6,(.int .u64 o)),(24,(.imm c b 1 false e)),(25,(iv p)),(26,(iv g))],(hq [(bQ 1 l)])⟩
def Beq (F:KF R):=Awa N F [1,1,1,1,1,0,1,0] []
def Ber (c:LA) (b:Nat) (e:Bool) (f:LA) (d:Nat) (i:Bool):St:=⟨[(0,(.imm c b 1 false e)),(1,(.imm f d 1 false i))],[]⟩
def Bes (F:KF R):=Awa N F [1,1,1] []
theorem t9 (F:KF R) (c:LA) (b:Nat) (e:Bool) (f:LA) (d:Nat) (i:Bool):∀ (n m:Nat) (o p g:Int) (l:LA),Ap (Beq N F) n (Bep c b e f d i m o p g l)=(Yf N (Yg F) c b e f d i n m o p g l)
 | 0,_,_,_,_,_=>by kernel_rfl
 | n+1,m,o,p,g,l=>Eq.trans (by kernel_rfl) (Bm (IX N (Yg F) c b e f d i · m o p g l) (funext fun m=>funext fun o=>funext fun p=>funext fun g=>funext fun l=>(t9 F c b e f d i n m o p g l)):_)
theorem Az6 (F:KF R):∀ (c:LA) (b:Nat) (e:Bool) (f:LA) (d:Nat) (i:Bool),A9 (Bes N F) (Ber c b e f d i)=(TI N (Yg F) c b e f d i):=by
 intro c b e f d i
 exact Eq.trans (by kernel_rfl) (Bm (qp N (Yg F) · c b e f d i) (funext fun m=>funext fun o=>funext fun p=>funext fun g=>funext fun l=>(Ai ..).trans (t9 N F c b e f d i N m o p g l)):_)
theorem Awb (s:LA) (t:Nat) (u q:Bool) (v:LA) (w:Nat) (x r:Bool) (F:KF R):Cd (A5e N) Av9 N 176 [(.imm s t 1 u q),(.imm v w 1 x r)] [] F=(yH N s t u q v w x r (Yg F)):=by
 rw[qq]
 exact Eq.trans (by kernel_rfl) (Bm (t8 N (Yg F) · s t u q v w x r) (funext fun c=>funext fun b=>funext fun e=>funext fun f=>funext fun d=>funext fun i=>(Aq ..).trans (Az6 N F c b e f d i)):_)
def Alw (a:LA) (h:Ak) (k:KF R):O R :=
 match a,h with
 | [(.imm s t 1 u q),(.imm v w 1 x r)],[]=>(yH N s t u q v w x r (Yg k))
 | _,_=>none
theorem Awc:An N 176 @Alw:=by
 intro R Q a h k j;unfold Alw;split;exact Ax (Awb ..) (Awb ..) ⟨Gs N,trivial⟩;exact Az
def Bet:=Ay (Awc N)
def Beu:=Ca (Awc N)
def t_ (b:LA) (d:Bool) (c:LA) (e:Bool) (r0:Bool→Nat→LA→O R):O R :=
 (RW b fun o=>(RW c fun p=>(cond (o==p) (RW b fun q=>(B9 1 (b.drop 1) fun r s=>(B9 1 (c.drop 1) fun t u=>(yH N r s false d t u false e (fun f g=>(Kz N q f g (fun v=>(r0 v f g)))))))) (B9 1 (b.drop 1) fun w x=>(B9 1 (c.drop 1) fun y z=>(XT N w x false d y z false e (fun i aa l=>(cond aa (RW b fun ab=>(Kz N ab i l (fun ac=>(r0 ac i l)))) (B9 1 (c.drop 1) fun ad ae=>(B9 1 (b.drop 1) fun af ag=>(XT N ad ae false e af ag false d (fun m am n=>(RW c fun ah=>(Kz N ah m n (fun ai=>(r0 ai m n))))))))))))))))
def yI:=(Ae (@t_ R)).1
theorem XX:@yI R=@t_ R:=(Ae _).2
def Bhc:Dg:=[(176,Bet N),(148,E_ N),(177,Av3 N)]
def Awd (F:KF R):Bool→Nat→LA→O R:=(fun aj ak al=>F (.agg [(.bool aj),(.own 300000 0 ak)]) (hq [(bQ 1 al)]))
theorem Awe (b:LA) (d:Bool) (c:LA) (e:Bool) (F:KF R):Cd (Bhc N) C6 N 134 [(.pagg b d),(.pagg c e)] [] F=(yI N b d c e (Awd F)):=by
 rw[XX]
 kernel_rfl
def Alx (a:LA) (h:Ak) (k:KF R):O R :=
 match a,h with
 | [(.pagg b d),(.pagg c e)],[]=>(yI N b d c e (Awd k))
 | _,_=>none
theorem Awf:An N 134 @Alx:=by
 intro R Q a h k j;unfold Alx;split;exact Ax (Awe ..) (Awe ..) ⟨Beu N,E' N,Av4 N,trivial⟩;exact Az
def Bev:=Ay (Awf N)
def Bew:=Ca (Awf N)
def TJ (r0:LA→O R) (d:Bool) (b:LA) (e:Bool) (c:LA):O R :=
 (cond (Nat.ble 3 (b.length)) (Nq N (b.take 3) d (fun n aa q r o=>(cond ((Nat.beq 0 0)&&((Nat.beq (n.length) 2)&&(Nat.beq 2 2))) (cond (Nat.ble 3 (c.length)) (Nq N (c.take 3) e (fun p ab t u s=>(cond ((Nat.beq 0 0)&&((Nat.beq (p.length) 2)&&(Nat.beq 2 2))) (Er N q r false o t u false s (fun ah=>(cond (ah==0) (cond (Nat.ble 2 (n.length)) (cond (Nat.ble 2 (p.length)) (yI N (n.take 2) aa (p.take 2) ab (fun ai ac aj=>(Q5 N [(.bool ai),(.imm (aj.take (ac*1)) ac 1 false true)] true q r false o (fun v=>(cond ((Nat.beq 0 0)&&((Nat.beq (v.length) 3)&&(Nat.beq 3 3))) (cond (Nat.ble 3 (v.length)) (r0 (v.take 3)) none) none))))) none) none) (cond (Nat.ble 2 (n.length)) (XK N (n.take 2) aa [(.bool false),(.imm t u 1 false s)] (s||false) (fun ak ad al=>(cond (Nat.ble 2 (p.length)) (XK N (p.take 2) ab [(.bool false),(.imm q r 1 false o)] (o||false) (fun am ae an=>(yI N [(.bool ak),(.imm (al.take (ad*1)) ad 1 false true)] true [(.bool am),(.imm (an.take (ae*1)) ae 1 false true)] true (fun ao af ap=>(QG N q r false o t u false s (fun ag aq=>(Q5 N [(.bool ao),(.imm (ap.take (af*1)) af 1 false true)] true (aq.take (ag*1)) ag false true (fun w=>(cond ((Nat.beq 0 0)&&((Nat.beq (w.length) 3)&&(Nat.beq 3 3))) (cond (Nat.ble 3 (w.length)) (r0 (w.take 3)) none) none))))))))) none))) none)))) none))) none) none))) none)
def XY (r0:LA→O R) (i f l g:Int) (d:Bool) (b:LA) (e:Bool) (c:LA) (q1:O R) (m:Bool):O R :=
 (cond m (Jj N (wrap .i64 ((wrap .i64 (i*g))+(wrap .i64 (l*f)))) (wrap .i64 (f*g)) (fun x=>(cond ((Nat.beq 0 0)&&((Nat.beq (x.length) 3)&&(Nat.beq 3 3))) (cond (Nat.ble 3 (x.length)) (r0 (x.take 3)) none) none))) q1)
def Uz (r0:LA→O R) (i f l g:Int) (d:Bool) (b:LA) (e:Bool) (c:LA) (m:Bool):O R:=(XY N r0 i f l g d b e c (TJ N r0 d b e c) m)
def ku (r0:LA→O R) (q0:Int→Int→Int→Int→Bool→O R) (b:LA) (d:Bool) (c:LA) (e:Bool):O R :=
 (cond (Nat.ble 3 (b.length)) (Ti N (b.take 3) d (fun ar=>(cond (ar==0) (cond (Nat.ble 3 (c.length)) (NL N (c.take 3) e (fun y=>(cond ((Nat.beq 0 0)&&((Nat.beq (y.length) 3)&&(Nat.beq 3 3))) (cond (Nat.ble 3 (y.length)) (r0 (y.take 3)) none) none))) none) (cond (Nat.ble 3 (c.length)) (Ti N (c.take 3) e (fun au=>(cond (au==0) (cond (Nat.ble 3 (b.length)) (NL N (b.take 3) d (fun z=>(cond ((Nat.beq 0 0)&&((Nat.beq (z.length) 3)&&(Nat.beq 3 3))) (cond (Nat.ble 3 (z.length)) (r0 (z.take 3)) none) none))) none) (cond (Nat.ble 3 (b.length)) (Hb N (b.take 3) d (fun i f av=>(cond (Nat.ble 3 (c.length)) (Hb N (c.take 3) e (fun l g aw=>(cond (av==true) (q0 i f l g (cond true aw false)) (q0 i f l g false)))) none))) none)))) none)))) none)
def Ok:=(Ae (fun (N:Nat) (b:LA) (d:Bool) (c:LA) (e:Bool) (r0:LA→O R)=>(ku N r0 (fun i f l g m=>(Uz N r0 i f l g d b e c m)) b d c e))).1
theorem XZ (b d c e r0):(@Ok R N b d c e r0)=(ku N r0 (fun i f l g m=>(Uz N r0 i f l g d b e c m)) b d c e):=by rw[Ok,(Ae _).2]
def Awg:Hints:={ H:=(hS hL (hS hL (hS hL (hS hL (hS hL (hJ [2,3,4] (hJ [2,3,4,5,6,8,9,41] hL hL) hL)))))),modes:=[(3,0)] }
def A5f:Dg:=[(95,XG N),(130,Alu N),(99,MU N),(131,IF N),(101,AI N),(132,K4 N),(134,Bev N),(133,XV N),(103,xk N),(135,ki N)]
def Awh (F:KF R):=Hp Tryz.f81 Awg (A5f N) [] N F
def GL (F:KF R):LA→O R:=(fun ax=>F (.pagg ax false) [])
def Bex (d:Bool) (b:LA) (e:Bool) (c:LA):St:=⟨[(2,(op 0)),(3,(op 1)),(4,(op 2))],(hq [(bP d 0 b),(bP e 0 c),⟨false,false,false,false,0,[(.bool false),.nsl,.nsl],false⟩])⟩
def Bey (F:KF R):=Awh N F [1,1,1,1,1,1] []
def Bez (i f l g:Int) (d:Bool) (b:LA) (e:Bool) (c:LA) (m:Bool):St:=⟨[(2,(op 0)),(3,(op 1)),(4,(op 2)),(5,(iv i)),(6,(iv f)),(8,(iv l)),(9,(iv g)),(41,(.bool m))],(hq [(bP d 0 b),(bP e 0 c),⟨false,false,false,false,0,[(.bool false),.nsl,.nsl],false⟩])⟩
def Be0 (F:KF R):=Awh N F [1,1,1,1,1,0,1] []
theorem Az7 (F:KF R) (d:Bool) (b:LA) (e:Bool) (c:LA):A9 (Bey N F) (Bex d b e c)=(TJ N (GL F) d b e c):=by
 kernel_rfl
theorem Az8 (F:KF R) (i f l g:Int) (d:Bool) (b:LA) (e:Bool) (c:LA):∀ (m:Bool),A9 (Be0 N F) (Bez i f l g d b e c m)=(Uz N (GL F) i f l g d b e c m):=by
 intro m
 exact Eq.trans (by kernel_rfl) (Bm (XY N (GL F) i f l g d b e c · m) ((Aq ..).trans (Az7 N F d b e c)):_)
theorem Awi (b:LA) (d:Bool) (c:LA) (e:Bool) (F:KF R):Cd (A5f N) Awg N 81 [(.pagg b d),(.pagg c e)] [] F=(Ok N b d c e (GL F)):=by
 rw[XZ]
 exact Eq.trans (by kernel_rfl) (Bm (ku N (GL F) · b d c e) (funext fun i=>funext fun f=>funext fun l=>funext fun g=>funext fun m=>(Aq ..).trans (Az8 N F i f l g d b e c m)):_)
def Aly (a:LA) (h:Ak) (k:KF R):O R :=
 match a,h with
 | [(.pagg b d),(.pagg c e)],[]=>(Ok N b d c e (GL k))
 | _,_=>none
theorem Awj:An N 81 @Aly:=by
 intro R Q a h k j;unfold Aly;split;exact Ax (Awi ..) (Awi ..) ⟨XH N,Alv N,MV N,IG N,AJ N,K5 N,Bew N,XW N,xm N,kj N,trivial⟩;exact Az
def GM:=Ay (Awj N)
def GN:=Ca (Awj N)
def Az9 (b:LA) (c:Bool) (d:LA) (e:Bool) (r0:LA→O R):O R :=
 (RW b fun g=>(B9 1 (b.drop 1) fun i l=>(B9 1 (b.drop 2) fun m n=>(cond (Nat.beq (b.length) 3) (RW d fun o=>(B9 1 (d.drop 1) fun p q=>(B9 1 (d.drop 2) fun r s=>(cond (Nat.beq (d.length) 3) (Ok N [(.bool g),(.imm i l 1 false c),(.imm m n 1 false c)] (c||(c||false)) [(.bool (!o)),(.imm p q 1 false e),(.imm r s 1 false e)] (e||(e||false)) (fun f=>(cond ((Nat.beq 0 0)&&((Nat.beq (f.length) 3)&&(Nat.beq 3 3))) (cond (Nat.ble 3 (f.length)) (r0 (f.take 3)) none) none))) none)))) none))))
def IY:=(Ae (@Az9 R)).1
theorem Alz:@IY R=@Az9 R:=(Ae _).2
def Be1:Hints:={ H:=hL,modes:=[(3,0)],cob:=[2,3] }
def Bhd:Dg:=[(81,GM N)]
def Awk (F:KF R):LA→O R:=(fun t=>F (.pagg t false) [])
theorem Awl (b:LA) (c:Bool) (d:LA) (e:Bool) (F:KF R):Cd (Bhd N) Be1 N 83 [(.pagg b c),(.pagg d e)] [] F=(IY N b c d e (Awk F)):=by
 rw[Alz]
 kernel_rfl
def Al0 (a:LA) (h:Ak) (k:KF R):O R :=
 match a,h with
 | [(.pagg b c),(.pagg d e)],[]=>(IY N b c d e (Awk k))
 | _,_=>none
theorem Awm:An N 83 @Al0:=by
 intro R Q a h k j;unfold Al0;split;exact Ax (Awl ..) (Awl ..) ⟨GN N,trivial⟩;exact Az
def yJ:=Ay (Awm N)
def yK:=Ca (Awm N)
def Ahs (b:LA) (d:Bool) (c:LA) (e:Bool) (r0:LA→O R):O R :=
 (cond (Nat.ble 3 (b.length)) (cond (Nat.ble 3 (c.length)) (Fx N (b.take 3) d (c.take 3) e (fun i=>(cond (decide (i≤0)) (cond (Nat.ble 3 (b.length)) (NL N (b.take 3) d (fun f=>(cond ((Nat.beq 0 0)&&((Nat.beq (f.length) 3)&&(Nat.beq 3 3))) (cond (Nat.ble 3 (f.length)) (r0 (f.take 3)) none) none))) none) (cond (Nat.ble 3 (c.length)) (NL N (c.take 3) e (fun g=>(cond ((Nat.beq 0 0)&&((Nat.beq (g.length) 3)&&(Nat.beq 3 3))) (cond (Nat.ble 3 (g.length)) (r0 (g.take 3)) none) none))) none)))) none) none)
def yL:=(Ae (@Ahs R)).1
theorem qr:@yL R=@Ahs R:=(Ae _).2
def Bhe:Dg:=[(59,Sk N),(130,Alu N)]
def Awn (F:KF R):LA→O R:=(fun l=>F (.pagg l false) [])
theorem Awo (b:LA) (d:Bool) (c:LA) (e:Bool) (F:KF R):Cd (Bhe N) Lu N 96 [(.pagg b d),(.pagg c e)] [] F=(yL N b d c e (Awn F)):=by
 rw[qr]
 kernel_rfl
def Al1 (a:LA) (h:Ak) (k:KF R):O R :=
 match a,h with
 | [(.pagg b d),(.pagg c e)],[]=>(yL N b d c e (Awn k))
 | _,_=>none
theorem Awp:An N 96 @Al1:=by
 intro R Q a h k j;unfold Al1;split;exact Ax (Awo ..) (Awo ..) ⟨Sm N,Alv N,trivial⟩;exact Az
def Be2:=Ay (Awp N)
def Be3:=Ca (Awp N)
def TK (r0:LA→O R) (d:Bool) (b:LA) (e:Bool) (c:LA):O R :=
 (cond (Nat.ble 3 (b.length)) (Nq N (b.take 3) d (fun f o p q r=>(cond ((Nat.beq 0 0)&&((Nat.beq (f.length) 2)&&(Nat.beq 2 2))) (cond (Nat.ble 3 (c.length)) (Nq N (c.take 3) e (fun g s t u v=>(cond ((Nat.beq 0 0)&&((Nat.beq (g.length) 2)&&(Nat.beq 2 2))) (cond (Nat.ble 2 (f.length)) (cond (Nat.ble 2 (g.length)) (XK N (f.take 2) o (g.take 2) s (fun w m x=>(QG N p q false r t u false v (fun n y=>(Q5 N [(.bool w),(.imm (x.take (m*1)) m 1 false true)] true (y.take (n*1)) n false true (fun i=>(cond ((Nat.beq 0 0)&&((Nat.beq (i.length) 3)&&(Nat.beq 3 3))) (cond (Nat.ble 3 (i.length)) (r0 (i.take 3)) none) none))))))) none) none) none))) none) none))) none)
def kv (r0:LA→O R) (q0:O R) (b:LA) (d:Bool) (c:LA) (e:Bool):O R :=
 (cond (Nat.ble 3 (b.length)) (Hb N (b.take 3) d (fun z aa ab=>(cond (Nat.ble 3 (c.length)) (Hb N (c.take 3) e (fun ac ad ae=>(cond (ab==true) (cond (cond true ae false) (Jj N (wrap .i64 (z*ac)) (wrap .i64 (aa*ad)) (fun l=>(cond ((Nat.beq 0 0)&&((Nat.beq (l.length) 3)&&(Nat.beq 3 3))) (cond (Nat.ble 3 (l.length)) (r0 (l.take 3)) none) none))) q0) q0))) none))) none)
def QK:=(Ae (fun (N:Nat) (b:LA) (d:Bool) (c:LA) (e:Bool) (r0:LA→O R)=>(kv N r0 (TK N r0 d b e c) b d c e))).1
theorem X_ (b d c e r0):(@QK R N b d c e r0)=(kv N r0 (TK N r0 d b e c) b d c e):=by rw[QK,(Ae _).2]
def Awq:Hints:={ H:=(hS hL (hS hL (hS hL (hJ [2,3,4] hL hL)))),modes:=[(3,0)] }
def A5g:Dg:=[(99,MU N),(131,IF N),(101,AI N),(103,xk N),(135,ki N),(133,XV N)]
def Be4 (F:KF R):=Hp Tryz.f82 Awq (A5g N) [] N F
def kw (F:KF R):LA→O R:=(fun af=>F (.pagg af false) [])
def Be5 (d:Bool) (b:LA) (e:Bool) (c:LA):St:=⟨[(2,(op 0)),(3,(op 1)),(4,(op 2))],(hq [(bP d 0 b),(bP e 0 c),⟨false,false,false,false,0,[(.bool false),.nsl,.nsl],false⟩])⟩
def Be6 (F:KF R):=Be4 N F [1,1,1,1] []
theorem A0a (F:KF R) (d:Bool) (b:LA) (e:Bool) (c:LA):A9 (Be6 N F) (Be5 d b e c)=(TK N (kw F) d b e c):=by
 kernel_rfl
theorem Awr (b:LA) (d:Bool) (c:LA) (e:Bool) (F:KF R):Cd (A5g N) Awq N 82 [(.pagg b d),(.pagg c e)] [] F=(QK N b d c e (kw F)):=by
 rw[X_]
 exact Eq.trans (by kernel_rfl) (Bm (kv N (kw F) · b d c e) ((Aq ..).trans (A0a N F d b e c)):_)
def Al2 (a:LA) (h:Ak) (k:KF R):O R :=
 match a,h with
 | [(.pagg b d),(.pagg c e)],[]=>(QK N b d c e (kw k))
 | _,_=>none
theorem Aws:An N 82 @Al2:=by
 intro R Q a h k j;unfold Al2;split;exact Ax (Awr ..) (Awr ..) ⟨MV N,IG N,AJ N,xm N,kj N,XW N,trivial⟩;exact Az
def Awt:=Ay (Aws N)
def Awu:=Ca (Aws N)
def yM (b:LA) (c:Bool) (r0:LA→O R):O R :=
 (cond (Nat.ble 2 (b.length)) (B9 1 (b.drop 2) fun e f=>(Np N (b.take 2) c [(.bool false),(.imm e f 1 false c)] (c||false) (fun d=>(cond ((Nat.beq 0 0)&&((Nat.beq (d.length) 3)&&(Nat.beq 3 3))) (cond (Nat.ble 3 (d.length)) (r0 (d.take 3)) none) none)))) none)
def Lc:=(Ae (@yM R)).1
theorem ta:@Lc R=@yM R:=(Ae _).2
def A9k:Dg:=[(54,Ur N)]
def Abq (F:KF R):LA→O R:=(fun g=>F (.pagg g false) [])
theorem Abr (b:LA) (c:Bool) (F:KF R):Cd (A9k N) Lu N 70 [(.pagg b c)] [] F=(Lc N b c (Abq F)):=by
 rw[ta]
 kernel_rfl
def tc (a:LA) (h:Ak) (k:KF R):O R :=
 match a,h with
 | [(.pagg b c)],[]=>(Lc N b c (Abq k))
 | _,_=>none
theorem Abs:An N 70 @tc:=by
 intro R Q a h k j;unfold tc;split;exact Ax (Abr ..) (Abr ..) ⟨Us N,trivial⟩;exact Az
def U0:=Ay (Abs N)
def U4:=Ca (Abs N)
def Al3 (b:LA) (c:Bool) (r0:LA→O R):O R :=
 (cond (Nat.ble 3 (b.length)) (Lc N (b.take 3) c (fun d=>(B9 1 (d.drop 2) fun e f=>(r0 [(.bool false),(.imm e f 1 false false)])))) none)
def V6:=(Ae (@Al3 R)).1
theorem Abt:@V6 R=@Al3 R:=(Ae _).2
def Be7:Dg:=[(70,U0 N)]
def Al4 (F:KF R):LA→O R:=(fun g=>F (.pagg g false) [])
theorem Al5 (b:LA) (c:Bool) (F:KF R):Cd (Be7 N) Lu N 73 [(.pagg b c)] [] F=(V6 N b c (Al4 F)):=by
 rw[Abt]
 kernel_rfl
def Abu (a:LA) (h:Ak) (k:KF R):O R :=
 match a,h with
 | [(.pagg b c)],[]=>(V6 N b c (Al4 k))
 | _,_=>none
theorem Al6:An N 73 @Abu:=by
 intro R Q a h k j;unfold Abu;split;exact Ax (Al5 ..) (Al5 ..) ⟨U4 N,trivial⟩;exact Az
def qs:=Ay (Al6 N)
def qt:=Ca (Al6 N)
def Al7 (b:LA) (c:Bool) (r0:LA→O R):O R :=
 (cond (Nat.ble 3 (b.length)) (Lc N (b.take 3) c (fun e=>(cond (Nat.ble 2 (e.length)) (EZ N (e.take 2) false (fun f=>(cond (Nat.ble 3 (b.length)) (V6 N (b.take 3) c (fun g=>(Np N f false g false (fun d=>(cond ((Nat.beq 0 0)&&((Nat.beq (d.length) 3)&&(Nat.beq 3 3))) (cond (Nat.ble 3 (d.length)) (r0 (d.take 3)) none) none))))) none))) none))) none)
def te:=(Ae (@Al7 R)).1
theorem Abv:@te R=@Al7 R:=(Ae _).2
def Be8:Dg:=[(70,U0 N),(92,qG N),(73,qs N),(54,Ur N)]
def Al8 (F:KF R):LA→O R:=(fun i=>F (.pagg i false) [])
theorem Al9 (b:LA) (c:Bool) (F:KF R):Cd (Be8 N) Lu N 74 [(.pagg b c)] [] F=(te N b c (Al8 F)):=by
 rw[Abv]
 kernel_rfl
def Abw (a:LA) (h:Ak) (k:KF R):O R :=
 match a,h with
 | [(.pagg b c)],[]=>(te N b c (Al8 k))
 | _,_=>none
theorem Ama:An N 74 @Abw:=by
 intro R Q a h k j;unfold Abw;split;exact Ax (Al9 ..) (Al9 ..) ⟨U4 N,qH N,qt N,Us N,trivial⟩;exact Az
def A9l:=Ay (Ama N)
def A9m:=Ca (Ama N)
def NM (N:Nat) (k0:Nat→Int→LA→O R) (r0:Nat→LA→O R) (d:LA) (c:Nat) (f g:Bool) (e:LA) (b:Nat) (i l:Bool) (m:Nat) (k1:Int→Int→Int→LA→O R) (o t p:Int) (s:LA):O R :=
 (cond (decide (p<((b:Nat):Int))) (cond (Ac (wrap .i64 (o+p)) m) (Ao .u32 (s.drop (0+(((wrap .i64 (o+p)).toNat)*1))) fun u=>(cond (Ac o c) (Ao .u32 (d.drop ((o.toNat)*1)) fun v=>(cond (Ac p b) (Ao .u32 (e.drop ((p.toNat)*1)) fun w=>(cond (Ac (wrap .i64 (o+p)) m) (cond ((Nat.beq 1 1)&&((Nat.ble ((0+(((wrap .i64 (o+p)).toNat)*1))+1) (s.length))&&(!false))) (k1 o (Int.fdiv (wrap .u64 (t+(wrap .u64 ((wrap .u64 u)+(wrap .u64 ((wrap .u64 v)*(wrap .u64 w))))))) (2 ^ 32)) (wrap .i64 (p+1)) (s.set (0+(((wrap .i64 (o+p)).toNat)*1)) (.int .u32 (wrap .u32 (wrap .u64 (t+(wrap .u64 ((wrap .u64 u)+(wrap .u64 ((wrap .u64 v)*(wrap .u64 w))))))))))) none) none)) none)) none)) none) (cond (Ac (wrap .i64 (o+((b:Nat):Int))) m) (cond ((Nat.beq 1 1)&&((Nat.ble ((0+(((wrap .i64 (o+((b:Nat):Int))).toNat)*1))+1) (s.length))&&(!false))) (k0 m (wrap .i64 (o+1)) (s.set (0+(((wrap .i64 (o+((b:Nat):Int))).toNat)*1)) (.int .u32 (wrap .u32 t)))) none) none))
def T9 (k0:Nat→Int→LA→O R) (r0:Nat→LA→O R) (d:LA) (c:Nat) (f g:Bool) (e:LA) (b:Nat) (i l:Bool) (m:Nat):Nat→Int→Int→Int→LA→O R
 | 0,_,_,_,_=>none
 | n+1,o,t,p,s=>(NM N k0 r0 d c f g e b i l m (T9 k0 r0 d c f g e b i l m n) o t p s)
def NN (r0:Nat→LA→O R) (d:LA) (c:Nat) (f g:Bool) (e:LA) (b:Nat) (i l:Bool) (k0:Nat→Int→LA→O R) (q1:Int→Int→Int→LA→O R) (m:Nat) (q:Int) (r:LA):O R :=
 (cond (decide (q<((c:Nat):Int))) (q1 q 0 0 r) (Ep N (r.take (m*1)) m false true (fun x y=>(r0 x y))))
def Mi (r0:Nat→LA→O R) (d:LA) (c:Nat) (f g:Bool) (e:LA) (b:Nat) (i l:Bool):Nat→Nat→Int→LA→O R
 | 0,_,_,_=>none
 | n+1,m,q,r=>(NN N r0 d c f g e b i l (Mi r0 d c f g e b i l n) (fun o t p s=>(T9 N (Mi r0 d c f g e b i l n) r0 d c f g e b i l m N o t p s)) m q r)
def th (N:Nat) (r0:Nat→LA→O R) (q0:Nat→Int→LA→O R) (d:LA) (c:Nat) (f g:Bool) (e:LA) (b:Nat) (i l:Bool):O R :=
 (cond ((decide (0≤(wrap .i64 (((c:Nat):Int)+((b:Nat):Int)))))&&((decide ((wrap .i64 (((c:Nat):Int)+((b:Nat):Int)))≤(wrap .i64 (((c:Nat):Int)+((b:Nat):Int)))))&&((decide ((wrap .i64 (((c:Nat):Int)+((b:Nat):Int)))≤140737488355328))&&(decide (((wrap .i64 (((c:Nat):Int)+((b:Nat):Int)))*((4:Nat):Int))≤140737488355328))))) (q0 ((wrap .i64 (((c:Nat):Int)+((b:Nat):Int))).toNat) 0 (List.replicate ((wrap .i64 (((c:Nat):Int)+((b:Nat):Int))).toNat) (.int .u32 0))) none)
def ky:=(Ae (fun (N:Nat) (d:LA) (c:Nat) (f g:Bool) (e:LA) (b:Nat) (i l:Bool) (r0:Nat→LA→O R)=>(th N r0 (fun m q r=>(Mi N r0 d c f g e b i l N m q r)) d c f g e b i l))).1
theorem Abx (d c f g e b i l r0):(@ky R N d c f g e b i l r0)=(th N r0 (fun m q r=>(Mi N r0 d c f g e b i l N m q r)) d c f g e b i l):=by rw[ky,(Ae _).2]
def Amb:Hints:={ H:=(hS hL (hS hL (hS (hS hL (hS (hP [0,1,5,6] (hS hL (hS (hS (hS hL (hS (hS hL (hS (hP [0,1,5,6,7,8] hL) hL)) hL)) hL) hL))) hL)) hL))),nils:=[(4,1)],modes:=[(2,1)] }
def Awv:Dg:=[(143,Hj N)]
def Amc (F:KF R):=Hp Tryz.f124 Amb (Awv N) [] N F
def Pj (F:KF R):Nat→LA→O R:=(fun z aa=>F (.own 300000 0 z) (hq [(bQ 1 aa)]))
def A9n (d:LA) (c:Nat) (f g:Bool) (e:LA) (b:Nat) (i l:Bool) (m:Nat) (o t p:Int) (s:LA):St:=⟨[(0,(.imm d c 1 f g)),(1,(.imm e b 1 i l)),(5,(.own 300000 0 m)),(6,(iv o)),(7,(.int .u64 t)),(8,(iv p))],(hq [(bQ 1 s)])⟩
def A9o (F:KF R) (Q0:St→O R):=Amc N F [1,1,0,1,0,0,1,0,0,1,0,1,0] [Q0]
def qu (d:LA) (c:Nat) (f g:Bool) (e:LA) (b:Nat) (i l:Bool) (m:Nat) (q:Int) (r:LA):St:=⟨[(0,(.imm d c 1 f g)),(1,(.imm e b 1 i l)),(5,(.own 300000 0 m)),(6,(iv q))],(hq [(bQ 1 r)])⟩
def Amd (F:KF R):=Amc N F [1,1,0,1,0] []
theorem nm (Q0:St→O R) (F:KF R) (d:LA) (c:Nat) (f g:Bool) (e:LA) (b:Nat) (i l:Bool) (m:Nat):∀ (n:Nat) (o t p:Int) (s:LA),Ap (A9o N F Q0) n (A9n d c f g e b i l m o t p s)=(T9 N (fun m q r=>Q0 (qu d c f g e b i l m q r)) (Pj F) d c f g e b i l m n o t p s)
 | 0,_,_,_,_=>by kernel_rfl
 | n+1,o,t,p,s=>Eq.trans (by kernel_rfl) (Bm (NM N (fun m q r=>Q0 (qu d c f g e b i l m q r)) (Pj F) d c f g e b i l m · o t p s) (funext fun o=>funext fun t=>funext fun p=>funext fun s=>(nm Q0 F d c f g e b i l m n o t p s)):_)
theorem nn (F:KF R) (d:LA) (c:Nat) (f g:Bool) (e:LA) (b:Nat) (i l:Bool):∀ (n m:Nat) (q:Int) (r:LA),Ap (Amd N F) n (qu d c f g e b i l m q r)=(Mi N (Pj F) d c f g e b i l n m q r)
 | 0,_,_,_=>by kernel_rfl
 | n+1,m,q,r=>have e0:=(funext fun m=>funext fun q=>funext fun r=>(nn F d c f g e b i l n m q r))
  Eq.trans (by kernel_rfl) (fQ (NN N (Pj F) d c f g e b i l · · m q r) e0 (funext fun o=>funext fun t=>funext fun p=>funext fun s=>(Ai ..).trans ((nm N (Ap (Amd N F) n) F d c f g e b i l m N o t p s).trans (Bm (T9 N · (Pj F) d c f g e b i l m N o t p s) e0))):_)
theorem Ame (d:LA) (c:Nat) (f g:Bool) (e:LA) (b:Nat) (i l:Bool) (F:KF R):Cd (Awv N) Amb N 124 [(.imm d c 1 f g),(.imm e b 1 i l)] [] F=(ky N d c f g e b i l (Pj F)):=by
 rw[Abx]
 exact Eq.trans (by kernel_rfl) (Bm (th N (Pj F) · d c f g e b i l) (funext fun m=>funext fun q=>funext fun r=>(Ai ..).trans (nn N F d c f g e b i l N m q r)):_)
def Aby (a:LA) (h:Ak) (k:KF R):O R :=
 match a,h with
 | [(.imm d c 1 f g),(.imm e b 1 i l)],[]=>(ky N d c f g e b i l (Pj k))
 | _,_=>none
theorem Amf:An N 124 @Aby:=by
 intro R Q a h k j;unfold Aby;split;exact Ax (Ame ..) (Ame ..) ⟨Hk N,trivial⟩;exact Az
def A9p:=Ay (Amf N)
def A9q:=Ca (Amf N)
def Amg (b:LA) (d:Bool) (c:LA) (e:Bool) (r0:LA→O R):O R :=
 (RW b fun i=>(RW c fun l=>(B9 1 (b.drop 1) fun m n=>(B9 1 (c.drop 1) fun o p=>(ky N m n false d o p false e (fun g q=>(Ha N (!(i==l)) (q.take (g*1)) g false true (fun f=>(cond ((Nat.beq 0 0)&&((Nat.beq (f.length) 2)&&(Nat.beq 2 2))) (cond (Nat.ble 2 (f.length)) (r0 (f.take 2)) none) none)))))))))
def Zc:=(Ae (@Amg R)).1
theorem Abz:@Zc R=@Amg R:=(Ae _).2
def Be9:Dg:=[(124,A9p N),(93,Lv N)]
def Amh (F:KF R):LA→O R:=(fun r=>F (.pagg r false) [])
theorem Ami (b:LA) (d:Bool) (c:LA) (e:Bool) (F:KF R):Cd (Be9 N) Lu N 72 [(.pagg b d),(.pagg c e)] [] F=(Zc N b d c e (Amh F)):=by
 rw[Abz]
 kernel_rfl
def Ab0 (a:LA) (h:Ak) (k:KF R):O R :=
 match a,h with
 | [(.pagg b d),(.pagg c e)],[]=>(Zc N b d c e (Amh k))
 | _,_=>none
theorem Amj:An N 72 @Ab0:=by
 intro R Q a h k j;unfold Ab0;split;exact Ax (Ami ..) (Ami ..) ⟨A9q N,Lw N,trivial⟩;exact Az
def Amk:=Ay (Amj N)
def Aml:=Ca (Amj N)
def Amm (b:LA) (d:Bool) (c:LA) (e:Bool) (r0:LA→O R):O R :=
 (cond (Nat.ble 3 (b.length)) (Lc N (b.take 3) d (fun f=>(cond (Nat.ble 3 (c.length)) (Lc N (c.take 3) e (fun g=>(cond ((Nat.beq 0 0)&&((Nat.beq (f.length) 3)&&(Nat.beq 3 3))) (cond ((Nat.beq 0 0)&&((Nat.beq (g.length) 3)&&(Nat.beq 3 3))) (cond (Nat.ble 2 (f.length)) (cond (Nat.ble 3 (c.length)) (V6 N (c.take 3) e (fun l=>(Zc N (f.take 2) false l false (fun m=>(cond (Nat.ble 2 (g.length)) (cond (Nat.ble 3 (b.length)) (V6 N (b.take 3) d (fun n=>(Zc N (g.take 2) false n false (fun o=>(EY N m false o false (fun p=>(cond (Nat.ble 3 (b.length)) (V6 N (b.take 3) d (fun q=>(cond (Nat.ble 3 (c.length)) (V6 N (c.take 3) e (fun r=>(Zc N q false r false (fun s=>(Np N p false s false (fun i=>(cond ((Nat.beq 0 0)&&((Nat.beq (i.length) 3)&&(Nat.beq 3 3))) (cond (Nat.ble 3 (i.length)) (r0 (i.take 3)) none) none))))))) none))) none))))))) none) none))))) none) none) none) none))) none))) none)
def Kq:=(Ae (@Amm R)).1
theorem Ab1:@Kq R=@Amm R:=(Ae _).2
def Bfa:Dg:=[(70,U0 N),(73,qs N),(72,Amk N),(71,qD N),(54,Ur N)]
def Amn (F:KF R):LA→O R:=(fun t=>F (.pagg t false) [])
theorem Amo (b:LA) (d:Bool) (c:LA) (e:Bool) (F:KF R):Cd (Bfa N) Lu N 32 [(.pagg b d),(.pagg c e)] [] F=(Kq N b d c e (Amn F)):=by
 rw[Ab1]
 kernel_rfl
def Ab2 (a:LA) (h:Ak) (k:KF R):O R :=
 match a,h with
 | [(.pagg b d),(.pagg c e)],[]=>(Kq N b d c e (Amn k))
 | _,_=>none
theorem Amp:An N 32 @Ab2:=by
 intro R Q a h k j;unfold Ab2;split;exact Ax (Amo ..) (Amo ..) ⟨U4 N,qt N,Aml N,qF N,Us N,trivial⟩;exact Az
def Pk:=Ay (Amp N)
def Pl:=Ca (Amp N)
def Amq (b:LA) (d:Bool) (c:LA) (e:Bool) (r0:LA→O R):O R :=
 (cond (Nat.ble 3 (b.length)) (cond (Nat.ble 3 (c.length)) (te N (c.take 3) e (fun g=>(Kq N (b.take 3) d g false (fun f=>(cond ((Nat.beq 0 0)&&((Nat.beq (f.length) 3)&&(Nat.beq 3 3))) (cond (Nat.ble 3 (f.length)) (r0 (f.take 3)) none) none))))) none) none)
def V7:=(Ae (@Amq R)).1
theorem Ab3:@V7 R=@Amq R:=(Ae _).2
def Bfb:Dg:=[(74,A9l N),(32,Pk N)]
def Amr (F:KF R):LA→O R:=(fun i=>F (.pagg i false) [])
theorem Ams (b:LA) (d:Bool) (c:LA) (e:Bool) (F:KF R):Cd (Bfb N) Lu N 33 [(.pagg b d),(.pagg c e)] [] F=(V7 N b d c e (Amr F)):=by
 rw[Ab3]
 kernel_rfl
def Ab4 (a:LA) (h:Ak) (k:KF R):O R :=
 match a,h with
 | [(.pagg b d),(.pagg c e)],[]=>(V7 N b d c e (Amr k))
 | _,_=>none
theorem Amt:An N 33 @Ab4:=by
 intro R Q a h k j;unfold Ab4;split;exact Ax (Ams ..) (Ams ..) ⟨A9m N,Pl N,trivial⟩;exact Az
def YA:=Ay (Amt N)
def YB:=Ca (Amt N)
def yN (b:LA) (c:Bool) (r0:Int→O R):O R :=
 (cond (Nat.ble 3 (b.length)) (Lc N (b.take 3) c (fun d=>(cond (Nat.ble 2 (d.length)) (HM N (d.take 2) false (fun e=>(r0 e))) none))) none)
def AR:=(Ae (@yN R)).1
theorem ti:@AR R=@yN R:=(Ae _).2
def A9r:Dg:=[(70,U0 N),(75,zy N)]
def Ab5 (F:KF R):Int→O R:=(fun f=>F (iv f) [])
theorem Ab6 (b:LA) (c:Bool) (F:KF R):Cd (A9r N) C6 N 34 [(.pagg b c)] [] F=(AR N b c (Ab5 F)):=by
 rw[ti]
 kernel_rfl
def tj (a:LA) (h:Ak) (k:KF R):O R :=
 match a,h with
 | [(.pagg b c)],[]=>(AR N b c (Ab5 k))
 | _,_=>none
theorem Ab7:An N 34 @tj:=by
 intro R Q a h k j;unfold tj;split;exact Ax (Ab6 ..) (Ab6 ..) ⟨U4 N,Aaa N,trivial⟩;exact Az
def Ab8:=Ay (Ab7 N)
def Ab9:=Ca (Ab7 N)
def YC (b:LA) (d:Bool) (c:LA) (e:Bool) (r0:Int→O R):O R :=
 (cond (Nat.ble 3 (b.length)) (cond (Nat.ble 3 (c.length)) (V7 N (b.take 3) d (c.take 3) e (fun f=>(AR N f false (fun g=>(r0 g))))) none) none)
def Cn:=(Ae (@YC R)).1
theorem bS:@Cn R=@YC R:=(Ae _).2
def As3:Dg:=[(33,YA N),(34,Ab8 N)]
def g8 (F:KF R):Int→O R:=(fun i=>F (iv i) [])
theorem g9 (b:LA) (d:Bool) (c:LA) (e:Bool) (F:KF R):Cd (As3 N) C6 N 25 [(.pagg b d),(.pagg c e)] [] F=(Cn N b d c e (g8 F)):=by
 rw[bS]
 kernel_rfl
def bU (a:LA) (h:Ak) (k:KF R):O R :=
 match a,h with
 | [(.pagg b d),(.pagg c e)],[]=>(Cn N b d c e (g8 k))
 | _,_=>none
theorem g_:An N 25 @bU:=by
 intro R Q a h k j;unfold bU;split;exact Ax (g9 ..) (g9 ..) ⟨YB N,Ab9 N,trivial⟩;exact Az
def Ld:=Ay (g_ N)
def Le:=Ca (g_ N)
def A0b (b c:Int) (r0:LA→O R):O R :=
 (Hl N b (fun e=>(Hl N c (fun f=>(Np N e false f false (fun d=>(cond ((Nat.beq 0 0)&&((Nat.beq (d.length) 3)&&(Nat.beq 3 3))) (cond (Nat.ble 3 (d.length)) (r0 (d.take 3)) none) none)))))))
def YD:=(Ae (@A0b R)).1
theorem Amu:@YD R=@A0b R:=(Ae _).2
def Bhf:Dg:=[(55,HJ N),(54,Ur N)]
def Aww (F:KF R):LA→O R:=(fun g=>F (.pagg g false) [])
theorem Awx (b c:Int) (F:KF R):Cd (Bhf N) Lu N 19 [(iv b),(iv c)] [] F=(YD N b c (Aww F)):=by
 rw[Amu]
 kernel_rfl
def Amv (a:LA) (h:Ak) (k:KF R):O R :=
 match a,h with
 | [(.int .i64 b),(.int .i64 c)],[]=>(YD N b c (Aww k))
 | _,_=>none
theorem Awy:An N 19 @Amv:=by
 intro R Q a h k j;unfold Amv;split;exact Ax (Awx ..) (Awx ..) ⟨HK N,Us N,trivial⟩;exact Az
def Awz:=Ay (Awy N)
def Aw0:=Ca (Awy N)
def Amw (b:LA) (d:Bool) (c:LA) (e:Bool) (r0:LA→O R):O R :=
 (cond (Nat.ble 3 (b.length)) (cond (Nat.ble 3 (c.length)) (Cn N (b.take 3) d (c.take 3) e (fun i=>(cond (decide (i≤0)) (cond (Nat.ble 3 (b.length)) (Lc N (b.take 3) d (fun f=>(cond ((Nat.beq 0 0)&&((Nat.beq (f.length) 3)&&(Nat.beq 3 3))) (cond (Nat.ble 3 (f.length)) (r0 (f.take 3)) none) none))) none) (cond (Nat.ble 3 (c.length)) (Lc N (c.take 3) e (fun g=>(cond ((Nat.beq 0 0)&&((Nat.beq (g.length) 3)&&(Nat.beq 3 3))) (cond (Nat.ble 3 (g.length)) (r0 (g.take 3)) none) none))) none)))) none) none)
def kz:=(Ae (@Amw R)).1
theorem Aca:@kz R=@Amw R:=(Ae _).2
def Bfc:Dg:=[(25,Ld N),(70,U0 N)]
def Amx (F:KF R):LA→O R:=(fun l=>F (.pagg l false) [])
theorem Amy (b:LA) (d:Bool) (c:LA) (e:Bool) (F:KF R):Cd (Bfc N) Lu N 97 [(.pagg b d),(.pagg c e)] [] F=(kz N b d c e (Amx F)):=by
 rw[Aca]
 kernel_rfl
def Acb (a:LA) (h:Ak) (k:KF R):O R :=
 match a,h with
 | [(.pagg b d),(.pagg c e)],[]=>(kz N b d c e (Amx k))
 | _,_=>none
theorem Amz:An N 97 @Acb:=by
 intro R Q a h k j;unfold Acb;split;exact Ax (Amy ..) (Amy ..) ⟨Le N,U4 N,trivial⟩;exact Az
def A9s:=Ay (Amz N)
def A9t:=Ca (Amz N)
def Am0 (b:LA) (d:Bool) (c:LA) (e:Bool) (r0:LA→O R):O R :=
 (cond (Nat.ble 3 (b.length)) (Lc N (b.take 3) d (fun g=>(cond (Nat.ble 2 (g.length)) (cond (Nat.ble 3 (c.length)) (Lc N (c.take 3) e (fun i=>(cond (Nat.ble 2 (i.length)) (Zc N (g.take 2) false (i.take 2) false (fun l=>(cond (Nat.ble 3 (b.length)) (V6 N (b.take 3) d (fun m=>(cond (Nat.ble 3 (c.length)) (V6 N (c.take 3) e (fun n=>(Zc N m false n false (fun o=>(Np N l false o false (fun f=>(cond ((Nat.beq 0 0)&&((Nat.beq (f.length) 3)&&(Nat.beq 3 3))) (cond (Nat.ble 3 (f.length)) (r0 (f.take 3)) none) none))))))) none))) none))) none))) none) none))) none)
def NO:=(Ae (@Am0 R)).1
theorem Acc:@NO R=@Am0 R:=(Ae _).2
def Bfd:Dg:=[(70,U0 N),(72,Amk N),(73,qs N),(54,Ur N)]
def Am1 (F:KF R):LA→O R:=(fun p=>F (.pagg p false) [])
theorem Am2 (b:LA) (d:Bool) (c:LA) (e:Bool) (F:KF R):Cd (Bfd N) Lu N 35 [(.pagg b d),(.pagg c e)] [] F=(NO N b d c e (Am1 F)):=by
 rw[Acc]
 kernel_rfl
def Acd (a:LA) (h:Ak) (k:KF R):O R :=
 match a,h with
 | [(.pagg b d),(.pagg c e)],[]=>(NO N b d c e (Am1 k))
 | _,_=>none
theorem Am3:An N 35 @Acd:=by
 intro R Q a h k j;unfold Acd;split;exact Ax (Am2 ..) (Am2 ..) ⟨U4 N,Aml N,qt N,Us N,trivial⟩;exact Az
def qv:=Ay (Am3 N)
def qw:=Ca (Am3 N)
end
end Gx

namespace Gx
open Go Go.Proofs
open IntKind (wrap)
set_option maxRecDepth 100000
noncomputable section
variable {R:Type} (N:Nat)
def qx (b:LA) (c:Bool) (d e:Int) (r0:Bool→O R):O R :=
 (cond (Nat.ble 3 (b.length)) (Cb N d (fun f=>(Fx N (b.take 3) c f false (fun g=>(cond ((decide (g≥0))==true) (cond (Nat.ble 3 (b.length)) (Cb N e (fun i=>(Fx N (b.take 3) c i false (fun l=>(r0 (cond true (decide (l≤0)) false)))))) none) (r0 false)))))) none)
def Yh:=(Ae (@qx R)).1
theorem np:@Yh R=@qx R:=(Ae _).2
def A5h:Dg:=[(60,Ga N),(59,Sk N)]
def tn (F:KF R):Bool→O R:=(fun m=>F (.bool m) [])
theorem tp (b:LA) (c:Bool) (d e:Int) (F:KF R):Cd (A5h N) C6 N 56 [(.pagg b c),(iv d),(iv e)] [] F=(Yh N b c d e (tn F)):=by
 rw[np]
 kernel_rfl
def nq (a:LA) (h:Ak) (k:KF R):O R :=
 match a,h with
 | [(.pagg b c),(.int .i64 d),(.int .i64 e)],[]=>(Yh N b c d e (tn k))
 | _,_=>none
theorem tq:An N 56 @nq:=by
 intro R Q a h k j;unfold nq;split;exact Ax (tp ..) (tp ..) ⟨Gb N,Sm N,trivial⟩;exact Az
def YE:=Ay (tq N)
def YF:=Ca (tq N)
def lA (c:Int) (b:LA) (d:Bool) (r0:LA→O R):O R :=
 (Cb N c (fun f=>(cond (Nat.ble 3 (b.length)) (QK N f false (b.take 3) d (fun e=>(cond ((Nat.beq 0 0)&&((Nat.beq (e.length) 3)&&(Nat.beq 3 3))) (cond (Nat.ble 3 (e.length)) (r0 (e.take 3)) none) none))) none)))
def TL:=(Ae (@lA R)).1
theorem YG:@TL R=@lA R:=(Ae _).2
def A9u:Dg:=[(60,Ga N),(82,Awt N)]
def Ace (F:KF R):LA→O R:=(fun g=>F (.pagg g false) [])
theorem Acf (c:Int) (b:LA) (d:Bool) (F:KF R):Cd (A9u N) Lu N 86 [(iv c),(.pagg b d)] [] F=(TL N c b d (Ace F)):=by
 rw[YG]
 kernel_rfl
def tt (a:LA) (h:Ak) (k:KF R):O R :=
 match a,h with
 | [(.int .i64 c),(.pagg b d)],[]=>(TL N c b d (Ace k))
 | _,_=>none
theorem Acg:An N 86 @tt:=by
 intro R Q a h k j;unfold tt;split;exact Ax (Acf ..) (Acf ..) ⟨Gb N,Awu N,trivial⟩;exact Az
def Ach:=Ay (Acg N)
def Aci:=Ca (Acg N)
def Mj (r0:LA→O R) (f:LA) (g:Nat) (c:Bool) (k0:Int→Int→LA→LA→O R) (i d:Int) (e b:LA):O R :=
 (cond (decide (d<i)) (cond (Ac d g) (cond (Nat.ble 2 ((f.drop ((d.toNat)*2)).length)) (cond ((!c)||(A8 ((f.drop ((d.toNat)*2)).take 2))) (cond ((Nat.beq (((f.drop ((d.toNat)*2)).take 2).length) 2)&&((Nat.ble 2 2)&&(!false))) (cond (Nat.ble 3 (e.length)) (Ti N (e.take 3) false (fun u=>(cond (decide (u≤0)) (cond (Nat.ble 3 (b.length)) (cond ((Nat.beq 0 0)&&((Nat.beq ((b.take 3).length) 3)&&(Nat.beq 3 3))) (cond (Nat.ble 3 ((b.take 3).length)) (r0 ((b.take 3).take 3)) none) none) none) (cond (Nat.ble 3 (e.length)) (Ao .i64 (setCells [(.int .i64 0),(.int .i64 0)] 0 ((f.drop ((d.toNat)*2)).take 2)) fun v=>(Cb N v (fun w=>(yL N (e.take 3) false w false (fun p=>(cond ((Nat.beq 0 0)&&((Nat.beq (p.length) 3)&&(Nat.beq 3 3))) (cond (Nat.ble 3 (b.length)) (Ao .i64 ((setCells [(.int .i64 0),(.int .i64 0)] 0 ((f.drop ((d.toNat)*2)).take 2)).drop 1) fun x=>(cond (Nat.ble 3 (p.length)) (TL N x (p.take 3) false (fun y=>(Ok N (b.take 3) false y false (fun q=>(cond ((Nat.beq (q.length) 3)&&((Nat.ble 3 (b.length))&&(!false))) (cond (Nat.ble 3 (e.length)) (cond (Nat.ble 3 (p.length)) (IY N (e.take 3) false (p.take 3) false (fun r=>(cond ((Nat.beq (r.length) 3)&&((Nat.ble 3 (e.length))&&(!false))) (k0 i (wrap .i64 (d+1)) (setCells e 0 r) (setCells b 0 q)) none))) none) none) none))))) none)) none) none)))))) none)))) none) none) none) none) none) (cond (Nat.ble 3 (b.length)) (cond ((Nat.beq 0 0)&&((Nat.beq ((b.take 3).length) 3)&&(Nat.beq 3 3))) (cond (Nat.ble 3 ((b.take 3).length)) (r0 ((b.take 3).take 3)) none) none) none))
def E8 (r0:LA→O R) (f:LA) (g:Nat) (c:Bool):Nat→Int→Int→LA→LA→O R
 | 0,_,_,_,_=>none
 | n+1,i,d,e,b=>(Mj N r0 f g c (E8 r0 f g c n) i d e b)
def Tk (r0:LA→O R) (q0:LA→Nat→Int→Int→LA→LA→O R) (l:LA) (c:Bool) (m:LA) (o:Bool):O R :=
 (cond (Nat.ble 3 (m.length)) (Ao .i64 (l.drop 2) fun z=>(Cb N z (fun aa=>(IY N (m.take 3) o aa false (fun s=>(cond ((Nat.beq 0 0)&&((Nat.beq (s.length) 3)&&(Nat.beq 3 3))) (Cb N 0 (fun t=>(cond ((Nat.beq 0 0)&&((Nat.beq (t.length) 3)&&(Nat.beq 3 3))) (B9 2 (l.drop 4) fun f g=>(q0 f g ((g:Nat):Int) 0 s t)) none))) none)))))) none)
def Ig:=(Ae (fun (N:Nat) (l:LA) (c:Bool) (m:LA) (o:Bool) (r0:LA→O R)=>(Tk N r0 (fun f g i d e b=>(E8 N r0 f g c N i d e b)) l c m o))).1
theorem IZ (l c m o r0):(@Ig R N l c m o r0)=(Tk N r0 (fun f g i d e b=>(E8 N r0 f g c N i d e b)) l c m o):=by rw[Ig,(Ae _).2]
def NP:Hints:={ H:=(hS hL (hS hL (hS hL (hS (hS hL (hS (hP [4,5,6,17,18,19] hL) hL)) hL)))),modes:=[(3,0)] }
def TM:Dg:=[(60,Ga N),(83,yJ N),(95,XG N),(96,Be2 N),(86,Ach N),(81,GM N)]
def tw (F:KF R):=Hp Tryz.f57 NP (TM N) [] N F
def Jm (F:KF R):LA→O R:=(fun ab=>F (.pagg ab false) [])
def tz (f:LA) (g:Nat) (c:Bool) (i d:Int) (e b:LA):St:=⟨[(4,(op 0)),(5,(op 1)),(6,(op 2)),(17,(.imm f g 2 false c)),(18,(iv i)),(19,(iv d))],(hq [⟨false,false,false,false,0,[(.bool false),.nsl,.nsl],false⟩,(bQ 0 e),(bQ 0 b)])⟩
def uA (F:KF R):=tw N F [1,1,1,0,1,0] []
theorem AS (F:KF R) (f:LA) (g:Nat) (c:Bool):∀ (n:Nat) (i d:Int) (e b:LA),Ap (uA N F) n (tz f g c i d e b)=(E8 N (Jm F) f g c n i d e b)
 | 0,_,_,_,_=>by kernel_rfl
 | n+1,i,d,e,b=>Eq.trans (by kernel_rfl) (Bm (Mj N (Jm F) f g c · i d e b) (funext fun i=>funext fun d=>funext fun e=>funext fun b=>(AS F f g c n i d e b)):_)
theorem NQ (l:LA) (c:Bool) (m:LA) (o:Bool) (F:KF R):Cd (TM N) NP N 57 [(.pagg l c),(.pagg m o)] [] F=(Ig N l c m o (Jm F)):=by
 rw[IZ]
 exact Eq.trans (by kernel_rfl) (Bm (Tk N (Jm F) · l c m o) (funext fun f=>funext fun g=>funext fun i=>funext fun d=>funext fun e=>funext fun b=>(Ai ..).trans (AS N F f g c N i d e b)):_)
def I_ (a:LA) (h:Ak) (k:KF R):O R :=
 match a,h with
 | [(.pagg l c),(.pagg m o)],[]=>(Ig N l c m o (Jm k))
 | _,_=>none
theorem NR:An N 57 @I_:=by
 intro R Q a h k j;unfold I_;split;exact Ax (NQ ..) (NQ ..) ⟨Gb N,yK N,XH N,Be3 N,Aci N,GN N,trivial⟩;exact Az
def NS:=Ay (NR N)
def NT:=Ca (NR N)
def CJ (b:LA) (d:Bool) (c:LA) (e:Bool) (r0:LA→Int→O R):O R :=
 (cond (Nat.ble 22 (b.length)) (V1 N (b.take 22) d 24 (fun g=>(cond (!g) (r0 [(.bool false),.nsl,.nsl] 1) (cond (Nat.ble 3 (c.length)) (Ao .i64 (b.drop 2) fun i=>(Ao .i64 (b.drop 3) fun l=>(Yh N (c.take 3) e i l (fun m=>(cond (!m) (r0 [(.bool false),.nsl,.nsl] 3) (cond (Nat.ble 22 (b.length)) (cond (Nat.ble 3 (c.length)) (Ig N (b.take 22) d (c.take 3) e (fun f=>(cond ((Nat.beq 0 0)&&((Nat.beq (f.length) 3)&&(Nat.beq 3 3))) (cond (Nat.ble 3 (f.length)) (r0 (f.take 3) 0) none) none))) none) none)))))) none)))) none)
def Pm:=(Ae (@CJ R)).1
theorem JA:@Pm R=@CJ R:=(Ae _).2
def yO:Dg:=[(16,ND N),(56,YE N),(57,NS N)]
def NU (F:KF R):LA→Int→O R:=(fun n o=>F (.tup [(.pagg n false),(iv o)]) [])
theorem NV (b:LA) (d:Bool) (c:LA) (e:Bool) (F:KF R):Cd (yO N) Bg8 N 21 [(.pagg b d),(.pagg c e)] [] F=(Pm N b d c e (NU F)):=by
 rw[JA]
 kernel_rfl
def JB (a:LA) (h:Ak) (k:KF R):O R :=
 match a,h with
 | [(.pagg b d),(.pagg c e)],[]=>(Pm N b d c e (NU k))
 | _,_=>none
theorem NW:An N 21 @JB:=by
 intro R Q a h k j;unfold JB;split;exact Ax (NV ..) (NV ..) ⟨NE N,YF N,NT N,trivial⟩;exact Az
def uB:=Ay (NW N)
def uC:=Ca (NW N)
def Pn (k1:Bool→Bool→Int→Int→Int→LA→LA→O R) (r0:LA→LA→Bool→Bool→O R) (l:Bool) (s t:Int) (g:LA) (m:Nat) (d:Bool) (i e:Int) (c:Bool) (b f:LA) (u:Bool) (v:Int) (w x:LA):O R :=
 (cond ((decide (s≥0))==true) (cond (cond true (decide (t<0)) false) (Ao .i64 (x.drop 1) fun ab=>(Cb N ab (fun z=>(cond ((Nat.beq (z.length) 3)&&((Nat.ble 3 (f.length))&&(!false))) (k1 u true v i (wrap .i64 (e+1)) w (setCells f 0 z)) none)))) (k1 u l v i (wrap .i64 (e+1)) w f)) (k1 u l v i (wrap .i64 (e+1)) w f))
def Tl (r0:LA→LA→Bool→Bool→O R) (g:LA) (m:Nat) (d c:Bool) (b:LA) (k1:Bool→Bool→Int→Int→Int→LA→LA→O R) (q2:Int→Int→Bool→Int→LA→LA→O R) (r l:Bool) (q i e:Int) (p f:LA):O R :=
 (cond (decide (e<i)) (cond (Ac e m) (cond (Nat.ble 2 ((g.drop ((e.toNat)*2)).length)) (cond ((!d)||(A8 ((g.drop ((e.toNat)*2)).take 2))) (cond ((Nat.beq (((g.drop ((e.toNat)*2)).take 2).length) 2)&&((Nat.ble 2 2)&&(!false))) (Ao .i64 (setCells [(.int .i64 0),(.int .i64 0)] 0 ((g.drop ((e.toNat)*2)).take 2)) fun y=>(cond (Nat.ble 3 (b.length)) (Cb N q (fun ac=>(Fx N (b.take 3) c ac false (fun s=>(cond (Nat.ble 3 (b.length)) (Cb N (wrap .i64 (q+y)) (fun ad=>(Fx N (b.take 3) c ad false (fun t=>(cond ((decide (s>0))==true) (cond (cond true (decide (t≤0)) false) (Ao .i64 ((setCells [(.int .i64 0),(.int .i64 0)] 0 ((g.drop ((e.toNat)*2)).take 2)).drop 1) fun ae=>(Cb N ae (fun aa=>(cond ((Nat.beq (aa.length) 3)&&((Nat.ble 3 (p.length))&&(!false))) (q2 s t true (wrap .i64 (q+y)) (setCells p 0 aa) (setCells [(.int .i64 0),(.int .i64 0)] 0 ((g.drop ((e.toNat)*2)).take 2))) none)))) (q2 s t r (wrap .i64 (q+y)) p (setCells [(.int .i64 0),(.int .i64 0)] 0 ((g.drop ((e.toNat)*2)).take 2)))) (q2 s t r (wrap .i64 (q+y)) p (setCells [(.int .i64 0),(.int .i64 0)] 0 ((g.drop ((e.toNat)*2)).take 2)))))))) none))))) none)) none) none) none) none) (cond (Nat.ble 3 (p.length)) (cond (Nat.ble 3 (f.length)) (cond ((Nat.beq ((p.take 3).length) 3)&&((Nat.ble 3 (p.length))&&(!false))) (cond ((Nat.beq ((f.take 3).length) 3)&&((Nat.ble 3 (f.length))&&(!false))) (cond (Nat.ble 3 ((setCells p 0 (p.take 3)).length)) (cond (Nat.ble 3 ((setCells f 0 (f.take 3)).length)) (r0 ((setCells p 0 (p.take 3)).take 3) ((setCells f 0 (f.take 3)).take 3) r l) none) none) none) none) none) none))
def Gm (r0:LA→LA→Bool→Bool→O R) (g:LA) (m:Nat) (d c:Bool) (b:LA):Nat→Bool→Bool→Int→Int→Int→LA→LA→O R
 | 0,_,_,_,_,_,_,_=>none
 | n+1,r,l,q,i,e,p,f=>(Tl N r0 g m d c b (Gm r0 g m d c b n) (fun s t u v w x=>(Pn N (Gm r0 g m d c b n) r0 l s t g m d i e c b f u v w x)) r l q i e p f)
def CK (N:Nat) (r0:LA→LA→Bool→Bool→O R) (d:Bool) (o:LA) (c:Bool) (b:LA) (q1:LA→Nat→Bool→Bool→Int→Int→Int→LA→LA→O R):O R :=
 (Ao .i64 (o.drop 2) fun af=>(B9 2 (o.drop 4) fun g m=>(q1 g m false false af ((m:Nat):Int) 0 [(.bool false),.nsl,.nsl] [(.bool false),.nsl,.nsl])))
def V8 (r0:LA→LA→Bool→Bool→O R) (d:Bool) (o:LA) (c:Bool) (b:LA):O R:=(CK N r0 d o c b (fun g m r l q i e p f=>(Gm N r0 g m d c b N r l q i e p f)))
def FD (r0:LA→LA→Bool→Bool→O R) (q0:O R) (o:LA) (d:Bool) (b:LA) (c:Bool):O R :=
 (cond (Nat.ble 22 (o.length)) (V1 N (o.take 22) d 24 (fun ag=>(cond ((!ag)==false) (cond (Nat.ble 3 (b.length)) (Ao .i64 (o.drop 2) fun ah=>(Ao .i64 (o.drop 3) fun ai=>(Yh N (b.take 3) c ah ai (fun aj=>(cond (cond false true (!aj)) (r0 [(.bool false),.nsl,.nsl] [(.bool false),.nsl,.nsl] false false) q0))))) none) (r0 [(.bool false),.nsl,.nsl] [(.bool false),.nsl,.nsl] false false)))) none)
def U5:=(Ae (fun (N:Nat) (o:LA) (d:Bool) (b:LA) (c:Bool) (r0:LA→LA→Bool→Bool→O R)=>(FD N r0 (V8 N r0 d o c b) o d b c))).1
theorem bV (o d b c r0):(@U5 R N o d b c r0)=(FD N r0 (V8 N r0 d o c b) o d b c):=by rw[U5,(Ae _).2]
def gc:Hints:={ H:=(hS hL (hJ [2,3,4,5,6,7] hL (hS hL (hS (hS hL (hS (hP [3,4,5,6,7,8,31,32,33] (hS hL (hS hL (hS (hS (hS hL (hS hL (hS hL (hS hL (hJ [3,4,5,6,7,10,11,12,13,31,32,33] hL hL))))) hL) hL)))) hL)) hL)))),modes:=[(3,0),(3,0),(0,0),(0,0)],cob:=[4,5,10] }
def nr:Dg:=[(16,ND N),(56,YE N),(60,Ga N),(59,Sk N)]
def JC (F:KF R):=Hp Tryz.f23 gc (nr N) [] N F
def E9 (F:KF R):LA→LA→Bool→Bool→O R:=(fun ak al am an=>F (.tup [(.pagg ak false),(.pagg al false),(.bool am),(.bool an)]) [])
def Am4 (l:Bool) (s t:Int) (g:LA) (m:Nat) (d:Bool) (i e:Int) (c:Bool) (b f:LA) (u:Bool) (v:Int) (w x:LA):St:=⟨[(3,(op 0)),(4,(op 1)),(5,(op 2)),(6,(.bool u)),(7,(.bool l)),(10,(op 3)),(11,(iv v)),(12,(iv s)),(13,(iv t)),(31,(.imm g m 2 false d)),(32,(iv i)),(33,(iv e))],(hq [(bP c 0 b),(bQ 0 w),(bQ 0 f),(bQ 0 x)])⟩
def Am5 (F:KF R) (Q1:St→O R):=JC N F [1,1,1,0,1,0,0,1,1,0,0,1,1,1,1,1] [Q1]
def ge (g:LA) (m:Nat) (d c:Bool) (b:LA) (r l:Bool) (q i e:Int) (p f:LA):St:=⟨[(3,(op 0)),(4,(op 1)),(5,(op 2)),(6,(.bool r)),(7,(.bool l)),(8,(iv q)),(31,(.imm g m 2 false d)),(32,(iv i)),(33,(iv e))],(hq [(bP c 0 b),(bQ 0 p),(bQ 0 f)])⟩
def gf (F:KF R):=JC N F [1,1,1,0,1,0] []
def Am6 (d:Bool) (o:LA) (c:Bool) (b:LA):St:=⟨[(2,(op 0)),(3,(op 1)),(4,(op 2)),(5,(op 3)),(6,(.bool false)),(7,(.bool false))],(hq [(bP d 0 o),(bP c 0 b),(bQ 0 [(.bool false),.nsl,.nsl]),(bQ 0 [(.bool false),.nsl,.nsl])])⟩
def Am7 (F:KF R):=JC N F [1,1] []
theorem uD (Q1:St→O R) (F:KF R) (l:Bool) (s t:Int) (g:LA) (m:Nat) (d:Bool) (i e:Int) (c:Bool) (b f:LA):∀ (u:Bool) (v:Int) (w x:LA),A9 (Am5 N F Q1) (Am4 l s t g m d i e c b f u v w x)=(Pn N (fun r l q i e p f=>Q1 (ge g m d c b r l q i e p f)) (E9 F) l s t g m d i e c b f u v w x):=by
 intro u v w x
 kernel_rfl
theorem NX (F:KF R) (g:LA) (m:Nat) (d c:Bool) (b:LA):∀ (n:Nat) (r l:Bool) (q i e:Int) (p f:LA),Ap (gf N F) n (ge g m d c b r l q i e p f)=(Gm N (E9 F) g m d c b n r l q i e p f)
 | 0,_,_,_,_,_,_,_=>by kernel_rfl
 | n+1,r,l,q,i,e,p,f=>have e0:=(funext fun r=>funext fun l=>funext fun q=>funext fun i=>funext fun e=>funext fun p=>funext fun f=>(NX F g m d c b n r l q i e p f))
  Eq.trans (by kernel_rfl) (fQ (Tl N (E9 F) g m d c b · · r l q i e p f) e0 (funext fun s=>funext fun t=>funext fun u=>funext fun v=>funext fun w=>funext fun x=>(Aq ..).trans ((uD N (Ap (gf N F) n) F l s t g m d i e c b f u v w x).trans (Bm (Pn N · (E9 F) l s t g m d i e c b f u v w x) e0))):_)
theorem uE (F:KF R) (d:Bool) (o:LA) (c:Bool) (b:LA):A9 (Am7 N F) (Am6 d o c b)=(V8 N (E9 F) d o c b):=by
 exact Eq.trans (by kernel_rfl) (Bm (CK N (E9 F) d o c b ·) (funext fun g=>funext fun m=>funext fun r=>funext fun l=>funext fun q=>funext fun i=>funext fun e=>funext fun p=>funext fun f=>(Ai ..).trans (NX N F g m d c b N r l q i e p f)):_)
theorem gh (o:LA) (d:Bool) (b:LA) (c:Bool) (F:KF R):Cd (nr N) gc N 23 [(.pagg o d),(.pagg b c)] [] F=(U5 N o d b c (E9 F)):=by
 rw[bV]
 exact Eq.trans (by kernel_rfl) (Bm (FD N (E9 F) · o d b c) ((Aq ..).trans (uE N F d o c b)):_)
def bW (a:LA) (h:Ak) (k:KF R):O R :=
 match a,h with
 | [(.pagg o d),(.pagg b c)],[]=>(U5 N o d b c (E9 k))
 | _,_=>none
theorem gi:An N 23 @bW:=by
 intro R Q a h k j;unfold bW;split;exact Ax (gh ..) (gh ..) ⟨NE N,YF N,Gb N,Sm N,trivial⟩;exact Az
def Am8:=Ay (gi N)
def Am9:=Ca (gi N)
def NY (N:Nat) (r0:LA→O R) (e:LA) (d:Nat) (b:Bool) (k0:Int→Int→LA→O R) (f c:Int) (g:LA):O R :=
 (cond (decide (c<f)) (cond (Ac c d) (Ao .i64 (e.drop ((c.toNat)*1)) fun l=>(k0 f (wrap .i64 (c+1)) (A70 g l))) none) (r0 g))
def Ua (r0:LA→O R) (e:LA) (d:Nat) (b:Bool):Nat→Int→Int→LA→O R
 | 0,_,_,_=>none
 | n+1,f,c,g=>(NY N r0 e d b (Ua r0 e d b n) f c g)
def uF (N:Nat) (r0:LA→O R) (q0:LA→Nat→Int→Int→LA→O R) (i:LA) (b:Bool):O R :=
 (B9 1 (i.drop 18) fun e d=>(q0 e d ((d:Nat):Int) 0 []))
def YH:=(Ae (fun (N:Nat) (i:LA) (b:Bool) (r0:LA→O R)=>(uF N r0 (fun e d f c g=>(Ua N r0 e d b N f c g)) i b))).1
theorem gj (i b r0):(@YH R N i b r0)=(uF N r0 (fun e d f c g=>(Ua N r0 e d b N f c g)) i b):=by rw[YH,(Ae _).2]
def Ana:Hints:={ H:=(hS hL (hS hL (hS (hS hL (hS (hP [3,8,9,10] hL) hL)) hL))) }
def A9v (F:KF R):=Hp Tryz.f117 Ana [] [] N F
def JD (F:KF R):LA→O R:=(fun m=>F (.omap 300000) (hq [⟨false,false,true,false,0,m,true⟩]))
def A9w (e:LA) (d:Nat) (b:Bool) (f c:Int) (g:LA):St:=⟨[(3,(.omap 300000)),(8,(.imm e d 1 false b)),(9,(iv f)),(10,(iv c))],(hq [⟨false,false,true,false,0,g,true⟩])⟩
def A9x (F:KF R):=A9v N F [1,1,0,1,0] []
theorem nv (F:KF R) (e:LA) (d:Nat) (b:Bool):∀ (n:Nat) (f c:Int) (g:LA),Ap (A9x N F) n (A9w e d b f c g)=(Ua N (JD F) e d b n f c g)
 | 0,_,_,_=>by kernel_rfl
 | n+1,f,c,g=>Eq.trans (by kernel_rfl) (Bm (NY N (JD F) e d b · f c g) (funext fun f=>funext fun c=>funext fun g=>(nv F e d b n f c g)):_)
theorem Anb (i:LA) (b:Bool) (F:KF R):Cd [] Ana N 117 [(.pagg i b)] [] F=(YH N i b (JD F)):=by
 rw[gj]
 exact Eq.trans (by kernel_rfl) (Bm (uF N (JD F) · i b) (funext fun e=>funext fun d=>funext fun f=>funext fun c=>funext fun g=>(Ai ..).trans (nv N F e d b N f c g)):_)
def Acj (a:LA) (h:Ak) (k:KF R):O R :=
 match a,h with
 | [(.pagg i b)],[]=>(YH N i b (JD k))
 | _,_=>none
theorem Anc:An N 117 @Acj:=by
 intro R Q a h k j;unfold Acj;split;exact Ax (Anb ..) (Anb ..) trivial;exact Az
def A9y:=Ay (Anc N)
def A9z:=Ca (Anc N)
def uG (b:LA) (c:Bool) (r0:Int→Int→O R):O R :=
 (cond (Nat.ble 22 (b.length)) (Ph N (b.take 22) c (fun d=>(cond (!d) (r0 0 0) (Ao .i64 (b.drop 11) fun e=>(Ao .i64 (b.drop 15) fun f=>(Ao .i64 (b.drop 10) fun g=>(r0 (Ix (Ix e (wrap .i64 (f+1))) 1) (Ix g 1)))))))) none)
def NZ:=(Ae (@uG R)).1
theorem gk:@NZ R=@uG R:=(Ae _).2
def Bfe:Dg:=[(48,AN N)]
def And (F:KF R):Int→Int→O R:=(fun i l=>F (.tup [(iv i),(iv l)]) [])
theorem Ane (b:LA) (c:Bool) (F:KF R):Cd (Bfe N) C6 N 136 [(.pagg b c)] [] F=(NZ N b c (And F)):=by
 rw[gk]
 kernel_rfl
def Ack (a:LA) (h:Ak) (k:KF R):O R :=
 match a,h with
 | [(.pagg b c)],[]=>(NZ N b c (And k))
 | _,_=>none
theorem Anf:An N 136 @Ack:=by
 intro R Q a h k j;unfold Ack;split;exact Ax (Ane ..) (Ane ..) ⟨AO N,trivial⟩;exact Az
def qy:=Ay (Anf N)
def qz:=Ca (Anf N)
def N_ (b:LA) (c:Bool) (r0:LA→O R):O R :=
 (cond (Nat.ble 22 (b.length)) (Ph N (b.take 22) c (fun f=>(cond (!f) (r0 [(.int .i64 0),(.int .i64 0)]) (cond (Nat.ble 22 (b.length)) (NZ N (b.take 22) c (fun g i=>(Ao .i64 (b.drop 19) fun d=>(Ao .i64 (b.drop 20) fun e=>(cond (d==0) (r0 [(.int .i64 d),(.int .i64 (By e g))]) (cond (d==2) (r0 [(.int .i64 d),(.int .i64 (By e i))]) (r0 [(.int .i64 d),(.int .i64 e)]))))))) none)))) none)
def Ub:=(Ae (@N_ R)).1
theorem JE:@Ub R=@N_ R:=(Ae _).2
def A0c:Dg:=[(48,AN N),(136,qy N)]
def nw (F:KF R):LA→O R:=(fun l=>F (.pagg l false) [])
theorem ny (b:LA) (c:Bool) (F:KF R):Cd (A0c N) Lu N 84 [(.pagg b c)] [] F=(Ub N b c (nw F)):=by
 rw[JE]
 kernel_rfl
def gn (a:LA) (h:Ak) (k:KF R):O R :=
 match a,h with
 | [(.pagg b c)],[]=>(Ub N b c (nw k))
 | _,_=>none
theorem nz:An N 84 @gn:=by
 intro R Q a h k j;unfold gn;split;exact Ax (ny ..) (ny ..) ⟨AO N,qz N,trivial⟩;exact Az
def oC:=Ay (nz N)
def oD:=Ca (nz N)
def JF (N:Nat) (r0:Int→O R) (f g:Int) (d:Bool) (c:LA) (e:Bool) (b:LA) (l:Bool):O R :=
 (cond l (Ao .i64 (b.drop 1) fun m=>(r0 (wrap .i64 ((wrap .i64 (f+m)) - 1)))) (Ao .i64 b fun n=>(cond ((n==2)==true) (Ao .i64 (b.drop 1) fun o=>(cond (cond true (decide (o≤g)) false) (Ao .i64 (c.drop 12) fun p=>(Ao .i64 (b.drop 1) fun q=>(r0 (wrap .i64 ((wrap .i64 ((wrap .i64 (f+p))+q)) - 1))))) (r0 (-1)))) (r0 (-1)))))
def CL (N:Nat) (r0:Int→O R) (f g:Int) (d:Bool) (c:LA) (e:Bool) (b:LA) (q2:Bool→O R) (i:Bool):O R :=
 (cond i (Ao .i64 (b.drop 1) fun r=>(r0 (wrap .i64 (r - 1)))) (Ao .i64 b fun s=>(cond ((s==1)==true) (Ao .i64 (b.drop 1) fun t=>(Ao .i64 (c.drop 12) fun u=>(q2 (cond true (decide (t≤u)) false)))) (q2 false))))
def JG (r0:Int→O R) (f g:Int) (d:Bool) (c:LA) (e:Bool) (b:LA) (i:Bool):O R:=(CL N r0 f g d c e b (fun l=>(JF N r0 f g d c e b l)) i)
def Tm (r0:Int→O R) (d:Bool) (c:LA) (e:Bool) (b:LA) (q1:Int→Int→Bool→O R):O R :=
 (cond (Nat.ble 22 (c.length)) (NZ N (c.take 22) d (fun f g=>(Ao .i64 b fun v=>(cond ((v==0)==true) (Ao .i64 (b.drop 1) fun w=>(q1 f g (cond true (decide (w≤f)) false))) (q1 f g false))))) none)
def Po (r0:Int→O R) (d:Bool) (c:LA) (e:Bool) (b:LA):O R:=(Tm N r0 d c e b (fun f g i=>(JG N r0 f g d c e b i)))
def V9 (r0:Int→O R) (q0:O R) (c:LA) (d:Bool) (b:LA) (e:Bool):O R :=
 (cond (Nat.ble 22 (c.length)) (Ph N (c.take 22) d (fun x=>(cond ((!x)==false) (Ao .i64 (b.drop 1) fun y=>(cond (cond false true (decide (y<1))) (r0 (-1)) q0)) (r0 (-1))))) none)
def Lz:=(Ae (fun (N:Nat) (c:LA) (d:Bool) (b:LA) (e:Bool) (r0:Int→O R)=>(V9 N r0 (Po N r0 d c e b) c d b e))).1
theorem CM (c d b e r0):(@Lz R N c d b e r0)=(V9 N r0 (Po N r0 d c e b) c d b e):=by rw[Lz,(Ae _).2]
def gp:Hints:={ H:=(hS hL (hJ [2,3] hL (hS hL (hS (hS (hJ [2,3,5,6,20] hL (hS hL (hJ [2,3,5,6,33] hL hL))) hL) hL)))) }
def oE:Dg:=[(48,AN N),(136,qy N)]
def JH (F:KF R):=Hp Tryz.f167 gp (oE N) [] N F
def Gn (F:KF R):Int→O R:=(fun z=>F (iv z) [])
def Ang (f g:Int) (d:Bool) (c:LA) (e:Bool) (b:LA) (l:Bool):St:=⟨[(2,(op 0)),(3,(op 1)),(5,(iv f)),(6,(iv g)),(33,(.bool l))],(hq [(bP d 0 c),(bP e 0 b)])⟩
def Anh (F:KF R):=JH N F [1,1,1,0,0,1,1,1] []
def Ani (f g:Int) (d:Bool) (c:LA) (e:Bool) (b:LA) (i:Bool):St:=⟨[(2,(op 0)),(3,(op 1)),(5,(iv f)),(6,(iv g)),(20,(.bool i))],(hq [(bP d 0 c),(bP e 0 b)])⟩
def Anj (F:KF R):=JH N F [1,1,1,0,0,1] []
def Ank (d:Bool) (c:LA) (e:Bool) (b:LA):St:=⟨[(2,(op 0)),(3,(op 1))],(hq [(bP d 0 c),(bP e 0 b)])⟩
def Anl (F:KF R):=JH N F [1,1] []
theorem uH (F:KF R) (f g:Int) (d:Bool) (c:LA) (e:Bool) (b:LA):∀ (l:Bool),A9 (Anh N F) (Ang f g d c e b l)=(JF N (Gn F) f g d c e b l):=by
 intro l
 kernel_rfl
theorem uI (F:KF R) (f g:Int) (d:Bool) (c:LA) (e:Bool) (b:LA):∀ (i:Bool),A9 (Anj N F) (Ani f g d c e b i)=(JG N (Gn F) f g d c e b i):=by
 intro i
 exact Eq.trans (by kernel_rfl) (Bm (CL N (Gn F) f g d c e b · i) (funext fun l=>(Aq ..).trans (uH N F f g d c e b l)):_)
theorem uJ (F:KF R) (d:Bool) (c:LA) (e:Bool) (b:LA):A9 (Anl N F) (Ank d c e b)=(Po N (Gn F) d c e b):=by
 exact Eq.trans (by kernel_rfl) (Bm (Tm N (Gn F) d c e b ·) (funext fun f=>funext fun g=>funext fun i=>(Aq ..).trans (uI N F f g d c e b i)):_)
theorem gq (c:LA) (d:Bool) (b:LA) (e:Bool) (F:KF R):Cd (oE N) gp N 167 [(.pagg c d),(.pagg b e)] [] F=(Lz N c d b e (Gn F)):=by
 rw[CM]
 exact Eq.trans (by kernel_rfl) (Bm (V9 N (Gn F) · c d b e) ((Aq ..).trans (uJ N F d c e b)):_)
def bX (a:LA) (h:Ak) (k:KF R):O R :=
 match a,h with
 | [(.pagg c d),(.pagg b e)],[]=>(Lz N c d b e (Gn k))
 | _,_=>none
theorem gt:An N 167 @bX:=by
 intro R Q a h k j;unfold bX;split;exact Ax (gq ..) (gq ..) ⟨AO N,qz N,trivial⟩;exact Az
def Anm:=Ay (gt N)
def Ann:=Ca (gt N)
def YI (N:Nat) (r0:LA→Nat→O R) (d:Bool) (c:LA) (e:Bool) (b:LA) (g:Bool) (f:LA):O R :=
 (cond g (r0 (List.take 4 ((f.take 2)++[(.int .i64 1),(.int .i64 1)])) 2) (Ao .i64 (b.drop 1) fun o=>(Ao .i64 (c.drop 11) fun p=>(cond (decide (o≥p)) (r0 (List.take 4 ((f.take 2)++[(.int .i64 2),(.int .i64 1)])) 2) (r0 (f.take 2) 1)))))
def gv (r0:LA→Nat→O R) (q0:Bool→LA→O R) (c:LA) (d:Bool) (b:LA) (e:Bool):O R :=
 (cond (Nat.ble 22 (c.length)) (cond (Nat.ble 2 (b.length)) (cond ((!e)||(A8 (b.take 2))) (Lz N (c.take 22) d (b.take 2) false (fun q=>(cond (decide (q<0)) (r0 [] 0) (cond (Nat.ble 22 (c.length)) (NZ N (c.take 22) d (fun l m=>(Ao .i64 b fun i=>(cond (i==0) (Ao .i64 (b.drop 1) fun n=>(Ao .i64 (b.drop 1) fun r=>(Ao .i64 (c.drop 11) fun s=>(cond ((decide (r≥s))==true) (Ao .i64 (c.drop 12) fun t=>(q0 (cond true (decide (t>0)) false) [(.int .i64 0),(.int .i64 (By (wrap .i64 (n+1)) l))])) (q0 false [(.int .i64 0),(.int .i64 (By (wrap .i64 (n+1)) l))]))))) (cond (i==1) (Ao .i64 (b.drop 1) fun u=>(Ao .i64 (c.drop 12) fun v=>(cond (decide (u<v)) (Ao .i64 (b.drop 1) fun w=>(r0 [(.int .i64 1),(.int .i64 (wrap .i64 (w+1)))] 1)) (r0 [(.int .i64 2),(.int .i64 1)] 1)))) (cond (i==2) (Ao .i64 (b.drop 1) fun x=>(Ao .i64 (c.drop 10) fun y=>(cond (decide (x≥y)) (Ao .i64 (b.drop 1) fun z=>(r0 [(.int .i64 0),(.int .i64 1),(.int .i64 2),(.int .i64 (By (wrap .i64 (z+1)) m))] 2)) (Ao .i64 (b.drop 1) fun aa=>(r0 [(.int .i64 2),(.int .i64 (By (wrap .i64 (aa+1)) m))] 1))))) (r0 [] 0))))))) none)))) none) none) none)
def Wa:=(Ae (fun (N:Nat) (c:LA) (d:Bool) (b:LA) (e:Bool) (r0:LA→Nat→O R)=>(gv N r0 (fun g f=>(YI N r0 d c e b g f)) c d b e))).1
theorem gw (c d b e r0):(@Wa R N c d b e r0)=(gv N r0 (fun g f=>(YI N r0 d c e b g f)) c d b e):=by rw[Wa,(Ae _).2]
def Ano:Hints:={ H:=(hS hL (hS hL (hS hL (hS hL (hS (hS hL (hS (hS hL (hS (hS hL (hJ [2,3,7,39] hL hL)) hL)) hL)) hL))))),nils:=[(4,2),(7,2)],modes:=[(1,2)] }
def Aw1:Dg:=[(167,Anm N),(136,qy N)]
def A90 (F:KF R):=Hp Tryz.f118 Ano (Aw1 N) [] N F
def YJ (F:KF R):LA→Nat→O R:=(fun ab ac=>F (.imm ab ac 2 false false) [])
def A91 (d:Bool) (c:LA) (e:Bool) (b:LA) (g:Bool) (f:LA):St:=⟨[(2,(op 0)),(3,(op 1)),(7,(.own 300002 0 1)),(39,(.bool g))],(hq [(bP d 0 c),(bP e 0 b),(bQ 2 f)])⟩
def A92 (F:KF R):=A90 N F [1,1,1,1,0,1,0,1,0,1,1] []
theorem As4 (F:KF R) (d:Bool) (c:LA) (e:Bool) (b:LA):∀ (g:Bool) (f:LA),A9 (A92 N F) (A91 d c e b g f)=(YI N (YJ F) d c e b g f):=by
 intro g f
 kernel_rfl
theorem Anp (c:LA) (d:Bool) (b:LA) (e:Bool) (F:KF R):Cd (Aw1 N) Ano N 118 [(.pagg c d),(.pagg b e)] [] F=(Wa N c d b e (YJ F)):=by
 rw[gw]
 exact Eq.trans (by kernel_rfl) (Bm (gv N (YJ F) · c d b e) (funext fun g=>funext fun f=>(Aq ..).trans (As4 N F d c e b g f)):_)
def Acl (a:LA) (h:Ak) (k:KF R):O R :=
 match a,h with
 | [(.pagg c d),(.pagg b e)],[]=>(Wa N c d b e (YJ k))
 | _,_=>none
theorem Anq:An N 118 @Acl:=by
 intro R Q a h k j;unfold Acl;split;exact Ax (Anp ..) (Anp ..) ⟨Ann N,qz N,trivial⟩;exact Az
def Anr:=Ay (Anq N)
def Ans:=Ca (Anq N)
def Acm (N:Nat) (c:LA) (d:Bool) (b:Int) (r0:Bool→O R):O R :=
 (Ao .i64 c fun e=>(r0 (e==b)))
def Mk:=(Ae (@Acm R)).1
theorem JI:@Mk R=@Acm R:=(Ae _).2
def oF (b:Int) (F:KF R):Bool→O R:=(fun f=>F (.bool f) [(100000,⟨false,false,false,false,0,[(iv b)],false⟩)])
theorem oG (c:LA) (d:Bool) (b:Int) (F:KF R):Cd [] C6 N 120 [(.pagg c d),(.optr 100000 0)] [(100000,⟨false,false,false,false,0,[(iv b)],false⟩)] F=(Mk N c d b (oF b F)):=by
 rw[JI]
 kernel_rfl
def gy (a:LA) (h:Ak) (k:KF R):O R :=
 match a,h with
 | [(.pagg c d),(.optr 100000 0)],[(100000,⟨false,false,false,false,0,[(.int .i64 b)],false⟩)]=>(Mk N c d b (oF b k))
 | _,_=>none
theorem oH:An N 120 @gy:=by
 intro R Q a h k j;unfold gy;split;exact Ax (oG ..) (oG ..) trivial;exact Az
def As5:=Ay (oH N)
def As6:=Ca (oH N)
def Bh (r0:Int→O R) (c:LA) (d:Nat) (f e:Bool) (b:Int) (k0:Int→Int→O R) (i g:Int):O R :=
 (cond (decide (g<i)) (cond (Ac g d) (cond (Nat.ble 2 ((c.drop ((g.toNat)*2)).length)) (cond ((!e)||(A8 ((c.drop ((g.toNat)*2)).take 2))) (Mk N ((c.drop ((g.toNat)*2)).take 2) false b (fun l=>(cond l (r0 g) (k0 i (wrap .i64 (g+1)))))) none) none) none) (r0 (-1)))
def A0 (r0:Int→O R) (c:LA) (d:Nat) (f e:Bool) (b:Int):Nat→Int→Int→O R
 | 0,_,_=>none
 | n+1,i,g=>(Bh N r0 c d f e b (A0 r0 c d f e b n) i g)
def Bn (N:Nat) (r0:Int→O R) (q0:Int→Int→O R) (c:LA) (d:Nat) (f e:Bool) (b:Int):O R :=
 (q0 ((d:Nat):Int) 0)
def Ar:=(Ae (fun (N:Nat) (c:LA) (d:Nat) (f e:Bool) (b:Int) (r0:Int→O R)=>(Bn N r0 (fun i g=>(A0 N r0 c d f e b N i g)) c d f e b))).1
theorem Bi (c d f e b r0):(@Ar R N c d f e b r0)=(Bn N r0 (fun i g=>(A0 N r0 c d f e b N i g)) c d f e b):=by rw[Ar,(Ae _).2]
def Eb:Hints:={ H:=(hS hL (hS (hS hL (hS (hP [0,1,7,8] hL) hL)) hL)) }
def Ej:Dg:=[(120,As5 N)]
def I4 (F:KF R):=Hp Tryz.f119 Eb (Ej N) [100000] N F
def Bb (b:Int) (F:KF R):Int→O R:=(fun m=>F (iv m) [(100000,⟨false,false,false,false,0,[(iv b)],false⟩)])
def I5 (c:LA) (d:Nat) (f e:Bool) (b i g:Int):St:=⟨[(0,(.imm c d 2 f e)),(1,(.fn 120 [(.optr 100000 0)])),(7,(iv i)),(8,(iv g))],[(100000,⟨false,false,false,false,0,[(iv b)],false⟩)]⟩
def I6 (F:KF R):=I4 N F [1,0,1,0] []
theorem Dl (F:KF R) (c:LA) (d:Nat) (f e:Bool) (b:Int):∀ (n:Nat) (i g:Int),Ap (I6 N F) n (I5 c d f e b i g)=(A0 N (Bb b F) c d f e b n i g)
 | 0,_,_=>by kernel_rfl
 | n+1,i,g=>Eq.trans (by kernel_rfl) (Bm (Bh N (Bb b F) c d f e b · i g) (funext fun i=>funext fun g=>(Dl F c d f e b n i g)):_)
theorem Ec (c:LA) (d:Nat) (f e:Bool) (b:Int) (F:KF R):Cd (Ej N) Eb N 119 [(.imm c d 2 f e),(.fn 120 [(.optr 100000 0)])] [(100000,⟨false,false,false,false,0,[(iv b)],false⟩)] F=(Ar N c d f e b (Bb b F)):=by
 rw[Bi]
 exact Eq.trans (by kernel_rfl) (Bm (Bn N (Bb b F) · c d f e b) (funext fun i=>funext fun g=>(Ai ..).trans (Dl N F c d f e b N i g)):_)
def D6 (a:LA) (h:Ak) (k:KF R):O R :=
 match a,h with
 | [(.imm c d 2 f e),(.fn 120 [(.optr 100000 0)])],[(100000,⟨false,false,false,false,0,[(.int .i64 b)],false⟩)]=>(Ar N c d f e b (Bb b k))
 | _,_=>none
theorem Ed:An N 119 @D6:=by
 intro R Q a h k j;unfold D6;split;exact Ax (Ec ..) (Ec ..) ⟨As6 N,trivial⟩;exact Az
def I7:=Ay (Ed N)
def I8:=Ca (Ed N)
end
end Gx

namespace Gx
open Go Go.Proofs
open IntKind (wrap)
set_option maxRecDepth 100000
noncomputable section
variable {R:Type} (N:Nat)
def N' (r0:Nat→Int→Int→LA→O R) (f:LA) (c:Nat) (g i d:Bool) (b q:LA) (k0:Nat→Int→Int→LA→LA→O R) (l:Nat) (o m:Int) (p e:LA):O R :=
 (cond (decide (m<o)) (cond (Ac m c) (Ao .i64 (f.drop ((m.toNat)*1)) fun u=>(cond (Nat.ble 22 (b.length)) (cond (Nat.ble 2 (e.length)) (Wa N (b.take 22) d (e.take 2) false (fun s t=>(Ar N s t false false u (fun r=>(cond ((decide (r<0))==false) (cond ((u != 0)==true) (cond (cond false true (cond true (rk q m) false)) (r0 0 m 16 []) (cond (Ac r t) (cond (Nat.ble 2 ((s.drop ((r.toNat)*2)).length)) (cond ((Nat.beq (((s.drop ((r.toNat)*2)).take 2).length) 2)&&((Nat.ble 2 (e.length))&&(!false))) (cond (Nat.ble 2 ((setCells e 0 ((s.drop ((r.toNat)*2)).take 2)).length)) (cond ((Nat.beq (((setCells e 0 ((s.drop ((r.toNat)*2)).take 2)).take 2).length) 2)&&(Nat.ble 2 2)) (cond ((Nat.ble (l+1) 140737488355328)&&(Nat.ble ((l+1)*16) 140737488355328)) (k0 (l+1) o (wrap .i64 (m+1)) ((p.take (l*2))++((setCells [(.int .i64 0),(.int .i64 0)] 0 ((setCells e 0 ((s.drop ((r.toNat)*2)).take 2)).take 2)).take 2)) (setCells e 0 ((s.drop ((r.toNat)*2)).take 2))) none) none) none) none) none) none)) (cond (Ac r t) (cond (Nat.ble 2 ((s.drop ((r.toNat)*2)).length)) (cond ((Nat.beq (((s.drop ((r.toNat)*2)).take 2).length) 2)&&((Nat.ble 2 (e.length))&&(!false))) (cond (Nat.ble 2 ((setCells e 0 ((s.drop ((r.toNat)*2)).take 2)).length)) (cond ((Nat.beq (((setCells e 0 ((s.drop ((r.toNat)*2)).take 2)).take 2).length) 2)&&(Nat.ble 2 2)) (cond ((Nat.ble (l+1) 140737488355328)&&(Nat.ble ((l+1)*16) 140737488355328)) (k0 (l+1) o (wrap .i64 (m+1)) ((p.take (l*2))++((setCells [(.int .i64 0),(.int .i64 0)] 0 ((setCells e 0 ((s.drop ((r.toNat)*2)).take 2)).take 2)).take 2)) (setCells e 0 ((s.drop ((r.toNat)*2)).take 2))) none) none) none) none) none) none)) (r0 0 m 16 [])))))) none) none)) none) (r0 l ((c:Nat):Int) 0 p))
def Pp (r0:Nat→Int→Int→LA→O R) (f:LA) (c:Nat) (g i d:Bool) (b q:LA):Nat→Nat→Int→Int→LA→LA→O R
 | 0,_,_,_,_,_=>none
 | n+1,l,o,m,p,e=>(N' N r0 f c g i d b q (Pp r0 f c g i d b q n) l o m p e)
def gz (r0:Nat→Int→Int→LA→O R) (q0:LA→Nat→Int→Int→LA→LA→O R) (b:LA) (d:Bool) (f:LA) (c:Nat) (g i:Bool):O R :=
 (cond (Nat.ble 22 (b.length)) (Ph N (b.take 22) d (fun w=>(cond (!w) (r0 0 0 1 []) (cond (Nat.ble 22 (b.length)) (YH N (b.take 22) d (fun q=>(cond ((decide ((0:Int)≤(0:Int)))&&((decide (0≤((c:Nat):Int)))&&((decide (((c:Nat):Int)≤140737488355328))&&(decide ((((c:Nat):Int)*((16:Nat):Int))≤140737488355328))))) (cond (Nat.ble 22 (b.length)) (Ub N (b.take 22) d (fun v=>(cond ((Nat.beq (v.length) 2)&&((Nat.ble 2 2)&&(!false))) (q0 q 0 ((c:Nat):Int) 0 [] (setCells [(.int .i64 0),(.int .i64 0)] 0 v)) none))) none) none))) none)))) none)
def FE:=(Ae (fun (N:Nat) (b:LA) (d:Bool) (f:LA) (c:Nat) (g i:Bool) (r0:Nat→Int→Int→LA→O R)=>(gz N r0 (fun q l o m p e=>(Pp N r0 f c g i d b q N l o m p e)) b d f c g i))).1
theorem hG (b d f c g i r0):(@FE R N b d f c g i r0)=(gz N r0 (fun q l o m p e=>(Pp N r0 f c g i d b q N l o m p e)) b d f c g i):=by rw[FE,(Ae _).2]
def Ant:Hints:={ H:=(hS hL (hS hL (hS hL (hS hL (hS hL (hS (hS hL (hS (hP [1,2,7,8,9,24,25,26] hL) hL)) hL)))))),nils:=[(4,2)],modes:=[(2,2),(0,0),(0,0)] }
def Aw2:Dg:=[(48,AN N),(117,A9y N),(84,oC N),(118,Anr N),(119,I7 N)]
def A93 (F:KF R):=Hp Tryz.f64 Ant (Aw2 N) [] N F
def JJ (F:KF R):Nat→Int→Int→LA→O R:=(fun x y z aa=>F (.tup [(.own 300000 0 x),(iv y),(iv z)]) (hq [(bQ 2 aa)]))
def A94 (f:LA) (c:Nat) (g i d:Bool) (b q:LA) (l:Nat) (o m:Int) (p e:LA):St:=⟨[(1,(.imm f c 1 g i)),(2,(op 0)),(7,(.omap 300001)),(8,(.own 300002 0 l)),(9,(op 3)),(24,(.imm f c 1 g i)),(25,(iv o)),(26,(iv m))],(hq [(bP d 0 b),⟨false,false,true,false,0,q,true⟩,(bQ 2 p),(bQ 0 e)])⟩
def A95 (F:KF R):=A93 N F [1,1,1,1,1,0,1,0] []
theorem oI (F:KF R) (f:LA) (c:Nat) (g i d:Bool) (b q:LA):∀ (n l:Nat) (o m:Int) (p e:LA),Ap (A95 N F) n (A94 f c g i d b q l o m p e)=(Pp N (JJ F) f c g i d b q n l o m p e)
 | 0,_,_,_,_,_=>by kernel_rfl
 | n+1,l,o,m,p,e=>Eq.trans (by kernel_rfl) (Bm (N' N (JJ F) f c g i d b q · l o m p e) (funext fun l=>funext fun o=>funext fun m=>funext fun p=>funext fun e=>(oI F f c g i d b q n l o m p e)):_)
theorem Anu (b:LA) (d:Bool) (f:LA) (c:Nat) (g i:Bool) (F:KF R):Cd (Aw2 N) Ant N 64 [(.pagg b d),(.imm f c 1 g i)] [] F=(FE N b d f c g i (JJ F)):=by
 rw[hG]
 exact Eq.trans (by kernel_rfl) (Bm (gz N (JJ F) · b d f c g i) (funext fun q=>funext fun l=>funext fun o=>funext fun m=>funext fun p=>funext fun e=>(Ai ..).trans (oI N F f c g i d b q N l o m p e)):_)
def Acn (a:LA) (h:Ak) (k:KF R):O R :=
 match a,h with
 | [(.pagg b d),(.imm f c 1 g i)],[]=>(FE N b d f c g i (JJ k))
 | _,_=>none
theorem Anv:An N 64 @Acn:=by
 intro R Q a h k j;unfold Acn;split;exact Ax (Anu ..) (Anu ..) ⟨AO N,A9z N,oD N,Ans N,I8 N,trivial⟩;exact Az
def rA:=Ay (Anv N)
def rB:=Ca (Anv N)
def QL (N:Nat) (k0:Nat→Bool→Int→LA→LA→O R) (r0:Nat→LA→O R) (e:LA) (f:Nat) (i l:Bool) (g:Nat) (c:Int) (m:Bool) (b d o:LA) (p:Int) (s:Bool) (t:Int) (u:Bool):O R :=
 (cond u (Ao .i64 (b.drop 2) fun v=>(Ao .i64 o fun w=>(Ao .i64 (b.drop 7) fun x=>(Ao .i64 (b.drop 3) fun y=>(Ao .i64 (o.drop 1) fun z=>(Ao .i64 (b.drop 6) fun aa=>(cond (Ac p g) (cond ((Nat.beq 2 2)&&((Nat.ble ((0+((p.toNat)*2))+2) (d.length))&&(!false))) (cond (Ac p g) (cond (Nat.ble 2 (((C3 d (0+((p.toNat)*2)) [(.int .i64 (Ix v (wrap .i64 (w - x)))),(.int .i64 (By y (wrap .i64 (z+aa))))]).drop (0+((p.toNat)*2))).length)) (cond ((Nat.beq ((((C3 d (0+((p.toNat)*2)) [(.int .i64 (Ix v (wrap .i64 (w - x)))),(.int .i64 (By y (wrap .i64 (z+aa))))]).drop (0+((p.toNat)*2))).take 2).length) 2)&&((Nat.ble 2 (o.length))&&(!false))) (k0 g s (wrap .i64 (t+1)) (C3 d (0+((p.toNat)*2)) [(.int .i64 (Ix v (wrap .i64 (w - x)))),(.int .i64 (By y (wrap .i64 (z+aa))))]) (setCells o 0 (((C3 d (0+((p.toNat)*2)) [(.int .i64 (Ix v (wrap .i64 (w - x)))),(.int .i64 (By y (wrap .i64 (z+aa))))]).drop (0+((p.toNat)*2))).take 2))) none) none) none) none) none))))))) (cond s (Ao .i64 (b.drop 2) fun ab=>(Ao .i64 (b.drop 8) fun ac=>(cond (Ac p g) (cond ((Nat.beq 2 2)&&((Nat.ble ((0+((p.toNat)*2))+2) (d.length))&&(!false))) (cond (Ac p g) (cond (Nat.ble 2 (((C3 d (0+((p.toNat)*2)) [(.int .i64 ab),(.int .i64 ac)]).drop (0+((p.toNat)*2))).length)) (cond ((Nat.beq ((((C3 d (0+((p.toNat)*2)) [(.int .i64 ab),(.int .i64 ac)]).drop (0+((p.toNat)*2))).take 2).length) 2)&&((Nat.ble 2 (o.length))&&(!false))) (k0 g s (wrap .i64 (t+1)) (C3 d (0+((p.toNat)*2)) [(.int .i64 ab),(.int .i64 ac)]) (setCells o 0 (((C3 d (0+((p.toNat)*2)) [(.int .i64 ab),(.int .i64 ac)]).drop (0+((p.toNat)*2))).take 2))) none) none) none) none) none))) (cond (Ac p g) (cond (Nat.ble 2 ((d.drop (0+((p.toNat)*2))).length)) (cond ((Nat.beq (((d.drop (0+((p.toNat)*2))).take 2).length) 2)&&((Nat.ble 2 (o.length))&&(!false))) (k0 g s (wrap .i64 (t+1)) d (setCells o 0 ((d.drop (0+((p.toNat)*2))).take 2))) none) none) none)))
def hI (N:Nat) (r0:Nat→LA→O R) (e:LA) (f:Nat) (i l:Bool) (c:Int) (m:Bool) (b:LA) (k0:Nat→Bool→Int→LA→LA→O R) (q1:Int→Bool→Int→Bool→O R) (g:Nat) (r:Bool) (q:Int) (d o:LA):O R :=
 (cond (decide (q<c)) (cond (Ac q f) (Ao .i64 (e.drop ((q.toNat)*1)) fun ad=>(cond ((ad==2)==true) (q1 q (ad==2) q (cond true r false)) (q1 q (ad==2) q false))) none) (r0 g d))
def Ss (r0:Nat→LA→O R) (e:LA) (f:Nat) (i l:Bool) (c:Int) (m:Bool) (b:LA):Nat→Nat→Bool→Int→LA→LA→O R
 | 0,_,_,_,_,_=>none
 | n+1,g,r,q,d,o=>(hI N r0 e f i l c m b (Ss r0 e f i l c m b n) (fun p s t u=>(QL N (Ss r0 e f i l c m b n) r0 e f i l g c m b d o p s t u)) g r q d o)
def hZ (N:Nat) (r0:Nat→LA→O R) (q0:Nat→Bool→Int→LA→LA→O R) (b:LA) (m:Bool) (c:Int) (e:LA) (f:Nat) (i l:Bool):O R :=
 (cond ((decide (0≤c))&&((decide (c≤c))&&((decide (c≤140737488355328))&&(decide ((c*((16:Nat):Int))≤140737488355328))))) (Ao .i64 (b.drop 19) fun ae=>(Ao .i64 (b.drop 21) fun af=>(Ao .i64 (b.drop 21) fun ag=>(q0 (c.toNat) (ae==2) 0 (List.flatten (List.replicate (c.toNat) ([(.int .i64 0),(.int .i64 0)]:LA))) [(.int .i64 af),(.int .i64 ag)])))) none)
def Yi:=(Ae (fun (N:Nat) (b:LA) (m:Bool) (c:Int) (e:LA) (f:Nat) (i l:Bool) (r0:Nat→LA→O R)=>(hZ N r0 (fun g r q d o=>(Ss N r0 e f i l c m b N g r q d o)) b m c e f i l))).1
theorem h_ (b m c e f i l r0):(@Yi R N b m c e f i l r0)=(hZ N r0 (fun g r q d o=>(Ss N r0 e f i l c m b N g r q d o)) b m c e f i l):=by rw[Yi,(Ae _).2]
def oJ:Hints:={ H:=(hS hL (hS hL (hS hL (hS (hS hL (hS (hP [2,3,7,8,9,22,23] (hS hL (hS hL (hS (hS (hS hL (hS hL (hS (hJ [2,3,7,9,10,11,22,23,34] hL hL) hL))) hL) hL)))) hL)) hL)))),nils:=[(6,2)],modes:=[(2,2)] }
def oK (F:KF R):=Hp Tryz.f65 oJ [] [] N F
def Ke (F:KF R):Nat→LA→O R:=(fun ah ai=>F (.own 300000 0 ah) (hq [(bQ 2 ai)]))
def As7 (e:LA) (f:Nat) (i l:Bool) (g:Nat) (c:Int) (m:Bool) (b d o:LA) (p:Int) (s:Bool) (t:Int) (u:Bool):St:=⟨[(2,(.imm e f 1 i l)),(3,(op 0)),(7,(.own 300001 0 g)),(9,(op 2)),(10,(iv p)),(11,(.bool s)),(22,(iv c)),(23,(iv t)),(34,(.bool u))],(hq [(bP m 0 b),(bQ 2 d),(bQ 0 o)])⟩
def As8 (F:KF R) (Q0:St→O R):=oK N F [1,1,1,0,1,0,0,1,1,0,0,1,1,0,1] [Q0]
def oL (e:LA) (f:Nat) (i l:Bool) (c:Int) (m:Bool) (b:LA) (g:Nat) (r:Bool) (q:Int) (d o:LA):St:=⟨[(2,(.imm e f 1 i l)),(3,(op 0)),(7,(.own 300001 0 g)),(8,(.bool r)),(9,(op 2)),(22,(iv c)),(23,(iv q))],(hq [(bP m 0 b),(bQ 2 d),(bQ 0 o)])⟩
def oM (F:KF R):=oK N F [1,1,1,0,1,0] []
theorem yP (Q0:St→O R) (F:KF R) (e:LA) (f:Nat) (i l:Bool) (g:Nat) (c:Int) (m:Bool) (b d o:LA):∀ (p:Int) (s:Bool) (t:Int) (u:Bool),A9 (As8 N F Q0) (As7 e f i l g c m b d o p s t u)=(QL N (fun g r q d o=>Q0 (oL e f i l c m b g r q d o)) (Ke F) e f i l g c m b d o p s t u):=by
 intro p s t u
 kernel_rfl
theorem TN (F:KF R) (e:LA) (f:Nat) (i l:Bool) (c:Int) (m:Bool) (b:LA):∀ (n g:Nat) (r:Bool) (q:Int) (d o:LA),Ap (oM N F) n (oL e f i l c m b g r q d o)=(Ss N (Ke F) e f i l c m b n g r q d o)
 | 0,_,_,_,_,_=>by kernel_rfl
 | n+1,g,r,q,d,o=>have e0:=(funext fun g=>funext fun r=>funext fun q=>funext fun d=>funext fun o=>(TN F e f i l c m b n g r q d o))
  Eq.trans (by kernel_rfl) (fQ (hI N (Ke F) e f i l c m b · · g r q d o) e0 (funext fun p=>funext fun s=>funext fun t=>funext fun u=>(Aq ..).trans ((yP N (Ap (oM N F) n) F e f i l g c m b d o p s t u).trans (Bm (QL N · (Ke F) e f i l g c m b d o p s t u) e0))):_)
theorem oN (b:LA) (m:Bool) (c:Int) (e:LA) (f:Nat) (i l:Bool) (F:KF R):Cd [] oJ N 65 [(.pagg b m),(iv c),(.imm e f 1 i l)] [] F=(Yi N b m c e f i l (Ke F)):=by
 rw[h_]
 exact Eq.trans (by kernel_rfl) (Bm (hZ N (Ke F) · b m c e f i l) (funext fun g=>funext fun r=>funext fun q=>funext fun d=>funext fun o=>(Ai ..).trans (TN N F e f i l c m b N g r q d o)):_)
def iA (a:LA) (h:Ak) (k:KF R):O R :=
 match a,h with
 | [(.pagg b m),(.int .i64 c),(.imm e f 1 i l)],[]=>(Yi N b m c e f i l (Ke k))
 | _,_=>none
theorem oO:An N 65 @iA:=by
 intro R Q a h k j;unfold iA;split;exact Ax (oN ..) (oN ..) trivial;exact Az
def As9:=Ay (oO N)
def Ata:=Ca (oO N)
def bY (N:Nat) (r0:LA→O R) (d:Nat) (f:LA) (g:Nat) (i l m:Bool) (e:LA) (k0:Int→LA→O R) (b:Int) (c:LA):O R :=
 (cond (decide (b≥0)) (cond (Ac b g) (Ao .i64 (f.drop ((b.toNat)*1)) fun p=>(cond (p != 2) (k0 (wrap .i64 (b - 1)) c) (cond (Ac b d) (cond (Nat.ble 2 ((c.drop (0+((b.toNat)*2))).length)) (cond (Ac (wrap .i64 (b+1)) d) (cond (Nat.ble 2 ((c.drop (0+(((wrap .i64 (b+1)).toNat)*2))).length)) (cond ((Nat.beq (((c.drop (0+((b.toNat)*2))).take 2).length) 2)&&((Nat.ble 2 2)&&(!false))) (cond ((Nat.beq (((c.drop (0+(((wrap .i64 (b+1)).toNat)*2))).take 2).length) 2)&&((Nat.ble 2 2)&&(!false))) (cond (Ac (wrap .i64 (b+1)) g) (Ao .i64 (f.drop (((wrap .i64 (b+1)).toNat)*1)) fun q=>(cond (q != 2) (Ao .i64 (setCells [(.int .i64 0),(.int .i64 0)] 0 ((c.drop (0+((b.toNat)*2))).take 2)) fun r=>(Ao .i64 ((setCells [(.int .i64 0),(.int .i64 0)] 0 ((c.drop (0+((b.toNat)*2))).take 2)).drop 1) fun s=>(Ao .i64 (e.drop 9) fun t=>(cond (Ac b d) (cond ((Nat.beq 2 2)&&((Nat.ble ((0+((b.toNat)*2))+2) (c.length))&&(!false))) (k0 (wrap .i64 (b - 1)) (C3 c (0+((b.toNat)*2)) [(.int .i64 r),(.int .i64 (By s t))])) none) none)))) (Ao .i64 (setCells [(.int .i64 0),(.int .i64 0)] 0 ((c.drop (0+((b.toNat)*2))).take 2)) fun u=>(Ao .i64 (setCells [(.int .i64 0),(.int .i64 0)] 0 ((c.drop (0+(((wrap .i64 (b+1)).toNat)*2))).take 2)) fun v=>(Ao .i64 (e.drop 6) fun w=>(Ao .i64 ((setCells [(.int .i64 0),(.int .i64 0)] 0 ((c.drop (0+((b.toNat)*2))).take 2)).drop 1) fun x=>(Ao .i64 ((setCells [(.int .i64 0),(.int .i64 0)] 0 ((c.drop (0+(((wrap .i64 (b+1)).toNat)*2))).take 2)).drop 1) fun y=>(Ao .i64 (e.drop 7) fun z=>(cond (Ac b d) (cond ((Nat.beq 2 2)&&((Nat.ble ((0+((b.toNat)*2))+2) (c.length))&&(!false))) (k0 (wrap .i64 (b - 1)) (C3 c (0+((b.toNat)*2)) [(.int .i64 (Ix u (wrap .i64 (v - w)))),(.int .i64 (By x (wrap .i64 (y+z))))])) none) none))))))))) none) none) none) none) none) none) none))) none) (r0 c))
def Wb (r0:LA→O R) (d:Nat) (f:LA) (g:Nat) (i l m:Bool) (e:LA):Nat→Int→LA→O R
 | 0,_,_=>none
 | n+1,b,c=>(bY N r0 d f g i l m e (Wb r0 d f g i l m e n) b c)
def YK (N:Nat) (r0:LA→O R) (q0:Int→LA→O R) (e:LA) (m:Bool) (d:Nat) (f:LA) (g:Nat) (i l:Bool) (o:LA):O R :=
 (q0 (wrap .i64 (((d:Nat):Int) - 2)) o)
def U6:=(Ae (fun (N:Nat) (e:LA) (m:Bool) (d:Nat) (f:LA) (g:Nat) (i l:Bool) (o:LA) (r0:LA→O R)=>(YK N r0 (fun b c=>(Wb N r0 d f g i l m e N b c)) e m d f g i l o))).1
theorem bZ (e m d f g i l o r0):(@U6 R N e m d f g i l o r0)=(YK N r0 (fun b c=>(Wb N r0 d f g i l m e N b c)) e m d f g i l o):=by rw[U6,(Ae _).2]
def iB:Hints:={ H:=(hS hL (hS hL (hS (hP [1,2,3,6] hL) hL))) }
def Anw (F:KF R):=Hp Tryz.f66 iB [] [100000] N F
def Pq (F:KF R):LA→O R:=(fun aa=>F (.tup []) [(100000,(bQ 2 aa))])
def Anx (d:Nat) (f:LA) (g:Nat) (i l m:Bool) (e:LA) (b:Int) (c:LA):St:=⟨[(1,(.own 100000 0 d)),(2,(.imm f g 1 i l)),(3,(op 0)),(6,(iv b))],[(100000,(bQ 2 c)),(300000,(bP m 0 e))]⟩
def Any (F:KF R):=Anw N F [1,1,0] []
theorem OA (F:KF R) (d:Nat) (f:LA) (g:Nat) (i l m:Bool) (e:LA):∀ (n:Nat) (b:Int) (c:LA),Ap (Any N F) n (Anx d f g i l m e b c)=(Wb N (Pq F) d f g i l m e n b c)
 | 0,_,_=>by kernel_rfl
 | n+1,b,c=>Eq.trans (by kernel_rfl) (Bm (bY N (Pq F) d f g i l m e · b c) (funext fun b=>funext fun c=>(OA F d f g i l m e n b c)):_)
theorem iC (e:LA) (m:Bool) (d:Nat) (f:LA) (g:Nat) (i l:Bool) (o:LA) (F:KF R):Cd [] iB N 66 [(.pagg e m),(.own 100000 0 d),(.imm f g 1 i l)] [(100000,(bQ 2 o))] F=(U6 N e m d f g i l o (Pq F)):=by
 rw[bZ]
 exact Eq.trans (by kernel_rfl) (Bm (YK N (Pq F) · e m d f g i l o) (funext fun b=>funext fun c=>(Ai ..).trans (OA N F d f g i l m e N b c)):_)
def b6 (a:LA) (h:Ak) (k:KF R):O R :=
 match a,h with
 | [(.pagg e m),(.own 100000 0 d),(.imm f g 1 i l)],[(100000,⟨false,false,true,false,2,o,false⟩)]=>(U6 N e m d f g i l o (Pq k))
 | _,_=>none
theorem iD:An N 66 @b6:=by
 intro R Q a h k j;unfold b6;split;exact Ax (iC ..) (iC ..) trivial;exact Az
def Anz:=Ay (iD N)
def An0:=Ca (iD N)
def b7 (N:Nat) (r0:Nat→Int→LA→O R) (c:LA) (b:Nat) (e d:Bool) (o:Nat) (k1:Int→Int→LA→O R) (p g:Int) (m:LA):O R :=
 (cond (decide (g<p)) (cond (Ac g o) (cond (Nat.ble 2 ((m.drop (0+((g.toNat)*2))).length)) (cond ((Nat.beq (((m.drop (0+((g.toNat)*2))).take 2).length) 2)&&((Nat.ble 2 2)&&(!false))) (Ao .i64 (setCells [(.int .i64 0),(.int .i64 0)] 0 ((m.drop (0+((g.toNat)*2))).take 2)) fun q=>(Ao .i64 ((setCells [(.int .i64 0),(.int .i64 0)] 0 ((m.drop (0+((g.toNat)*2))).take 2)).drop 1) fun r=>(cond (decide (q>r)) (r0 0 7 []) (cond (Ac g b) (Ao .i64 (c.drop ((g.toNat)*1)) fun s=>(cond (s != 2) (cond (Ac g o) (cond ((Nat.beq 2 2)&&((Nat.ble ((0+((g.toNat)*2))+2) (m.length))&&(!false))) (k1 p (wrap .i64 (g+1)) (C3 m (0+((g.toNat)*2)) [(.int .i64 0),(.int .i64 0)])) none) none) (k1 p (wrap .i64 (g+1)) m))) none)))) none) none) none) (r0 o 0 m))
def JK (r0:Nat→Int→LA→O R) (c:LA) (b:Nat) (e d:Bool) (o:Nat):Nat→Int→Int→LA→O R
 | 0,_,_,_=>none
 | n+1,p,g,m=>(b7 N r0 c b e d o (JK r0 c b e d o n) p g m)
def CN (r0:Nat→Int→LA→O R) (l:Int) (c:LA) (b:Nat) (e d i:Bool) (f:LA) (q1:Nat→Int→Int→LA→O R):O R :=
 (cond (Nat.ble 22 (f.length)) (Yi N (f.take 22) i l c b false d (fun o t=>(cond (Nat.ble 22 (f.length)) (U6 N (f.take 22) i o c b false d t (fun u=>(q1 o ((o:Nat):Int) 0 u))) none))) none)
def Wc (r0:Nat→Int→LA→O R) (l:Int) (c:LA) (b:Nat) (e d i:Bool) (f:LA):O R:=(CN N r0 l c b e d i f (fun o p g m=>(JK N r0 c b e d o N p g m)))
def FF (r0:Nat→Int→LA→O R) (q0:O R) (f:LA) (i:Bool) (l:Int) (c:LA) (b:Nat) (e d:Bool):O R :=
 (cond (Nat.ble 22 (f.length)) (V1 N (f.take 22) i l (fun v=>(cond (!v) (r0 0 1 []) (cond (((b:Nat):Int) != l) (r0 0 4 []) (cond (Nat.ble 22 (f.length)) (FE N (f.take 22) i c b false d (fun ae af w ag=>(cond (w != 0) (r0 0 16 []) (Ao .i64 (f.drop 19) fun x=>(cond ((x==2)==true) (cond (Ac 0 b) (Ao .i64 c fun y=>(cond ((cond true (y != 2) false)==true) (Ao .i64 (f.drop 21) fun z=>(Ao .i64 (f.drop 9) fun aa=>(cond (cond true (decide (z>aa)) false) (r0 0 7 []) q0))) q0)) none) q0))))) none))))) none)
def U7:=(Ae (fun (N:Nat) (f:LA) (i:Bool) (l:Int) (c:LA) (b:Nat) (e d:Bool) (r0:Nat→Int→LA→O R)=>(FF N r0 (Wc N r0 l c b e d i f) f i l c b e d))).1
theorem b8 (f i l c b e d r0):(@U7 R N f i l c b e d r0)=(FF N r0 (Wc N r0 l c b e d i f) f i l c b e d):=by rw[U7,(Ae _).2]
def iE:Hints:={ H:=(hS hL (hS hL (hS hL (hS hL (hJ [1,2,3] hL (hS hL (hS hL (hS (hS hL (hS (hP [2,11,55,56,57] hL) hL)) hL)))))))),nils:=[(6,2)],modes:=[(2,2),(0,0)] }
def oR:Dg:=[(16,ND N),(64,rA N),(65,As9 N),(66,Anz N)]
def iF (F:KF R):=Hp Tryz.f29 iE (oR N) [] N F
def Ih (F:KF R):Nat→Int→LA→O R:=(fun ab ac ad=>F (.tup [(.own 300000 0 ab),(iv ac)]) (hq [(bQ 2 ad)]))
def An1 (c:LA) (b:Nat) (e d:Bool) (o:Nat) (p g:Int) (m:LA):St:=⟨[(2,(.imm c b 1 e d)),(11,(.own 300000 0 o)),(55,(.own 300000 0 o)),(56,(iv p)),(57,(iv g))],(hq [(bQ 2 m)])⟩
def An2 (F:KF R):=iF N F [1,1,1,1,1,1,1,0,1,0] []
def An3 (l:Int) (c:LA) (b:Nat) (e d i:Bool) (f:LA):St:=⟨[(1,(iv l)),(2,(.imm c b 1 e d)),(3,(op 0))],(hq [(bP i 0 f)])⟩
def An4 (F:KF R):=iF N F [1,1,1,1,1] []
theorem OB (F:KF R) (c:LA) (b:Nat) (e d:Bool) (o:Nat):∀ (n:Nat) (p g:Int) (m:LA),Ap (An2 N F) n (An1 c b e d o p g m)=(JK N (Ih F) c b e d o n p g m)
 | 0,_,_,_=>by kernel_rfl
 | n+1,p,g,m=>Eq.trans (by kernel_rfl) (Bm (b7 N (Ih F) c b e d o · p g m) (funext fun p=>funext fun g=>funext fun m=>(OB F c b e d o n p g m)):_)
theorem uK (F:KF R) (l:Int) (c:LA) (b:Nat) (e d i:Bool) (f:LA):A9 (An4 N F) (An3 l c b e d i f)=(Wc N (Ih F) l c b e d i f):=by
 exact Eq.trans (by kernel_rfl) (Bm (CN N (Ih F) l c b e d i f ·) (funext fun o=>funext fun p=>funext fun g=>funext fun m=>(Ai ..).trans (OB N F c b e d o N p g m)):_)
theorem iG (f:LA) (i:Bool) (l:Int) (c:LA) (b:Nat) (e d:Bool) (F:KF R):Cd (oR N) iE N 29 [(.pagg f i),(iv l),(.imm c b 1 e d)] [] F=(U7 N f i l c b e d (Ih F)):=by
 rw[b8]
 exact Eq.trans (by kernel_rfl) (Bm (FF N (Ih F) · f i l c b e d) ((Aq ..).trans (uK N F l c b e d i f)):_)
def b9 (a:LA) (h:Ak) (k:KF R):O R :=
 match a,h with
 | [(.pagg f i),(.int .i64 l),(.imm c b 1 e d)],[]=>(U7 N f i l c b e d (Ih k))
 | _,_=>none
theorem iH:An N 29 @b9:=by
 intro R Q a h k j;unfold b9;split;exact Ax (iG ..) (iG ..) ⟨NE N,rB N,Ata N,An0 N,trivial⟩;exact Az
def An5:=Ay (iH N)
def An6:=Ca (iH N)
def YL (r0:Bool→O R):O R :=
 (Sn N (fun c=>(cond ((Nat.beq 0 0)&&((Nat.beq (c.length) 22)&&(Nat.beq 22 22))) (cond (Nat.ble 22 (c.length)) (Be N 35 (fun i=>(Pm N (c.take 22) false i false (fun d l=>(cond ((Nat.beq 0 0)&&((Nat.beq (d.length) 3)&&(Nat.beq 3 3))) (cond (Nat.ble 22 (c.length)) (Be N 30 (fun m=>(U5 N (c.take 22) false m false (fun e f n o=>(cond ((Nat.beq 0 0)&&((Nat.beq (e.length) 3)&&(Nat.beq 3 3))) (cond ((Nat.beq 0 0)&&((Nat.beq (f.length) 3)&&(Nat.beq 3 3))) (cond (Nat.ble 22 (c.length)) (U7 N (c.take 22) false 3 [(.int .i64 2),(.int .i64 2),(.int .i64 0)] 3 false true (fun g p b=>(cond (Nat.ble 3 (d.length)) (Be N 85 (fun q=>(Cn N (d.take 3) false q false (fun r=>(cond ((r==0)==true) (cond ((cond true (l==0) false)==true) (cond (Nat.ble 3 (e.length)) (Be N 3 (fun s=>(Cn N (e.take 3) false s false (fun t=>(cond ((cond true (t==0) false)==true) (cond (Nat.ble 3 (f.length)) (Be N 5 (fun u=>(Cn N (f.take 3) false u false (fun v=>(cond ((cond true (v==0) false)==true) (cond ((cond true n false)==true) (cond ((cond true o false)==true) (cond ((cond true (p==0) false)==true) (cond ((cond true (((g:Nat):Int)==3) false)==true) (cond (Ac 0 g) (cond (Nat.ble 2 (b.length)) (cond ((Nat.ble 1 2)&&((Nat.beq ((b.take 2).length) 2)&&((Nat.beq 2 2)&&(true&&(!false))))) (Ao .i64 (b.take 2) fun w=>(Ao .i64 ((b.take 2).drop 1) fun x=>(cond ((cond true ((w==10)&&((x==17)&&true)) false)==true) (cond (Ac 1 g) (cond (Nat.ble 2 ((b.drop 2).length)) (cond ((Nat.ble 1 2)&&((Nat.beq (((b.drop 2).take 2).length) 2)&&((Nat.beq 2 2)&&(true&&(!false))))) (Ao .i64 ((b.drop 2).take 2) fun y=>(Ao .i64 (((b.drop 2).take 2).drop 1) fun z=>(r0 (cond true ((y==10)&&((z==15)&&true)) false)))) none) none) none) (r0 false)))) none) none) none) (r0 false)) (r0 false)) (r0 false)) (r0 false)) (r0 false)))))) none) (r0 false)))))) none) (r0 false)) (r0 false)))))) none))) none) none) none))))) none) none))))) none) none)))
def U8:=(Ae (@YL R)).1
theorem b_:@U8 R=@YL R:=(Ae _).2
def Atb:Dg:=[(46,xr N),(20,Gj N),(21,uB N),(23,Am8 N),(29,An5 N),(25,Ld N)]
def iI (F:KF R):Bool→O R:=(fun aa=>F (.bool aa) [])
theorem iJ (F:KF R):Cd (Atb N) C6 N 15 [] [] F=(U8 N (iI F)):=by
 rw[b_]
 kernel_rfl
def cA (a:LA) (h:Ak) (k:KF R):O R :=
 match a,h with
 | [],[]=>(U8 N (iI k))
 | _,_=>none
theorem iK:An N 15 @cA:=by
 intro R Q a h k j;unfold cA;split;exact Ax (iJ ..) (iJ ..) ⟨xt N,Gk N,uC N,Am9 N,An6 N,Le N,trivial⟩;exact Az
def An7:=Ay (iK N)
def An8:=Ca (iK N)
def A0d (N:Nat) (b c d:Int) (r0:Bool→O R):O R :=
 (cond ((decide (b≥c))==true) (r0 (cond true (decide (b≤d)) false)) (r0 false))
def Lf:=(Ae (@A0d R)).1
theorem An9:@Lf R=@A0d R:=(Ae _).2
def Aw3 (F:KF R):Bool→O R:=(fun e=>F (.bool e) [])
theorem Aw4 (b c d:Int) (F:KF R):Cd [] C6 N 51 [(iv b),(iv c),(iv d)] [] F=(Lf N b c d (Aw3 F)):=by
 rw[An9]
 kernel_rfl
def Aoa (a:LA) (h:Ak) (k:KF R):O R :=
 match a,h with
 | [(.int .i64 b),(.int .i64 c),(.int .i64 d)],[]=>(Lf N b c d (Aw3 k))
 | _,_=>none
theorem Aw5:An N 51 @Aoa:=by
 intro R Q a h k j;unfold Aoa;split;exact Ax (Aw4 ..) (Aw4 ..) trivial;exact Az
def Aw6:=Ay (Aw5 N)
def Aw7:=Ca (Aw5 N)
def FG (N:Nat) (r0:Bool→O R) (c:Bool) (b:LA):O R :=
 (Ao .i64 (b.drop 19) fun d=>(cond ((d != 0)==true) (Ao .i64 (b.drop 19) fun e=>(cond ((cond true (e != 1) false)==true) (Ao .i64 (b.drop 19) fun f=>(cond ((cond true (f != 2) false)==false) (Ao .i64 (b.drop 20) fun g=>(cond ((cond false true (decide (g<1)))==false) (Ao .i64 (b.drop 20) fun i=>(cond (cond false true (decide (i>48))) (r0 false) (Ao .i64 (b.drop 19) fun l=>(cond ((l != 1)==false) (Ao .i64 (b.drop 20) fun m=>(Ao .i64 (b.drop 12) fun n=>(r0 (cond false true (decide (m≤n)))))) (r0 true))))) (r0 false))) (r0 false))) (Ao .i64 (b.drop 20) fun o=>(cond ((cond false true (decide (o<1)))==false) (Ao .i64 (b.drop 20) fun p=>(cond (cond false true (decide (p>48))) (r0 false) (Ao .i64 (b.drop 19) fun q=>(cond ((q != 1)==false) (Ao .i64 (b.drop 20) fun r=>(Ao .i64 (b.drop 12) fun s=>(r0 (cond false true (decide (r≤s)))))) (r0 true))))) (r0 false))))) (Ao .i64 (b.drop 20) fun t=>(cond ((cond false true (decide (t<1)))==false) (Ao .i64 (b.drop 20) fun u=>(cond (cond false true (decide (u>48))) (r0 false) (Ao .i64 (b.drop 19) fun v=>(cond ((v != 1)==false) (Ao .i64 (b.drop 20) fun w=>(Ao .i64 (b.drop 12) fun x=>(r0 (cond false true (decide (w≤x)))))) (r0 true))))) (r0 false)))))
def YM (N:Nat) (r0:Bool→O R) (q0:O R) (b:LA) (c:Bool):O R :=
 (Ao .i64 (b.drop 10) fun y=>(cond ((decide (y<0))==false) (Ao .i64 (b.drop 10) fun z=>(cond ((cond false true (decide (z>24)))==false) (Ao .i64 (b.drop 11) fun aa=>(cond ((cond false true (decide (aa<0)))==false) (Ao .i64 (b.drop 11) fun ab=>(cond ((cond false true (decide (ab>24)))==false) (Ao .i64 (b.drop 12) fun ac=>(cond ((cond false true (decide (ac<0)))==false) (Ao .i64 (b.drop 12) fun ad=>(cond ((cond false true (decide (ad>24)))==false) (Ao .i64 (b.drop 15) fun ae=>(cond ((cond false true (decide (ae<0)))==false) (Ao .i64 (b.drop 15) fun af=>(cond (cond false true (decide (af>24))) (r0 false) q0)) (r0 false))) (r0 false))) (r0 false))) (r0 false))) (r0 false))) (r0 false))) (r0 false)))
def Lg:=(Ae (fun (N:Nat) (b:LA) (c:Bool) (r0:Bool→O R)=>(YM N r0 (FG N r0 c b) b c))).1
theorem oS (b c r0):(@Lg R N b c r0)=(YM N r0 (FG N r0 c b) b c):=by rw[Lg,(Ae _).2]
def uL:Hints:={ H:=(hS hL (hJ [1] hL hL)) }
def A0e (F:KF R):=Hp Tryz.f52 uL [] [] N F
def FH (F:KF R):Bool→O R:=(fun ag=>F (.bool ag) [])
def A0f (c:Bool) (b:LA):St:=⟨[(1,(op 0))],(hq [(bP c 0 b)])⟩
def A0g (F:KF R):=A0e N F [1,1] []
theorem Afv (F:KF R) (c:Bool) (b:LA):A9 (A0g N F) (A0f c b)=(FG N (FH F) c b):=by
 kernel_rfl
theorem uM (b:LA) (c:Bool) (F:KF R):Cd [] uL N 52 [(.pagg b c)] [] F=(Lg N b c (FH F)):=by
 rw[oS]
 exact Eq.trans (by kernel_rfl) (Bm (YM N (FH F) · b c) ((Aq ..).trans (Afv N F c b)):_)
def oT (a:LA) (h:Ak) (k:KF R):O R :=
 match a,h with
 | [(.pagg b c)],[]=>(Lg N b c (FH k))
 | _,_=>none
theorem uN:An N 52 @oT:=by
 intro R Q a h k j;unfold oT;split;exact Ax (uM ..) (uM ..) trivial;exact Az
def Q6:=Ay (uN N)
def Q8:=Ca (uN N)
def Ra (r0:Bool→O R) (d:Bool) (c:LA) (k0:Int→Int→O R) (e b:Int):O R :=
 (B9 2 (c.drop 4) fun ac g=>(cond (decide (b<((g:Nat):Int))) (B9 2 (c.drop 4) fun f i=>(cond (Ac b i) (cond (Nat.ble 2 ((f.drop ((b.toNat)*2)).length)) (cond ((!d)||(A8 ((f.drop ((b.toNat)*2)).take 2))) (cond ((Nat.beq (((f.drop ((b.toNat)*2)).take 2).length) 2)&&((Nat.ble 2 2)&&(!false))) (Ao .i64 (setCells [(.int .i64 0),(.int .i64 0)] 0 ((f.drop ((b.toNat)*2)).take 2)) fun l=>(Lf N l 1 1048576 (fun m=>(cond ((!m)==false) (Ao .i64 ((setCells [(.int .i64 0),(.int .i64 0)] 0 ((f.drop ((b.toNat)*2)).take 2)).drop 1) fun o=>(Lf N o (-1048576) 1048576 (fun p=>(cond ((cond false true (!p))==false) (cond ((decide (b>0))==true) (Ao .i64 ((setCells [(.int .i64 0),(.int .i64 0)] 0 ((f.drop ((b.toNat)*2)).take 2)).drop 1) fun q=>(B9 2 (c.drop 4) fun r s=>(cond (Ac (wrap .i64 (b - 1)) s) (Ao .i64 ((r.drop (((wrap .i64 (b - 1)).toNat)*2)).drop 1) fun t=>(cond ((cond false true (cond true (decide (q<t)) false))==false) (Ao .i64 (setCells [(.int .i64 0),(.int .i64 0)] 0 ((f.drop ((b.toNat)*2)).take 2)) fun u=>(cond (cond false true (decide (u>e))) (r0 false) (Ao .i64 (setCells [(.int .i64 0),(.int .i64 0)] 0 ((f.drop ((b.toNat)*2)).take 2)) fun v=>(k0 (wrap .i64 (e - v)) (wrap .i64 (b+1)))))) (r0 false))) none))) (Ao .i64 (setCells [(.int .i64 0),(.int .i64 0)] 0 ((f.drop ((b.toNat)*2)).take 2)) fun w=>(cond (cond false true (decide (w>e))) (r0 false) (Ao .i64 (setCells [(.int .i64 0),(.int .i64 0)] 0 ((f.drop ((b.toNat)*2)).take 2)) fun x=>(k0 (wrap .i64 (e - x)) (wrap .i64 (b+1))))))) (r0 false))))) (r0 false))))) none) none) none) none)) (r0 (e==0))))
def Fp (r0:Bool→O R) (d:Bool) (c:LA):Nat→Int→Int→O R
 | 0,_,_=>none
 | n+1,e,b=>(Ra N r0 d c (Fp r0 d c n) e b)
def Zd (N:Nat) (r0:Bool→O R) (q0:Int→Int→O R) (c:LA) (d:Bool):O R :=
 (B9 2 (c.drop 4) fun ad y=>(cond (decide (((y:Nat):Int)>8)) (r0 false) (Ao .i64 (c.drop 3) fun z=>(Ao .i64 (c.drop 2) fun aa=>(q0 (wrap .i64 (z - aa)) 0)))))
def Rb:=(Ae (fun (N:Nat) (c:LA) (d:Bool) (r0:Bool→O R)=>(Zd N r0 (fun e b=>(Fp N r0 d c N e b)) c d))).1
theorem TO (c d r0):(@Rb R N c d r0)=(Zd N r0 (fun e b=>(Fp N r0 d c N e b)) c d):=by rw[Rb,(Ae _).2]
def cB:Hints:={ H:=(hS hL (hS hL (hS hL (hS (hS hL (hS (hP [1,3,4] hL) hL)) hL)))) }
def iL:Dg:=[(51,Aw6 N)]
def Afw (F:KF R):=Hp Tryz.f53 cB (iL N) [] N F
def Nz (F:KF R):Bool→O R:=(fun ab=>F (.bool ab) [])
def Afx (d:Bool) (c:LA) (e b:Int):St:=⟨[(1,(op 0)),(3,(iv e)),(4,(iv b))],(hq [(bP d 0 c)])⟩
def Afy (F:KF R):=Afw N F [1,1,1,0,1,0] []
theorem JL (F:KF R) (d:Bool) (c:LA):∀ (n:Nat) (e b:Int),Ap (Afy N F) n (Afx d c e b)=(Fp N (Nz F) d c n e b)
 | 0,_,_=>by kernel_rfl
 | n+1,e,b=>Eq.trans (by kernel_rfl) (Bm (Ra N (Nz F) d c · e b) (funext fun e=>funext fun b=>(JL F d c n e b)):_)
theorem cC (c:LA) (d:Bool) (F:KF R):Cd (iL N) cB N 53 [(.pagg c d)] [] F=(Rb N c d (Nz F)):=by
 rw[TO]
 exact Eq.trans (by kernel_rfl) (Bm (Zd N (Nz F) · c d) (funext fun e=>funext fun b=>(Ai ..).trans (JL N F d c N e b)):_)
def TP (a:LA) (h:Ak) (k:KF R):O R :=
 match a,h with
 | [(.pagg c d)],[]=>(Rb N c d (Nz k))
 | _,_=>none
theorem cD:An N 53 @TP:=by
 intro R Q a h k j;unfold TP;split;exact Ax (cC ..) (cC ..) ⟨Aw7 N,trivial⟩;exact Az
def Afz:=Ay (cD N)
def Af0:=Ca (cD N)
end
end Gx

namespace Gx
open Go Go.Proofs
inductive Sl (α:Type) where
 | nil
 | of (l:List α) (t o:Bool)
def Sl.l {α:Type}:Sl α→List α
 | .nil=>[]
 | .of l _ _=>l
def Sl.av {α:Type} (sz:Nat) (e:α→LA):Sl α→AV
 | .nil=>.nsl
 | .of l t o=>.imm (l.flatMap e) l.length sz t o
def JM (n:Int):LA:=[.int .i64 n]
def Av (l:List Int):LA:=l.map fun n=>.int .i64 n
theorem F2:∀ l:List Int,l.flatMap JM=Av l
 | []=>rfl
 | a::r=>by rw[List.flatMap_cons,F2 r];rfl
theorem Db (l:List Int):(Av l).length=l.length:=by simp[Av]
structure SegD where
 width:Int
 price:Int
structure UnitD where
 name:List UInt8
 bus:Int
 min:Int
 max:Int
 segs:Sl SegD
 noLoad:Int
 rampUp:Int
 rampDown:Int
 startRamp:Int
 stopRamp:Int
 upTime:Int
 downTime:Int
 startTime:Int
 hotCost:Int
 coldCost:Int
 hotHours:Int
 reserve:Int
 reservePrice:Int
 away:Sl Int
 state:Int
 hours:Int
 output:Int
def SegD.av (s:SegD):LA:=[.int .i64 s.width,.int .i64 s.price]
def UnitD.av (u:UnitD):LA:=[.str u.name,.int .i64 u.bus,.int .i64 u.min,.int .i64 u.max,u.segs.av 2 SegD.av,.int .i64 u.noLoad,.int .i64 u.rampUp,.int .i64 u.rampDown,.int .i64 u.startRamp,.int .i64 u.stopRamp,.int .i64 u.upTime,.int .i64 u.downTime,.int .i64 u.startTime,.int .i64 u.hotCost,.int .i64 u.coldCost,.int .i64 u.hotHours,.int .i64 u.reserve,.int .i64 u.reservePrice,u.away.av 1 JM,.int .i64 u.state,.int .i64 u.hours,.int .i64 u.output]
section
variable {R:Type}
theorem Ii {α:Type} {sz:Nat} {e:α→LA} {s:Sl α} {r:LA} {f:LA→Nat→O R}:B9 sz (s.av sz e::r) f=f (s.l.flatMap e) s.l.length:=by
 cases s<;>simp[B9,Sl.av,Sl.l,Bdc]
theorem Bo {α:Type} {e:α→LA} {sz:Nat} (k:∀ a,(e a).length=sz):∀ (l:List α) (j:Nat) (h:j<l.length),List.drop (j*sz) (l.flatMap e)=e l[j]++(l.drop (j+1)).flatMap e
 | a::r,0,_=>by simp
 | a::r,j+1,h=>by
  have:=Bo k r j (by simpa using h)
  rw[List.flatMap_cons,List.drop_append,k,show(j+1)*sz - sz=j*sz by rw[Nat.add_mul];omega,List.drop_eq_nil_of_le (by rw[k,Nat.add_mul];omega)]
  simpa using this
theorem TQ {l:List Int} {i:Nat} (h:i<l.length) {f:Int→O R}:Ao .i64 (List.drop i (Av l)) f=f l[i]:=by
 rw[Av,List.drop_eq_getElem_cons (by simpa using h)];simp[A1]
theorem Ct {l:List Int} {i:Nat} (h:i<l.length) {f:Int→O R}:Ao .i64 (List.drop ((Int.toNat (i:Int))*1) (Av l)) f=f l[i]:=by
 rw[Int.toNat_natCast,Nat.mul_one,TQ h]
theorem Bs {α:Type} {l:List α} {j:Nat} (h:j<l.length):l.drop j=l[j]::l.drop (j+1):=List.drop_eq_getElem_cons h
theorem Dz {α:Type} {l:List α} {j:Nat} (h:l.length≤j):l.drop j=[]:=List.drop_eq_nil_of_le h
theorem cK {α:Type} (K:α→O R) (c:Bool) (a b:α):cond c (K a) (K b)=K (cond c a b):=by cases c<;>rfl
theorem Bg (u:UnitD):List.take 22 u.av=u.av:=rfl
theorem Cl (u:UnitD):Nat.ble 22 (List.length u.av)=true:=rfl
theorem u2 {u:UnitD} {f:Int→O R}:Ao .i64 (List.drop 2 u.av) f=f u.min:=A1
theorem u3 {u:UnitD} {f:Int→O R}:Ao .i64 (List.drop 3 u.av) f=f u.max:=A1
theorem u5 {u:UnitD} {f:Int→O R}:Ao .i64 (List.drop 5 u.av) f=f u.noLoad:=A1
theorem u6 {u:UnitD} {f:Int→O R}:Ao .i64 (List.drop 6 u.av) f=f u.rampUp:=A1
theorem u7 {u:UnitD} {f:Int→O R}:Ao .i64 (List.drop 7 u.av) f=f u.rampDown:=A1
theorem u8 {u:UnitD} {f:Int→O R}:Ao .i64 (List.drop 8 u.av) f=f u.startRamp:=A1
theorem u9 {u:UnitD} {f:Int→O R}:Ao .i64 (List.drop 9 u.av) f=f u.stopRamp:=A1
theorem Bmn {u:UnitD} {f:Int→O R}:Ao .i64 (List.drop 10 u.av) f=f u.upTime:=A1
theorem Blm {u:UnitD} {f:Int→O R}:Ao .i64 (List.drop 11 u.av) f=f u.downTime:=A1
theorem Bkt {u:UnitD} {f:Int→O R}:Ao .i64 (List.drop 12 u.av) f=f u.startTime:=A1
theorem Bni {u:UnitD} {f:Int→O R}:Ao .i64 (List.drop 13 u.av) f=f u.hotCost:=A1
theorem Bnj {u:UnitD} {f:Int→O R}:Ao .i64 (List.drop 14 u.av) f=f u.coldCost:=A1
theorem Bmo {u:UnitD} {f:Int→O R}:Ao .i64 (List.drop 15 u.av) f=f u.hotHours:=A1
theorem Bmx {u:UnitD} {f:Int→O R}:Ao .i64 (List.drop 16 u.av) f=f u.reserve:=A1
theorem Bnk {u:UnitD} {f:Int→O R}:Ao .i64 (List.drop 17 u.av) f=f u.reservePrice:=A1
theorem Bff {u:UnitD} {f:Int→O R}:Ao .i64 (List.drop 19 u.av) f=f u.state:=A1
theorem Bnl {u:UnitD} {f:Int→O R}:Ao .i64 (List.drop 20 u.av) f=f u.hours:=A1
theorem Bln {u:UnitD} {f:Int→O R}:Ao .i64 (List.drop 21 u.av) f=f u.output:=A1
theorem u4 {u:UnitD} {f:LA→Nat→O R}:B9 2 (List.drop 4 u.av) f=f (u.segs.l.flatMap SegD.av) u.segs.l.length:=Ii
theorem Bku {u:UnitD} {f:LA→Nat→O R}:B9 1 (List.drop 18 u.av) f=f (Av u.away.l) u.away.l.length:=by rw[←F2];exact Ii
def Ft (lo hi x:Int):Bool:=decide (lo≤x)&&decide (x≤hi)
theorem uO {N:Nat} {b c:Int} {e f:Bool} {K:Bool→O R} (l:List Int) (hs:l.length≤1000000000000):∀ (m j fuel:Nat),j+m=l.length→m<fuel →
  Ka N K b c (Av l) l.length e f fuel (l.length:Int) (j:Int)=K ((l.drop j).all (Ft b c))
 | 0,j,fuel+1,k,_=>by
  rw[Ka];unfold Vz
  rw[Kn (by omega),cf,Dz (by omega),List.all_nil]
 | m+1,j,fuel+1,k,C=>by
  rw[Ka];unfold Vz
  have h:j<l.length:=by omega
  rw[Iz h,ct,Aa h,ct,Ct h,wS (by omega),uO l hs m (j+1) fuel (by omega) (by omega),Bs h,List.all_cons]
  simp only[cK];congr 1
  generalize (List.drop (j+1) l).all (Ft b c)=t
  rw[Bool.eq_iff_iff];cases t<;>simp[Ft]<;>omega
theorem FI {N:Nat} {b c:Int} {e f:Bool} {K:Bool→O R} (l:List Int) (n:Nat) (hn:n=l.length) (hN:l.length<N) (hs:l.length≤1000000000000):Dy N b c (Av l) n e f K=K (l.all (Ft b c)):=by
 subst hn
 rw[gM];unfold NA
 have:=uO (N:=N) (b:=b) (c:=c) (e:=e) (f:=f) (K:=K) l hs l.length 0 N (by omega) hN
 simpa using this
theorem lB {N:Nat} {a b c:Int} {K:Bool→O R}:Lf N a b c K=K (Ft b c a):=by
 rw[An9];unfold A0d
 simp only[cK];congr 1
 rw[Bool.eq_iff_iff];simp[Ft]
def Cq (u:UnitD):Bool:=Ft 0 24 u.upTime&&(Ft 0 24 u.downTime&&(Ft 0 24 u.startTime&&(Ft 0 24 u.hotHours&&((u.state==0||(u.state==1||u.state==2))&&(Ft 1 48 u.hours&&(!(u.state==1)||decide (u.hours≤u.startTime)))))))
theorem yQ {N:Nat} {u:UnitD} {b:Bool} {K:Bool→O R}:NB N K b u.av=K (Ft 1 48 u.hours&&(!(u.state==1)||decide (u.hours≤u.startTime))):=by
 unfold NB
 simp only[Bnl,Bff,Bkt,cK];congr 1
 rw[Bool.eq_iff_iff];simp[Ft];omega
theorem yR {N n:Nat} {u:UnitD} {d e f g:Int} {b:Bool} {K:Bool→O R}:Uu N K d e f g b u.av (n+5) 0 =
  K (Ft 0 24 d&&(Ft 0 24 e&&(Ft 0 24 f&&(Ft 0 24 g&&((u.state==0||(u.state==1||u.state==2))&&(Ft 1 48 u.hours&&(!(u.state==1)||decide (u.hours≤u.startTime)))))))):=by
 have a1:IntKind.wrap .i64 ((0:Int)+1)=1:=by decide
 have a2:IntKind.wrap .i64 ((1:Int)+1)=2:=by decide
 have a3:IntKind.wrap .i64 ((2:Int)+1)=3:=by decide
 have a4:IntKind.wrap .i64 ((3:Int)+1)=4:=by decide
 simp only[Uu,XO,yQ,a1,a2,a3,a4,Bff]
 simp[Ac,cK];congr 1
 generalize (decide (u.hours≤u.startTime))=t
 generalize Ft 1 48 u.hours=s
 by_cases k:u.state=0<;>by_cases C:u.state=1<;>by_cases D:u.state=2<;>first | omega | skip
 all_goals (rw[Bool.eq_iff_iff];cases s<;>cases t<;>simp[Ft,k,C,D]<;>omega)
theorem Od {N:Nat} {u:UnitD} {b:Bool} {K:Bool→O R} (hN:64≤N):Ph N u.av b K=K (Cq u):=by
 rw[tI];unfold ko
 obtain⟨n,rfl⟩:∃ n,N=n+5:=⟨N - 5,by omega⟩
 simp only[Bmn,Blm,Bkt,Bmo,yR];rfl
end
end Gx

namespace Gx
open Go Go.Proofs
section
variable {R:Type}
theorem Lh {N:Nat} {u:UnitD} {b:Bool} {K:Bool→O R}:Lg N u.av b K=K (Cq u):=by
 rw[oS];unfold YM FG
 simp only[Bmn,Blm,Bkt,Bmo,Bff,Bnl]
 simp[cK];congr 1
 unfold Cq
 by_cases k:u.state=0<;>by_cases C:u.state=1<;>by_cases D:u.state=2<;>first | omega | skip
 all_goals (rw[Bool.eq_iff_iff];simp[Ft,k,C,D]<;>omega)
theorem Bmy {N:Nat} {b c x:Int} {e f:Bool} {K:Bool→O R} (hN:64≤N):Dy N b c [(.int .i64 x)] 1 e f K=K (Ft b c x):=by
 have:=FI (N:=N) (b:=b) (c:=c) (e:=e) (f:=f) (K:=K) [x] 1 rfl (by simp;omega) (by simp)
 simpa[Av] using this
theorem Boa {N:Nat} {b c x y:Int} {e f:Bool} {K:Bool→O R} (hN:64≤N):Dy N b c [(.int .i64 x),(.int .i64 y)] 2 e f K=K (Ft b c x&&Ft b c y):=by
 have:=FI (N:=N) (b:=b) (c:=c) (e:=e) (f:=f) (K:=K) [x,y] 2 rfl (by simp;omega) (by simp)
 simpa[Av] using this
theorem Bob {N:Nat} {b c x y z w:Int} {e f:Bool} {K:Bool→O R} (hN:64≤N):Dy N b c [(.int .i64 x),(.int .i64 y),(.int .i64 z),(.int .i64 w)] 4 e f K=K (Ft b c x&&(Ft b c y&&(Ft b c z&&Ft b c w))):=by
 have:=FI (N:=N) (b:=b) (c:=c) (e:=e) (f:=f) (K:=K) [x,y,z,w] 4 rfl (by simp;omega) (by simp)
 simpa[Av] using this
theorem Boc {N:Nat} {b c x y z w v:Int} {e f:Bool} {K:Bool→O R} (hN:64≤N):Dy N b c [(.int .i64 x),(.int .i64 y),(.int .i64 z),(.int .i64 w),(.int .i64 v)] 5 e f K=K (Ft b c x&&(Ft b c y&&(Ft b c z&&(Ft b c w&&Ft b c v)))):=by
 have:=FI (N:=N) (b:=b) (c:=c) (e:=e) (f:=f) (K:=K) [x,y,z,w,v] 5 rfl (by simp;omega) (by simp)
 simpa[Av] using this
def Gt (p:Int):List SegD→Bool
 | []=>true
 | s::r=>Ft 1 1048576 s.width&&(Ft (-1048576) 1048576 s.price&&(decide (p≤s.price)&&Gt s.price r))
def eS:List SegD→Int
 | []=>0
 | s::r=>s.width+eS r
def Aco (l:List SegD):Nat→Int
 | 0=>-1048576
 | j+1=>((l[j]?).map (·.price)).getD 0
theorem YN {l:List SegD} {j:Nat} (h:j<l.length):Aco l (j+1)=l[j].price:=by simp[Aco,h]
theorem rC {l:List SegD} {j:Nat} (h:j<l.length):List.drop ((Int.toNat (j:Int))*2) (l.flatMap SegD.av)=(.int .i64 l[j].width)::(.int .i64 l[j].price)::(l.drop (j+1)).flatMap SegD.av:=by
 rw[Int.toNat_natCast,Bo (e:=SegD.av) (sz:=2) (fun _=>rfl) _ _ h];rfl
theorem Aob {x y:Int} {f:Int→O R}:Ao .i64 (setCells [(.int .i64 0),(.int .i64 0)] 0 [(.int .i64 x),(.int .i64 y)]) f=f x:=rfl
theorem lC {x y:Int} {f:Int→O R}:Ao .i64 (List.drop 1 (setCells [(.int .i64 0),(.int .i64 0)] 0 [(.int .i64 x),(.int .i64 y)])) f=f y:=rfl
theorem Acp:∀ {l:List SegD} {p:Int},Gt p l=true→0≤eS l
 | [],_,_=>by simp[eS]
 | s::r,p,h=>by
  simp[Gt,Ft] at h
  have:=Acp h.2.2.2
  simp[eS];omega
theorem Bcf {N:Nat} {u:UnitD} {b:Bool} {K:Bool→O R} (hN:64≤N) (F:0≤u.min∧u.min≤1048576) (G:0≤u.max∧u.max≤1048576) (I:u.segs.l.length≤8):∀ (m j fuel:Nat) (g:Int),j+m=u.segs.l.length→m<fuel→(0≤g∧g≤1048576*(j:Int)) →
  Da N K (u.segs.l.flatMap SegD.av) u.segs.l.length b u.av fuel g (u.segs.l.length:Int) (j:Int)=K (Gt (Aco u.segs.l j) (u.segs.l.drop j)&&(g+eS (u.segs.l.drop j)==u.max - u.min))
 | 0,j,fuel+1,g,L,_,_=>by
  rw[Da];unfold Jk
  rw[Kn (by omega),cf,u3,u2,i64 (by omega),Dz (l:=u.segs.l) (by omega)]
  simp[Gt,eS]
 | m+1,j,fuel+1,g,L,T,U=>by
  rw[Da];unfold Jk
  have h:j<u.segs.l.length:=by omega
  rw[Iz h,ct,Aa h,ct,rC h]
  have p0:List.take 2 ((AV.int .i64 u.segs.l[j].width)::(AV.int .i64 u.segs.l[j].price)::(u.segs.l.drop (j+1)).flatMap SegD.av)=[(.int .i64 u.segs.l[j].width),(.int .i64 u.segs.l[j].price)]:=rfl
  rw[p0,show Nat.ble 2 (List.length ((AV.int .i64 u.segs.l[j].width)::(AV.int .i64 u.segs.l[j].price)::(u.segs.l.drop (j+1)).flatMap SegD.av))=true by simp,ct]
  rw[show((!b)||A8 [(AV.int .i64 u.segs.l[j].width),(.int .i64 u.segs.l[j].price)])=true by cases b<;>rfl,ct]
  rw[show((Nat.beq (List.length [(AV.int .i64 u.segs.l[j].width),(.int .i64 u.segs.l[j].price)]) 2)&&((Nat.ble 2 2)&&(!false)))=true from rfl,ct,Aob,lC,Bmy hN]
  simp only[Bmy hN]
  rw[Bs h,Gt,eS]
  cases M:Ft 1 1048576 u.segs.l[j].width with
  | false=>simp
  | true =>
   cases D:Ft (-1048576) 1048576 u.segs.l[j].price with
   | false=>simp
   | true =>
    simp only[Ft,Bool.and_eq_true,decide_eq_true_eq] at M D
    have step:=Bcf (b:=b) (K:=K) hN F G I m (j+1) fuel (g+u.segs.l[j].width) (by omega) (by omega) (by omega)
    rw[YN h] at step
    have e1:IntKind.wrap .i64 (g+u.segs.l[j].width)=g+u.segs.l[j].width:=i64 (by omega)
    have S:IntKind.wrap .i64 ((j:Int)+1)=((j+1:Nat):Int):=wS (by omega)
    unfold Ko
    simp only[u4,lC,Aob,e1,S,step]
    rcases j with _ | j
    ·simp[Aco,D.1,Int.add_assoc]
    ·have k:j<u.segs.l.length:=by omega
     rw[wP (by omega),Aa k,ct,rC k,A9h,ct]
     rw[show ∀ r:LA,List.drop 1 ((AV.int .i64 u.segs.l[j].width)::(AV.int .i64 u.segs.l[j].price)::r)=(AV.int .i64 u.segs.l[j].price)::r from fun _=>rfl,A1,YN k]
     simp only[Bool.not_true,beq_self_eq_true,cK,Int.add_assoc,Bool.true_and]
     simp only[cond_true,cond_false]
     congr 1
     by_cases C:u.segs.l[j+1].price<u.segs.l[j].price
     ·simp[C,show ¬ u.segs.l[j].price≤u.segs.l[j+1].price by omega]
     ·simp[C,show u.segs.l[j].price≤u.segs.l[j+1].price by omega]
def oU (u:UnitD):Bool:=decide (u.segs.l.length≤8)&&(Gt (-1048576) u.segs.l&&(eS u.segs.l==u.max - u.min))
theorem Bjc {N:Nat} {u:UnitD} {b:Bool} {K:Bool→O R} (hN:64≤N) (C:0≤u.min∧u.min≤1048576) (D:0≤u.max∧u.max≤1048576):Fy N u.av b K=K (oU u):=by
 rw[AP];unfold Ov
 rw[u4]
 by_cases k:u.segs.l.length≤8
 ·rw[show decide ((u.segs.l.length:Int)>8)=false by simp;omega,cf,u4]
  have:=Bcf (b:=b) (K:=K) hN C D k u.segs.l.length 0 N 0 (by omega) (by omega) (by omega)
  simpa[oU,k,Aco] using this
 ·rw[show decide ((u.segs.l.length:Int)>8)=true by simp;omega,ct]
  simp[oU,k]
end
end Gx

namespace Gx
open Go Go.Proofs
open IntKind (wrap)
set_option maxRecDepth 100000
noncomputable section
variable {R:Type} (N:Nat)
def Ze (r0:Bool→O R) (c:Int) (d:Bool) (b:LA) (k3:Int→O R) (e:Int):O R :=
 (B9 1 (b.drop 18) fun bh f=>(cond (decide (e<((f:Nat):Int))) (B9 1 (b.drop 18) fun g i=>(cond (Ac e i) (Ao .i64 (g.drop ((e.toNat)*1)) fun l=>(Lf N l 0 (wrap .i64 (c - 1)) (fun m=>(cond ((!m)==false) (cond ((decide (e>0))==true) (B9 1 (b.drop 18) fun o p=>(cond (Ac e p) (Ao .i64 (o.drop ((e.toNat)*1)) fun q=>(B9 1 (b.drop 18) fun r s=>(cond (Ac (wrap .i64 (e - 1)) s) (Ao .i64 (r.drop (((wrap .i64 (e - 1)).toNat)*1)) fun t=>(cond (cond false true (cond true (decide (q≤t)) false)) (r0 false) (k3 (wrap .i64 (e+1))))) none))) none)) (k3 (wrap .i64 (e+1)))) (r0 false))))) none)) (Ao .i64 (b.drop 19) fun u=>(cond (u==2) (Ao .i64 (b.drop 21) fun v=>(Ao .i64 (b.drop 2) fun w=>(Ao .i64 (b.drop 3) fun x=>(Lf N v w x (fun y=>(r0 y)))))) (Ao .i64 (b.drop 21) fun z=>(r0 (z==0)))))))
def Rc (r0:Bool→O R) (c:Int) (d:Bool) (b:LA):Nat→Int→O R
 | 0,_=>none
 | n+1,e=>(Ze N r0 c d b (Rc r0 c d b n) e)
def QM (N:Nat) (r0:Bool→O R) (c:Int) (d:Bool) (b:LA) (q3:Int→O R):O R :=
 (q3 0)
def YO (r0:Bool→O R) (c:Int) (d:Bool) (b:LA):O R:=(QM N r0 c d b (fun e=>(Rc N r0 c d b N e)))
def QN (r0:Bool→O R) (c:Int) (d:Bool) (b:LA) (q2:O R):O R :=
 (Ao .i64 (b.drop 5) fun aa=>(Lf N aa 0 1048576 (fun ab=>(cond ((!ab)==false) (Ao .i64 (b.drop 13) fun ac=>(Lf N ac 0 1048576 (fun ad=>(cond ((cond false true (!ad))==false) (Ao .i64 (b.drop 14) fun ae=>(Lf N ae 0 1048576 (fun af=>(cond ((cond false true (!af))==false) (Ao .i64 (b.drop 17) fun ag=>(Lf N ag 0 1048576 (fun ah=>(cond (cond false true (!ah)) (r0 false) q2)))) (r0 false))))) (r0 false))))) (r0 false)))))
def YP (r0:Bool→O R) (c:Int) (d:Bool) (b:LA):O R:=(QN N r0 c d b (YO N r0 c d b))
def QO (r0:Bool→O R) (c:Int) (d:Bool) (b:LA) (q1:O R):O R :=
 (Ao .i64 (b.drop 6) fun ai=>(Lf N ai 0 1048576 (fun aj=>(cond ((!aj)==false) (Ao .i64 (b.drop 7) fun ak=>(Lf N ak 0 1048576 (fun al=>(cond ((cond false true (!al))==false) (Ao .i64 (b.drop 16) fun am=>(Lf N am 0 1048576 (fun an=>(cond ((cond false true (!an))==false) (Ao .i64 (b.drop 8) fun ao=>(Ao .i64 (b.drop 2) fun ap=>(Ao .i64 (b.drop 3) fun aq=>(Lf N ao ap aq (fun ar=>(cond ((cond false true (!ar))==false) (Ao .i64 (b.drop 9) fun au=>(Ao .i64 (b.drop 2) fun av=>(Ao .i64 (b.drop 3) fun aw=>(Lf N au av aw (fun ax=>(cond (cond false true (!ax)) (r0 false) q1)))))) (r0 false))))))) (r0 false))))) (r0 false))))) (r0 false)))))
def FJ (r0:Bool→O R) (c:Int) (d:Bool) (b:LA):O R:=(QO N r0 c d b (YP N r0 c d b))
def YQ (r0:Bool→O R) (q0:O R) (b:LA) (d:Bool) (c:Int):O R :=
 (Lf N c 1 24 (fun ay=>(cond ((!ay)==false) (cond (Nat.ble 22 (b.length)) (Lg N (b.take 22) d (fun az=>(cond ((cond false true (!az))==false) (Ao .i64 (b.drop 2) fun ba=>(Lf N ba 0 1048576 (fun bb=>(cond ((cond false true (!bb))==false) (Ao .i64 (b.drop 3) fun bc=>(Ao .i64 (b.drop 2) fun bd=>(Lf N bc bd 1048576 (fun be=>(cond ((cond false true (!be))==false) (cond (Nat.ble 22 (b.length)) (Rb N (b.take 22) d (fun bf=>(cond (cond false true (!bf)) (r0 false) q0))) none) (r0 false)))))) (r0 false))))) (r0 false)))) none) (r0 false))))
def Yj:=(Ae (fun (N:Nat) (b:LA) (d:Bool) (c:Int) (r0:Bool→O R)=>(YQ N r0 (FJ N r0 c d b) b d c))).1
theorem oV (b d c r0):(@Yj R N b d c r0)=(YQ N r0 (FJ N r0 c d b) b d c):=by rw[Yj,(Ae _).2]
def uP:Hints:={ H:=(hS hL (hJ [1,2] hL (hJ [1,2] hL (hJ [1,2] hL (hS (hS hL (hS (hP [1,2,5] hL) hL)) hL))))) }
def Acq:Dg:=[(51,Aw6 N),(52,Q6 N),(53,Afz N)]
def FK (F:KF R):=Hp Tryz.f17 uP (Acq N) [] N F
def Fa (F:KF R):Bool→O R:=(fun bg=>F (.bool bg) [])
def A0h (c:Int) (d:Bool) (b:LA) (e:Int):St:=⟨[(1,(iv c)),(2,(op 0)),(5,(iv e))],(hq [(bP d 0 b)])⟩
def A0i (F:KF R):=FK N F [1,1,1,1,0,1,0] []
def A0j (c:Int) (d:Bool) (b:LA):St:=⟨[(1,(iv c)),(2,(op 0))],(hq [(bP d 0 b)])⟩
def A0k (F:KF R):=FK N F [1,1,1,1] []
def A0l (c:Int) (d:Bool) (b:LA):St:=⟨[(1,(iv c)),(2,(op 0))],(hq [(bP d 0 b)])⟩
def A0m (F:KF R):=FK N F [1,1,1] []
def A0n (c:Int) (d:Bool) (b:LA):St:=⟨[(1,(iv c)),(2,(op 0))],(hq [(bP d 0 b)])⟩
def A0o (F:KF R):=FK N F [1,1] []
theorem cE (F:KF R) (c:Int) (d:Bool) (b:LA):∀ (n:Nat) (e:Int),Ap (A0i N F) n (A0h c d b e)=(Rc N (Fa F) c d b n e)
 | 0,_=>by kernel_rfl
 | n+1,e=>Eq.trans (by kernel_rfl) (Bm (Ze N (Fa F) c d b · e) (funext fun e=>(cE F c d b n e)):_)
theorem Af1 (F:KF R) (c:Int) (d:Bool) (b:LA):A9 (A0k N F) (A0j c d b)=(YO N (Fa F) c d b):=by
 exact Eq.trans (by kernel_rfl) (Bm (QM N (Fa F) c d b ·) (funext fun e=>(Ai ..).trans (cE N F c d b N e)):_)
theorem Af2 (F:KF R) (c:Int) (d:Bool) (b:LA):A9 (A0m N F) (A0l c d b)=(YP N (Fa F) c d b):=by
 exact Eq.trans (by kernel_rfl) (Bm (QN N (Fa F) c d b ·) ((Aq ..).trans (Af1 N F c d b)):_)
theorem Af3 (F:KF R) (c:Int) (d:Bool) (b:LA):A9 (A0o N F) (A0n c d b)=(FJ N (Fa F) c d b):=by
 exact Eq.trans (by kernel_rfl) (Bm (QO N (Fa F) c d b ·) ((Aq ..).trans (Af2 N F c d b)):_)
theorem uQ (b:LA) (d:Bool) (c:Int) (F:KF R):Cd (Acq N) uP N 17 [(.pagg b d),(iv c)] [] F=(Yj N b d c (Fa F)):=by
 rw[oV]
 exact Eq.trans (by kernel_rfl) (Bm (YQ N (Fa F) · b d c) ((Aq ..).trans (Af3 N F c d b)):_)
def oW (a:LA) (h:Ak) (k:KF R):O R :=
 match a,h with
 | [(.pagg b d),(.int .i64 c)],[]=>(Yj N b d c (Fa k))
 | _,_=>none
theorem uS:An N 17 @oW:=by
 intro R Q a h k j;unfold oW;split;exact Ax (uQ ..) (uQ ..) ⟨Aw7 N,Q8 N,Af0 N,trivial⟩;exact Az
def uT:=Ay (uS N)
def uU:=Ca (uS N)
def iM (b:LA) (c:Bool) (d e:Int) (r0:Bool→O R):O R :=
 (cond (Nat.ble 3 (b.length)) (Be N d (fun f=>(Cn N (b.take 3) c f false (fun g=>(cond ((decide (g≥0))==true) (cond (Nat.ble 3 (b.length)) (Be N e (fun i=>(Cn N (b.take 3) c i false (fun l=>(r0 (cond true (decide (l≤0)) false)))))) none) (r0 false)))))) none)
def JN:=(Ae (@iM R)).1
theorem iN:@JN R=@iM R:=(Ae _).2
def A0p:Dg:=[(20,Gj N),(25,Ld N)]
def oX (F:KF R):Bool→O R:=(fun m=>F (.bool m) [])
theorem oY (b:LA) (c:Bool) (d e:Int) (F:KF R):Cd (A0p N) C6 N 36 [(.pagg b c),(iv d),(iv e)] [] F=(JN N b c d e (oX F)):=by
 rw[iN]
 kernel_rfl
def iO (a:LA) (h:Ak) (k:KF R):O R :=
 match a,h with
 | [(.pagg b c),(.int .i64 d),(.int .i64 e)],[]=>(JN N b c d e (oX k))
 | _,_=>none
theorem oZ:An N 36 @iO:=by
 intro R Q a h k j;unfold iO;split;exact Ax (oY ..) (oY ..) ⟨Gk N,Le N,trivial⟩;exact Az
def Atc:=Ay (oZ N)
def Atd:=Ca (oZ N)
end
end Gx

namespace Gx
open Go Go.Proofs
section
variable {R:Type}
theorem Bcg {N:Nat} {u:UnitD} {b:Bool} {K:Bool→O R} (G:u.segs.l.length≤8):∀ (m j fuel:Nat) (d:Int),j+m=u.segs.l.length→m<fuel→(0≤d∧d≤1048576) →
  Fp N K b u.av fuel d (j:Int)=K (Gt (Aco u.segs.l j) (u.segs.l.drop j)&&(eS (u.segs.l.drop j)==d))
 | 0,j,fuel+1,d,I,_,_=>by
  rw[Fp];unfold Ra
  rw[u4,Kn (by omega),cf,Dz (l:=u.segs.l) (by omega)]
  congr 1
  rw[Bool.eq_iff_iff];simp[Gt,eS];omega
 | m+1,j,fuel+1,d,I,S,T=>by
  rw[Fp];unfold Ra
  have h:j<u.segs.l.length:=by omega
  rw[u4,Iz h,ct,u4,Aa h,ct,rC h]
  have p0:List.take 2 ((AV.int .i64 u.segs.l[j].width)::(AV.int .i64 u.segs.l[j].price)::(u.segs.l.drop (j+1)).flatMap SegD.av)=[(.int .i64 u.segs.l[j].width),(.int .i64 u.segs.l[j].price)]:=rfl
  rw[p0,show Nat.ble 2 (List.length ((AV.int .i64 u.segs.l[j].width)::(AV.int .i64 u.segs.l[j].price)::(u.segs.l.drop (j+1)).flatMap SegD.av))=true by simp,ct]
  rw[show((!b)||A8 [(AV.int .i64 u.segs.l[j].width),(.int .i64 u.segs.l[j].price)])=true by cases b<;>rfl,ct]
  rw[show((Nat.beq (List.length [(AV.int .i64 u.segs.l[j].width),(.int .i64 u.segs.l[j].price)]) 2)&&((Nat.ble 2 2)&&(!false)))=true from rfl,ct]
  simp only[Aob,lC,lB,u4]
  rw[Bs h,Gt,eS]
  cases L:Ft 1 1048576 u.segs.l[j].width with
  | false=>simp
  | true =>
   cases F:Ft (-1048576) 1048576 u.segs.l[j].price with
   | false=>simp
   | true =>
    simp only[Ft,Bool.and_eq_true,decide_eq_true_eq] at L F
    have M:IntKind.wrap .i64 ((j:Int)+1)=((j+1:Nat):Int):=wS (by omega)
    have key:(cond (cond false true (decide (u.segs.l[j].width>d))) (K false) (Fp N K b u.av fuel (IntKind.wrap .i64 (d - u.segs.l[j].width)) (IntKind.wrap .i64 ((j:Int)+1))))=K (Gt u.segs.l[j].price (u.segs.l.drop (j+1))&&(u.segs.l[j].width+eS (u.segs.l.drop (j+1))==d)):=by
     by_cases C:u.segs.l[j].width>d
     ·rw[show decide (u.segs.l[j].width>d)=true by simpa using C]
      simp only[cond_true,cond_false]
      congr 1
      cases hs:Gt u.segs.l[j].price (u.segs.l.drop (j+1)) with
      | false=>rfl
      | true =>
       have:=Acp hs
       symm;simp;omega
     ·rw[show decide (u.segs.l[j].width>d)=false by simpa using C]
      simp only[cond_false]
      have e1:IntKind.wrap .i64 (d - u.segs.l[j].width)=d - u.segs.l[j].width:=i64 (by omega)
      rw[e1,M,Bcg G m (j+1) fuel _ (by omega) (by omega) (by omega),YN h]
      congr 1
      rw[Bool.eq_iff_iff];simp;omega
    rw[key]
    rcases j with _ | j
    ·simp[Aco,F.1]
    ·have k:j<u.segs.l.length:=by omega
     rw[wP (by omega),Aa k,ct,rC k,A9h,ct]
     rw[show ∀ r:LA,List.drop 1 ((AV.int .i64 u.segs.l[j].width)::(AV.int .i64 u.segs.l[j].price)::r)=(AV.int .i64 u.segs.l[j].price)::r from fun _=>rfl,A1,YN k]
     by_cases D:u.segs.l[j+1].price<u.segs.l[j].price
     ·simp[D,show ¬ u.segs.l[j].price≤u.segs.l[j+1].price by omega]
     ·simp[D,show u.segs.l[j].price≤u.segs.l[j+1].price by omega]
theorem Bjd {N:Nat} {u:UnitD} {b:Bool} {K:Bool→O R} (hN:64≤N) (C:0≤u.min∧u.min≤u.max) (D:u.max≤1048576):Rb N u.av b K=K (oU u):=by
 rw[TO];unfold Zd
 rw[u4]
 by_cases k:u.segs.l.length≤8
 ·rw[show decide ((u.segs.l.length:Int)>8)=false by simp;omega,cf,u3,u2,i64 (by omega)]
  have:=Bcg (b:=b) (N:=N) (K:=K) k u.segs.l.length 0 N (u.max - u.min) (by omega) (by omega) (by omega)
  simpa[oU,k,Aco] using this
 ·rw[show decide ((u.segs.l.length:Int)>8)=true by simp;omega,ct]
  simp[oU,k]
def CO (hi p:Int):List Int→Bool
 | []=>true
 | x::r=>Ft 0 hi x&&(decide (p<x)&&CO hi x r)
def Acr (l:List Int):Nat→Int
 | 0=>-1
 | j+1=>(l[j]?).getD 0
theorem YR {l:List Int} {j:Nat} (h:j<l.length):Acr l (j+1)=l[j]:=by simp[Acr,h]
theorem Bch {N:Nat} {l:List Int} {e e':Bool} {f hi:Int} {K:Bool→O R} (hN:64≤N) (F:l.length≤1000000000000) (D:IntKind.wrap .i64 (f - 1)=hi):∀ (m j fuel:Nat),j+m=l.length→m<fuel →
  G0 N K (Av l) l.length e e' f fuel (l.length:Int) (j:Int)=K (CO hi (Acr l j) (l.drop j))
 | 0,j,fuel+1,G,_=>by
  rw[G0];unfold Qx
  rw[Kn (by omega),cf,Dz (l:=l) (by omega),CO]
 | m+1,j,fuel+1,G,I=>by
  rw[G0];unfold Qx
  have h:j<l.length:=by omega
  rw[Iz h,ct,Aa h,ct,Ct h,Bmy hN,D,wS (by omega),Bch hN F D m (j+1) fuel (by omega) (by omega),Bs h,CO,YR h]
  cases L:Ft 0 hi l[j] with
  | false=>simp
  | true =>
   simp only[Ft,Bool.and_eq_true,decide_eq_true_eq] at L
   rcases j with _ | j
   ·simp[Acr,show(-1:Int)<l[0] by omega]
   ·have k:j<l.length:=by omega
    rw[wP (by omega),Aa k,ct,Ct k,A9h,ct,YR k]
    by_cases C:l[j]<l[j+1]
    ·simp[C,show ¬ l[j+1]≤l[j] by omega]
    ·simp[C,show l[j+1]≤l[j] by omega]
theorem Bje {N:Nat} {l:List Int} {n:Nat} {e e':Bool} {f hi:Int} {K:Bool→O R} (hN:64≤N) (C:l.length≤1000000000000) (k:l.length<N) (hn:n=l.length) (D:IntKind.wrap .i64 (f - 1)=hi):Me N (Av l) n e e' f K=K (CO hi (-1) l):=by
 subst hn
 rw[SU];unfold Y9
 have:=Bch (N:=N) (e:=e) (e':=e') (K:=K) hN C D l.length 0 N (by omega) k
 simpa[Acr] using this
def A96 (u:UnitD):Bool:=cond (u.state==2) (Ft u.min u.max u.output) (u.output==0)
theorem A5i {N:Nat} {u:UnitD} {c:Bool} {f hi:Int} {K:Bool→O R} (F:u.away.l.length≤1000000000000) (D:IntKind.wrap .i64 (f - 1)=hi):∀ (m j fuel:Nat),j+m=u.away.l.length→m<fuel →
  Rc N K f c u.av fuel (j:Int)=K (CO hi (Acr u.away.l j) (u.away.l.drop j)&&A96 u)
 | 0,j,fuel+1,G,_=>by
  rw[Rc];unfold Ze
  rw[Bku,Kn (by omega),cf,Dz (l:=u.away.l) (by omega),CO]
  simp only[Bff,Bln,u2,u3,lB,cK];rfl
 | m+1,j,fuel+1,G,I=>by
  rw[Rc];unfold Ze
  have h:j<u.away.l.length:=by omega
  rw[Bku,Iz h,ct,Bku,Aa h,ct,Ct h,lB,D,wS (by omega),A5i F D m (j+1) fuel (by omega) (by omega),Bs h,CO,YR h]
  cases L:Ft 0 hi u.away.l[j] with
  | false=>simp
  | true =>
   simp only[Ft,Bool.and_eq_true,decide_eq_true_eq] at L
   rcases j with _ | j
   ·simp[Acr,show(-1:Int)<u.away.l[0] by omega]
   ·have k:j<u.away.l.length:=by omega
    rw[Bku,Aa h,ct,Ct h,Bku,wP (by omega),Aa k,ct,Ct k,A9h,ct,YR k]
    by_cases C:u.away.l[j]<u.away.l[j+1]
    ·simp[C,show ¬ u.away.l[j+1]≤u.away.l[j] by omega]
    ·simp[C,show u.away.l[j+1]≤u.away.l[j] by omega]
def C7 (u:UnitD) (hours:Int):Bool :=
 Ft 1 24 hours&&(Cq u&&(Ft 0 1048576 u.min&&(Ft 0 1048576 u.max&&(Ft 0 1048576 u.rampUp&&(Ft 0 1048576 u.rampDown&&(Ft 0 1048576 u.reserve&&(decide (u.min≤u.max)&&(Ft u.min u.max u.startRamp&&(Ft u.min u.max u.stopRamp &&
 (Ft 0 1048576 u.noLoad&&(Ft 0 1048576 u.hotCost&&(Ft 0 1048576 u.coldCost&&(Ft 0 1048576 u.reservePrice&&(A96 u&&(oU u&&CO (hours - 1) (-1) u.away.l)))))))))))))))
theorem Zf {N:Nat} {u:UnitD} {b:Bool} {hours:Int} {K:Bool→O R} (hN:64≤N) (F:u.away.l.length≤1000000000000) (k:u.away.l.length<N):V1 N u.av b hours K=K (C7 u hours):=by
 rw[tK];unfold kp
 rw[Bmy hN]
 unfold C7
 cases G:Ft 1 24 hours with
 | false=>simp
 | true =>
  have I:1≤hours∧hours≤24:=by simpa[Ft] using G
  rw[Bg,Cl,ct,Od hN]
  cases Cq u with
  | false=>simp
  | true =>
   unfold NC XQ
   simp only[u2,u3,u6,u7,Bmx,Boc hN]
   cases C:Ft 0 1048576 u.min with
   | false=>simp
   | true =>
    cases D:Ft 0 1048576 u.max with
    | false=>simp
    | true =>
     unfold gQ
     simp only[Ft,Bool.and_eq_true,decide_eq_true_eq] at C D
     simp only[u2,u3,u5,u8,u9,Bni,Bnj,Bnk,Bff,Bln,Bku,Bg,Cl,Boa hN,Bob hN,Bmy hN,ct,Bjc hN C D,Bje hN F k rfl (i64 (a:=hours - 1) (by omega))]
     simp[cK];congr 1
     unfold A96
     by_cases hs:u.state=2
     ·rw[Bool.eq_iff_iff];simp[hs];grind
     ·rw[Bool.eq_iff_iff];simp[hs];grind
theorem iP {N:Nat} {u:UnitD} {b:Bool} {hours:Int} {K:Bool→O R} (hN:64≤N) (L:u.away.l.length≤1000000000000) (C:u.away.l.length<N):Yj N u.av b hours K=K (C7 u hours):=by
 rw[oV];unfold YQ
 rw[lB]
 unfold C7
 cases M:Ft 1 24 hours with
 | false=>simp
 | true =>
  have T:1≤hours∧hours≤24:=by simpa[Ft] using M
  rw[Bg,Cl,ct,Lh]
  cases Cq u with
  | false=>simp
  | true =>
   simp only[u2,u3,lB]
   cases G:Ft 0 1048576 u.min with
   | false=>simp
   | true =>
    simp only[Ft,Bool.and_eq_true,decide_eq_true_eq] at G
    by_cases D:u.min≤u.max∧u.max≤1048576
    ·have F:Ft 0 1048576 u.max=true:=by simp[Ft];omega
     have k:Ft u.min 1048576 u.max=true:=by simp[Ft];omega
     unfold FJ QO YP QN YO QM
     have I:=A5i (u:=u) (N:=N) (c:=b) (K:=K) L (i64 (a:=hours - 1) (by omega)) u.away.l.length 0 N (by omega) C
     simp only[Acr,List.drop_zero,Int.natCast_zero] at I
     simp only[u2,u3,u5,u6,u7,u8,u9,Bni,Bnj,Bmx,Bnk,lB,ct,I,Bjd hN ⟨G.1,D.1⟩ D.2,F,k]
     simp[cK,D.1];congr 1
     rw[Bool.eq_iff_iff];simp;grind
    ·have k:Ft u.min 1048576 u.max=false:=by simp[Ft];omega
     simp only[k]
     have:(Ft 0 1048576 u.max&&decide (u.min≤u.max))=false:=by simp[Ft];omega
     simp;congr 1;symm
     cases S:Ft 0 1048576 u.max with
     | false=>rfl
     | true =>
      rw[S] at this
      simp at this
      simp;intro _ _ _ U;omega
end
end Gx

namespace Gx
open Go Go.Proofs
section
variable {R:Type}
theorem Aoc {v n:Int} (hn:0<n):Int.tmod (Int.tmod v n+n) n=v%n:=by
 have k:0≤Int.tmod v n+n:=by
  have:=Int.lt_tmod_of_pos v hn;omega
 rw[Int.tmod_eq_emod_of_nonneg k,Int.tmod_def,show v - n*v.tdiv n+n=v+n*(1 - v.tdiv n) by rw[Int.mul_sub];omega,Int.add_mul_emod_self_left]
theorem Aw8 {v n:Int} (hn:0<n) (k:n≤4611686018427387904):IntKind.wrap .i64 (Int.tmod v n+n)=Int.tmod v n+n:=by
 have C:=Int.lt_tmod_of_pos v hn
 have D:=Int.tmod_lt_of_pos v hn
 exact i64 (by omega)
theorem Bhg {N:Nat} {v n:Int} {K:Int→O R} (hn:0<n) (k:n≤4611686018427387904):Qw N v n K=K (v%n):=by
 rw[nQ];unfold qT
 rw[Aw8 hn k,Aoc hn,show(n==0)=false by simp;omega,cf,cf]
theorem Bfg {j:Nat} (h:j≤1000000000000):((Nat.ble (j+1) 140737488355328)&&(Nat.ble ((j+1)*16) 140737488355328))=true:=by
 rw[Bool.and_eq_true,Nat.ble_eq,Nat.ble_eq];omega
theorem Bfh (l:List Int) (v:Int):List.take (l.length*1) (Av l)++[(.int .i64 v)]=Av (l++[v]):=by
 rw[Nat.mul_one,←Db l,List.take_length];simp[Av]
end
end Gx

namespace Gx
open Go Go.Proofs
section
variable {R:Type}
def Iy (x y:Nat):Int:=if x<y then -1 else if y<x then 1 else 0
theorem GO (x:Nat):Iy x x=0:=by unfold Iy;simp
theorem YS {a b:Nat} (h:(As a).length<(As b).length):a<b:=Nat.lt_of_not_le fun k=>by
 have:=Cj k;omega
theorem Aht {u w p q P:Nat} (k:u<P) (C:w<P) (h:p<q):u+P*p<w+P*q:=by
 have:P*(p+1)≤P*q:=Nat.mul_le_mul_left _ h
 rw[Nat.mul_add] at this
 omega
theorem Aw9 {N:Nat} {x y:List Nat} {t u:Bool} {K:Int→O R} (D:Am x) (F:Am y) (hs:x.length≤1000000000000) (I:x.length=y.length):∀ (i fuel:Nat),i≤x.length→i<fuel →
  Fw N K (Af x) x.length t (Af y) y.length u fuel ((i:Int) - 1)=K (Iy (val (x.take i)) (val (y.take i)))
 | 0,fuel+1,_,_=>by
  rw[Fw];unfold Ou
  rw[show decide ((((0:Nat):Int) - 1)≥0)=false by simp,cf]
  simp[GO]
 | i+1,fuel+1,hi,L=>by
  rw[Fw];unfold Ou
  rw[show(((i+1:Nat):Int) - 1)=(i:Int) by omega,show decide ((i:Int)≥0)=true by simp,ct,Aa (by omega),ct,eQ (by omega),Aa (by omega),ct,eQ (by omega),ct,eQ (by omega),ct,eQ (by omega),i64 (by omega),
   Aw9 D F hs I i fuel (by omega) (by omega),A5 (by omega),A5 (by omega)]
  have k:=Bq (C0 D i)
  have C:=Bq (C0 F i)
  rw[List.length_take,Nat.min_eq_left (by omega)] at k C
  by_cases c1:x[i]<y[i]
  ·have:=Aht k C c1
   rw[show decide (((x[i]:Nat):Int)<((y[i]:Nat):Int))=true by simp;exact c1,ct]
   unfold Iy;rw[if_pos this]
  ·by_cases G:y[i]<x[i]
   ·have:=Aht C k G
    rw[show decide (((x[i]:Nat):Int)<((y[i]:Nat):Int))=false by simp;omega,cf,show decide (((x[i]:Nat):Int)>((y[i]:Nat):Int))=true by simp;exact G,ct]
    unfold Iy;rw[if_neg (by omega),if_pos this]
   ·have:x[i]=y[i]:=by omega
    rw[show decide (((x[i]:Nat):Int)<((y[i]:Nat):Int))=false by simp;omega,cf,show decide (((x[i]:Nat):Int)>((y[i]:Nat):Int))=false by simp;omega,cf,this]
    unfold Iy
    congr 1
    by_cases a1:val (x.take i)<val (y.take i)
    ·rw[if_pos a1,if_pos (by omega)]
    ·by_cases a2:val (y.take i)<val (x.take i)
     ·rw[if_neg a1,if_pos a2,if_neg (by omega),if_pos (by omega)]
     ·rw[if_neg a1,if_neg a2,if_neg (by omega),if_neg (by omega)]
theorem U9 {N:Nat} {a b:List Nat} {n m:Nat} {t o t' o':Bool} {K:Int→O R} (hn:n=a.length) (G:m=b.length) (C:Am a) (D:Am b) (k:fit (a.length+b.length) N) :
  Er N (Af a) n t o (Af b) m t' o' K=K (Iy (val a) (val b)):=by
 subst hn G
 have L:=k.1;have M:=k.2
 rw[MW];unfold Vx
 dsimp only
 rw[Cm rfl C (k.le (by omega)),Cm rfl D (k.le (by omega))]
 have la:=(B0 C).2
 have lb:=(B0 D).2
 by_cases F:(As (val a)).length=(As (val b)).length
 ·rw[show((((As (val a)).length:Nat):Int) != (((As (val b)).length:Nat):Int))=false by simp;omega,cf,i64 (by omega),Aw9 (Ad _) (Ad _) (by omega) F _ N (Nat.le_refl _) (by omega),List.take_length,F,List.take_length,Al,Al]
 ·rw[show((((As (val a)).length:Nat):Int) != (((As (val b)).length:Nat):Int))=true by simp;omega,ct]
  by_cases I:(As (val a)).length<(As (val b)).length
  ·have:=YS I
   rw[show decide ((((As (val a)).length:Nat):Int)<(((As (val b)).length:Nat):Int))=true by simp;omega,ct]
   unfold Iy;rw[if_pos this]
  ·have:=YS (show(As (val b)).length<(As (val a)).length by omega)
   rw[show decide ((((As (val a)).length:Nat):Int)<(((As (val b)).length:Nat):Int))=false by simp;omega,cf]
   unfold Iy;rw[if_neg (by omega),if_pos this]
theorem Aod {N:Nat} {a:List Nat} {n:Nat} {t o:Bool} {K:Int→O R} (hn:n=a.length) (D:Am a) (k:fit a.length N):T6 N (Af a) n t o K=K (Iy (val a) 0):=by
 subst hn
 have F:=k.1;have G:=k.2
 rw[fm];unfold MQ
 dsimp only
 rw[Cm rfl D k,Bd6 (by omega)]
 by_cases C:val a=0
 ·rw[C,Ey,GO]
  cases N with
  | zero=>omega
  | succ N =>
   rw[Sf];unfold HU
   rw[i64 (by simp)];simp
 ·have I:(As (val a)).length≠0:=fun h=>C (B5.1 h)
  rw[show((((As (val a)).length:Nat):Int) != (0:Int))=true by simp;exact fun h=>C (Ai6.1 h),ct]
  rw[show decide ((((As (val a)).length:Nat):Int)<(0:Int))=false by simp,cf]
  unfold Iy;rw[if_neg (by omega),if_pos (by omega)]
end
end Gx

namespace Gx
open Go Go.Proofs
section
variable {R:Type}
theorem uV:∀ {S:List Nat} {d v:Nat} (h:d<S.length),val (S.set d v)+4294967296 ^ d*S[d]=val S+4294967296 ^ d*v
 | x::r,0,v,_=>by simp[val];omega
 | x::r,d+1,v,h=>by
  have k:=uV (S:=r) (d:=d) (v:=v) (by simpa using h)
  simp only[List.set_cons_succ,val,List.getElem_cons_succ,Nat.pow_succ]
  have e1:∀ y,4294967296 ^ d*4294967296*y=4294967296*(4294967296 ^ d*y):=fun y=>by rw[Nat.mul_comm (4294967296 ^ d),Nat.mul_assoc]
  rw[e1,e1]
  omega
theorem Va (b:List Nat) (d:Nat):val (b.take (d+1))=val (b.take d)+4294967296 ^ d*b.getD d 0:=by
 by_cases h:d<b.length
 ·rw[A5 h,List.getD_eq_getElem?_getD,List.getElem?_eq_getElem h];rfl
 ·rw[List.take_of_length_le (by omega),List.take_of_length_le (by omega),List.getD_eq_getElem?_getD,List.getElem?_eq_none (by omega)];simp
theorem Pr (P s:Nat):P*(s%4294967296)+P*4294967296*(s/4294967296)=P*s:=by
 rw[Nat.mul_assoc,←Nat.mul_add,Nat.add_comm,Nat.div_add_mod]
def Bfi (S:List Nat) (d:Nat):Prop:=∀ j (h:j<S.length),d≤j→S[j]=0
theorem OC {S:List Nat} {d v:Nat} (h:Bfi S d):Bfi (S.set d v) (d+1):=fun j k C=>by
 rw[List.getElem_set]
 rw[if_neg (by omega)]
 exact h j (by simpa using k) (by omega)
theorem Oe (n:Nat):Bfi (List.replicate n 0) 0:=fun j k _=>by simp
theorem Zg {S:List Nat} {d v:Nat} (h:Bfi S d) (k:d<S.length):val (S.set d v)=val S+4294967296 ^ d*v:=by
 have:=uV (v:=v) k
 rw[h d k (Nat.le_refl _)] at this;simpa using this
theorem Bn5 {a:Nat} (h:a≤1000000000000):IntKind.wrap .i64 (((a:Nat):Int)+(1:Int))=((a+1:Nat):Int):=wS h
theorem Bmz {x:Nat} {m:List Nat} (h:x<m.length):((Nat.beq 1 1)&&((Nat.ble ((0+(x*1))+1) (List.length (Af m)))&&(!false)))=true:=by
 rw[Cg];simp;omega
theorem Bkv {x v:Nat} {m:List Nat}:List.set (Af m) (0+(x*1)) (.int .u32 (v:Int))=Af (m.set x v):=by rw[Nat.mul_one,Nat.zero_add,sK]
theorem Aoe {N:Nat} {a b:List Nat} {t u:Bool} (T:Am a) (U:Am b) (D:fit (a.length+1) N) (F:b.length≤a.length):∀ (m d fuel:Nat) (S:List Nat) (c:Nat),d+m=a.length→m<fuel→Am S→S.length=a.length+1→Bfi S d→c≤1 →
  val S+4294967296 ^ d*c=val (a.take d)+val (b.take d) →
  ∃ S',Am S'∧S'.length=a.length+1∧val S'=val a+val b∧∀ K:Nat→LA→O R,Yf N K (Af a) a.length t (Af b) b.length u fuel (a.length+1) (c:Int) (a.length:Int) (d:Int) (Af S)=K (As (val a+val b)).length (Af S')
 | 0,d,fuel+1,S,c,hd,_,hS,G,I,hc,hv=>by
  have h1:=D.1;have h2:=D.2
  have V:d=a.length:=by omega
  subst V
  have L:val (S.set a.length c)=val a+val b:=by
   rw[Zg I (by omega),hv,List.take_length,List.take_of_length_le F]
  have M:=C9 hS (show c<4294967296 by omega) a.length
  refine⟨S.set a.length c,M,by simpa using G,L,fun K=>?_⟩
  rw[Yf];unfold IX
  rw[Kn (Nat.le_refl _),cf,Aa (by omega),ct,Bmz (by omega),ct,Bcd (by omega),Bkv,SM (by simp;omega) M (by simp only[List.length_set,G];exact D),L]
 | m+1,d,fuel+1,S,c,hd,hfu,hS,G,I,hc,hv=>by
  have h1:=D.1;have h2:=D.2
  have k:d<a.length:=by omega
  have ad:=Bd T k
  have step:∀ s:Nat,s<8589934592→s=c+a[d]+b.getD d 0→val (S.set d (s%4294967296))+4294967296 ^ (d+1)*(s/4294967296)=val (a.take (d+1))+val (b.take (d+1)):=by
   intro s _ hs
   rw[Zg I (by omega),A5 k,Va b d,Nat.pow_succ]
   have e:=Pr (4294967296 ^ d) s
   have e2:4294967296 ^ d*s=4294967296 ^ d*c+4294967296 ^ d*a[d]+4294967296 ^ d*b.getD d 0:=by rw[hs,Nat.mul_add,Nat.mul_add]
   omega
  by_cases C:d<b.length
  ·have bd:=Bd U C
   have Y:b.getD d 0=b[d]:=by rw[List.getD_eq_getElem?_getD,List.getElem?_eq_getElem C];rfl
   obtain⟨S',q1,q2,q3,q4⟩:=Aoe (t:=t) (u:=u) T U D F m (d+1) fuel (S.set d ((c+a[d]+b[d])%4294967296)) ((c+a[d]+b[d])/4294967296) (by omega) (by omega) (C9 hS (by omega) d) (by simpa using G) (OC I) (by omega) (step _ (by omega) (by rw[Y]))
   refine⟨S',q1,q2,q3,fun K=>?_⟩
   rw[Yf];unfold IX
   rw[Iz k,ct,Aa k,ct,eQ k,Iz C,ct,Aa C,ct,eQ C,Aa (by omega),ct,Ava (by omega),ct,J5 (by omega),J5 (by omega),RX,J5 (by omega),RX,J5 (by omega),xV,qB,gJ,wS (by omega)]
   exact q4 K
  ·have Y:b.getD d 0=0:=by rw[List.getD_eq_getElem?_getD,List.getElem?_eq_none (by omega)];rfl
   obtain⟨S',q1,q2,q3,q4⟩:=Aoe (t:=t) (u:=u) T U D F m (d+1) fuel (S.set d ((c+a[d])%4294967296)) ((c+a[d])/4294967296) (by omega) (by omega) (C9 hS (by omega) d) (by simpa using G) (OC I) (by omega) (step _ (by omega) (by rw[Y];rfl))
   refine⟨S',q1,q2,q3,fun K=>?_⟩
   rw[Yf];unfold IX
   rw[Iz k,ct,Aa k,ct,eQ k,Kn (by omega),cf,Aa (by omega),ct,Ava (by omega),ct,J5 (by omega),RX,J5 (by omega),xV,qB,gJ,wS (by omega)]
   exact q4 K
theorem Bhh {N:Nat} {a b:List Nat} {t u:Bool} (D:Am a) (F:Am b) (k:fit (a.length+1) N) (C:b.length≤a.length) :
  ∃ S',Am S'∧val S'=val a+val b∧∀ K:Nat→LA→O R,TI N K (Af a) a.length t (Af b) b.length u=K (As (val a+val b)).length (Af S'):=by
 have M:=k.1;have T:=k.2
 obtain⟨S',G,_,I,L⟩:=Aoe (R:=R) (t:=t) (u:=u) D F k C a.length 0 N (List.replicate (a.length+1) 0) 0 (by omega) (by omega) (C5 _) (by simp) (Oe _) (by omega) (by rw[E2];simp[val])
 refine⟨S',G,I,fun K=>?_⟩
 unfold TI qp
 rw[Bn5 (by omega),Bgl (by omega),ct,Int.toNat_natCast,Dw]
 exact L K
theorem Bhi {N:Nat} {a b:List Nat} {n m:Nat} {t o t' o':Bool} (hn:n=a.length) (L:m=b.length) (D:Am a) (F:Am b) (k:fit (a.length+b.length+1) N) :
  ∃ S',Am S'∧val S'=val a+val b∧∀ K:Nat→LA→O R,yH N (Af a) n t o (Af b) m t' o' K=K (As (val a+val b)).length (Af S'):=by
 subst hn L
 have la:=(B0 D).2
 have lb:=(B0 F).2
 by_cases M:(As (val a)).length<(As (val b)).length
 ·obtain⟨S',G,C,I⟩:=Bhh (R:=R) (N:=N) (a:=As (val b)) (b:=As (val a)) (t:=o') (u:=o) (Ad _) (Ad _) (k.le (by omega)) (by omega)
  rw[Al,Al,Nat.add_comm] at C
  refine⟨S',G,C,fun K=>?_⟩
  rw[qq];unfold t8
  dsimp only
  rw[Cm rfl D (k.le (by omega)),Cm rfl F (k.le (by omega)),Iz M,ct,I,Al,Al,Nat.add_comm (val b)]
 ·obtain⟨S',G,C,I⟩:=Bhh (R:=R) (N:=N) (a:=As (val a)) (b:=As (val b)) (t:=o) (u:=o') (Ad _) (Ad _) (k.le (by omega)) (by omega)
  rw[Al,Al] at C
  refine⟨S',G,C,fun K=>?_⟩
  rw[qq];unfold t8
  dsimp only
  rw[Cm rfl D (k.le (by omega)),Cm rfl F (k.le (by omega)),Kn (by omega),cf,I,Al,Al]
end
end Gx

namespace Gx
open Go Go.Proofs
section
variable {R:Type}
theorem lD {x y:Nat} (k:x<4294967296) (C:y≤4294967296):∃ d c:Nat,d<4294967296∧c≤1∧x+4294967296*c=d+y∧IntKind.wrap .u32 (IntKind.wrap .u64 ((x:Int) - (y:Int)))=(d:Int)∧Int.fdiv (IntKind.wrap .u64 ((x:Int) - (y:Int))) (2 ^ 63)=(c:Int):=by
 by_cases h:y≤x
 ·refine⟨x - y,0,by omega,by omega,by omega,?_,?_⟩
  ·rw[xU (by omega) h,Bcd (by omega)]
  ·rw[xU (by omega) h,Bmv,Nat.div_eq_of_lt (by omega)]
 ·refine⟨x+4294967296 - y,1,by omega,by omega,by omega,?_,?_⟩
  ·rw[Bg7 (by omega) (by omega),qB];congr 1;omega
  ·rw[Bg7 (by omega) (by omega),Bmv];congr 1;omega
theorem Bjf {x c w:Nat} (k:x<4294967296) (C:c≤1) (D:w<4294967296):IntKind.wrap .u64 ((IntKind.wrap .u64 ((x:Int) - (c:Int))) - (w:Int))=IntKind.wrap .u64 ((x:Int) - ((c+w:Nat):Int)):=by
 rw[qC,qC,qC];omega
theorem Aof {N:Nat} {a b:List Nat} {t u:Bool} (U:Am a) (V:Am b) (G:fit a.length N) (D:b.length≤a.length) (I:val b≤val a):∀ (m d fuel:Nat) (S:List Nat) (c:Nat),d+m=a.length→m<fuel→Am S→S.length=a.length→Bfi S d→c≤1 →
  val S+val (b.take d)=val (a.take d)+4294967296 ^ d*c →
  ∃ S',Am S'∧val S'=val a - val b∧∀ K:Nat→Bool→LA→O R,Ux N K (Af b) b.length t a.length (Af a) u fuel (c:Int) (a.length:Int) (d:Int) (Af S)=K (As (val a - val b)).length true (Af S')
 | 0,d,fuel+1,S,c,hd,_,hS,F,T,hc,hv=>by
  have Y:d=a.length:=by omega
  subst Y
  rw[List.take_length,List.take_of_length_le D] at hv
  have hlt:=Bq hS
  rw[F] at hlt
  have hc0:c=0:=by
   rcases Nat.lt_or_ge 0 c with h | h
   ·exfalso
    have:c=1:=by omega
    subst this
    omega
   ·omega
  subst hc0
  have L:val S=val a - val b:=by omega
  refine⟨S,hS,L,fun K=>?_⟩
  rw[Ux];unfold IV
  rw[Kn (Nat.le_refl _),cf,SM F.symm hS (by rw[F];exact G),L]
 | m+1,d,fuel+1,S,c,hd,hfu,hS,F,T,hc,hv=>by
  have h1:=G.1;have h2:=G.2
  have k:d<a.length:=by omega
  have ad:=Bd U k
  have step:∀ y g c':Nat,y=c+b.getD d 0→a[d]+4294967296*c'=g+y→val (S.set d g)+val (b.take (d+1))=val (a.take (d+1))+4294967296 ^ (d+1)*c':=by
   intro y g c' hy M
   rw[Zg T (by omega),A5 k,Va b d,Nat.pow_succ,Nat.mul_assoc]
   have e:4294967296 ^ d*(a[d]+4294967296*c')=4294967296 ^ d*(g+(c+b.getD d 0)):=by rw[M,hy]
   rw[Nat.mul_add,Nat.mul_add,Nat.mul_add] at e
   omega
  by_cases C:d<b.length
  ·have bd:=Bd V C
   have M:b.getD d 0=b[d]:=by rw[List.getD_eq_getElem?_getD,List.getElem?_eq_getElem C];rfl
   obtain⟨g,c',g1,g2,g3,g4,g5⟩:=lD ad (show c+b[d]≤4294967296 by omega)
   obtain⟨S',q1,q3,q4⟩:=Aof (t:=t) (u:=u) U V G D I m (d+1) fuel (S.set d g) c' (by omega) (by omega) (C9 hS g1 d) (by simpa using F) (OC T) g2 (step _ _ _ (by rw[M]) g3)
   refine⟨S',q1,q3,fun K=>?_⟩
   rw[Ux];unfold IV
   rw[Iz k,ct,Aa k,ct,eQ k,Iz C,ct,Aa C,ct,eQ C,ct,Ava (by omega),ct,J5 (show a[d]<18446744073709551616 by omega),J5 (show b[d]<18446744073709551616 by omega),Bjf ad hc bd,g4,g5,gJ,wS (by omega)]
   exact q4 K
  ·have M:b.getD d 0=0:=by rw[List.getD_eq_getElem?_getD,List.getElem?_eq_none (by omega)];rfl
   obtain⟨g,c',g1,g2,g3,g4,g5⟩:=lD ad (show c≤4294967296 by omega)
   obtain⟨S',q1,q3,q4⟩:=Aof (t:=t) (u:=u) U V G D I m (d+1) fuel (S.set d g) c' (by omega) (by omega) (C9 hS g1 d) (by simpa using F) (OC T) g2 (step _ _ _ (by rw[M];rfl) g3)
   refine⟨S',q1,q3,fun K=>?_⟩
   rw[Ux];unfold IV
   rw[Iz k,ct,Aa k,ct,eQ k,Kn (by omega),cf,ct,Ava (by omega),ct,J5 (show a[d]<18446744073709551616 by omega),g4,g5,gJ,wS (by omega)]
   exact q4 K
theorem Aog {N:Nat} {a b:List Nat} {n m:Nat} {t o t' o':Bool} (hn:n=a.length) (L:m=b.length) (F:Am a) (G:Am b) (k:fit (a.length+b.length) N) (C:val b≤val a) :
  ∃ S',Am S'∧val S'=val a - val b∧∀ K:Nat→Bool→LA→O R,XT N (Af a) n t o (Af b) m t' o' K=K (As (val a - val b)).length true (Af S'):=by
 subst hn L
 have U:=k.1;have V:=k.2
 have la:=(B0 F).2
 have lb:=(B0 G).2
 have D:=Cj C
 obtain⟨S',M,I,T⟩:=Aof (R:=R) (N:=N) (a:=As (val a)) (b:=As (val b)) (t:=o') (u:=o) (Ad _) (Ad _) (k.le (by omega)) D (by rw[Al,Al];exact C) (As (val a)).length 0 N (List.replicate (As (val a)).length 0) 0 (by omega) (by omega) (C5 _) (by simp) (Oe _) (by omega) (by rw[E2];simp[val])
 rw[Al,Al] at I
 refine⟨S',M,I,fun K=>?_⟩
 rw[qk];unfold tW
 dsimp only
 rw[Cm rfl F (k.le (by omega)),Cm rfl G (k.le (by omega)),U9 rfl rfl (Ad _) (Ad _) (k.le (by omega)),Al,Al]
 have:decide (Iy (val a) (val b)<0)=false:=by unfold Iy;split<;>(try split)<;>simp<;>omega
 rw[this,cf,Bgl (by omega),ct,Dw]
 have:=T K
 rw[Al,Al] at this
 exact this
theorem Bhj {N:Nat} {a b:List Nat} {n m:Nat} {t o t' o':Bool} {K:Nat→Bool→LA→O R} (hn:n=a.length) (G:m=b.length) (D:Am a) (F:Am b) (k:fit (a.length+b.length) N) (C:val a<val b) :
  XT N (Af a) n t o (Af b) m t' o' K=K 0 false []:=by
 subst hn G
 have la:=(B0 D).2
 have lb:=(B0 F).2
 rw[qk];unfold tW
 dsimp only
 rw[Cm rfl D (k.le (by omega)),Cm rfl F (k.le (by omega)),U9 rfl rfl (Ad _) (Ad _) (k.le (by omega)),Al,Al]
 have:decide (Iy (val a) (val b)<0)=true:=by unfold Iy;rw[if_pos C];rfl
 rw[this,ct]
end
end Gx

namespace Gx
open Go Go.Proofs
section
variable {R:Type}
theorem Ate {n:Nat} (h:n≠0):(((n:Nat):Int)==(0:Int))=false:=by rw[beq_eq_false_iff_ne];omega
theorem Bn6 {n:Nat} (h:n=0):(((n:Nat):Int)==(0:Int))=true:=by subst h;rfl
theorem A97:∀ {S:List Nat} {j:Nat} (h:j<S.length),4294967296 ^ j*S[j]≤val S
 | x::r,0,_=>by simp[val]
 | x::r,j+1,h=>by
  have:=A97 (S:=r) (j:=j) (by simpa using h)
  simp only[List.getElem_cons_succ,val,Nat.pow_succ]
  rw[Nat.mul_comm (4294967296 ^ j),Nat.mul_assoc]
  omega
theorem Bhk {S:List Nat} {k:Nat} (h:val S<4294967296 ^ k):Bfi S k:=fun j D F=>by
 have G:=A97 D
 have I:4294967296 ^ k≤4294967296 ^ j:=Nat.pow_le_pow_right (by omega) F
 rcases Nat.eq_zero_or_pos S[j] with C | C
 ·exact C
 ·have:=Nat.le_mul_of_pos_right (4294967296 ^ j) C
  omega
theorem A5j {p q y s:Nat} (k:p<4294967296) (hq:q<4294967296) (C:y<4294967296) (hs:s<4294967296):p+(q*y+s)<18446744073709551616:=by
 have:q*y≤4294967295*4294967295:=Nat.mul_le_mul (by omega) (by omega)
 omega
theorem Bhl {N:Nat} {x y:List Nat} {c d:Bool} {f q J:Nat} (U:Am y) (hq:q<4294967296) (Y:f<x.length) (hs:x.length+y.length≤1000000000000):∀ (m l fuel:Nat) (S:List Nat) (p:Nat) (v:Nat),l+m=y.length→m<fuel→Am S→S.length=x.length+y.length→Bfi S (f+y.length)→p<4294967296 →
  val S+4294967296 ^ (f+l)*p=v+4294967296 ^ f*(q*val (y.take l)) →
  ∃ S',Am S'∧S'.length=x.length+y.length∧val S'=v+4294967296 ^ f*(q*val y)∧∀ (D:Nat→Int→Int→LA→O R) (K:Nat→LA→O R),X9 N D K (Af y) y.length d (x.length+y.length) (f:Int) (q:Int) (Af x) x.length c (J:Int) fuel (p:Int) (y.length:Int) (l:Int) (Af S)=D (x.length+y.length) J ((f+1:Nat):Int) (Af S')
 | 0,l,fuel+1,S,p,v,hl,_,hS,k,I,G,L=>by
  have M:l=y.length:=by omega
  subst M
  rw[List.take_length] at L
  refine⟨S.set (f+y.length) p,C9 hS G _,by simpa using k,by rw[Zg I (by omega),L],fun D K=>?_⟩
  rw[X9];unfold XI
  rw[Kn (Nat.le_refl _),cf,wA (by omega),Aa (by omega),ct,Ava (by omega),ct,Bcd G,gJ,wS (by omega)]
 | m+1,l,fuel+1,S,p,v,hl,hfu,hS,k,I,G,L=>by
  have C:l<y.length:=by omega
  have yl:=Bd U C
  have hi:f+l<S.length:=by omega
  have sl:=Bd hS hi
  have hw:=A5j G hq yl sl
  have T:q*y[l]<18446744073709551616:=by omega
  generalize F:p+(q*y[l]+S[f+l])=s at *
  have V:=uV (v:=s%4294967296) hi
  have key:val (S.set (f+l) (s%4294967296))+4294967296 ^ (f+(l+1))*(s/4294967296)=v+4294967296 ^ f*(q*val (y.take (l+1))):=by
   rw[A5 C,←Nat.add_assoc f l 1,Nat.pow_succ]
   have e:=Pr (4294967296 ^ (f+l)) s
   have e2:4294967296 ^ (f+l)*s=4294967296 ^ (f+l)*p+(4294967296 ^ (f+l)*(q*y[l])+4294967296 ^ (f+l)*S[f+l]):=by rw[←F,Nat.mul_add,Nat.mul_add]
   have e3:4294967296 ^ f*(q*(val (y.take l)+4294967296 ^ l*y[l]))=4294967296 ^ f*(q*val (y.take l))+4294967296 ^ (f+l)*(q*y[l]):=by
    rw[Nat.mul_add,Nat.mul_add,Nat.pow_add]
    congr 1
    rw[Nat.mul_assoc];congr 1
    rw[←Nat.mul_assoc,←Nat.mul_assoc,Nat.mul_comm q]
   omega
  obtain⟨S',q1,q2,q3,q4⟩:=Bhl (N:=N) (x:=x) (c:=c) (d:=d) (J:=J) U hq Y hs m (l+1) fuel (S.set (f+l) (s%4294967296)) (s/4294967296) v (by omega) (by omega) (C9 hS (by omega) _) (by simpa using k) (fun j hj hk=>by
   rw[List.getElem_set,if_neg (by omega)];exact I j (by simpa using hj) hk) (by omega) key
  refine⟨S',q1,q2,q3,fun D K=>?_⟩
  rw[X9];unfold XI
  rw[Iz C,ct,Aa C,ct,eQ C,wA (by omega),Aa (by omega),ct,tD hi,ct,Ava hi,ct,J5 (show q<18446744073709551616 by omega),J5 (show y[l]<18446744073709551616 by omega),J5 (show S[f+l]<18446744073709551616 by omega),Ai8,J5 T,RX,J5 (by omega),RX,F,J5 hw,xV,qB,gJ,wS (by omega)]
  exact q4 D K
theorem A0q {N:Nat} {x y:List Nat} {c d:Bool} (L:Am x) (M:Am y) (C:fit (x.length+y.length) N):∀ (m f fuel:Nat) (S:List Nat),f+m=x.length→m<fuel→Am S→S.length=x.length+y.length →
  val S=val (x.take f)*val y →
  ∃ S',Am S'∧val S'=val x*val y∧∀ K:Nat→LA→O R,Qv N K (Af y) y.length d (Af x) x.length c fuel (x.length+y.length) (x.length:Int) (f:Int) (Af S)=K (As (val x*val y)).length (Af S')
 | 0,f,fuel+1,S,hf,_,hS,D,I=>by
  have T:f=x.length:=by omega
  subst T
  rw[List.take_length] at I
  refine⟨S,hS,I,fun K=>?_⟩
  rw[Qv];unfold ID
  rw[Kn (Nat.le_refl _),cf,SM D.symm hS (by rw[D];exact C),I]
 | m+1,f,fuel+1,S,hf,hfu,hS,D,I=>by
  have h1:=C.1;have h2:=C.2
  have k:f<x.length:=by omega
  have xf:=Bd L k
  have b1:=Bq (C0 L f)
  rw[List.length_take,Nat.min_eq_left (by omega)] at b1
  have b2:=Bq M
  have G:val S<4294967296 ^ (f+y.length):=by
   rw[I,Nat.pow_add];exact Nat.mul_lt_mul'' b1 b2
  have F:val (x.take (f+1))*val y=val S+4294967296 ^ f*(x[f]*val y):=by
   rw[A5 k,Nat.add_mul,I,Nat.mul_assoc]
  by_cases U:x[f]=0
  ·obtain⟨S',V,Y,q3⟩:=A0q (c:=c) (d:=d) L M C m (f+1) fuel S (by omega) (by omega) hS D (by rw[F,U];simp)
   refine⟨S',V,Y,fun K=>?_⟩
   rw[Qv];unfold ID
   rw[Iz k,ct,Aa k,ct,eQ k,show(((x[f]:Nat):Int)==0)=true by simp[U],ct,wS (by omega)]
   exact q3 K
  ·obtain⟨S1,p1,p2,p3,p4⟩:=Bhl (R:=R) (N:=N) (x:=x) (y:=y) (c:=c) (d:=d) (f:=f) (q:=x[f]) (J:=x.length) M xf k (by omega) y.length 0 N S 0 (val S) (by omega) (by omega) hS D (Bhk G) (by omega) (by simp[val])
   obtain⟨S',V,Y,q3⟩:=A0q (c:=c) (d:=d) L M C m (f+1) fuel S1 (by omega) (by omega) p1 p2 (by rw[p3,F])
   refine⟨S',V,Y,fun K=>?_⟩
   rw[Qv];unfold ID
   rw[Iz k,ct,Aa k,ct,eQ k,show(((x[f]:Nat):Int)==0)=false by simp;exact U,cf]
   have:=p4 (Qv N K (Af y) y.length d (Af x) x.length c fuel) K
   simp only[Int.natCast_zero] at this
   dsimp only
   rw[this]
   exact q3 K
theorem iQ {N:Nat} {a b:List Nat} {n m:Nat} {t o t' o':Bool} (hn:n=a.length) (L:m=b.length) (F:Am a) (G:Am b) (k:fit (a.length+b.length) N) :
  ∃ S',Am S'∧val S'=val a*val b∧∀ K:Nat→LA→O R,QG N (Af a) n t o (Af b) m t' o' K=K (As (val a*val b)).length (Af S'):=by
 subst hn L
 have U:=k.1;have V:=k.2
 have la:=(B0 F).2
 have lb:=(B0 G).2
 by_cases C:val a=0
 ·refine⟨[],X2,by rw[C];simp[val],fun K=>?_⟩
  rw[XJ];unfold kg
  dsimp only
  rw[Cm rfl F (k.le (by omega)),Cm rfl G (k.le (by omega)),C,Nat.zero_mul,Ey];rfl
 ·by_cases D:val b=0
  ·refine⟨[],X2,by rw[D];simp[val],fun K=>?_⟩
   rw[XJ];unfold kg
   dsimp only
   rw[Cm rfl F (k.le (by omega)),Cm rfl G (k.le (by omega)),D,Nat.mul_zero,Ey]
   cases ((((As (val a)).length:Nat):Int)==0)<;>rfl
  ·obtain⟨S',M,I,T⟩:=A0q (R:=R) (N:=N) (x:=As (val a)) (y:=As (val b)) (c:=o) (d:=o') (Ad _) (Ad _) (k.le (by omega)) (As (val a)).length 0 N (List.replicate ((As (val a)).length+(As (val b)).length) 0) (by omega) (by omega) (C5 _) (by simp) (by rw[E2];simp[val])
   rw[Al,Al] at I
   refine⟨S',M,I,fun K=>?_⟩
   rw[XJ];unfold kg
   dsimp only
   have n1:(As (val a)).length≠0:=fun h=>C (B5.1 h)
   have n2:(As (val b)).length≠0:=fun h=>D (B5.1 h)
   rw[Cm rfl F (k.le (by omega)),Cm rfl G (k.le (by omega)),Ate n1,show((false:Bool)==false)=true by rfl,ct,Bmw,Ate n2,cf]
   unfold kf qS
   rw[wA (by omega),Bgl (by omega),ct,Int.toNat_natCast,Dw]
   have:=T K
   rw[Al,Al] at this
   exact this
end
end Gx

namespace Gx
open Go Go.Proofs
section
variable {R:Type}
theorem uW {v:Nat} (h:(As v).length≤2):v<18446744073709551616:=by
 have:=Bq (Ad v)
 rw[Al] at this
 have k:4294967296 ^ (As v).length≤4294967296 ^ 2:=Nat.pow_le_pow_right (by omega) h
 omega
theorem FL {v:Nat} (h:v<18446744073709551616):(As v).length≤2:=Dv (by simpa using h)
theorem TR {N:Nat} {l:List Nat} {n:Nat} {t o:Bool} {K:Int→O R} (hn:n=l.length) (k:Am l) (C:l.length≤2) (hN:4≤N):Tj N (Af l) n t o K=K (val l:Int):=by
 subst hn
 obtain⟨M,rfl⟩:∃ M,N=M+4:=⟨N - 4,by omega⟩
 rw[Aa7];unfold sr
 match l,k,C with
 | [],_,_ =>
  dsimp only
  rw[J9];unfold Ly
  simp[val]
 | [x],k,_ =>
  have D:=(Ee.1 k).1
  dsimp only
  rw[J9];unfold Ly
  simp only[List.length_cons,List.length_nil,Int.toNat_zero,Nat.zero_mul,List.drop_zero,GE,A1]
  rw[show decide ((0:Int)<((0+1:Nat):Int))=true by decide,ct,show Ac 0 (0+1)=true by decide,ct,show IntKind.wrap .i64 ((32:Int)*0)=0 by decide,show decide ((0:Int)<0)=false by decide,cf]
  rw[J9];unfold Ly
  rw[show IntKind.wrap .i64 ((0:Int)+1)=1 by decide,show decide ((1:Int)<((0+1:Nat):Int))=false by decide,cf]
  have e:IntKind.wrap .u64 ((IntKind.wrap .u64 (x:Int))*2 ^ (min (Int.toNat 0) 64))=(x:Int):=by rw[J5 (by omega)];simp;exact J5 (by omega)
  rw[e,show(0:Int)=((0:Nat):Int) by rfl,A8s (by omega) (by omega)]
  simp[val]
 | [x,y],k,_ =>
  have D:=(Ee.1 k).1
  have G:=(Ee.1 (Ee.1 k).2).1
  dsimp only
  rw[J9];unfold Ly
  simp only[List.length_cons,List.length_nil,Int.toNat_zero,Nat.zero_mul,List.drop_zero,GE,A1]
  rw[show decide ((0:Int)<((0+1+1:Nat):Int))=true by decide,ct,show Ac 0 (0+1+1)=true by decide,ct,show IntKind.wrap .i64 ((32:Int)*0)=0 by decide,show decide ((0:Int)<0)=false by decide,cf]
  rw[J9];unfold Ly
  rw[show IntKind.wrap .i64 ((0:Int)+1)=1 by decide,show decide ((1:Int)<((0+1+1:Nat):Int))=true by decide,ct,show Ac 1 (0+1+1)=true by decide,ct,show IntKind.wrap .i64 ((32:Int)*1)=32 by decide,show decide ((32:Int)<0)=false by decide]
  simp only[show Int.toNat 1*1=1 by rfl,List.drop_succ_cons,List.drop_zero,A1,cf]
  rw[J9];unfold Ly
  rw[show IntKind.wrap .i64 ((1:Int)+1)=2 by decide,show decide ((2:Int)<((0+1+1:Nat):Int))=false by decide,cf]
  have e:IntKind.wrap .u64 ((IntKind.wrap .u64 (x:Int))*2 ^ (min (Int.toNat 0) 64))=(x:Int):=by rw[J5 (by omega)];simp;exact J5 (by omega)
  have F:IntKind.wrap .u64 ((IntKind.wrap .u64 (y:Int))*2 ^ (min (Int.toNat 32) 64))=((y*2 ^ 32:Nat):Int):=by
   rw[J5 (by omega),show(2:Int) ^ (min (Int.toNat 32) 64)=((2 ^ 32:Nat):Int) by rfl,Ai8,J5 (by omega)]
  rw[e,F,show(0:Int)=((0:Nat):Int) by rfl,A8s (by omega) (by omega),A8s (by simp;omega) (by omega),Nat.zero_or,Nat.or_comm,xW (by omega)]
  congr 1;simp only[val];omega
theorem Ml {N:Nat} {v:Nat} (D:v<18446744073709551616) (hN:4≤N):∃ S,Am S∧val S=v∧∀ K:Nat→LA→O R,Ck N (v:Int) K=K (As v).length (Af S):=by
 have C:Am [v%4294967296,v/4294967296]:=Ee.2 ⟨by omega,Ee.2 ⟨by omega,X2⟩⟩
 have k:val [v%4294967296,v/4294967296]=v:=by simp[val];omega
 refine⟨_,C,k,fun K=>?_⟩
 rw[MO];unfold HS
 rw[qB,xV,Bcd (show v/4294967296<4294967296 by omega)]
 have:=Ak9 (R:=R) (N:=N) (l:=[v%4294967296,v/4294967296]) (K:=fun c=>K c (Af [v%4294967296,v/4294967296])) C (by simp) 2 N (by simp) (by omega)
 rw[show [v%4294967296,v/4294967296].take 2=[v%4294967296,v/4294967296] by rfl,k] at this
 rw[qI];unfold sb
 exact this
theorem Ps {N:Nat} {l:List Nat} {n:Nat} {t o:Bool} {K:Int→Bool→O R} (hn:n=l.length) (C:Am l) (k:fit l.length N):GI N (Af l) n t o K=if val l<18446744073709551616 then K (val l:Int) true else K 0 false:=by
 have F:=k.1
 rw[nG];unfold qO
 rw[Cm hn C k]
 by_cases h:val l<18446744073709551616
 ·have:=FL h
  rw[if_pos h,show decide ((((As (val l)).length:Nat):Int)>2)=false by simp;omega,cf,TR rfl (Ad _) this (by omega),Al]
 ·have:¬ (As (val l)).length≤2:=fun D=>h (uW D)
  rw[if_neg h,show decide ((((As (val l)).length:Nat):Int)>2)=true by simp;omega,ct]
theorem lE {N:Nat} {l:List Nat} {n:Nat} {t o:Bool} {K:Nat→LA→O R} (hn:n=l.length) (C:Am l) (k:fit l.length N):FC N (Af l) n t o K=K (As (val l)).length (Af (As (val l))):=by
 have D:=k.1;have F:=k.2
 have:=(B0 C).2
 rw[Abl];unfold Alg
 rw[Cm hn C k,Bgl (by omega),ct,L_,Bool.or_true,ct]
 congr 1
 unfold C3
 rw[Nat.min_self,Nat.mul_one,List.take_zero,List.nil_append,List.take_of_length_le (by rw[Cg];exact Nat.le_refl _),List.drop_eq_nil_of_le (by simp[Cg]),List.append_nil]
end
end Gx

namespace Gx
open Go Go.Proofs
section
variable {R:Type}
def Bod:List UInt8:=[0,1,2,2,3,3,3,3,4,4,4,4,4,4,4,4,5,5,5,5,5,5,5,5,5,5,5,5,5,5,5,5,6,6,6,6,6,6,6,6,6,6,6,6,6,6,6,6,6,6,6,6,6,6,6,6,6,6,6,6,6,6,6,6,7,7,7,7,7,7,7,7,7,7,7,7,7,7,7,7,7,7,7,7,7,7,7,7,7,7,7,7,7,7,7,7,7,7,7,7,7,7,7,7,7,7,7,7,7,7,7,7,7,7,7,7,7,7,7,7,7,7,7,7,7,7,7,7,8,8,8,8,8,8,8,8,8,8,8,8,8,8,8,8,8,8,8,8,8,8,8,8,8,8,8,8,8,8,8,8,8,8,8,8,8,8,8,8,8,8,8,8,8,8,8,8,8,8,8,8,8,8,8,8,8,8,8,8,8,8,8,8,8,8,8,8,8,8,8,8,8,8,8,8,8,8,8,8,8,8,8,8,8,8,8,8,8,8,8,8,8,8,8,8,8,8,8,8,8,8,8,8,8,8,8,8,8,8,8,8,8,8,8,8,8,8,8,8,8,8,8,8,8,8,8,8]
theorem Bjg:∀ i:Fin 256,0<i.1→2 ^ (Bod.getD i.1 0).toNat≤2*i.1∧i.1<2 ^ (Bod.getD i.1 0).toNat:=by decide +kernel
theorem Aoh {k y x m:Nat} (h:2 ^ k≤2*y∧y<2 ^ k) (C:y=x/2 ^ m):2 ^ (k+m)≤2*x∧x<2 ^ (k+m):=by
 have D:0<2 ^ m:=Nat.pow_pos (by omega)
 have F:x<2 ^ m*(y+1):=by rw[C];have:=Nat.div_add_mod x (2 ^ m);have:=Nat.mod_lt x D;rw[Nat.mul_add];omega
 have G:2 ^ m*y≤x:=by rw[C];exact Nat.mul_div_le x _
 have I:2 ^ m*(y+1)≤2 ^ m*2 ^ k:=Nat.mul_le_mul_left _ h.2
 have L:2 ^ m*2 ^ k≤2 ^ m*(2*y):=Nat.mul_le_mul_left _ h.1
 rw[Nat.pow_add,Nat.mul_comm (2 ^ k)]
 have M:2 ^ m*(2*y)=2*(2 ^ m*y):=by rw[Nat.mul_left_comm]
 omega
theorem Bkw {a:Nat} (h:a<256):IntKind.wrap .u8 (a:Int)=(a:Int):=by rw[wrap_u8];congr 1;omega
theorem Bkx {N:Nat} {a b:Nat} {K:Int→O R} (I:0<a) (L:a<65536) (M:b≤16):∃ k:Nat,2 ^ k≤2*a∧a<2 ^ k∧k≤16∧Fz N K (a:Int) (b:Int)=K ((b+k:Nat):Int):=by
 have small:∀ i:Nat,0<i→i<256→∃ k:Nat,(2 ^ k≤2*i∧i<2 ^ k)∧k≤8∧(Bod.getD i 0).toNat=k:=by
  intro i hi C
  have:=Bjg ⟨i,C⟩ hi
  refine⟨_,this,?_,rfl⟩
  rcases Nat.lt_or_ge 8 (Bod.getD i 0).toNat with h | h
  ·have G:=this.1
   have S:2 ^ 9≤2 ^ (Bod.getD i 0).toNat:=Nat.pow_le_pow_right (by omega) h
   simp only at G
   omega
  ·exact h
 by_cases h:a≥256
 ·obtain⟨k,p1,p2,D⟩:=small (a/256) (by omega) (by omega)
  have F:=Aoh (m:=8) p1 (show a/256=a/2 ^ 8 by rfl)
  refine⟨k+8,F.1,F.2,by omega,?_⟩
  unfold Fz
  rw[show decide (((a:Nat):Int)≥256)=true by simp;omega,ct,Vp a 8,show a/2 ^ 8=a/256 by rfl,Bkw (by omega),Aa (by omega),ct,Int.toNat_natCast]
  change K (IntKind.wrap .i64 (IntKind.wrap .i64 ((b:Int)+8)+IntKind.wrap .i64 (((Bod.getD (a/256) 0).toNat:Nat):Int)))=_
  rw[D,i64 (a:=(b:Int)+8) (by omega),i64 (a:=(k:Int)) (by omega),i64 (by omega)]
  congr 1;omega
 ·obtain⟨k,p1,p2,D⟩:=small a (by omega) (by omega)
  refine⟨k,p1.1,p1.2,by omega,?_⟩
  unfold Fz
  rw[show decide (((a:Nat):Int)≥256)=false by simp;omega,cf,Bkw (by omega),Aa (by omega),ct,Int.toNat_natCast]
  change K (IntKind.wrap .i64 ((b:Int)+IntKind.wrap .i64 (((Bod.getD a 0).toNat:Nat):Int)))=_
  rw[D,i64 (a:=(k:Int)) (by omega),i64 (by omega)]
  congr 1
theorem A98 {N:Nat} {c:Nat} {K:Int→O R} (G:0<c) (I:c<4294967296):∃ k:Nat,2 ^ k≤2*c∧c<2 ^ k∧k≤32∧Jb N (c:Int) K=K (k:Int):=by
 rw[DH];unfold Qy
 by_cases h:c≥65536
 ·obtain⟨k,p1,p2,F,C⟩:=Bkx (R:=R) (N:=N) (a:=c/65536) (b:=16) (K:=K) (by omega) (by omega) (by omega)
  have D:=Aoh (m:=16) ⟨p1,p2⟩ (show c/65536=c/2 ^ 16 by rfl)
  refine⟨k+16,D.1,D.2,by omega,?_⟩
  rw[show decide (((c:Nat):Int)≥65536)=true by simp;omega,ct,Vp c 16,show c/2 ^ 16=c/65536 by rfl]
  rw[Nat.add_comm k];exact C
 ·obtain⟨k,p1,p2,F,C⟩:=Bkx (R:=R) (N:=N) (a:=c) (b:=0) (K:=K) (by omega) (by omega) (by omega)
  refine⟨k,p1,p2,by omega,?_⟩
  rw[show decide (((c:Nat):Int)≥65536)=false by simp;omega,cf]
  rw[Nat.zero_add] at C;exact C
theorem Bci {N:Nat} {c:Nat} (G:0<c) (I:c<4294967296):∃ s:Nat,s≤31∧2147483648≤c*2 ^ s∧c*2 ^ s<4294967296∧∀ K:Int→O R,Cp N (c:Int) K=K (s:Int):=by
 have key:∀ K:Int→O R,∃ s:Nat,(s≤31∧2147483648≤c*2 ^ s∧c*2 ^ s<4294967296)∧Cp N (c:Int) K=K (s:Int):=by
  intro K
  rw[Nv];unfold I3
  obtain⟨k,p1,p2,S,L⟩:=A98 (R:=R) (N:=N) (K:=fun c=>K (IntKind.wrap .i64 ((32:Int) - c))) G I
  have e:2 ^ k*2 ^ (32 - k)=4294967296:=by rw[←Nat.pow_add,show k+(32 - k)=32 by omega]
  have T:1≤k:=by
   rcases Nat.eq_zero_or_pos k with h | h
   ·subst h;simp at p2;omega
   ·exact h
  refine⟨32 - k,⟨by omega,?_,?_⟩,?_⟩
  ·have:=Nat.mul_le_mul_right (2 ^ (32 - k)) p1
   rw[e,Nat.mul_assoc] at this;omega
  ·have:=(Nat.mul_lt_mul_right (show 0<2 ^ (32 - k) from Nat.pow_pos (by omega))).2 p2
   rw[e] at this;exact this
  ·rw[L,i64 (by omega)];congr 1;omega
 obtain⟨s,hs,_⟩:=key fun _=>none
 refine⟨s,hs.1,hs.2.1,hs.2.2,fun K=>?_⟩
 obtain⟨C,M,e⟩:=key K
 have:C=s:=by
  rcases Nat.lt_trichotomy s C with h | h | h
  ·exfalso
   have D:2 ^ (s+1)≤2 ^ C:=Nat.pow_le_pow_right (by omega) h
   have F:=Nat.mul_le_mul_left c D
   rw[Nat.pow_succ,←Nat.mul_assoc] at F
   omega
  ·exact h.symm
  ·exfalso
   have D:2 ^ (C+1)≤2 ^ s:=Nat.pow_le_pow_right (by omega) h
   have F:=Nat.mul_le_mul_left c D
   rw[Nat.pow_succ,←Nat.mul_assoc] at F
   omega
 rw[e,this]
theorem A0r {s:Nat} (h:s≤31):2 ^ s≤2147483648:=Nat.pow_le_pow_right (n:=2) (by omega) h
theorem Bhm {x c s:Nat} (D:x<4294967296) (k:c<2 ^ s) (hs:s≤31):Uo .u64 (c:Int) (IntKind.wrap .u64 ((IntKind.wrap .u64 (x:Int))*2 ^ (min (Int.toNat (s:Int)) 64)))=((x*2 ^ s+c:Nat):Int)∧x*2 ^ s+c<4294967296*2 ^ s:=by
 have F:=A0r hs
 have G:x*2 ^ s≤4294967295*2 ^ s:=Nat.mul_le_mul_right _ (by omega)
 have C:(x+1)*2 ^ s≤4294967296*2 ^ s:=Nat.mul_le_mul_right _ (by omega)
 rw[Nat.add_mul] at C
 refine⟨?_,by omega⟩
 rw[J5 (by omega),Int.toNat_natCast,Nat.min_eq_left (by omega),show(2:Int) ^ s=((2 ^ s:Nat):Int) by simp,Ai8,J5 (by omega),A8s (by omega) (by omega),Nat.or_comm,xW k]
theorem uX {N:Nat} {a:List Nat} {t o:Bool} {s:Nat} (M:Am a) (hs:s≤31) (D:a.length≤1000000000000):∀ (m d fuel:Nat) (S:List Nat) (c:Nat),d+m=a.length→m<fuel→Am S→S.length=a.length+1→Bfi S d→c<2 ^ s →
  val S+4294967296 ^ d*c=val (a.take d)*2 ^ s →
  ∃ S',Am S'∧S'.length=a.length+1∧val S'=val a*2 ^ s∧∀ K:Nat→LA→O R,Kc N K (Af a) a.length t o (s:Int) fuel (a.length+1) (c:Int) (a.length:Int) (d:Int) (Af S)=K (a.length+1) (Af S')
 | 0,d,fuel+1,S,c,V,_,hS,F,C,T,G=>by
  have I:d=a.length:=by omega
  subst I
  have hp:=A0r hs
  rw[List.take_length] at G
  refine⟨S.set a.length c,C9 hS (by omega) _,by simpa using F,by rw[Zg C (by omega),G],fun K=>?_⟩
  rw[Kc];unfold V3
  rw[Kn (Nat.le_refl _),cf,Aa (by omega),ct,Bmz (by omega),ct,Bcd (by omega),Bkv]
 | m+1,d,fuel+1,S,c,V,Y,hS,F,C,T,G=>by
  have k:d<a.length:=by omega
  have ad:=Bd M k
  obtain⟨w1,w2⟩:=Bhm ad T hs
  generalize L:a[d]*2 ^ s+c=w at *
  have U:0<2 ^ s:=Nat.pow_pos (by omega)
  have key:val (S.set d (w%4294967296))+4294967296 ^ (d+1)*(w/4294967296)=val (a.take (d+1))*2 ^ s:=by
   rw[Zg C (by omega),A5 k,Nat.pow_succ,Nat.add_mul,Nat.mul_assoc _ a[d]]
   have e:=Pr (4294967296 ^ d) w
   have e2:4294967296 ^ d*w=4294967296 ^ d*(a[d]*2 ^ s)+4294967296 ^ d*c:=by rw[←L,Nat.mul_add]
   omega
  obtain⟨S',q1,q2,q3,q4⟩:=uX (t:=t) (o:=o) M hs D m (d+1) fuel (S.set d (w%4294967296)) (w/4294967296) (by omega) (by omega) (C9 hS (by omega) d) (by simpa using F) (OC C) (Nat.div_lt_of_lt_mul w2) key
  refine⟨S',q1,q2,q3,fun K=>?_⟩
  rw[Kc];unfold V3
  rw[Iz k,ct,Aa k,ct,eQ k,show decide (((s:Nat):Int)<0)=false by simp,cf,Aa (by omega),ct,Ava (by omega),ct,w1,xV,qB,gJ,wS (by omega)]
  exact q4 K
theorem uY {N:Nat} {a:List Nat} {n:Nat} {t o:Bool} {s:Nat} (hn:n=a.length) (C:Am a) (hs:s≤31) (k:fit a.length N) :
  ∃ S',Am S'∧S'.length=a.length+1∧val S'=val a*2 ^ s∧∀ K:Nat→LA→O R,T8 N (Af a) n t o (s:Int) K=K (a.length+1) (Af S'):=by
 subst hn
 have L:=k.1;have M:=k.2
 obtain⟨S',D,F,G,I⟩:=uX (R:=R) (N:=N) (t:=t) (o:=o) C hs (by omega) a.length 0 N (List.replicate (a.length+1) 0) 0 (by omega) (by omega) (C5 _) (by simp) (Oe _) (Nat.pow_pos (by omega)) (by rw[E2];simp[val])
 refine⟨S',D,F,G,fun K=>?_⟩
 rw[gT];unfold NH
 rw[Bn5 (by omega),Bgl (by omega),ct,Int.toNat_natCast,Dw]
 exact I K
end
end Gx

namespace Gx
open Go Go.Proofs
section
variable {R:Type}
theorem Bky {P U Q:List Nat} {i:Nat} (h:i<U.length) {f:Int→O R}:Ao .u32 (List.drop (P.length+((Int.toNat (i:Int))*1)) (Af (P++(U++Q)))) f=f (U[i]:Nat):=by
 rw[Int.toNat_natCast,Nat.mul_one,A4c (by simp;omega)]
 congr 2
 rw[List.getElem_append_right (by omega)]
 simp only[Nat.add_sub_cancel_left]
 rw[List.getElem_append_left h]
theorem Bm0 {P U Q:List Nat} {i:Nat} (h:i<U.length):((Nat.beq 1 1)&&((Nat.ble ((P.length+((Int.toNat (i:Int))*1))+1) (List.length (Af (P++(U++Q)))))&&(!false)))=true:=by
 rw[Cg,Int.toNat_natCast];simp;omega
theorem Bhn {P U Q:List Nat} {i v:Nat} (h:i<U.length):List.set (Af (P++(U++Q))) (P.length+((Int.toNat (i:Int))*1)) (.int .u32 (v:Int))=Af (P++(U.set i v++Q)):=by
 rw[Int.toNat_natCast,Nat.mul_one,sK,List.set_append_right _ _ (by omega),Nat.add_sub_cancel_left,List.set_append_left _ _ h]
theorem Bnv {P U Q:List Nat} {i:Nat} (h:i<U.length) {f:Int→O R}:Ao .u32 (List.drop (P.length+(i*1)) (Af (P++(U++Q)))) f=f (U[i]:Nat):=by
 have:=Bky (R:=R) (P:=P) (Q:=Q) (f:=f) h;rw[Int.toNat_natCast] at this;exact this
theorem uZ {X:List Nat} {p g:Nat} (h:p<X.length):val ((X.set p g).take (p+1))=val (X.take p)+4294967296 ^ p*g:=by
 rw[A5 (by simpa using h),List.getElem_set_self,List.take_set_of_le (Nat.le_refl _)]
theorem TS {X:List Nat} {n:Nat} (h:X.length=n+1):val X=val (X.take n)+4294967296 ^ n*X[n]:=by
 have:=A5 (l:=X) (c:=n) (by omega)
 rwa [List.take_of_length_le (by omega)] at this
theorem Bcj {D:Nat} (h:1≤D) (k:D<18446744073709551616):IntKind.wrap .u64 ((D:Int) - 1)=((D - 1:Nat):Int):=by rw[qC];omega
theorem Bjh {D y t:Nat} (hD:D<4294967296) (k:y<4294967296) (C:t≤4294967296):D*y+t<18446744073709551616∧(D*y+t)/4294967296+1≤4294967296:=by
 have:D*y≤4294967295*4294967295:=Nat.mul_le_mul (by omega) (by omega)
 omega
theorem Bck {N:Nat} {P Q X v:List Nat} {n D:Nat} {f g:Bool} (hv:Am v) (hn:v.length=n) (hX:Am X) (hXl:X.length=n+1) (hs:n≤1000000000000) (hD:D<4294967296) (hD1:1≤D) {r:Nat} (hr:val X+val v=4294967296 ^ (n+1)+r) (L:r<4294967296 ^ n) :
  ∀ (m o fuel:Nat) (Y:List Nat) (c:Nat),o+m=n→m<fuel→Am Y→Y.length=n+1→(∀ j (T:j<Y.length) (U:j<X.length),o≤j→Y[j]=X[j])→c≤1→val (Y.take o)+4294967296 ^ o*c=val (X.take o)+val (v.take o) →
  ∃ Y',Am Y'∧Y'.length=n+1∧val Y'=r∧∀ K:Int→LA→O R,Jc N K P.length (n+1) (n:Int) (D:Int) (Af v) n f g fuel (c:Int) (n:Int) (o:Int) (Af (P++(Y++Q)))=K ((D - 1:Nat):Int) (Af (P++(Y'++Q)))
 | 0,o,fuel+1,Y,c,ho,_,hY,hYl,C,hc,F=>by
  have V:o=n:=by omega
  subst V
  rw[show v.take o=v by rw[←hn];exact List.take_length] at F
  have e1:=TS hXl
  have eq:val (Y.take o)+4294967296 ^ o*(X[o]+c)=4294967296 ^ o*4294967296+r:=by
   rw[Nat.mul_add,←Nat.pow_succ];omega
  have yt:=Bq (C0 hY o)
  rw[List.length_take,Nat.min_eq_left (by omega)] at yt
  have hP:0<4294967296 ^ o:=Nat.pow_pos (by omega)
  have hw:X[o]+c=4294967296:=by
   have T:(val (Y.take o)+4294967296 ^ o*(X[o]+c))/4294967296 ^ o=X[o]+c:=by rw[Nat.add_mul_div_left _ _ hP,Nat.div_eq_of_lt yt,Nat.zero_add]
   have U:(4294967296 ^ o*4294967296+r)/4294967296 ^ o=4294967296:=by rw[Nat.mul_add_div hP,Nat.div_eq_of_lt L,Nat.add_zero]
   rw[←T,eq,U]
  have hyr:val (Y.take o)=r:=by rw[hw] at eq;omega
  have G:Y[o]=X[o]:=C o (by omega) (by omega) (Nat.le_refl _)
  have hl2:(Y.set o 0).length=o+1:=by simpa using hYl
  refine⟨Y.set o 0,C9 hY (by omega) o,hl2,?_,fun K=>?_⟩
  ·have:=uZ (X:=Y) (p:=o) (g:=0) (by omega)
   rw[List.take_of_length_le (by omega),hyr] at this;simpa using this
  ·rw[Jc];unfold Q4
   have hXo:=Bd hX (show o<X.length by omega)
   rw[Kn (Nat.le_refl _),cf,Aa (by omega),ct,Bky (by omega),ct,Bm0 (by omega),ct,G,Bcd (show c<4294967296 by omega),RX,hw,qB,Bhn (by omega),Bcj hD1 (by omega),Bcd (by omega)]
 | m+1,o,fuel+1,Y,c,ho,hfu,hY,hYl,C,hc,F=>by
  have M:o<n:=by omega
  have I:o<v.length:=by omega
  have vo:=Bd hv I
  have k:o<Y.length:=by omega
  have yo:=Bd hY k
  have G:Y[o]=X[o]:=C o (by omega) (by omega) (Nat.le_refl _)
  have hs1:c+(Y[o]+v[o])<18446744073709551616:=by omega
  have hs2:(c+(Y[o]+v[o]))/4294967296≤1:=by omega
  generalize S:c+(Y[o]+v[o])=s at *
  have key:val ((Y.set o (s%4294967296)).take (o+1))+4294967296 ^ (o+1)*(s/4294967296)=val (X.take (o+1))+val (v.take (o+1)):=by
   rw[uZ k,A5 (l:=X) (by omega),A5 I,Nat.pow_succ]
   have e:=Pr (4294967296 ^ o) s
   have e2:4294967296 ^ o*s=4294967296 ^ o*c+(4294967296 ^ o*X[o]+4294967296 ^ o*v[o]):=by rw[←S,Nat.mul_add,Nat.mul_add,G]
   omega
  obtain⟨Y',q1,q2,q3,q4⟩:=Bck (N:=N) (P:=P) (Q:=Q) (f:=f) (g:=g) hv hn hX hXl hs hD hD1 hr L m (o+1) fuel (Y.set o (s%4294967296)) (s/4294967296) (by omega) (by omega) (C9 hY (by omega) o) (by simpa using hYl) (fun j T U hj=>by rw[List.getElem_set,if_neg (by omega)];exact C j (by simpa using T) U (by omega)) hs2 key
  refine⟨Y',q1,q2,q3,fun K=>?_⟩
  rw[Jc];unfold Q4
  rw[Iz M,ct,Aa M,ct,eQ I,Aa (by omega),ct,Bky k,ct,Bm0 k,ct,J5 (show v[o]<18446744073709551616 by omega),J5 (show Y[o]<18446744073709551616 by omega),RX,J5 (by omega),RX,S,J5 hs1,xV,qB,Bhn k,wS (by omega)]
  exact q4 K
theorem Bho {N:Nat} {P Q U v:List Nat} {n D:Nat} {f g:Bool} (T:Am v) (hn:v.length=n) (hU:Am U) (hUl:U.length=n+1) (hs:n≤1000000000000) (hN:n+2<N) (hD:D<4294967296) (I:0<val v) (hq1:val U/val v≤D) (hq2:D≤val U/val v+1) :
  ∀ (m p fuel:Nat) (X:List Nat) (t:Nat),p+m=n→m<fuel→Am X→X.length=n+1→(∀ j (h1:j<X.length) (h2:j<U.length),p≤j→X[j]=U[j])→t≤4294967296→val (X.take p)+D*val (v.take p)=val (U.take p)+4294967296 ^ p*t →
  ∃ X',Am X'∧X'.length=n+1∧val X'=val U%val v∧∀ K:Int→LA→O R,G2 N K P.length (n+1) (Af v) n f g (n:Int) (D:Int) fuel (t:Int) (n:Int) (p:Int) (Af (P++(X++Q)))=K ((val U/val v:Nat):Int) (Af (P++(X'++Q)))
 | 0,p,fuel+1,X,t,hp,_,hX,hXl,k,ht,G=>by
  have hp':p=n:=by omega
  subst hp'
  rw[show v.take p=v by rw[←hn];exact List.take_length] at G
  have hXp:X[p]=U[p]:=k p (by omega) (by omega) (Nat.le_refl _)
  have up:=Bd hU (show p<U.length by omega)
  obtain⟨d,c,g1,g2,g3,V,g5⟩:=lD up ht
  have C:(X.set p d).length=p+1:=by simpa using hXl
  have hX2:=C9 hX g1 p
  have hv2:val (X.set p d)=val (X.take p)+4294967296 ^ p*d:=by
   have:=uZ (X:=X) (p:=p) (g:=d) (by omega)
   rwa [List.take_of_length_le (by omega)] at this
  have eU:=TS hUl
  have main:val (X.set p d)+D*val v=val U+4294967296 ^ (p+1)*c:=by
   have e:4294967296 ^ p*(U[p]+4294967296*c)=4294967296 ^ p*(d+t):=by rw[g3]
   rw[Nat.mul_add,Nat.mul_add,←Nat.mul_assoc] at e
   rw[hv2,eU,Nat.pow_succ];omega
  have hlt:=Bq hX2
  rw[C] at hlt
  have hdm:=Nat.div_add_mod (val U) (val v)
  have hmod:=Nat.mod_lt (val U) I
  have vlt:=Bq T
  rw[hn] at vlt
  by_cases hc:c=0
  ·subst hc
   have hDq:D=val U/val v:=by
    have:D≤val U/val v:=by rw[Nat.le_div_iff_mul_le I];omega
    omega
   refine⟨X.set p d,hX2,C,?_,fun K=>?_⟩
   ·rw[hDq,Nat.mul_comm] at main;omega
   ·rw[G2];unfold K8
    rw[Kn (Nat.le_refl _),cf,Aa (by omega),ct,Bky (by omega),ct,Bm0 (by omega),ct,hXp,J5 (show U[p]<18446744073709551616 by omega),V,g5,show(((0:Nat):Int)==0)=true by rfl,ct,Bcd hD,Bhn (by omega),hDq]
  ·have hc1:c=1:=by omega
   subst hc1
   have hDq:D=val U/val v+1:=by
    have:¬ D≤val U/val v:=fun h=>by
     have:=Nat.mul_le_mul_left (val v) h
     rw[Nat.mul_comm] at this
     omega
    omega
   have hr:val (X.set p d)+val v=4294967296 ^ (p+1)+val U%val v:=by
    rw[hDq,Nat.add_mul,Nat.mul_comm (val U/val v)] at main;omega
   obtain⟨Y',q1,q2,q3,q4⟩:=Bck (R:=R) (N:=N) (P:=P) (Q:=Q) (f:=f) (g:=g) (X:=X.set p d) T hn hX2 C hs hD (by rw[hDq];exact Nat.le_add_left 1 _) hr (by omega) p 0 N (X.set p d) 0 (by omega) (by omega) hX2 C (fun _ _ _ _=>rfl) (by omega) (by simp[val])
   refine⟨Y',q1,q2,q3,fun K=>?_⟩
   rw[G2];unfold K8
   rw[Kn (Nat.le_refl _),cf,Aa (by omega),ct,Bky (by omega),ct,Bm0 (by omega),ct,hXp,J5 (show U[p]<18446744073709551616 by omega),V,g5,show(((1:Nat):Int)==0)=false by rfl,cf,Bhn (by omega)]
   have:=q4 K
   rw[show D - 1=val U/val v by rw[hDq];rfl] at this
   exact this
 | m+1,p,fuel+1,X,t,hp,hfu,hX,hXl,k,ht,G=>by
  have M:p<n:=by omega
  have L:p<v.length:=by omega
  have vp:=Bd T L
  have F:p<X.length:=by omega
  have hXp:X[p]=U[p]:=k p (by omega) (by omega) (Nat.le_refl _)
  have up:=Bd hU (show p<U.length by omega)
  obtain⟨hw1,hw2⟩:=Bjh hD vp ht
  have hDv:D*v[p]<18446744073709551616:=by omega
  generalize S:D*v[p]+t=w at *
  obtain⟨d,c,g1,g2,g3,V,g5⟩:=lD up (show w%4294967296≤4294967296 by omega)
  have key:val ((X.set p d).take (p+1))+D*val (v.take (p+1))=val (U.take (p+1))+4294967296 ^ (p+1)*(w/4294967296+c):=by
   rw[uZ F,A5 L,A5 (l:=U) (by omega),Nat.pow_succ]
   have e:=Pr (4294967296 ^ p) w
   have e2:4294967296 ^ p*w=4294967296 ^ p*(D*v[p])+4294967296 ^ p*t:=by rw[←S,Nat.mul_add]
   have e3:4294967296 ^ p*(U[p]+4294967296*c)=4294967296 ^ p*(d+w%4294967296):=by rw[g3]
   rw[Nat.mul_add,Nat.mul_add,←Nat.mul_assoc] at e3
   have e4:D*(val (v.take p)+4294967296 ^ p*v[p])=D*val (v.take p)+4294967296 ^ p*(D*v[p]):=by rw[Nat.mul_add,Nat.mul_left_comm]
   rw[e4,Nat.mul_add]
   omega
  obtain⟨X',q1,q2,q3,q4⟩:=Bho (N:=N) (P:=P) (Q:=Q) (f:=f) (g:=g) T hn hU hUl hs hN hD I hq1 hq2 m (p+1) fuel (X.set p d) (w/4294967296+c) (by omega) (by omega) (C9 hX g1 p) (by simpa using hXl) (fun j h1 h2 hj=>by rw[List.getElem_set,if_neg (by omega)];exact k j (by simpa using h1) h2 (by omega)) (by omega) key
  refine⟨X',q1,q2,q3,fun K=>?_⟩
  rw[G2];unfold K8
  rw[Iz M,ct,Aa M,ct,eQ L,Aa (by omega),ct,Bky F,ct,Bm0 F,ct,hXp,J5 (show v[p]<18446744073709551616 by omega),Ai8,J5 hDv,RX,S,J5 hw1,qB,J5 (show w%4294967296<18446744073709551616 by omega),J5 (show U[p]<18446744073709551616 by omega),V,g5,xV,RX,J5 (by omega),Bhn F,wS (by omega)]
  exact q4 K
end
end Gx

namespace Gx
open Go Go.Proofs
section
variable {R:Type}
theorem o0 (a b:Nat):Int.tdiv (a:Int) (b:Int)=((a/b:Nat):Int):=rfl
theorem iR (a b:Nat):Int.tmod (a:Int) (b:Int)=((a%b:Nat):Int):=rfl
theorem Bkz {l:Nat} (h:l<4294967296):(((Int.fdiv (l:Int) (2 ^ 32)) != (0:Int)))=false:=by rw[xV,Nat.div_eq_of_lt h];rfl
theorem Bk0 {l:Nat} (h:4294967296≤l):(((Int.fdiv (l:Int) (2 ^ 32)) != (0:Int)))=true:=by
 have k:l/4294967296≠0:=by omega
 rw[xV];rw[bne_iff_ne];omega
theorem Blo {a b:Nat} (k:a<4294967296) (C:b<4294967296):Uo .u64 (IntKind.wrap .u64 ((a:Int)*2 ^ 32)) (b:Int)=((a*4294967296+b:Nat):Int):=by
 rw[show(2:Int) ^ 32=((2 ^ 32:Nat):Int) by rfl,Ai8,J5 (by omega),A8s (by omega) (by omega),xW (by omega)]
theorem Blp {B l v1 v2 m u2:Nat} (h:m*B+u2<l*v2):(l*v1+m)*B+u2<l*(v1*B+v2):=by rw[Nat.add_mul,Nat.mul_add,←Nat.mul_assoc l v1];omega
theorem Blq {B l v1 v2 m u2:Nat} (h:l*v2≤m*B+u2):l*(v1*B+v2)≤(l*v1+m)*B+u2:=by rw[Nat.add_mul,Nat.mul_add,←Nat.mul_assoc l v1];omega
theorem Blr {B u0 u1 u2 v1 v2:Nat} (k:v2<B) (h:(u0*B+u1)*B+u2<(v1*B+v2+1)*B):u0*B+u1<v1*B+B:=by
 have:u0*B+u1<v1*B+v2+1:=Nat.lt_of_mul_lt_mul_right (Nat.lt_of_le_of_lt (Nat.le_add_right _ u2) h)
 omega
theorem Bmp (P x:Nat):P*4294967296*x=P*(x*4294967296):=by rw[Nat.mul_assoc,Nat.mul_comm 4294967296]
theorem Bhp {N:Nat} {P Q U v:List Nat} {n:Nat} {f g:Bool} {K:Int→LA→O R} (hn:v.length=n+2) (hv:Am v) (hU:Am U) (hUl:U.length=n+3) (hs:n≤1000000000000) {v1 v2 u2 top:Nat}
  (e1:v[n+1]'(by omega)=v1) (e2:v[n]'(by omega)=v2) (e3:U[n]'(by omega)=u2) (hv1:2147483648≤v1) (htop:top<v1*4294967296+4294967296)
  (hV:(v1*4294967296+v2)*4294967296 ^ n≤val v) (hV':val v<(v1*4294967296+v2+1)*4294967296 ^ n) (hUU:(top*4294967296+u2)*4294967296 ^ n≤val U) (hUU':val U<(top*4294967296+u2+1)*4294967296 ^ n) (hq:val U/val v<4294967296) :
  ∀ (k fuel l m:Nat),k<fuel→4294967296≤m+k*2147483648→m<4294967296→l*v1+m=top→val U/val v≤l→∃ D,D<4294967296∧val U/val v≤D∧D≤val U/val v+1 ∧
   Fo N K P.length (n+3) (Af v) (n+2) f g (Af (P++(U++Q))) fuel ((n+2:Nat):Int) (l:Int) (m:Int)=Fn N K P.length (n+3) (Af v) (n+2) f g ((n+2:Nat):Int) (Af (P++(U++Q))) (D:Int):=by
 have b1:=Bd hv (show n+1<v.length by omega)
 have b2:=Bd hv (show n<v.length by omega)
 have b3:=Bd hU (show n<U.length by omega)
 rw[e1] at b1;rw[e2] at b2;rw[e3] at b3
 have hP:0<4294967296 ^ n:=Nat.pow_pos (by omega)
 have M:0<val v:=Nat.lt_of_lt_of_le (Nat.mul_pos (by omega) hP) hV
 intro k
 induction k with
 | zero=>intro fuel l m _ h1 h2;omega
 | succ k ih =>
  intro fuel l m hf hm hm2 T hql
  obtain⟨fuel,rfl⟩:∃ F,fuel=F+1:=⟨fuel - 1,by omega⟩
  generalize S:val U/val v=q at *
  have wi1:IntKind.wrap .i64 (((n+2:Nat):Int) - 1)=((n+1:Nat):Int):=by rw[i64 (by omega)];omega
  have wi2:IntKind.wrap .i64 (((n+2:Nat):Int) - 2)=((n:Nat):Int):=by rw[i64 (by omega)];omega
  have lower:q<l→l<18446744073709551616→∃ D,D<4294967296∧q≤D∧D≤q+1 ∧
    Nx N (Fo N K P.length (n+3) (Af v) (n+2) f g (Af (P++(U++Q))) fuel) K P.length (n+3) (Af v) (n+2) f g ((n+2:Nat):Int) (l:Int) (m:Int) (Af (P++(U++Q)))=Fn N K P.length (n+3) (Af v) (n+2) f g ((n+2:Nat):Int) (Af (P++(U++Q))) (D:Int):=by
   intro hlt C
   have L:(l - 1)*v1+(m+v1)=top:=by
    have:l*v1=(l - 1)*v1+v1:=by
     obtain⟨l',rfl⟩:∃ l',l=l'+1:=⟨l - 1,by omega⟩
     rw[Nat.add_mul];simp
    omega
   unfold Nx Yd
   rw[wi1,Aa (by omega),ct,eQ (show n+1<v.length by omega),e1,J5 (show v1<18446744073709551616 by omega),RX,J5 (show m+v1<18446744073709551616 by omega),Bcj (by omega) C]
   by_cases V:4294967296≤m+v1
   ·have hDB:l - 1<4294967296:=by
     apply Nat.lt_of_not_le;intro hge
     have:=Nat.mul_le_mul_right v1 hge
     rw[Nat.mul_comm 4294967296] at this
     omega
    have G:(l - 1)*(v1*4294967296+v2)≤top*4294967296+u2:=by
     have x1:(l - 1)*v2≤4294967295*4294967295:=Nat.mul_le_mul (by omega) (by omega)
     rw[←L,Nat.add_mul,Nat.mul_add,←Nat.mul_assoc]
     omega
    have I:=Avi hV' hUU G (by omega) M
    rw[S] at I
    exact⟨l - 1,hDB,by omega,I,by rw[Bk0 V,ct]⟩
   ·obtain⟨D,d1,d2,d3,d4⟩:=ih fuel (l - 1) (m+v1) (by omega) (by omega) (by omega) L (by omega)
    exact⟨D,d1,d2,d3,by rw[Bkz (by omega),cf,d4]⟩
  rw[Fo];unfold Ye
  by_cases hlB:l<4294967296
  ·rw[Bkz hlB,show((false:Bool)==false)=true by rfl,ct,wi2,Aa (by omega),ct,eQ (show n<v.length by omega),Aa (by omega),ct,Bky (show n<U.length by omega),Bmw,e2,e3,J5 (show v2<18446744073709551616 by omega),J5 (show u2<18446744073709551616 by omega),Ai8]
   have x1:l*v2≤4294967295*4294967295:=Nat.mul_le_mul (by omega) (by omega)
   rw[J5 (show l*v2<18446744073709551616 by omega),Blo hm2 b3]
   by_cases Y:m*4294967296+u2<l*v2
   ·rw[show decide (((l*v2:Nat):Int)>((m*4294967296+u2:Nat):Int))=true by rw[decide_eq_true_eq];omega,ct]
    have hup:val U/val v<l:=Avh hV hUU' (by rw[←T];exact Blp Y) M
    rw[S] at hup
    exact lower hup (by omega)
   ·rw[show decide (((l*v2:Nat):Int)>((m*4294967296+u2:Nat):Int))=false by rw[decide_eq_false_iff_not];omega,cf]
    have G:l*(v1*4294967296+v2)≤top*4294967296+u2:=by
     rw[←T];exact Blq (Nat.le_of_not_lt Y)
    have I:=Avi hV' hUU G (by omega) M
    rw[S] at I
    exact⟨l,hlB,hql,I,rfl⟩
  ·rw[Bk0 (by omega),show((true:Bool)==false)=false by rfl,cf]
   have C:l<18446744073709551616:=by
    have:l*2147483648≤l*v1:=Nat.mul_le_mul_left _ hv1
    omega
   exact lower (by omega) C
theorem Aoi {N:Nat} {P Q U v:List Nat} {n:Nat} {f g:Bool} (hn:v.length=n+2) (I:Am v) (hU:Am U) (hUl:U.length=n+3) (hs:n≤1000000000) (hN:n+8<N) (Y:2147483648≤v[n+1]'(by omega)) (hlt:val U<val v*4294967296) :
  ∃ U',Am U'∧U'.length=n+3∧val U'=val U%val v∧∀ K:Int→LA→O R,Mh N P.length (n+3) (Af v) (n+2) f g (Af (P++(U++Q))) K=K ((val U/val v:Nat):Int) (Af (P++(U'++Q))):=by
 have b1:=Bd I (show n+1<v.length by omega)
 have b2:=Bd I (show n<v.length by omega)
 have b3:=Bd hU (show n<U.length by omega)
 have b4:=Bd hU (show n+1<U.length by omega)
 have b5:=Bd hU (show n+2<U.length by omega)
 have hP:0<4294967296 ^ n:=Nat.pow_pos (by omega)
 have vv:val v=val (v.take n)+4294967296 ^ n*(v[n+1]'(by omega)*4294967296+v[n]'(by omega)):=by
  have k:=A5 (l:=v) (c:=n+1) (by omega)
  have C:=A5 (l:=v) (c:=n) (by omega)
  rw[List.take_of_length_le (by omega)] at k
  rw[k,C,Nat.pow_succ,Nat.mul_add,Nat.mul_assoc,Nat.mul_comm 4294967296 v[n+1]];omega
 have uu:val U=val (U.take n)+4294967296 ^ n*((U[n+2]'(by omega)*4294967296+U[n+1]'(by omega))*4294967296+U[n]'(by omega)):=by
  have h0:=A5 (l:=U) (c:=n+2) (by omega)
  have k:=A5 (l:=U) (c:=n+1) (by omega)
  have C:=A5 (l:=U) (c:=n) (by omega)
  rw[List.take_of_length_le (by omega)] at h0
  have x1:4294967296 ^ (n+2)*U[n+2]=4294967296 ^ n*(U[n+2]*4294967296*4294967296):=by rw[Nat.pow_succ (n:=4294967296) (m:=n+1),Nat.pow_succ,Bmp,Bmp]
  have x2:4294967296 ^ (n+1)*U[n+1]=4294967296 ^ n*(U[n+1]*4294967296):=by rw[Nat.pow_succ,Bmp]
  rw[h0,k,C,x1,x2,Nat.add_mul,Nat.mul_add,Nat.mul_add];omega
 have tv:=Bq (C0 I n)
 have tu:=Bq (C0 hU n)
 rw[List.length_take,Nat.min_eq_left (by omega)] at tv tu
 generalize e1:v[n+1]'(by omega)=v1 at *
 generalize e2:v[n]'(by omega)=v2 at *
 generalize e3:U[n]'(by omega)=u2 at *
 generalize e4:U[n+1]'(by omega)=u1 at *
 generalize e5:U[n+2]'(by omega)=u0 at *
 have L:0<val v:=by
  have:0<4294967296 ^ n*(v1*4294967296+v2):=Nat.mul_pos hP (by omega)
  omega
 have hV:(v1*4294967296+v2)*4294967296 ^ n≤val v:=by rw[Nat.mul_comm];omega
 have hV':val v<(v1*4294967296+v2+1)*4294967296 ^ n:=by rw[Nat.mul_comm,Nat.mul_add];omega
 have hUU:((u0*4294967296+u1)*4294967296+u2)*4294967296 ^ n≤val U:=by rw[Nat.mul_comm];omega
 have hUU':val U<((u0*4294967296+u1)*4294967296+u2+1)*4294967296 ^ n:=by rw[Nat.mul_comm,Nat.mul_add];omega
 have hq:val U/val v<4294967296:=Nat.div_lt_of_lt_mul hlt
 have F:u0*4294967296+u1<v1*4294967296+4294967296:=by
  have k:((u0*4294967296+u1)*4294967296+u2)*4294967296 ^ n<(v1*4294967296+v2+1)*4294967296 ^ n*4294967296:=by
   have:=(Nat.mul_lt_mul_right (show 0<4294967296 by omega)).2 hV'
   omega
  rw[Nat.mul_right_comm] at k
  exact Blr b2 (Nat.lt_of_mul_lt_mul_right k)
 obtain⟨top,M⟩:∃ top,u0*4294967296+u1=top:=⟨_,rfl⟩
 rw[M] at hUU hUU' F
 have hdm:=Nat.div_add_mod top v1
 have hmod:=Nat.mod_lt top (show 0<v1 by omega)
 have hq0:val U/val v≤top/v1:=by
  have k:val U/val v<top/v1+1:=by
   apply Avh hV hUU' _ L
   have C:top<v1*(top/v1+1):=by rw[Nat.mul_add];omega
   have h3:(top+1)*4294967296≤v1*(top/v1+1)*4294967296:=Nat.mul_le_mul_right _ C
   rw[Nat.mul_add,←Nat.mul_assoc,Nat.mul_comm _ v1]
   omega
  omega
 have key:∀ K:Int→LA→O R,∃ D,D<4294967296∧val U/val v≤D∧D≤val U/val v+1∧Mh N P.length (n+3) (Af v) (n+2) f g (Af (P++(U++Q))) K=Fn N K P.length (n+3) (Af v) (n+2) f g ((n+2:Nat):Int) (Af (P++(U++Q))) (D:Int):=by
  intro K
  obtain⟨D,S,T,V,G⟩:=Bhp (R:=R) (N:=N) (P:=P) (Q:=Q) (f:=f) (g:=g) (K:=K) hn I hU hUl (by omega) e1 e2 e3 Y F hV hV' hUU hUU' hq 2 N (top/v1) (top%v1) (by omega) (by omega) (by omega) (by rw[Nat.mul_comm];exact hdm) hq0
  refine⟨D,S,T,V,?_⟩
  rw[←G,S_];unfold Zb
  have wi1:IntKind.wrap .i64 (((n+2:Nat):Int) - 1)=((n+1:Nat):Int):=by rw[i64 (by omega)];omega
  rw[Aa (by omega),ct,Bnv (show n+2<U.length by omega),wi1,Aa (by omega),ct,Bky (show n+1<U.length by omega),Aa (by omega),ct,eQ (show n+1<v.length by omega),e1,e4,e5,J5 (show v1<18446744073709551616 by omega),Ate (by omega),cf,ct,eQ (show n+1<v.length by omega),e1,J5 (show v1<18446744073709551616 by omega),Ate (by omega),cf,J5 (show u0<18446744073709551616 by omega),J5 (show u1<18446744073709551616 by omega),Blo b5 b4,M,o0,iR,J5 (show top/v1<18446744073709551616 from Nat.lt_of_le_of_lt (Nat.div_le_self _ _) (by omega))]
 have fin:∀ D,D<4294967296→val U/val v≤D→D≤val U/val v+1→∃ U',Am U'∧U'.length=n+3∧val U'=val U%val v∧∀ K:Int→LA→O R,Fn N K P.length (n+3) (Af v) (n+2) f g ((n+2:Nat):Int) (Af (P++(U++Q))) (D:Int)=K ((val U/val v:Nat):Int) (Af (P++(U'++Q))):=by
  intro D S T V
  obtain⟨X',q1,q2,q3,q4⟩:=Bho (R:=R) (N:=N) (P:=P) (Q:=Q) (U:=U) (v:=v) (n:=n+2) (D:=D) (f:=f) (g:=g) I hn hU hUl (by omega) (by omega) S L T V (n+2) 0 N U 0 (by omega) (by omega) hU hUl (fun _ _ _ _=>rfl) (by omega) (by simp[val])
  exact⟨X',q1,q2,q3,fun K=>by unfold Fn Yc;exact q4 K⟩
 by_cases hz:val U/val v+1<4294967296
 ·obtain⟨U1,a1,a2,a3,a4⟩:=fin (val U/val v) hq (Nat.le_refl _) (by omega)
  obtain⟨U2,c1,c2,c3,c4⟩:=fin (val U/val v+1) hz (by omega) (Nat.le_refl _)
  have:U1=U2:=by
   have k:=(B0 a1).1;have C:=(B0 c1).1
   rw[a3] at k;rw[c3] at C;rw[k,C,a2,c2]
  subst this
  refine⟨U1,a1,a2,a3,fun K=>?_⟩
  obtain⟨D,S,T,V,G⟩:=key K
  have:D=val U/val v∨D=val U/val v+1:=by
   generalize val U/val v=q at *;omega
  rcases this with rfl | rfl
  ·rw[G,a4 K]
  ·rw[G,c4 K]
 ·obtain⟨U1,a1,a2,a3,a4⟩:=fin (val U/val v) hq (Nat.le_refl _) (by omega)
  refine⟨U1,a1,a2,a3,fun K=>?_⟩
  obtain⟨D,S,T,V,G⟩:=key K
  have:D=val U/val v:=by
   generalize val U/val v=q at *;omega
  subst this
  rw[G,a4 K]
end
end Gx

namespace Gx
open Go Go.Proofs
section
variable {R:Type}
theorem iS {l:List Nat} {d:Nat} (h:d<l.length):val (l.drop d)=l[d]+4294967296*val (l.drop (d+1)):=by
 rw[List.drop_eq_getElem_cons h,val]
theorem A5k {S:List Nat} {d v:Nat} (h:d<S.length):(S.set d v).drop d=v::S.drop (d+1):=by
 rw[List.drop_eq_getElem_cons (by simpa using h),List.getElem_set_self,List.drop_set_of_lt (by omega)]
theorem Acs {N:Nat} {a:List Nat} {t o:Bool} {b:Nat} (M:Am a) (C:0<b) (V:b<4294967296) (D:fit a.length N):∀ (c fuel:Nat) (S:List Nat) (r:Nat),c<fuel→c≤a.length→Am S→S.length=a.length→r<b→val (S.drop c)*b+r=val (a.drop c) →
  ∃ S' S2,Am S'∧val S'=val a/b∧Am S2∧val S2=val a%b∧∀ K:Nat→Nat→LA→LA→O R,Ex N K (Af a) a.length t o (b:Int) fuel (r:Int) ((c:Int) - 1) (Af S)=K (As (val a/b)).length (As (val a%b)).length (Af S') (Af S2)
 | 0,fuel+1,S,r,_,_,hS,I,hr,F=>by
  have Y:=D.1
  rw[List.drop_zero,List.drop_zero] at F
  have hq:val a/b=val S:=by
   rw[←F,Nat.mul_comm,Nat.mul_add_div C,Nat.div_eq_of_lt hr,Nat.add_zero]
  have T:val a%b=r:=by rw[←F,Nat.mul_comm,Nat.mul_add_mod,Nat.mod_eq_of_lt hr]
  obtain⟨S2,s1,s2,s3⟩:=Ml (R:=R) (N:=N) (v:=r) (by omega) (by omega)
  refine⟨S,S2,hS,hq.symm,s1,by rw[T,s2],fun K=>?_⟩
  rw[Ex];unfold Kp
  rw[show decide ((((0:Nat):Int) - 1)≥0)=false by simp,cf,SM I.symm hS (by rw[I];exact D),s3,hq,T]
 | c+1,fuel+1,S,r,hfu,hc,hS,I,hr,F=>by
  have Y:=D.1;have h2:=D.2
  have k:c<a.length:=by omega
  have ac:=Bd M k
  have hrB:r<4294967296:=by omega
  have U:r*4294967296+a[c]<b*4294967296:=by
   have:(r+1)*4294967296≤b*4294967296:=Nat.mul_le_mul_right _ hr
   rw[Nat.add_mul] at this;omega
  have L:r*4294967296+a[c]<18446744073709551616:=by omega
  obtain⟨w,G⟩:∃ w,r*4294967296+a[c]=w:=⟨_,rfl⟩
  rw[G] at U L
  have hqB:w/b<4294967296:=Nat.div_lt_of_lt_mul U
  have hdm:=Nat.div_add_mod w b
  obtain⟨S',S2,q1,q2,q3,q4,q5⟩:=Acs (t:=t) (o:=o) M C V D c fuel (S.set c (w/b)) (w%b) (by omega) (by omega) (C9 hS hqB c) (by simpa using I) (Nat.mod_lt _ C) (by
   rw[A5k (by omega),val,iS k,Nat.add_mul,Nat.mul_assoc,←F,Nat.mul_add,Nat.mul_comm (w/b)]
   omega)
  refine⟨S',S2,q1,q2,q3,q4,fun K=>?_⟩
  rw[Ex];unfold Kp
  rw[show(((c+1:Nat):Int) - 1)=(c:Int) by omega,show decide ((c:Int)≥0)=true by simp,ct,Aa k,ct,eQ k,J5 (show b<18446744073709551616 by omega),Ate (by omega),cf,ct,Ava (by omega),ct,cf,J5 (show a[c]<18446744073709551616 by omega),Blo hrB ac,G,o0,iR,J5 (show w/b<18446744073709551616 by omega),Bcd hqB,gJ,i64 (by omega)]
  exact q5 K
theorem A5l {N:Nat} {a:List Nat} {n:Nat} {t o:Bool} {b:Nat} (hn:n=a.length) (D:Am a) (k:0<b) (F:b<4294967296) (C:fit a.length N) :
  ∃ S' S2,Am S'∧val S'=val a/b∧Am S2∧val S2=val a%b∧∀ K:Nat→Nat→LA→LA→O R,G1 N (Af a) n t o (b:Int) K=K (As (val a/b)).length (As (val a%b)).length (Af S') (Af S2):=by
 subst hn
 have U:=C.1;have V:=C.2
 obtain⟨S',S2,G,I,L,M,T⟩:=Acs (R:=R) (t:=t) (o:=o) D k F C a.length N (List.replicate a.length 0) 0 (by omega) (Nat.le_refl _) (C5 _) (by simp) k (by rw[List.drop_eq_nil_of_le (by simp),List.drop_eq_nil_of_le (by simp)];simp[val])
 refine⟨S',S2,G,I,L,M,fun K=>?_⟩
 rw[DJ];unfold Qz
 rw[Bgl (by omega),ct,i64 (by omega),Dw]
 exact T K
theorem Bhq {x V s:Nat} (F:x<4294967296) (hs:s≤31):(x+4294967296*V)/2 ^ s=(x+4294967296*(V%4294967296))/2 ^ s%4294967296+4294967296*(V/2 ^ s):=by
 have k:0<2 ^ s:=Nat.pow_pos (by omega)
 have D:2 ^ s∣4294967296:=⟨2 ^ (32 - s),by rw[←Nat.pow_add,show s+(32 - s)=32 by omega]⟩
 have key:∀ W,(x+4294967296*W)/2 ^ s=(x+4294967296*(W%2 ^ s))/2 ^ s+4294967296*(W/2 ^ s):=by
  intro W
  have e:x+4294967296*W=x+4294967296*(W%2 ^ s)+2 ^ s*(4294967296*(W/2 ^ s)):=by
   have h:=Nat.div_add_mod W (2 ^ s)
   have:4294967296*W=4294967296*(2 ^ s*(W/2 ^ s)+W%2 ^ s):=by rw[h]
   rw[this,Nat.mul_add,Nat.mul_left_comm];omega
  rw[e,Nat.add_mul_div_left _ _ k]
 have C:(x+4294967296*(V%2 ^ s))/2 ^ s<4294967296:=by
  rw[Nat.div_lt_iff_lt_mul k]
  have:V%2 ^ s+1≤2 ^ s:=Nat.mod_lt _ k
  have:=Nat.mul_le_mul_left 4294967296 this
  rw[Nat.mul_add] at this
  omega
 rw[key V,key (V%4294967296),Nat.mod_mod_of_dvd _ D,Nat.add_mul_mod_self_left,Nat.mod_eq_of_lt C]
theorem Bji:∀ {l:List Nat},Am l→val l%4294967296=l.getD 0 0
 | [],_=>rfl
 | x::r,h=>by
  have:=(Ee.1 h).1
  simp[val];omega
theorem A5m {N:Nat} {a:List Nat} {o:Bool} {s:Nat} (F:Am a) (hs:s≤31) (G:fit a.length N):∀ (m d fuel:Nat) (S:List Nat),d+m=a.length→m<fuel→Am S→S.length=a.length→Bfi S d→val S+4294967296 ^ d*(val (a.drop d)/2 ^ s)=val a/2 ^ s →
  ∃ S',Am S'∧val S'=val a/2 ^ s∧∀ K:Nat→Bool→LA→O R,D8 N K o fuel (Af a) a.length (s:Int) a.length (Af a) a.length (a.length:Int) (d:Int) (Af S)=K (As (val a/2 ^ s)).length true (Af S')
 | 0,d,fuel+1,S,hd,_,hS,I,L,D=>by
  have M:d=a.length:=by omega
  subst M
  rw[List.drop_length] at D
  simp[val] at D
  refine⟨S,hS,D,fun K=>?_⟩
  rw[D8];unfold Jl
  rw[Kn (Nat.le_refl _),cf,SM I.symm hS (by rw[I];exact G),D]
 | m+1,d,fuel+1,S,hd,hfu,hS,I,L,D=>by
  have h1:=G.1;have h2:=G.2
  have k:d<a.length:=by omega
  have ad:=Bd F k
  have step:=Bhq (V:=val (a.drop (d+1))) ad hs
  rw[Bji (WW F _),←iS k] at step
  have hg:(a.drop (d+1)).getD 0 0=a.getD (d+1) 0:=by simp[List.getD_eq_getElem?_getD,List.getElem?_drop]
  rw[hg] at step
  have go:∀ w,(a[d]+4294967296*a.getD (d+1) 0)/2 ^ s=w→∃ S',Am S'∧val S'=val a/2 ^ s∧∀ K:Nat→Bool→LA→O R,D8 N K o fuel (Af a) a.length (s:Int) a.length (Af a) a.length (a.length:Int) ((d+1:Nat):Int) (Af (S.set d (w%4294967296)))=K (As (val a/2 ^ s)).length true (Af S'):=by
   intro w hw
   refine A5m (o:=o) F hs G m (d+1) fuel (S.set d (w%4294967296)) (by omega) (by omega) (C9 hS (by omega) d) (by simpa using I) (OC L) ?_
   rw[Zg L (by omega),←D,step,hw,Nat.pow_succ,Nat.mul_add,Nat.mul_assoc];omega
  by_cases hn:d+1<a.length
  ·have an:=Bd F hn
   have C:a.getD (d+1) 0=a[d+1]:=by rw[List.getD_eq_getElem?_getD,List.getElem?_eq_getElem hn];rfl
   rw[C] at go
   obtain⟨S',T,U,Y⟩:=go _ rfl
   refine⟨S',T,U,fun K=>?_⟩
   rw[D8];unfold Jl
   have e:Uo .u64 ((a[d]:Nat):Int) (IntKind.wrap .u64 (((a[d+1]:Nat):Int)*2 ^ 32))=((a[d]+4294967296*a[d+1]:Nat):Int):=by
    rw[show(2:Int) ^ 32=((2 ^ 32:Nat):Int) by rfl,Ai8,J5 (by omega),A8s (by omega) (by omega),Nat.or_comm,xW (by omega)]
    congr 1;omega
   rw[Iz k,ct,Aa k,ct,eQ k,wS (by omega),Iz hn,ct,Aa hn,ct,eQ hn,show decide (((s:Nat):Int)<0)=false by simp,cf,ct,Ava (by omega),ct,J5 (show a[d]<18446744073709551616 by omega),J5 (show a[d+1]<18446744073709551616 by omega),e,Int.toNat_natCast s,Nat.min_eq_left (by omega),Vp,qB,gJ]
   exact Y K
  ·have C:a.getD (d+1) 0=0:=by rw[List.getD_eq_getElem?_getD,List.getElem?_eq_none (by omega)];rfl
   rw[C,Nat.mul_zero,Nat.add_zero] at go
   obtain⟨S',T,U,Y⟩:=go _ rfl
   refine⟨S',T,U,fun K=>?_⟩
   rw[D8];unfold Jl
   rw[Iz k,ct,Aa k,ct,eQ k,wS (by omega),Kn (by omega),cf,show decide (((s:Nat):Int)<0)=false by simp,cf,ct,Ava (by omega),ct,J5 (show a[d]<18446744073709551616 by omega),Int.toNat_natCast s,Nat.min_eq_left (by omega),Vp,qB,gJ]
   exact Y K
theorem Bhr {N:Nat} {a:List Nat} {n:Nat} {t o:Bool} {s:Nat} (hn:n=a.length) (C:Am a) (hs:s≤31) (k:fit a.length N) :
  ∃ S',Am S'∧val S'=val a/2 ^ s∧∀ K:Nat→Bool→LA→O R,Ob N (Af a) n t o (s:Int) K=K (As (val a/2 ^ s)).length true (Af S'):=by
 have T:=k.1;have U:=k.2
 have la:=(B0 C).2
 have F:IntKind.wrap .i64 (Int.tdiv ((s:Nat):Int) 32)=((0:Nat):Int):=by
  rw[show(32:Int)=((32:Nat):Int) by rfl,o0,Nat.div_eq_of_lt (by omega)];decide
 have e1:Int.tmod ((s:Nat):Int) 32=(s:Int):=by rw[show(32:Int)=((32:Nat):Int) by rfl,iR,Nat.mod_eq_of_lt (by omega)]
 by_cases D:val a=0
 ·refine⟨[],X2,by rw[D];simp[val],fun K=>?_⟩
  rw[V4];unfold Pi
  rw[show decide (((s:Nat):Int)<0)=false by simp,cf,Cm hn C k,D,F,Nat.zero_div,Ey];rfl
 ·obtain⟨S',I,G,L⟩:=A5m (R:=R) (o:=o) (a:=As (val a)) (Ad _) hs (k.le la) (As (val a)).length 0 N (List.replicate (As (val a)).length 0) (by omega) (by omega) (C5 _) (by simp) (Oe _) (by rw[E2];simp)
  rw[Al] at G
  refine⟨S',I,G,fun K=>?_⟩
  rw[V4];unfold Pi
  have M:(As (val a)).length≠0:=fun h=>D (B5.1 h)
  rw[show decide (((s:Nat):Int)<0)=false by simp,cf,Cm hn C k,F,e1,show decide (((0:Nat):Int)≥(((As (val a)).length:Nat):Int))=false by rw[decide_eq_false_iff_not];omega,cf]
  have c1:((decide ((0:Int)≤((0:Nat):Int)))&&((decide (((0:Nat):Int)≤(((As (val a)).length:Nat):Int)))&&((decide ((((As (val a)).length:Nat):Int)≤(((As (val a)).length:Nat):Int)))&&(decide ((((As (val a)).length:Nat):Int)≤(((As (val a)).length:Nat):Int))))))=true:=by simp
  rw[c1,ct,Int.toNat_natCast,Nat.sub_zero,Bgl (by omega),ct,Nat.zero_mul,List.drop_zero,Nat.mul_one,X3,List.take_length,Dw]
  have:=L K
  rw[Al] at this
  exact this
end
end Gx

namespace Gx
open Go Go.Proofs
section
variable {R:Type}
theorem YT {S:List Nat} {k:Nat} (h:val S<4294967296 ^ k):val (S.take k)=val S:=by
 by_cases F:k≤S.length
 ·have C:=T1 (S.take k) (S.drop k)
  rw[List.take_append_drop,List.length_take,Nat.min_eq_left F] at C
  rcases Nat.eq_zero_or_pos (val (S.drop k)) with D | D
  ·rw[D] at C;simpa using C.symm
  ·have:=Nat.le_mul_of_pos_right (4294967296 ^ k) D
   omega
 ·rw[List.take_of_length_le (by omega)]
theorem YU {S:List Nat} {n:Nat} (hS:Am S) (h:S.length=n+1):val S<(S[n]+1)*4294967296 ^ n:=by
 have C:=TS h
 have k:=Bq (C0 hS n)
 rw[List.length_take,Nat.min_eq_left (by omega)] at k
 rw[Nat.add_mul,Nat.mul_comm S[n]];omega
theorem Boe {a b c:Nat} (k:a≤b) (C:b≤c):((decide ((0:Int)≤(a:Int)))&&((decide ((a:Int)≤(b:Int)))&&((decide ((b:Int)≤(c:Int)))&&(decide ((c:Int)≤(c:Int))))))=true:=by simp;omega
theorem Axa {N:Nat} {v u0 Sv:List Nat} {n D s:Nat} (hn:v.length=n+2) (hv:Am v) (T:2147483648≤v[n+1]'(by omega)) (hSv:List.take ((n+2)*1) (Af Sv)=Af v) (hu:Am u0) (hul:u0.length=D+(n+2)) (hs:s≤31) (I:fit (D+n+4) N) :
  ∀ (j fuel c:Nat) (W q:List Nat),j<fuel→c+j=D→Am W→W.length=u0.length→Am q→q.length=D→W.take j=u0.take j→val (W.drop j)<val v→val (q.drop j)*val v+val (W.drop j)=val (u0.drop j) →
  ∃ Sq Sr,Am Sq∧val Sq=val u0/val v∧Am Sr∧val Sr=val u0%val v/2 ^ s∧∀ K:Nat→Nat→LA→LA→O R,Ez N K (s:Int) (n+2) u0.length (Af Sv) fuel D ((n+2:Nat):Int) (D:Int) (D:Int) (c:Int) (Af q) (Af W)=K (As (val u0/val v)).length (As (val u0%val v/2 ^ s)).length (Af Sq) (Af Sr)
 | 0,fuel+1,c,W,q,_,hc,hW,hWl,hq,F,L,hr,C=>by
  have h1:=I.1;have h2:=I.2
  simp only[List.drop_zero] at C hr
  have M:0<val v:=by omega
  have vlt:=Bq hv
  rw[hn] at vlt
  have V:val u0/val v=val q:=by rw[←C,Nat.mul_comm,Nat.mul_add_div M,Nat.div_eq_of_lt hr,Nat.add_zero]
  have hm:val u0%val v=val W:=by rw[←C,Nat.mul_comm,Nat.mul_add_mod,Nat.mod_eq_of_lt hr]
  have ht:val (W.take (n+2))=val W:=YT (by omega)
  have Y:(W.take (n+2)).length=n+2:=by rw[List.length_take];omega
  obtain⟨S',q1,q3,q4⟩:=Bhr (R:=R) (N:=N) (a:=W.take (n+2)) (n:=n+2) (t:=false) (o:=true) (s:=s) Y.symm (C0 hW _) hs (I.le (by rw[Y];omega))
  rw[ht,←hm] at q3 q4
  refine⟨q,S',hq,V.symm,q1,q3,fun K=>?_⟩
  have hcD:c=D:=by omega
  subst hcD
  rw[Ez];unfold O1
  rw[Kn (Nat.le_refl _),cf,Bks (by omega),ct,Int.toNat_natCast,Nat.mul_one,X3,q4,SM F.symm hq (by rw[F];exact I.le (by omega)),←V]
 | j+1,fuel+1,c,W,q,hfu,hc,hW,hWl,hq,F,L,hr,C=>by
  have h1:=I.1;have h2:=I.2
  have vlt:=Bq hv
  rw[hn] at vlt
  have hjW:j<W.length:=by omega
  have hju:j<u0.length:=by omega
  have hjq:j<q.length:=by omega
  have hWj:W[j]=u0[j]:=by
   have:=congrArg (fun l=>l[j]?) L
   simp only[List.getElem?_take_of_lt (show j<j+1 by omega),List.getElem?_eq_getElem hjW,List.getElem?_eq_getElem hju] at this
   exact Option.some.inj this
  have wj:=Bd hW hjW
  have eW:=iS hjW
  have eu:=iS hju
  have hUl:((W.drop j).take (n+3)).length=n+3:=by rw[List.length_take,List.length_drop];omega
  have k:val (W.drop j)<val v*4294967296:=by rw[eW];omega
  have hB:val (W.drop j)<4294967296 ^ (n+3):=by
   have:=(Nat.mul_lt_mul_right (show 0<4294967296 by omega)).2 vlt
   rw[←Nat.pow_succ] at this;exact Nat.lt_trans k this
  have hU:val ((W.drop j).take (n+3))=val (W.drop j):=YT hB
  have G:W=W.take j++((W.drop j).take (n+3)++(W.drop j).drop (n+3)):=by rw[List.take_append_drop,List.take_append_drop]
  have hPl:(W.take j).length=j:=by rw[List.length_take];omega
  obtain⟨U',u1,u2,u3,u4⟩:=Aoi (R:=R) (N:=N) (P:=W.take j) (Q:=(W.drop j).drop (n+3)) (U:=(W.drop j).take (n+3)) (v:=v) (n:=n) (f:=false) (g:=true) hn hv (C0 (WW hW _) _) hUl (by omega) (by omega) T (by rw[hU];exact k)
  rw[hU] at u3 u4
  have hQ0:val ((W.drop j).drop (n+3))=0:=by
   have:=T1 ((W.drop j).take (n+3)) ((W.drop j).drop (n+3))
   rw[List.take_append_drop,hU,hUl] at this
   have hp:0<4294967296 ^ (n+3):=Nat.pow_pos (by omega)
   rcases Nat.eq_zero_or_pos (val ((W.drop j).drop (n+3))) with h | h
   ·exact h
   ·have:=Nat.le_mul_of_pos_right (4294967296 ^ (n+3)) h;omega
  have M:0<val v:=by omega
  have hqd:val (W.drop j)/val v<4294967296:=Nat.div_lt_of_lt_mul k
  have hdm:=Nat.div_add_mod (val (W.drop j)) (val v)
  have hmd:=Nat.mod_lt (val (W.drop j)) M
  have hW':Am (W.take j++(U'++(W.drop j).drop (n+3))):=sJ.2 ⟨C0 hW _,sJ.2 ⟨u1,WW (WW hW _) _⟩⟩
  have hWl':(W.take j++(U'++(W.drop j).drop (n+3))).length=u0.length:=by
   rw[List.length_append,List.length_append,hPl,u2,List.length_drop,List.length_drop];omega
  have hWd:(W.take j++(U'++(W.drop j).drop (n+3))).drop j=U'++(W.drop j).drop (n+3):=by
   rw[List.drop_append,hPl,Nat.sub_self,List.drop_zero,List.drop_eq_nil_of_le (by omega),List.nil_append]
  have hWt:(W.take j++(U'++(W.drop j).drop (n+3))).take j=u0.take j:=by
   rw[List.take_append,hPl,Nat.sub_self,List.take_zero,List.append_nil,List.take_take,Nat.min_self]
   have:=congrArg (List.take j) L
   rwa [List.take_take,List.take_take,Nat.min_eq_left (by omega)] at this
  have hWv:val (U'++(W.drop j).drop (n+3))=val (W.drop j)%val v:=by rw[T1,hQ0,u3];simp
  obtain⟨Sq,Sr,a1,a2,a3,a4,a5⟩:=Axa (N:=N) hn hv T hSv hu hul hs I j fuel (c+1) (W.take j++(U'++(W.drop j).drop (n+3))) (q.set j (val (W.drop j)/val v)) (by omega) (by omega) hW' hWl' (C9 hq hqd j) (by simpa using F) hWt (by rw[hWd,hWv];exact hmd) (by
   rw[hWd,hWv,A5k hjq,val,eu,←C,←hWj,Nat.add_mul,Nat.mul_assoc,Nat.mul_add,Nat.mul_comm (val (W.drop j)/val v)]
   omega)
  refine⟨Sq,Sr,a1,a2,a3,a4,fun K=>?_⟩
  have w0:IntKind.wrap .i64 (IntKind.wrap .i64 (((D:Nat):Int) - 1) - (c:Int))=(j:Int):=by
   rw[i64 (a:=((D:Nat):Int) - 1) (by omega),i64 (by omega)];omega
  have w1:IntKind.wrap .i64 (IntKind.wrap .i64 ((j:Int)+((n+2:Nat):Int))+1)=((j+(n+3):Nat):Int):=by
   rw[i64 (a:=(j:Int)+((n+2:Nat):Int)) (by omega),i64 (by omega)];omega
  have:=u4 fun z aa=>cond (Ac (j:Int) D) (cond ((Nat.beq 1 1)&&((Nat.ble ((0+((Int.toNat (j:Int))*1))+1) (List.length (Af q)))&&(!false))) (Ez N K (s:Int) (n+2) u0.length (Af Sv) fuel D ((n+2:Nat):Int) (D:Int) (D:Int) (IntKind.wrap .i64 ((c:Int)+1)) (List.set (Af q) (0+((Int.toNat (j:Int))*1)) (.int .u32 z)) aa) none) none
  rw[←G,hPl] at this
  rw[Ez];unfold O1
  rw[Iz (by omega),ct,w0,w1,Boe (by omega) (by omega),ct,hSv,Int.toNat_natCast,Int.toNat_natCast,Nat.mul_one,Nat.zero_add,show j+(n+3) - j=n+3 by omega]
  rw[Int.toNat_natCast,Nat.mul_one,Nat.zero_add] at this
  rw[this,Aa (by omega),ct,show((Nat.beq 1 1)&&((Nat.ble (j+1) (List.length (Af q)))&&(!false)))=true by (rw[Cg];simp;omega),ct,sK,wS (by omega)]
  exact a5 K
theorem Bfj {N:Nat} {a b:List Nat} {n m:Nat} {t o t' o':Bool} (hn:n=a.length) (hm:m=b.length) (ha:Am a) (Y:Am b) (M:2≤b.length) (hlen:b.length≤a.length) (F:b.getLast (by intro h;rw[h] at M;simp at M)≠0) (S:fit (a.length+b.length+4) N) :
  ∃ Sq Sr,Am Sq∧val Sq=val a/val b∧Am Sr∧val Sr=val a%val b∧∀ K:Nat→Nat→LA→LA→O R,Kd N (Af a) n t o (Af b) m t' o' K=K (As (val a/val b)).length (As (val a%val b)).length (Af Sq) (Af Sr):=by
 subst hn hm
 have h1:=S.1;have h2:=S.2
 obtain⟨k,U⟩:∃ k,b.length=k+2:=⟨b.length - 2,by omega⟩
 have hbl2:b[k+1]'(by omega)≠0:=by
  rw[List.getLast_eq_getElem] at F
  simp only[U] at F
  exact F
 have bk:=Bd Y (show k+1<b.length by omega)
 obtain⟨s,s1,s2,s3,s4⟩:=Bci (R:=R) (N:=N) (c:=b[k+1]'(by omega)) (by omega) bk
 obtain⟨Sv,v1,v2,v3,v4⟩:=uY (R:=R) (N:=N) (a:=b) (t:=false) (o:=o') (s:=s) rfl Y s1 (S.le (by omega))
 obtain⟨Su,p1,p2,p3,p4⟩:=uY (R:=R) (N:=N) (a:=a) (t:=false) (o:=o) (s:=s) rfl ha s1 (S.le (by omega))
 have V:0<2 ^ s:=Nat.pow_pos (by omega)
 have hP:0<4294967296 ^ (k+1):=Nat.pow_pos (by omega)
 have bt:=YU Y U
 have bf:=TS U
 have hVlt:val b*2 ^ s<4294967296 ^ (k+2):=by
  have x1:val b*2 ^ s<(b[k+1]+1)*4294967296 ^ (k+1)*2 ^ s:=(Nat.mul_lt_mul_right V).2 bt
  have hd:2 ^ s∣4294967296:=⟨2 ^ (32 - s),by rw[←Nat.pow_add,show s+(32 - s)=32 by omega]⟩
  have x2:(b[k+1]+1)*2 ^ s≤4294967296:=by
   obtain⟨r,hr⟩:=hd
   have x3:b[k+1]<r:=by
    rw[hr,Nat.mul_comm] at s3
    exact Nat.lt_of_mul_lt_mul_left s3
   have x4:(b[k+1]+1)*2 ^ s≤r*2 ^ s:=Nat.mul_le_mul_right _ x3
   have x5:r*2 ^ s=4294967296:=by rw[Nat.mul_comm];exact hr.symm
   omega
  have x6:=Nat.mul_le_mul_right (4294967296 ^ (k+1)) x2
  rw[Nat.mul_right_comm] at x1
  rw[Nat.pow_succ,Nat.mul_comm _ 4294967296]
  exact Nat.lt_of_lt_of_le x1 x6
 have T:(Sv.take (k+2)).length=k+2:=by rw[List.length_take];omega
 have C:val (Sv.take (k+2))=val b*2 ^ s:=by rw[YT (by rw[v3];exact hVlt),v3]
 have G:2147483648*4294967296 ^ (k+1)≤val b*2 ^ s:=by
  have x1:4294967296 ^ (k+1)*b[k+1]≤val b:=by omega
  have x2:=Nat.mul_le_mul_right (2 ^ s) x1
  rw[Nat.mul_assoc,Nat.mul_comm (4294967296 ^ (k+1))] at x2
  have x3:=Nat.mul_le_mul_right (4294967296 ^ (k+1)) s2
  omega
 have I:2147483648≤(Sv.take (k+2))[k+1]'(by omega):=by
  have x1:=YU (C0 v1 (k+2)) T
  rw[C] at x1
  have x2:=Nat.lt_of_mul_lt_mul_right (Nat.lt_of_le_of_lt G x1)
  omega
 have hDl:Su.length=(a.length+1 - (k+2))+(k+2):=by omega
 have L:val (Su.drop (a.length+1 - (k+2)))<val (Sv.take (k+2)):=by
  have x1:=T1 (Su.take (a.length+1 - (k+2))) (Su.drop (a.length+1 - (k+2)))
  rw[List.take_append_drop,p3,List.length_take,Nat.min_eq_left (by omega)] at x1
  have x2:=Bq ha
  have x3:val a*2 ^ s<4294967296 ^ a.length*2 ^ s:=(Nat.mul_lt_mul_right V).2 x2
  have x4:a.length=(a.length+1 - (k+2))+(k+1):=by omega
  generalize hE:a.length+1 - (k+2)=E at *
  have x5:4294967296 ^ a.length=4294967296 ^ E*4294967296 ^ (k+1):=by rw[←Nat.pow_add];congr 1
  rw[x5,Nat.mul_assoc] at x3
  have x6:4294967296 ^ E*val (Su.drop E)<4294967296 ^ E*(4294967296 ^ (k+1)*2 ^ s):=by omega
  have x7:=Nat.lt_of_mul_lt_mul_left x6
  have x8:4294967296 ^ (k+1)*2 ^ s≤2147483648*4294967296 ^ (k+1):=by rw[Nat.mul_comm];exact Nat.mul_le_mul_right _ (A0r s1)
  rw[C];omega
 obtain⟨Sq,Sr,a1,a2,a3,a4,a5⟩:=Axa (R:=R) (N:=N) (v:=Sv.take (k+2)) (u0:=Su) (Sv:=Sv) (n:=k) (D:=a.length+1 - (k+2)) (s:=s) T (C0 v1 _) I (by rw[Nat.mul_one,X3]) p1 hDl s1 (S.le (by omega)) (a.length+1 - (k+2)) N 0 Su (List.replicate (a.length+1 - (k+2)) 0) (by omega) (by omega) p1 rfl (C5 _) (by simp) rfl L (by
  rw[List.drop_eq_nil_of_le (show(List.replicate (a.length+1 - (k+2)) 0).length≤a.length+1 - (k+2) by simp)];simp[val])
 have hq:val Su/val (Sv.take (k+2))=val a/val b:=by rw[p3,C,Nat.mul_div_mul_right _ _ V]
 have hr:val Su%val (Sv.take (k+2))/2 ^ s=val a%val b:=by rw[p3,C,Nat.mul_mod_mul_right,Nat.mul_div_cancel _ V]
 rw[hq] at a2;rw[hr] at a4
 refine⟨Sq,Sr,a1,a2,a3,a4,fun K=>?_⟩
 rw[NJ];unfold V5
 have w1:IntKind.wrap .i64 (((b.length:Nat):Int) - 1)=((k+1:Nat):Int):=by rw[i64 (by omega)];omega
 have w2:IntKind.wrap .i64 (((a.length+1:Nat):Int) - ((b.length:Nat):Int))=((a.length+1 - (k+2):Nat):Int):=by rw[i64 (by omega)];omega
 rw[w1,Aa (by omega),ct,eQ (by omega),s4,v4,Bks (by omega),ct,p4,w2,Bgl (by omega),ct,Int.toNat_natCast,Dw]
 have:=a5 K
 rw[hq,hr,p2] at this
 rw[U]
 exact this
theorem iT {N:Nat} {a b:List Nat} {n m:Nat} {t o t' o':Bool} (hn:n=a.length) (hm:m=b.length) (ha:Am a) (hb:Am b) (G:val b≠0) (D:fit (a.length+b.length+4) N) :
  ∃ Sq Sr,Am Sq∧val Sq=val a/val b∧Am Sr∧val Sr=val a%val b∧∀ K:Nat→Nat→Bool→LA→LA→O R,F0 N (Af a) n t o (Af b) m t' o' K=K (As (val a/val b)).length (As (val a%val b)).length true (Af Sq) (Af Sr):=by
 have h1:=D.1;have h2:=D.2
 have la:=(B0 ha).2
 have lb:=(B0 hb).2
 have T:(As (val b)).length≠0:=fun h=>G (B5.1 h)
 have start:∀ K:Nat→Nat→Bool→LA→LA→O R,F0 N (Af a) n t o (Af b) m t' o' K=cond (decide (Iy (val a) (val b)<0)) (FC N (Af (As (val a))) (As (val a)).length false o (fun s t=>(K 0 s true [] t))) (cond (decide ((((As (val a)).length:Nat):Int)≤(2:Int))) (Tj N (Af (As (val a))) (As (val a)).length false o (fun p=>(Tj N (Af (As (val b))) (As (val b)).length false o' (fun o=>(cond (o==(0:Int)) none (Ck N (IntKind.wrap .u64 (Int.tdiv p o)) (fun u w=>(cond (o==(0:Int)) none (Ck N (Int.tmod p o) (fun x y=>(K u x true w y))))))))))) (cond ((((As (val b)).length:Nat):Int)==(1:Int)) (cond (Ac (0:Int) (As (val b)).length) (Ao .u32 (Af (As (val b))) fun z=>(G1 N (Af (As (val a))) (As (val a)).length false o z (fun aa ab ac ad=>(K aa ab true ac ad)))) none) (Kd N (Af (As (val a))) (As (val a)).length false o (Af (As (val b))) (As (val b)).length false o' (fun ae af ag ah=>(K ae af true ag ah))))):=by
  intro K
  rw[na];unfold qg
  rw[Cm hn ha (D.le (by omega)),Cm hm hb (D.le (by omega)),Ate T,cf,U9 rfl rfl (Ad _) (Ad _) (D.le (by omega)),Al,Al]
 by_cases k:val a<val b
 ·refine⟨[],As (val a),X2,by rw[Nat.div_eq_of_lt k];rfl,Ad _,by rw[Nat.mod_eq_of_lt k,Al],fun K=>?_⟩
  rw[start,show decide (Iy (val a) (val b)<0)=true by (unfold Iy;rw[if_pos k];rfl),ct,lE rfl (Ad _) (D.le (by omega)),Al,Nat.div_eq_of_lt k,Nat.mod_eq_of_lt k,Ey];rfl
 ·have C:decide (Iy (val a) (val b)<0)=false:=by unfold Iy;rw[if_neg k];split<;>rfl
  have I:=Cj (Nat.le_of_not_lt k)
  by_cases F:(As (val a)).length≤2
  ·have av:=uW F
   have bv:=uW (Nat.le_trans I F)
   have L:val a/val b<18446744073709551616:=Nat.lt_of_le_of_lt (Nat.div_le_self _ _) av
   have U:val a%val b<18446744073709551616:=Nat.lt_of_le_of_lt (Nat.mod_le _ _) av
   obtain⟨Sq,a1,a2,a3⟩:=Ml (R:=R) (N:=N) L (by omega)
   obtain⟨Sr,b1,b2,b3⟩:=Ml (R:=R) (N:=N) U (by omega)
   refine⟨Sq,Sr,a1,a2,b1,b2,fun K=>?_⟩
   rw[start,C,cf,show decide ((((As (val a)).length:Nat):Int)≤2)=true by simp;omega,ct,TR rfl (Ad _) F (by omega),TR rfl (Ad _) (by omega) (by omega),Al,Al,Ate G,cf,o0,J5 L,a3,cf,iR,b3]
  ·have M:decide ((((As (val a)).length:Nat):Int)≤2)=false:=by simp;omega
   by_cases V:(As (val b)).length=1
   ·obtain⟨x,Y⟩:∃ x,As (val b)=[x]:=by
     match h:As (val b),V with
     | [x],_=>exact⟨x,rfl⟩
    have S:x=val b:=by have:=Al (val b);rw[Y] at this;simpa[val] using this
    have xl:x<4294967296:=by have:=Ad (val b);rw[Y] at this;exact(Ee.1 this).1
    obtain⟨Sq,Sr,a1,a2,a3,a4,a5⟩:=A5l (R:=R) (N:=N) (a:=As (val a)) (t:=false) (o:=o) (b:=x) rfl (Ad _) (by omega) xl (D.le (by omega))
    rw[Al,S] at a2 a4 a5
    refine⟨Sq,Sr,a1,a2,a3,a4,fun K=>?_⟩
    rw[start,C,cf,M,cf,Y]
    simp only[List.length_cons,List.length_nil,GE,A1]
    rw[show((((0+1:Nat)):Int)==1)=true by rfl,ct,show Ac 0 (0+1)=true by decide,ct,S,a5]
   ·obtain⟨Sq,Sr,a1,a2,a3,a4,a5⟩:=Bfj (R:=R) (N:=N) (a:=As (val a)) (b:=As (val b)) (t:=false) (o:=o) (t':=false) (o':=o') rfl rfl (Ad _) (Ad _) (by omega) I (Ai7 _ _) (D.le (by omega))
    rw[Al,Al] at a2 a4 a5
    refine⟨Sq,Sr,a1,a2,a3,a4,fun K=>?_⟩
    rw[start,C,cf,M,cf,show((((As (val b)).length:Nat):Int)==1)=false by rw[beq_eq_false_iff_ne];omega,cf,a5]
end
end Gx

namespace Gx
open Go Go.Proofs
section
variable {R:Type}
def Bnm (A B u0 u1 v0 v1:Nat) (e:Bool):Prop:=v0=0∨(1≤u1∧1≤v1∧match e with
 | true=>v0*B≤u0*A∧u1*A≤v1*B∧(v0+v1)*B≤(u0+u1)*A∧u0*v1=v0*u1+1
 | false=>u0*A≤v0*B∧v1*B≤u1*A∧(u0+u1)*A≤(v0+v1)*B∧u1*v0=v1*u0+1)
structure Lead (X Y x y u1 u2 v1 v2:Nat) (e:Bool):Prop where
 le:y≤x
 idV:x*v2+y*v1=X
 idU:x*u2+y*u1=Y
 pos:1≤v2
 par:match e with
  | false=>x+v1*Y=u1*X∧y+u2*X=v2*Y∧u1*v2=v1*u2+1
  | true=>x+u1*X=v1*Y∧y+v2*Y=u2*X∧u2*v1=v2*u1+1
 small:(v1=0∧u1=1∧u2=0∧v2=1∧e=false)∨(1≤v1∧u1≤v1∧u2≤v2∧1≤u2)
theorem Lead.init {X Y:Nat} (h:Y≤X):Lead X Y X Y 1 0 0 1 false:=⟨h,by simp,by simp,by omega,by simp,.inl ⟨rfl,rfl,rfl,rfl,rfl⟩⟩
theorem Lead.step {X Y x y u1 u2 v1 v2:Nat} {e:Bool} (L:Lead X Y x y u1 u2 v1 v2 e) (M:1≤y):Lead X Y y (x%y) u2 (u1+x/y*u2) v2 (v1+x/y*v2) (!e):=by
 have k:=Nat.div_add_mod x y
 have I:=Nat.mod_lt x (show 0<y by omega)
 have hq:1≤x/y:=by rw[Nat.le_div_iff_mul_le (by omega)];have:=L.le;omega
 generalize x/y=q at *
 generalize x%y=r at *
 have C:=L.pos
 refine⟨by omega,?_,?_,?_,?_,?_⟩
 ·rw[←L.idV,←k,Nat.mul_add,Nat.add_mul,Nat.mul_assoc];omega
 ·rw[←L.idU,←k,Nat.mul_add,Nat.add_mul,Nat.mul_assoc];omega
 ·have:=Nat.mul_le_mul hq C;omega
 ·have p:=L.par
  cases e with
  | false =>
   obtain⟨p1,p2,F⟩:=p
   refine⟨p2,?_,?_⟩
   ·have e1:q*(y+u2*X)=q*(v2*Y):=by rw[p2]
    rw[Nat.mul_add,←Nat.mul_assoc,←Nat.mul_assoc] at e1
    rw[Nat.mul_comm y q] at k
    rw[Nat.add_mul,Nat.add_mul];omega
   ·rw[Nat.add_mul,Nat.add_mul,Nat.mul_right_comm q u2,F];omega
  | true =>
   obtain⟨p1,p2,F⟩:=p
   refine⟨p2,?_,?_⟩
   ·have e1:q*(y+v2*Y)=q*(u2*X):=by rw[p2]
    rw[Nat.mul_add,←Nat.mul_assoc,←Nat.mul_assoc] at e1
    rw[Nat.mul_comm y q] at k
    rw[Nat.add_mul,Nat.add_mul];omega
   ·rw[Nat.mul_add,Nat.mul_add,F,Nat.mul_left_comm u2 q,Nat.mul_left_comm v2 q,Nat.mul_comm u2 v2];omega
 ·right
  rcases L.small with⟨s1,s2,D,G,_⟩ | ⟨s1,s2,D,G⟩
  ·subst s1 s2 D G;exact⟨by omega,by omega,by omega,by omega⟩
  ·have S:q*u2≤q*v2:=Nat.mul_le_mul_left _ D
   exact⟨C,D,by omega,by have:=Nat.mul_le_mul hq G;omega⟩
theorem Lead.cof {X Y x y u1 u2 v1 v2 A B P:Nat} {e:Bool} (L:Lead X Y x y u1 u2 v1 v2 e) (hA:X*P≤A) (hA':A<(X+1)*P) (hB:Y*P≤B) (hB':B<(Y+1)*P) (c1:v2≤y) (C:v1+v2≤x - y):Bnm A B u1 u2 v1 v2 (!e):=by
 have p:=L.par
 have D:=L.le
 rcases L.small with⟨s1,_⟩ | ⟨s1,s2,G,F⟩
 ·exact .inl s1
 ·refine .inr ⟨F,L.pos,?_⟩
  cases e with
  | false =>
   obtain⟨p1,p2,k⟩:=p
   have n1:u2*A≤v2*B:=LZ hB hA' (w:=y) (by omega) (by omega)
   have n2:(v1+v2)*B≤(u1+u2)*A:=LZ hA hB' (w:=x - y) (by rw[Nat.add_mul,Nat.add_mul];omega) C
   refine⟨?_,n1,n2,k⟩
   rw[Nat.add_mul,Nat.add_mul] at n2;omega
  | true =>
   obtain⟨p1,p2,k⟩:=p
   have n1:v2*B≤u2*A:=LZ hA hB' (w:=y) (by omega) (by omega)
   have n2:(u1+u2)*A≤(v1+v2)*B:=LZ hB hA' (w:=x - y) (by rw[Nat.add_mul,Nat.add_mul];omega) (by omega)
   refine⟨?_,n1,n2,k⟩
   rw[Nat.add_mul,Nat.add_mul] at n2;omega
theorem iU {x y:Nat} (C:1≤y) (h:y≤x):2*(y*(x%y))≤x*y:=by
 have D:=Nat.div_add_mod x y
 have F:=Nat.mod_lt x (show 0<y by omega)
 have hq:1≤x/y:=by rw[Nat.le_div_iff_mul_le (by omega)];omega
 have G:y*1≤y*(x/y):=Nat.mul_le_mul_left _ hq
 have k:2*(x%y)≤x:=by omega
 have:=Nat.mul_le_mul_left y k
 rw[Nat.mul_comm x y,Nat.mul_left_comm];exact this
def Bcl (u0 u1 v0 v1:Nat) (e:Bool):LA:=[.int .u64 (u0:Int),.int .u64 (u1:Int),.int .u64 (v0:Int),.int .u64 (v1:Int),.bool e]
theorem Bfk {N:Nat} {X Y A B P:Nat} (hX:X<18446744073709551616) (hYX:Y≤X) (hA:X*P≤A) (hA':A<(X+1)*P) (hB:Y*P≤B) (hB':B<(Y+1)*P):∀ (k fuel x y u0 u1 u2 v0 v1 v2:Nat) (e:Bool),k<fuel→x*y<2 ^ k→Lead X Y x y u1 u2 v1 v2 e→Bnm A B u0 u1 v0 v1 e→u0<18446744073709551616→u1<18446744073709551616→v0<18446744073709551616→v1<18446744073709551616 →
  ∃ (a1 a2 I G:Nat) (e':Bool),Bnm A B a1 a2 I G e'∧a1<18446744073709551616∧a2<18446744073709551616∧I<18446744073709551616∧G<18446744073709551616∧∀ K:LA→O R,E4 N K fuel (x:Int) (y:Int) (u0:Int) (u1:Int) (u2:Int) (v0:Int) (v1:Int) (v2:Int) e=K (Bcl a1 a2 I G e'):=by
 intro k
 induction k with
 | zero =>
  intro fuel x y u0 u1 u2 v0 v1 v2 e hf M L C I G b3 U
  obtain⟨fuel,rfl⟩:∃ F,fuel=F+1:=⟨fuel - 1,by omega⟩
  have T:y=0:=by
   rcases Nat.eq_zero_or_pos y with h | h
   ·exact h
   ·have h3:=Nat.mul_le_mul_left x (show 1≤y by omega)
    have h4:=L.le
    rw[Nat.pow_zero] at M
    omega
  refine⟨u0,u1,v0,v1,e,C,I,G,b3,U,fun K=>?_⟩
  rw[E4];unfold K6
  have:=L.pos
  rw[show decide ((y:Int)≥(v2:Int))=false by simp;omega];rfl
 | succ k ih =>
  intro fuel x y u0 u1 u2 v0 v1 v2 e hf M L C I G b3 U
  obtain⟨fuel,rfl⟩:∃ F,fuel=F+1:=⟨fuel - 1,by omega⟩
  have hv2:=L.pos
  have S:=L.le
  by_cases c1:v2≤y
  ·have T:1≤y:=by omega
   have hxX:x≤X:=by
    have:=Nat.mul_le_mul_left x hv2
    have:=L.idV;omega
   have hsum:v1+v2≤X:=by
    have h1:=Nat.mul_le_mul_right v2 (show 1≤x by omega)
    have h2:=Nat.mul_le_mul_right v1 T
    have:=L.idV;omega
   by_cases c2:v1+v2≤x - y
   ·have L':=L.step T
    have C':=L.cof hA hA' hB hB' c1 c2
    have i1:=L'.idV
    have i2:=L'.idU
    have w1:v1+x/y*v2≤X:=by
     have:=Nat.mul_le_mul_right (v1+x/y*v2) T;omega
    have w2:u1+x/y*u2≤Y:=by
     have:=Nat.mul_le_mul_right (u1+x/y*u2) T;omega
    have hu2:u2<18446744073709551616:=by
     have h1:=Nat.mul_le_mul_right u2 (show 1≤x by omega)
     have:=L.idU;omega
    have V:v2<18446744073709551616:=by omega
    have hlt:y*(x%y)<2 ^ k:=by
     have:=iU T S
     rw[Nat.pow_succ] at M;omega
    obtain⟨a1,a2,d1,d2,e',r1,r2,r3,r4,r5,r6⟩:=ih fuel y (x%y) u1 u2 (u1+x/y*u2) v1 v2 (v1+x/y*v2) (!e) (by omega) hlt L' C' G hu2 U V
    refine⟨a1,a2,d1,d2,e',r1,r2,r3,r4,r5,fun K=>?_⟩
    rw[E4];unfold K6
    have D:x<18446744073709551616:=by omega
    have hdiv:x/y<18446744073709551616:=Nat.lt_of_le_of_lt (Nat.div_le_self _ _) D
    rw[show decide ((y:Int)≥(v2:Int))=true by simp;omega,show((true:Bool)==true)=true by rfl,ct,xU D S,RX,J5 (show v1+v2<18446744073709551616 by omega),show decide (((x - y:Nat):Int)≥((v1+v2:Nat):Int))=true by rw[decide_eq_true_eq];omega,A25,ct]
    unfold Za
    dsimp only
    rw[Ate (by omega),cf,cf,o0,iR,J5 hdiv,Ai8,Ai8,J5 (show x/y*u2<18446744073709551616 by omega),J5 (show x/y*v2<18446744073709551616 by omega),RX,RX,J5 (show u1+x/y*u2<18446744073709551616 by omega),J5 (show v1+x/y*v2<18446744073709551616 by omega)]
    exact r6 K
   ·refine⟨u0,u1,v0,v1,e,C,I,G,b3,U,fun K=>?_⟩
    rw[E4];unfold K6
    rw[show decide ((y:Int)≥(v2:Int))=true by simp;omega,show((true:Bool)==true)=true by rfl,ct,xU (by omega) S,RX,J5 (show v1+v2<18446744073709551616 by omega),show decide (((x - y:Nat):Int)≥((v1+v2:Nat):Int))=false by rw[decide_eq_false_iff_not];omega,A25,cf]
    rfl
  ·refine⟨u0,u1,v0,v1,e,C,I,G,b3,U,fun K=>?_⟩
   rw[E4];unfold K6
   rw[show decide ((y:Int)≥(v2:Int))=false by simp;omega];rfl
end
end Gx

namespace Gx
open Go Go.Proofs
section
variable {R:Type}
theorem yS {N:Nat} {a:List Nat} {n:Nat} {t o:Bool} {i:Nat} {K:Int→O R} (hn:n=a.length) (k:Am a):Mg N (i:Int) (Af a) n t o K=K ((a.getD i 0:Nat):Int):=by
 subst hn
 rw[SW];unfold QJ
 by_cases h:i<a.length
 ·have:=Bd k h
  rw[Iz h,ct,Aa h,ct,eQ h,J5 (by omega),List.getD_eq_getElem?_getD,List.getElem?_eq_getElem h];rfl
 ·rw[Kn (by omega),cf,List.getD_eq_getElem?_getD,List.getElem?_eq_none (by omega)];rfl
theorem GP {a:List Nat} (k:Am a) (i:Nat):a.getD i 0<4294967296:=by
 by_cases h:i<a.length
 ·rw[List.getD_eq_getElem?_getD,List.getElem?_eq_getElem h];exact Bd k h
 ·rw[List.getD_eq_getElem?_getD,List.getElem?_eq_none (by omega)];simp
theorem Bhs {a:List Nat} {n:Nat} (F:a.length≤n+3):val a=val (a.take n)+4294967296 ^ n*((a.getD (n+2) 0*4294967296+a.getD (n+1) 0)*4294967296+a.getD n 0):=by
 have k:=Va a (n+2)
 have C:=Va a (n+1)
 have D:=Va a n
 rw[List.take_of_length_le (by omega)] at k
 have x1:4294967296 ^ (n+2)*a.getD (n+2) 0=4294967296 ^ n*(a.getD (n+2) 0*4294967296*4294967296):=by rw[Nat.pow_succ (n:=4294967296) (m:=n+1),Nat.pow_succ,Bmp,Bmp]
 have x2:4294967296 ^ (n+1)*a.getD (n+1) 0=4294967296 ^ n*(a.getD (n+1) 0*4294967296):=by rw[Nat.pow_succ,Bmp]
 rw[k,C,D,x1,x2,Nat.add_mul,Nat.mul_add,Nat.mul_add];omega
theorem Acu {N:Nat} {a:List Nat} {m n s:Nat} {t o:Bool} {K:Int→O R} (I:m=a.length) (D:Am a) (Y:a.length≤n+3) (hs:s≤31) (C:a.getD (n+2) 0*2 ^ s<4294967296) (hn:n≤1000000000000) :
  GK N (Af a) m t o ((n+3:Nat):Int) (s:Int) K=K ((val a/(4294967296 ^ n*2 ^ (32 - s)):Nat):Int)∧val a/(4294967296 ^ n*2 ^ (32 - s))<18446744073709551616:=by
 have hp:0<2 ^ s:=Nat.pow_pos (by omega)
 have F:0<2 ^ (32 - s):=Nat.pow_pos (by omega)
 have hP:0<4294967296 ^ n:=Nat.pow_pos (by omega)
 have k:2 ^ s*2 ^ (32 - s)=4294967296:=by rw[←Nat.pow_add,show s+(32 - s)=32 by omega]
 have b0:=GP D (n+2)
 have b1:=GP D (n+1)
 have b2:=GP D n
 have tk:=Bq (C0 D n)
 have Atf:val (a.take n)<4294967296 ^ n:=by
  refine Nat.lt_of_lt_of_le tk (Nat.pow_le_pow_right (by omega) ?_)
  rw[List.length_take];omega
 have hv:=Bhs Y
 generalize L:a.getD (n+2) 0=a0 at *
 generalize M:a.getD (n+1) 0=a1 at *
 generalize S:a.getD n 0=a2 at *
 have T:a0<2 ^ (32 - s):=by
  rw[←k,Nat.mul_comm] at C;exact Nat.lt_of_mul_lt_mul_left C
 have G:(a0*4294967296+a1)*2 ^ s<18446744073709551616:=by
  have x1:(a0+1)*4294967296≤2 ^ (32 - s)*4294967296:=Nat.mul_le_mul_right _ T
  have x2:a0*4294967296+a1<2 ^ (32 - s)*4294967296:=by rw[Nat.add_mul] at x1;omega
  have x3:=(Nat.mul_lt_mul_right hp).2 x2
  rw[Nat.mul_right_comm,Nat.mul_comm (2 ^ (32 - s)),k] at x3
  exact x3
 have U:a2/2 ^ (32 - s)<2 ^ s:=by
  rw[Nat.div_lt_iff_lt_mul F,k];exact b2
 have hq:val a/(4294967296 ^ n*2 ^ (32 - s))=(a0*4294967296+a1)*2 ^ s+a2/2 ^ (32 - s):=by
  rw[←Nat.div_div_eq_div_mul,hv,Nat.add_mul_div_left _ _ hP,Nat.div_eq_of_lt Atf,Nat.zero_add]
  have:(a0*4294967296+a1)*4294967296+a2=a2+2 ^ (32 - s)*((a0*4294967296+a1)*2 ^ s):=by
   rw[Nat.mul_left_comm,Nat.mul_comm (2 ^ (32 - s)),k];omega
  rw[this,Nat.add_mul_div_left _ _ F];omega
 have hb:(a0*4294967296+a1)*2 ^ s+a2/2 ^ (32 - s)<18446744073709551616:=by
  have V:2 ^ s*2 ^ (64 - s)=18446744073709551616:=by rw[←Nat.pow_add,show s+(64 - s)=64 by omega]
  obtain⟨r,hr⟩:∃ r,18446744073709551616=2 ^ s*r:=⟨2 ^ (64 - s),V.symm⟩
  rw[hr,Nat.mul_comm] at G
  have x1:=Nat.lt_of_mul_lt_mul_left G
  have x2:(a0*4294967296+a1+1)*2 ^ s≤r*2 ^ s:=Nat.mul_le_mul_right _ x1
  rw[Nat.add_mul,Nat.mul_comm r,←hr] at x2
  omega
 rw[hq]
 refine⟨?_,hb⟩
 rw[nV];unfold q_
 have w1:IntKind.wrap .i64 (((n+3:Nat):Int) - 1)=((n+2:Nat):Int):=by rw[i64 (by omega)];omega
 have w2:IntKind.wrap .i64 (((n+3:Nat):Int) - 2)=((n+1:Nat):Int):=by rw[i64 (by omega)];omega
 have w3:IntKind.wrap .i64 (((n+3:Nat):Int) - 3)=((n:Nat):Int):=by rw[i64 (by omega)];omega
 have w4:IntKind.wrap .i64 ((32:Int) - (s:Int))=((32 - s:Nat):Int):=by rw[i64 (by omega)];omega
 rw[w1,w2,w3,w4,yS I D,yS I D,show decide (((s:Nat):Int)<0)=false by simp,cf,yS I D,show decide (((32 - s:Nat):Int)<0)=false by simp,cf]
 rw[L,M,S,Blo b0 b1,Int.toNat_natCast,Int.toNat_natCast,Nat.min_eq_left (by omega),Nat.min_eq_left (by omega),Vp,show(2:Int) ^ s=((2 ^ s:Nat):Int) by simp,Ai8,J5 G,A8s G (by omega),xW U]
theorem A0s {N:Nat} {a b:List Nat} {n m:Nat} {t o t' o':Bool} (hn:n=a.length) (hm:m=b.length) (S:Am a) (hb:Am b) (G:3≤a.length) (D:a.getLast (by intro h;rw[h] at G;simp at G)≠0) (hlb:b.length≤a.length) (T:val b≤val a) (hf:fit a.length N) :
  ∃ (a1 a2 I L:Nat) (e:Bool),Bnm (val a) (val b) a1 a2 I L e∧a1<18446744073709551616∧a2<18446744073709551616∧I<18446744073709551616∧L<18446744073709551616∧∀ K:LA→O R,Yb N (Af a) n t o (Af b) m t' o' K=K (Bcl a1 a2 I L e):=by
 subst hn hm
 have h1:=hf.1;have h2:=hf.2
 obtain⟨k,hk⟩:∃ k,a.length=k+3:=⟨a.length - 3,by omega⟩
 have hla2:a[k+2]'(by omega)≠0:=by
  rw[List.getLast_eq_getElem] at D
  simp only[hk] at D
  exact D
 have ak:=Bd S (show k+2<a.length by omega)
 obtain⟨s,s1,s2,s3,s4⟩:=Bci (R:=R) (N:=N) (c:=a[k+2]'(by omega)) (by omega) ak
 have U:a.getD (k+2) 0=a[k+2]'(by omega):=by rw[List.getD_eq_getElem?_getD,List.getElem?_eq_getElem (by omega)];rfl
 have F:b.getD (k+2) 0≤a[k+2]'(by omega):=by
  apply Nat.le_of_not_lt;intro C
  have M:k+2<b.length:=by
   apply Nat.lt_of_not_le;intro V
   rw[List.getD_eq_getElem?_getD,List.getElem?_eq_none V] at C;simp at C
  have hbg:b.getD (k+2) 0=b[k+2]:=by rw[List.getD_eq_getElem?_getD,List.getElem?_eq_getElem M];rfl
  rw[hbg] at C
  have x1:=YU S (n:=k+2) (by omega)
  have x2:=A97 M
  have x3:(a[k+2]+1)*4294967296 ^ (k+2)≤b[k+2]*4294967296 ^ (k+2):=Nat.mul_le_mul_right _ C
  rw[Nat.mul_comm] at x2
  omega
 have hbt:b.getD (k+2) 0*2 ^ s<4294967296:=Nat.lt_of_le_of_lt (Nat.mul_le_mul_right _ F) s3
 have hPP:0<4294967296 ^ k*2 ^ (32 - s):=Nat.mul_pos (Nat.pow_pos (by omega)) (Nat.pow_pos (by omega))
 have wa:=fun K=>Acu (R:=R) (N:=N) (a:=a) (m:=a.length) (n:=k) (s:=s) (t:=false) (o:=o) (K:=K) rfl S (by omega) s1 (by rw[U];exact s3) (by omega)
 have wb:=fun K=>Acu (R:=R) (N:=N) (a:=b) (m:=b.length) (n:=k) (s:=s) (t:=false) (o:=o') (K:=K) rfl hb (by omega) s1 hbt (by omega)
 have hX:=(wa fun _=>none).2
 generalize hP:4294967296 ^ k*2 ^ (32 - s)=P at *
 have hYX:val b/P≤val a/P:=Nat.div_le_div_right T
 have q1:∀ z,z/P*P≤z:=fun z=>Nat.div_mul_le_self z P
 have q2:∀ z,z<(z/P+1)*P:=fun z=>by
  have:=Nat.div_add_mod z P;have:=Nat.mod_lt z hPP
  rw[Nat.add_mul,Nat.mul_comm];omega
 obtain⟨a1,a2,I,L,e,r1,r2,r3,r4,r5,r6⟩:=Bfk (R:=R) (N:=N) (X:=val a/P) (Y:=val b/P) (A:=val a) (B:=val b) (P:=P) hX hYX (q1 _) (q2 _) (q1 _) (q2 _) 128 N (val a/P) (val b/P) 0 1 0 0 0 1 false (by omega) (by
  have:=Nat.mul_lt_mul'' hX (Nat.lt_of_le_of_lt hYX hX)
  exact this) (Lead.init hYX) (.inl rfl) (by omega) (by omega) (by omega) (by omega)
 refine⟨a1,a2,I,L,e,r1,r2,r3,r4,r5,fun K=>?_⟩
 rw[gR];unfold NF
 have w1:IntKind.wrap .i64 (((a.length:Nat):Int) - 1)=((k+2:Nat):Int):=by rw[i64 (by omega)];omega
 rw[w1,Aa (by omega),ct,eQ (by omega),s4,show((a.length:Nat):Int)=((k+3:Nat):Int) by rw[hk],(wa _).1,(wb _).1]
 exact r6 K
theorem FM {N:Nat} {a b:List Nat} {n m:Nat} {x y:Nat} {t o t' o':Bool} (hn:n=a.length) (V:m=b.length) (G:Am a) (I:Am b) (C:x<18446744073709551616) (D:y<18446744073709551616) (F:val b*y≤val a*x) (k:fit (a.length+b.length+4) N) :
  ∃ S,Am S∧val S=val a*x - val b*y∧∀ K:Nat→LA→O R,G3 N (Af a) n t o (x:Int) (Af b) m t' o' (y:Int) K=K (As (val a*x - val b*y)).length (Af S):=by
 subst hn V
 have h1:=k.1;have h2:=k.2
 obtain⟨Sx,x1,x2,x3⟩:=Ml (R:=R) (N:=N) C (by omega)
 obtain⟨Sy,y1,y2,y3⟩:=Ml (R:=R) (N:=N) D (by omega)
 have lx:=FL C
 have ly:=FL D
 obtain⟨P1,p1,p2,L⟩:=iQ (R:=R) (N:=N) (a:=a) (b:=As x) (t:=false) (o:=o) (t':=false) (o':=true) rfl rfl G (Ad _) (k.le (by omega))
 obtain⟨P2,Y,M,T⟩:=iQ (R:=R) (N:=N) (a:=b) (b:=As y) (t:=false) (o:=o') (t':=false) (o':=true) rfl rfl I (Ad _) (k.le (by omega))
 rw[Al] at p2 L M T
 have l1:(As (val a*x)).length≤a.length+2:=Dv (by
  have:=Nat.mul_lt_mul'' (Bq G) C
  rw[Nat.pow_add];exact this)
 have l2:(As (val b*y)).length≤b.length+2:=Dv (by
  have:=Nat.mul_lt_mul'' (Bq I) D
  rw[Nat.pow_add];exact this)
 obtain⟨S,s1,s2,U⟩:=Aog (R:=R) (N:=N) (a:=As (val a*x)) (b:=As (val b*y)) (t:=false) (o:=true) (t':=false) (o':=true) rfl rfl (Ad _) (Ad _) (k.le (by omega)) (by rw[Al,Al];exact F)
 rw[Al,Al] at s2 U
 refine⟨S,s1,s2,fun K=>?_⟩
 rw[gW];unfold gV
 have tx:List.take ((As x).length*1) (Af Sx)=Af (As x):=by rw[←x2,Oa x1]
 have ty:List.take ((As y).length*1) (Af Sy)=Af (As y):=by rw[←y2,Oa y1]
 have t1:List.take ((As (val a*x)).length*1) (Af P1)=Af (As (val a*x)):=by rw[←p2,Oa p1]
 have t2:List.take ((As (val b*y)).length*1) (Af P2)=Af (As (val b*y)):=by rw[←M,Oa Y]
 rw[x3,tx,L,y3,ty,T,t1,t2,U]
end
end Gx

namespace Gx
open Go Go.Proofs
section
variable {R:Type}
theorem Bfl {N:Nat} (hN:4≤N):∀ (k fuel x y:Nat),k<fuel→x*y<2 ^ k→y≤x→x<18446744073709551616→∃ S,Am S∧val S=Nat.gcd x y∧∀ (D:LA→Nat→Bool→LA→Nat→Bool→O R) (K:Nat→LA→O R),Uy N D K fuel (x:Int) (y:Int)=K (As (Nat.gcd x y)).length (Af S):=by
 have base:∀ (fuel x:Nat),x<18446744073709551616→∃ S,Am S∧val S=Nat.gcd x 0∧∀ (D:LA→Nat→Bool→LA→Nat→Bool→O R) (K:Nat→LA→O R),Uy N D K (fuel+1) (x:Int) ((0:Nat):Int)=K (As (Nat.gcd x 0)).length (Af S):=by
  intro fuel x G
  obtain⟨S,s1,s2,L⟩:=Ml (R:=R) (N:=N) G hN
  refine⟨S,s1,by rw[s2,Nat.gcd_zero_right],fun D K=>?_⟩
  rw[Uy];unfold XU
  rw[show(((0:Nat):Int) != 0)=false by rfl,cf,L,Nat.gcd_zero_right]
 intro k
 induction k with
 | zero =>
  intro fuel x y M C I G
  obtain⟨fuel,rfl⟩:∃ F,fuel=F+1:=⟨fuel - 1,by omega⟩
  have T:y=0:=by
   rcases Nat.eq_zero_or_pos y with h | h
   ·exact h
   ·have Y:=Nat.mul_le_mul_left x (show 1≤y by omega)
    rw[Nat.pow_zero] at C;omega
  subst T
  exact base fuel x G
 | succ k U =>
  intro fuel x y M C I G
  obtain⟨fuel,rfl⟩:∃ F,fuel=F+1:=⟨fuel - 1,by omega⟩
  rcases Nat.eq_zero_or_pos y with h | h
  ·subst h;exact base fuel x G
  ·have hh:=iU (show 1≤y by omega) I
   have hm:=Nat.mod_lt x h
   obtain⟨S,s1,s2,L⟩:=U fuel y (x%y) (by omega) (by rw[Nat.pow_succ] at C;omega) (by omega) (by omega)
   have V:Nat.gcd y (x%y)=Nat.gcd x y:=by rw[Nat.gcd_comm,←Nat.gcd_rec,Nat.gcd_comm]
   rw[V] at s2 L
   refine⟨S,s1,s2,fun D K=>?_⟩
   rw[Uy];unfold XU
   rw[show((y:Int) != 0)=true by rw[bne_iff_ne];omega,ct,Ate (by omega),cf,iR]
   exact L D K
theorem Axb {a b u v s t x y:Nat} (C:x+v*b=u*a) (D:y+s*a=t*b) (k:u*t=v*s+1):t*x+v*y=a∧s*x+u*y=b:=by
 constructor
 ·have F:t*x+t*v*b=t*u*a:=by rw[Nat.mul_assoc,Nat.mul_assoc,←Nat.mul_add,C]
  have G:v*y+v*s*a=v*t*b:=by rw[Nat.mul_assoc,Nat.mul_assoc,←Nat.mul_add,D]
  have I:t*u*a=v*s*a+a:=by rw[Nat.mul_comm t u,k,Nat.add_mul,Nat.one_mul]
  have L:t*v*b=v*t*b:=by rw[Nat.mul_comm t v]
  omega
 ·have F:s*x+s*v*b=s*u*a:=by rw[Nat.mul_assoc,Nat.mul_assoc,←Nat.mul_add,C]
  have G:u*y+u*s*a=u*t*b:=by rw[Nat.mul_assoc,Nat.mul_assoc,←Nat.mul_add,D]
  have I:u*t*b=v*s*b+b:=by rw[k,Nat.add_mul,Nat.one_mul]
  have L:s*u*a=u*s*a:=by rw[Nat.mul_comm s u]
  have M:s*v*b=v*s*b:=by rw[Nat.mul_comm s v]
  omega
theorem Axc {A B a b p q r s:Nat} (hA:p*a+q*b=A) (hB:r*a+s*b=B) (k:1≤p) (hq:1≤q) (hr:1≤r) (C:b≤a):2*(a*b)≤A*B∧a≤A:=by
 have G:=Nat.mul_le_mul_right a k
 have I:=Nat.mul_le_mul_right b hq
 have L:=Nat.mul_le_mul_right a hr
 have D:2*b≤A:=by omega
 have F:a≤B:=by omega
 have:=Nat.mul_le_mul D F
 refine⟨?_,by omega⟩
 rw[Nat.mul_comm a b,←Nat.mul_assoc];exact this
theorem Bls {u0 u1 v0 v1:Nat} {e:Bool}:setCells [(.int .u64 0),(.int .u64 0),(.int .u64 0),(.int .u64 0),(.bool false)] 0 (Bcl u0 u1 v0 v1 e)=Bcl u0 u1 v0 v1 e:=rfl
theorem A5n {N:Nat}:∀ (k fuel A B:Nat) (d f:Bool),k<fuel→A*B<2 ^ k→B≤A→fit (2*(As A).length+4) N→∃ S,Am S∧val S=Nat.gcd A B∧∀ K:Nat→LA→O R,F1 N K fuel (Af (As A)) (As A).length d (Af (As B)) (As B).length f=K (As (Nat.gcd A B)).length (Af S):=by
 have base:∀ (fuel A:Nat) (d f:Bool),fit (2*(As A).length+4) N→∃ S,Am S∧val S=Nat.gcd A 0∧∀ K:Nat→LA→O R,F1 N K (fuel+1) (Af (As A)) (As A).length d (Af (As 0)) (As 0).length f=K (As (Nat.gcd A 0)).length (Af S):=by
  intro fuel A d f D
  refine⟨As A,Ad _,by rw[Al,Nat.gcd_zero_right],fun K=>?_⟩
  rw[F1];unfold IW
  rw[Ey,show decide ((((([]:List Nat).length:Nat)):Int)>0)=false by decide,cf,lE rfl (Ad _) (D.le (by omega)),Al,Nat.gcd_zero_right]
 intro k
 induction k with
 | zero =>
  intro fuel A B d f hfu L I D
  obtain⟨fuel,rfl⟩:∃ F,fuel=F+1:=⟨fuel - 1,by omega⟩
  have hy:B=0:=by
   rcases Nat.eq_zero_or_pos B with h | h
   ·exact h
   ·have h3:=Nat.mul_le_mul_left A (show 1≤B by omega)
    rw[Nat.pow_zero] at L;omega
  subst hy
  exact base fuel A d f D
 | succ k ih =>
  intro fuel A B d f hfu L I D
  have h1:=D.1;have h2:=D.2
  obtain⟨fuel,rfl⟩:∃ F,fuel=F+1:=⟨fuel - 1,by omega⟩
  rcases Nat.eq_zero_or_pos B with h | h
  ·subst h;exact base fuel A d f D
  have hll:=Cj I
  have hbl:(As B).length≠0:=fun h0=>by have:=B5.1 h0;omega
  have Y:decide ((((As B).length:Nat):Int)>0)=true:=by rw[decide_eq_true_eq];omega
  by_cases ha2:(As A).length≤2
  ·have av:=uW ha2
   obtain⟨S,s1,s2,T⟩:=Bfl (R:=R) (N:=N) (by omega) 128 N A B (by omega) (by have:=Nat.mul_lt_mul'' av (Nat.lt_of_le_of_lt I av);exact this) I av
   refine⟨S,s1,s2,fun K=>?_⟩
   rw[F1];unfold IW
   rw[Y,ct,show decide ((((As A).length:Nat):Int)≤2)=true by rw[decide_eq_true_eq];omega,ct,TR rfl (Ad _) ha2 (by omega),TR rfl (Ad _) (by omega) (by omega),Al,Al]
   exact T _ K
  ·have hd2:decide ((((As A).length:Nat):Int)≤2)=false:=by rw[decide_eq_false_iff_not];omega
   obtain⟨a1,a2,C,G,e,r1,r2,r3,r4,r5,r6⟩:=A0s (R:=R) (N:=N) (a:=As A) (b:=As B) (t:=false) (o:=d) (t':=false) (o':=f) rfl rfl (Ad _) (Ad _) (by omega) (Ai7 _ _) hll (by rw[Al,Al];exact I) (D.le (by omega))
   rw[Al,Al] at r1
   have start:∀ K:Nat→LA→O R,F1 N K (fuel+1) (Af (As A)) (As A).length d (Af (As B)) (As B).length f=cond ((C:Int)==0) (F0 N (Af (As A)) (As A).length false d (Af (As B)) (As B).length false f (fun bm ag bn bo ar=>(F1 N K fuel (Af (As B)) (As B).length f (List.take (ag*1) ar) ag false))) (cond e (G3 N (Af (As A)) (As A).length false d (a1:Int) (Af (As B)) (As B).length false f (C:Int) (fun ah ax=>G3 N (Af (As B)) (As B).length false f (G:Int) (Af (As A)) (As A).length false d (a2:Int) (fun ai ba=>(F1 N K fuel (List.take (ah*1) ax) ah false (List.take (ai*1) ba) ai false)))) (G3 N (Af (As B)) (As B).length false f (C:Int) (Af (As A)) (As A).length false d (a1:Int) (fun aj bd=>G3 N (Af (As A)) (As A).length false d (a2:Int) (Af (As B)) (As B).length false f (G:Int) (fun ak bg=>(F1 N K fuel (List.take (aj*1) bd) aj false (List.take (ak*1) bg) ak false))))):=by
    intro K
    rw[F1];unfold IW
    rw[Y,ct,hd2,cf,r6,Bls]
    rfl
   by_cases U:C=0
   ·obtain⟨Sq,Sr,q1,q2,q3,q4,q5⟩:=iT (R:=R) (N:=N) (a:=As A) (b:=As B) (t:=false) (o:=d) (t':=false) (o':=f) rfl rfl (Ad _) (Ad _) (by rw[Al];omega) (D.le (by omega))
    rw[Al,Al] at q2 q4 q5
    have hm:=Nat.mod_lt A h
    have hh:=iU (show 1≤B by omega) I
    obtain⟨S,s1,s2,T⟩:=ih fuel B (A%B) f false (by omega) (by rw[Nat.pow_succ] at L;omega) (by omega) (D.le (by omega))
    have V:Nat.gcd B (A%B)=Nat.gcd A B:=by rw[Nat.gcd_comm,←Nat.gcd_rec,Nat.gcd_comm]
    rw[V] at s2 T
    refine⟨S,s1,s2,fun K=>?_⟩
    have tk:List.take ((As (A%B)).length*1) (Af Sr)=Af (As (A%B)):=by rw[←q4,Oa q3]
    rw[start,Bn6 U,ct,q5,tk,T]
   ·rcases r1 with r1 | ⟨p1,p2,r1⟩
    ·exact absurd r1 U
    cases e with
    | true =>
     obtain⟨c1,c2,c3,c4⟩:=r1
     obtain⟨S1,t1,t2,t3⟩:=FM (R:=R) (N:=N) (a:=As A) (b:=As B) (x:=a1) (y:=C) (t:=false) (o:=d) (t':=false) (o':=f) rfl rfl (Ad _) (Ad _) r2 r4 (by rw[Al,Al,Nat.mul_comm,Nat.mul_comm A];exact c1) (D.le (by omega))
     obtain⟨S2,w1,w2,w3⟩:=FM (R:=R) (N:=N) (a:=As B) (b:=As A) (x:=G) (y:=a2) (t:=false) (o:=f) (t':=false) (o':=d) rfl rfl (Ad _) (Ad _) r5 r3 (by rw[Al,Al,Nat.mul_comm,Nat.mul_comm B];exact c2) (D.le (by omega))
     rw[Al,Al] at t2 t3 w2 w3
     have g1:(A*a1 - B*C)+C*B=a1*A:=by rw[Nat.mul_comm A,Nat.mul_comm B];omega
     have g2:(B*G - A*a2)+a2*A=G*B:=by rw[Nat.mul_comm A,Nat.mul_comm B];omega
     have M:B*G - A*a2≤A*a1 - B*C:=by rw[Nat.add_mul,Nat.add_mul] at c3;omega
     obtain⟨i1,i2⟩:=Axb g1 g2 c4
     have V:=A4b g1 g2 c4
     obtain⟨i3,i4⟩:=Axc i1 i2 p2 (by omega) p1 M
     have hl:=Cj i4
     obtain⟨S,s1,s2,T⟩:=ih fuel (A*a1 - B*C) (B*G - A*a2) false false (by omega) (by rw[Nat.pow_succ] at L;omega) M (D.le (by omega))
     rw[V] at s2 T
     refine⟨S,s1,s2,fun K=>?_⟩
     have tk1:List.take ((As (A*a1 - B*C)).length*1) (Af S1)=Af (As (A*a1 - B*C)):=by rw[←t2,Oa t1]
     have Atf:List.take ((As (B*G - A*a2)).length*1) (Af S2)=Af (As (B*G - A*a2)):=by rw[←w2,Oa w1]
     rw[start,Ate U,cf,ct,t3,w3,tk1,Atf,T]
    | false =>
     obtain⟨c1,c2,c3,c4⟩:=r1
     obtain⟨S1,t1,t2,t3⟩:=FM (R:=R) (N:=N) (a:=As B) (b:=As A) (x:=C) (y:=a1) (t:=false) (o:=f) (t':=false) (o':=d) rfl rfl (Ad _) (Ad _) r4 r2 (by rw[Al,Al,Nat.mul_comm,Nat.mul_comm B];exact c1) (D.le (by omega))
     obtain⟨S2,w1,w2,w3⟩:=FM (R:=R) (N:=N) (a:=As A) (b:=As B) (x:=a2) (y:=G) (t:=false) (o:=d) (t':=false) (o':=f) rfl rfl (Ad _) (Ad _) r3 r5 (by rw[Al,Al,Nat.mul_comm,Nat.mul_comm A];exact c2) (D.le (by omega))
     rw[Al,Al] at t2 t3 w2 w3
     have g1:(B*C - A*a1)+a1*A=C*B:=by rw[Nat.mul_comm A,Nat.mul_comm B];omega
     have g2:(A*a2 - B*G)+G*B=a2*A:=by rw[Nat.mul_comm A,Nat.mul_comm B];omega
     have M:A*a2 - B*G≤B*C - A*a1:=by rw[Nat.add_mul,Nat.add_mul] at c3;omega
     obtain⟨i1,i2⟩:=Axb g2 g1 c4
     have V:=A4b g2 g1 c4
     rw[Nat.gcd_comm] at V
     rw[Nat.add_comm] at i1 i2
     obtain⟨i3,i4⟩:=Axc i1 i2 p2 (by omega) p1 M
     have hl:=Cj i4
     obtain⟨S,s1,s2,T⟩:=ih fuel (B*C - A*a1) (A*a2 - B*G) false false (by omega) (by rw[Nat.pow_succ] at L;omega) M (D.le (by omega))
     rw[V] at s2 T
     refine⟨S,s1,s2,fun K=>?_⟩
     have tk1:List.take ((As (B*C - A*a1)).length*1) (Af S1)=Af (As (B*C - A*a1)):=by rw[←t2,Oa t1]
     have Atf:List.take ((As (A*a2 - B*G)).length*1) (Af S2)=Af (As (A*a2 - B*G)):=by rw[←w2,Oa w1]
     rw[start,Ate U,cf,cf,t3,w3,tk1,Atf,T]
theorem A5o (n m:Nat):4294967296 ^ n*4294967296 ^ m=2 ^ (32*(n+m)):=by
 rw[←Nat.pow_add,show(4294967296:Nat)=2 ^ 32 by rfl,←Nat.pow_mul]
theorem Bht {N:Nat} {a b:List Nat} {n m:Nat} {t o t' o':Bool} (hn:n=a.length) (L:m=b.length) (F:Am a) (G:Am b) (C:fit (2*(a.length+b.length)+4) N) :
  ∃ S,Am S∧val S=Nat.gcd (val a) (val b)∧∀ K:Nat→LA→O R,gY N (Af a) n t o (Af b) m t' o' K=K (As (Nat.gcd (val a) (val b))).length (Af S):=by
 have M:=C.1;have T:=C.2
 have la:=(B0 F).2
 have lb:=(B0 G).2
 have k:val a*val b<2 ^ (32*(a.length+b.length)):=by rw[←A5o];exact Nat.mul_lt_mul'' (Bq F) (Bq G)
 have start:∀ K:Nat→LA→O R,gY N (Af a) n t o (Af b) m t' o' K=cond (decide (Iy (val a) (val b)<0)) (F1 N K N (Af (As (val b))) (As (val b)).length o' (Af (As (val a))) (As (val a)).length o) (F1 N K N (Af (As (val a))) (As (val a)).length o (Af (As (val b))) (As (val b)).length o'):=by
  intro K
  rw[Alp];unfold Ahr kq qn
  dsimp only
  rw[Cm hn F (C.le (by omega)),Cm L G (C.le (by omega)),U9 rfl rfl (Ad _) (Ad _) (C.le (by omega)),Al,Al]
 by_cases D:val a<val b
 ·obtain⟨S,s1,s2,I⟩:=A5n (R:=R) (N:=N) (32*(a.length+b.length)) N (val b) (val a) o' o (by omega) (by rw[Nat.mul_comm];exact k) (by omega) (C.le (by omega))
  rw[Nat.gcd_comm] at s2
  refine⟨S,s1,s2,fun K=>?_⟩
  rw[start,show decide (Iy (val a) (val b)<0)=true by (unfold Iy;rw[if_pos D];rfl),ct,I,Nat.gcd_comm]
 ·obtain⟨S,s1,s2,I⟩:=A5n (R:=R) (N:=N) (32*(a.length+b.length)) N (val a) (val b) o o' (by omega) k (by omega) (C.le (by omega))
  refine⟨S,s1,s2,fun K=>?_⟩
  rw[start,show decide (Iy (val a) (val b)<0)=false by (unfold Iy;rw[if_neg D];split<;>rfl),cf,I]
end
end Gx

namespace Gx
open Go Go.Proofs
section
variable {R:Type}
theorem Bm1 {c:Nat} (h:c≤1000000000000):((Nat.ble (0+c) 140737488355328)&&(Nat.ble ((0+c)*4) 140737488355328))=true:=by simp;omega
theorem rD {N:Nat} {l:List Nat} {t o:Bool} {K:Nat→LA→O R} (C:Am l) (hs:l.length≤1000000000000):∀ (c fuel:Nat),c≤l.length→c<fuel →
  Pe N K (Af l) l.length t o fuel (c:Int)=K (As (val (l.take c))).length (Af (As (val (l.take c))))
 | 0,fuel+1,D,_=>by
  rw[Pe];unfold EW
  rw[show decide (((0:Nat):Int)>0)=false by simp]
  rw[show((false:Bool)==true)=false by rfl,cf,Bks (by omega),ct,Int.toNat_natCast,Nat.mul_one,X3,L_,Bool.or_true,ct,Bm1 (by omega),ct];rfl
 | c+1,fuel+1,D,F=>by
  rw[Pe];unfold EW
  rw[A9h,ct,wP (by omega),Aa (by omega),ct,eQ (by omega),A25,Bks (by omega),ct,rD C hs c fuel (by omega) (by omega),Int.toNat_natCast,Nat.mul_one,X3,L_,Bool.or_true,ct,Bm1 (by omega),ct,Nat.zero_add]
  by_cases k:l[c]=0
  ·rw[A5 (by omega),k];simp
  ·rw[Azy C (by omega) k,List.length_take,Nat.min_eq_left D]
   rw[Ate k,cf]
theorem Eg {N:Nat} {l:List Nat} {n:Nat} {t o:Bool} {K:Nat→LA→O R} (hn:n=l.length) (C:Am l) (k:fit l.length N):Ep N (Af l) n t o K=K (As (val l)).length (Af (As (val l))):=by
 subst hn
 have D:=k.1;have F:=k.2
 rw[WX];unfold RY
 dsimp only
 rw[rD C (by omega) l.length N (Nat.le_refl _) (by omega),List.take_length]
theorem A5p {N:Nat} {a b:List Nat} {t o t' o':Bool} {K:Bool→O R} (hs:a.length≤1000000000000) (F:a.length=b.length):∀ (m j fuel:Nat),j+m=a.length→m<fuel →
  Mb N K (Af a) a.length t o (Af b) b.length t' o' fuel (j:Int)=K (decide (a.drop j=b.drop j))
 | 0,j,fuel+1,G,_=>by
  rw[Mb];unfold Y6
  rw[Kn (by omega),cf,List.drop_eq_nil_of_le (by omega),List.drop_eq_nil_of_le (by omega)];simp
 | m+1,j,fuel+1,G,I=>by
  have C:j<a.length:=by omega
  have D:j<b.length:=by omega
  rw[Mb];unfold Y6
  rw[Iz C,ct,Aa C,ct,eQ C,Aa D,ct,eQ D,wS (by omega),A5p hs F m (j+1) fuel (by omega) (by omega),List.drop_eq_getElem_cons C,List.drop_eq_getElem_cons D]
  by_cases h:a[j]=b[j]
  ·rw[show((((a[j]:Nat):Int) != ((b[j]:Nat):Int)))=false by simp[h],cf];congr 1;rw[decide_eq_decide,List.cons.injEq];exact⟨fun k=>⟨h,k⟩,fun k=>k.2⟩
  ·rw[show((((a[j]:Nat):Int) != ((b[j]:Nat):Int)))=true by rw[bne_iff_ne];omega,ct];congr 1;symm;rw[decide_eq_false_iff_not,List.cons.injEq];exact fun k=>h k.1
theorem Bhu {N:Nat} {a b:List Nat} {n m:Nat} {t o t' o':Bool} {K:Bool→O R} (hn:n=a.length) (D:m=b.length) (C:fit a.length N):GF N (Af a) n t o (Af b) m t' o' K=K (decide (a=b)):=by
 subst hn D
 have F:=C.1;have G:=C.2
 rw[mN];unfold WZ
 by_cases k:a.length=b.length
 ·rw[show(((a.length:Nat):Int) != ((b.length:Nat):Int))=false by simp[k],cf]
  have:=A5p (R:=R) (N:=N) (t:=t) (o:=o) (t':=t') (o':=o') (K:=K) (by omega) k a.length 0 N (by omega) (by omega)
  simpa using this
 ·rw[show(((a.length:Nat):Int) != ((b.length:Nat):Int))=true by rw[bne_iff_ne];omega,ct]
  congr 1;symm;rw[decide_eq_false_iff_not];intro h;exact k (by rw[h])
theorem OD {N:Nat} {v:Nat} {K:Nat→LA→O R} (D:v<18446744073709551616) (hN:4≤N):Gh N (v:Int) K=K (As v).length (Af (As v)):=by
 have C:Am [v%4294967296,v/4294967296]:=Ee.2 ⟨by omega,Ee.2 ⟨by omega,X2⟩⟩
 have k:val [v%4294967296,v/4294967296]=v:=by simp[val];omega
 rw[HH];unfold CG
 rw[qB,xV,Bcd (show v/4294967296<4294967296 by omega)]
 have:=rD (R:=R) (N:=N) (l:=[v%4294967296,v/4294967296]) (t:=false) (o:=true) (K:=K) C (by simp) 2 N (by simp) (by omega)
 rw[show [v%4294967296,v/4294967296].take 2=[v%4294967296,v/4294967296] by rfl,k] at this
 rw[WX];unfold RY
 exact this
theorem YV {N:Nat} {l:List Nat} {n:Nat} {t o:Bool} {K:Int→Bool→O R} (hn:n=l.length) (L:Am l) (G:fit l.length N):T2 N (Af l) n t o K=if val l<18446744073709551616 then K (val l:Int) true else K 0 false:=by
 have U:=G.1
 rw[fX];unfold MF
 rw[Eg hn L G]
 by_cases h:val l<18446744073709551616
 ·have S:=FL h
  rw[if_pos h,show decide ((((As (val l)).length:Nat):Int)>2)=false by simp;omega,cf]
  have k:=Al (val l)
  have D:=Ad (val l)
  obtain⟨M,hM⟩:∃ M,N=M+4:=⟨N - 4,by omega⟩
  rw[hM]
  generalize As (val l)=d at *
  match d,S,k,D with
  | [],_,k,_ =>
   dsimp only
   rw[E3];unfold Gi
   rw[←k,i64 (by simp)];rfl
  | [x],_,k,D =>
   have F:=(Ee.1 D).1
   have C:val l=x:=by rw[←k];simp[val]
   dsimp only
   rw[E3];unfold Gi
   rw[i64 (by simp),show((([x]:List Nat).length:Nat):Int) - 1=((0:Nat):Int) by rfl,show decide (((0:Nat):Int)≥0)=true by rfl,ct,Aa (by simp),ct,tD (by simp)]
   rw[E3];unfold Gi
   rw[i64 (by simp),show decide ((((0:Nat):Int) - 1)≥0)=false by rfl,cf]
   have:=Blo (a:=0) (b:=x) (by omega) F
   simp only[List.getElem_cons_zero]
   rw[J5 (show x<18446744073709551616 by omega),show(0:Int)=((0:Nat):Int) by rfl,this,C];simp
  | [x,y],_,k,D =>
   have F:=(Ee.1 D).1
   have I:=(Ee.1 (Ee.1 D).2).1
   have C:val l=y*4294967296+x:=by rw[←k];simp[val];omega
   dsimp only
   rw[E3];unfold Gi
   rw[i64 (by simp),show((([x,y]:List Nat).length:Nat):Int) - 1=((1:Nat):Int) by rfl,show decide (((1:Nat):Int)≥0)=true by rfl,ct,Aa (by simp),ct,tD (by simp)]
   rw[E3];unfold Gi
   rw[i64 (by simp),show(((1:Nat):Int) - 1)=((0:Nat):Int) by rfl,show decide (((0:Nat):Int)≥0)=true by rfl,ct,Aa (by simp),ct,tD (by simp)]
   rw[E3];unfold Gi
   rw[i64 (by simp),show decide ((((0:Nat):Int) - 1)≥0)=false by rfl,cf]
   have o1:=Blo (a:=0) (b:=y) (by omega) I
   have o2:=Blo (a:=y) (b:=x) I F
   simp only[List.getElem_cons_zero,List.getElem_cons_succ]
   rw[J5 (show y<18446744073709551616 by omega),J5 (show x<18446744073709551616 by omega),show(0:Int)=((0:Nat):Int) by rfl,o1,Nat.zero_mul,Nat.zero_add,o2,C]
 ·have:¬ (As (val l)).length≤2:=fun T=>h (uW T)
  rw[if_neg h,show decide ((((As (val l)).length:Nat):Int)>2)=true by simp;omega,ct]
theorem Axd {N:Nat} {x y:List Nat} {K:Int→O R} (D:Am x) (F:Am y) (hs:x.length≤1000000000000) (I:x.length=y.length):∀ (i fuel:Nat),i≤x.length→i<fuel →
  Ib N K x.length y.length (Af x) (Af y) fuel ((i:Int) - 1)=K (Iy (val (x.take i)) (val (y.take i)))
 | 0,fuel+1,_,_=>by
  rw[Ib];unfold Th
  rw[show decide ((((0:Nat):Int) - 1)≥0)=false by simp,cf]
  simp[GO]
 | i+1,fuel+1,hi,L=>by
  rw[Ib];unfold Th
  rw[show(((i+1:Nat):Int) - 1)=(i:Int) by omega,show decide ((i:Int)≥0)=true by simp,ct,Aa (by omega),ct,tD (by omega),Aa (by omega),ct,tD (by omega),ct,tD (by omega),ct,tD (by omega),i64 (by omega),
   Axd D F hs I i fuel (by omega) (by omega),A5 (by omega),A5 (by omega)]
  have k:=Bq (C0 D i)
  have C:=Bq (C0 F i)
  rw[List.length_take,Nat.min_eq_left (by omega)] at k C
  by_cases c1:x[i]<y[i]
  ·have:=Aht k C c1
   rw[show decide (((x[i]:Nat):Int)<((y[i]:Nat):Int))=true by simp;exact c1,ct]
   unfold Iy;rw[if_pos this]
  ·by_cases G:y[i]<x[i]
   ·have:=Aht C k G
    rw[show decide (((x[i]:Nat):Int)<((y[i]:Nat):Int))=false by simp;omega,cf,show decide (((x[i]:Nat):Int)>((y[i]:Nat):Int))=true by simp;exact G,ct]
    unfold Iy;rw[if_neg (by omega),if_pos this]
   ·have:x[i]=y[i]:=by omega
    rw[show decide (((x[i]:Nat):Int)<((y[i]:Nat):Int))=false by simp;omega,cf,show decide (((x[i]:Nat):Int)>((y[i]:Nat):Int))=false by simp;omega,cf,this]
    unfold Iy
    congr 1
    by_cases a1:val (x.take i)<val (y.take i)
    ·rw[if_pos a1,if_pos (by omega)]
    ·by_cases a2:val (y.take i)<val (x.take i)
     ·rw[if_neg a1,if_pos a2,if_neg (by omega),if_pos (by omega)]
     ·rw[if_neg a1,if_neg a2,if_neg (by omega),if_neg (by omega)]
theorem Bfm {N:Nat} {a b:List Nat} {n m:Nat} {t o t' o':Bool} {K:Int→O R} (hn:n=a.length) (I:m=b.length) (C:Am a) (D:Am b) (k:fit (a.length+b.length) N) :
  Up N (Af a) n t o (Af b) m t' o' K=K (Iy (val a) (val b)):=by
 subst hn I
 have L:=k.1;have M:=k.2
 rw[a6];unfold EX
 dsimp only
 rw[Eg rfl C (k.le (by omega)),Eg rfl D (k.le (by omega))]
 have la:=(B0 C).2
 have lb:=(B0 D).2
 by_cases F:(As (val a)).length=(As (val b)).length
 ·rw[show((((As (val a)).length:Nat):Int) != (((As (val b)).length:Nat):Int))=false by simp;omega,cf,i64 (by omega),Axd (Ad _) (Ad _) (by omega) F _ N (Nat.le_refl _) (by omega),List.take_length,F,List.take_length,Al,Al]
 ·rw[show((((As (val a)).length:Nat):Int) != (((As (val b)).length:Nat):Int))=true by simp;omega,ct]
  by_cases G:(As (val a)).length<(As (val b)).length
  ·have:=YS G
   rw[Iz G,ct]
   unfold Iy;rw[if_pos this]
  ·have:=YS (show(As (val b)).length<(As (val a)).length by omega)
   rw[Kn (by omega),cf]
   unfold Iy;rw[if_neg (by omega),if_pos this]
end
end Gx

namespace Gx
open Go Go.Proofs
section
variable {R:Type}
theorem Bm2 (a b:Nat):Ix (a:Int) (b:Int)=((max a b:Nat):Int):=by
 unfold Ix
 by_cases h:(b:Int)>(a:Int)
 ·rw[decide_eq_true h];show(b:Int)=_;omega
 ·rw[decide_eq_false h];show(a:Int)=_;omega
theorem Axe {N:Nat} {a b:List Nat} {t o t' o':Bool} {n:Nat} (I:Am a) (L:Am b) (M:a.length<n) (T:b.length<n) (hn:n≤max a.length b.length+1) (F:fit n N):∀ (m d fuel:Nat) (S:List Nat) (c:Nat),d+m=n→m<fuel→Am S→S.length=n→Bfi S d→c≤1 →
  val S+4294967296 ^ d*c=val (a.take d)+val (b.take d) →
  ∀ K:Nat→LA→O R,J7 N K (Af a) a.length t o (Af b) b.length t' o' fuel n (c:Int) (d:Int) (Af S)=K (As (val a+val b)).length (Af (As (val a+val b)))
 | 0,d,fuel+1,S,c,hd,_,hS,G,U,hc,V=>by
  intro K
  have Y:d=n:=by omega
  subst Y
  rw[List.take_of_length_le (by omega),List.take_of_length_le (by omega)] at V
  have hc0:c=0:=by
   rcases Nat.eq_zero_or_pos c with h | h
   ·exact h
   ·exfalso
    have hc1:c=1:=by omega
    subst hc1
    obtain⟨e,rfl⟩:∃ e,d=e+1:=⟨d - 1,by omega⟩
    have x1:=Bq I
    have x2:=Bq L
    have y1:4294967296 ^ a.length≤4294967296 ^ e:=Nat.pow_le_pow_right (by omega) (by omega)
    have y2:4294967296 ^ b.length≤4294967296 ^ e:=Nat.pow_le_pow_right (by omega) (by omega)
    rw[Nat.pow_succ] at V
    omega
  subst hc0
  have hv2:val S=val a+val b:=by omega
  rw[J7];unfold MG
  rw[Kn (Nat.le_refl _),cf,Nat.mul_one,List.take_of_length_le (by rw[Cg];omega),Eg G.symm hS (by rw[G];exact F),hv2]
 | m+1,d,fuel+1,S,c,hd,hfu,hS,G,U,hc,V=>by
  intro K
  have h1:=F.1;have h2:=F.2
  have ga:=GP I d
  have gb:=GP L d
  have step:∀ s:Nat,s=c+a.getD d 0+b.getD d 0→val (S.set d (s%4294967296))+4294967296 ^ (d+1)*(s/4294967296)=val (a.take (d+1))+val (b.take (d+1)):=by
   intro s hs
   rw[Zg U (by omega),Va a d,Va b d,Nat.pow_succ]
   have e:=Pr (4294967296 ^ d) s
   have e2:4294967296 ^ d*s=4294967296 ^ d*c+4294967296 ^ d*a.getD d 0+4294967296 ^ d*b.getD d 0:=by rw[hs,Nat.mul_add,Nat.mul_add]
   omega
  have next:∀ s:Nat,s=c+a.getD d 0+b.getD d 0→J7 N K (Af a) a.length t o (Af b) b.length t' o' fuel n ((s/4294967296:Nat):Int) ((d+1:Nat):Int) (Af (S.set d (s%4294967296)))=K (As (val a+val b)).length (Af (As (val a+val b))):=by
   intro s hs
   exact Axe I L M T hn F m (d+1) fuel (S.set d (s%4294967296)) (s/4294967296) (by omega) (by omega) (C9 hS (by omega) d) (by simpa using G) (OC U) (by omega) (step s hs) K
  have second:∀ w:Nat,w=c+a.getD d 0→HO N (J7 N K (Af a) a.length t o (Af b) b.length t' o' fuel) K (Af a) a.length t o (Af b) b.length t' o' n (Af S) (w:Int) (d:Int)=K (As (val a+val b)).length (Af (As (val a+val b))):=by
   intro w hw
   unfold HO
   by_cases k:d<b.length
   ·have D:b.getD d 0=b[d]:=by rw[List.getD_eq_getElem?_getD,List.getElem?_eq_getElem k];rfl
    rw[Iz k,ct,Aa k,ct,eQ k,Aa (by omega),ct,Ava (by omega),ct,J5 (show b[d]<18446744073709551616 by omega),RX,J5 (show w+b[d]<18446744073709551616 by omega),xV,qB,gJ,wS (by omega)]
    exact next _ (by rw[hw,D])
   ·have D:b.getD d 0=0:=by rw[List.getD_eq_getElem?_getD,List.getElem?_eq_none (by omega)];rfl
    rw[Kn (by omega),cf,Aa (by omega),ct,Ava (by omega),ct,xV,qB,gJ,wS (by omega)]
    exact next _ (by rw[hw,D];rfl)
  rw[J7];unfold MG
  rw[Iz (by omega),ct]
  by_cases C:d<a.length
  ·have D:a.getD d 0=a[d]:=by rw[List.getD_eq_getElem?_getD,List.getElem?_eq_getElem C];rfl
   rw[Iz C,ct,Aa C,ct,eQ C,J5 (show a[d]<18446744073709551616 by omega),RX,J5 (show c+a[d]<18446744073709551616 by omega)]
   exact second _ (by rw[D])
  ·have D:a.getD d 0=0:=by rw[List.getD_eq_getElem?_getD,List.getElem?_eq_none (by omega)];rfl
   rw[Kn (by omega),cf]
   exact second _ (by rw[D];rfl)
theorem yT {N:Nat} {a b:List Nat} {n m:Nat} {t o t' o':Bool} {K:Nat→LA→O R} (hn:n=a.length) (C:m=b.length) (D:Am a) (F:Am b) (k:fit (a.length+b.length+1) N) :
  MH N (Af a) n t o (Af b) m t' o' K=K (As (val a+val b)).length (Af (As (val a+val b))):=by
 subst hn C
 have G:=k.1;have I:=k.2
 rw[Aah];unfold sZ
 rw[Bm2,wS (by omega),Bgl (by omega),ct,Int.toNat_natCast,Dw]
 exact Axe D F (n:=max a.length b.length+1) (by omega) (by omega) (Nat.le_refl _) (k.le (by omega)) (max a.length b.length+1) 0 N (List.replicate (max a.length b.length+1) 0) 0 (by omega) (by omega) (C5 _) (by simp) (Oe _) (by omega) (by rw[E2];simp[val]) K
theorem Axf {N:Nat} {a b:List Nat} (ha:Am a) (hb:Am b) (M:fit a.length N) (I:b.length≤a.length) (T:val b≤val a):∀ (m d fuel:Nat) (S:List Nat) (c:Nat),d+m=a.length→m<fuel→Am S→S.length=a.length→Bfi S d→c≤1 →
  val S+val (b.take d)=val (a.take d)+4294967296 ^ d*c →
  ∀ K:Nat→Bool→LA→O R,J8 N K a.length b.length (Af a) (Af b) fuel (c:Int) (d:Int) (Af S)=K (As (val a - val b)).length true (Af (As (val a - val b)))
 | 0,d,fuel+1,S,c,hd,_,hS,L,U,hc,hv=>by
  intro K
  have V:d=a.length:=by omega
  subst V
  rw[List.take_length,List.take_of_length_le I] at hv
  have D:=Bq hS
  rw[L] at D
  have Y:c=0:=by
   rcases Nat.lt_or_ge 0 c with h | h
   ·exfalso
    have:c=1:=by omega
    subst this
    omega
   ·omega
  subst Y
  have hv2:val S=val a - val b:=by omega
  rw[J8];unfold MJ
  rw[Kn (Nat.le_refl _),cf,Nat.mul_one,List.take_of_length_le (by rw[Cg];omega),Eg L.symm hS (by rw[L];exact M),hv2]
 | m+1,d,fuel+1,S,c,hd,hfu,hS,L,U,hc,hv=>by
  intro K
  have h1:=M.1;have h2:=M.2
  have k:d<a.length:=by omega
  have ad:=Bd ha k
  have gb:=GP hb d
  have step:∀ y g c':Nat,y=c+b.getD d 0→a[d]+4294967296*c'=g+y→val (S.set d g)+val (b.take (d+1))=val (a.take (d+1))+4294967296 ^ (d+1)*c':=by
   intro y g c' G F
   rw[Zg U (by omega),A5 k,Va b d,Nat.pow_succ,Nat.mul_assoc]
   have e:4294967296 ^ d*(a[d]+4294967296*c')=4294967296 ^ d*(g+(c+b.getD d 0)):=by rw[F,G]
   rw[Nat.mul_add,Nat.mul_add,Nat.mul_add] at e
   omega
  have next:∀ y g c':Nat,g<4294967296→c'≤1→y=c+b.getD d 0→a[d]+4294967296*c'=g+y→J8 N K a.length b.length (Af a) (Af b) fuel (c':Int) ((d+1:Nat):Int) (Af (S.set d g))=K (As (val a - val b)).length true (Af (As (val a - val b))):=by
   intro y g c' F hc' G he
   exact Axf ha hb M I T m (d+1) fuel (S.set d g) c' (by omega) (by omega) (C9 hS F d) (by simpa using L) (OC U) hc' (step y g c' G he) K
  have second:∀ y:Nat,y=c+b.getD d 0→HP N (J8 N K a.length b.length (Af a) (Af b) fuel) K a.length b.length (Af a) (Af b) (Af S) (d:Int) (y:Int)=K (As (val a - val b)).length true (Af (As (val a - val b))):=by
   intro y G
   unfold HP
   rw[Aa k,ct,tD k,J5 (show a[d]<18446744073709551616 by omega)]
   by_cases D:a[d]<y
   ·rw[Iz D,ct,ct,Ava (by omega),ct,show((a[d]:Nat):Int)+4294967296=((a[d]+4294967296:Nat):Int) by omega,J5 (show a[d]+4294967296<18446744073709551616 by omega),xU (by omega) (by omega),Bcd (by omega),gJ,wS (by omega)]
    exact next y (a[d]+4294967296 - y) 1 (by omega) (by omega) G (by omega)
   ·rw[Kn (by omega),cf,ct,Ava (by omega),ct,xU (by omega) (by omega),Bcd (by omega),gJ,wS (by omega)]
    exact next y (a[d] - y) 0 (by omega) (by omega) G (by omega)
  rw[J8];unfold MJ
  rw[Iz k,ct]
  by_cases C:d<b.length
  ·have F:b.getD d 0=b[d]:=by rw[List.getD_eq_getElem?_getD,List.getElem?_eq_getElem C];rfl
   rw[Iz C,ct,Aa C,ct,tD C,J5 (show b[d]<18446744073709551616 by omega),RX,J5 (show c+b[d]<18446744073709551616 by omega)]
   exact second _ (by rw[F])
  ·have F:b.getD d 0=0:=by rw[List.getD_eq_getElem?_getD,List.getElem?_eq_none (by omega)];rfl
   rw[Kn (by omega),cf]
   exact second _ (by rw[F];rfl)
theorem yU {N:Nat} {a b:List Nat} {n m:Nat} {t o t' o':Bool} {K:Nat→Bool→LA→O R} (hn:n=a.length) (I:m=b.length) (D:Am a) (F:Am b) (C:fit (a.length+b.length) N) :
  MK N (Af a) n t o (Af b) m t' o' K=if val b≤val a then K (As (val a - val b)).length true (Af (As (val a - val b))) else K 0 false []:=by
 subst hn I
 have L:=C.1;have M:=C.2
 have la:=(B0 D).2
 have lb:=(B0 F).2
 rw[Aal];unfold s6
 dsimp only
 rw[Bfm rfl rfl D F C]
 by_cases k:val b≤val a
 ·have G:=Cj k
  rw[if_pos k,show decide (Iy (val a) (val b)<0)=false by (unfold Iy;rw[if_neg (by omega)];split<;>rfl),cf,Eg rfl D (C.le (by omega)),Eg rfl F (C.le (by omega)),Bgl (by omega),ct,Dw]
  have:=Axf (R:=R) (N:=N) (a:=As (val a)) (b:=As (val b)) (Ad _) (Ad _) (C.le (by omega)) G (by rw[Al,Al];exact k) (As (val a)).length 0 N (List.replicate (As (val a)).length 0) 0 (by omega) (by omega) (C5 _) (by simp) (Oe _) (by omega) (by rw[E2];simp[val]) K
  rw[Al,Al] at this
  exact this
 ·rw[if_neg k,show decide (Iy (val a) (val b)<0)=true by (unfold Iy;rw[if_pos (by omega)];rfl),ct]
theorem Bcm {N:Nat} {x y:List Nat} {c d c' d':Bool} {f:Nat} (V:Am x) (Y:Am y) (G:f<x.length) (hs:x.length+y.length≤1000000000000):∀ (m l fuel:Nat) (S:List Nat) (p:Nat) (v:Nat),l+m=y.length→m<fuel→Am S→S.length=x.length+y.length→Bfi S (f+y.length)→p<4294967296 →
  val S+4294967296 ^ (f+l)*p=v+4294967296 ^ f*(x[f]*val (y.take l)) →
  ∃ S',Am S'∧S'.length=x.length+y.length∧val S'=v+4294967296 ^ f*(x[f]*val y)∧∀ (D:Nat→Int→LA→O R) (K:Nat→LA→O R),T9 N D K (Af x) x.length c d (Af y) y.length c' d' (x.length+y.length) fuel (f:Int) (p:Int) (l:Int) (Af S)=D (x.length+y.length) ((f+1:Nat):Int) (Af S')
 | 0,l,fuel+1,S,p,v,hl,_,hS,k,L,I,M=>by
  have T:l=y.length:=by omega
  subst T
  rw[List.take_length] at M
  refine⟨S.set (f+y.length) p,C9 hS I _,by simpa using k,by rw[Zg L (by omega),M],fun D K=>?_⟩
  rw[T9];unfold NM
  rw[Kn (Nat.le_refl _),cf,wA (by omega),Aa (by omega),ct,Ava (by omega),ct,Bcd I,gJ,wS (by omega)]
 | m+1,l,fuel+1,S,p,v,hl,hfu,hS,k,L,I,M=>by
  have C:l<y.length:=by omega
  have yl:=Bd Y C
  have hq:=Bd V G
  have hi:f+l<S.length:=by omega
  have sl:=Bd hS hi
  have hw:=A5j I hq yl sl
  have U:x[f]*y[l]<18446744073709551616:=by omega
  generalize F:p+(x[f]*y[l]+S[f+l])=s at *
  have hset:=uV (v:=s%4294967296) hi
  have key:val (S.set (f+l) (s%4294967296))+4294967296 ^ (f+(l+1))*(s/4294967296)=v+4294967296 ^ f*(x[f]*val (y.take (l+1))):=by
   rw[A5 C,←Nat.add_assoc f l 1,Nat.pow_succ]
   have e:=Pr (4294967296 ^ (f+l)) s
   have e2:4294967296 ^ (f+l)*s=4294967296 ^ (f+l)*p+(4294967296 ^ (f+l)*(x[f]*y[l])+4294967296 ^ (f+l)*S[f+l]):=by rw[←F,Nat.mul_add,Nat.mul_add]
   have e3:4294967296 ^ f*(x[f]*(val (y.take l)+4294967296 ^ l*y[l]))=4294967296 ^ f*(x[f]*val (y.take l))+4294967296 ^ (f+l)*(x[f]*y[l]):=by
    rw[Nat.mul_add,Nat.mul_add,Nat.pow_add]
    congr 1
    rw[Nat.mul_assoc];congr 1
    rw[←Nat.mul_assoc,←Nat.mul_assoc,Nat.mul_comm x[f]]
   omega
  obtain⟨S',q1,q2,q3,q4⟩:=Bcm (N:=N) (c:=c) (d:=d) (c':=c') (d':=d') V Y G hs m (l+1) fuel (S.set (f+l) (s%4294967296)) (s/4294967296) v (by omega) (by omega) (C9 hS (by omega) _) (by simpa using k) (fun j hj hk=>by
   rw[List.getElem_set,if_neg (by omega)];exact L j (by simpa using hj) hk) (by omega) key
  refine⟨S',q1,q2,q3,fun D K=>?_⟩
  rw[T9];unfold NM
  rw[Iz C,ct,wA (by omega),Aa (by omega),ct,tD hi,Aa G,ct,eQ G,Aa C,ct,eQ C,ct,Ava hi,ct,J5 (show x[f]<18446744073709551616 by omega),J5 (show y[l]<18446744073709551616 by omega),J5 (show S[f+l]<18446744073709551616 by omega),Ai8,J5 U,RX,Nat.add_comm S[f+l],J5 (by omega),RX,F,J5 hw,xV,qB,gJ,wS (by omega)]
  exact q4 D K
theorem A5q {N:Nat} {x y:List Nat} {c d c' d':Bool} (L:Am x) (M:Am y) (k:fit (x.length+y.length) N):∀ (m f fuel:Nat) (S:List Nat),f+m=x.length→m<fuel→Am S→S.length=x.length+y.length →
  val S=val (x.take f)*val y →
  ∀ K:Nat→LA→O R,Mi N K (Af x) x.length c d (Af y) y.length c' d' fuel (x.length+y.length) (f:Int) (Af S)=K (As (val x*val y)).length (Af (As (val x*val y)))
 | 0,f,fuel+1,S,V,_,hS,C,I=>by
  intro K
  have T:f=x.length:=by omega
  subst T
  rw[List.take_length] at I
  rw[Mi];unfold NN
  rw[Kn (Nat.le_refl _),cf,Nat.mul_one,List.take_of_length_le (by rw[Cg];omega),Eg C.symm hS (by rw[C];exact k),I]
 | m+1,f,fuel+1,S,V,Y,hS,C,I=>by
  intro K
  have h1:=k.1;have h2:=k.2
  have F:f<x.length:=by omega
  have U:=Bq (C0 L f)
  rw[List.length_take,Nat.min_eq_left (by omega)] at U
  have b2:=Bq M
  have D:val S<4294967296 ^ (f+y.length):=by
   rw[I,Nat.pow_add];exact Nat.mul_lt_mul'' U b2
  have G:val (x.take (f+1))*val y=val S+4294967296 ^ f*(x[f]*val y):=by
   rw[A5 F,Nat.add_mul,I,Nat.mul_assoc]
  obtain⟨S1,p1,p2,p3,p4⟩:=Bcm (R:=R) (N:=N) (x:=x) (y:=y) (c:=c) (d:=d) (c':=c') (d':=d') (f:=f) L M F (by omega) y.length 0 N S 0 (val S) (by omega) (by omega) hS C (Bhk D) (by omega) (by simp[val])
  rw[Mi];unfold NN
  rw[Iz F,ct]
  have:=p4 (Mi N K (Af x) x.length c d (Af y) y.length c' d' fuel) K
  simp only[Int.natCast_zero] at this
  dsimp only
  rw[this]
  exact A5q L M k m (f+1) fuel S1 (by omega) (by omega) p1 p2 (by rw[p3,G]) K
theorem Bfn {N:Nat} {a b:List Nat} {n m:Nat} {t o t' o':Bool} {K:Nat→LA→O R} (hn:n=a.length) (C:m=b.length) (D:Am a) (F:Am b) (k:fit (a.length+b.length) N) :
  ky N (Af a) n t o (Af b) m t' o' K=K (As (val a*val b)).length (Af (As (val a*val b))):=by
 subst hn C
 have G:=k.1;have I:=k.2
 rw[Abx];unfold th
 rw[wA (by omega),Bgl (by omega),ct,Int.toNat_natCast,Dw]
 exact A5q D F k a.length 0 N (List.replicate (a.length+b.length) 0) (by omega) (by omega) (C5 _) (by simp) (by rw[E2];simp[val]) K
end
end Gx

namespace Gx
open Go Go.Proofs
section
variable {R:Type}
theorem Aoj {N:Nat}:∀ (k fuel n v:Nat),v<2 ^ k→k<fuel→n+k≤1000000000000→∃ b:Nat,b≤k∧v<2 ^ b∧(v≠0→2 ^ b≤2*v)∧(v=0→b=0)∧∀ K:Int→O R,Lx N K fuel (n:Int) (v:Int)=K ((n+b:Nat):Int)
 | 0,fuel+1,n,v,D,_,_=>by
  have C:v=0:=by simpa using D
  subst C
  refine⟨0,by omega,by simp,fun h=>absurd rfl h,fun _=>rfl,fun K=>?_⟩
  rw[Lx];unfold Vr
  rw[show decide (((0:Nat):Int)>0)=false by rfl,cf];rfl
 | k+1,fuel+1,n,v,D,L,hn=>by
  by_cases C:v=0
  ·subst C
   refine⟨0,by omega,by simp,fun h=>absurd rfl h,fun _=>rfl,fun K=>?_⟩
   rw[Lx];unfold Vr
   rw[show decide (((0:Nat):Int)>0)=false by rfl,cf];rfl
  ·obtain⟨b,M,S,b3,G,I⟩:=Aoj (N:=N) k fuel (n+1) (v/2) (by rw[Nat.pow_succ] at D;omega) (by omega) (by omega)
   refine⟨b+1,by omega,by rw[Nat.pow_succ];omega,fun _=>?_,fun h=>absurd h C,fun K=>?_⟩
   ·by_cases F:v/2=0
    ·rw[G F];simp;omega
    ·have:=b3 F;rw[Nat.pow_succ];omega
   ·rw[Lx];unfold Vr
    rw[show decide (((v:Nat):Int)>0)=true by rw[decide_eq_true_eq];omega,ct,wS (by omega),Vp v 1,show v/2 ^ 1=v/2 by rfl,I]
    congr 2;omega
theorem A99 {N:Nat} {a:List Nat} {n:Nat} {t o:Bool} (hn:n=a.length) (G:Am a) (F:fit a.length N):∃ nb:Nat,nb≤32*a.length∧val a<2 ^ nb∧(val a≠0→2 ^ nb≤2*val a)∧(val a=0→nb=0)∧∀ K:Int→O R,SA N (Af a) n t o K=K (nb:Int):=by
 have Y:=F.1;have h2:=F.2
 have la:=(B0 G).2
 by_cases D:val a=0
 ·refine⟨0,by omega,by rw[D];simp,fun h=>absurd D h,fun _=>rfl,fun K=>?_⟩
  rw[W_];unfold R_
  rw[Eg hn G F,D,Ey];rfl
 ·have M:(As (val a)).length≠0:=fun h=>D (B5.1 h)
  obtain⟨k,I⟩:∃ k,(As (val a)).length=k+1:=⟨(As (val a)).length - 1,by omega⟩
  have top:=Bd (Ad (val a)) (show k<(As (val a)).length by omega)
  have C:(As (val a))[k]'(by omega)≠0:=by
   have:=Ai7 (val a) (qA D)
   rw[List.getLast_eq_getElem] at this
   simp only[I,Nat.add_sub_cancel] at this
   exact this
  have tf:=TS I
  have tl:=YU (Ad (val a)) I
  rw[Al] at tf tl
  obtain⟨b,b1,S,b3,b4,T⟩:=Aoj (R:=R) (N:=N) 32 N (32*k) ((As (val a))[k]'(by omega)) (by exact top) (by omega) (by omega)
  have L:(2:Nat) ^ (32*k+b)=4294967296 ^ k*2 ^ b:=by rw[Nat.pow_add,Nat.pow_mul]
  refine⟨32*k+b,by omega,?_,fun _=>?_,fun h=>absurd h D,fun K=>?_⟩
  ·rw[L]
   have:((As (val a))[k]'(by omega)+1)*4294967296 ^ k≤2 ^ b*4294967296 ^ k:=Nat.mul_le_mul_right _ S
   rw[Nat.mul_comm (2 ^ b)] at this;omega
  ·rw[L]
   have:=Nat.mul_le_mul_left (4294967296 ^ k) (b3 C)
   rw[Nat.mul_left_comm] at this
   omega
  ·rw[W_];unfold R_
   have U:IntKind.wrap .i64 ((((As (val a)).length:Nat):Int) - 1)=((k:Nat):Int):=by rw[i64 (by omega)];omega
   have V:IntKind.wrap .i64 ((32:Int)*((k:Nat):Int))=((32*k:Nat):Int):=by rw[i64 (by omega)];omega
   rw[Eg hn G F,Ate M,cf,U,Aa (by omega),ct,tD (by omega),V]
   exact T K
theorem A5r {a:List Nat} {j:Nat} (h:j<a.length):val a=val (a.take j)+4294967296 ^ j*(a[j]+4294967296*val (a.drop (j+1))):=by
 have:=T1 (a.take j) (a.drop j)
 rw[List.take_append_drop,List.length_take,Nat.min_eq_left (by omega),iS h] at this
 exact this
theorem yV (j k:Nat):(2:Nat) ^ (32*j+k)=4294967296 ^ j*2 ^ k:=by rw[Nat.pow_add,Nat.pow_mul]
theorem Bjj {a:List Nat} {j k:Nat} (C:Am a) (h:j<a.length) (G:k<32):val a/2 ^ (32*j+k)%2=a[j]/2 ^ k%2:=by
 have tl:=Bq (C0 C j)
 rw[List.length_take,Nat.min_eq_left (by omega)] at tl
 have hP:0<4294967296 ^ j:=Nat.pow_pos (by omega)
 have D:0<2 ^ k:=Nat.pow_pos (by omega)
 rw[yV,←Nat.div_div_eq_div_mul,A5r h,Nat.add_mul_div_left _ _ hP,Nat.div_eq_of_lt tl,Nat.zero_add]
 have e:4294967296=2 ^ k*(2*2 ^ (31 - k)):=by rw[←Nat.pow_succ',←Nat.pow_add,show k+(31 - k+1)=32 by omega]
 have F:4294967296*val (a.drop (j+1))=2 ^ k*(2*(2 ^ (31 - k)*val (a.drop (j+1)))):=by
  rw[←Nat.mul_assoc 2,←Nat.mul_assoc,←e]
 rw[F,Nat.add_mul_div_left _ _ D,Nat.add_mul_mod_self_left]
theorem Bfo {N:Nat} {a:List Nat} {n:Nat} {t o:Bool} {i:Nat} {K:Int→O R} (hn:n=a.length) (F:Am a) (hi:i<32*a.length) (hs:a.length≤1000000000):s5 N (Af a) n t o (i:Int) K=K ((val a/2 ^ i%2:Nat):Int):=by
 subst hn
 have C:i/32<a.length:=by omega
 have aj:=Bd F C
 rw[Aaj];unfold Aji
 have G:IntKind.wrap .i64 (Int.tdiv ((i:Nat):Int) 32)=((i/32:Nat):Int):=by rw[show(32:Int)=((32:Nat):Int) by rfl,o0,i64 (by omega)]
 have I:IntKind.wrap .u64 (Int.tmod ((i:Nat):Int) 32)=((i%32:Nat):Int):=by rw[show(32:Int)=((32:Nat):Int) by rfl,iR,J5 (by omega)]
 rw[G,I,show decide (((i/32:Nat):Int)≥((a.length:Nat):Int))=false by rw[decide_eq_false_iff_not];omega,cf,Aa C,ct,eQ C,show decide (((i%32:Nat):Int)<0)=false by rw[decide_eq_false_iff_not];omega,cf,Int.toNat_natCast,Nat.min_eq_left (by omega),Vp]
 have D:a[i/32]/2 ^ (i%32)<4294967296:=Nat.lt_of_le_of_lt (Nat.div_le_self _ _) aj
 have e:=A8q (k:=.u32) rfl (a:=a[i/32]/2 ^ (i%32)) (b:=1) D (by decide)
 rw[show(1:Int)=((1:Nat):Int) by rfl,e,Nat.and_one_is_mod]
 have:=Bjj F C (k:=i%32) (by omega)
 rw[Nat.div_add_mod] at this
 rw[this]
theorem Bhv {Q:List Nat} {j k:Nat} (hQ:Am Q) (h:j<Q.length) (F:k<32) (C:2 ^ (32*j+k+1)∣val Q):2 ^ (k+1)∣Q[j]:=by
 have tl:=Bq (C0 hQ j)
 rw[List.length_take,Nat.min_eq_left (by omega)] at tl
 have hP:0<4294967296 ^ j:=Nat.pow_pos (by omega)
 rw[Nat.add_assoc,yV,A5r h] at C
 have D:val (Q.take j)=0:=by
  have x1:4294967296 ^ j∣val (Q.take j):=(Nat.dvd_add_left (Nat.dvd_mul_right _ _)).1 (Nat.dvd_trans (Nat.dvd_mul_right _ _) C)
  exact Nat.eq_zero_of_dvd_of_lt x1 tl
 rw[D,Nat.zero_add] at C
 have x2:=Nat.dvd_of_mul_dvd_mul_left hP C
 have x3:2 ^ (k+1)∣4294967296*val (Q.drop (j+1)):=Nat.dvd_trans ⟨2 ^ (31 - k),by rw[←Nat.pow_add,show k+1+(31 - k)=32 by omega]⟩ (Nat.dvd_mul_right _ _)
 exact(Nat.dvd_add_left x3).1 x2
theorem yW {N:Nat} {a b:List Nat} {t o:Bool} {B:Nat} (ha:Am a) (G:b=As B) (hB:0<B) (F:fit (a.length+2*b.length+4) N):∀ (i fuel:Nat) (Q:List Nat) (r:Nat),i<fuel→i≤32*a.length→Am Q→Q.length=a.length→r=val a/2 ^ i%B→val Q=val a/2 ^ i/B*2 ^ i →
  ∀ K:Nat→Nat→Bool→LA→LA→O R,F8 N K (Af a) a.length t o b.length (Af b) fuel (As r).length ((i:Int) - 1) (Af Q) (Af (As r))=K (As (val a/B)).length (As (val a%B)).length true (Af (As (val a/B))) (Af (As (val a%B)))
 | 0,fuel+1,Q,r,_,_,hQ,T,hr,I=>by
  intro K
  rw[Nat.pow_zero,Nat.div_one] at hr I
  rw[Nat.mul_one] at I
  have lr:(As r).length≤b.length:=by
   rw[G];apply Cj;rw[hr];exact Nat.le_of_lt (Nat.mod_lt _ hB)
  rw[F8];unfold Vs
  rw[show decide ((((0:Nat):Int) - 1)≥0)=false by rfl,cf,Nat.mul_one,List.take_of_length_le (by rw[Cg];omega),Eg T.symm hQ (by rw[T];exact F.le (by omega)),Nat.mul_one,List.take_of_length_le (by rw[Cg];omega),Eg rfl (Ad _) (F.le (by omega)),Al,I,hr]
 | i+1,fuel+1,Q,r,hfu,hi,hQ,T,hr,I=>by
  intro K
  have h1:=F.1;have h2:=F.2
  have hrB:r<B:=by rw[hr];exact Nat.mod_lt _ hB
  have lr:(As r).length≤b.length:=by rw[G];exact Cj (Nat.le_of_lt hrB)
  have D:val a/2 ^ i=2*(val a/2 ^ (i+1))+val a/2 ^ i%2:=by
   have:=Nat.div_add_mod (val a/2 ^ i) 2
   rw[Nat.div_div_eq_div_mul,←Nat.pow_succ] at this
   exact this.symm
  have hdm:=Nat.div_add_mod (val a/2 ^ (i+1)) B
  have hb2:val a/2 ^ i%2<2:=Nat.mod_lt _ (by omega)
  generalize hH:val a/2 ^ (i+1)=H at *
  generalize U:val a/2 ^ i%2=bt at *
  have C:val a/2 ^ i=B*(2*(H/B))+(2*r+bt):=by
   rw[D,hr,Nat.mul_left_comm];omega
  clear hr hdm D
  have V:i/32<Q.length:=by omega
  have qj:=Bd hQ V
  have Y:2 ^ (32*(i/32)+i%32+1)∣val Q:=by rw[Nat.div_add_mod,I];exact Nat.dvd_mul_left _ _
  have L:=Bhv hQ V (Nat.mod_lt _ (by omega)) Y
  have hpw:2 ^ i=4294967296 ^ (i/32)*2 ^ (i%32):=by rw[←yV,Nat.div_add_mod]
  have hpk:2 ^ (i%32+1)≤4294967296:=(Nat.pow_le_pow_right (by omega) (show i%32+1≤32 by omega):2 ^ (i%32+1)≤2 ^ 32)
  have hor:Uo .u32 ((Q[i/32]:Nat):Int) (IntKind.wrap .u32 ((1:Int)*2 ^ (min (Int.toNat ((i%32:Nat):Int)) 32)))=((Q[i/32]+2 ^ (i%32):Nat):Int)∧Q[i/32]+2 ^ (i%32)<4294967296:=by
   obtain⟨c,hc⟩:=L
   have hpos:0<2 ^ (i%32):=Nat.pow_pos (by omega)
   have hlt:Q[i/32]+2 ^ (i%32)<4294967296:=by
    obtain⟨w,hw⟩:∃ w,4294967296=2 ^ (i%32+1)*w:=⟨2 ^ (31 - i%32),by rw[←Nat.pow_add,show i%32+1+(31 - i%32)=32 by omega]⟩
    have x1:c<w:=by rw[hc,hw] at qj;exact Nat.lt_of_mul_lt_mul_left qj
    have x2:=Nat.mul_le_mul_left (2 ^ (i%32+1)) (show c+1≤w from x1)
    rw[Nat.mul_add,←hw,←hc,Nat.mul_one,Nat.pow_succ] at x2
    omega
   refine⟨?_,hlt⟩
   rw[Int.toNat_natCast,Nat.min_eq_left (by omega),Int.one_mul,show(2:Int) ^ (i%32)=((2 ^ (i%32):Nat):Int) by simp,Bcd (by rw[Nat.pow_succ] at hpk;omega),Avg (k:=.u32) rfl qj (by show 2 ^ (i%32)<4294967296;rw[Nat.pow_succ] at hpk;omega)]
   congr 1
   have e:Q[i/32]=c*2 ^ (i%32+1):=by rw[hc,Nat.mul_comm]
   rw[e];exact xW (by rw[Nat.pow_succ];omega)
  have w1:IntKind.wrap .i64 (Int.tdiv ((i:Nat):Int) 32)=((i/32:Nat):Int):=by rw[show(32:Int)=((32:Nat):Int) by rfl,o0,i64 (by omega)]
  have w2:IntKind.wrap .u64 (Int.tmod ((i:Nat):Int) 32)=((i%32:Nat):Int):=by rw[show(32:Int)=((32:Nat):Int) by rfl,iR,J5 (by omega)]
  have l2:(As (2*r+bt)).length≤b.length+1:=by
   apply Dv
   have x1:=Bq (Ad B)
   rw[Al,←G] at x1
   rw[Nat.pow_succ];omega
  have second:N8 N (F8 N K (Af a) a.length t o b.length (Af b) fuel) K (Af a) a.length t o b.length ((i:Nat):Int) (Af b) (Af Q) (As (2*r+bt)).length (Af (As (2*r+bt)))=K (As (val a/B)).length (As (val a%B)).length true (Af (As (val a/B))) (Af (As (val a%B))):=by
   unfold N8
   have lb:Am b:=by rw[G];exact Ad _
   have vb:val b=B:=by rw[G,Al]
   rw[Nat.mul_one,Nat.mul_one,List.take_of_length_le (by rw[Cg];omega),List.take_of_length_le (by rw[Cg];omega),yU rfl rfl (Ad _) lb (F.le (by omega)),Al,vb]
   by_cases hge:B≤2*r+bt
   ·have M:val a/2 ^ i/B=2*(H/B)+1:=by
     rw[C,show B*(2*(H/B))+(2*r+bt)=B*(2*(H/B)+1)+(2*r+bt - B) by rw[Nat.mul_add];omega,Nat.mul_add_div hB,Nat.div_eq_of_lt (show 2*r+bt - B<B by omega),Nat.add_zero]
    have S:val a/2 ^ i%B=2*r+bt - B:=by
     rw[C,show B*(2*(H/B))+(2*r+bt)=B*(2*(H/B)+1)+(2*r+bt - B) by rw[Nat.mul_add];omega,Nat.mul_add_mod,Nat.mod_eq_of_lt (by omega)]
    rw[if_pos hge,ct,w1,w2,Aa (by omega),ct,tD V,show decide (((i%32:Nat):Int)<0)=false by rw[decide_eq_false_iff_not];omega,cf,ct,Ava V,ct,hor.1,gJ,i64 (by omega)]
    refine yW ha G hB F i fuel (Q.set (i/32) (Q[i/32]+2 ^ (i%32))) (2*r+bt - B) (by omega) (by omega) (C9 hQ hor.2 _) (by simpa using T) S.symm ?_ K
    have x1:=uV (v:=Q[i/32]+2 ^ (i%32)) V
    rw[Nat.mul_add,←hpw] at x1
    rw[M,Nat.add_mul,Nat.one_mul,Nat.mul_comm 2,Nat.mul_assoc,Nat.mul_comm 2,←Nat.pow_succ,←I]
    omega
   ·have M:val a/2 ^ i/B=2*(H/B):=by rw[C,Nat.mul_add_div hB,Nat.div_eq_of_lt (show 2*r+bt<B by omega),Nat.add_zero]
    have S:val a/2 ^ i%B=2*r+bt:=by rw[C,Nat.mul_add_mod,Nat.mod_eq_of_lt (by omega)]
    rw[if_neg hge,cf,i64 (by omega)]
    refine yW ha G hB F i fuel Q (2*r+bt) (by omega) (by omega) hQ T S.symm ?_ K
    rw[M,Nat.mul_comm 2,Nat.mul_assoc,Nat.mul_comm 2,←Nat.pow_succ,←I]
  rw[F8];unfold Vs
  rw[show(((i+1:Nat):Int) - 1)=((i:Nat):Int) by omega,show decide (((i:Nat):Int)≥0)=true by rw[decide_eq_true_eq];omega,ct,Nat.mul_one,List.take_of_length_le (by rw[Cg];omega),yT rfl rfl (Ad _) (Ad _) (F.le (by omega)),Al,Bfo rfl ha (by omega) (by omega),U]
  have l3:(As (r+r)).length≤b.length+1:=by
   apply Dv
   have x1:=Bq (Ad B)
   rw[Al,←G] at x1
   rw[Nat.pow_succ];omega
  rcases(show bt=0∨bt=1 by omega) with rfl | rfl
  ·rw[show(((0:Nat):Int)==1)=false by rfl,cf]
   rw[show 2*r+0=r+r by omega] at second
   exact second
  ·rw[show(((1:Nat):Int)==1)=true by rfl,ct,Nat.mul_one,List.take_of_length_le (by rw[Cg];omega)]
   have:=yT (R:=R) (N:=N) (a:=As (r+r)) (b:=[1]) (n:=(As (r+r)).length) (m:=1) (t:=false) (o:=true) (t':=false) (o':=true) (K:=fun af ag=>N8 N (F8 N K (Af a) a.length t o b.length (Af b) fuel) K (Af a) a.length t o b.length ((i:Nat):Int) (Af b) (Af Q) af ag) rfl rfl (Ad _) (by intro x hx;simp at hx;omega) (F.le (by simp;omega))
   rw[Al,show val [1]=1 by rfl,show r+r+1=2*r+1 by omega] at this
   exact this.trans second
end
end Gx

namespace Gx
open Go Go.Proofs
section
variable {R:Type}
theorem YW {N:Nat} {a b:List Nat} {n m:Nat} {t o t' o':Bool} {K:Nat→Nat→Bool→LA→LA→O R} (hn:n=a.length) (U:m=b.length) (I:Am a) (S:Am b) (F:val b≠0) (D:fit (a.length+2*b.length+4) N) :
  T5 N (Af a) n t o (Af b) m t' o' K=K (As (val a/val b)).length (As (val a%val b)).length true (Af (As (val a/val b))) (Af (As (val a%val b))):=by
 have V:=D.1;have Y:=D.2
 have lb:=(B0 S).2
 have L:(As (val b)).length≠0:=fun h=>F (B5.1 h)
 rw[f7];unfold ML
 dsimp only
 have long:Se N K (Af a) n t o (As (val b)).length (Af (As (val b)))=K (As (val a/val b)).length (As (val a%val b)).length true (Af (As (val a/val b))) (Af (As (val a%val b))):=by
  obtain⟨nb,n1,n2,n3,n4,n5⟩:=A99 (R:=R) (N:=N) (a:=a) (n:=n) (t:=false) (o:=o) hn I (D.le (by omega))
  unfold Se HQ
  dsimp only
  rw[n5,hn,Bgl (by omega),ct,Dw,i64 (by omega)]
  have T:val a/2 ^ nb=0:=Nat.div_eq_of_lt n2
  have:=yW (R:=R) (N:=N) (a:=a) (b:=As (val b)) (t:=t) (o:=o) (B:=val b) I rfl (by omega) (D.le (by omega)) nb N (List.replicate a.length 0) 0 (by omega) n1 (C5 _) (by simp) (by rw[T];simp) (by rw[T,E2];simp) K
  exact this
 rw[Eg U S (D.le (by omega)),Ate L,cf,YV hn I (D.le (by omega)),Nat.mul_one,List.take_of_length_le (by rw[Cg];exact Nat.le_refl _)]
 by_cases C:val a<18446744073709551616
 ·rw[if_pos C,YV rfl (Ad _) (D.le (by omega)),Al]
  by_cases k:val b<18446744073709551616
  ·have G:val a/val b<18446744073709551616:=Nat.lt_of_le_of_lt (Nat.div_le_self _ _) C
   have M:val a%val b<18446744073709551616:=Nat.lt_of_le_of_lt (Nat.mod_le _ _) C
   rw[if_pos k,show((true:Bool)==true)=true by rfl,ct,A25,ct,Ate F,cf,o0,J5 G,OD G (by omega),cf,iR,OD M (by omega)]
  ·rw[if_neg k,show((true:Bool)==true)=true by rfl,ct,A25,cf,long]
 ·rw[if_neg C,YV rfl (Ad _) (D.le (by omega)),Al]
  by_cases k:val b<18446744073709551616
  ·rw[if_pos k,show((false:Bool)==true)=false by rfl,cf,long]
  ·rw[if_neg k,show((false:Bool)==true)=false by rfl,cf,long]
theorem Bfp {N:Nat}:∀ (k fuel A B:Nat),k<fuel→A*B<2 ^ k→B<A→fit (3*(As A).length+4) N→∀ K:Nat→LA→O R,E7 N K fuel (As A).length (As B).length (Af (As A)) (Af (As B))=K (As (Nat.gcd A B)).length (Af (As (Nat.gcd A B))):=by
 have base:∀ (fuel A:Nat) (K:Nat→LA→O R),E7 N K (fuel+1) (As A).length (As 0).length (Af (As A)) (Af (As 0))=K (As (Nat.gcd A 0)).length (Af (As (Nat.gcd A 0))):=by
  intro fuel A K
  rw[E7];unfold Uq
  rw[Ey,show decide ((((([]:List Nat).length:Nat)):Int)>0)=false by decide,cf,Nat.gcd_zero_right]
 intro k
 induction k with
 | zero =>
  intro fuel A B I C D G K
  obtain⟨fuel,rfl⟩:∃ F,fuel=F+1:=⟨fuel - 1,by omega⟩
  have L:B=0:=by
   rcases Nat.eq_zero_or_pos B with h | h
   ·exact h
   ·have h3:=Nat.mul_le_mul_left A (show 1≤B by omega)
    rw[Nat.pow_zero] at C;omega
  subst L
  exact base fuel A K
 | succ k M =>
  intro fuel A B I C D G K
  have h1:=G.1;have h2:=G.2
  obtain⟨fuel,rfl⟩:∃ F,fuel=F+1:=⟨fuel - 1,by omega⟩
  rcases Nat.eq_zero_or_pos B with h | h
  ·subst h;exact base fuel A K
  have S:=Cj (Nat.le_of_lt D)
  have T:(As B).length≠0:=fun U=>by have:=B5.1 U;omega
  have V:=Nat.mod_lt A h
  have hh:=iU (show 1≤B by omega) (Nat.le_of_lt D)
  have:=M fuel B (A%B) (by omega) (by rw[Nat.pow_succ] at C;omega) V (G.le (by omega)) K
  have Y:Nat.gcd B (A%B)=Nat.gcd A B:=by rw[Nat.gcd_comm,←Nat.gcd_rec,Nat.gcd_comm]
  rw[Y] at this
  rw[E7];unfold Uq
  rw[show decide ((((As B).length:Nat):Int)>0)=true by rw[decide_eq_true_eq];omega,ct,Nat.mul_one,Nat.mul_one,List.take_of_length_le (by rw[Cg];exact Nat.le_refl _),List.take_of_length_le (by rw[Cg];exact Nat.le_refl _),YW rfl rfl (Ad _) (Ad _) (by rw[Al];omega) (G.le (by omega)),Al,Al]
  exact this
theorem Bfq {N:Nat} {a b:List Nat} {n m:Nat} {t o t' o':Bool} {K:Nat→LA→O R} (hn:n=a.length) (M:m=b.length) (D:Am a) (G:Am b) (C:fit (3*(a.length+b.length)+4) N) :
  k8 N (Af a) n t o (Af b) m t' o' K=K (As (Nat.gcd (val a) (val b))).length (Af (As (Nat.gcd (val a) (val b)))):=by
 have V:=C.1;have Y:=C.2
 have la:=(B0 D).2
 have lb:=(B0 G).2
 have I:val a*val b<2 ^ (32*(a.length+b.length)):=by rw[←A5o];exact Nat.mul_lt_mul'' (Bq D) (Bq G)
 rw[Aan];unfold s8
 dsimp only
 rw[Eg hn D (C.le (by omega)),Eg M G (C.le (by omega))]
 obtain⟨F,hF⟩:∃ F,N=F+1:=⟨N - 1,by omega⟩
 rcases Nat.eq_zero_or_pos (val b) with h | h
 ·rw[h,Ey,Nat.gcd_zero_right,hF,E7];unfold Uq
  rw[show decide ((((([]:List Nat).length:Nat)):Int)>0)=false by decide,cf]
 ·have L:=Nat.mod_lt (val a) h
  have S:(As (val b)).length≠0:=fun T=>by have:=B5.1 T;omega
  have k:val b*(val a%val b)<2 ^ (32*(a.length+b.length)):=by
   have:val b*(val a%val b)≤val b*val a:=Nat.mul_le_mul_left _ (Nat.mod_le _ _)
   rw[Nat.mul_comm (val b) (val a)] at this;omega
  have:=Bfp (R:=R) (N:=N) (32*(a.length+b.length)) F (val b) (val a%val b) (by omega) k L (C.le (by omega)) K
  have U:Nat.gcd (val b) (val a%val b)=Nat.gcd (val a) (val b):=by rw[Nat.gcd_comm,←Nat.gcd_rec,Nat.gcd_comm]
  rw[U] at this
  have e:E7 N K (F+1) (As (val a)).length (As (val b)).length (Af (As (val a))) (Af (As (val b)))=E7 N K F (As (val b)).length (As (val a%val b)).length (Af (As (val b))) (Af (As (val a%val b))):=by
   rw[E7];unfold Uq
   rw[show decide ((((As (val b)).length:Nat):Int)>0)=true by rw[decide_eq_true_eq];omega,ct,Nat.mul_one,Nat.mul_one,List.take_of_length_le (by rw[Cg];exact Nat.le_refl _),List.take_of_length_le (by rw[Cg];exact Nat.le_refl _),YW rfl rfl (Ad _) (Ad _) (by rw[Al];omega) (C.le (by omega)),Al,Al]
  conv=>lhs;rw[show(E7 N K N)=E7 N K (F+1) by rw[←hF]]
  rw[e];exact this
end
end Gx
