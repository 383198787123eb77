/- A part of the proof: what it holds is said by each theorem. -/
import Derived.Test.YtlkhmflligkbkaaGreatP1
set_option linter.unusedVariables false
set_option linter.defProp false
set_option linter.unusedSimpArgs false
namespace Gx
open Go Go.Proofs
open IntKind (wrap)
set_option maxRecDepth 100000
noncomputable section
variable {R:Type} (N:Nat)
def TC (k1:LA→Nat→Bool→LA→Nat→Bool→O R) (r0:Nat→LA→O R) (k2:Int→Int→O R) (l i:Int):O R :=
 (cond (i != 0) (cond (i==0) none (k2 i (Int.tmod l i))) (B7 N l (fun al am=>(r0 al am))))
def Ti (k1:LA→Nat→Bool→LA→Nat→Bool→O R) (r0:Nat→LA→O R):Nat→Int→Int→O R
 | 0,_,_=>none
 | n+1,l,i=>(TC N k1 r0 (Ti k1 r0 n) l i)
def FO (r0:Nat→LA→O R) (k1:LA→Nat→Bool→LA→Nat→Bool→O R) (q2:Int→Int→O R) (d:LA) (b:Nat) (e:Bool) (f:LA) (c:Nat) (g:Bool):O R :=
 (cond (decide (((c:Nat):Int)>0)) (cond (decide (((b:Nat):Int)≤2)) (Rt N d b false e (fun an=>(Rt N f c false g (fun ao=>(q2 an ao))))) (Wo N d b false e f c false g (fun ab=>(cond ((Nat.beq (ab.length) 5)&&((Nat.ble 5 5)&&(!false))) (An .u64 ((setCells [(.int .u64 0),(.int .u64 0),(.int .u64 0),(.int .u64 0),(.bool false)] 0 ab).drop 2) fun ap=>(cond (ap==0) (Fj N d b false e f c false g (fun bl ag bm bn aq=>(k1 f c g (aq.take (ag*1)) ag false))) (NC ((setCells [(.int .u64 0),(.int .u64 0),(.int .u64 0),(.int .u64 0),(.bool false)] 0 ab).drop 4) fun ar=>(cond ar (An .u64 (setCells [(.int .u64 0),(.int .u64 0),(.int .u64 0),(.int .u64 0),(.bool false)] 0 ab) fun au=>(An .u64 ((setCells [(.int .u64 0),(.int .u64 0),(.int .u64 0),(.int .u64 0),(.bool false)] 0 ab).drop 2) fun av=>(Gs N d b false e au f c false g av (fun ah aw=>(An .u64 ((setCells [(.int .u64 0),(.int .u64 0),(.int .u64 0),(.int .u64 0),(.bool false)] 0 ab).drop 3) fun ax=>(An .u64 ((setCells [(.int .u64 0),(.int .u64 0),(.int .u64 0),(.int .u64 0),(.bool false)] 0 ab).drop 1) fun ay=>(Gs N f c false g ax d b false e ay (fun ai az=>(k1 (aw.take (ah*1)) ah false (az.take (ai*1)) ai false))))))))) (An .u64 ((setCells [(.int .u64 0),(.int .u64 0),(.int .u64 0),(.int .u64 0),(.bool false)] 0 ab).drop 2) fun ba=>(An .u64 (setCells [(.int .u64 0),(.int .u64 0),(.int .u64 0),(.int .u64 0),(.bool false)] 0 ab) fun bb=>(Gs N f c false g ba d b false e bb (fun aj bc=>(An .u64 ((setCells [(.int .u64 0),(.int .u64 0),(.int .u64 0),(.int .u64 0),(.bool false)] 0 ab).drop 1) fun bd=>(An .u64 ((setCells [(.int .u64 0),(.int .u64 0),(.int .u64 0),(.int .u64 0),(.bool false)] 0 ab).drop 3) fun be=>(Gs N d b false e bd f c false g be (fun ak bf=>(k1 (bc.take (aj*1)) aj false (bf.take (ak*1)) ak false))))))))))))) none)))) (CD N d b false e (fun bg bh=>(r0 bg bh))))
def Fk (r0:Nat→LA→O R):Nat→LA→Nat→Bool→LA→Nat→Bool→O R
 | 0,_,_,_,_,_,_=>none
 | n+1,d,b,e,f,c,g=>(FO N r0 (Fk r0 n) (fun l i=>(Ti N (Fk r0 n) r0 N l i)) d b e f c g)
def lm (N:Nat) (r0:Nat→LA→O R) (q1:LA→Nat→Bool→LA→Nat→Bool→O R) (m:LA) (o:Nat) (p:Bool) (q:LA) (r:Nat) (s:Bool):O R :=
 (q1 m o p q r s)
def fu (r0:Nat→LA→O R) (m:LA) (o:Nat) (p:Bool) (q:LA) (r:Nat) (s:Bool):O R:=(lm N r0 (fun d b e f c g=>(Fk N r0 N d b e f c g)) m o p q r s)
def zn (r0:Nat→LA→O R) (q0:LA→Nat→Bool→LA→Nat→Bool→O R) (v:LA) (w:Nat) (x t:Bool) (y:LA) (z:Nat) (aa u:Bool):O R :=
 (Ci N v w x t (fun ac ad=>(Ci N y z aa u (fun ae af=>(D2 N ac ad false t ae af false u (fun bi=>(cond (decide (bi<0)) (q0 ae af u ac ad t) (q0 ac ad t ae af u))))))))
def cS:=(Ah (fun (N:Nat) (v:LA) (w:Nat) (x t:Bool) (y:LA) (z:Nat) (aa u:Bool) (r0:Nat→LA→O R)=>(zn N r0 (fun m o p q r s=>(fu N r0 m o p q r s)) v w x t y z aa u))).1
theorem Adv (v w x t y z aa u r0):(@cS R N v w x t y z aa u r0)=(zn N r0 (fun m o p q r s=>(fu N r0 m o p q r s)) v w x t y z aa u):=by rw[cS,(Ah _).2]
def Amw:Hints:={ H:=(hS hL (hS hL (hJ [0,1] hL (hS (hS (hP [0,1] (hS hL (hS (hS (hS hL (hS (hS hL (hS (hS (hP [5,6] hL) hL) hL)) hL)) hL) hL))) hL) hL)))),nils:=[(0,1000001),(1,1000001)],modes:=[(2,1)] }
def Avj:D9:=[(171,Ub N),(132,Kb N),(181,lN N),(195,Ajx N),(175,oY N),(196,Aj5 N),(173,S_ N),(149,Hc N)]
def sc (F:KF R):=Jw Tryz.f174 Amw (Avj N) [] N F
def Nb (F:KF R):Nat→LA→O R:=(fun bj bk=>F (.own 300000 0 bj) (hq [(bQ 1 bk)]))
def A41 (l i:Int):St:=⟨[(5,(.int .u64 l)),(6,(.int .u64 i))],[]⟩
def A42 (F:KF R) (Q1:St→O R):=sc N F [1,1,1,0,0,0,1,0,0,1,0,1,0,0] [Q1]
def se (d:LA) (b:Nat) (e:Bool) (f:LA) (c:Nat) (g:Bool):St:=⟨[(0,(.imm d b 1 false e)),(1,(.imm f c 1 false g))],[]⟩
def Amx (F:KF R):=sc N F [1,1,1,0,0] []
def A43 (m:LA) (o:Nat) (p:Bool) (q:LA) (r:Nat) (s:Bool):St:=⟨[(0,(.imm m o 1 false p)),(1,(.imm q r 1 false s))],[]⟩
def A44 (F:KF R):=sc N F [1,1,1] []
theorem o8 (Q1:St→O R) (F:KF R):∀ (n:Nat) (l i:Int),Ao (A42 N F Q1) n (A41 l i)=(Ti N (fun d b e f c g=>Q1 (se d b e f c g)) (Nb F) n l i)
 | 0,_,_=>by kernel_rfl
 | n+1,l,i=>Eq.trans (by kernel_rfl) (Bp (TC N (fun d b e f c g=>Q1 (se d b e f c g)) (Nb F) · l i) (funext fun l=>funext fun i=>(o8 Q1 F n l i)):_)
theorem o9 (F:KF R):∀ (n:Nat) (d:LA) (b:Nat) (e:Bool) (f:LA) (c:Nat) (g:Bool),Ao (Amx N F) n (se d b e f c g)=(Fk N (Nb F) n d b e f c g)
 | 0,_,_,_,_,_,_=>by kernel_rfl
 | n+1,d,b,e,f,c,g=>have e0:=(funext fun d=>funext fun b=>funext fun e=>funext fun f=>funext fun c=>funext fun g=>(o9 F n d b e f c g))
  Eq.trans (by kernel_rfl) (VS (FO N (Nb F) · · d b e f c g) e0 (funext fun l=>funext fun i=>(Aj ..).trans ((o8 N (Ao (Amx N F) n) F N l i).trans (Bp (Ti N · (Nb F) N l i) e0))):_)
theorem Aqm (F:KF R):∀ (m:LA) (o:Nat) (p:Bool) (q:LA) (r:Nat) (s:Bool),A9 (A44 N F) (A43 m o p q r s)=(fu N (Nb F) m o p q r s):=by
 intro m o p q r s
 exact Eq.trans (by kernel_rfl) (Bp (lm N (Nb F) · m o p q r s) (funext fun d=>funext fun b=>funext fun e=>funext fun f=>funext fun c=>funext fun g=>(Aj ..).trans (o9 N F N d b e f c g)):_)
theorem Amy (v:LA) (w:Nat) (x t:Bool) (y:LA) (z:Nat) (aa u:Bool) (F:KF R):Ch (Avj N) Amw N 174 [(.imm v w 1 x t),(.imm y z 1 aa u)] [] F=(cS N v w x t y z aa u (Nb F)):=by
 rw[Adv]
 exact Eq.trans (by kernel_rfl) (Bp (zn N (Nb F) · v w x t y z aa u) (funext fun m=>funext fun o=>funext fun p=>funext fun q=>funext fun r=>funext fun s=>(At ..).trans (Aqm N F m o p q r s)):_)
def Adw (a:LA) (h:Am) (k:KF R):O R :=
 match a,h with
 | [(.imm v w 1 x t),(.imm y z 1 aa u)],[]=>(cS N v w x t y z aa u (Nb k))
 | _,_=>none
theorem Amz:Ap N 174 @Adw:=by
 intro R Q a h k j;unfold Adw;split;exact A0 (Amy ..) (Amy ..) ⟨Uc N,Kc N,lO N,Ajy N,oZ N,Aj6 N,TA N,Hd N,trivial⟩;exact A3
def A45:=A1 (Amz N)
def A46:=Ce (Amz N)
def ln (d:LA) (f:Bool) (g:LA) (i:Nat) (m l:Bool) (r0:LA→O R):O R :=
 (NC d fun v=>(Co 1 (d.drop 1) fun w x=>(cond (Nat.beq (d.length) 2) (oQ N [(.bool v),(.imm w x 1 false f)] (f||false) (fun q c o=>(CD N g i false l (fun e p=>(cond (((c:Nat):Int)==0) (r0 [(.bool false),.nsl,(.imm [(.int .u32 1)] 1 1 false false)]) (cS N (o.take (c*1)) c false true (p.take (e*1)) e false true (fun b n=>(cond ((((b:Nat):Int) != 1)==false) (cond (Ac 0 b) (An .u32 n fun y=>(cond (cond false true (y != 1)) (Fj N (o.take (c*1)) c false true (n.take (b*1)) b false true (fun r ae af z ag=>(Fj N (p.take (e*1)) e false true (n.take (b*1)) b false true (fun s ah ai aa aj=>(r0 [(.bool q),(.imm (z.take (r*1)) r 1 false false),(.imm (aa.take (s*1)) s 1 false false)]))))) (r0 [(.bool q),(.imm (o.take (c*1)) c 1 false false),(.imm (p.take (e*1)) e 1 false false)]))) none) (Fj N (o.take (c*1)) c false true (n.take (b*1)) b false true (fun t ak al ab am=>(Fj N (p.take (e*1)) e false true (n.take (b*1)) b false true (fun u an ao ac ap=>(r0 [(.bool q),(.imm (ab.take (t*1)) t 1 false false),(.imm (ac.take (u*1)) u 1 false false)]))))))))))))) none)))
def Pv:=(Ah (@ln R)).1
theorem j3:@Pv R=@ln R:=(Ah _).2
def Aqn:Hints:={ H:=hL,modes:=[(3,0)],cob:=[2] }
def Avk:D9:=[(172,Azp N),(173,S_ N),(174,A45 N),(175,oY N)]
def o_ (F:KF R):LA→O R:=(fun ad=>F (.pagg ad false) [])
theorem oa (d:LA) (f:Bool) (g:LA) (i:Nat) (m l:Bool) (F:KF R):Ch (Avk N) Aqn N 133 [(.pagg d f),(.imm g i 1 m l)] [] F=(Pv N d f g i m l (o_ F)):=by
 rw[j3]
 kernel_rfl
def j4 (a:LA) (h:Am) (k:KF R):O R :=
 match a,h with
 | [(.pagg d f),(.imm g i 1 m l)],[]=>(Pv N d f g i m l (o_ k))
 | _,_=>none
theorem ob:Ap N 133 @j4:=by
 intro R Q a h k j;unfold j4;split;exact A0 (oa ..) (oa ..) ⟨Azq N,TA N,A46 N,oZ N,trivial⟩;exact A3
def TD:=A1 (ob N)
def TE:=Ce (ob N)
def od (b:LA) (c:Bool) (r0:LA→O R):O R :=
 (cond (Nat.ble 3 (b.length)) (G0 N (b.take 3) c (fun f g i=>(cond i (Iu N f g (fun d=>(cond ((Nat.beq 0 0)&&((Nat.beq (d.length) 3)&&(Nat.beq 3 3))) (cond (Nat.ble 3 (d.length)) (r0 (d.take 3)) none) none))) (cond (Nat.ble 3 (b.length)) (Mn N (b.take 3) c (fun l m n o p=>(Pv N l m n o false p (fun e=>(cond ((Nat.beq 0 0)&&((Nat.beq (e.length) 3)&&(Nat.beq 3 3))) (cond (Nat.ble 3 (e.length)) (r0 (e.take 3)) none) none))))) none)))) none)
def JF:=(Ah (@od R)).1
theorem cT:@JF R=@od R:=(Ah _).2
def A47:D9:=[(99,IM N),(131,E_ N),(101,Ye N),(133,TD N)]
def Adx (F:KF R):LA→O R:=(fun q=>F (.pagg q false) [])
theorem Ady (b:LA) (c:Bool) (F:KF R):Ch (A47 N) N8 N 130 [(.pagg b c)] [] F=(JF N b c (Adx F)):=by
 rw[cT]
 kernel_rfl
def wK (a:LA) (h:Am) (k:KF R):O R :=
 match a,h with
 | [(.pagg b c)],[]=>(JF N b c (Adx k))
 | _,_=>none
theorem Adz:Ap N 130 @wK:=by
 intro R Q a h k j;unfold wK;split;exact A0 (Ady ..) (Ady ..) ⟨IN N,E' N,Yf N,TE N,trivial⟩;exact A3
def Ad0:=A1 (Adz N)
def Ad1:=Ce (Adz N)
def FP (r0:Nat→LA→O R) (c:LA) (b:Nat) (e:Bool) (f:LA) (d:Nat) (i:Bool) (k1:Nat→Int→Int→Int→LA→O R) (m:Nat) (o p g:Int) (l:LA):O R :=
 (cond (decide (g<p)) (cond (Ac g b) (An .u32 (c.drop ((g.toNat)*1)) fun y=>(cond (decide (g<((d:Nat):Int))) (cond (Ac g d) (An .u32 (f.drop ((g.toNat)*1)) fun ab=>(cond (Ac g m) (cond ((Nat.beq 1 1)&&((Nat.ble ((0+((g.toNat)*1))+1) (l.length))&&(!false))) (k1 m (Int.fdiv (wrap .u64 ((wrap .u64 (o+(wrap .u64 y)))+(wrap .u64 ab))) (2 ^ 32)) p (wrap .i64 (g+1)) (l.set (0+((g.toNat)*1)) (.int .u32 (wrap .u32 (wrap .u64 ((wrap .u64 (o+(wrap .u64 y)))+(wrap .u64 ab))))))) none) none)) none) (cond (Ac g m) (cond ((Nat.beq 1 1)&&((Nat.ble ((0+((g.toNat)*1))+1) (l.length))&&(!false))) (k1 m (Int.fdiv (wrap .u64 (o+(wrap .u64 y))) (2 ^ 32)) p (wrap .i64 (g+1)) (l.set (0+((g.toNat)*1)) (.int .u32 (wrap .u32 (wrap .u64 (o+(wrap .u64 y))))))) none) none))) none) (cond (Ac ((b:Nat):Int) m) (cond ((Nat.beq 1 1)&&((Nat.ble ((0+(b*1))+1) (l.length))&&(!false))) (Wj N m (l.set (0+(b*1)) (.int .u32 (wrap .u32 o))) (fun ae=>(r0 ae (l.set (0+(b*1)) (.int .u32 (wrap .u32 o)))))) none) none))
def Ws (r0:Nat→LA→O R) (c:LA) (b:Nat) (e:Bool) (f:LA) (d:Nat) (i:Bool):Nat→Nat→Int→Int→Int→LA→O R
 | 0,_,_,_,_,_=>none
 | n+1,m,o,p,g,l=>(FP N r0 c b e f d i (Ws r0 c b e f d i n) m o p g l)
def lp (N:Nat) (r0:Nat→LA→O R) (q1:Nat→Int→Int→Int→LA→O R) (c:LA) (b:Nat) (e:Bool) (f:LA) (d:Nat) (i:Bool):O R :=
 (cond ((decide (0≤(wrap .i64 (((b:Nat):Int)+1))))&&((decide ((wrap .i64 (((b:Nat):Int)+1))≤(wrap .i64 (((b:Nat):Int)+1))))&&((decide ((wrap .i64 (((b:Nat):Int)+1))≤140737488355328))&&(decide (((wrap .i64 (((b:Nat):Int)+1))*((4:Nat):Int))≤140737488355328))))) (q1 ((wrap .i64 (((b:Nat):Int)+1)).toNat) 0 ((b:Nat):Int) 0 (List.replicate ((wrap .i64 (((b:Nat):Int)+1)).toNat) (.int .u32 0))) none)
def OL (r0:Nat→LA→O R) (c:LA) (b:Nat) (e:Bool) (f:LA) (d:Nat) (i:Bool):O R:=(lp N r0 (fun m o p g l=>(Ws N r0 c b e f d i N m o p g l)) c b e f d i)
def og (r0:Nat→LA→O R) (q0:LA→Nat→Bool→LA→Nat→Bool→O R) (s:LA) (t:Nat) (u q:Bool) (v:LA) (w:Nat) (x r:Bool):O R :=
 (Ci N s t u q (fun ac z=>(Ci N v w x r (fun ad aa=>(cond (decide (((z:Nat):Int)<((aa:Nat):Int))) (q0 ad aa r ac z q) (q0 ac z q ad aa r))))))
def sf:=(Ah (fun (N:Nat) (s:LA) (t:Nat) (u q:Bool) (v:LA) (w:Nat) (x r:Bool) (r0:Nat→LA→O R)=>(og N r0 (fun c b e f d i=>(OL N r0 c b e f d i)) s t u q v w x r))).1
theorem lq (s t u q v w x r r0):(@sf R N s t u q v w x r r0)=(og N r0 (fun c b e f d i=>(OL N r0 c b e f d i)) s t u q v w x r):=by rw[sf,(Ah _).2]
def Am0:Hints:={ H:=(hS hL (hS hL (hJ [0,1] hL (hS hL (hS hL (hS (hS hL (hS (hP [0,1,5,6,24,25,26] hL) hL)) hL)))))),nils:=[(4,1)],modes:=[(2,1)] }
def Avl:D9:=[(171,Gg N)]
def Am1 (F:KF R):=Jw Tryz.f176 Am0 (Avl N) [] N F
def Wt (F:KF R):Nat→LA→O R:=(fun af ag=>F (.own 300000 0 af) (hq [(bQ 1 ag)]))
def A48 (c:LA) (b:Nat) (e:Bool) (f:LA) (d:Nat) (i:Bool) (m:Nat) (o p g:Int) (l:LA):St:=⟨[(0,(.imm c b 1 false e)),(1,(.imm f d 1 false i)),(5,(.own 300000 0 m)),(6,(.int .u64 o)),(24,(.imm c b 1 false e)),(25,(iv p)),(26,(iv g))],(hq [(bQ 1 l)])⟩
def A49 (F:KF R):=Am1 N F [1,1,1,1,1,0,1,0] []
def A5a (c:LA) (b:Nat) (e:Bool) (f:LA) (d:Nat) (i:Bool):St:=⟨[(0,(.imm c b 1 false e)),(1,(.imm f d 1 false i))],[]⟩
def A5b (F:KF R):=Am1 N F [1,1,1] []
theorem oh (F:KF R) (c:LA) (b:Nat) (e:Bool) (f:LA) (d:Nat) (i:Bool):∀ (n m:Nat) (o p g:Int) (l:LA),Ao (A49 N F) n (A48 c b e f d i m o p g l)=(Ws N (Wt F) c b e f d i n m o p g l)
 | 0,_,_,_,_,_=>by kernel_rfl
 | n+1,m,o,p,g,l=>Eq.trans (by kernel_rfl) (Bp (FP N (Wt F) c b e f d i · m o p g l) (funext fun m=>funext fun o=>funext fun p=>funext fun g=>funext fun l=>(oh F c b e f d i n m o p g l)):_)
theorem Aqo (F:KF R):∀ (c:LA) (b:Nat) (e:Bool) (f:LA) (d:Nat) (i:Bool),A9 (A5b N F) (A5a c b e f d i)=(OL N (Wt F) c b e f d i):=by
 intro c b e f d i
 exact Eq.trans (by kernel_rfl) (Bp (lp N (Wt F) · c b e f d i) (funext fun m=>funext fun o=>funext fun p=>funext fun g=>funext fun l=>(Aj ..).trans (oh N F c b e f d i N m o p g l)):_)
theorem Am2 (s:LA) (t:Nat) (u q:Bool) (v:LA) (w:Nat) (x r:Bool) (F:KF R):Ch (Avl N) Am0 N 176 [(.imm s t 1 u q),(.imm v w 1 x r)] [] F=(sf N s t u q v w x r (Wt F)):=by
 rw[lq]
 exact Eq.trans (by kernel_rfl) (Bp (og N (Wt F) · s t u q v w x r) (funext fun c=>funext fun b=>funext fun e=>funext fun f=>funext fun d=>funext fun i=>(At ..).trans (Aqo N F c b e f d i)):_)
def Ad2 (a:LA) (h:Am) (k:KF R):O R :=
 match a,h with
 | [(.imm s t 1 u q),(.imm v w 1 x r)],[]=>(sf N s t u q v w x r (Wt k))
 | _,_=>none
theorem Am3:Ap N 176 @Ad2:=by
 intro R Q a h k j;unfold Ad2;split;exact A0 (Am2 ..) (Am2 ..) ⟨Gh N,trivial⟩;exact A3
def A5c:=A1 (Am3 N)
def A5d:=Ce (Am3 N)
def oi (b:LA) (d:Bool) (c:LA) (e:Bool) (r0:Bool→Nat→LA→O R):O R :=
 (NC b fun o=>(NC c fun p=>(cond (o==p) (NC b fun q=>(Co 1 (b.drop 1) fun r s=>(Co 1 (c.drop 1) fun t u=>(sf N r s false d t u false e (fun f g=>(J9 N q f g (fun v=>(r0 v f g)))))))) (Co 1 (b.drop 1) fun w x=>(Co 1 (c.drop 1) fun y z=>(TB N w x false d y z false e (fun i aa l=>(cond aa (NC b fun ab=>(J9 N ab i l (fun ac=>(r0 ac i l)))) (Co 1 (c.drop 1) fun ad ae=>(Co 1 (b.drop 1) fun af ag=>(TB N ad ae false e af ag false d (fun m am n=>(NC c fun ah=>(J9 N ah m n (fun ai=>(r0 ai m n))))))))))))))))
def sh:=(Ah (@oi R)).1
theorem TF:@sh R=@oi R:=(Ah _).2
def A7r:D9:=[(176,A5c N),(148,B' N),(177,Amu N)]
def Am4 (F:KF R):Bool→Nat→LA→O R:=(fun aj ak al=>F (.agg [(.bool aj),(.own 300000 0 ak)]) (hq [(bQ 1 al)]))
theorem Am5 (b:LA) (d:Bool) (c:LA) (e:Bool) (F:KF R):Ch (A7r N) Dj N 134 [(.pagg b d),(.pagg c e)] [] F=(sh N b d c e (Am4 F)):=by
 rw[TF]
 kernel_rfl
def Ad3 (a:LA) (h:Am) (k:KF R):O R :=
 match a,h with
 | [(.pagg b d),(.pagg c e)],[]=>(sh N b d c e (Am4 k))
 | _,_=>none
theorem Am6:Ap N 134 @Ad3:=by
 intro R Q a h k j;unfold Ad3;split;exact A0 (Am5 ..) (Am5 ..) ⟨A5d N,CA N,Amv N,trivial⟩;exact A3
def A5e:=A1 (Am6 N)
def A5f:=Ce (Am6 N)
def OM (r0:LA→O R) (d:Bool) (b:LA) (e:Bool) (c:LA):O R :=
 (cond (Nat.ble 3 (b.length)) (Mn N (b.take 3) d (fun n aa q r o=>(cond ((Nat.beq 0 0)&&((Nat.beq (n.length) 2)&&(Nat.beq 2 2))) (cond (Nat.ble 3 (c.length)) (Mn N (c.take 3) e (fun p ab t u s=>(cond ((Nat.beq 0 0)&&((Nat.beq (p.length) 2)&&(Nat.beq 2 2))) (D2 N q r false o t u false s (fun ah=>(cond (ah==0) (cond (Nat.ble 2 (n.length)) (cond (Nat.ble 2 (p.length)) (sh N (n.take 2) aa (p.take 2) ab (fun ai ac aj=>(Pv N [(.bool ai),(.imm (aj.take (ac*1)) ac 1 false true)] true q r false o (fun v=>(cond ((Nat.beq 0 0)&&((Nat.beq (v.length) 3)&&(Nat.beq 3 3))) (cond (Nat.ble 3 (v.length)) (r0 (v.take 3)) none) none))))) none) none) (cond (Nat.ble 2 (n.length)) (SV N (n.take 2) aa [(.bool false),(.imm t u 1 false s)] (s||false) (fun ak ad al=>(cond (Nat.ble 2 (p.length)) (SV N (p.take 2) ab [(.bool false),(.imm q r 1 false o)] (o||false) (fun am ae an=>(sh N [(.bool ak),(.imm (al.take (ad*1)) ad 1 false true)] true [(.bool am),(.imm (an.take (ae*1)) ae 1 false true)] true (fun ao af ap=>(LY N q r false o t u false s (fun ag aq=>(Pv N [(.bool ao),(.imm (ap.take (af*1)) af 1 false true)] true (aq.take (ag*1)) ag false true (fun w=>(cond ((Nat.beq 0 0)&&((Nat.beq (w.length) 3)&&(Nat.beq 3 3))) (cond (Nat.ble 3 (w.length)) (r0 (w.take 3)) none) none))))))))) none))) none)))) none))) none) none))) none)
def TG (r0:LA→O R) (i f l g:Int) (d:Bool) (b:LA) (e:Bool) (c:LA) (q1:O R) (m:Bool):O R :=
 (cond m (Iu N (wrap .i64 ((wrap .i64 (i*g))+(wrap .i64 (l*f)))) (wrap .i64 (f*g)) (fun x=>(cond ((Nat.beq 0 0)&&((Nat.beq (x.length) 3)&&(Nat.beq 3 3))) (cond (Nat.ble 3 (x.length)) (r0 (x.take 3)) none) none))) q1)
def Tj (r0:LA→O R) (i f l g:Int) (d:Bool) (b:LA) (e:Bool) (c:LA) (m:Bool):O R:=(TG N r0 i f l g d b e c (OM N r0 d b e c) m)
def fv (r0:LA→O R) (q0:Int→Int→Int→Int→Bool→O R) (b:LA) (d:Bool) (c:LA) (e:Bool):O R :=
 (cond (Nat.ble 3 (b.length)) (Rs N (b.take 3) d (fun ar=>(cond (ar==0) (cond (Nat.ble 3 (c.length)) (JF N (c.take 3) e (fun y=>(cond ((Nat.beq 0 0)&&((Nat.beq (y.length) 3)&&(Nat.beq 3 3))) (cond (Nat.ble 3 (y.length)) (r0 (y.take 3)) none) none))) none) (cond (Nat.ble 3 (c.length)) (Rs N (c.take 3) e (fun au=>(cond (au==0) (cond (Nat.ble 3 (b.length)) (JF N (b.take 3) d (fun z=>(cond ((Nat.beq 0 0)&&((Nat.beq (z.length) 3)&&(Nat.beq 3 3))) (cond (Nat.ble 3 (z.length)) (r0 (z.take 3)) none) none))) none) (cond (Nat.ble 3 (b.length)) (G0 N (b.take 3) d (fun i f av=>(cond (Nat.ble 3 (c.length)) (G0 N (c.take 3) e (fun l g aw=>(cond (av==true) (q0 i f l g (cond true aw false)) (q0 i f l g false)))) none))) none)))) none)))) none)
def Zu:=(Ah (fun (N:Nat) (b:LA) (d:Bool) (c:LA) (e:Bool) (r0:LA→O R)=>(fv N r0 (fun i f l g m=>(Tj N r0 i f l g d b e c m)) b d c e))).1
theorem TH (b d c e r0):(@Zu R N b d c e r0)=(fv N r0 (fun i f l g m=>(Tj N r0 i f l g d b e c m)) b d c e):=by rw[Zu,(Ah _).2]
def Am7:Hints:={ H:=(hS hL (hS hL (hS hL (hS hL (hS hL (hJ [2,3,4] (hJ [2,3,4,5,6,8,9,41] hL hL) hL)))))),modes:=[(3,0)] }
def Avm:D9:=[(95,SQ N),(130,Ad0 N),(99,IM N),(131,E_ N),(101,Ye N),(132,Kb N),(134,A5e N),(133,TD N),(103,sO N),(135,fl N)]
def Am8 (F:KF R):=Jw Tryz.f81 Am7 (Avm N) [] N F
def DI (F:KF R):LA→O R:=(fun ax=>F (.pagg ax false) [])
def A5g (d:Bool) (b:LA) (e:Bool) (c:LA):St:=⟨[(2,(op 0)),(3,(op 1)),(4,(op 2))],(hq [(bP d 0 b),(bP e 0 c),⟨false,false,false,false,0,[(.bool false),.nsl,.nsl],false⟩])⟩
def A5h (F:KF R):=Am8 N F [1,1,1,1,1,1] []
def A5i (i f l g:Int) (d:Bool) (b:LA) (e:Bool) (c:LA) (m:Bool):St:=⟨[(2,(op 0)),(3,(op 1)),(4,(op 2)),(5,(iv i)),(6,(iv f)),(8,(iv l)),(9,(iv g)),(41,(.bool m))],(hq [(bP d 0 b),(bP e 0 c),⟨false,false,false,false,0,[(.bool false),.nsl,.nsl],false⟩])⟩
def A5j (F:KF R):=Am8 N F [1,1,1,1,1,0,1] []
theorem Aqp (F:KF R) (d:Bool) (b:LA) (e:Bool) (c:LA):A9 (A5h N F) (A5g d b e c)=(OM N (DI F) d b e c):=by
 kernel_rfl
theorem Aqq (F:KF R) (i f l g:Int) (d:Bool) (b:LA) (e:Bool) (c:LA):∀ (m:Bool),A9 (A5j N F) (A5i i f l g d b e c m)=(Tj N (DI F) i f l g d b e c m):=by
 intro m
 exact Eq.trans (by kernel_rfl) (Bp (TG N (DI F) i f l g d b e c · m) ((At ..).trans (Aqp N F d b e c)):_)
theorem Am9 (b:LA) (d:Bool) (c:LA) (e:Bool) (F:KF R):Ch (Avm N) Am7 N 81 [(.pagg b d),(.pagg c e)] [] F=(Zu N b d c e (DI F)):=by
 rw[TH]
 exact Eq.trans (by kernel_rfl) (Bp (fv N (DI F) · b d c e) (funext fun i=>funext fun f=>funext fun l=>funext fun g=>funext fun m=>(At ..).trans (Aqq N F i f l g d b e c m)):_)
def Ad4 (a:LA) (h:Am) (k:KF R):O R :=
 match a,h with
 | [(.pagg b d),(.pagg c e)],[]=>(Zu N b d c e (DI k))
 | _,_=>none
theorem Ana:Ap N 81 @Ad4:=by
 intro R Q a h k j;unfold Ad4;split;exact A0 (Am9 ..) (Am9 ..) ⟨SR N,Ad1 N,IN N,E' N,Yf N,Kc N,A5f N,TE N,sP N,fm N,trivial⟩;exact A3
def fw:=A1 (Ana N)
def fx:=Ce (Ana N)
def Aqr (b:LA) (c:Bool) (d:LA) (e:Bool) (r0:LA→O R):O R :=
 (NC b fun g=>(Co 1 (b.drop 1) fun i l=>(Co 1 (b.drop 2) fun m n=>(cond (Nat.beq (b.length) 3) (NC d fun o=>(Co 1 (d.drop 1) fun p q=>(Co 1 (d.drop 2) fun r s=>(cond (Nat.beq (d.length) 3) (Zu N [(.bool g),(.imm i l 1 false c),(.imm m n 1 false c)] (c||(c||false)) [(.bool (!o)),(.imm p q 1 false e),(.imm r s 1 false e)] (e||(e||false)) (fun f=>(cond ((Nat.beq 0 0)&&((Nat.beq (f.length) 3)&&(Nat.beq 3 3))) (cond (Nat.ble 3 (f.length)) (r0 (f.take 3)) none) none))) none)))) none))))
def MB:=(Ah (@Aqr R)).1
theorem Ad5:@MB R=@Aqr R:=(Ah _).2
def A5k:Hints:={ H:=hL,modes:=[(3,0)],cob:=[2,3] }
def A7s:D9:=[(81,fw N)]
def Anb (F:KF R):LA→O R:=(fun t=>F (.pagg t false) [])
theorem Anc (b:LA) (c:Bool) (d:LA) (e:Bool) (F:KF R):Ch (A7s N) A5k N 83 [(.pagg b c),(.pagg d e)] [] F=(MB N b c d e (Anb F)):=by
 rw[Ad5]
 kernel_rfl
def Ad6 (a:LA) (h:Am) (k:KF R):O R :=
 match a,h with
 | [(.pagg b c),(.pagg d e)],[]=>(MB N b c d e (Anb k))
 | _,_=>none
theorem And:Ap N 83 @Ad6:=by
 intro R Q a h k j;unfold Ad6;split;exact A0 (Anc ..) (Anc ..) ⟨fx N,trivial⟩;exact A3
def Ane:=A1 (And N)
def Anf:=Ce (And N)
def zo (b:LA) (d:Bool) (c:LA) (e:Bool) (r0:LA→O R):O R :=
 (cond (Nat.ble 3 (b.length)) (cond (Nat.ble 3 (c.length)) (Fg N (b.take 3) d (c.take 3) e (fun i=>(cond (decide (i≤0)) (cond (Nat.ble 3 (b.length)) (JF N (b.take 3) d (fun f=>(cond ((Nat.beq 0 0)&&((Nat.beq (f.length) 3)&&(Nat.beq 3 3))) (cond (Nat.ble 3 (f.length)) (r0 (f.take 3)) none) none))) none) (cond (Nat.ble 3 (c.length)) (JF N (c.take 3) e (fun g=>(cond ((Nat.beq 0 0)&&((Nat.beq (g.length) 3)&&(Nat.beq 3 3))) (cond (Nat.ble 3 (g.length)) (r0 (g.take 3)) none) none))) none)))) none) none)
def si:=(Ah (@zo R)).1
theorem lw:@si R=@zo R:=(Ah _).2
def A7t:D9:=[(59,Q4 N),(130,Ad0 N)]
def Ang (F:KF R):LA→O R:=(fun l=>F (.pagg l false) [])
theorem Anh (b:LA) (d:Bool) (c:LA) (e:Bool) (F:KF R):Ch (A7t N) N8 N 96 [(.pagg b d),(.pagg c e)] [] F=(si N b d c e (Ang F)):=by
 rw[lw]
 kernel_rfl
def Ad7 (a:LA) (h:Am) (k:KF R):O R :=
 match a,h with
 | [(.pagg b d),(.pagg c e)],[]=>(si N b d c e (Ang k))
 | _,_=>none
theorem Ani:Ap N 96 @Ad7:=by
 intro R Q a h k j;unfold Ad7;split;exact A0 (Anh ..) (Anh ..) ⟨Q5 N,Ad1 N,trivial⟩;exact A3
def A5l:=A1 (Ani N)
def A5m:=Ce (Ani N)
def ON (r0:LA→O R) (d:Bool) (b:LA) (e:Bool) (c:LA):O R :=
 (cond (Nat.ble 3 (b.length)) (Mn N (b.take 3) d (fun f o p q r=>(cond ((Nat.beq 0 0)&&((Nat.beq (f.length) 2)&&(Nat.beq 2 2))) (cond (Nat.ble 3 (c.length)) (Mn N (c.take 3) e (fun g s t u v=>(cond ((Nat.beq 0 0)&&((Nat.beq (g.length) 2)&&(Nat.beq 2 2))) (cond (Nat.ble 2 (f.length)) (cond (Nat.ble 2 (g.length)) (SV N (f.take 2) o (g.take 2) s (fun w m x=>(LY N p q false r t u false v (fun n y=>(Pv N [(.bool w),(.imm (x.take (m*1)) m 1 false true)] true (y.take (n*1)) n false true (fun i=>(cond ((Nat.beq 0 0)&&((Nat.beq (i.length) 3)&&(Nat.beq 3 3))) (cond (Nat.ble 3 (i.length)) (r0 (i.take 3)) none) none))))))) none) none) none))) none) none))) none)
def fy (r0:LA→O R) (q0:O R) (b:LA) (d:Bool) (c:LA) (e:Bool):O R :=
 (cond (Nat.ble 3 (b.length)) (G0 N (b.take 3) d (fun z aa ab=>(cond (Nat.ble 3 (c.length)) (G0 N (c.take 3) e (fun ac ad ae=>(cond (ab==true) (cond (cond true ae false) (Iu N (wrap .i64 (z*ac)) (wrap .i64 (aa*ad)) (fun l=>(cond ((Nat.beq 0 0)&&((Nat.beq (l.length) 3)&&(Nat.beq 3 3))) (cond (Nat.ble 3 (l.length)) (r0 (l.take 3)) none) none))) q0) q0))) none))) none)
def mA:=(Ah (fun (N:Nat) (b:LA) (d:Bool) (c:LA) (e:Bool) (r0:LA→O R)=>(fy N r0 (ON N r0 d b e c) b d c e))).1
theorem TI (b d c e r0):(@mA R N b d c e r0)=(fy N r0 (ON N r0 d b e c) b d c e):=by rw[mA,(Ah _).2]
def Anj:Hints:={ H:=(hS hL (hS hL (hS hL (hJ [2,3,4] hL hL)))),modes:=[(3,0)] }
def Avn:D9:=[(99,IM N),(131,E_ N),(101,Ye N),(103,sO N),(135,fl N),(133,TD N)]
def A5n (F:KF R):=Jw Tryz.f82 Anj (Avn N) [] N F
def gD (F:KF R):LA→O R:=(fun af=>F (.pagg af false) [])
def A5o (d:Bool) (b:LA) (e:Bool) (c:LA):St:=⟨[(2,(op 0)),(3,(op 1)),(4,(op 2))],(hq [(bP d 0 b),(bP e 0 c),⟨false,false,false,false,0,[(.bool false),.nsl,.nsl],false⟩])⟩
def A5p (F:KF R):=A5n N F [1,1,1,1] []
theorem Aqs (F:KF R) (d:Bool) (b:LA) (e:Bool) (c:LA):A9 (A5p N F) (A5o d b e c)=(ON N (gD F) d b e c):=by
 kernel_rfl
theorem Ank (b:LA) (d:Bool) (c:LA) (e:Bool) (F:KF R):Ch (Avn N) Anj N 82 [(.pagg b d),(.pagg c e)] [] F=(mA N b d c e (gD F)):=by
 rw[TI]
 exact Eq.trans (by kernel_rfl) (Bp (fy N (gD F) · b d c e) ((At ..).trans (Aqs N F d b e c)):_)
def Ad8 (a:LA) (h:Am) (k:KF R):O R :=
 match a,h with
 | [(.pagg b d),(.pagg c e)],[]=>(mA N b d c e (gD k))
 | _,_=>none
theorem Anl:Ap N 82 @Ad8:=by
 intro R Q a h k j;unfold Ad8;split;exact A0 (Ank ..) (Ank ..) ⟨IN N,E' N,Yf N,sP N,fm N,TE N,trivial⟩;exact A3
def A5q:=A1 (Anl N)
def A5r:=Ce (Anl N)
def sj (b:LA) (c:Bool) (r0:LA→O R):O R :=
 (cond (Nat.ble 2 (b.length)) (Co 1 (b.drop 2) fun e f=>(Qu N (b.take 2) c [(.bool false),(.imm e f 1 false c)] (c||false) (fun d=>(cond ((Nat.beq 0 0)&&((Nat.beq (d.length) 3)&&(Nat.beq 3 3))) (cond (Nat.ble 3 (d.length)) (r0 (d.take 3)) none) none)))) none)
def Un:=(Ah (@sj R)).1
theorem om:@Un R=@sj R:=(Ah _).2
def Azr:D9:=[(54,IE N)]
def wL (F:KF R):LA→O R:=(fun g=>F (.pagg g false) [])
theorem wN (b:LA) (c:Bool) (F:KF R):Ch (Azr N) N8 N 70 [(.pagg b c)] [] F=(Un N b c (wL F)):=by
 rw[om]
 kernel_rfl
def oq (a:LA) (h:Am) (k:KF R):O R :=
 match a,h with
 | [(.pagg b c)],[]=>(Un N b c (wL k))
 | _,_=>none
theorem wO:Ap N 70 @oq:=by
 intro R Q a h k j;unfold oq;split;exact A0 (wN ..) (wN ..) ⟨IF N,trivial⟩;exact A3
def JG:=A1 (wO N)
def JH:=Ce (wO N)
def Ad9 (b:LA) (c:Bool) (r0:LA→O R):O R :=
 (cond (Nat.ble 3 (b.length)) (Un N (b.take 3) c (fun d=>(Co 1 (d.drop 2) fun e f=>(r0 [(.bool false),(.imm e f 1 false false)])))) none)
def CE:=(Ah (@Ad9 R)).1
theorem wQ:@CE R=@Ad9 R:=(Ah _).2
def A5s:D9:=[(70,JG N)]
def Aea (F:KF R):LA→O R:=(fun g=>F (.pagg g false) [])
theorem Aeb (b:LA) (c:Bool) (F:KF R):Ch (A5s N) N8 N 73 [(.pagg b c)] [] F=(CE N b c (Aea F)):=by
 rw[wQ]
 kernel_rfl
def wR (a:LA) (h:Am) (k:KF R):O R :=
 match a,h with
 | [(.pagg b c)],[]=>(CE N b c (Aea k))
 | _,_=>none
theorem Aec:Ap N 73 @wR:=by
 intro R Q a h k j;unfold wR;split;exact A0 (Aeb ..) (Aeb ..) ⟨JH N,trivial⟩;exact A3
def Aed:=A1 (Aec N)
def Aee:=Ce (Aec N)
def Aef (b:LA) (c:Bool) (r0:LA→O R):O R :=
 (cond (Nat.ble 3 (b.length)) (Un N (b.take 3) c (fun e=>(cond (Nat.ble 2 (e.length)) (B_ N (e.take 2) false (fun f=>(cond (Nat.ble 3 (b.length)) (CE N (b.take 3) c (fun g=>(Qu N f false g false (fun d=>(cond ((Nat.beq 0 0)&&((Nat.beq (d.length) 3)&&(Nat.beq 3 3))) (cond (Nat.ble 3 (d.length)) (r0 (d.take 3)) none) none))))) none))) none))) none)
def ot:=(Ah (@Aef R)).1
theorem wT:@ot R=@Aef R:=(Ah _).2
def A5t:D9:=[(70,JG N),(92,lH N),(73,Aed N),(54,IE N)]
def Aeg (F:KF R):LA→O R:=(fun i=>F (.pagg i false) [])
theorem Aeh (b:LA) (c:Bool) (F:KF R):Ch (A5t N) N8 N 74 [(.pagg b c)] [] F=(ot N b c (Aeg F)):=by
 rw[wT]
 kernel_rfl
def wU (a:LA) (h:Am) (k:KF R):O R :=
 match a,h with
 | [(.pagg b c)],[]=>(ot N b c (Aeg k))
 | _,_=>none
theorem Aei:Ap N 74 @wU:=by
 intro R Q a h k j;unfold wU;split;exact A0 (Aeh ..) (Aeh ..) ⟨JH N,lI N,Aee N,IF N,trivial⟩;exact A3
def Azs:=A1 (Aei N)
def Azt:=Ce (Aei N)
def JI (N:Nat) (k0:Nat→Int→LA→O R) (r0:Nat→LA→O R) (d:LA) (c:Nat) (f g:Bool) (e:LA) (b:Nat) (i l:Bool) (m:Nat) (k1:Int→Int→Int→LA→O R) (o t p:Int) (s:LA):O R :=
 (cond (decide (p<((b:Nat):Int))) (cond (Ac (wrap .i64 (o+p)) m) (An .u32 (s.drop (0+(((wrap .i64 (o+p)).toNat)*1))) fun u=>(cond (Ac o c) (An .u32 (d.drop ((o.toNat)*1)) fun v=>(cond (Ac p b) (An .u32 (e.drop ((p.toNat)*1)) fun w=>(cond (Ac (wrap .i64 (o+p)) m) (cond ((Nat.beq 1 1)&&((Nat.ble ((0+(((wrap .i64 (o+p)).toNat)*1))+1) (s.length))&&(!false))) (k1 o (Int.fdiv (wrap .u64 (t+(wrap .u64 ((wrap .u64 u)+(wrap .u64 ((wrap .u64 v)*(wrap .u64 w))))))) (2 ^ 32)) (wrap .i64 (p+1)) (s.set (0+(((wrap .i64 (o+p)).toNat)*1)) (.int .u32 (wrap .u32 (wrap .u64 (t+(wrap .u64 ((wrap .u64 u)+(wrap .u64 ((wrap .u64 v)*(wrap .u64 w))))))))))) none) none)) none)) none)) none) (cond (Ac (wrap .i64 (o+((b:Nat):Int))) m) (cond ((Nat.beq 1 1)&&((Nat.ble ((0+(((wrap .i64 (o+((b:Nat):Int))).toNat)*1))+1) (s.length))&&(!false))) (k0 m (wrap .i64 (o+1)) (s.set (0+(((wrap .i64 (o+((b:Nat):Int))).toNat)*1)) (.int .u32 (wrap .u32 t)))) none) none))
def Sm (k0:Nat→Int→LA→O R) (r0:Nat→LA→O R) (d:LA) (c:Nat) (f g:Bool) (e:LA) (b:Nat) (i l:Bool) (m:Nat):Nat→Int→Int→Int→LA→O R
 | 0,_,_,_,_=>none
 | n+1,o,t,p,s=>(JI N k0 r0 d c f g e b i l m (Sm k0 r0 d c f g e b i l m n) o t p s)
def JJ (r0:Nat→LA→O R) (d:LA) (c:Nat) (f g:Bool) (e:LA) (b:Nat) (i l:Bool) (k0:Nat→Int→LA→O R) (q1:Int→Int→Int→LA→O R) (m:Nat) (q:Int) (r:LA):O R :=
 (cond (decide (q<((c:Nat):Int))) (q1 q 0 0 r) (D1 N (r.take (m*1)) m false true (fun x y=>(r0 x y))))
def Ln (r0:Nat→LA→O R) (d:LA) (c:Nat) (f g:Bool) (e:LA) (b:Nat) (i l:Bool):Nat→Nat→Int→LA→O R
 | 0,_,_,_=>none
 | n+1,m,q,r=>(JJ N r0 d c f g e b i l (Ln r0 d c f g e b i l n) (fun o t p s=>(Sm N (Ln r0 d c f g e b i l n) r0 d c f g e b i l m N o t p s)) m q r)
def ou (N:Nat) (r0:Nat→LA→O R) (q0:Nat→Int→LA→O R) (d:LA) (c:Nat) (f g:Bool) (e:LA) (b:Nat) (i l:Bool):O R :=
 (cond ((decide (0≤(wrap .i64 (((c:Nat):Int)+((b:Nat):Int)))))&&((decide ((wrap .i64 (((c:Nat):Int)+((b:Nat):Int)))≤(wrap .i64 (((c:Nat):Int)+((b:Nat):Int)))))&&((decide ((wrap .i64 (((c:Nat):Int)+((b:Nat):Int)))≤140737488355328))&&(decide (((wrap .i64 (((c:Nat):Int)+((b:Nat):Int)))*((4:Nat):Int))≤140737488355328))))) (q0 ((wrap .i64 (((c:Nat):Int)+((b:Nat):Int))).toNat) 0 (List.replicate ((wrap .i64 (((c:Nat):Int)+((b:Nat):Int))).toNat) (.int .u32 0))) none)
def gG:=(Ah (fun (N:Nat) (d:LA) (c:Nat) (f g:Bool) (e:LA) (b:Nat) (i l:Bool) (r0:Nat→LA→O R)=>(ou N r0 (fun m q r=>(Ln N r0 d c f g e b i l N m q r)) d c f g e b i l))).1
theorem wV (d c f g e b i l r0):(@gG R N d c f g e b i l r0)=(ou N r0 (fun m q r=>(Ln N r0 d c f g e b i l N m q r)) d c f g e b i l):=by rw[gG,(Ah _).2]
def Aej:Hints:={ H:=(hS hL (hS hL (hS (hS hL (hS (hP [0,1,5,6] (hS hL (hS (hS (hS hL (hS (hS hL (hS (hP [0,1,5,6,7,8] hL) hL)) hL)) hL) hL))) hL)) hL))),nils:=[(4,1)],modes:=[(2,1)] }
def Anm:D9:=[(143,G6 N)]
def Aek (F:KF R):=Jw Tryz.f124 Aej (Anm N) [] N F
def Oe (F:KF R):Nat→LA→O R:=(fun z aa=>F (.own 300000 0 z) (hq [(bQ 1 aa)]))
def Azu (d:LA) (c:Nat) (f g:Bool) (e:LA) (b:Nat) (i l:Bool) (m:Nat) (o t p:Int) (s:LA):St:=⟨[(0,(.imm d c 1 f g)),(1,(.imm e b 1 i l)),(5,(.own 300000 0 m)),(6,(iv o)),(7,(.int .u64 t)),(8,(iv p))],(hq [(bQ 1 s)])⟩
def Azv (F:KF R) (Q0:St→O R):=Aek N F [1,1,0,1,0,0,1,0,0,1,0,1,0] [Q0]
def mB (d:LA) (c:Nat) (f g:Bool) (e:LA) (b:Nat) (i l:Bool) (m:Nat) (q:Int) (r:LA):St:=⟨[(0,(.imm d c 1 f g)),(1,(.imm e b 1 i l)),(5,(.own 300000 0 m)),(6,(iv q))],(hq [(bQ 1 r)])⟩
def Ael (F:KF R):=Aek N F [1,1,0,1,0] []
theorem j5 (Q0:St→O R) (F:KF R) (d:LA) (c:Nat) (f g:Bool) (e:LA) (b:Nat) (i l:Bool) (m:Nat):∀ (n:Nat) (o t p:Int) (s:LA),Ao (Azv N F Q0) n (Azu d c f g e b i l m o t p s)=(Sm N (fun m q r=>Q0 (mB d c f g e b i l m q r)) (Oe F) d c f g e b i l m n o t p s)
 | 0,_,_,_,_=>by kernel_rfl
 | n+1,o,t,p,s=>Eq.trans (by kernel_rfl) (Bp (JI N (fun m q r=>Q0 (mB d c f g e b i l m q r)) (Oe F) d c f g e b i l m · o t p s) (funext fun o=>funext fun t=>funext fun p=>funext fun s=>(j5 Q0 F d c f g e b i l m n o t p s)):_)
theorem j6 (F:KF R) (d:LA) (c:Nat) (f g:Bool) (e:LA) (b:Nat) (i l:Bool):∀ (n m:Nat) (q:Int) (r:LA),Ao (Ael N F) n (mB d c f g e b i l m q r)=(Ln N (Oe F) d c f g e b i l n m q r)
 | 0,_,_,_=>by kernel_rfl
 | n+1,m,q,r=>have e0:=(funext fun m=>funext fun q=>funext fun r=>(j6 F d c f g e b i l n m q r))
  Eq.trans (by kernel_rfl) (VS (JJ N (Oe F) d c f g e b i l · · m q r) e0 (funext fun o=>funext fun t=>funext fun p=>funext fun s=>(Aj ..).trans ((j5 N (Ao (Ael N F) n) F d c f g e b i l m N o t p s).trans (Bp (Sm N · (Oe F) d c f g e b i l m N o t p s) e0))):_)
theorem Aem (d:LA) (c:Nat) (f g:Bool) (e:LA) (b:Nat) (i l:Bool) (F:KF R):Ch (Anm N) Aej N 124 [(.imm d c 1 f g),(.imm e b 1 i l)] [] F=(gG N d c f g e b i l (Oe F)):=by
 rw[wV]
 exact Eq.trans (by kernel_rfl) (Bp (ou N (Oe F) · d c f g e b i l) (funext fun m=>funext fun q=>funext fun r=>(Aj ..).trans (j6 N F d c f g e b i l N m q r)):_)
def wW (a:LA) (h:Am) (k:KF R):O R :=
 match a,h with
 | [(.imm d c 1 f g),(.imm e b 1 i l)],[]=>(gG N d c f g e b i l (Oe k))
 | _,_=>none
theorem Aen:Ap N 124 @wW:=by
 intro R Q a h k j;unfold wW;split;exact A0 (Aem ..) (Aem ..) ⟨G7 N,trivial⟩;exact A3
def Azw:=A1 (Aen N)
def Azx:=Ce (Aen N)
def Aeo (b:LA) (d:Bool) (c:LA) (e:Bool) (r0:LA→O R):O R :=
 (NC b fun i=>(NC c fun l=>(Co 1 (b.drop 1) fun m n=>(Co 1 (c.drop 1) fun o p=>(gG N m n false d o p false e (fun g q=>(Gz N (!(i==l)) (q.take (g*1)) g false true (fun f=>(cond ((Nat.beq 0 0)&&((Nat.beq (f.length) 2)&&(Nat.beq 2 2))) (cond (Nat.ble 2 (f.length)) (r0 (f.take 2)) none) none)))))))))
def JK:=(Ah (@Aeo R)).1
theorem wX:@JK R=@Aeo R:=(Ah _).2
def A5u:D9:=[(124,Azw N),(93,Kx N)]
def Aep (F:KF R):LA→O R:=(fun r=>F (.pagg r false) [])
theorem Aeq (b:LA) (d:Bool) (c:LA) (e:Bool) (F:KF R):Ch (A5u N) N8 N 72 [(.pagg b d),(.pagg c e)] [] F=(JK N b d c e (Aep F)):=by
 rw[wX]
 kernel_rfl
def wY (a:LA) (h:Am) (k:KF R):O R :=
 match a,h with
 | [(.pagg b d),(.pagg c e)],[]=>(JK N b d c e (Aep k))
 | _,_=>none
theorem Aer:Ap N 72 @wY:=by
 intro R Q a h k j;unfold wY;split;exact A0 (Aeq ..) (Aeq ..) ⟨Azx N,Ky N,trivial⟩;exact A3
def Azy:=A1 (Aer N)
def Azz:=Ce (Aer N)
def Aes (b:LA) (d:Bool) (c:LA) (e:Bool) (r0:LA→O R):O R :=
 (cond (Nat.ble 3 (b.length)) (Un N (b.take 3) d (fun f=>(cond (Nat.ble 3 (c.length)) (Un N (c.take 3) e (fun g=>(cond ((Nat.beq 0 0)&&((Nat.beq (f.length) 3)&&(Nat.beq 3 3))) (cond ((Nat.beq 0 0)&&((Nat.beq (g.length) 3)&&(Nat.beq 3 3))) (cond (Nat.ble 2 (f.length)) (cond (Nat.ble 3 (c.length)) (CE N (c.take 3) e (fun l=>(JK N (f.take 2) false l false (fun m=>(cond (Nat.ble 2 (g.length)) (cond (Nat.ble 3 (b.length)) (CE N (b.take 3) d (fun n=>(JK N (g.take 2) false n false (fun o=>(BZ N m false o false (fun p=>(cond (Nat.ble 3 (b.length)) (CE N (b.take 3) d (fun q=>(cond (Nat.ble 3 (c.length)) (CE N (c.take 3) e (fun r=>(JK N q false r false (fun s=>(Qu N p false s false (fun i=>(cond ((Nat.beq 0 0)&&((Nat.beq (i.length) 3)&&(Nat.beq 3 3))) (cond (Nat.ble 3 (i.length)) (r0 (i.take 3)) none) none))))))) none))) none))))))) none) none))))) none) none) none) none))) none))) none)
def ov:=(Ah (@Aes R)).1
theorem wZ:@ov R=@Aes R:=(Ah _).2
def A5v:D9:=[(70,JG N),(73,Aed N),(72,Azy N),(71,lF N),(54,IE N)]
def Aet (F:KF R):LA→O R:=(fun t=>F (.pagg t false) [])
theorem Aeu (b:LA) (d:Bool) (c:LA) (e:Bool) (F:KF R):Ch (A5v N) N8 N 32 [(.pagg b d),(.pagg c e)] [] F=(ov N b d c e (Aet F)):=by
 rw[wZ]
 kernel_rfl
def w8 (a:LA) (h:Am) (k:KF R):O R :=
 match a,h with
 | [(.pagg b d),(.pagg c e)],[]=>(ov N b d c e (Aet k))
 | _,_=>none
theorem Aev:Ap N 32 @w8:=by
 intro R Q a h k j;unfold w8;split;exact A0 (Aeu ..) (Aeu ..) ⟨JH N,Aee N,Azz N,lG N,IF N,trivial⟩;exact A3
def Az0:=A1 (Aev N)
def Az1:=Ce (Aev N)
def Aew (b:LA) (d:Bool) (c:LA) (e:Bool) (r0:LA→O R):O R :=
 (cond (Nat.ble 3 (b.length)) (cond (Nat.ble 3 (c.length)) (ot N (c.take 3) e (fun g=>(ov N (b.take 3) d g false (fun f=>(cond ((Nat.beq 0 0)&&((Nat.beq (f.length) 3)&&(Nat.beq 3 3))) (cond (Nat.ble 3 (f.length)) (r0 (f.take 3)) none) none))))) none) none)
def ow:=(Ah (@Aew R)).1
theorem w9:@ow R=@Aew R:=(Ah _).2
def A5w:D9:=[(74,Azs N),(32,Az0 N)]
def Aex (F:KF R):LA→O R:=(fun i=>F (.pagg i false) [])
theorem Aey (b:LA) (d:Bool) (c:LA) (e:Bool) (F:KF R):Ch (A5w N) N8 N 33 [(.pagg b d),(.pagg c e)] [] F=(ow N b d c e (Aex F)):=by
 rw[w9]
 kernel_rfl
def w_ (a:LA) (h:Am) (k:KF R):O R :=
 match a,h with
 | [(.pagg b d),(.pagg c e)],[]=>(ow N b d c e (Aex k))
 | _,_=>none
theorem Aez:Ap N 33 @w_:=by
 intro R Q a h k j;unfold w_;split;exact A0 (Aey ..) (Aey ..) ⟨Azt N,Az1 N,trivial⟩;exact A3
def Az2:=A1 (Aez N)
def Az3:=Ce (Aez N)
def sk (b:LA) (c:Bool) (r0:Int→O R):O R :=
 (cond (Nat.ble 3 (b.length)) (Un N (b.take 3) c (fun d=>(cond (Nat.ble 2 (d.length)) (EF N (d.take 2) false (fun e=>(r0 e))) none))) none)
def cU:=(Ah (@sk R)).1
theorem oz:@cU R=@sk R:=(Ah _).2
def Az4:D9:=[(70,JG N),(75,vC N)]
def wc (F:KF R):Int→O R:=(fun f=>F (iv f) [])
theorem wg (b:LA) (c:Bool) (F:KF R):Ch (Az4 N) Dj N 34 [(.pagg b c)] [] F=(cU N b c (wc F)):=by
 rw[oz]
 kernel_rfl
def pA (a:LA) (h:Am) (k:KF R):O R :=
 match a,h with
 | [(.pagg b c)],[]=>(cU N b c (wc k))
 | _,_=>none
theorem wh:Ap N 34 @pA:=by
 intro R Q a h k j;unfold pA;split;exact A0 (wg ..) (wg ..) ⟨JH N,vD N,trivial⟩;exact A3
def Avo:=A1 (wh N)
def Avp:=Ce (wh N)
def TJ (b:LA) (d:Bool) (c:LA) (e:Bool) (r0:Int→O R):O R :=
 (cond (Nat.ble 3 (b.length)) (cond (Nat.ble 3 (c.length)) (ow N (b.take 3) d (c.take 3) e (fun f=>(cU N f false (fun g=>(r0 g))))) none) none)
def G8:=(Ah (@TJ R)).1
theorem WP:@G8 R=@TJ R:=(Ah _).2
def Aj7:D9:=[(33,Az2 N),(34,Avo N)]
def cV (F:KF R):Int→O R:=(fun i=>F (iv i) [])
theorem cW (b:LA) (d:Bool) (c:LA) (e:Bool) (F:KF R):Ch (Aj7 N) Dj N 25 [(.pagg b d),(.pagg c e)] [] F=(G8 N b d c e (cV F)):=by
 rw[WP]
 kernel_rfl
def WQ (a:LA) (h:Am) (k:KF R):O R :=
 match a,h with
 | [(.pagg b d),(.pagg c e)],[]=>(G8 N b d c e (cV k))
 | _,_=>none
theorem cX:Ap N 25 @WQ:=by
 intro R Q a h k j;unfold WQ;split;exact A0 (cW ..) (cW ..) ⟨Az3 N,Avp N,trivial⟩;exact A3
def cY:=A1 (cX N)
def cZ:=Ce (cX N)
end
end Gx

namespace Gx
open Go Go.Proofs
open IntKind (wrap)
set_option maxRecDepth 100000
noncomputable section
variable {R:Type} (N:Nat)
def mC (b:LA) (c:Bool) (d e:Int) (r0:Bool→O R):O R :=
 (cond (Nat.ble 3 (b.length)) (Cr N d (fun f=>(Fg N (b.take 3) c f false (fun g=>(cond ((decide (g≥0))==true) (cond (Nat.ble 3 (b.length)) (Cr N e (fun i=>(Fg N (b.take 3) c i false (fun l=>(r0 (cond true (decide (l≤0)) false)))))) none) (r0 false)))))) none)
def Wu:=(Ah (@mC R)).1
theorem j7:@Wu R=@mC R:=(Ah _).2
def Avq:D9:=[(60,Je N),(59,Q4 N)]
def pB (F:KF R):Bool→O R:=(fun m=>F (.bool m) [])
theorem pC (b:LA) (c:Bool) (d e:Int) (F:KF R):Ch (Avq N) Dj N 56 [(.pagg b c),(iv d),(iv e)] [] F=(Wu N b c d e (pB F)):=by
 rw[j7]
 kernel_rfl
def j8 (a:LA) (h:Am) (k:KF R):O R :=
 match a,h with
 | [(.pagg b c),(.int .i64 d),(.int .i64 e)],[]=>(Wu N b c d e (pB k))
 | _,_=>none
theorem pD:Ap N 56 @j8:=by
 intro R Q a h k j;unfold j8;split;exact A0 (pC ..) (pC ..) ⟨Jf N,Q5 N,trivial⟩;exact A3
def TK:=A1 (pD N)
def TL:=Ce (pD N)
def sn (c:Int) (b:LA) (d:Bool) (r0:LA→O R):O R :=
 (Cr N c (fun f=>(cond (Nat.ble 3 (b.length)) (mA N f false (b.take 3) d (fun e=>(cond ((Nat.beq 0 0)&&((Nat.beq (e.length) 3)&&(Nat.beq 3 3))) (cond (Nat.ble 3 (e.length)) (r0 (e.take 3)) none) none))) none)))
def c0:=(Ah (@sn R)).1
theorem pE:@c0 R=@sn R:=(Ah _).2
def Az5:D9:=[(60,Je N),(82,A5q N)]
def wi (F:KF R):LA→O R:=(fun g=>F (.pagg g false) [])
theorem wk (c:Int) (b:LA) (d:Bool) (F:KF R):Ch (Az5 N) N8 N 86 [(iv c),(.pagg b d)] [] F=(c0 N c b d (wi F)):=by
 rw[pE]
 kernel_rfl
def pF (a:LA) (h:Am) (k:KF R):O R :=
 match a,h with
 | [(.int .i64 c),(.pagg b d)],[]=>(c0 N c b d (wi k))
 | _,_=>none
theorem wl:Ap N 86 @pF:=by
 intro R Q a h k j;unfold pF;split;exact A0 (wk ..) (wk ..) ⟨Jf N,A5r N,trivial⟩;exact A3
def Avr:=A1 (wl N)
def Avs:=Ce (wl N)
def Lo (r0:LA→O R) (f:LA) (g:Nat) (c:Bool) (k0:Int→Int→LA→LA→O R) (i d:Int) (e b:LA):O R :=
 (cond (decide (d<i)) (cond (Ac d g) (cond (Nat.ble 2 ((f.drop ((d.toNat)*2)).length)) (cond ((!c)||(Bb ((f.drop ((d.toNat)*2)).take 2))) (cond ((Nat.beq (((f.drop ((d.toNat)*2)).take 2).length) 2)&&((Nat.ble 2 2)&&(!false))) (cond (Nat.ble 3 (e.length)) (Rs N (e.take 3) false (fun u=>(cond (decide (u≤0)) (cond (Nat.ble 3 (b.length)) (cond ((Nat.beq 0 0)&&((Nat.beq ((b.take 3).length) 3)&&(Nat.beq 3 3))) (cond (Nat.ble 3 ((b.take 3).length)) (r0 ((b.take 3).take 3)) none) none) none) (cond (Nat.ble 3 (e.length)) (An .i64 (setCells [(.int .i64 0),(.int .i64 0)] 0 ((f.drop ((d.toNat)*2)).take 2)) fun v=>(Cr N v (fun w=>(si N (e.take 3) false w false (fun p=>(cond ((Nat.beq 0 0)&&((Nat.beq (p.length) 3)&&(Nat.beq 3 3))) (cond (Nat.ble 3 (b.length)) (An .i64 ((setCells [(.int .i64 0),(.int .i64 0)] 0 ((f.drop ((d.toNat)*2)).take 2)).drop 1) fun x=>(cond (Nat.ble 3 (p.length)) (c0 N x (p.take 3) false (fun y=>(Zu N (b.take 3) false y false (fun q=>(cond ((Nat.beq (q.length) 3)&&((Nat.ble 3 (b.length))&&(!false))) (cond (Nat.ble 3 (e.length)) (cond (Nat.ble 3 (p.length)) (MB N (e.take 3) false (p.take 3) false (fun r=>(cond ((Nat.beq (r.length) 3)&&((Nat.ble 3 (e.length))&&(!false))) (k0 i (wrap .i64 (d+1)) (setCells e 0 r) (setCells b 0 q)) none))) none) none) none))))) none)) none) none)))))) none)))) none) none) none) none) none) (cond (Nat.ble 3 (b.length)) (cond ((Nat.beq 0 0)&&((Nat.beq ((b.take 3).length) 3)&&(Nat.beq 3 3))) (cond (Nat.ble 3 ((b.take 3).length)) (r0 ((b.take 3).take 3)) none) none) none))
def Ep (r0:LA→O R) (f:LA) (g:Nat) (c:Bool):Nat→Int→Int→LA→LA→O R
 | 0,_,_,_,_=>none
 | n+1,i,d,e,b=>(Lo N r0 f g c (Ep r0 f g c n) i d e b)
def Ru (r0:LA→O R) (q0:LA→Nat→Int→Int→LA→LA→O R) (l:LA) (c:Bool) (m:LA) (o:Bool):O R :=
 (cond (Nat.ble 3 (m.length)) (An .i64 (l.drop 2) fun z=>(Cr N z (fun aa=>(MB N (m.take 3) o aa false (fun s=>(cond ((Nat.beq 0 0)&&((Nat.beq (s.length) 3)&&(Nat.beq 3 3))) (Cr N 0 (fun t=>(cond ((Nat.beq 0 0)&&((Nat.beq (t.length) 3)&&(Nat.beq 3 3))) (Co 2 (l.drop 4) fun f g=>(q0 f g ((g:Nat):Int) 0 s t)) none))) none)))))) none)
def Kh:=(Ah (fun (N:Nat) (l:LA) (c:Bool) (m:LA) (o:Bool) (r0:LA→O R)=>(Ru N r0 (fun f g i d e b=>(Ep N r0 f g c N i d e b)) l c m o))).1
theorem FQ (l c m o r0):(@Kh R N l c m o r0)=(Ru N r0 (fun f g i d e b=>(Ep N r0 f g c N i d e b)) l c m o):=by rw[Kh,(Ah _).2]
def JL:Hints:={ H:=(hS hL (hS hL (hS hL (hS (hS hL (hS (hP [4,5,6,17,18,19] hL) hL)) hL)))),modes:=[(3,0)] }
def OO:D9:=[(60,Je N),(83,Ane N),(95,SQ N),(96,A5l N),(86,Avr N),(81,fw N)]
def pG (F:KF R):=Jw Tryz.f57 JL (OO N) [] N F
def Ix (F:KF R):LA→O R:=(fun ab=>F (.pagg ab false) [])
def pH (f:LA) (g:Nat) (c:Bool) (i d:Int) (e b:LA):St:=⟨[(4,(op 0)),(5,(op 1)),(6,(op 2)),(17,(.imm f g 2 false c)),(18,(iv i)),(19,(iv d))],(hq [⟨false,false,false,false,0,[(.bool false),.nsl,.nsl],false⟩,(bQ 0 e),(bQ 0 b)])⟩
def pI (F:KF R):=pG N F [1,1,1,0,1,0] []
theorem Yn (F:KF R) (f:LA) (g:Nat) (c:Bool):∀ (n:Nat) (i d:Int) (e b:LA),Ao (pI N F) n (pH f g c i d e b)=(Ep N (Ix F) f g c n i d e b)
 | 0,_,_,_,_=>by kernel_rfl
 | n+1,i,d,e,b=>Eq.trans (by kernel_rfl) (Bp (Lo N (Ix F) f g c · i d e b) (funext fun i=>funext fun d=>funext fun e=>funext fun b=>(Yn F f g c n i d e b)):_)
theorem JM (l:LA) (c:Bool) (m:LA) (o:Bool) (F:KF R):Ch (OO N) JL N 57 [(.pagg l c),(.pagg m o)] [] F=(Kh N l c m o (Ix F)):=by
 rw[FQ]
 exact Eq.trans (by kernel_rfl) (Bp (Ru N (Ix F) · l c m o) (funext fun f=>funext fun g=>funext fun i=>funext fun d=>funext fun e=>funext fun b=>(Aj ..).trans (Yn N F f g c N i d e b)):_)
def FR (a:LA) (h:Am) (k:KF R):O R :=
 match a,h with
 | [(.pagg l c),(.pagg m o)],[]=>(Kh N l c m o (Ix k))
 | _,_=>none
theorem JN:Ap N 57 @FR:=by
 intro R Q a h k j;unfold FR;split;exact A0 (JM ..) (JM ..) ⟨Jf N,Anf N,SR N,A5m N,Avs N,fx N,trivial⟩;exact A3
def pJ:=A1 (JN N)
def pK:=Ce (JN N)
def Zv (b:LA) (d:Bool) (c:LA) (e:Bool) (r0:LA→Int→O R):O R :=
 (cond (Nat.ble 22 (b.length)) (Uj N (b.take 22) d 24 (fun g=>(cond (!g) (r0 [(.bool false),.nsl,.nsl] 1) (cond (Nat.ble 3 (c.length)) (An .i64 (b.drop 2) fun i=>(An .i64 (b.drop 3) fun l=>(Wu N (c.take 3) e i l (fun m=>(cond (!m) (r0 [(.bool false),.nsl,.nsl] 3) (cond (Nat.ble 22 (b.length)) (cond (Nat.ble 3 (c.length)) (Kh N (b.take 22) d (c.take 3) e (fun f=>(cond ((Nat.beq 0 0)&&((Nat.beq (f.length) 3)&&(Nat.beq 3 3))) (cond (Nat.ble 3 (f.length)) (r0 (f.take 3) 0) none) none))) none) none)))))) none)))) none)
def Of:=(Ah (@Zv R)).1
theorem FS:@Of R=@Zv R:=(Ah _).2
def sp:D9:=[(16,IY N),(56,TK N),(57,pJ N)]
def JO (F:KF R):LA→Int→O R:=(fun n o=>F (.tup [(.pagg n false),(iv o)]) [])
theorem JP (b:LA) (d:Bool) (c:LA) (e:Bool) (F:KF R):Ch (sp N) A7n N 21 [(.pagg b d),(.pagg c e)] [] F=(Of N b d c e (JO F)):=by
 rw[FS]
 kernel_rfl
def FT (a:LA) (h:Am) (k:KF R):O R :=
 match a,h with
 | [(.pagg b d),(.pagg c e)],[]=>(Of N b d c e (JO k))
 | _,_=>none
theorem JQ:Ap N 21 @FT:=by
 intro R Q a h k j;unfold FT;split;exact A0 (JP ..) (JP ..) ⟨IZ N,TL N,pK N,trivial⟩;exact A3
def pL:=A1 (JQ N)
def pM:=Ce (JQ N)
def Og (k1:Bool→Bool→Int→Int→Int→LA→LA→O R) (r0:LA→LA→Bool→Bool→O R) (l:Bool) (s t:Int) (g:LA) (m:Nat) (d:Bool) (i e:Int) (c:Bool) (b f:LA) (u:Bool) (v:Int) (w x:LA):O R :=
 (cond ((decide (s≥0))==true) (cond (cond true (decide (t<0)) false) (An .i64 (x.drop 1) fun ab=>(Cr N ab (fun z=>(cond ((Nat.beq (z.length) 3)&&((Nat.ble 3 (f.length))&&(!false))) (k1 u true v i (wrap .i64 (e+1)) w (setCells f 0 z)) none)))) (k1 u l v i (wrap .i64 (e+1)) w f)) (k1 u l v i (wrap .i64 (e+1)) w f))
def Rv (r0:LA→LA→Bool→Bool→O R) (g:LA) (m:Nat) (d c:Bool) (b:LA) (k1:Bool→Bool→Int→Int→Int→LA→LA→O R) (q2:Int→Int→Bool→Int→LA→LA→O R) (r l:Bool) (q i e:Int) (p f:LA):O R :=
 (cond (decide (e<i)) (cond (Ac e m) (cond (Nat.ble 2 ((g.drop ((e.toNat)*2)).length)) (cond ((!d)||(Bb ((g.drop ((e.toNat)*2)).take 2))) (cond ((Nat.beq (((g.drop ((e.toNat)*2)).take 2).length) 2)&&((Nat.ble 2 2)&&(!false))) (An .i64 (setCells [(.int .i64 0),(.int .i64 0)] 0 ((g.drop ((e.toNat)*2)).take 2)) fun y=>(cond (Nat.ble 3 (b.length)) (Cr N q (fun ac=>(Fg N (b.take 3) c ac false (fun s=>(cond (Nat.ble 3 (b.length)) (Cr N (wrap .i64 (q+y)) (fun ad=>(Fg N (b.take 3) c ad false (fun t=>(cond ((decide (s>0))==true) (cond (cond true (decide (t≤0)) false) (An .i64 ((setCells [(.int .i64 0),(.int .i64 0)] 0 ((g.drop ((e.toNat)*2)).take 2)).drop 1) fun ae=>(Cr N ae (fun aa=>(cond ((Nat.beq (aa.length) 3)&&((Nat.ble 3 (p.length))&&(!false))) (q2 s t true (wrap .i64 (q+y)) (setCells p 0 aa) (setCells [(.int .i64 0),(.int .i64 0)] 0 ((g.drop ((e.toNat)*2)).take 2))) none)))) (q2 s t r (wrap .i64 (q+y)) p (setCells [(.int .i64 0),(.int .i64 0)] 0 ((g.drop ((e.toNat)*2)).take 2)))) (q2 s t r (wrap .i64 (q+y)) p (setCells [(.int .i64 0),(.int .i64 0)] 0 ((g.drop ((e.toNat)*2)).take 2)))))))) none))))) none)) none) none) none) none) (cond (Nat.ble 3 (p.length)) (cond (Nat.ble 3 (f.length)) (cond ((Nat.beq ((p.take 3).length) 3)&&((Nat.ble 3 (p.length))&&(!false))) (cond ((Nat.beq ((f.take 3).length) 3)&&((Nat.ble 3 (f.length))&&(!false))) (cond (Nat.ble 3 ((setCells p 0 (p.take 3)).length)) (cond (Nat.ble 3 ((setCells f 0 (f.take 3)).length)) (r0 ((setCells p 0 (p.take 3)).take 3) ((setCells f 0 (f.take 3)).take 3) r l) none) none) none) none) none) none))
def F7 (r0:LA→LA→Bool→Bool→O R) (g:LA) (m:Nat) (d c:Bool) (b:LA):Nat→Bool→Bool→Int→Int→Int→LA→LA→O R
 | 0,_,_,_,_,_,_,_=>none
 | n+1,r,l,q,i,e,p,f=>(Rv N r0 g m d c b (F7 r0 g m d c b n) (fun s t u v w x=>(Og N (F7 r0 g m d c b n) r0 l s t g m d i e c b f u v w x)) r l q i e p f)
def Zw (N:Nat) (r0:LA→LA→Bool→Bool→O R) (d:Bool) (o:LA) (c:Bool) (b:LA) (q1:LA→Nat→Bool→Bool→Int→Int→Int→LA→LA→O R):O R :=
 (An .i64 (o.drop 2) fun af=>(Co 2 (o.drop 4) fun g m=>(q1 g m false false af ((m:Nat):Int) 0 [(.bool false),.nsl,.nsl] [(.bool false),.nsl,.nsl])))
def Uo (r0:LA→LA→Bool→Bool→O R) (d:Bool) (o:LA) (c:Bool) (b:LA):O R:=(Zw N r0 d o c b (fun g m r l q i e p f=>(F7 N r0 g m d c b N r l q i e p f)))
def CF (r0:LA→LA→Bool→Bool→O R) (q0:O R) (o:LA) (d:Bool) (b:LA) (c:Bool):O R :=
 (cond (Nat.ble 22 (o.length)) (Uj N (o.take 22) d 24 (fun ag=>(cond ((!ag)==false) (cond (Nat.ble 3 (b.length)) (An .i64 (o.drop 2) fun ah=>(An .i64 (o.drop 3) fun ai=>(Wu N (b.take 3) c ah ai (fun aj=>(cond (cond false true (!aj)) (r0 [(.bool false),.nsl,.nsl] [(.bool false),.nsl,.nsl] false false) q0))))) none) (r0 [(.bool false),.nsl,.nsl] [(.bool false),.nsl,.nsl] false false)))) none)
def Tk:=(Ah (fun (N:Nat) (o:LA) (d:Bool) (b:LA) (c:Bool) (r0:LA→LA→Bool→Bool→O R)=>(CF N r0 (Uo N r0 d o c b) o d b c))).1
theorem WR (o d b c r0):(@Tk R N o d b c r0)=(CF N r0 (Uo N r0 d o c b) o d b c):=by rw[Tk,(Ah _).2]
def c6:Hints:={ H:=(hS hL (hJ [2,3,4,5,6,7] hL (hS hL (hS (hS hL (hS (hP [3,4,5,6,7,8,31,32,33] (hS hL (hS hL (hS (hS (hS hL (hS hL (hS hL (hS hL (hJ [3,4,5,6,7,10,11,12,13,31,32,33] hL hL))))) hL) hL)))) hL)) hL)))),modes:=[(3,0),(3,0),(0,0),(0,0)],cob:=[4,5,10] }
def j9:D9:=[(16,IY N),(56,TK N),(60,Je N),(59,Q4 N)]
def FU (F:KF R):=Jw Tryz.f23 c6 (j9 N) [] N F
def Er (F:KF R):LA→LA→Bool→Bool→O R:=(fun ak al am an=>F (.tup [(.pagg ak false),(.pagg al false),(.bool am),(.bool an)]) [])
def Ae0 (l:Bool) (s t:Int) (g:LA) (m:Nat) (d:Bool) (i e:Int) (c:Bool) (b f:LA) (u:Bool) (v:Int) (w x:LA):St:=⟨[(3,(op 0)),(4,(op 1)),(5,(op 2)),(6,(.bool u)),(7,(.bool l)),(10,(op 3)),(11,(iv v)),(12,(iv s)),(13,(iv t)),(31,(.imm g m 2 false d)),(32,(iv i)),(33,(iv e))],(hq [(bP c 0 b),(bQ 0 w),(bQ 0 f),(bQ 0 x)])⟩
def Ae1 (F:KF R) (Q1:St→O R):=FU N F [1,1,1,0,1,0,0,1,1,0,0,1,1,1,1,1] [Q1]
def c7 (g:LA) (m:Nat) (d c:Bool) (b:LA) (r l:Bool) (q i e:Int) (p f:LA):St:=⟨[(3,(op 0)),(4,(op 1)),(5,(op 2)),(6,(.bool r)),(7,(.bool l)),(8,(iv q)),(31,(.imm g m 2 false d)),(32,(iv i)),(33,(iv e))],(hq [(bP c 0 b),(bQ 0 p),(bQ 0 f)])⟩
def c8 (F:KF R):=FU N F [1,1,1,0,1,0] []
def Ae2 (d:Bool) (o:LA) (c:Bool) (b:LA):St:=⟨[(2,(op 0)),(3,(op 1)),(4,(op 2)),(5,(op 3)),(6,(.bool false)),(7,(.bool false))],(hq [(bP d 0 o),(bP c 0 b),(bQ 0 [(.bool false),.nsl,.nsl]),(bQ 0 [(.bool false),.nsl,.nsl])])⟩
def Ae3 (F:KF R):=FU N F [1,1] []
theorem pN (Q1:St→O R) (F:KF R) (l:Bool) (s t:Int) (g:LA) (m:Nat) (d:Bool) (i e:Int) (c:Bool) (b f:LA):∀ (u:Bool) (v:Int) (w x:LA),A9 (Ae1 N F Q1) (Ae0 l s t g m d i e c b f u v w x)=(Og N (fun r l q i e p f=>Q1 (c7 g m d c b r l q i e p f)) (Er F) l s t g m d i e c b f u v w x):=by
 intro u v w x
 kernel_rfl
theorem JR (F:KF R) (g:LA) (m:Nat) (d c:Bool) (b:LA):∀ (n:Nat) (r l:Bool) (q i e:Int) (p f:LA),Ao (c8 N F) n (c7 g m d c b r l q i e p f)=(F7 N (Er F) g m d c b n r l q i e p f)
 | 0,_,_,_,_,_,_,_=>by kernel_rfl
 | n+1,r,l,q,i,e,p,f=>have e0:=(funext fun r=>funext fun l=>funext fun q=>funext fun i=>funext fun e=>funext fun p=>funext fun f=>(JR F g m d c b n r l q i e p f))
  Eq.trans (by kernel_rfl) (VS (Rv N (Er F) g m d c b · · r l q i e p f) e0 (funext fun s=>funext fun t=>funext fun u=>funext fun v=>funext fun w=>funext fun x=>(At ..).trans ((pN N (Ao (c8 N F) n) F l s t g m d i e c b f u v w x).trans (Bp (Og N · (Er F) l s t g m d i e c b f u v w x) e0))):_)
theorem pO (F:KF R) (d:Bool) (o:LA) (c:Bool) (b:LA):A9 (Ae3 N F) (Ae2 d o c b)=(Uo N (Er F) d o c b):=by
 exact Eq.trans (by kernel_rfl) (Bp (Zw N (Er F) d o c b ·) (funext fun g=>funext fun m=>funext fun r=>funext fun l=>funext fun q=>funext fun i=>funext fun e=>funext fun p=>funext fun f=>(Aj ..).trans (JR N F g m d c b N r l q i e p f)):_)
theorem c9 (o:LA) (d:Bool) (b:LA) (c:Bool) (F:KF R):Ch (j9 N) c6 N 23 [(.pagg o d),(.pagg b c)] [] F=(Tk N o d b c (Er F)):=by
 rw[WR]
 exact Eq.trans (by kernel_rfl) (Bp (CF N (Er F) · o d b c) ((At ..).trans (pO N F d o c b)):_)
def WS (a:LA) (h:Am) (k:KF R):O R :=
 match a,h with
 | [(.pagg o d),(.pagg b c)],[]=>(Tk N o d b c (Er k))
 | _,_=>none
theorem c_:Ap N 23 @WS:=by
 intro R Q a h k j;unfold WS;split;exact A0 (c9 ..) (c9 ..) ⟨IZ N,TL N,Jf N,Q5 N,trivial⟩;exact A3
def Ae4:=A1 (c_ N)
def Ae5:=Ce (c_ N)
def JT (N:Nat) (r0:LA→O R) (e:LA) (d:Nat) (b:Bool) (k0:Int→Int→LA→O R) (f c:Int) (g:LA):O R :=
 (cond (decide (c<f)) (cond (Ac c d) (An .i64 (e.drop ((c.toNat)*1)) fun l=>(k0 f (wrap .i64 (c+1)) (Ax7 g l))) none) (r0 g))
def Sn (r0:LA→O R) (e:LA) (d:Nat) (b:Bool):Nat→Int→Int→LA→O R
 | 0,_,_,_=>none
 | n+1,f,c,g=>(JT N r0 e d b (Sn r0 e d b n) f c g)
def pP (N:Nat) (r0:LA→O R) (q0:LA→Nat→Int→Int→LA→O R) (i:LA) (b:Bool):O R :=
 (Co 1 (i.drop 18) fun e d=>(q0 e d ((d:Nat):Int) 0 []))
def TM:=(Ah (fun (N:Nat) (i:LA) (b:Bool) (r0:LA→O R)=>(pP N r0 (fun e d f c g=>(Sn N r0 e d b N f c g)) i b))).1
theorem dA (i b r0):(@TM R N i b r0)=(pP N r0 (fun e d f c g=>(Sn N r0 e d b N f c g)) i b):=by rw[TM,(Ah _).2]
def Ae6:Hints:={ H:=(hS hL (hS hL (hS (hS hL (hS (hP [3,8,9,10] hL) hL)) hL))) }
def Az6 (F:KF R):=Jw Tryz.f117 Ae6 [] [] N F
def FV (F:KF R):LA→O R:=(fun m=>F (.omap 300000) (hq [⟨false,false,true,false,0,m,true⟩]))
def Az7 (e:LA) (d:Nat) (b:Bool) (f c:Int) (g:LA):St:=⟨[(3,(.omap 300000)),(8,(.imm e d 1 false b)),(9,(iv f)),(10,(iv c))],(hq [⟨false,false,true,false,0,g,true⟩])⟩
def Az8 (F:KF R):=Az6 N F [1,1,0,1,0] []
theorem j_ (F:KF R) (e:LA) (d:Nat) (b:Bool):∀ (n:Nat) (f c:Int) (g:LA),Ao (Az8 N F) n (Az7 e d b f c g)=(Sn N (FV F) e d b n f c g)
 | 0,_,_,_=>by kernel_rfl
 | n+1,f,c,g=>Eq.trans (by kernel_rfl) (Bp (JT N (FV F) e d b · f c g) (funext fun f=>funext fun c=>funext fun g=>(j_ F e d b n f c g)):_)
theorem Ae7 (i:LA) (b:Bool) (F:KF R):Ch [] Ae6 N 117 [(.pagg i b)] [] F=(TM N i b (FV F)):=by
 rw[dA]
 exact Eq.trans (by kernel_rfl) (Bp (pP N (FV F) · i b) (funext fun e=>funext fun d=>funext fun f=>funext fun c=>funext fun g=>(Aj ..).trans (j_ N F e d b N f c g)):_)
def wm (a:LA) (h:Am) (k:KF R):O R :=
 match a,h with
 | [(.pagg i b)],[]=>(TM N i b (FV k))
 | _,_=>none
theorem Ae8:Ap N 117 @wm:=by
 intro R Q a h k j;unfold wm;split;exact A0 (Ae7 ..) (Ae7 ..) trivial;exact A3
def Az9:=A1 (Ae8 N)
def A0a:=Ce (Ae8 N)
def pQ (b:LA) (c:Bool) (r0:Int→Int→O R):O R :=
 (cond (Nat.ble 22 (b.length)) (Oc N (b.take 22) c (fun d=>(cond (!d) (r0 0 0) (An .i64 (b.drop 11) fun e=>(An .i64 (b.drop 15) fun f=>(An .i64 (b.drop 10) fun g=>(r0 (Gc (Gc e (wrap .i64 (f+1))) 1) (Gc g 1)))))))) none)
def JU:=(Ah (@pQ R)).1
theorem dB:@JU R=@pQ R:=(Ah _).2
def A5x:D9:=[(48,Yj N)]
def Ae9 (F:KF R):Int→Int→O R:=(fun i l=>F (.tup [(iv i),(iv l)]) [])
theorem Afa (b:LA) (c:Bool) (F:KF R):Ch (A5x N) Dj N 136 [(.pagg b c)] [] F=(JU N b c (Ae9 F)):=by
 rw[dB]
 kernel_rfl
def wo (a:LA) (h:Am) (k:KF R):O R :=
 match a,h with
 | [(.pagg b c)],[]=>(JU N b c (Ae9 k))
 | _,_=>none
theorem Afb:Ap N 136 @wo:=by
 intro R Q a h k j;unfold wo;split;exact A0 (Afa ..) (Afa ..) ⟨Yk N,trivial⟩;exact A3
def mD:=A1 (Afb N)
def mE:=Ce (Afb N)
def JV (b:LA) (c:Bool) (r0:LA→O R):O R :=
 (cond (Nat.ble 22 (b.length)) (Oc N (b.take 22) c (fun f=>(cond (!f) (r0 [(.int .i64 0),(.int .i64 0)]) (cond (Nat.ble 22 (b.length)) (JU N (b.take 22) c (fun g i=>(An .i64 (b.drop 19) fun d=>(An .i64 (b.drop 20) fun e=>(cond (d==0) (r0 [(.int .i64 d),(.int .i64 (Bj e g))]) (cond (d==2) (r0 [(.int .i64 d),(.int .i64 (Bj e i))]) (r0 [(.int .i64 d),(.int .i64 e)]))))))) none)))) none)
def Wv:=(Ah (@JV R)).1
theorem FW:@Wv R=@JV R:=(Ah _).2
def Aqt:D9:=[(48,Yj N),(136,mD N)]
def ja (F:KF R):LA→O R:=(fun l=>F (.pagg l false) [])
theorem jb (b:LA) (c:Bool) (F:KF R):Ch (Aqt N) N8 N 84 [(.pagg b c)] [] F=(Wv N b c (ja F)):=by
 rw[FW]
 kernel_rfl
def dC (a:LA) (h:Am) (k:KF R):O R :=
 match a,h with
 | [(.pagg b c)],[]=>(Wv N b c (ja k))
 | _,_=>none
theorem jc:Ap N 84 @dC:=by
 intro R Q a h k j;unfold dC;split;exact A0 (jb ..) (jb ..) ⟨Yk N,mE N,trivial⟩;exact A3
def Aj8:=A1 (jc N)
def Aj9:=Ce (jc N)
def FX (N:Nat) (r0:Int→O R) (f g:Int) (d:Bool) (c:LA) (e:Bool) (b:LA) (l:Bool):O R :=
 (cond l (An .i64 (b.drop 1) fun m=>(r0 (wrap .i64 ((wrap .i64 (f+m)) - 1)))) (An .i64 b fun n=>(cond ((n==2)==true) (An .i64 (b.drop 1) fun o=>(cond (cond true (decide (o≤g)) false) (An .i64 (c.drop 12) fun p=>(An .i64 (b.drop 1) fun q=>(r0 (wrap .i64 ((wrap .i64 ((wrap .i64 (f+p))+q)) - 1))))) (r0 (-1)))) (r0 (-1)))))
def Zx (N:Nat) (r0:Int→O R) (f g:Int) (d:Bool) (c:LA) (e:Bool) (b:LA) (q2:Bool→O R) (i:Bool):O R :=
 (cond i (An .i64 (b.drop 1) fun r=>(r0 (wrap .i64 (r - 1)))) (An .i64 b fun s=>(cond ((s==1)==true) (An .i64 (b.drop 1) fun t=>(An .i64 (c.drop 12) fun u=>(q2 (cond true (decide (t≤u)) false)))) (q2 false))))
def FY (r0:Int→O R) (f g:Int) (d:Bool) (c:LA) (e:Bool) (b:LA) (i:Bool):O R:=(Zx N r0 f g d c e b (fun l=>(FX N r0 f g d c e b l)) i)
def Rw (r0:Int→O R) (d:Bool) (c:LA) (e:Bool) (b:LA) (q1:Int→Int→Bool→O R):O R :=
 (cond (Nat.ble 22 (c.length)) (JU N (c.take 22) d (fun f g=>(An .i64 b fun v=>(cond ((v==0)==true) (An .i64 (b.drop 1) fun w=>(q1 f g (cond true (decide (w≤f)) false))) (q1 f g false))))) none)
def Oh (r0:Int→O R) (d:Bool) (c:LA) (e:Bool) (b:LA):O R:=(Rw N r0 d c e b (fun f g i=>(FY N r0 f g d c e b i)))
def Up (r0:Int→O R) (q0:O R) (c:LA) (d:Bool) (b:LA) (e:Bool):O R :=
 (cond (Nat.ble 22 (c.length)) (Oc N (c.take 22) d (fun x=>(cond ((!x)==false) (An .i64 (b.drop 1) fun y=>(cond (cond false true (decide (y<1))) (r0 (-1)) q0)) (r0 (-1))))) none)
def K5:=(Ah (fun (N:Nat) (c:LA) (d:Bool) (b:LA) (e:Bool) (r0:Int→O R)=>(Up N r0 (Oh N r0 d c e b) c d b e))).1
theorem Zy (c d b e r0):(@K5 R N c d b e r0)=(Up N r0 (Oh N r0 d c e b) c d b e):=by rw[K5,(Ah _).2]
def dD:Hints:={ H:=(hS hL (hJ [2,3] hL (hS hL (hS (hS (hJ [2,3,5,6,20] hL (hS hL (hJ [2,3,5,6,33] hL hL))) hL) hL)))) }
def jd:D9:=[(48,Yj N),(136,mD N)]
def FZ (F:KF R):=Jw Tryz.f167 dD (jd N) [] N F
def F8 (F:KF R):Int→O R:=(fun z=>F (iv z) [])
def Afc (f g:Int) (d:Bool) (c:LA) (e:Bool) (b:LA) (l:Bool):St:=⟨[(2,(op 0)),(3,(op 1)),(5,(iv f)),(6,(iv g)),(33,(.bool l))],(hq [(bP d 0 c),(bP e 0 b)])⟩
def Afd (F:KF R):=FZ N F [1,1,1,0,0,1,1,1] []
def Afe (f g:Int) (d:Bool) (c:LA) (e:Bool) (b:LA) (i:Bool):St:=⟨[(2,(op 0)),(3,(op 1)),(5,(iv f)),(6,(iv g)),(20,(.bool i))],(hq [(bP d 0 c),(bP e 0 b)])⟩
def Aff (F:KF R):=FZ N F [1,1,1,0,0,1] []
def Afg (d:Bool) (c:LA) (e:Bool) (b:LA):St:=⟨[(2,(op 0)),(3,(op 1))],(hq [(bP d 0 c),(bP e 0 b)])⟩
def Afh (F:KF R):=FZ N F [1,1] []
theorem pR (F:KF R) (f g:Int) (d:Bool) (c:LA) (e:Bool) (b:LA):∀ (l:Bool),A9 (Afd N F) (Afc f g d c e b l)=(FX N (F8 F) f g d c e b l):=by
 intro l
 kernel_rfl
theorem pS (F:KF R) (f g:Int) (d:Bool) (c:LA) (e:Bool) (b:LA):∀ (i:Bool),A9 (Aff N F) (Afe f g d c e b i)=(FY N (F8 F) f g d c e b i):=by
 intro i
 exact Eq.trans (by kernel_rfl) (Bp (Zx N (F8 F) f g d c e b · i) (funext fun l=>(At ..).trans (pR N F f g d c e b l)):_)
theorem pT (F:KF R) (d:Bool) (c:LA) (e:Bool) (b:LA):A9 (Afh N F) (Afg d c e b)=(Oh N (F8 F) d c e b):=by
 exact Eq.trans (by kernel_rfl) (Bp (Rw N (F8 F) d c e b ·) (funext fun f=>funext fun g=>funext fun i=>(At ..).trans (pS N F f g d c e b i)):_)
theorem dE (c:LA) (d:Bool) (b:LA) (e:Bool) (F:KF R):Ch (jd N) dD N 167 [(.pagg c d),(.pagg b e)] [] F=(K5 N c d b e (F8 F)):=by
 rw[Zy]
 exact Eq.trans (by kernel_rfl) (Bp (Up N (F8 F) · c d b e) ((At ..).trans (pT N F d c e b)):_)
def WT (a:LA) (h:Am) (k:KF R):O R :=
 match a,h with
 | [(.pagg c d),(.pagg b e)],[]=>(K5 N c d b e (F8 k))
 | _,_=>none
theorem dF:Ap N 167 @WT:=by
 intro R Q a h k j;unfold WT;split;exact A0 (dE ..) (dE ..) ⟨Yk N,mE N,trivial⟩;exact A3
def Afi:=A1 (dF N)
def Afj:=Ce (dF N)
def TN (N:Nat) (r0:LA→Nat→O R) (d:Bool) (c:LA) (e:Bool) (b:LA) (g:Bool) (f:LA):O R :=
 (cond g (r0 (List.take 4 ((f.take 2)++[(.int .i64 1),(.int .i64 1)])) 2) (An .i64 (b.drop 1) fun o=>(An .i64 (c.drop 11) fun p=>(cond (decide (o≥p)) (r0 (List.take 4 ((f.take 2)++[(.int .i64 2),(.int .i64 1)])) 2) (r0 (f.take 2) 1)))))
def dG (r0:LA→Nat→O R) (q0:Bool→LA→O R) (c:LA) (d:Bool) (b:LA) (e:Bool):O R :=
 (cond (Nat.ble 22 (c.length)) (cond (Nat.ble 2 (b.length)) (cond ((!e)||(Bb (b.take 2))) (K5 N (c.take 22) d (b.take 2) false (fun q=>(cond (decide (q<0)) (r0 [] 0) (cond (Nat.ble 22 (c.length)) (JU N (c.take 22) d (fun l m=>(An .i64 b fun i=>(cond (i==0) (An .i64 (b.drop 1) fun n=>(An .i64 (b.drop 1) fun r=>(An .i64 (c.drop 11) fun s=>(cond ((decide (r≥s))==true) (An .i64 (c.drop 12) fun t=>(q0 (cond true (decide (t>0)) false) [(.int .i64 0),(.int .i64 (Bj (wrap .i64 (n+1)) l))])) (q0 false [(.int .i64 0),(.int .i64 (Bj (wrap .i64 (n+1)) l))]))))) (cond (i==1) (An .i64 (b.drop 1) fun u=>(An .i64 (c.drop 12) fun v=>(cond (decide (u<v)) (An .i64 (b.drop 1) fun w=>(r0 [(.int .i64 1),(.int .i64 (wrap .i64 (w+1)))] 1)) (r0 [(.int .i64 2),(.int .i64 1)] 1)))) (cond (i==2) (An .i64 (b.drop 1) fun x=>(An .i64 (c.drop 10) fun y=>(cond (decide (x≥y)) (An .i64 (b.drop 1) fun z=>(r0 [(.int .i64 0),(.int .i64 1),(.int .i64 2),(.int .i64 (Bj (wrap .i64 (z+1)) m))] 2)) (An .i64 (b.drop 1) fun aa=>(r0 [(.int .i64 2),(.int .i64 (Bj (wrap .i64 (aa+1)) m))] 1))))) (r0 [] 0))))))) none)))) none) none) none)
def Xi:=(Ah (fun (N:Nat) (c:LA) (d:Bool) (b:LA) (e:Bool) (r0:LA→Nat→O R)=>(dG N r0 (fun g f=>(TN N r0 d c e b g f)) c d b e))).1
theorem dH (c d b e r0):(@Xi R N c d b e r0)=(dG N r0 (fun g f=>(TN N r0 d c e b g f)) c d b e):=by rw[Xi,(Ah _).2]
def Afk:Hints:={ H:=(hS hL (hS hL (hS hL (hS hL (hS (hS hL (hS (hS hL (hS (hS hL (hJ [2,3,7,39] hL hL)) hL)) hL)) hL))))),nils:=[(4,2),(7,2)],modes:=[(1,2)] }
def Ann:D9:=[(167,Afi N),(136,mD N)]
def A0b (F:KF R):=Jw Tryz.f118 Afk (Ann N) [] N F
def TO (F:KF R):LA→Nat→O R:=(fun ab ac=>F (.imm ab ac 2 false false) [])
def A0c (d:Bool) (c:LA) (e:Bool) (b:LA) (g:Bool) (f:LA):St:=⟨[(2,(op 0)),(3,(op 1)),(7,(.own 300002 0 1)),(39,(.bool g))],(hq [(bP d 0 c),(bP e 0 b),(bQ 2 f)])⟩
def A0d (F:KF R):=A0b N F [1,1,1,1,0,1,0,1,0,1,1] []
theorem Aka (F:KF R) (d:Bool) (c:LA) (e:Bool) (b:LA):∀ (g:Bool) (f:LA),A9 (A0d N F) (A0c d c e b g f)=(TN N (TO F) d c e b g f):=by
 intro g f
 kernel_rfl
theorem Afl (c:LA) (d:Bool) (b:LA) (e:Bool) (F:KF R):Ch (Ann N) Afk N 118 [(.pagg c d),(.pagg b e)] [] F=(Xi N c d b e (TO F)):=by
 rw[dH]
 exact Eq.trans (by kernel_rfl) (Bp (dG N (TO F) · c d b e) (funext fun g=>funext fun f=>(At ..).trans (Aka N F d c e b g f)):_)
def wq (a:LA) (h:Am) (k:KF R):O R :=
 match a,h with
 | [(.pagg c d),(.pagg b e)],[]=>(Xi N c d b e (TO k))
 | _,_=>none
theorem Afm:Ap N 118 @wq:=by
 intro R Q a h k j;unfold wq;split;exact A0 (Afl ..) (Afl ..) ⟨Afj N,mE N,trivial⟩;exact A3
def A0e:=A1 (Afm N)
def A0f:=Ce (Afm N)
def ws (N:Nat) (c:LA) (d:Bool) (b:Int) (r0:Bool→O R):O R :=
 (An .i64 c fun e=>(r0 (e==b)))
def Lp:=(Ah (@ws R)).1
theorem F_:@Lp R=@ws R:=(Ah _).2
def je (b:Int) (F:KF R):Bool→O R:=(fun f=>F (.bool f) [(100000,⟨false,false,false,false,0,[(iv b)],false⟩)])
theorem jf (c:LA) (d:Bool) (b:Int) (F:KF R):Ch [] Dj N 120 [(.pagg c d),(.optr 100000 0)] [(100000,⟨false,false,false,false,0,[(iv b)],false⟩)] F=(Lp N c d b (je b F)):=by
 rw[F_]
 kernel_rfl
def dI (a:LA) (h:Am) (k:KF R):O R :=
 match a,h with
 | [(.pagg c d),(.optr 100000 0)],[(100000,⟨false,false,false,false,0,[(.int .i64 b)],false⟩)]=>(Lp N c d b (je b k))
 | _,_=>none
theorem jg:Ap N 120 @dI:=by
 intro R Q a h k j;unfold dI;split;exact A0 (jf ..) (jf ..) trivial;exact A3
def Akb:=A1 (jg N)
def Akc:=Ce (jg N)
def Bd (r0:Int→O R) (c:LA) (d:Nat) (f e:Bool) (b:Int) (k0:Int→Int→O R) (i g:Int):O R :=
 (cond (decide (g<i)) (cond (Ac g d) (cond (Nat.ble 2 ((c.drop ((g.toNat)*2)).length)) (cond ((!e)||(Bb ((c.drop ((g.toNat)*2)).take 2))) (Lp N ((c.drop ((g.toNat)*2)).take 2) false b (fun l=>(cond l (r0 g) (k0 i (wrap .i64 (g+1)))))) none) none) none) (r0 (-1)))
def Ax (r0:Int→O R) (c:LA) (d:Nat) (f e:Bool) (b:Int):Nat→Int→Int→O R
 | 0,_,_=>none
 | n+1,i,g=>(Bd N r0 c d f e b (Ax r0 c d f e b n) i g)
def Bg (N:Nat) (r0:Int→O R) (q0:Int→Int→O R) (c:LA) (d:Nat) (f e:Bool) (b:Int):O R :=
 (q0 ((d:Nat):Int) 0)
def Aq:=(Ah (fun (N:Nat) (c:LA) (d:Nat) (f e:Bool) (b:Int) (r0:Int→O R)=>(Bg N r0 (fun i g=>(Ax N r0 c d f e b N i g)) c d f e b))).1
theorem Be (c d f e b r0):(@Aq R N c d f e b r0)=(Bg N r0 (fun i g=>(Ax N r0 c d f e b N i g)) c d f e b):=by rw[Aq,(Ah _).2]
def Do:Hints:={ H:=(hS hL (hS (hS hL (hS (hP [0,1,7,8] hL) hL)) hL)) }
def Dw:D9:=[(120,Akb N)]
def Ic (F:KF R):=Jw Tryz.f119 Do (Dw N) [100000] N F
def A8 (b:Int) (F:KF R):Int→O R:=(fun m=>F (iv m) [(100000,⟨false,false,false,false,0,[(iv b)],false⟩)])
def If (c:LA) (d:Nat) (f e:Bool) (b i g:Int):St:=⟨[(0,(.imm c d 2 f e)),(1,(.fn 120 [(.optr 100000 0)])),(7,(iv i)),(8,(iv g))],[(100000,⟨false,false,false,false,0,[(iv b)],false⟩)]⟩
def Ig (F:KF R):=Ic N F [1,0,1,0] []
theorem C4 (F:KF R) (c:LA) (d:Nat) (f e:Bool) (b:Int):∀ (n:Nat) (i g:Int),Ao (Ig N F) n (If c d f e b i g)=(Ax N (A8 b F) c d f e b n i g)
 | 0,_,_=>by kernel_rfl
 | n+1,i,g=>Eq.trans (by kernel_rfl) (Bp (Bd N (A8 b F) c d f e b · i g) (funext fun i=>funext fun g=>(C4 F c d f e b n i g)):_)
theorem Dp (c:LA) (d:Nat) (f e:Bool) (b:Int) (F:KF R):Ch (Dw N) Do N 119 [(.imm c d 2 f e),(.fn 120 [(.optr 100000 0)])] [(100000,⟨false,false,false,false,0,[(iv b)],false⟩)] F=(Aq N c d f e b (A8 b F)):=by
 rw[Be]
 exact Eq.trans (by kernel_rfl) (Bp (Bg N (A8 b F) · c d f e b) (funext fun i=>funext fun g=>(Aj ..).trans (C4 N F c d f e b N i g)):_)
def Dk (a:LA) (h:Am) (k:KF R):O R :=
 match a,h with
 | [(.imm c d 2 f e),(.fn 120 [(.optr 100000 0)])],[(100000,⟨false,false,false,false,0,[(.int .i64 b)],false⟩)]=>(Aq N c d f e b (A8 b k))
 | _,_=>none
theorem Dq:Ap N 119 @Dk:=by
 intro R Q a h k j;unfold Dk;split;exact A0 (Dp ..) (Dp ..) ⟨Akc N,trivial⟩;exact A3
def Ih:=A1 (Dq N)
def Ii:=Ce (Dq N)
end
end Gx

namespace Gx
open Go Go.Proofs
open IntKind (wrap)
set_option maxRecDepth 100000
noncomputable section
variable {R:Type} (N:Nat)
def JW (r0:Nat→Int→Int→LA→O R) (f:LA) (c:Nat) (g i d:Bool) (b q:LA) (k0:Nat→Int→Int→LA→LA→O R) (l:Nat) (o m:Int) (p e:LA):O R :=
 (cond (decide (m<o)) (cond (Ac m c) (An .i64 (f.drop ((m.toNat)*1)) fun u=>(cond (Nat.ble 22 (b.length)) (cond (Nat.ble 2 (e.length)) (Xi N (b.take 22) d (e.take 2) false (fun s t=>(Aq N s t false false u (fun r=>(cond ((decide (r<0))==false) (cond ((u != 0)==true) (cond (cond false true (cond true (mm q m) false)) (r0 0 m 16 []) (cond (Ac r t) (cond (Nat.ble 2 ((s.drop ((r.toNat)*2)).length)) (cond ((Nat.beq (((s.drop ((r.toNat)*2)).take 2).length) 2)&&((Nat.ble 2 (e.length))&&(!false))) (cond (Nat.ble 2 ((setCells e 0 ((s.drop ((r.toNat)*2)).take 2)).length)) (cond ((Nat.beq (((setCells e 0 ((s.drop ((r.toNat)*2)).take 2)).take 2).length) 2)&&(Nat.ble 2 2)) (cond ((Nat.ble (l+1) 140737488355328)&&(Nat.ble ((l+1)*16) 140737488355328)) (k0 (l+1) o (wrap .i64 (m+1)) ((p.take (l*2))++((setCells [(.int .i64 0),(.int .i64 0)] 0 ((setCells e 0 ((s.drop ((r.toNat)*2)).take 2)).take 2)).take 2)) (setCells e 0 ((s.drop ((r.toNat)*2)).take 2))) none) none) none) none) none) none)) (cond (Ac r t) (cond (Nat.ble 2 ((s.drop ((r.toNat)*2)).length)) (cond ((Nat.beq (((s.drop ((r.toNat)*2)).take 2).length) 2)&&((Nat.ble 2 (e.length))&&(!false))) (cond (Nat.ble 2 ((setCells e 0 ((s.drop ((r.toNat)*2)).take 2)).length)) (cond ((Nat.beq (((setCells e 0 ((s.drop ((r.toNat)*2)).take 2)).take 2).length) 2)&&(Nat.ble 2 2)) (cond ((Nat.ble (l+1) 140737488355328)&&(Nat.ble ((l+1)*16) 140737488355328)) (k0 (l+1) o (wrap .i64 (m+1)) ((p.take (l*2))++((setCells [(.int .i64 0),(.int .i64 0)] 0 ((setCells e 0 ((s.drop ((r.toNat)*2)).take 2)).take 2)).take 2)) (setCells e 0 ((s.drop ((r.toNat)*2)).take 2))) none) none) none) none) none) none)) (r0 0 m 16 [])))))) none) none)) none) (r0 l ((c:Nat):Int) 0 p))
def Oi (r0:Nat→Int→Int→LA→O R) (f:LA) (c:Nat) (g i d:Bool) (b q:LA):Nat→Nat→Int→Int→LA→LA→O R
 | 0,_,_,_,_,_=>none
 | n+1,l,o,m,p,e=>(JW N r0 f c g i d b q (Oi r0 f c g i d b q n) l o m p e)
def dJ (r0:Nat→Int→Int→LA→O R) (q0:LA→Nat→Int→Int→LA→LA→O R) (b:LA) (d:Bool) (f:LA) (c:Nat) (g i:Bool):O R :=
 (cond (Nat.ble 22 (b.length)) (Oc N (b.take 22) d (fun w=>(cond (!w) (r0 0 0 1 []) (cond (Nat.ble 22 (b.length)) (TM N (b.take 22) d (fun q=>(cond ((decide ((0:Int)≤(0:Int)))&&((decide (0≤((c:Nat):Int)))&&((decide (((c:Nat):Int)≤140737488355328))&&(decide ((((c:Nat):Int)*((16:Nat):Int))≤140737488355328))))) (cond (Nat.ble 22 (b.length)) (Wv N (b.take 22) d (fun v=>(cond ((Nat.beq (v.length) 2)&&((Nat.ble 2 2)&&(!false))) (q0 q 0 ((c:Nat):Int) 0 [] (setCells [(.int .i64 0),(.int .i64 0)] 0 v)) none))) none) none))) none)))) none)
def JX:=(Ah (fun (N:Nat) (b:LA) (d:Bool) (f:LA) (c:Nat) (g i:Bool) (r0:Nat→Int→Int→LA→O R)=>(dJ N r0 (fun q l o m p e=>(Oi N r0 f c g i d b q N l o m p e)) b d f c g i))).1
theorem dK (b d f c g i r0):(@JX R N b d f c g i r0)=(dJ N r0 (fun q l o m p e=>(Oi N r0 f c g i d b q N l o m p e)) b d f c g i):=by rw[JX,(Ah _).2]
def Afn:Hints:={ H:=(hS hL (hS hL (hS hL (hS hL (hS hL (hS (hS hL (hS (hP [1,2,7,8,9,24,25,26] hL) hL)) hL)))))),nils:=[(4,2)],modes:=[(2,2),(0,0),(0,0)] }
def Ano:D9:=[(48,Yj N),(117,Az9 N),(84,Aj8 N),(118,A0e N),(119,Ih N)]
def A0g (F:KF R):=Jw Tryz.f64 Afn (Ano N) [] N F
def F' (F:KF R):Nat→Int→Int→LA→O R:=(fun x y z aa=>F (.tup [(.own 300000 0 x),(iv y),(iv z)]) (hq [(bQ 2 aa)]))
def A0h (f:LA) (c:Nat) (g i d:Bool) (b q:LA) (l:Nat) (o m:Int) (p e:LA):St:=⟨[(1,(.imm f c 1 g i)),(2,(op 0)),(7,(.omap 300001)),(8,(.own 300002 0 l)),(9,(op 3)),(24,(.imm f c 1 g i)),(25,(iv o)),(26,(iv m))],(hq [(bP d 0 b),⟨false,false,true,false,0,q,true⟩,(bQ 2 p),(bQ 0 e)])⟩
def A0i (F:KF R):=A0g N F [1,1,1,1,1,0,1,0] []
theorem jh (F:KF R) (f:LA) (c:Nat) (g i d:Bool) (b q:LA):∀ (n l:Nat) (o m:Int) (p e:LA),Ao (A0i N F) n (A0h f c g i d b q l o m p e)=(Oi N (F' F) f c g i d b q n l o m p e)
 | 0,_,_,_,_,_=>by kernel_rfl
 | n+1,l,o,m,p,e=>Eq.trans (by kernel_rfl) (Bp (JW N (F' F) f c g i d b q · l o m p e) (funext fun l=>funext fun o=>funext fun m=>funext fun p=>funext fun e=>(jh F f c g i d b q n l o m p e)):_)
theorem Afo (b:LA) (d:Bool) (f:LA) (c:Nat) (g i:Bool) (F:KF R):Ch (Ano N) Afn N 64 [(.pagg b d),(.imm f c 1 g i)] [] F=(JX N b d f c g i (F' F)):=by
 rw[dK]
 exact Eq.trans (by kernel_rfl) (Bp (dJ N (F' F) · b d f c g i) (funext fun q=>funext fun l=>funext fun o=>funext fun m=>funext fun p=>funext fun e=>(Aj ..).trans (jh N F f c g i d b q N l o m p e)):_)
def wt (a:LA) (h:Am) (k:KF R):O R :=
 match a,h with
 | [(.pagg b d),(.imm f c 1 g i)],[]=>(JX N b d f c g i (F' k))
 | _,_=>none
theorem Afp:Ap N 64 @wt:=by
 intro R Q a h k j;unfold wt;split;exact A0 (Afo ..) (Afo ..) ⟨Yk N,A0a N,Aj9 N,A0f N,Ii N,trivial⟩;exact A3
def Afq:=A1 (Afp N)
def Afr:=Ce (Afp N)
def Rb (N:Nat) (k0:Nat→Bool→Int→LA→LA→O R) (r0:Nat→LA→O R) (e:LA) (f:Nat) (i l:Bool) (g:Nat) (c:Int) (m:Bool) (b d o:LA) (p:Int) (s:Bool) (t:Int) (u:Bool):O R :=
 (cond u (An .i64 (b.drop 2) fun v=>(An .i64 o fun w=>(An .i64 (b.drop 7) fun x=>(An .i64 (b.drop 3) fun y=>(An .i64 (o.drop 1) fun z=>(An .i64 (b.drop 6) fun aa=>(cond (Ac p g) (cond ((Nat.beq 2 2)&&((Nat.ble ((0+((p.toNat)*2))+2) (d.length))&&(!false))) (cond (Ac p g) (cond (Nat.ble 2 (((Cu d (0+((p.toNat)*2)) [(.int .i64 (Gc v (wrap .i64 (w - x)))),(.int .i64 (Bj y (wrap .i64 (z+aa))))]).drop (0+((p.toNat)*2))).length)) (cond ((Nat.beq ((((Cu d (0+((p.toNat)*2)) [(.int .i64 (Gc v (wrap .i64 (w - x)))),(.int .i64 (Bj y (wrap .i64 (z+aa))))]).drop (0+((p.toNat)*2))).take 2).length) 2)&&((Nat.ble 2 (o.length))&&(!false))) (k0 g s (wrap .i64 (t+1)) (Cu d (0+((p.toNat)*2)) [(.int .i64 (Gc v (wrap .i64 (w - x)))),(.int .i64 (Bj y (wrap .i64 (z+aa))))]) (setCells o 0 (((Cu d (0+((p.toNat)*2)) [(.int .i64 (Gc v (wrap .i64 (w - x)))),(.int .i64 (Bj y (wrap .i64 (z+aa))))]).drop (0+((p.toNat)*2))).take 2))) none) none) none) none) none))))))) (cond s (An .i64 (b.drop 2) fun ab=>(An .i64 (b.drop 8) fun ac=>(cond (Ac p g) (cond ((Nat.beq 2 2)&&((Nat.ble ((0+((p.toNat)*2))+2) (d.length))&&(!false))) (cond (Ac p g) (cond (Nat.ble 2 (((Cu d (0+((p.toNat)*2)) [(.int .i64 ab),(.int .i64 ac)]).drop (0+((p.toNat)*2))).length)) (cond ((Nat.beq ((((Cu d (0+((p.toNat)*2)) [(.int .i64 ab),(.int .i64 ac)]).drop (0+((p.toNat)*2))).take 2).length) 2)&&((Nat.ble 2 (o.length))&&(!false))) (k0 g s (wrap .i64 (t+1)) (Cu d (0+((p.toNat)*2)) [(.int .i64 ab),(.int .i64 ac)]) (setCells o 0 (((Cu d (0+((p.toNat)*2)) [(.int .i64 ab),(.int .i64 ac)]).drop (0+((p.toNat)*2))).take 2))) none) none) none) none) none))) (cond (Ac p g) (cond (Nat.ble 2 ((d.drop (0+((p.toNat)*2))).length)) (cond ((Nat.beq (((d.drop (0+((p.toNat)*2))).take 2).length) 2)&&((Nat.ble 2 (o.length))&&(!false))) (k0 g s (wrap .i64 (t+1)) d (setCells o 0 ((d.drop (0+((p.toNat)*2))).take 2))) none) none) none)))
def Uq (N:Nat) (r0:Nat→LA→O R) (e:LA) (f:Nat) (i l:Bool) (c:Int) (m:Bool) (b:LA) (k0:Nat→Bool→Int→LA→LA→O R) (q1:Int→Bool→Int→Bool→O R) (g:Nat) (r:Bool) (q:Int) (d o:LA):O R :=
 (cond (decide (q<c)) (cond (Ac q f) (An .i64 (e.drop ((q.toNat)*1)) fun ad=>(cond ((ad==2)==true) (q1 q (ad==2) q (cond true r false)) (q1 q (ad==2) q false))) none) (r0 g d))
def Fu (r0:Nat→LA→O R) (e:LA) (f:Nat) (i l:Bool) (c:Int) (m:Bool) (b:LA):Nat→Nat→Bool→Int→LA→LA→O R
 | 0,_,_,_,_,_=>none
 | n+1,g,r,q,d,o=>(Uq N r0 e f i l c m b (Fu r0 e f i l c m b n) (fun p s t u=>(Rb N (Fu r0 e f i l c m b n) r0 e f i l g c m b d o p s t u)) g r q d o)
def JY (N:Nat) (r0:Nat→LA→O R) (q0:Nat→Bool→Int→LA→LA→O R) (b:LA) (m:Bool) (c:Int) (e:LA) (f:Nat) (i l:Bool):O R :=
 (cond ((decide (0≤c))&&((decide (c≤c))&&((decide (c≤140737488355328))&&(decide ((c*((16:Nat):Int))≤140737488355328))))) (An .i64 (b.drop 19) fun ae=>(An .i64 (b.drop 21) fun af=>(An .i64 (b.drop 21) fun ag=>(q0 (c.toNat) (ae==2) 0 (List.flatten (List.replicate (c.toNat) ([(.int .i64 0),(.int .i64 0)]:LA))) [(.int .i64 af),(.int .i64 ag)])))) none)
def So:=(Ah (fun (N:Nat) (b:LA) (m:Bool) (c:Int) (e:LA) (f:Nat) (i l:Bool) (r0:Nat→LA→O R)=>(JY N r0 (fun g r q d o=>(Fu N r0 e f i l c m b N g r q d o)) b m c e f i l))).1
theorem GA (b m c e f i l r0):(@So R N b m c e f i l r0)=(JY N r0 (fun g r q d o=>(Fu N r0 e f i l c m b N g r q d o)) b m c e f i l):=by rw[So,(Ah _).2]
def ji:Hints:={ H:=(hS hL (hS hL (hS hL (hS (hS hL (hS (hP [2,3,7,8,9,22,23] (hS hL (hS hL (hS (hS (hS hL (hS hL (hS (hJ [2,3,7,9,10,11,22,23,34] hL hL) hL))) hL) hL)))) hL)) hL)))),nils:=[(6,2)],modes:=[(2,2)] }
def jj (F:KF R):=Jw Tryz.f65 ji [] [] N F
def Jm (F:KF R):Nat→LA→O R:=(fun ah ai=>F (.own 300000 0 ah) (hq [(bQ 2 ai)]))
def Akd (e:LA) (f:Nat) (i l:Bool) (g:Nat) (c:Int) (m:Bool) (b d o:LA) (p:Int) (s:Bool) (t:Int) (u:Bool):St:=⟨[(2,(.imm e f 1 i l)),(3,(op 0)),(7,(.own 300001 0 g)),(9,(op 2)),(10,(iv p)),(11,(.bool s)),(22,(iv c)),(23,(iv t)),(34,(.bool u))],(hq [(bP m 0 b),(bQ 2 d),(bQ 0 o)])⟩
def Ake (F:KF R) (Q0:St→O R):=jj N F [1,1,1,0,1,0,0,1,1,0,0,1,1,0,1] [Q0]
def jk (e:LA) (f:Nat) (i l:Bool) (c:Int) (m:Bool) (b:LA) (g:Nat) (r:Bool) (q:Int) (d o:LA):St:=⟨[(2,(.imm e f 1 i l)),(3,(op 0)),(7,(.own 300001 0 g)),(8,(.bool r)),(9,(op 2)),(22,(iv c)),(23,(iv q))],(hq [(bP m 0 b),(bQ 2 d),(bQ 0 o)])⟩
def jl (F:KF R):=jj N F [1,1,1,0,1,0] []
theorem sq (Q0:St→O R) (F:KF R) (e:LA) (f:Nat) (i l:Bool) (g:Nat) (c:Int) (m:Bool) (b d o:LA):∀ (p:Int) (s:Bool) (t:Int) (u:Bool),A9 (Ake N F Q0) (Akd e f i l g c m b d o p s t u)=(Rb N (fun g r q d o=>Q0 (jk e f i l c m b g r q d o)) (Jm F) e f i l g c m b d o p s t u):=by
 intro p s t u
 kernel_rfl
theorem OP (F:KF R) (e:LA) (f:Nat) (i l:Bool) (c:Int) (m:Bool) (b:LA):∀ (n g:Nat) (r:Bool) (q:Int) (d o:LA),Ao (jl N F) n (jk e f i l c m b g r q d o)=(Fu N (Jm F) e f i l c m b n g r q d o)
 | 0,_,_,_,_,_=>by kernel_rfl
 | n+1,g,r,q,d,o=>have e0:=(funext fun g=>funext fun r=>funext fun q=>funext fun d=>funext fun o=>(OP F e f i l c m b n g r q d o))
  Eq.trans (by kernel_rfl) (VS (Uq N (Jm F) e f i l c m b · · g r q d o) e0 (funext fun p=>funext fun s=>funext fun t=>funext fun u=>(At ..).trans ((sq N (Ao (jl N F) n) F e f i l g c m b d o p s t u).trans (Bp (Rb N · (Jm F) e f i l g c m b d o p s t u) e0))):_)
theorem jm (b:LA) (m:Bool) (c:Int) (e:LA) (f:Nat) (i l:Bool) (F:KF R):Ch [] ji N 65 [(.pagg b m),(iv c),(.imm e f 1 i l)] [] F=(So N b m c e f i l (Jm F)):=by
 rw[GA]
 exact Eq.trans (by kernel_rfl) (Bp (JY N (Jm F) · b m c e f i l) (funext fun g=>funext fun r=>funext fun q=>funext fun d=>funext fun o=>(Aj ..).trans (OP N F e f i l c m b N g r q d o)):_)
def dL (a:LA) (h:Am) (k:KF R):O R :=
 match a,h with
 | [(.pagg b m),(.int .i64 c),(.imm e f 1 i l)],[]=>(So N b m c e f i l (Jm k))
 | _,_=>none
theorem jn:Ap N 65 @dL:=by
 intro R Q a h k j;unfold dL;split;exact A0 (jm ..) (jm ..) trivial;exact A3
def Akf:=A1 (jn N)
def Akg:=Ce (jn N)
def Rx (N:Nat) (r0:LA→O R) (d:Nat) (f:LA) (g:Nat) (i l m:Bool) (e:LA) (k0:Int→LA→O R) (b:Int) (c:LA):O R :=
 (cond (decide (b≥0)) (cond (Ac b g) (An .i64 (f.drop ((b.toNat)*1)) fun p=>(cond (p != 2) (k0 (wrap .i64 (b - 1)) c) (cond (Ac b d) (cond (Nat.ble 2 ((c.drop (0+((b.toNat)*2))).length)) (cond (Ac (wrap .i64 (b+1)) d) (cond (Nat.ble 2 ((c.drop (0+(((wrap .i64 (b+1)).toNat)*2))).length)) (cond ((Nat.beq (((c.drop (0+((b.toNat)*2))).take 2).length) 2)&&((Nat.ble 2 2)&&(!false))) (cond ((Nat.beq (((c.drop (0+(((wrap .i64 (b+1)).toNat)*2))).take 2).length) 2)&&((Nat.ble 2 2)&&(!false))) (cond (Ac (wrap .i64 (b+1)) g) (An .i64 (f.drop (((wrap .i64 (b+1)).toNat)*1)) fun q=>(cond (q != 2) (An .i64 (setCells [(.int .i64 0),(.int .i64 0)] 0 ((c.drop (0+((b.toNat)*2))).take 2)) fun r=>(An .i64 ((setCells [(.int .i64 0),(.int .i64 0)] 0 ((c.drop (0+((b.toNat)*2))).take 2)).drop 1) fun s=>(An .i64 (e.drop 9) fun t=>(cond (Ac b d) (cond ((Nat.beq 2 2)&&((Nat.ble ((0+((b.toNat)*2))+2) (c.length))&&(!false))) (k0 (wrap .i64 (b - 1)) (Cu c (0+((b.toNat)*2)) [(.int .i64 r),(.int .i64 (Bj s t))])) none) none)))) (An .i64 (setCells [(.int .i64 0),(.int .i64 0)] 0 ((c.drop (0+((b.toNat)*2))).take 2)) fun u=>(An .i64 (setCells [(.int .i64 0),(.int .i64 0)] 0 ((c.drop (0+(((wrap .i64 (b+1)).toNat)*2))).take 2)) fun v=>(An .i64 (e.drop 6) fun w=>(An .i64 ((setCells [(.int .i64 0),(.int .i64 0)] 0 ((c.drop (0+((b.toNat)*2))).take 2)).drop 1) fun x=>(An .i64 ((setCells [(.int .i64 0),(.int .i64 0)] 0 ((c.drop (0+(((wrap .i64 (b+1)).toNat)*2))).take 2)).drop 1) fun y=>(An .i64 (e.drop 7) fun z=>(cond (Ac b d) (cond ((Nat.beq 2 2)&&((Nat.ble ((0+((b.toNat)*2))+2) (c.length))&&(!false))) (k0 (wrap .i64 (b - 1)) (Cu c (0+((b.toNat)*2)) [(.int .i64 (Gc u (wrap .i64 (v - w)))),(.int .i64 (Bj x (wrap .i64 (y+z))))])) none) none))))))))) none) none) none) none) none) none) none))) none) (r0 c))
def Ht (r0:LA→O R) (d:Nat) (f:LA) (g:Nat) (i l m:Bool) (e:LA):Nat→Int→LA→O R
 | 0,_,_=>none
 | n+1,b,c=>(Rx N r0 d f g i l m e (Ht r0 d f g i l m e n) b c)
def CG (N:Nat) (r0:LA→O R) (q0:Int→LA→O R) (e:LA) (m:Bool) (d:Nat) (f:LA) (g:Nat) (i l:Bool) (o:LA):O R :=
 (q0 (wrap .i64 (((d:Nat):Int) - 2)) o)
def Oj:=(Ah (fun (N:Nat) (e:LA) (m:Bool) (d:Nat) (f:LA) (g:Nat) (i l:Bool) (o:LA) (r0:LA→O R)=>(CG N r0 (fun b c=>(Ht N r0 d f g i l m e N b c)) e m d f g i l o))).1
theorem Zz (e m d f g i l o r0):(@Oj R N e m d f g i l o r0)=(CG N r0 (fun b c=>(Ht N r0 d f g i l m e N b c)) e m d f g i l o):=by rw[Oj,(Ah _).2]
def dM:Hints:={ H:=(hS hL (hS hL (hS (hP [1,2,3,6] hL) hL))) }
def Afs (F:KF R):=Jw Tryz.f66 dM [] [100000] N F
def Ok (F:KF R):LA→O R:=(fun aa=>F (.tup []) [(100000,(bQ 2 aa))])
def Aft (d:Nat) (f:LA) (g:Nat) (i l m:Bool) (e:LA) (b:Int) (c:LA):St:=⟨[(1,(.own 100000 0 d)),(2,(.imm f g 1 i l)),(3,(op 0)),(6,(iv b))],[(100000,(bQ 2 c)),(300000,(bP m 0 e))]⟩
def Afu (F:KF R):=Afs N F [1,1,0] []
theorem JZ (F:KF R) (d:Nat) (f:LA) (g:Nat) (i l m:Bool) (e:LA):∀ (n:Nat) (b:Int) (c:LA),Ao (Afu N F) n (Aft d f g i l m e b c)=(Ht N (Ok F) d f g i l m e n b c)
 | 0,_,_=>by kernel_rfl
 | n+1,b,c=>Eq.trans (by kernel_rfl) (Bp (Rx N (Ok F) d f g i l m e · b c) (funext fun b=>funext fun c=>(JZ F d f g i l m e n b c)):_)
theorem dN (e:LA) (m:Bool) (d:Nat) (f:LA) (g:Nat) (i l:Bool) (o:LA) (F:KF R):Ch [] dM N 66 [(.pagg e m),(.own 100000 0 d),(.imm f g 1 i l)] [(100000,(bQ 2 o))] F=(Oj N e m d f g i l o (Ok F)):=by
 rw[Zz]
 exact Eq.trans (by kernel_rfl) (Bp (CG N (Ok F) · e m d f g i l o) (funext fun b=>funext fun c=>(Aj ..).trans (JZ N F d f g i l m e N b c)):_)
def WU (a:LA) (h:Am) (k:KF R):O R :=
 match a,h with
 | [(.pagg e m),(.own 100000 0 d),(.imm f g 1 i l)],[(100000,⟨false,false,true,false,2,o,false⟩)]=>(Oj N e m d f g i l o (Ok k))
 | _,_=>none
theorem dO:Ap N 66 @WU:=by
 intro R Q a h k j;unfold WU;split;exact A0 (dN ..) (dN ..) trivial;exact A3
def Afv:=A1 (dO N)
def Afw:=Ce (dO N)
def Ry (N:Nat) (r0:Nat→Int→LA→O R) (c:LA) (b:Nat) (e d:Bool) (o:Nat) (k1:Int→Int→LA→O R) (p g:Int) (m:LA):O R :=
 (cond (decide (g<p)) (cond (Ac g o) (cond (Nat.ble 2 ((m.drop (0+((g.toNat)*2))).length)) (cond ((Nat.beq (((m.drop (0+((g.toNat)*2))).take 2).length) 2)&&((Nat.ble 2 2)&&(!false))) (An .i64 (setCells [(.int .i64 0),(.int .i64 0)] 0 ((m.drop (0+((g.toNat)*2))).take 2)) fun q=>(An .i64 ((setCells [(.int .i64 0),(.int .i64 0)] 0 ((m.drop (0+((g.toNat)*2))).take 2)).drop 1) fun r=>(cond (decide (q>r)) (r0 0 7 []) (cond (Ac g b) (An .i64 (c.drop ((g.toNat)*1)) fun s=>(cond (s != 2) (cond (Ac g o) (cond ((Nat.beq 2 2)&&((Nat.ble ((0+((g.toNat)*2))+2) (m.length))&&(!false))) (k1 p (wrap .i64 (g+1)) (Cu m (0+((g.toNat)*2)) [(.int .i64 0),(.int .i64 0)])) none) none) (k1 p (wrap .i64 (g+1)) m))) none)))) none) none) none) (r0 o 0 m))
def Ki (r0:Nat→Int→LA→O R) (c:LA) (b:Nat) (e d:Bool) (o:Nat):Nat→Int→Int→LA→O R
 | 0,_,_,_=>none
 | n+1,p,g,m=>(Ry N r0 c b e d o (Ki r0 c b e d o n) p g m)
def Rz (r0:Nat→Int→LA→O R) (l:Int) (c:LA) (b:Nat) (e d i:Bool) (f:LA) (q1:Nat→Int→Int→LA→O R):O R :=
 (cond (Nat.ble 22 (f.length)) (So N (f.take 22) i l c b false d (fun o t=>(cond (Nat.ble 22 (f.length)) (Oj N (f.take 22) i o c b false d t (fun u=>(q1 o ((o:Nat):Int) 0 u))) none))) none)
def Kj (r0:Nat→Int→LA→O R) (l:Int) (c:LA) (b:Nat) (e d i:Bool) (f:LA):O R:=(Rz N r0 l c b e d i f (fun o p g m=>(Ki N r0 c b e d o N p g m)))
def Ur (r0:Nat→Int→LA→O R) (q0:O R) (f:LA) (i:Bool) (l:Int) (c:LA) (b:Nat) (e d:Bool):O R :=
 (cond (Nat.ble 22 (f.length)) (Uj N (f.take 22) i l (fun v=>(cond (!v) (r0 0 1 []) (cond (((b:Nat):Int) != l) (r0 0 4 []) (cond (Nat.ble 22 (f.length)) (JX N (f.take 22) i c b false d (fun ae af w ag=>(cond (w != 0) (r0 0 16 []) (An .i64 (f.drop 19) fun x=>(cond ((x==2)==true) (cond (Ac 0 b) (An .i64 c fun y=>(cond ((cond true (y != 2) false)==true) (An .i64 (f.drop 21) fun z=>(An .i64 (f.drop 9) fun aa=>(cond (cond true (decide (z>aa)) false) (r0 0 7 []) q0))) q0)) none) q0))))) none))))) none)
def K6:=(Ah (fun (N:Nat) (f:LA) (i:Bool) (l:Int) (c:LA) (b:Nat) (e d:Bool) (r0:Nat→Int→LA→O R)=>(Ur N r0 (Kj N r0 l c b e d i f) f i l c b e d))).1
theorem Z0 (f i l c b e d r0):(@K6 R N f i l c b e d r0)=(Ur N r0 (Kj N r0 l c b e d i f) f i l c b e d):=by rw[K6,(Ah _).2]
def dP:Hints:={ H:=(hS hL (hS hL (hS hL (hS hL (hJ [1,2,3] hL (hS hL (hS hL (hS (hS hL (hS (hP [2,11,55,56,57] hL) hL)) hL)))))))),nils:=[(6,2)],modes:=[(2,2),(0,0)] }
def jo:D9:=[(16,IY N),(64,Afq N),(65,Akf N),(66,Afv N)]
def dQ (F:KF R):=Jw Tryz.f29 dP (jo N) [] N F
def Hu (F:KF R):Nat→Int→LA→O R:=(fun ab ac ad=>F (.tup [(.own 300000 0 ab),(iv ac)]) (hq [(bQ 2 ad)]))
def Afx (c:LA) (b:Nat) (e d:Bool) (o:Nat) (p g:Int) (m:LA):St:=⟨[(2,(.imm c b 1 e d)),(11,(.own 300000 0 o)),(55,(.own 300000 0 o)),(56,(iv p)),(57,(iv g))],(hq [(bQ 2 m)])⟩
def Afy (F:KF R):=dQ N F [1,1,1,1,1,1,1,0,1,0] []
def Afz (l:Int) (c:LA) (b:Nat) (e d i:Bool) (f:LA):St:=⟨[(1,(iv l)),(2,(.imm c b 1 e d)),(3,(op 0))],(hq [(bP i 0 f)])⟩
def Af0 (F:KF R):=dQ N F [1,1,1,1,1] []
theorem J_ (F:KF R) (c:LA) (b:Nat) (e d:Bool) (o:Nat):∀ (n:Nat) (p g:Int) (m:LA),Ao (Afy N F) n (Afx c b e d o p g m)=(Ki N (Hu F) c b e d o n p g m)
 | 0,_,_,_=>by kernel_rfl
 | n+1,p,g,m=>Eq.trans (by kernel_rfl) (Bp (Ry N (Hu F) c b e d o · p g m) (funext fun p=>funext fun g=>funext fun m=>(J_ F c b e d o n p g m)):_)
theorem pU (F:KF R) (l:Int) (c:LA) (b:Nat) (e d i:Bool) (f:LA):A9 (Af0 N F) (Afz l c b e d i f)=(Kj N (Hu F) l c b e d i f):=by
 exact Eq.trans (by kernel_rfl) (Bp (Rz N (Hu F) l c b e d i f ·) (funext fun o=>funext fun p=>funext fun g=>funext fun m=>(Aj ..).trans (J_ N F c b e d o N p g m)):_)
theorem dR (f:LA) (i:Bool) (l:Int) (c:LA) (b:Nat) (e d:Bool) (F:KF R):Ch (jo N) dP N 29 [(.pagg f i),(iv l),(.imm c b 1 e d)] [] F=(K6 N f i l c b e d (Hu F)):=by
 rw[Z0]
 exact Eq.trans (by kernel_rfl) (Bp (Ur N (Hu F) · f i l c b e d) ((At ..).trans (pU N F l c b e d i f)):_)
def WV (a:LA) (h:Am) (k:KF R):O R :=
 match a,h with
 | [(.pagg f i),(.int .i64 l),(.imm c b 1 e d)],[]=>(K6 N f i l c b e d (Hu k))
 | _,_=>none
theorem dS:Ap N 29 @WV:=by
 intro R Q a h k j;unfold WV;split;exact A0 (dR ..) (dR ..) ⟨IZ N,Afr N,Akg N,Afw N,trivial⟩;exact A3
def dT:=A1 (dS N)
def dU:=Ce (dS N)
def TP (r0:Bool→O R):O R :=
 (Q6 N (fun c=>(cond ((Nat.beq 0 0)&&((Nat.beq (c.length) 22)&&(Nat.beq 22 22))) (cond (Nat.ble 22 (c.length)) (Cp N 35 (fun i=>(Of N (c.take 22) false i false (fun d l=>(cond ((Nat.beq 0 0)&&((Nat.beq (d.length) 3)&&(Nat.beq 3 3))) (cond (Nat.ble 22 (c.length)) (Cp N 30 (fun m=>(Tk N (c.take 22) false m false (fun e f n o=>(cond ((Nat.beq 0 0)&&((Nat.beq (e.length) 3)&&(Nat.beq 3 3))) (cond ((Nat.beq 0 0)&&((Nat.beq (f.length) 3)&&(Nat.beq 3 3))) (cond (Nat.ble 22 (c.length)) (K6 N (c.take 22) false 3 [(.int .i64 2),(.int .i64 2),(.int .i64 0)] 3 false true (fun g p b=>(cond (Nat.ble 3 (d.length)) (Cp N 85 (fun q=>(G8 N (d.take 3) false q false (fun r=>(cond ((r==0)==true) (cond ((cond true (l==0) false)==true) (cond (Nat.ble 3 (e.length)) (Cp N 3 (fun s=>(G8 N (e.take 3) false s false (fun t=>(cond ((cond true (t==0) false)==true) (cond (Nat.ble 3 (f.length)) (Cp N 5 (fun u=>(G8 N (f.take 3) false u false (fun v=>(cond ((cond true (v==0) false)==true) (cond ((cond true n false)==true) (cond ((cond true o false)==true) (cond ((cond true (p==0) false)==true) (cond ((cond true (((g:Nat):Int)==3) false)==true) (cond (Ac 0 g) (cond (Nat.ble 2 (b.length)) (cond ((Nat.ble 1 2)&&((Nat.beq ((b.take 2).length) 2)&&((Nat.beq 2 2)&&(true&&(!false))))) (An .i64 (b.take 2) fun w=>(An .i64 ((b.take 2).drop 1) fun x=>(cond ((cond true ((w==10)&&((x==17)&&true)) false)==true) (cond (Ac 1 g) (cond (Nat.ble 2 ((b.drop 2).length)) (cond ((Nat.ble 1 2)&&((Nat.beq (((b.drop 2).take 2).length) 2)&&((Nat.beq 2 2)&&(true&&(!false))))) (An .i64 ((b.drop 2).take 2) fun y=>(An .i64 (((b.drop 2).take 2).drop 1) fun z=>(r0 (cond true ((y==10)&&((z==15)&&true)) false)))) none) none) none) (r0 false)))) none) none) none) (r0 false)) (r0 false)) (r0 false)) (r0 false)) (r0 false)))))) none) (r0 false)))))) none) (r0 false)) (r0 false)))))) none))) none) none) none))))) none) none))))) none) none)))
def Tl:=(Ah (@TP R)).1
theorem WW:@Tl R=@TP R:=(Ah _).2
def Akh:D9:=[(46,sV N),(20,T9 N),(21,pL N),(23,Ae4 N),(29,dT N),(25,cY N)]
def dV (F:KF R):Bool→O R:=(fun aa=>F (.bool aa) [])
theorem dW (F:KF R):Ch (Akh N) Dj N 15 [] [] F=(Tl N (dV F)):=by
 rw[WW]
 kernel_rfl
def WX (a:LA) (h:Am) (k:KF R):O R :=
 match a,h with
 | [],[]=>(Tl N (dV k))
 | _,_=>none
theorem dX:Ap N 15 @WX:=by
 intro R Q a h k j;unfold WX;split;exact A0 (dW ..) (dW ..) ⟨sW N,Ua N,pM N,Ae5 N,dU N,cZ N,trivial⟩;exact A3
def Af1:=A1 (dX N)
def Af2:=Ce (dX N)
def Aqu (N:Nat) (b c d:Int) (r0:Bool→O R):O R :=
 (cond ((decide (b≥c))==true) (r0 (cond true (decide (b≤d)) false)) (r0 false))
def Kk:=(Ah (@Aqu R)).1
theorem Af3:@Kk R=@Aqu R:=(Ah _).2
def Anp (F:KF R):Bool→O R:=(fun e=>F (.bool e) [])
theorem Anq (b c d:Int) (F:KF R):Ch [] Dj N 51 [(iv b),(iv c),(iv d)] [] F=(Kk N b c d (Anp F)):=by
 rw[Af3]
 kernel_rfl
def Af4 (a:LA) (h:Am) (k:KF R):O R :=
 match a,h with
 | [(.int .i64 b),(.int .i64 c),(.int .i64 d)],[]=>(Kk N b c d (Anp k))
 | _,_=>none
theorem Anr:Ap N 51 @Af4:=by
 intro R Q a h k j;unfold Af4;split;exact A0 (Anq ..) (Anq ..) trivial;exact A3
def Ans:=A1 (Anr N)
def Ant:=Ce (Anr N)
def CH (N:Nat) (r0:Bool→O R) (c:Bool) (b:LA):O R :=
 (An .i64 (b.drop 19) fun d=>(cond ((d != 0)==true) (An .i64 (b.drop 19) fun e=>(cond ((cond true (e != 1) false)==true) (An .i64 (b.drop 19) fun f=>(cond ((cond true (f != 2) false)==false) (An .i64 (b.drop 20) fun g=>(cond ((cond false true (decide (g<1)))==false) (An .i64 (b.drop 20) fun i=>(cond (cond false true (decide (i>48))) (r0 false) (An .i64 (b.drop 19) fun l=>(cond ((l != 1)==false) (An .i64 (b.drop 20) fun m=>(An .i64 (b.drop 12) fun n=>(r0 (cond false true (decide (m≤n)))))) (r0 true))))) (r0 false))) (r0 false))) (An .i64 (b.drop 20) fun o=>(cond ((cond false true (decide (o<1)))==false) (An .i64 (b.drop 20) fun p=>(cond (cond false true (decide (p>48))) (r0 false) (An .i64 (b.drop 19) fun q=>(cond ((q != 1)==false) (An .i64 (b.drop 20) fun r=>(An .i64 (b.drop 12) fun s=>(r0 (cond false true (decide (r≤s)))))) (r0 true))))) (r0 false))))) (An .i64 (b.drop 20) fun t=>(cond ((cond false true (decide (t<1)))==false) (An .i64 (b.drop 20) fun u=>(cond (cond false true (decide (u>48))) (r0 false) (An .i64 (b.drop 19) fun v=>(cond ((v != 1)==false) (An .i64 (b.drop 20) fun w=>(An .i64 (b.drop 12) fun x=>(r0 (cond false true (decide (w≤x)))))) (r0 true))))) (r0 false)))))
def TQ (N:Nat) (r0:Bool→O R) (q0:O R) (b:LA) (c:Bool):O R :=
 (An .i64 (b.drop 10) fun y=>(cond ((decide (y<0))==false) (An .i64 (b.drop 10) fun z=>(cond ((cond false true (decide (z>24)))==false) (An .i64 (b.drop 11) fun aa=>(cond ((cond false true (decide (aa<0)))==false) (An .i64 (b.drop 11) fun ab=>(cond ((cond false true (decide (ab>24)))==false) (An .i64 (b.drop 12) fun ac=>(cond ((cond false true (decide (ac<0)))==false) (An .i64 (b.drop 12) fun ad=>(cond ((cond false true (decide (ad>24)))==false) (An .i64 (b.drop 15) fun ae=>(cond ((cond false true (decide (ae<0)))==false) (An .i64 (b.drop 15) fun af=>(cond (cond false true (decide (af>24))) (r0 false) q0)) (r0 false))) (r0 false))) (r0 false))) (r0 false))) (r0 false))) (r0 false))) (r0 false)))
def Kl:=(Ah (fun (N:Nat) (b:LA) (c:Bool) (r0:Bool→O R)=>(TQ N r0 (CH N r0 c b) b c))).1
theorem jq (b c r0):(@Kl R N b c r0)=(TQ N r0 (CH N r0 c b) b c):=by rw[Kl,(Ah _).2]
def pV:Hints:={ H:=(hS hL (hJ [1] hL hL)) }
def Aqv (F:KF R):=Jw Tryz.f52 pV [] [] N F
def CI (F:KF R):Bool→O R:=(fun ag=>F (.bool ag) [])
def Aqw (c:Bool) (b:LA):St:=⟨[(1,(op 0))],(hq [(bP c 0 b)])⟩
def Aqx (F:KF R):=Aqv N F [1,1] []
theorem ym (F:KF R) (c:Bool) (b:LA):A9 (Aqx N F) (Aqw c b)=(CH N (CI F) c b):=by
 kernel_rfl
theorem pW (b:LA) (c:Bool) (F:KF R):Ch [] pV N 52 [(.pagg b c)] [] F=(Kl N b c (CI F)):=by
 rw[jq]
 exact Eq.trans (by kernel_rfl) (Bp (TQ N (CI F) · b c) ((At ..).trans (ym N F c b)):_)
def jr (a:LA) (h:Am) (k:KF R):O R :=
 match a,h with
 | [(.pagg b c)],[]=>(Kl N b c (CI k))
 | _,_=>none
theorem pX:Ap N 52 @jr:=by
 intro R Q a h k j;unfold jr;split;exact A0 (pW ..) (pW ..) trivial;exact A3
def Pw:=A1 (pX N)
def Px:=Ce (pX N)
def Py (r0:Bool→O R) (d:Bool) (c:LA) (k0:Int→Int→O R) (e b:Int):O R :=
 (Co 2 (c.drop 4) fun ac g=>(cond (decide (b<((g:Nat):Int))) (Co 2 (c.drop 4) fun f i=>(cond (Ac b i) (cond (Nat.ble 2 ((f.drop ((b.toNat)*2)).length)) (cond ((!d)||(Bb ((f.drop ((b.toNat)*2)).take 2))) (cond ((Nat.beq (((f.drop ((b.toNat)*2)).take 2).length) 2)&&((Nat.ble 2 2)&&(!false))) (An .i64 (setCells [(.int .i64 0),(.int .i64 0)] 0 ((f.drop ((b.toNat)*2)).take 2)) fun l=>(Kk N l 1 1048576 (fun m=>(cond ((!m)==false) (An .i64 ((setCells [(.int .i64 0),(.int .i64 0)] 0 ((f.drop ((b.toNat)*2)).take 2)).drop 1) fun o=>(Kk N o (-1048576) 1048576 (fun p=>(cond ((cond false true (!p))==false) (cond ((decide (b>0))==true) (An .i64 ((setCells [(.int .i64 0),(.int .i64 0)] 0 ((f.drop ((b.toNat)*2)).take 2)).drop 1) fun q=>(Co 2 (c.drop 4) fun r s=>(cond (Ac (wrap .i64 (b - 1)) s) (An .i64 ((r.drop (((wrap .i64 (b - 1)).toNat)*2)).drop 1) fun t=>(cond ((cond false true (cond true (decide (q<t)) false))==false) (An .i64 (setCells [(.int .i64 0),(.int .i64 0)] 0 ((f.drop ((b.toNat)*2)).take 2)) fun u=>(cond (cond false true (decide (u>e))) (r0 false) (An .i64 (setCells [(.int .i64 0),(.int .i64 0)] 0 ((f.drop ((b.toNat)*2)).take 2)) fun v=>(k0 (wrap .i64 (e - v)) (wrap .i64 (b+1)))))) (r0 false))) none))) (An .i64 (setCells [(.int .i64 0),(.int .i64 0)] 0 ((f.drop ((b.toNat)*2)).take 2)) fun w=>(cond (cond false true (decide (w>e))) (r0 false) (An .i64 (setCells [(.int .i64 0),(.int .i64 0)] 0 ((f.drop ((b.toNat)*2)).take 2)) fun x=>(k0 (wrap .i64 (e - x)) (wrap .i64 (b+1))))))) (r0 false))))) (r0 false))))) none) none) none) none)) (r0 (e==0))))
def E8 (r0:Bool→O R) (d:Bool) (c:LA):Nat→Int→Int→O R
 | 0,_,_=>none
 | n+1,e,b=>(Py N r0 d c (E8 r0 d c n) e b)
def Xj (N:Nat) (r0:Bool→O R) (q0:Int→Int→O R) (c:LA) (d:Bool):O R :=
 (Co 2 (c.drop 4) fun ad y=>(cond (decide (((y:Nat):Int)>8)) (r0 false) (An .i64 (c.drop 3) fun z=>(An .i64 (c.drop 2) fun aa=>(q0 (wrap .i64 (z - aa)) 0)))))
def Pz:=(Ah (fun (N:Nat) (c:LA) (d:Bool) (r0:Bool→O R)=>(Xj N r0 (fun e b=>(E8 N r0 d c N e b)) c d))).1
theorem OQ (c d r0):(@Pz R N c d r0)=(Xj N r0 (fun e b=>(E8 N r0 d c N e b)) c d):=by rw[Pz,(Ah _).2]
def WY:Hints:={ H:=(hS hL (hS hL (hS hL (hS (hS hL (hS (hP [1,3,4] hL) hL)) hL)))) }
def dY:D9:=[(51,Ans N)]
def yn (F:KF R):=Jw Tryz.f53 WY (dY N) [] N F
def Mw (F:KF R):Bool→O R:=(fun ab=>F (.bool ab) [])
def yp (d:Bool) (c:LA) (e b:Int):St:=⟨[(1,(op 0)),(3,(iv e)),(4,(iv b))],(hq [(bP d 0 c)])⟩
def yq (F:KF R):=yn N F [1,1,1,0,1,0] []
theorem GB (F:KF R) (d:Bool) (c:LA):∀ (n:Nat) (e b:Int),Ao (yq N F) n (yp d c e b)=(E8 N (Mw F) d c n e b)
 | 0,_,_=>by kernel_rfl
 | n+1,e,b=>Eq.trans (by kernel_rfl) (Bp (Py N (Mw F) d c · e b) (funext fun e=>funext fun b=>(GB F d c n e b)):_)
theorem WZ (c:LA) (d:Bool) (F:KF R):Ch (dY N) WY N 53 [(.pagg c d)] [] F=(Pz N c d (Mw F)):=by
 rw[OQ]
 exact Eq.trans (by kernel_rfl) (Bp (Xj N (Mw F) · c d) (funext fun e=>funext fun b=>(Aj ..).trans (GB N F d c N e b)):_)
def OR (a:LA) (h:Am) (k:KF R):O R :=
 match a,h with
 | [(.pagg c d)],[]=>(Pz N c d (Mw k))
 | _,_=>none
theorem W_:Ap N 53 @OR:=by
 intro R Q a h k j;unfold OR;split;exact A0 (WZ ..) (WZ ..) ⟨Ant N,trivial⟩;exact A3
def yr:=A1 (W_ N)
def yu:=Ce (W_ N)
end
end Gx

namespace Gx
open Go Go.Proofs
inductive Sl (α:Type) where
 | nil
 | of (l:List α) (t o:Bool)
def Sl.l {α:Type}:Sl α→List α
 | .nil=>[]
 | .of l _ _=>l
def Sl.av {α:Type} (sz:Nat) (e:α→LA):Sl α→AV
 | .nil=>.nsl
 | .of l t o=>.imm (l.flatMap e) l.length sz t o
def GC (n:Int):LA:=[.int .i64 n]
def Av (l:List Int):LA:=l.map fun n=>.int .i64 n
theorem Fl:∀ l:List Int,l.flatMap GC=Av l
 | []=>rfl
 | a::r=>by rw[List.flatMap_cons,Fl r];rfl
theorem Ed (l:List Int):(Av l).length=l.length:=by simp[Av]
structure SegD where
 width:Int
 price:Int
structure UnitD where
 name:List UInt8
 bus:Int
 min:Int
 max:Int
 segs:Sl SegD
 noLoad:Int
 rampUp:Int
 rampDown:Int
 startRamp:Int
 stopRamp:Int
 upTime:Int
 downTime:Int
 startTime:Int
 hotCost:Int
 coldCost:Int
 hotHours:Int
 reserve:Int
 reservePrice:Int
 away:Sl Int
 state:Int
 hours:Int
 output:Int
def SegD.av (s:SegD):LA:=[.int .i64 s.width,.int .i64 s.price]
def UnitD.av (u:UnitD):LA:=[.str u.name,.int .i64 u.bus,.int .i64 u.min,.int .i64 u.max,u.segs.av 2 SegD.av,.int .i64 u.noLoad,.int .i64 u.rampUp,.int .i64 u.rampDown,.int .i64 u.startRamp,.int .i64 u.stopRamp,.int .i64 u.upTime,.int .i64 u.downTime,.int .i64 u.startTime,.int .i64 u.hotCost,.int .i64 u.coldCost,.int .i64 u.hotHours,.int .i64 u.reserve,.int .i64 u.reservePrice,u.away.av 1 GC,.int .i64 u.state,.int .i64 u.hours,.int .i64 u.output]
section
variable {R:Type}
theorem Hv {α:Type} {sz:Nat} {e:α→LA} {s:Sl α} {r:LA} {f:LA→Nat→O R}:Co sz (s.av sz e::r) f=f (s.l.flatMap e) s.l.length:=by
 cases s<;>simp[Co,Sl.av,Sl.l,A3v]
theorem Bh {α:Type} {e:α→LA} {sz:Nat} (k:∀ a,(e a).length=sz):∀ (l:List α) (j:Nat) (h:j<l.length),List.drop (j*sz) (l.flatMap e)=e l[j]++(l.drop (j+1)).flatMap e
 | a::r,0,_=>by simp
 | a::r,j+1,h=>by
  have:=Bh k r j (by simpa using h)
  rw[List.flatMap_cons,List.drop_append,k,show(j+1)*sz - sz=j*sz by rw[Nat.add_mul];omega,List.drop_eq_nil_of_le (by rw[k,Nat.add_mul];omega)]
  simpa using this
theorem OS {l:List Int} {i:Nat} (h:i<l.length) {f:Int→O R}:An .i64 (List.drop i (Av l)) f=f l[i]:=by
 rw[Av,List.drop_eq_getElem_cons (by simpa using h)];simp[Ay]
theorem Cj {l:List Int} {i:Nat} (h:i<l.length) {f:Int→O R}:An .i64 (List.drop ((Int.toNat (i:Int))*1) (Av l)) f=f l[i]:=by
 rw[Int.toNat_natCast,Nat.mul_one,OS h]
theorem C5 {α:Type} {l:List α} {j:Nat} (h:j<l.length):l.drop j=l[j]::l.drop (j+1):=List.drop_eq_getElem_cons h
theorem E9 {α:Type} {l:List α} {j:Nat} (h:l.length≤j):l.drop j=[]:=List.drop_eq_nil_of_le h
theorem cK {α:Type} (K:α→O R) (c:Bool) (a b:α):cond c (K a) (K b)=K (cond c a b):=by cases c<;>rfl
theorem B8 (u:UnitD):List.take 22 u.av=u.av:=rfl
theorem Dr (u:UnitD):Nat.ble 22 (List.length u.av)=true:=rfl
theorem u2 {u:UnitD} {f:Int→O R}:An .i64 (List.drop 2 u.av) f=f u.min:=Ay
theorem u3 {u:UnitD} {f:Int→O R}:An .i64 (List.drop 3 u.av) f=f u.max:=Ay
theorem u5 {u:UnitD} {f:Int→O R}:An .i64 (List.drop 5 u.av) f=f u.noLoad:=Ay
theorem u6 {u:UnitD} {f:Int→O R}:An .i64 (List.drop 6 u.av) f=f u.rampUp:=Ay
theorem u7 {u:UnitD} {f:Int→O R}:An .i64 (List.drop 7 u.av) f=f u.rampDown:=Ay
theorem u8 {u:UnitD} {f:Int→O R}:An .i64 (List.drop 8 u.av) f=f u.startRamp:=Ay
theorem u9 {u:UnitD} {f:Int→O R}:An .i64 (List.drop 9 u.av) f=f u.stopRamp:=Ay
theorem Bdd {u:UnitD} {f:Int→O R}:An .i64 (List.drop 10 u.av) f=f u.upTime:=Ay
theorem Bca {u:UnitD} {f:Int→O R}:An .i64 (List.drop 11 u.av) f=f u.downTime:=Ay
theorem Bbe {u:UnitD} {f:Int→O R}:An .i64 (List.drop 12 u.av) f=f u.startTime:=Ay
theorem Bez {u:UnitD} {f:Int→O R}:An .i64 (List.drop 13 u.av) f=f u.hotCost:=Ay
theorem Be0 {u:UnitD} {f:Int→O R}:An .i64 (List.drop 14 u.av) f=f u.coldCost:=Ay
theorem Bd8 {u:UnitD} {f:Int→O R}:An .i64 (List.drop 15 u.av) f=f u.hotHours:=Ay
theorem Bd9 {u:UnitD} {f:Int→O R}:An .i64 (List.drop 16 u.av) f=f u.reserve:=Ay
theorem Be1 {u:UnitD} {f:Int→O R}:An .i64 (List.drop 17 u.av) f=f u.reservePrice:=Ay
theorem A2s {u:UnitD} {f:Int→O R}:An .i64 (List.drop 19 u.av) f=f u.state:=Ay
theorem Bea {u:UnitD} {f:Int→O R}:An .i64 (List.drop 20 u.av) f=f u.hours:=Ay
theorem A9z {u:UnitD} {f:Int→O R}:An .i64 (List.drop 21 u.av) f=f u.output:=Ay
theorem u4 {u:UnitD} {f:LA→Nat→O R}:Co 2 (List.drop 4 u.av) f=f (u.segs.l.flatMap SegD.av) u.segs.l.length:=Hv
theorem Bbf {u:UnitD} {f:LA→Nat→O R}:Co 1 (List.drop 18 u.av) f=f (Av u.away.l) u.away.l.length:=by rw[←Fl];exact Hv
def Fc (lo hi x:Int):Bool:=decide (lo≤x)&&decide (x≤hi)
theorem pY {N:Nat} {b c:Int} {e f:Bool} {K:Bool→O R} (l:List Int) (hs:l.length≤1000000000000):∀ (m j fuel:Nat),j+m=l.length→m<fuel →
  Ji N K b c (Av l) l.length e f fuel (l.length:Int) (j:Int)=K ((l.drop j).all (Fc b c))
 | 0,j,fuel+1,k,_=>by
  rw[Ji];unfold Uh
  rw[Ku (by omega),cf,E9 (by omega),List.all_nil]
 | m+1,j,fuel+1,k,C=>by
  rw[Ji];unfold Uh
  have h:j<l.length:=by omega
  rw[Jh h,ct,Aa h,ct,Cj h,wS (by omega),pY l hs m (j+1) fuel (by omega) (by omega),C5 h,List.all_cons]
  simp only[cK];congr 1
  generalize (List.drop (j+1) l).all (Fc b c)=t
  rw[Bool.eq_iff_iff];cases t<;>simp[Fc]<;>omega
theorem CJ {N:Nat} {b c:Int} {e f:Bool} {K:Bool→O R} (l:List Int) (n:Nat) (hn:n=l.length) (hN:l.length<N) (hs:l.length≤1000000000000):Dd N b c (Av l) n e f K=K (l.all (Fc b c)):=by
 subst hn
 rw[cF];unfold IV
 have:=pY (N:=N) (b:=b) (c:=c) (e:=e) (f:=f) (K:=K) l hs l.length 0 N (by omega) hN
 simpa using this
theorem gH {N:Nat} {a b c:Int} {K:Bool→O R}:Kk N a b c K=K (Fc b c a):=by
 rw[Af3];unfold Aqu
 simp only[cK];congr 1
 rw[Bool.eq_iff_iff];simp[Fc]
def C2 (u:UnitD):Bool:=Fc 0 24 u.upTime&&(Fc 0 24 u.downTime&&(Fc 0 24 u.startTime&&(Fc 0 24 u.hotHours&&((u.state==0||(u.state==1||u.state==2))&&(Fc 1 48 u.hours&&(!(u.state==1)||decide (u.hours≤u.startTime)))))))
theorem sr {N:Nat} {u:UnitD} {b:Bool} {K:Bool→O R}:IW N K b u.av=K (Fc 1 48 u.hours&&(!(u.state==1)||decide (u.hours≤u.startTime))):=by
 unfold IW
 simp only[Bea,A2s,Bbe,cK];congr 1
 rw[Bool.eq_iff_iff];simp[Fc];omega
theorem su {N n:Nat} {u:UnitD} {d e f g:Int} {b:Bool} {K:Bool→O R}:Te N K d e f g b u.av (n+5) 0 =
  K (Fc 0 24 d&&(Fc 0 24 e&&(Fc 0 24 f&&(Fc 0 24 g&&((u.state==0||(u.state==1||u.state==2))&&(Fc 1 48 u.hours&&(!(u.state==1)||decide (u.hours≤u.startTime)))))))):=by
 have a1:IntKind.wrap .i64 ((0:Int)+1)=1:=by decide
 have a2:IntKind.wrap .i64 ((1:Int)+1)=2:=by decide
 have a3:IntKind.wrap .i64 ((2:Int)+1)=3:=by decide
 have a4:IntKind.wrap .i64 ((3:Int)+1)=4:=by decide
 simp only[Te,SX,sr,a1,a2,a3,a4,A2s]
 simp[Ac,cK];congr 1
 generalize (decide (u.hours≤u.startTime))=t
 generalize Fc 1 48 u.hours=s
 by_cases k:u.state=0<;>by_cases C:u.state=1<;>by_cases D:u.state=2<;>first | omega | skip
 all_goals (rw[Bool.eq_iff_iff];cases s<;>cases t<;>simp[Fc,k,C,D]<;>omega)
theorem Nc {N:Nat} {u:UnitD} {b:Bool} {K:Bool→O R} (hN:64≤N):Oc N u.av b K=K (C2 u):=by
 rw[oM];unfold fq
 obtain⟨n,rfl⟩:∃ n,N=n+5:=⟨N - 5,by omega⟩
 simp only[Bdd,Bca,Bbe,Bd8,su];rfl
end
end Gx

namespace Gx
open Go Go.Proofs
section
variable {R:Type}
theorem Km {N:Nat} {u:UnitD} {b:Bool} {K:Bool→O R}:Kl N u.av b K=K (C2 u):=by
 rw[jq];unfold TQ CH
 simp only[Bdd,Bca,Bbe,Bd8,A2s,Bea]
 simp[cK];congr 1
 unfold C2
 by_cases k:u.state=0<;>by_cases C:u.state=1<;>by_cases D:u.state=2<;>first | omega | skip
 all_goals (rw[Bool.eq_iff_iff];simp[Fc,k,C,D]<;>omega)
theorem Bdl {N:Nat} {b c x:Int} {e f:Bool} {K:Bool→O R} (hN:64≤N):Dd N b c [(.int .i64 x)] 1 e f K=K (Fc b c x):=by
 have:=CJ (N:=N) (b:=b) (c:=c) (e:=e) (f:=f) (K:=K) [x] 1 rfl (by simp;omega) (by simp)
 simpa[Av] using this
theorem Be8 {N:Nat} {b c x y:Int} {e f:Bool} {K:Bool→O R} (hN:64≤N):Dd N b c [(.int .i64 x),(.int .i64 y)] 2 e f K=K (Fc b c x&&Fc b c y):=by
 have:=CJ (N:=N) (b:=b) (c:=c) (e:=e) (f:=f) (K:=K) [x,y] 2 rfl (by simp;omega) (by simp)
 simpa[Av] using this
theorem Be9 {N:Nat} {b c x y z w:Int} {e f:Bool} {K:Bool→O R} (hN:64≤N):Dd N b c [(.int .i64 x),(.int .i64 y),(.int .i64 z),(.int .i64 w)] 4 e f K=K (Fc b c x&&(Fc b c y&&(Fc b c z&&Fc b c w))):=by
 have:=CJ (N:=N) (b:=b) (c:=c) (e:=e) (f:=f) (K:=K) [x,y,z,w] 4 rfl (by simp;omega) (by simp)
 simpa[Av] using this
theorem Bfa {N:Nat} {b c x y z w v:Int} {e f:Bool} {K:Bool→O R} (hN:64≤N):Dd N b c [(.int .i64 x),(.int .i64 y),(.int .i64 z),(.int .i64 w),(.int .i64 v)] 5 e f K=K (Fc b c x&&(Fc b c y&&(Fc b c z&&(Fc b c w&&Fc b c v)))):=by
 have:=CJ (N:=N) (b:=b) (c:=c) (e:=e) (f:=f) (K:=K) [x,y,z,w,v] 5 rfl (by simp;omega) (by simp)
 simpa[Av] using this
def Gi (p:Int):List SegD→Bool
 | []=>true
 | s::r=>Fc 1 1048576 s.width&&(Fc (-1048576) 1048576 s.price&&(decide (p≤s.price)&&Gi s.price r))
def ZQ:List SegD→Int
 | []=>0
 | s::r=>s.width+ZQ r
def wu (l:List SegD):Nat→Int
 | 0=>-1048576
 | j+1=>((l[j]?).map (·.price)).getD 0
theorem TR {l:List SegD} {j:Nat} (h:j<l.length):wu l (j+1)=l[j].price:=by simp[wu,h]
theorem sv {l:List SegD} {j:Nat} (h:j<l.length):List.drop ((Int.toNat (j:Int))*2) (l.flatMap SegD.av)=(.int .i64 l[j].width)::(.int .i64 l[j].price)::(l.drop (j+1)).flatMap SegD.av:=by
 rw[Int.toNat_natCast,Bh (e:=SegD.av) (sz:=2) (fun _=>rfl) _ _ h];rfl
theorem Af5 {x y:Int} {f:Int→O R}:An .i64 (setCells [(.int .i64 0),(.int .i64 0)] 0 [(.int .i64 x),(.int .i64 y)]) f=f x:=rfl
theorem gI {x y:Int} {f:Int→O R}:An .i64 (List.drop 1 (setCells [(.int .i64 0),(.int .i64 0)] 0 [(.int .i64 x),(.int .i64 y)])) f=f y:=rfl
theorem wv:∀ {l:List SegD} {p:Int},Gi p l=true→0≤ZQ l
 | [],_,_=>by simp[ZQ]
 | s::r,p,h=>by
  simp[Gi,Fc] at h
  have:=wv h.2.2.2
  simp[ZQ];omega
theorem A2t {N:Nat} {u:UnitD} {b:Bool} {K:Bool→O R} (hN:64≤N) (F:0≤u.min∧u.min≤1048576) (G:0≤u.max∧u.max≤1048576) (I:u.segs.l.length≤8):∀ (m j fuel:Nat) (g:Int),j+m=u.segs.l.length→m<fuel→(0≤g∧g≤1048576*(j:Int)) →
  Cy N K (u.segs.l.flatMap SegD.av) u.segs.l.length b u.av fuel g (u.segs.l.length:Int) (j:Int)=K (Gi (wu u.segs.l j) (u.segs.l.drop j)&&(g+ZQ (u.segs.l.drop j)==u.max - u.min))
 | 0,j,fuel+1,g,L,_,_=>by
  rw[Cy];unfold Iv
  rw[Ku (by omega),cf,u3,u2,i64 (by omega),E9 (l:=u.segs.l) (by omega)]
  simp[Gi,ZQ]
 | m+1,j,fuel+1,g,L,T,U=>by
  rw[Cy];unfold Iv
  have h:j<u.segs.l.length:=by omega
  rw[Jh h,ct,Aa h,ct,sv h]
  have p0:List.take 2 ((AV.int .i64 u.segs.l[j].width)::(AV.int .i64 u.segs.l[j].price)::(u.segs.l.drop (j+1)).flatMap SegD.av)=[(.int .i64 u.segs.l[j].width),(.int .i64 u.segs.l[j].price)]:=rfl
  rw[p0,show Nat.ble 2 (List.length ((AV.int .i64 u.segs.l[j].width)::(AV.int .i64 u.segs.l[j].price)::(u.segs.l.drop (j+1)).flatMap SegD.av))=true by simp,ct]
  rw[show((!b)||Bb [(AV.int .i64 u.segs.l[j].width),(.int .i64 u.segs.l[j].price)])=true by cases b<;>rfl,ct]
  rw[show((Nat.beq (List.length [(AV.int .i64 u.segs.l[j].width),(.int .i64 u.segs.l[j].price)]) 2)&&((Nat.ble 2 2)&&(!false)))=true from rfl,ct,Af5,gI,Bdl hN]
  simp only[Bdl hN]
  rw[C5 h,Gi,ZQ]
  cases M:Fc 1 1048576 u.segs.l[j].width with
  | false=>simp
  | true =>
   cases D:Fc (-1048576) 1048576 u.segs.l[j].price with
   | false=>simp
   | true =>
    simp only[Fc,Bool.and_eq_true,decide_eq_true_eq] at M D
    have step:=A2t (b:=b) (K:=K) hN F G I m (j+1) fuel (g+u.segs.l[j].width) (by omega) (by omega) (by omega)
    rw[TR h] at step
    have e1:IntKind.wrap .i64 (g+u.segs.l[j].width)=g+u.segs.l[j].width:=i64 (by omega)
    have S:IntKind.wrap .i64 ((j:Int)+1)=((j+1:Nat):Int):=wS (by omega)
    unfold Jx
    simp only[u4,gI,Af5,e1,S,step]
    rcases j with _ | j
    ·simp[wu,D.1,Int.add_assoc]
    ·have k:j<u.segs.l.length:=by omega
     rw[wP (by omega),Aa k,ct,sv k,Azo,ct]
     rw[show ∀ r:LA,List.drop 1 ((AV.int .i64 u.segs.l[j].width)::(AV.int .i64 u.segs.l[j].price)::r)=(AV.int .i64 u.segs.l[j].price)::r from fun _=>rfl,Ay,TR k]
     simp only[Bool.not_true,beq_self_eq_true,cK,Int.add_assoc,Bool.true_and]
     simp only[cond_true,cond_false]
     congr 1
     by_cases C:u.segs.l[j+1].price<u.segs.l[j].price
     ·simp[C,show ¬ u.segs.l[j].price≤u.segs.l[j+1].price by omega]
     ·simp[C,show u.segs.l[j].price≤u.segs.l[j+1].price by omega]
def js (u:UnitD):Bool:=decide (u.segs.l.length≤8)&&(Gi (-1048576) u.segs.l&&(ZQ u.segs.l==u.max - u.min))
theorem A90 {N:Nat} {u:UnitD} {b:Bool} {K:Bool→O R} (hN:64≤N) (C:0≤u.min∧u.min≤1048576) (D:0≤u.max∧u.max≤1048576):Fh N u.av b K=K (js u):=by
 rw[Yl];unfold Np
 rw[u4]
 by_cases k:u.segs.l.length≤8
 ·rw[show decide ((u.segs.l.length:Int)>8)=false by simp;omega,cf,u4]
  have:=A2t (b:=b) (K:=K) hN C D k u.segs.l.length 0 N 0 (by omega) (by omega) (by omega)
  simpa[js,k,wu] using this
 ·rw[show decide ((u.segs.l.length:Int)>8)=true by simp;omega,ct]
  simp[js,k]
end
end Gx

namespace Gx
open Go Go.Proofs
open IntKind (wrap)
set_option maxRecDepth 100000
noncomputable section
variable {R:Type} (N:Nat)
def Xk (r0:Bool→O R) (c:Int) (d:Bool) (b:LA) (k3:Int→O R) (e:Int):O R :=
 (Co 1 (b.drop 18) fun bh f=>(cond (decide (e<((f:Nat):Int))) (Co 1 (b.drop 18) fun g i=>(cond (Ac e i) (An .i64 (g.drop ((e.toNat)*1)) fun l=>(Kk N l 0 (wrap .i64 (c - 1)) (fun m=>(cond ((!m)==false) (cond ((decide (e>0))==true) (Co 1 (b.drop 18) fun o p=>(cond (Ac e p) (An .i64 (o.drop ((e.toNat)*1)) fun q=>(Co 1 (b.drop 18) fun r s=>(cond (Ac (wrap .i64 (e - 1)) s) (An .i64 (r.drop (((wrap .i64 (e - 1)).toNat)*1)) fun t=>(cond (cond false true (cond true (decide (q≤t)) false)) (r0 false) (k3 (wrap .i64 (e+1))))) none))) none)) (k3 (wrap .i64 (e+1)))) (r0 false))))) none)) (An .i64 (b.drop 19) fun u=>(cond (u==2) (An .i64 (b.drop 21) fun v=>(An .i64 (b.drop 2) fun w=>(An .i64 (b.drop 3) fun x=>(Kk N v w x (fun y=>(r0 y)))))) (An .i64 (b.drop 21) fun z=>(r0 (z==0)))))))
def P0 (r0:Bool→O R) (c:Int) (d:Bool) (b:LA):Nat→Int→O R
 | 0,_=>none
 | n+1,e=>(Xk N r0 c d b (P0 r0 c d b n) e)
def MC (N:Nat) (r0:Bool→O R) (c:Int) (d:Bool) (b:LA) (q3:Int→O R):O R :=
 (q3 0)
def TS (r0:Bool→O R) (c:Int) (d:Bool) (b:LA):O R:=(MC N r0 c d b (fun e=>(P0 N r0 c d b N e)))
def MD (r0:Bool→O R) (c:Int) (d:Bool) (b:LA) (q2:O R):O R :=
 (An .i64 (b.drop 5) fun aa=>(Kk N aa 0 1048576 (fun ab=>(cond ((!ab)==false) (An .i64 (b.drop 13) fun ac=>(Kk N ac 0 1048576 (fun ad=>(cond ((cond false true (!ad))==false) (An .i64 (b.drop 14) fun ae=>(Kk N ae 0 1048576 (fun af=>(cond ((cond false true (!af))==false) (An .i64 (b.drop 17) fun ag=>(Kk N ag 0 1048576 (fun ah=>(cond (cond false true (!ah)) (r0 false) q2)))) (r0 false))))) (r0 false))))) (r0 false)))))
def TT (r0:Bool→O R) (c:Int) (d:Bool) (b:LA):O R:=(MD N r0 c d b (TS N r0 c d b))
def ME (r0:Bool→O R) (c:Int) (d:Bool) (b:LA) (q1:O R):O R :=
 (An .i64 (b.drop 6) fun ai=>(Kk N ai 0 1048576 (fun aj=>(cond ((!aj)==false) (An .i64 (b.drop 7) fun ak=>(Kk N ak 0 1048576 (fun al=>(cond ((cond false true (!al))==false) (An .i64 (b.drop 16) fun am=>(Kk N am 0 1048576 (fun an=>(cond ((cond false true (!an))==false) (An .i64 (b.drop 8) fun ao=>(An .i64 (b.drop 2) fun ap=>(An .i64 (b.drop 3) fun aq=>(Kk N ao ap aq (fun ar=>(cond ((cond false true (!ar))==false) (An .i64 (b.drop 9) fun au=>(An .i64 (b.drop 2) fun av=>(An .i64 (b.drop 3) fun aw=>(Kk N au av aw (fun ax=>(cond (cond false true (!ax)) (r0 false) q1)))))) (r0 false))))))) (r0 false))))) (r0 false))))) (r0 false)))))
def CK (r0:Bool→O R) (c:Int) (d:Bool) (b:LA):O R:=(ME N r0 c d b (TT N r0 c d b))
def TU (r0:Bool→O R) (q0:O R) (b:LA) (d:Bool) (c:Int):O R :=
 (Kk N c 1 24 (fun ay=>(cond ((!ay)==false) (cond (Nat.ble 22 (b.length)) (Kl N (b.take 22) d (fun az=>(cond ((cond false true (!az))==false) (An .i64 (b.drop 2) fun ba=>(Kk N ba 0 1048576 (fun bb=>(cond ((cond false true (!bb))==false) (An .i64 (b.drop 3) fun bc=>(An .i64 (b.drop 2) fun bd=>(Kk N bc bd 1048576 (fun be=>(cond ((cond false true (!be))==false) (cond (Nat.ble 22 (b.length)) (Pz N (b.take 22) d (fun bf=>(cond (cond false true (!bf)) (r0 false) q0))) none) (r0 false)))))) (r0 false))))) (r0 false)))) none) (r0 false))))
def DJ:=(Ah (fun (N:Nat) (b:LA) (d:Bool) (c:Int) (r0:Bool→O R)=>(TU N r0 (CK N r0 c d b) b d c))).1
theorem jt (b d c r0):(@DJ R N b d c r0)=(TU N r0 (CK N r0 c d b) b d c):=by rw[DJ,(Ah _).2]
def pZ:Hints:={ H:=(hS hL (hJ [1,2] hL (hJ [1,2] hL (hJ [1,2] hL (hS (hS hL (hS (hP [1,2,5] hL) hL)) hL))))) }
def ww:D9:=[(51,Ans N),(52,Pw N),(53,yr N)]
def CL (F:KF R):=Jw Tryz.f17 pZ (ww N) [] N F
def Es (F:KF R):Bool→O R:=(fun bg=>F (.bool bg) [])
def Aqy (c:Int) (d:Bool) (b:LA) (e:Int):St:=⟨[(1,(iv c)),(2,(op 0)),(5,(iv e))],(hq [(bP d 0 b)])⟩
def Aqz (F:KF R):=CL N F [1,1,1,1,0,1,0] []
def Aq0 (c:Int) (d:Bool) (b:LA):St:=⟨[(1,(iv c)),(2,(op 0))],(hq [(bP d 0 b)])⟩
def Aq1 (F:KF R):=CL N F [1,1,1,1] []
def Aq2 (c:Int) (d:Bool) (b:LA):St:=⟨[(1,(iv c)),(2,(op 0))],(hq [(bP d 0 b)])⟩
def Aq3 (F:KF R):=CL N F [1,1,1] []
def Aq4 (c:Int) (d:Bool) (b:LA):St:=⟨[(1,(iv c)),(2,(op 0))],(hq [(bP d 0 b)])⟩
def Aq5 (F:KF R):=CL N F [1,1] []
theorem XA (F:KF R) (c:Int) (d:Bool) (b:LA):∀ (n:Nat) (e:Int),Ao (Aqz N F) n (Aqy c d b e)=(P0 N (Es F) c d b n e)
 | 0,_=>by kernel_rfl
 | n+1,e=>Eq.trans (by kernel_rfl) (Bp (Xk N (Es F) c d b · e) (funext fun e=>(XA F c d b n e)):_)
theorem yv (F:KF R) (c:Int) (d:Bool) (b:LA):A9 (Aq1 N F) (Aq0 c d b)=(TS N (Es F) c d b):=by
 exact Eq.trans (by kernel_rfl) (Bp (MC N (Es F) c d b ·) (funext fun e=>(Aj ..).trans (XA N F c d b N e)):_)
theorem yw (F:KF R) (c:Int) (d:Bool) (b:LA):A9 (Aq3 N F) (Aq2 c d b)=(TT N (Es F) c d b):=by
 exact Eq.trans (by kernel_rfl) (Bp (MD N (Es F) c d b ·) ((At ..).trans (yv N F c d b)):_)
theorem yx (F:KF R) (c:Int) (d:Bool) (b:LA):A9 (Aq5 N F) (Aq4 c d b)=(CK N (Es F) c d b):=by
 exact Eq.trans (by kernel_rfl) (Bp (ME N (Es F) c d b ·) ((At ..).trans (yw N F c d b)):_)
theorem p8 (b:LA) (d:Bool) (c:Int) (F:KF R):Ch (ww N) pZ N 17 [(.pagg b d),(iv c)] [] F=(DJ N b d c (Es F)):=by
 rw[jt]
 exact Eq.trans (by kernel_rfl) (Bp (TU N (Es F) · b d c) ((At ..).trans (yx N F c d b)):_)
def ju (a:LA) (h:Am) (k:KF R):O R :=
 match a,h with
 | [(.pagg b d),(.int .i64 c)],[]=>(DJ N b d c (Es k))
 | _,_=>none
theorem p9:Ap N 17 @ju:=by
 intro R Q a h k j;unfold ju;split;exact A0 (p8 ..) (p8 ..) ⟨Ant N,Px N,yu N,trivial⟩;exact A3
def Aq6:=A1 (p9 N)
def Aq7:=Ce (p9 N)
def dZ (b:LA) (c:Bool) (d e:Int) (r0:Bool→O R):O R :=
 (cond (Nat.ble 3 (b.length)) (Cp N d (fun f=>(G8 N (b.take 3) c f false (fun g=>(cond ((decide (g≥0))==true) (cond (Nat.ble 3 (b.length)) (Cp N e (fun i=>(G8 N (b.take 3) c i false (fun l=>(r0 (cond true (decide (l≤0)) false)))))) none) (r0 false)))))) none)
def GD:=(Ah (@dZ R)).1
theorem d5:@GD R=@dZ R:=(Ah _).2
def Aq8:D9:=[(20,T9 N),(25,cY N)]
def jv (F:KF R):Bool→O R:=(fun m=>F (.bool m) [])
theorem jw (b:LA) (c:Bool) (d e:Int) (F:KF R):Ch (Aq8 N) Dj N 36 [(.pagg b c),(iv d),(iv e)] [] F=(GD N b c d e (jv F)):=by
 rw[d5]
 kernel_rfl
def d6 (a:LA) (h:Am) (k:KF R):O R :=
 match a,h with
 | [(.pagg b c),(.int .i64 d),(.int .i64 e)],[]=>(GD N b c d e (jv k))
 | _,_=>none
theorem jx:Ap N 36 @d6:=by
 intro R Q a h k j;unfold d6;split;exact A0 (jw ..) (jw ..) ⟨Ua N,cZ N,trivial⟩;exact A3
def Aki:=A1 (jx N)
def Akj:=Ce (jx N)
end
end Gx

namespace Gx
open Go Go.Proofs
section
variable {R:Type}
theorem A2u {N:Nat} {u:UnitD} {b:Bool} {K:Bool→O R} (G:u.segs.l.length≤8):∀ (m j fuel:Nat) (d:Int),j+m=u.segs.l.length→m<fuel→(0≤d∧d≤1048576) →
  E8 N K b u.av fuel d (j:Int)=K (Gi (wu u.segs.l j) (u.segs.l.drop j)&&(ZQ (u.segs.l.drop j)==d))
 | 0,j,fuel+1,d,I,_,_=>by
  rw[E8];unfold Py
  rw[u4,Ku (by omega),cf,E9 (l:=u.segs.l) (by omega)]
  congr 1
  rw[Bool.eq_iff_iff];simp[Gi,ZQ];omega
 | m+1,j,fuel+1,d,I,S,T=>by
  rw[E8];unfold Py
  have h:j<u.segs.l.length:=by omega
  rw[u4,Jh h,ct,u4,Aa h,ct,sv h]
  have p0:List.take 2 ((AV.int .i64 u.segs.l[j].width)::(AV.int .i64 u.segs.l[j].price)::(u.segs.l.drop (j+1)).flatMap SegD.av)=[(.int .i64 u.segs.l[j].width),(.int .i64 u.segs.l[j].price)]:=rfl
  rw[p0,show Nat.ble 2 (List.length ((AV.int .i64 u.segs.l[j].width)::(AV.int .i64 u.segs.l[j].price)::(u.segs.l.drop (j+1)).flatMap SegD.av))=true by simp,ct]
  rw[show((!b)||Bb [(AV.int .i64 u.segs.l[j].width),(.int .i64 u.segs.l[j].price)])=true by cases b<;>rfl,ct]
  rw[show((Nat.beq (List.length [(AV.int .i64 u.segs.l[j].width),(.int .i64 u.segs.l[j].price)]) 2)&&((Nat.ble 2 2)&&(!false)))=true from rfl,ct]
  simp only[Af5,gI,gH,u4]
  rw[C5 h,Gi,ZQ]
  cases L:Fc 1 1048576 u.segs.l[j].width with
  | false=>simp
  | true =>
   cases F:Fc (-1048576) 1048576 u.segs.l[j].price with
   | false=>simp
   | true =>
    simp only[Fc,Bool.and_eq_true,decide_eq_true_eq] at L F
    have M:IntKind.wrap .i64 ((j:Int)+1)=((j+1:Nat):Int):=wS (by omega)
    have key:(cond (cond false true (decide (u.segs.l[j].width>d))) (K false) (E8 N K b u.av fuel (IntKind.wrap .i64 (d - u.segs.l[j].width)) (IntKind.wrap .i64 ((j:Int)+1))))=K (Gi u.segs.l[j].price (u.segs.l.drop (j+1))&&(u.segs.l[j].width+ZQ (u.segs.l.drop (j+1))==d)):=by
     by_cases C:u.segs.l[j].width>d
     ·rw[show decide (u.segs.l[j].width>d)=true by simpa using C]
      simp only[cond_true,cond_false]
      congr 1
      cases hs:Gi u.segs.l[j].price (u.segs.l.drop (j+1)) with
      | false=>rfl
      | true =>
       have:=wv hs
       symm;simp;omega
     ·rw[show decide (u.segs.l[j].width>d)=false by simpa using C]
      simp only[cond_false]
      have e1:IntKind.wrap .i64 (d - u.segs.l[j].width)=d - u.segs.l[j].width:=i64 (by omega)
      rw[e1,M,A2u G m (j+1) fuel _ (by omega) (by omega) (by omega),TR h]
      congr 1
      rw[Bool.eq_iff_iff];simp;omega
    rw[key]
    rcases j with _ | j
    ·simp[wu,F.1]
    ·have k:j<u.segs.l.length:=by omega
     rw[wP (by omega),Aa k,ct,sv k,Azo,ct]
     rw[show ∀ r:LA,List.drop 1 ((AV.int .i64 u.segs.l[j].width)::(AV.int .i64 u.segs.l[j].price)::r)=(AV.int .i64 u.segs.l[j].price)::r from fun _=>rfl,Ay,TR k]
     by_cases D:u.segs.l[j+1].price<u.segs.l[j].price
     ·simp[D,show ¬ u.segs.l[j].price≤u.segs.l[j+1].price by omega]
     ·simp[D,show u.segs.l[j].price≤u.segs.l[j+1].price by omega]
theorem A91 {N:Nat} {u:UnitD} {b:Bool} {K:Bool→O R} (hN:64≤N) (C:0≤u.min∧u.min≤u.max) (D:u.max≤1048576):Pz N u.av b K=K (js u):=by
 rw[OQ];unfold Xj
 rw[u4]
 by_cases k:u.segs.l.length≤8
 ·rw[show decide ((u.segs.l.length:Int)>8)=false by simp;omega,cf,u3,u2,i64 (by omega)]
  have:=A2u (b:=b) (N:=N) (K:=K) k u.segs.l.length 0 N (u.max - u.min) (by omega) (by omega) (by omega)
  simpa[js,k,wu] using this
 ·rw[show decide ((u.segs.l.length:Int)>8)=true by simp;omega,ct]
  simp[js,k]
def Z1 (hi p:Int):List Int→Bool
 | []=>true
 | x::r=>Fc 0 hi x&&(decide (p<x)&&Z1 hi x r)
def wx (l:List Int):Nat→Int
 | 0=>-1
 | j+1=>(l[j]?).getD 0
theorem TV {l:List Int} {j:Nat} (h:j<l.length):wx l (j+1)=l[j]:=by simp[wx,h]
theorem A2v {N:Nat} {l:List Int} {e e':Bool} {f hi:Int} {K:Bool→O R} (hN:64≤N) (F:l.length≤1000000000000) (D:IntKind.wrap .i64 (f - 1)=hi):∀ (m j fuel:Nat),j+m=l.length→m<fuel →
  Gp N K (Av l) l.length e e' f fuel (l.length:Int) (j:Int)=K (Z1 hi (wx l j) (l.drop j))
 | 0,j,fuel+1,G,_=>by
  rw[Gp];unfold Pr
  rw[Ku (by omega),cf,E9 (l:=l) (by omega),Z1]
 | m+1,j,fuel+1,G,I=>by
  rw[Gp];unfold Pr
  have h:j<l.length:=by omega
  rw[Jh h,ct,Aa h,ct,Cj h,Bdl hN,D,wS (by omega),A2v hN F D m (j+1) fuel (by omega) (by omega),C5 h,Z1,TV h]
  cases L:Fc 0 hi l[j] with
  | false=>simp
  | true =>
   simp only[Fc,Bool.and_eq_true,decide_eq_true_eq] at L
   rcases j with _ | j
   ·simp[wx,show(-1:Int)<l[0] by omega]
   ·have k:j<l.length:=by omega
    rw[wP (by omega),Aa k,ct,Cj k,Azo,ct,TV k]
    by_cases C:l[j]<l[j+1]
    ·simp[C,show ¬ l[j+1]≤l[j] by omega]
    ·simp[C,show l[j+1]≤l[j] by omega]
theorem A92 {N:Nat} {l:List Int} {n:Nat} {e e':Bool} {f hi:Int} {K:Bool→O R} (hN:64≤N) (C:l.length≤1000000000000) (k:l.length<N) (hn:n=l.length) (D:IntKind.wrap .i64 (f - 1)=hi):Lj N (Av l) n e e' f K=K (Z1 hi (-1) l):=by
 subst hn
 rw[NY];unfold Xf
 have:=A2v (N:=N) (e:=e) (e':=e') (K:=K) hN C D l.length 0 N (by omega) k
 simpa[wx] using this
def A0j (u:UnitD):Bool:=cond (u.state==2) (Fc u.min u.max u.output) (u.output==0)
theorem Avt {N:Nat} {u:UnitD} {c:Bool} {f hi:Int} {K:Bool→O R} (F:u.away.l.length≤1000000000000) (D:IntKind.wrap .i64 (f - 1)=hi):∀ (m j fuel:Nat),j+m=u.away.l.length→m<fuel →
  P0 N K f c u.av fuel (j:Int)=K (Z1 hi (wx u.away.l j) (u.away.l.drop j)&&A0j u)
 | 0,j,fuel+1,G,_=>by
  rw[P0];unfold Xk
  rw[Bbf,Ku (by omega),cf,E9 (l:=u.away.l) (by omega),Z1]
  simp only[A2s,A9z,u2,u3,gH,cK];rfl
 | m+1,j,fuel+1,G,I=>by
  rw[P0];unfold Xk
  have h:j<u.away.l.length:=by omega
  rw[Bbf,Jh h,ct,Bbf,Aa h,ct,Cj h,gH,D,wS (by omega),Avt F D m (j+1) fuel (by omega) (by omega),C5 h,Z1,TV h]
  cases L:Fc 0 hi u.away.l[j] with
  | false=>simp
  | true =>
   simp only[Fc,Bool.and_eq_true,decide_eq_true_eq] at L
   rcases j with _ | j
   ·simp[wx,show(-1:Int)<u.away.l[0] by omega]
   ·have k:j<u.away.l.length:=by omega
    rw[Bbf,Aa h,ct,Cj h,Bbf,wP (by omega),Aa k,ct,Cj k,Azo,ct,TV k]
    by_cases C:u.away.l[j]<u.away.l[j+1]
    ·simp[C,show ¬ u.away.l[j+1]≤u.away.l[j] by omega]
    ·simp[C,show u.away.l[j+1]≤u.away.l[j] by omega]
def D3 (u:UnitD) (hours:Int):Bool :=
 Fc 1 24 hours&&(C2 u&&(Fc 0 1048576 u.min&&(Fc 0 1048576 u.max&&(Fc 0 1048576 u.rampUp&&(Fc 0 1048576 u.rampDown&&(Fc 0 1048576 u.reserve&&(decide (u.min≤u.max)&&(Fc u.min u.max u.startRamp&&(Fc u.min u.max u.stopRamp &&
 (Fc 0 1048576 u.noLoad&&(Fc 0 1048576 u.hotCost&&(Fc 0 1048576 u.coldCost&&(Fc 0 1048576 u.reservePrice&&(A0j u&&(js u&&Z1 (hours - 1) (-1) u.away.l)))))))))))))))
theorem Rc {N:Nat} {u:UnitD} {b:Bool} {hours:Int} {K:Bool→O R} (hN:64≤N) (F:u.away.l.length≤1000000000000) (k:u.away.l.length<N):Uj N u.av b hours K=K (D3 u hours):=by
 rw[oO];unfold ft
 rw[Bdl hN]
 unfold D3
 cases G:Fc 1 24 hours with
 | false=>simp
 | true =>
  have I:1≤hours∧hours≤24:=by simpa[Fc] using G
  rw[B8,Dr,ct,Nc hN]
  cases C2 u with
  | false=>simp
  | true =>
   unfold IX SZ
   simp only[u2,u3,u6,u7,Bd9,Bfa hN]
   cases C:Fc 0 1048576 u.min with
   | false=>simp
   | true =>
    cases D:Fc 0 1048576 u.max with
    | false=>simp
    | true =>
     unfold cJ
     simp only[Fc,Bool.and_eq_true,decide_eq_true_eq] at C D
     simp only[u2,u3,u5,u8,u9,Bez,Be0,Be1,A2s,A9z,Bbf,B8,Dr,Be8 hN,Be9 hN,Bdl hN,ct,A90 hN C D,A92 hN F k rfl (i64 (a:=hours - 1) (by omega))]
     simp[cK];congr 1
     unfold A0j
     by_cases hs:u.state=2
     ·rw[Bool.eq_iff_iff];simp[hs];grind
     ·rw[Bool.eq_iff_iff];simp[hs];grind
theorem Af6 {N:Nat} {u:UnitD} {b:Bool} {hours:Int} {K:Bool→O R} (hN:64≤N) (L:u.away.l.length≤1000000000000) (C:u.away.l.length<N):DJ N u.av b hours K=K (D3 u hours):=by
 rw[jt];unfold TU
 rw[gH]
 unfold D3
 cases M:Fc 1 24 hours with
 | false=>simp
 | true =>
  have T:1≤hours∧hours≤24:=by simpa[Fc] using M
  rw[B8,Dr,ct,Km]
  cases C2 u with
  | false=>simp
  | true =>
   simp only[u2,u3,gH]
   cases G:Fc 0 1048576 u.min with
   | false=>simp
   | true =>
    simp only[Fc,Bool.and_eq_true,decide_eq_true_eq] at G
    by_cases D:u.min≤u.max∧u.max≤1048576
    ·have F:Fc 0 1048576 u.max=true:=by simp[Fc];omega
     have k:Fc u.min 1048576 u.max=true:=by simp[Fc];omega
     unfold CK ME TT MD TS MC
     have I:=Avt (u:=u) (N:=N) (c:=b) (K:=K) L (i64 (a:=hours - 1) (by omega)) u.away.l.length 0 N (by omega) C
     simp only[wx,List.drop_zero,Int.natCast_zero] at I
     simp only[u2,u3,u5,u6,u7,u8,u9,Bez,Be0,Bd9,Be1,gH,ct,I,A91 hN ⟨G.1,D.1⟩ D.2,F,k]
     simp[cK,D.1];congr 1
     rw[Bool.eq_iff_iff];simp;grind
    ·have k:Fc u.min 1048576 u.max=false:=by simp[Fc];omega
     simp only[k]
     have:(Fc 0 1048576 u.max&&decide (u.min≤u.max))=false:=by simp[Fc];omega
     simp;congr 1;symm
     cases S:Fc 0 1048576 u.max with
     | false=>rfl
     | true =>
      rw[S] at this
      simp at this
      simp;intro _ _ _ U;omega
end
end Gx

namespace Gx
open Go Go.Proofs
section
variable {R:Type}
theorem Af7 {v n:Int} (hn:0<n):Int.tmod (Int.tmod v n+n) n=v%n:=by
 have k:0≤Int.tmod v n+n:=by
  have:=Int.lt_tmod_of_pos v hn;omega
 rw[Int.tmod_eq_emod_of_nonneg k,Int.tmod_def,show v - n*v.tdiv n+n=v+n*(1 - v.tdiv n) by rw[Int.mul_sub];omega,Int.add_mul_emod_self_left]
theorem Anu {v n:Int} (hn:0<n) (k:n≤4611686018427387904):IntKind.wrap .i64 (Int.tmod v n+n)=Int.tmod v n+n:=by
 have C:=Int.lt_tmod_of_pos v hn
 have D:=Int.tmod_lt_of_pos v hn
 exact i64 (by omega)
theorem Bdm {N:Nat} {v n:Int} {K:Int→O R} (hn:0<n) (k:n≤4611686018427387904):DG N v n K=K (v%n):=by
 rw[jI];unfold lT
 rw[Anu hn k,Af7 hn,show(n==0)=false by simp;omega,cf,cf]
theorem A5y {j:Nat} (h:j≤1000000000000):((Nat.ble (j+1) 140737488355328)&&(Nat.ble ((j+1)*16) 140737488355328))=true:=by
 rw[Bool.and_eq_true,Nat.ble_eq,Nat.ble_eq];omega
theorem A5z (l:List Int) (v:Int):List.take (l.length*1) (Av l)++[(.int .i64 v)]=Av (l++[v]):=by
 rw[Nat.mul_one,←Ed l,List.take_length];simp[Av]
end
end Gx

namespace Gx
open Go Go.Proofs
section
variable {R:Type}
def H9 (x y:Nat):Int:=if x<y then -1 else if y<x then 1 else 0
theorem DK (x:Nat):H9 x x=0:=by unfold H9;simp
theorem TW {a b:Nat} (h:(Ar a).length<(Ar b).length):a<b:=Nat.lt_of_not_le fun k=>by
 have:=B6 k;omega
theorem zp {u w p q P:Nat} (k:u<P) (C:w<P) (h:p<q):u+P*p<w+P*q:=by
 have:P*(p+1)≤P*q:=Nat.mul_le_mul_left _ h
 rw[Nat.mul_add] at this
 omega
theorem Anv {N:Nat} {x y:List Nat} {t u:Bool} {K:Int→O R} (D:Al x) (F:Al y) (hs:x.length≤1000000000000) (I:x.length=y.length):∀ (i fuel:Nat),i≤x.length→i<fuel →
  Ff N K (Ae x) x.length t (Ae y) y.length u fuel ((i:Int) - 1)=K (H9 (val (x.take i)) (val (y.take i)))
 | 0,fuel+1,_,_=>by
  rw[Ff];unfold No
  rw[show decide ((((0:Nat):Int) - 1)≥0)=false by simp,cf]
  simp[DK]
 | i+1,fuel+1,hi,L=>by
  rw[Ff];unfold No
  rw[show(((i+1:Nat):Int) - 1)=(i:Int) by omega,show decide ((i:Int)≥0)=true by simp,ct,Aa (by omega),ct,ZO (by omega),Aa (by omega),ct,ZO (by omega),ct,ZO (by omega),ct,ZO (by omega),i64 (by omega),
   Anv D F hs I i fuel (by omega) (by omega),A5 (by omega),A5 (by omega)]
  have k:=Bk (Cq D i)
  have C:=Bk (Cq F i)
  rw[List.length_take,Nat.min_eq_left (by omega)] at k C
  by_cases c1:x[i]<y[i]
  ·have:=zp k C c1
   rw[show decide (((x[i]:Nat):Int)<((y[i]:Nat):Int))=true by simp;exact c1,ct]
   unfold H9;rw[if_pos this]
  ·by_cases G:y[i]<x[i]
   ·have:=zp C k G
    rw[show decide (((x[i]:Nat):Int)<((y[i]:Nat):Int))=false by simp;omega,cf,show decide (((x[i]:Nat):Int)>((y[i]:Nat):Int))=true by simp;exact G,ct]
    unfold H9;rw[if_neg (by omega),if_pos this]
   ·have:x[i]=y[i]:=by omega
    rw[show decide (((x[i]:Nat):Int)<((y[i]:Nat):Int))=false by simp;omega,cf,show decide (((x[i]:Nat):Int)>((y[i]:Nat):Int))=false by simp;omega,cf,this]
    unfold H9
    congr 1
    by_cases a1:val (x.take i)<val (y.take i)
    ·rw[if_pos a1,if_pos (by omega)]
    ·by_cases a2:val (y.take i)<val (x.take i)
     ·rw[if_neg a1,if_pos a2,if_neg (by omega),if_pos (by omega)]
     ·rw[if_neg a1,if_neg a2,if_neg (by omega),if_neg (by omega)]
theorem Tm {N:Nat} {a b:List Nat} {n m:Nat} {t o t' o':Bool} {K:Int→O R} (hn:n=a.length) (G:m=b.length) (C:Al a) (D:Al b) (k:fit (a.length+b.length) N) :
  D2 N (Ae a) n t o (Ae b) m t' o' K=K (H9 (val a) (val b)):=by
 subst hn G
 have L:=k.1;have M:=k.2
 rw[IP];unfold Uf
 dsimp only
 rw[B9 rfl C (k.le (by omega)),B9 rfl D (k.le (by omega))]
 have la:=(Bt C).2
 have lb:=(Bt D).2
 by_cases F:(Ar (val a)).length=(Ar (val b)).length
 ·rw[show((((Ar (val a)).length:Nat):Int) != (((Ar (val b)).length:Nat):Int))=false by simp;omega,cf,i64 (by omega),Anv (Ad _) (Ad _) (by omega) F _ N (Nat.le_refl _) (by omega),List.take_length,F,List.take_length,Ak,Ak]
 ·rw[show((((Ar (val a)).length:Nat):Int) != (((Ar (val b)).length:Nat):Int))=true by simp;omega,ct]
  by_cases I:(Ar (val a)).length<(Ar (val b)).length
  ·have:=TW I
   rw[show decide ((((Ar (val a)).length:Nat):Int)<(((Ar (val b)).length:Nat):Int))=true by simp;omega,ct]
   unfold H9;rw[if_pos this]
  ·have:=TW (show(Ar (val b)).length<(Ar (val a)).length by omega)
   rw[show decide ((((Ar (val a)).length:Nat):Int)<(((Ar (val b)).length:Nat):Int))=false by simp;omega,cf]
   unfold H9;rw[if_neg (by omega),if_pos this]
theorem Af8 {N:Nat} {a:List Nat} {n:Nat} {t o:Bool} {K:Int→O R} (hn:n=a.length) (D:Al a) (k:fit a.length N):Si N (Ae a) n t o K=K (H9 (val a) 0):=by
 subst hn
 have F:=k.1;have G:=k.2
 rw[bU];unfold II
 dsimp only
 rw[B9 rfl D k,A4p (by omega)]
 by_cases C:val a=0
 ·rw[C,Eb,DK]
  cases N with
  | zero=>omega
  | succ N =>
   rw[Qv];unfold EM
   rw[i64 (by simp)];simp
 ·have I:(Ar (val a)).length≠0:=fun h=>C (Bv.1 h)
  rw[show((((Ar (val a)).length:Nat):Int) != (0:Int))=true by simp;exact fun h=>C (Abb.1 h),ct]
  rw[show decide ((((Ar (val a)).length:Nat):Int)<(0:Int))=false by simp,cf]
  unfold H9;rw[if_neg (by omega),if_pos (by omega)]
end
end Gx

namespace Gx
open Go Go.Proofs
section
variable {R:Type}
theorem p_:∀ {S:List Nat} {d v:Nat} (h:d<S.length),val (S.set d v)+4294967296 ^ d*S[d]=val S+4294967296 ^ d*v
 | x::r,0,v,_=>by simp[val];omega
 | x::r,d+1,v,h=>by
  have k:=p_ (S:=r) (d:=d) (v:=v) (by simpa using h)
  simp only[List.set_cons_succ,val,List.getElem_cons_succ,Nat.pow_succ]
  have e1:∀ y,4294967296 ^ d*4294967296*y=4294967296*(4294967296 ^ d*y):=fun y=>by rw[Nat.mul_comm (4294967296 ^ d),Nat.mul_assoc]
  rw[e1,e1]
  omega
theorem Tn (b:List Nat) (d:Nat):val (b.take (d+1))=val (b.take d)+4294967296 ^ d*b.getD d 0:=by
 by_cases h:d<b.length
 ·rw[A5 h,List.getD_eq_getElem?_getD,List.getElem?_eq_getElem h];rfl
 ·rw[List.take_of_length_le (by omega),List.take_of_length_le (by omega),List.getD_eq_getElem?_getD,List.getElem?_eq_none (by omega)];simp
theorem Ol (P s:Nat):P*(s%4294967296)+P*4294967296*(s/4294967296)=P*s:=by
 rw[Nat.mul_assoc,←Nat.mul_add,Nat.add_comm,Nat.div_add_mod]
def A50 (S:List Nat) (d:Nat):Prop:=∀ j (h:j<S.length),d≤j→S[j]=0
theorem KA {S:List Nat} {d v:Nat} (h:A50 S d):A50 (S.set d v) (d+1):=fun j k C=>by
 rw[List.getElem_set]
 rw[if_neg (by omega)]
 exact h j (by simpa using k) (by omega)
theorem Nd (n:Nat):A50 (List.replicate n 0) 0:=fun j k _=>by simp
theorem Xl {S:List Nat} {d v:Nat} (h:A50 S d) (k:d<S.length):val (S.set d v)=val S+4294967296 ^ d*v:=by
 have:=p_ (v:=v) k
 rw[h d k (Nat.le_refl _)] at this;simpa using this
theorem Be2 {a:Nat} (h:a≤1000000000000):IntKind.wrap .i64 (((a:Nat):Int)+(1:Int))=((a+1:Nat):Int):=wS h
theorem Bdn {x:Nat} {m:List Nat} (h:x<m.length):((Nat.beq 1 1)&&((Nat.ble ((0+(x*1))+1) (List.length (Ae m)))&&(!false)))=true:=by
 rw[B4];simp;omega
theorem Bbg {x v:Nat} {m:List Nat}:List.set (Ae m) (0+(x*1)) (.int .u32 (v:Int))=Ae (m.set x v):=by rw[Nat.mul_one,Nat.zero_add,nL]
theorem Af9 {N:Nat} {a b:List Nat} {t u:Bool} (T:Al a) (U:Al b) (D:fit (a.length+1) N) (F:b.length≤a.length):∀ (m d fuel:Nat) (S:List Nat) (c:Nat),d+m=a.length→m<fuel→Al S→S.length=a.length+1→A50 S d→c≤1 →
  val S+4294967296 ^ d*c=val (a.take d)+val (b.take d) →
  ∃ S',Al S'∧S'.length=a.length+1∧val S'=val a+val b∧∀ K:Nat→LA→O R,Ws N K (Ae a) a.length t (Ae b) b.length u fuel (a.length+1) (c:Int) (a.length:Int) (d:Int) (Ae S)=K (Ar (val a+val b)).length (Ae S')
 | 0,d,fuel+1,S,c,hd,_,hS,G,I,hc,hv=>by
  have h1:=D.1;have h2:=D.2
  have V:d=a.length:=by omega
  subst V
  have L:val (S.set a.length c)=val a+val b:=by
   rw[Xl I (by omega),hv,List.take_length,List.take_of_length_le F]
  have M:=Cx hS (show c<4294967296 by omega) a.length
  refine⟨S.set a.length c,M,by simpa using G,L,fun K=>?_⟩
  rw[Ws];unfold FP
  rw[Ku (Nat.le_refl _),cf,Aa (by omega),ct,Bdn (by omega),ct,A2q (by omega),Bbg,NS (by simp;omega) M (by simp only[List.length_set,G];exact D),L]
 | m+1,d,fuel+1,S,c,hd,hfu,hS,G,I,hc,hv=>by
  have h1:=D.1;have h2:=D.2
  have k:d<a.length:=by omega
  have ad:=Ba T k
  have step:∀ s:Nat,s<8589934592→s=c+a[d]+b.getD d 0→val (S.set d (s%4294967296))+4294967296 ^ (d+1)*(s/4294967296)=val (a.take (d+1))+val (b.take (d+1)):=by
   intro s _ hs
   rw[Xl I (by omega),A5 k,Tn b d,Nat.pow_succ]
   have e:=Ol (4294967296 ^ d) s
   have e2:4294967296 ^ d*s=4294967296 ^ d*c+4294967296 ^ d*a[d]+4294967296 ^ d*b.getD d 0:=by rw[hs,Nat.mul_add,Nat.mul_add]
   omega
  by_cases C:d<b.length
  ·have bd:=Ba U C
   have Y:b.getD d 0=b[d]:=by rw[List.getD_eq_getElem?_getD,List.getElem?_eq_getElem C];rfl
   obtain⟨S',q1,q2,q3,q4⟩:=Af9 (t:=t) (u:=u) T U D F m (d+1) fuel (S.set d ((c+a[d]+b[d])%4294967296)) ((c+a[d]+b[d])/4294967296) (by omega) (by omega) (Cx hS (by omega) d) (by simpa using G) (KA I) (by omega) (step _ (by omega) (by rw[Y]))
   refine⟨S',q1,q2,q3,fun K=>?_⟩
   rw[Ws];unfold FP
   rw[Jh k,ct,Aa k,ct,ZO k,Jh C,ct,Aa C,ct,ZO C,Aa (by omega),ct,Al1 (by omega),ct,Ja (by omega),Ja (by omega),ND,Ja (by omega),ND,Ja (by omega),rz,lD,cC,wS (by omega)]
   exact q4 K
  ·have Y:b.getD d 0=0:=by rw[List.getD_eq_getElem?_getD,List.getElem?_eq_none (by omega)];rfl
   obtain⟨S',q1,q2,q3,q4⟩:=Af9 (t:=t) (u:=u) T U D F m (d+1) fuel (S.set d ((c+a[d])%4294967296)) ((c+a[d])/4294967296) (by omega) (by omega) (Cx hS (by omega) d) (by simpa using G) (KA I) (by omega) (step _ (by omega) (by rw[Y];rfl))
   refine⟨S',q1,q2,q3,fun K=>?_⟩
   rw[Ws];unfold FP
   rw[Jh k,ct,Aa k,ct,ZO k,Ku (by omega),cf,Aa (by omega),ct,Al1 (by omega),ct,Ja (by omega),ND,Ja (by omega),rz,lD,cC,wS (by omega)]
   exact q4 K
theorem A7u {N:Nat} {a b:List Nat} {t u:Bool} (D:Al a) (F:Al b) (k:fit (a.length+1) N) (C:b.length≤a.length) :
  ∃ S',Al S'∧val S'=val a+val b∧∀ K:Nat→LA→O R,OL N K (Ae a) a.length t (Ae b) b.length u=K (Ar (val a+val b)).length (Ae S'):=by
 have M:=k.1;have T:=k.2
 obtain⟨S',G,_,I,L⟩:=Af9 (R:=R) (t:=t) (u:=u) D F k C a.length 0 N (List.replicate (a.length+1) 0) 0 (by omega) (by omega) (Cw _) (by simp) (Nd _) (by omega) (by rw[Ei];simp[val])
 refine⟨S',G,I,fun K=>?_⟩
 unfold OL lp
 rw[Be2 (by omega),A64 (by omega),ct,Int.toNat_natCast,Db]
 exact L K
theorem A7v {N:Nat} {a b:List Nat} {n m:Nat} {t o t' o':Bool} (hn:n=a.length) (L:m=b.length) (D:Al a) (F:Al b) (k:fit (a.length+b.length+1) N) :
  ∃ S',Al S'∧val S'=val a+val b∧∀ K:Nat→LA→O R,sf N (Ae a) n t o (Ae b) m t' o' K=K (Ar (val a+val b)).length (Ae S'):=by
 subst hn L
 have la:=(Bt D).2
 have lb:=(Bt F).2
 by_cases M:(Ar (val a)).length<(Ar (val b)).length
 ·obtain⟨S',G,C,I⟩:=A7u (R:=R) (N:=N) (a:=Ar (val b)) (b:=Ar (val a)) (t:=o') (u:=o) (Ad _) (Ad _) (k.le (by omega)) (by omega)
  rw[Ak,Ak,Nat.add_comm] at C
  refine⟨S',G,C,fun K=>?_⟩
  rw[lq];unfold og
  dsimp only
  rw[B9 rfl D (k.le (by omega)),B9 rfl F (k.le (by omega)),Jh M,ct,I,Ak,Ak,Nat.add_comm (val b)]
 ·obtain⟨S',G,C,I⟩:=A7u (R:=R) (N:=N) (a:=Ar (val a)) (b:=Ar (val b)) (t:=o) (u:=o') (Ad _) (Ad _) (k.le (by omega)) (by omega)
  rw[Ak,Ak] at C
  refine⟨S',G,C,fun K=>?_⟩
  rw[lq];unfold og
  dsimp only
  rw[B9 rfl D (k.le (by omega)),B9 rfl F (k.le (by omega)),Ku (by omega),cf,I,Ak,Ak]
end
end Gx

namespace Gx
open Go Go.Proofs
section
variable {R:Type}
theorem gJ {x y:Nat} (k:x<4294967296) (C:y≤4294967296):∃ d c:Nat,d<4294967296∧c≤1∧x+4294967296*c=d+y∧IntKind.wrap .u32 (IntKind.wrap .u64 ((x:Int) - (y:Int)))=(d:Int)∧Int.fdiv (IntKind.wrap .u64 ((x:Int) - (y:Int))) (2 ^ 63)=(c:Int):=by
 by_cases h:y≤x
 ·refine⟨x - y,0,by omega,by omega,by omega,?_,?_⟩
  ·rw[ry (by omega) h,A2q (by omega)]
  ·rw[ry (by omega) h,Bdk,Nat.div_eq_of_lt (by omega)]
 ·refine⟨x+4294967296 - y,1,by omega,by omega,by omega,?_,?_⟩
  ·rw[A7m (by omega) (by omega),lD];congr 1;omega
  ·rw[A7m (by omega) (by omega),Bdk];congr 1;omega
theorem A93 {x c w:Nat} (k:x<4294967296) (C:c≤1) (D:w<4294967296):IntKind.wrap .u64 ((IntKind.wrap .u64 ((x:Int) - (c:Int))) - (w:Int))=IntKind.wrap .u64 ((x:Int) - ((c+w:Nat):Int)):=by
 rw[lE,lE,lE];omega
theorem Aga {N:Nat} {a b:List Nat} {t u:Bool} (U:Al a) (V:Al b) (G:fit a.length N) (D:b.length≤a.length) (I:val b≤val a):∀ (m d fuel:Nat) (S:List Nat) (c:Nat),d+m=a.length→m<fuel→Al S→S.length=a.length→A50 S d→c≤1 →
  val S+val (b.take d)=val (a.take d)+4294967296 ^ d*c →
  ∃ S',Al S'∧val S'=val a - val b∧∀ K:Nat→Bool→LA→O R,Th N K (Ae b) b.length t a.length (Ae a) u fuel (c:Int) (a.length:Int) (d:Int) (Ae S)=K (Ar (val a - val b)).length true (Ae S')
 | 0,d,fuel+1,S,c,hd,_,hS,F,T,hc,hv=>by
  have Y:d=a.length:=by omega
  subst Y
  rw[List.take_length,List.take_of_length_le D] at hv
  have hlt:=Bk hS
  rw[F] at hlt
  have hc0:c=0:=by
   rcases Nat.lt_or_ge 0 c with h | h
   ·exfalso
    have:c=1:=by omega
    subst this
    omega
   ·omega
  subst hc0
  have L:val S=val a - val b:=by omega
  refine⟨S,hS,L,fun K=>?_⟩
  rw[Th];unfold FN
  rw[Ku (Nat.le_refl _),cf,NS F.symm hS (by rw[F];exact G),L]
 | m+1,d,fuel+1,S,c,hd,hfu,hS,F,T,hc,hv=>by
  have h1:=G.1;have h2:=G.2
  have k:d<a.length:=by omega
  have ad:=Ba U k
  have step:∀ y g c':Nat,y=c+b.getD d 0→a[d]+4294967296*c'=g+y→val (S.set d g)+val (b.take (d+1))=val (a.take (d+1))+4294967296 ^ (d+1)*c':=by
   intro y g c' hy M
   rw[Xl T (by omega),A5 k,Tn b d,Nat.pow_succ,Nat.mul_assoc]
   have e:4294967296 ^ d*(a[d]+4294967296*c')=4294967296 ^ d*(g+(c+b.getD d 0)):=by rw[M,hy]
   rw[Nat.mul_add,Nat.mul_add,Nat.mul_add] at e
   omega
  by_cases C:d<b.length
  ·have bd:=Ba V C
   have M:b.getD d 0=b[d]:=by rw[List.getD_eq_getElem?_getD,List.getElem?_eq_getElem C];rfl
   obtain⟨g,c',g1,g2,g3,g4,g5⟩:=gJ ad (show c+b[d]≤4294967296 by omega)
   obtain⟨S',q1,q3,q4⟩:=Aga (t:=t) (u:=u) U V G D I m (d+1) fuel (S.set d g) c' (by omega) (by omega) (Cx hS g1 d) (by simpa using F) (KA T) g2 (step _ _ _ (by rw[M]) g3)
   refine⟨S',q1,q3,fun K=>?_⟩
   rw[Th];unfold FN
   rw[Jh k,ct,Aa k,ct,ZO k,Jh C,ct,Aa C,ct,ZO C,ct,Al1 (by omega),ct,Ja (show a[d]<18446744073709551616 by omega),Ja (show b[d]<18446744073709551616 by omega),A93 ad hc bd,g4,g5,cC,wS (by omega)]
   exact q4 K
  ·have M:b.getD d 0=0:=by rw[List.getD_eq_getElem?_getD,List.getElem?_eq_none (by omega)];rfl
   obtain⟨g,c',g1,g2,g3,g4,g5⟩:=gJ ad (show c≤4294967296 by omega)
   obtain⟨S',q1,q3,q4⟩:=Aga (t:=t) (u:=u) U V G D I m (d+1) fuel (S.set d g) c' (by omega) (by omega) (Cx hS g1 d) (by simpa using F) (KA T) g2 (step _ _ _ (by rw[M];rfl) g3)
   refine⟨S',q1,q3,fun K=>?_⟩
   rw[Th];unfold FN
   rw[Jh k,ct,Aa k,ct,ZO k,Ku (by omega),cf,ct,Al1 (by omega),ct,Ja (show a[d]<18446744073709551616 by omega),g4,g5,cC,wS (by omega)]
   exact q4 K
theorem Agb {N:Nat} {a b:List Nat} {n m:Nat} {t o t' o':Bool} (hn:n=a.length) (L:m=b.length) (F:Al a) (G:Al b) (k:fit (a.length+b.length) N) (C:val b≤val a) :
  ∃ S',Al S'∧val S'=val a - val b∧∀ K:Nat→Bool→LA→O R,TB N (Ae a) n t o (Ae b) m t' o' K=K (Ar (val a - val b)).length true (Ae S'):=by
 subst hn L
 have U:=k.1;have V:=k.2
 have la:=(Bt F).2
 have lb:=(Bt G).2
 have D:=B6 C
 obtain⟨S',M,I,T⟩:=Aga (R:=R) (N:=N) (a:=Ar (val a)) (b:=Ar (val b)) (t:=o') (u:=o) (Ad _) (Ad _) (k.le (by omega)) D (by rw[Ak,Ak];exact C) (Ar (val a)).length 0 N (List.replicate (Ar (val a)).length 0) 0 (by omega) (by omega) (Cw _) (by simp) (Nd _) (by omega) (by rw[Ei];simp[val])
 rw[Ak,Ak] at I
 refine⟨S',M,I,fun K=>?_⟩
 rw[lk];unfold o0
 dsimp only
 rw[B9 rfl F (k.le (by omega)),B9 rfl G (k.le (by omega)),Tm rfl rfl (Ad _) (Ad _) (k.le (by omega)),Ak,Ak]
 have:decide (H9 (val a) (val b)<0)=false:=by unfold H9;split<;>(try split)<;>simp<;>omega
 rw[this,cf,A64 (by omega),ct,Db]
 have:=T K
 rw[Ak,Ak] at this
 exact this
theorem A7w {N:Nat} {a b:List Nat} {n m:Nat} {t o t' o':Bool} {K:Nat→Bool→LA→O R} (hn:n=a.length) (G:m=b.length) (D:Al a) (F:Al b) (k:fit (a.length+b.length) N) (C:val a<val b) :
  TB N (Ae a) n t o (Ae b) m t' o' K=K 0 false []:=by
 subst hn G
 have la:=(Bt D).2
 have lb:=(Bt F).2
 rw[lk];unfold o0
 dsimp only
 rw[B9 rfl D (k.le (by omega)),B9 rfl F (k.le (by omega)),Tm rfl rfl (Ad _) (Ad _) (k.le (by omega)),Ak,Ak]
 have:decide (H9 (val a) (val b)<0)=true:=by unfold H9;rw[if_pos C];rfl
 rw[this,ct]
end
end Gx

namespace Gx
open Go Go.Proofs
section
variable {R:Type}
theorem Akk {n:Nat} (h:n≠0):(((n:Nat):Int)==(0:Int))=false:=by rw[beq_eq_false_iff_ne];omega
theorem Be3 {n:Nat} (h:n=0):(((n:Nat):Int)==(0:Int))=true:=by subst h;rfl
theorem A0k:∀ {S:List Nat} {j:Nat} (h:j<S.length),4294967296 ^ j*S[j]≤val S
 | x::r,0,_=>by simp[val]
 | x::r,j+1,h=>by
  have:=A0k (S:=r) (j:=j) (by simpa using h)
  simp only[List.getElem_cons_succ,val,Nat.pow_succ]
  rw[Nat.mul_comm (4294967296 ^ j),Nat.mul_assoc]
  omega
theorem A7x {S:List Nat} {k:Nat} (h:val S<4294967296 ^ k):A50 S k:=fun j D F=>by
 have G:=A0k D
 have I:4294967296 ^ k≤4294967296 ^ j:=Nat.pow_le_pow_right (by omega) F
 rcases Nat.eq_zero_or_pos S[j] with C | C
 ·exact C
 ·have:=Nat.le_mul_of_pos_right (4294967296 ^ j) C
  omega
theorem Avu {p q y s:Nat} (k:p<4294967296) (hq:q<4294967296) (C:y<4294967296) (hs:s<4294967296):p+(q*y+s)<18446744073709551616:=by
 have:q*y≤4294967295*4294967295:=Nat.mul_le_mul (by omega) (by omega)
 omega
theorem A7y {N:Nat} {x y:List Nat} {c d:Bool} {f q J:Nat} (U:Al y) (hq:q<4294967296) (Y:f<x.length) (hs:x.length+y.length≤1000000000000):∀ (m l fuel:Nat) (S:List Nat) (p:Nat) (v:Nat),l+m=y.length→m<fuel→Al S→S.length=x.length+y.length→A50 S (f+y.length)→p<4294967296 →
  val S+4294967296 ^ (f+l)*p=v+4294967296 ^ f*(q*val (y.take l)) →
  ∃ S',Al S'∧S'.length=x.length+y.length∧val S'=v+4294967296 ^ f*(q*val y)∧∀ (D:Nat→Int→Int→LA→O R) (K:Nat→LA→O R),Wm N D K (Ae y) y.length d (x.length+y.length) (f:Int) (q:Int) (Ae x) x.length c (J:Int) fuel (p:Int) (y.length:Int) (l:Int) (Ae S)=D (x.length+y.length) J ((f+1:Nat):Int) (Ae S')
 | 0,l,fuel+1,S,p,v,hl,_,hS,k,I,G,L=>by
  have M:l=y.length:=by omega
  subst M
  rw[List.take_length] at L
  refine⟨S.set (f+y.length) p,Cx hS G _,by simpa using k,by rw[Xl I (by omega),L],fun D K=>?_⟩
  rw[Wm];unfold ST
  rw[Ku (Nat.le_refl _),cf,wA (by omega),Aa (by omega),ct,Al1 (by omega),ct,A2q G,cC,wS (by omega)]
 | m+1,l,fuel+1,S,p,v,hl,hfu,hS,k,I,G,L=>by
  have C:l<y.length:=by omega
  have yl:=Ba U C
  have hi:f+l<S.length:=by omega
  have sl:=Ba hS hi
  have hw:=Avu G hq yl sl
  have T:q*y[l]<18446744073709551616:=by omega
  generalize F:p+(q*y[l]+S[f+l])=s at *
  have V:=p_ (v:=s%4294967296) hi
  have key:val (S.set (f+l) (s%4294967296))+4294967296 ^ (f+(l+1))*(s/4294967296)=v+4294967296 ^ f*(q*val (y.take (l+1))):=by
   rw[A5 C,←Nat.add_assoc f l 1,Nat.pow_succ]
   have e:=Ol (4294967296 ^ (f+l)) s
   have e2:4294967296 ^ (f+l)*s=4294967296 ^ (f+l)*p+(4294967296 ^ (f+l)*(q*y[l])+4294967296 ^ (f+l)*S[f+l]):=by rw[←F,Nat.mul_add,Nat.mul_add]
   have e3:4294967296 ^ f*(q*(val (y.take l)+4294967296 ^ l*y[l]))=4294967296 ^ f*(q*val (y.take l))+4294967296 ^ (f+l)*(q*y[l]):=by
    rw[Nat.mul_add,Nat.mul_add,Nat.pow_add]
    congr 1
    rw[Nat.mul_assoc];congr 1
    rw[←Nat.mul_assoc,←Nat.mul_assoc,Nat.mul_comm q]
   omega
  obtain⟨S',q1,q2,q3,q4⟩:=A7y (N:=N) (x:=x) (c:=c) (d:=d) (J:=J) U hq Y hs m (l+1) fuel (S.set (f+l) (s%4294967296)) (s/4294967296) v (by omega) (by omega) (Cx hS (by omega) _) (by simpa using k) (fun j hj hk=>by
   rw[List.getElem_set,if_neg (by omega)];exact I j (by simpa using hj) hk) (by omega) key
  refine⟨S',q1,q2,q3,fun D K=>?_⟩
  rw[Wm];unfold ST
  rw[Jh C,ct,Aa C,ct,ZO C,wA (by omega),Aa (by omega),ct,oF hi,ct,Al1 hi,ct,Ja (show q<18446744073709551616 by omega),Ja (show y[l]<18446744073709551616 by omega),Ja (show S[f+l]<18446744073709551616 by omega),Abd,Ja T,ND,Ja (by omega),ND,F,Ja hw,rz,lD,cC,wS (by omega)]
  exact q4 D K
theorem Aq9 {N:Nat} {x y:List Nat} {c d:Bool} (L:Al x) (M:Al y) (C:fit (x.length+y.length) N):∀ (m f fuel:Nat) (S:List Nat),f+m=x.length→m<fuel→Al S→S.length=x.length+y.length →
  val S=val (x.take f)*val y →
  ∃ S',Al S'∧val S'=val x*val y∧∀ K:Nat→LA→O R,Pq N K (Ae y) y.length d (Ae x) x.length c fuel (x.length+y.length) (x.length:Int) (f:Int) (Ae S)=K (Ar (val x*val y)).length (Ae S')
 | 0,f,fuel+1,S,hf,_,hS,D,I=>by
  have T:f=x.length:=by omega
  subst T
  rw[List.take_length] at I
  refine⟨S,hS,I,fun K=>?_⟩
  rw[Pq];unfold EY
  rw[Ku (Nat.le_refl _),cf,NS D.symm hS (by rw[D];exact C),I]
 | m+1,f,fuel+1,S,hf,hfu,hS,D,I=>by
  have h1:=C.1;have h2:=C.2
  have k:f<x.length:=by omega
  have xf:=Ba L k
  have b1:=Bk (Cq L f)
  rw[List.length_take,Nat.min_eq_left (by omega)] at b1
  have b2:=Bk M
  have G:val S<4294967296 ^ (f+y.length):=by
   rw[I,Nat.pow_add];exact Nat.mul_lt_mul'' b1 b2
  have F:val (x.take (f+1))*val y=val S+4294967296 ^ f*(x[f]*val y):=by
   rw[A5 k,Nat.add_mul,I,Nat.mul_assoc]
  by_cases U:x[f]=0
  ·obtain⟨S',V,Y,q3⟩:=Aq9 (c:=c) (d:=d) L M C m (f+1) fuel S (by omega) (by omega) hS D (by rw[F,U];simp)
   refine⟨S',V,Y,fun K=>?_⟩
   rw[Pq];unfold EY
   rw[Jh k,ct,Aa k,ct,ZO k,show(((x[f]:Nat):Int)==0)=true by simp[U],ct,wS (by omega)]
   exact q3 K
  ·obtain⟨S1,p1,p2,p3,p4⟩:=A7y (R:=R) (N:=N) (x:=x) (y:=y) (c:=c) (d:=d) (f:=f) (q:=x[f]) (J:=x.length) M xf k (by omega) y.length 0 N S 0 (val S) (by omega) (by omega) hS D (A7x G) (by omega) (by simp[val])
   obtain⟨S',V,Y,q3⟩:=Aq9 (c:=c) (d:=d) L M C m (f+1) fuel S1 (by omega) (by omega) p1 p2 (by rw[p3,F])
   refine⟨S',V,Y,fun K=>?_⟩
   rw[Pq];unfold EY
   rw[Jh k,ct,Aa k,ct,ZO k,show(((x[f]:Nat):Int)==0)=false by simp;exact U,cf]
   have:=p4 (Pq N K (Ae y) y.length d (Ae x) x.length c fuel) K
   simp only[Int.natCast_zero] at this
   dsimp only
   rw[this]
   exact q3 K
theorem d7 {N:Nat} {a b:List Nat} {n m:Nat} {t o t' o':Bool} (hn:n=a.length) (L:m=b.length) (F:Al a) (G:Al b) (k:fit (a.length+b.length) N) :
  ∃ S',Al S'∧val S'=val a*val b∧∀ K:Nat→LA→O R,LY N (Ae a) n t o (Ae b) m t' o' K=K (Ar (val a*val b)).length (Ae S'):=by
 subst hn L
 have U:=k.1;have V:=k.2
 have la:=(Bt F).2
 have lb:=(Bt G).2
 by_cases C:val a=0
 ·refine⟨[],Wf,by rw[C];simp[val],fun K=>?_⟩
  rw[SU];unfold fk
  dsimp only
  rw[B9 rfl F (k.le (by omega)),B9 rfl G (k.le (by omega)),C,Nat.zero_mul,Eb];rfl
 ·by_cases D:val b=0
  ·refine⟨[],Wf,by rw[D];simp[val],fun K=>?_⟩
   rw[SU];unfold fk
   dsimp only
   rw[B9 rfl F (k.le (by omega)),B9 rfl G (k.le (by omega)),D,Nat.mul_zero,Eb]
   cases ((((Ar (val a)).length:Nat):Int)==0)<;>rfl
  ·obtain⟨S',M,I,T⟩:=Aq9 (R:=R) (N:=N) (x:=Ar (val a)) (y:=Ar (val b)) (c:=o) (d:=o') (Ad _) (Ad _) (k.le (by omega)) (Ar (val a)).length 0 N (List.replicate ((Ar (val a)).length+(Ar (val b)).length) 0) (by omega) (by omega) (Cw _) (by simp) (by rw[Ei];simp[val])
   rw[Ak,Ak] at I
   refine⟨S',M,I,fun K=>?_⟩
   rw[SU];unfold fk
   dsimp only
   have n1:(Ar (val a)).length≠0:=fun h=>C (Bv.1 h)
   have n2:(Ar (val b)).length≠0:=fun h=>D (Bv.1 h)
   rw[B9 rfl F (k.le (by omega)),B9 rfl G (k.le (by omega)),Akk n1,show((false:Bool)==false)=true by rfl,ct,Bd7,Akk n2,cf]
   unfold fj lS
   rw[wA (by omega),A64 (by omega),ct,Int.toNat_natCast,Db]
   have:=T K
   rw[Ak,Ak] at this
   exact this
end
end Gx

namespace Gx
open Go Go.Proofs
section
variable {R:Type}
theorem pa {v:Nat} (h:(Ar v).length≤2):v<18446744073709551616:=by
 have:=Bk (Ad v)
 rw[Ak] at this
 have k:4294967296 ^ (Ar v).length≤4294967296 ^ 2:=Nat.pow_le_pow_right (by omega) h
 omega
theorem TX {v:Nat} (h:v<18446744073709551616):(Ar v).length≤2:=En (by simpa using h)
theorem OT {N:Nat} {l:List Nat} {n:Nat} {t o:Bool} {K:Int→O R} (hn:n=l.length) (k:Al l) (C:l.length≤2) (hN:4≤N):Rt N (Ae l) n t o K=K (val l:Int):=by
 subst hn
 obtain⟨M,rfl⟩:∃ M,N=M+4:=⟨N - 4,by omega⟩
 rw[vg];unfold nv
 match l,k,C with
 | [],_,_ =>
  dsimp only
  rw[Jg];unfold K4
  simp[val]
 | [x],k,_ =>
  have D:=(Ds.1 k).1
  dsimp only
  rw[Jg];unfold K4
  simp only[List.length_cons,List.length_nil,Int.toNat_zero,Nat.zero_mul,List.drop_zero,DA,Ay]
  rw[show decide ((0:Int)<((0+1:Nat):Int))=true by decide,ct,show Ac 0 (0+1)=true by decide,ct,show IntKind.wrap .i64 ((32:Int)*0)=0 by decide,show decide ((0:Int)<0)=false by decide,cf]
  rw[Jg];unfold K4
  rw[show IntKind.wrap .i64 ((0:Int)+1)=1 by decide,show decide ((1:Int)<((0+1:Nat):Int))=false by decide,cf]
  have e:IntKind.wrap .u64 ((IntKind.wrap .u64 (x:Int))*2 ^ (min (Int.toNat 0) 64))=(x:Int):=by rw[Ja (by omega)];simp;exact Ja (by omega)
  rw[e,show(0:Int)=((0:Nat):Int) by rfl,Ayz (by omega) (by omega)]
  simp[val]
 | [x,y],k,_ =>
  have D:=(Ds.1 k).1
  have G:=(Ds.1 (Ds.1 k).2).1
  dsimp only
  rw[Jg];unfold K4
  simp only[List.length_cons,List.length_nil,Int.toNat_zero,Nat.zero_mul,List.drop_zero,DA,Ay]
  rw[show decide ((0:Int)<((0+1+1:Nat):Int))=true by decide,ct,show Ac 0 (0+1+1)=true by decide,ct,show IntKind.wrap .i64 ((32:Int)*0)=0 by decide,show decide ((0:Int)<0)=false by decide,cf]
  rw[Jg];unfold K4
  rw[show IntKind.wrap .i64 ((0:Int)+1)=1 by decide,show decide ((1:Int)<((0+1+1:Nat):Int))=true by decide,ct,show Ac 1 (0+1+1)=true by decide,ct,show IntKind.wrap .i64 ((32:Int)*1)=32 by decide,show decide ((32:Int)<0)=false by decide]
  simp only[show Int.toNat 1*1=1 by rfl,List.drop_succ_cons,List.drop_zero,Ay,cf]
  rw[Jg];unfold K4
  rw[show IntKind.wrap .i64 ((1:Int)+1)=2 by decide,show decide ((2:Int)<((0+1+1:Nat):Int))=false by decide,cf]
  have e:IntKind.wrap .u64 ((IntKind.wrap .u64 (x:Int))*2 ^ (min (Int.toNat 0) 64))=(x:Int):=by rw[Ja (by omega)];simp;exact Ja (by omega)
  have F:IntKind.wrap .u64 ((IntKind.wrap .u64 (y:Int))*2 ^ (min (Int.toNat 32) 64))=((y*2 ^ 32:Nat):Int):=by
   rw[Ja (by omega),show(2:Int) ^ (min (Int.toNat 32) 64)=((2 ^ 32:Nat):Int) by rfl,Abd,Ja (by omega)]
  rw[e,F,show(0:Int)=((0:Nat):Int) by rfl,Ayz (by omega) (by omega),Ayz (by simp;omega) (by omega),Nat.zero_or,Nat.or_comm,sA (by omega)]
  congr 1;simp only[val];omega
theorem Lq {N:Nat} {v:Nat} (D:v<18446744073709551616) (hN:4≤N):∃ S,Al S∧val S=v∧∀ K:Nat→LA→O R,B7 N (v:Int) K=K (Ar v).length (Ae S):=by
 have C:Al [v%4294967296,v/4294967296]:=Ds.2 ⟨by omega,Ds.2 ⟨by omega,Wf⟩⟩
 have k:val [v%4294967296,v/4294967296]=v:=by simp[val];omega
 refine⟨_,C,k,fun K=>?_⟩
 rw[IG];unfold EK
 rw[lD,rz,A2q (show v/4294967296<4294967296 by omega)]
 have:=Adf (R:=R) (N:=N) (l:=[v%4294967296,v/4294967296]) (K:=fun c=>K c (Ae [v%4294967296,v/4294967296])) C (by simp) 2 N (by simp) (by omega)
 rw[show [v%4294967296,v/4294967296].take 2=[v%4294967296,v/4294967296] by rfl,k] at this
 rw[lJ];unfold nf
 exact this
theorem Om {N:Nat} {l:List Nat} {n:Nat} {t o:Bool} {K:Int→Bool→O R} (hn:n=l.length) (C:Al l) (k:fit l.length N):DE N (Ae l) n t o K=if val l<18446744073709551616 then K (val l:Int) true else K 0 false:=by
 have F:=k.1
 rw[iz];unfold lP
 rw[B9 hn C k]
 by_cases h:val l<18446744073709551616
 ·have:=TX h
  rw[if_pos h,show decide ((((Ar (val l)).length:Nat):Int)>2)=false by simp;omega,cf,OT rfl (Ad _) this (by omega),Ak]
 ·have:¬ (Ar (val l)).length≤2:=fun D=>h (pa D)
  rw[if_neg h,show decide ((((Ar (val l)).length:Nat):Int)>2)=true by simp;omega,ct]
theorem gK {N:Nat} {l:List Nat} {n:Nat} {t o:Bool} {K:Nat→LA→O R} (hn:n=l.length) (C:Al l) (k:fit l.length N):CD N (Ae l) n t o K=K (Ar (val l)).length (Ae (Ar (val l))):=by
 have D:=k.1;have F:=k.2
 have:=(Bt C).2
 rw[wF];unfold Adm
 rw[B9 hn C k,A64 (by omega),ct,HR,Bool.or_true,ct]
 congr 1
 unfold Cu
 rw[Nat.min_self,Nat.mul_one,List.take_zero,List.nil_append,List.take_of_length_le (by rw[B4];exact Nat.le_refl _),List.drop_eq_nil_of_le (by simp[B4]),List.append_nil]
end
end Gx

namespace Gx
open Go Go.Proofs
section
variable {R:Type}
def Bfb:List UInt8:=[0,1,2,2,3,3,3,3,4,4,4,4,4,4,4,4,5,5,5,5,5,5,5,5,5,5,5,5,5,5,5,5,6,6,6,6,6,6,6,6,6,6,6,6,6,6,6,6,6,6,6,6,6,6,6,6,6,6,6,6,6,6,6,6,7,7,7,7,7,7,7,7,7,7,7,7,7,7,7,7,7,7,7,7,7,7,7,7,7,7,7,7,7,7,7,7,7,7,7,7,7,7,7,7,7,7,7,7,7,7,7,7,7,7,7,7,7,7,7,7,7,7,7,7,7,7,7,7,8,8,8,8,8,8,8,8,8,8,8,8,8,8,8,8,8,8,8,8,8,8,8,8,8,8,8,8,8,8,8,8,8,8,8,8,8,8,8,8,8,8,8,8,8,8,8,8,8,8,8,8,8,8,8,8,8,8,8,8,8,8,8,8,8,8,8,8,8,8,8,8,8,8,8,8,8,8,8,8,8,8,8,8,8,8,8,8,8,8,8,8,8,8,8,8,8,8,8,8,8,8,8,8,8,8,8,8,8,8,8,8,8,8,8,8,8,8,8,8,8,8,8,8,8,8,8,8]
theorem A94:∀ i:Fin 256,0<i.1→2 ^ (Bfb.getD i.1 0).toNat≤2*i.1∧i.1<2 ^ (Bfb.getD i.1 0).toNat:=by decide +kernel
theorem Agc {k y x m:Nat} (h:2 ^ k≤2*y∧y<2 ^ k) (C:y=x/2 ^ m):2 ^ (k+m)≤2*x∧x<2 ^ (k+m):=by
 have D:0<2 ^ m:=Nat.pow_pos (by omega)
 have F:x<2 ^ m*(y+1):=by rw[C];have:=Nat.div_add_mod x (2 ^ m);have:=Nat.mod_lt x D;rw[Nat.mul_add];omega
 have G:2 ^ m*y≤x:=by rw[C];exact Nat.mul_div_le x _
 have I:2 ^ m*(y+1)≤2 ^ m*2 ^ k:=Nat.mul_le_mul_left _ h.2
 have L:2 ^ m*2 ^ k≤2 ^ m*(2*y):=Nat.mul_le_mul_left _ h.1
 rw[Nat.pow_add,Nat.mul_comm (2 ^ k)]
 have M:2 ^ m*(2*y)=2*(2 ^ m*y):=by rw[Nat.mul_left_comm]
 omega
theorem Bbh {a:Nat} (h:a<256):IntKind.wrap .u8 (a:Int)=(a:Int):=by rw[wrap_u8];congr 1;omega
theorem Bbi {N:Nat} {a b:Nat} {K:Int→O R} (I:0<a) (L:a<65536) (M:b≤16):∃ k:Nat,2 ^ k≤2*a∧a<2 ^ k∧k≤16∧Fi N K (a:Int) (b:Int)=K ((b+k:Nat):Int):=by
 have small:∀ i:Nat,0<i→i<256→∃ k:Nat,(2 ^ k≤2*i∧i<2 ^ k)∧k≤8∧(Bfb.getD i 0).toNat=k:=by
  intro i hi C
  have:=A94 ⟨i,C⟩ hi
  refine⟨_,this,?_,rfl⟩
  rcases Nat.lt_or_ge 8 (Bfb.getD i 0).toNat with h | h
  ·have G:=this.1
   have S:2 ^ 9≤2 ^ (Bfb.getD i 0).toNat:=Nat.pow_le_pow_right (by omega) h
   simp only at G
   omega
  ·exact h
 by_cases h:a≥256
 ·obtain⟨k,p1,p2,D⟩:=small (a/256) (by omega) (by omega)
  have F:=Agc (m:=8) p1 (show a/256=a/2 ^ 8 by rfl)
  refine⟨k+8,F.1,F.2,by omega,?_⟩
  unfold Fi
  rw[show decide (((a:Nat):Int)≥256)=true by simp;omega,ct,T5 a 8,show a/2 ^ 8=a/256 by rfl,Bbh (by omega),Aa (by omega),ct,Int.toNat_natCast]
  change K (IntKind.wrap .i64 (IntKind.wrap .i64 ((b:Int)+8)+IntKind.wrap .i64 (((Bfb.getD (a/256) 0).toNat:Nat):Int)))=_
  rw[D,i64 (a:=(b:Int)+8) (by omega),i64 (a:=(k:Int)) (by omega),i64 (by omega)]
  congr 1;omega
 ·obtain⟨k,p1,p2,D⟩:=small a (by omega) (by omega)
  refine⟨k,p1.1,p1.2,by omega,?_⟩
  unfold Fi
  rw[show decide (((a:Nat):Int)≥256)=false by simp;omega,cf,Bbh (by omega),Aa (by omega),ct,Int.toNat_natCast]
  change K (IntKind.wrap .i64 ((b:Int)+IntKind.wrap .i64 (((Bfb.getD a 0).toNat:Nat):Int)))=_
  rw[D,i64 (a:=(k:Int)) (by omega),i64 (by omega)]
  congr 1
theorem A0l {N:Nat} {c:Nat} {K:Int→O R} (G:0<c) (I:c<4294967296):∃ k:Nat,2 ^ k≤2*c∧c<2 ^ k∧k≤32∧Im N (c:Int) K=K (k:Int):=by
 rw[AK];unfold Ps
 by_cases h:c≥65536
 ·obtain⟨k,p1,p2,F,C⟩:=Bbi (R:=R) (N:=N) (a:=c/65536) (b:=16) (K:=K) (by omega) (by omega) (by omega)
  have D:=Agc (m:=16) ⟨p1,p2⟩ (show c/65536=c/2 ^ 16 by rfl)
  refine⟨k+16,D.1,D.2,by omega,?_⟩
  rw[show decide (((c:Nat):Int)≥65536)=true by simp;omega,ct,T5 c 16,show c/2 ^ 16=c/65536 by rfl]
  rw[Nat.add_comm k];exact C
 ·obtain⟨k,p1,p2,F,C⟩:=Bbi (R:=R) (N:=N) (a:=c) (b:=0) (K:=K) (by omega) (by omega) (by omega)
  refine⟨k,p1,p2,by omega,?_⟩
  rw[show decide (((c:Nat):Int)≥65536)=false by simp;omega,cf]
  rw[Nat.zero_add] at C;exact C
theorem A2w {N:Nat} {c:Nat} (G:0<c) (I:c<4294967296):∃ s:Nat,s≤31∧2147483648≤c*2 ^ s∧c*2 ^ s<4294967296∧∀ K:Int→O R,Cb N (c:Int) K=K (s:Int):=by
 have key:∀ K:Int→O R,∃ s:Nat,(s≤31∧2147483648≤c*2 ^ s∧c*2 ^ s<4294967296)∧Cb N (c:Int) K=K (s:Int):=by
  intro K
  rw[Ms];unfold Ib
  obtain⟨k,p1,p2,S,L⟩:=A0l (R:=R) (N:=N) (K:=fun c=>K (IntKind.wrap .i64 ((32:Int) - c))) G I
  have e:2 ^ k*2 ^ (32 - k)=4294967296:=by rw[←Nat.pow_add,show k+(32 - k)=32 by omega]
  have T:1≤k:=by
   rcases Nat.eq_zero_or_pos k with h | h
   ·subst h;simp at p2;omega
   ·exact h
  refine⟨32 - k,⟨by omega,?_,?_⟩,?_⟩
  ·have:=Nat.mul_le_mul_right (2 ^ (32 - k)) p1
   rw[e,Nat.mul_assoc] at this;omega
  ·have:=(Nat.mul_lt_mul_right (show 0<2 ^ (32 - k) from Nat.pow_pos (by omega))).2 p2
   rw[e] at this;exact this
  ·rw[L,i64 (by omega)];congr 1;omega
 obtain⟨s,hs,_⟩:=key fun _=>none
 refine⟨s,hs.1,hs.2.1,hs.2.2,fun K=>?_⟩
 obtain⟨C,M,e⟩:=key K
 have:C=s:=by
  rcases Nat.lt_trichotomy s C with h | h | h
  ·exfalso
   have D:2 ^ (s+1)≤2 ^ C:=Nat.pow_le_pow_right (by omega) h
   have F:=Nat.mul_le_mul_left c D
   rw[Nat.pow_succ,←Nat.mul_assoc] at F
   omega
  ·exact h.symm
  ·exfalso
   have D:2 ^ (C+1)≤2 ^ s:=Nat.pow_le_pow_right (by omega) h
   have F:=Nat.mul_le_mul_left c D
   rw[Nat.pow_succ,←Nat.mul_assoc] at F
   omega
 rw[e,this]
theorem Ara {s:Nat} (h:s≤31):2 ^ s≤2147483648:=Nat.pow_le_pow_right (n:=2) (by omega) h
theorem A7z {x c s:Nat} (D:x<4294967296) (k:c<2 ^ s) (hs:s≤31):Ta .u64 (c:Int) (IntKind.wrap .u64 ((IntKind.wrap .u64 (x:Int))*2 ^ (min (Int.toNat (s:Int)) 64)))=((x*2 ^ s+c:Nat):Int)∧x*2 ^ s+c<4294967296*2 ^ s:=by
 have F:=Ara hs
 have G:x*2 ^ s≤4294967295*2 ^ s:=Nat.mul_le_mul_right _ (by omega)
 have C:(x+1)*2 ^ s≤4294967296*2 ^ s:=Nat.mul_le_mul_right _ (by omega)
 rw[Nat.add_mul] at C
 refine⟨?_,by omega⟩
 rw[Ja (by omega),Int.toNat_natCast,Nat.min_eq_left (by omega),show(2:Int) ^ s=((2 ^ s:Nat):Int) by simp,Abd,Ja (by omega),Ayz (by omega) (by omega),Nat.or_comm,sA k]
theorem pb {N:Nat} {a:List Nat} {t o:Bool} {s:Nat} (M:Al a) (hs:s≤31) (D:a.length≤1000000000000):∀ (m d fuel:Nat) (S:List Nat) (c:Nat),d+m=a.length→m<fuel→Al S→S.length=a.length+1→A50 S d→c<2 ^ s →
  val S+4294967296 ^ d*c=val (a.take d)*2 ^ s →
  ∃ S',Al S'∧S'.length=a.length+1∧val S'=val a*2 ^ s∧∀ K:Nat→LA→O R,Jk N K (Ae a) a.length t o (s:Int) fuel (a.length+1) (c:Int) (a.length:Int) (d:Int) (Ae S)=K (a.length+1) (Ae S')
 | 0,d,fuel+1,S,c,V,_,hS,F,C,T,G=>by
  have I:d=a.length:=by omega
  subst I
  have hp:=Ara hs
  rw[List.take_length] at G
  refine⟨S.set a.length c,Cx hS (by omega) _,by simpa using F,by rw[Xl C (by omega),G],fun K=>?_⟩
  rw[Jk];unfold Uk
  rw[Ku (Nat.le_refl _),cf,Aa (by omega),ct,Bdn (by omega),ct,A2q (by omega),Bbg]
 | m+1,d,fuel+1,S,c,V,Y,hS,F,C,T,G=>by
  have k:d<a.length:=by omega
  have ad:=Ba M k
  obtain⟨w1,w2⟩:=A7z ad T hs
  generalize L:a[d]*2 ^ s+c=w at *
  have U:0<2 ^ s:=Nat.pow_pos (by omega)
  have key:val (S.set d (w%4294967296))+4294967296 ^ (d+1)*(w/4294967296)=val (a.take (d+1))*2 ^ s:=by
   rw[Xl C (by omega),A5 k,Nat.pow_succ,Nat.add_mul,Nat.mul_assoc _ a[d]]
   have e:=Ol (4294967296 ^ d) w
   have e2:4294967296 ^ d*w=4294967296 ^ d*(a[d]*2 ^ s)+4294967296 ^ d*c:=by rw[←L,Nat.mul_add]
   omega
  obtain⟨S',q1,q2,q3,q4⟩:=pb (t:=t) (o:=o) M hs D m (d+1) fuel (S.set d (w%4294967296)) (w/4294967296) (by omega) (by omega) (Cx hS (by omega) d) (by simpa using F) (KA C) (Nat.div_lt_of_lt_mul w2) key
  refine⟨S',q1,q2,q3,fun K=>?_⟩
  rw[Jk];unfold Uk
  rw[Jh k,ct,Aa k,ct,ZO k,show decide (((s:Nat):Int)<0)=false by simp,cf,Aa (by omega),ct,Al1 (by omega),ct,w1,rz,lD,cC,wS (by omega)]
  exact q4 K
theorem pc {N:Nat} {a:List Nat} {n:Nat} {t o:Bool} {s:Nat} (hn:n=a.length) (C:Al a) (hs:s≤31) (k:fit a.length N) :
  ∃ S',Al S'∧S'.length=a.length+1∧val S'=val a*2 ^ s∧∀ K:Nat→LA→O R,Sk N (Ae a) n t o (s:Int) K=K (a.length+1) (Ae S'):=by
 subst hn
 have L:=k.1;have M:=k.2
 obtain⟨S',D,F,G,I⟩:=pb (R:=R) (N:=N) (t:=t) (o:=o) C hs (by omega) a.length 0 N (List.replicate (a.length+1) 0) 0 (by omega) (by omega) (Cw _) (by simp) (Nd _) (Nat.pow_pos (by omega)) (by rw[Ei];simp[val])
 refine⟨S',D,F,G,fun K=>?_⟩
 rw[cN];unfold JB
 rw[Be2 (by omega),A64 (by omega),ct,Int.toNat_natCast,Db]
 exact I K
end
end Gx

namespace Gx
open Go Go.Proofs
section
variable {R:Type}
theorem Bbj {P U Q:List Nat} {i:Nat} (h:i<U.length) {f:Int→O R}:An .u32 (List.drop (P.length+((Int.toNat (i:Int))*1)) (Ae (P++(U++Q)))) f=f (U[i]:Nat):=by
 rw[Int.toNat_natCast,Nat.mul_one,Aug (by simp;omega)]
 congr 2
 rw[List.getElem_append_right (by omega)]
 simp only[Nat.add_sub_cancel_left]
 rw[List.getElem_append_left h]
theorem Bdo {P U Q:List Nat} {i:Nat} (h:i<U.length):((Nat.beq 1 1)&&((Nat.ble ((P.length+((Int.toNat (i:Int))*1))+1) (List.length (Ae (P++(U++Q)))))&&(!false)))=true:=by
 rw[B4,Int.toNat_natCast];simp;omega
theorem A70 {P U Q:List Nat} {i v:Nat} (h:i<U.length):List.set (Ae (P++(U++Q))) (P.length+((Int.toNat (i:Int))*1)) (.int .u32 (v:Int))=Ae (P++(U.set i v++Q)):=by
 rw[Int.toNat_natCast,Nat.mul_one,nL,List.set_append_right _ _ (by omega),Nat.add_sub_cancel_left,List.set_append_left _ _ h]
theorem Bek {P U Q:List Nat} {i:Nat} (h:i<U.length) {f:Int→O R}:An .u32 (List.drop (P.length+(i*1)) (Ae (P++(U++Q)))) f=f (U[i]:Nat):=by
 have:=Bbj (R:=R) (P:=P) (Q:=Q) (f:=f) h;rw[Int.toNat_natCast] at this;exact this
theorem pe {X:List Nat} {p g:Nat} (h:p<X.length):val ((X.set p g).take (p+1))=val (X.take p)+4294967296 ^ p*g:=by
 rw[A5 (by simpa using h),List.getElem_set_self,List.take_set_of_le (Nat.le_refl _)]
theorem OU {X:List Nat} {n:Nat} (h:X.length=n+1):val X=val (X.take n)+4294967296 ^ n*X[n]:=by
 have:=A5 (l:=X) (c:=n) (by omega)
 rwa [List.take_of_length_le (by omega)] at this
theorem A2x {D:Nat} (h:1≤D) (k:D<18446744073709551616):IntKind.wrap .u64 ((D:Int) - 1)=((D - 1:Nat):Int):=by rw[lE];omega
theorem A95 {D y t:Nat} (hD:D<4294967296) (k:y<4294967296) (C:t≤4294967296):D*y+t<18446744073709551616∧(D*y+t)/4294967296+1≤4294967296:=by
 have:D*y≤4294967295*4294967295:=Nat.mul_le_mul (by omega) (by omega)
 omega
theorem A2y {N:Nat} {P Q X v:List Nat} {n D:Nat} {f g:Bool} (hv:Al v) (hn:v.length=n) (hX:Al X) (hXl:X.length=n+1) (hs:n≤1000000000000) (hD:D<4294967296) (hD1:1≤D) {r:Nat} (hr:val X+val v=4294967296 ^ (n+1)+r) (L:r<4294967296 ^ n) :
  ∀ (m o fuel:Nat) (Y:List Nat) (c:Nat),o+m=n→m<fuel→Al Y→Y.length=n+1→(∀ j (T:j<Y.length) (U:j<X.length),o≤j→Y[j]=X[j])→c≤1→val (Y.take o)+4294967296 ^ o*c=val (X.take o)+val (v.take o) →
  ∃ Y',Al Y'∧Y'.length=n+1∧val Y'=r∧∀ K:Int→LA→O R,In N K P.length (n+1) (n:Int) (D:Int) (Ae v) n f g fuel (c:Int) (n:Int) (o:Int) (Ae (P++(Y++Q)))=K ((D - 1:Nat):Int) (Ae (P++(Y'++Q)))
 | 0,o,fuel+1,Y,c,ho,_,hY,hYl,C,hc,F=>by
  have V:o=n:=by omega
  subst V
  rw[show v.take o=v by rw[←hn];exact List.take_length] at F
  have e1:=OU hXl
  have eq:val (Y.take o)+4294967296 ^ o*(X[o]+c)=4294967296 ^ o*4294967296+r:=by
   rw[Nat.mul_add,←Nat.pow_succ];omega
  have yt:=Bk (Cq hY o)
  rw[List.length_take,Nat.min_eq_left (by omega)] at yt
  have hP:0<4294967296 ^ o:=Nat.pow_pos (by omega)
  have hw:X[o]+c=4294967296:=by
   have T:(val (Y.take o)+4294967296 ^ o*(X[o]+c))/4294967296 ^ o=X[o]+c:=by rw[Nat.add_mul_div_left _ _ hP,Nat.div_eq_of_lt yt,Nat.zero_add]
   have U:(4294967296 ^ o*4294967296+r)/4294967296 ^ o=4294967296:=by rw[Nat.mul_add_div hP,Nat.div_eq_of_lt L,Nat.add_zero]
   rw[←T,eq,U]
  have hyr:val (Y.take o)=r:=by rw[hw] at eq;omega
  have G:Y[o]=X[o]:=C o (by omega) (by omega) (Nat.le_refl _)
  have hl2:(Y.set o 0).length=o+1:=by simpa using hYl
  refine⟨Y.set o 0,Cx hY (by omega) o,hl2,?_,fun K=>?_⟩
  ·have:=pe (X:=Y) (p:=o) (g:=0) (by omega)
   rw[List.take_of_length_le (by omega),hyr] at this;simpa using this
  ·rw[In];unfold Pu
   have hXo:=Ba hX (show o<X.length by omega)
   rw[Ku (Nat.le_refl _),cf,Aa (by omega),ct,Bbj (by omega),ct,Bdo (by omega),ct,G,A2q (show c<4294967296 by omega),ND,hw,lD,A70 (by omega),A2x hD1 (by omega),A2q (by omega)]
 | m+1,o,fuel+1,Y,c,ho,hfu,hY,hYl,C,hc,F=>by
  have M:o<n:=by omega
  have I:o<v.length:=by omega
  have vo:=Ba hv I
  have k:o<Y.length:=by omega
  have yo:=Ba hY k
  have G:Y[o]=X[o]:=C o (by omega) (by omega) (Nat.le_refl _)
  have hs1:c+(Y[o]+v[o])<18446744073709551616:=by omega
  have hs2:(c+(Y[o]+v[o]))/4294967296≤1:=by omega
  generalize S:c+(Y[o]+v[o])=s at *
  have key:val ((Y.set o (s%4294967296)).take (o+1))+4294967296 ^ (o+1)*(s/4294967296)=val (X.take (o+1))+val (v.take (o+1)):=by
   rw[pe k,A5 (l:=X) (by omega),A5 I,Nat.pow_succ]
   have e:=Ol (4294967296 ^ o) s
   have e2:4294967296 ^ o*s=4294967296 ^ o*c+(4294967296 ^ o*X[o]+4294967296 ^ o*v[o]):=by rw[←S,Nat.mul_add,Nat.mul_add,G]
   omega
  obtain⟨Y',q1,q2,q3,q4⟩:=A2y (N:=N) (P:=P) (Q:=Q) (f:=f) (g:=g) hv hn hX hXl hs hD hD1 hr L m (o+1) fuel (Y.set o (s%4294967296)) (s/4294967296) (by omega) (by omega) (Cx hY (by omega) o) (by simpa using hYl) (fun j T U hj=>by rw[List.getElem_set,if_neg (by omega)];exact C j (by simpa using T) U (by omega)) hs2 key
  refine⟨Y',q1,q2,q3,fun K=>?_⟩
  rw[In];unfold Pu
  rw[Jh M,ct,Aa M,ct,ZO I,Aa (by omega),ct,Bbj k,ct,Bdo k,ct,Ja (show v[o]<18446744073709551616 by omega),Ja (show Y[o]<18446744073709551616 by omega),ND,Ja (by omega),ND,S,Ja hs1,rz,lD,A70 k,wS (by omega)]
  exact q4 K
theorem A71 {N:Nat} {P Q U v:List Nat} {n D:Nat} {f g:Bool} (T:Al v) (hn:v.length=n) (hU:Al U) (hUl:U.length=n+1) (hs:n≤1000000000000) (hN:n+2<N) (hD:D<4294967296) (I:0<val v) (hq1:val U/val v≤D) (hq2:D≤val U/val v+1) :
  ∀ (m p fuel:Nat) (X:List Nat) (t:Nat),p+m=n→m<fuel→Al X→X.length=n+1→(∀ j (h1:j<X.length) (h2:j<U.length),p≤j→X[j]=U[j])→t≤4294967296→val (X.take p)+D*val (v.take p)=val (U.take p)+4294967296 ^ p*t →
  ∃ X',Al X'∧X'.length=n+1∧val X'=val U%val v∧∀ K:Int→LA→O R,Gr N K P.length (n+1) (Ae v) n f g (n:Int) (D:Int) fuel (t:Int) (n:Int) (p:Int) (Ae (P++(X++Q)))=K ((val U/val v:Nat):Int) (Ae (P++(X'++Q)))
 | 0,p,fuel+1,X,t,hp,_,hX,hXl,k,ht,G=>by
  have hp':p=n:=by omega
  subst hp'
  rw[show v.take p=v by rw[←hn];exact List.take_length] at G
  have hXp:X[p]=U[p]:=k p (by omega) (by omega) (Nat.le_refl _)
  have up:=Ba hU (show p<U.length by omega)
  obtain⟨d,c,g1,g2,g3,V,g5⟩:=gJ up ht
  have C:(X.set p d).length=p+1:=by simpa using hXl
  have hX2:=Cx hX g1 p
  have hv2:val (X.set p d)=val (X.take p)+4294967296 ^ p*d:=by
   have:=pe (X:=X) (p:=p) (g:=d) (by omega)
   rwa [List.take_of_length_le (by omega)] at this
  have eU:=OU hUl
  have main:val (X.set p d)+D*val v=val U+4294967296 ^ (p+1)*c:=by
   have e:4294967296 ^ p*(U[p]+4294967296*c)=4294967296 ^ p*(d+t):=by rw[g3]
   rw[Nat.mul_add,Nat.mul_add,←Nat.mul_assoc] at e
   rw[hv2,eU,Nat.pow_succ];omega
  have hlt:=Bk hX2
  rw[C] at hlt
  have hdm:=Nat.div_add_mod (val U) (val v)
  have hmod:=Nat.mod_lt (val U) I
  have vlt:=Bk T
  rw[hn] at vlt
  by_cases hc:c=0
  ·subst hc
   have hDq:D=val U/val v:=by
    have:D≤val U/val v:=by rw[Nat.le_div_iff_mul_le I];omega
    omega
   refine⟨X.set p d,hX2,C,?_,fun K=>?_⟩
   ·rw[hDq,Nat.mul_comm] at main;omega
   ·rw[Gr];unfold Ke
    rw[Ku (Nat.le_refl _),cf,Aa (by omega),ct,Bbj (by omega),ct,Bdo (by omega),ct,hXp,Ja (show U[p]<18446744073709551616 by omega),V,g5,show(((0:Nat):Int)==0)=true by rfl,ct,A2q hD,A70 (by omega),hDq]
  ·have hc1:c=1:=by omega
   subst hc1
   have hDq:D=val U/val v+1:=by
    have:¬ D≤val U/val v:=fun h=>by
     have:=Nat.mul_le_mul_left (val v) h
     rw[Nat.mul_comm] at this
     omega
    omega
   have hr:val (X.set p d)+val v=4294967296 ^ (p+1)+val U%val v:=by
    rw[hDq,Nat.add_mul,Nat.mul_comm (val U/val v)] at main;omega
   obtain⟨Y',q1,q2,q3,q4⟩:=A2y (R:=R) (N:=N) (P:=P) (Q:=Q) (f:=f) (g:=g) (X:=X.set p d) T hn hX2 C hs hD (by rw[hDq];exact Nat.le_add_left 1 _) hr (by omega) p 0 N (X.set p d) 0 (by omega) (by omega) hX2 C (fun _ _ _ _=>rfl) (by omega) (by simp[val])
   refine⟨Y',q1,q2,q3,fun K=>?_⟩
   rw[Gr];unfold Ke
   rw[Ku (Nat.le_refl _),cf,Aa (by omega),ct,Bbj (by omega),ct,Bdo (by omega),ct,hXp,Ja (show U[p]<18446744073709551616 by omega),V,g5,show(((1:Nat):Int)==0)=false by rfl,cf,A70 (by omega)]
   have:=q4 K
   rw[show D - 1=val U/val v by rw[hDq];rfl] at this
   exact this
 | m+1,p,fuel+1,X,t,hp,hfu,hX,hXl,k,ht,G=>by
  have M:p<n:=by omega
  have L:p<v.length:=by omega
  have vp:=Ba T L
  have F:p<X.length:=by omega
  have hXp:X[p]=U[p]:=k p (by omega) (by omega) (Nat.le_refl _)
  have up:=Ba hU (show p<U.length by omega)
  obtain⟨hw1,hw2⟩:=A95 hD vp ht
  have hDv:D*v[p]<18446744073709551616:=by omega
  generalize S:D*v[p]+t=w at *
  obtain⟨d,c,g1,g2,g3,V,g5⟩:=gJ up (show w%4294967296≤4294967296 by omega)
  have key:val ((X.set p d).take (p+1))+D*val (v.take (p+1))=val (U.take (p+1))+4294967296 ^ (p+1)*(w/4294967296+c):=by
   rw[pe F,A5 L,A5 (l:=U) (by omega),Nat.pow_succ]
   have e:=Ol (4294967296 ^ p) w
   have e2:4294967296 ^ p*w=4294967296 ^ p*(D*v[p])+4294967296 ^ p*t:=by rw[←S,Nat.mul_add]
   have e3:4294967296 ^ p*(U[p]+4294967296*c)=4294967296 ^ p*(d+w%4294967296):=by rw[g3]
   rw[Nat.mul_add,Nat.mul_add,←Nat.mul_assoc] at e3
   have e4:D*(val (v.take p)+4294967296 ^ p*v[p])=D*val (v.take p)+4294967296 ^ p*(D*v[p]):=by rw[Nat.mul_add,Nat.mul_left_comm]
   rw[e4,Nat.mul_add]
   omega
  obtain⟨X',q1,q2,q3,q4⟩:=A71 (N:=N) (P:=P) (Q:=Q) (f:=f) (g:=g) T hn hU hUl hs hN hD I hq1 hq2 m (p+1) fuel (X.set p d) (w/4294967296+c) (by omega) (by omega) (Cx hX g1 p) (by simpa using hXl) (fun j h1 h2 hj=>by rw[List.getElem_set,if_neg (by omega)];exact k j (by simpa using h1) h2 (by omega)) (by omega) key
  refine⟨X',q1,q2,q3,fun K=>?_⟩
  rw[Gr];unfold Ke
  rw[Jh M,ct,Aa M,ct,ZO L,Aa (by omega),ct,Bbj F,ct,Bdo F,ct,hXp,Ja (show v[p]<18446744073709551616 by omega),Abd,Ja hDv,ND,S,Ja hw1,lD,Ja (show w%4294967296<18446744073709551616 by omega),Ja (show U[p]<18446744073709551616 by omega),V,g5,rz,ND,Ja (by omega),A70 F,wS (by omega)]
  exact q4 K
end
end Gx

namespace Gx
open Go Go.Proofs
section
variable {R:Type}
theorem jy (a b:Nat):Int.tdiv (a:Int) (b:Int)=((a/b:Nat):Int):=rfl
theorem d8 (a b:Nat):Int.tmod (a:Int) (b:Int)=((a%b:Nat):Int):=rfl
theorem Bbk {l:Nat} (h:l<4294967296):(((Int.fdiv (l:Int) (2 ^ 32)) != (0:Int)))=false:=by rw[rz,Nat.div_eq_of_lt h];rfl
theorem Bbl {l:Nat} (h:4294967296≤l):(((Int.fdiv (l:Int) (2 ^ 32)) != (0:Int)))=true:=by
 have k:l/4294967296≠0:=by omega
 rw[rz];rw[bne_iff_ne];omega
theorem Bcb {a b:Nat} (k:a<4294967296) (C:b<4294967296):Ta .u64 (IntKind.wrap .u64 ((a:Int)*2 ^ 32)) (b:Int)=((a*4294967296+b:Nat):Int):=by
 rw[show(2:Int) ^ 32=((2 ^ 32:Nat):Int) by rfl,Abd,Ja (by omega),Ayz (by omega) (by omega),sA (by omega)]
theorem Bcc {B l v1 v2 m u2:Nat} (h:m*B+u2<l*v2):(l*v1+m)*B+u2<l*(v1*B+v2):=by rw[Nat.add_mul,Nat.mul_add,←Nat.mul_assoc l v1];omega
theorem Bcd {B l v1 v2 m u2:Nat} (h:l*v2≤m*B+u2):l*(v1*B+v2)≤(l*v1+m)*B+u2:=by rw[Nat.add_mul,Nat.mul_add,←Nat.mul_assoc l v1];omega
theorem Bce {B u0 u1 u2 v1 v2:Nat} (k:v2<B) (h:(u0*B+u1)*B+u2<(v1*B+v2+1)*B):u0*B+u1<v1*B+B:=by
 have:u0*B+u1<v1*B+v2+1:=Nat.lt_of_mul_lt_mul_right (Nat.lt_of_le_of_lt (Nat.le_add_right _ u2) h)
 omega
theorem Bde (P x:Nat):P*4294967296*x=P*(x*4294967296):=by rw[Nat.mul_assoc,Nat.mul_comm 4294967296]
theorem A72 {N:Nat} {P Q U v:List Nat} {n:Nat} {f g:Bool} {K:Int→LA→O R} (hn:v.length=n+2) (hv:Al v) (hU:Al U) (hUl:U.length=n+3) (hs:n≤1000000000000) {v1 v2 u2 top:Nat}
  (e1:v[n+1]'(by omega)=v1) (e2:v[n]'(by omega)=v2) (e3:U[n]'(by omega)=u2) (hv1:2147483648≤v1) (htop:top<v1*4294967296+4294967296)
  (hV:(v1*4294967296+v2)*4294967296 ^ n≤val v) (hV':val v<(v1*4294967296+v2+1)*4294967296 ^ n) (hUU:(top*4294967296+u2)*4294967296 ^ n≤val U) (hUU':val U<(top*4294967296+u2+1)*4294967296 ^ n) (hq:val U/val v<4294967296) :
  ∀ (k fuel l m:Nat),k<fuel→4294967296≤m+k*2147483648→m<4294967296→l*v1+m=top→val U/val v≤l→∃ D,D<4294967296∧val U/val v≤D∧D≤val U/val v+1 ∧
   E7 N K P.length (n+3) (Ae v) (n+2) f g (Ae (P++(U++Q))) fuel ((n+2:Nat):Int) (l:Int) (m:Int)=E6 N K P.length (n+3) (Ae v) (n+2) f g ((n+2:Nat):Int) (Ae (P++(U++Q))) (D:Int):=by
 have b1:=Ba hv (show n+1<v.length by omega)
 have b2:=Ba hv (show n<v.length by omega)
 have b3:=Ba hU (show n<U.length by omega)
 rw[e1] at b1;rw[e2] at b2;rw[e3] at b3
 have hP:0<4294967296 ^ n:=Nat.pow_pos (by omega)
 have M:0<val v:=Nat.lt_of_lt_of_le (Nat.mul_pos (by omega) hP) hV
 intro k
 induction k with
 | zero=>intro fuel l m _ h1 h2;omega
 | succ k ih =>
  intro fuel l m hf hm hm2 T hql
  obtain⟨fuel,rfl⟩:∃ F,fuel=F+1:=⟨fuel - 1,by omega⟩
  generalize S:val U/val v=q at *
  have wi1:IntKind.wrap .i64 (((n+2:Nat):Int) - 1)=((n+1:Nat):Int):=by rw[i64 (by omega)];omega
  have wi2:IntKind.wrap .i64 (((n+2:Nat):Int) - 2)=((n:Nat):Int):=by rw[i64 (by omega)];omega
  have lower:q<l→l<18446744073709551616→∃ D,D<4294967296∧q≤D∧D≤q+1 ∧
    Mu N (E7 N K P.length (n+3) (Ae v) (n+2) f g (Ae (P++(U++Q))) fuel) K P.length (n+3) (Ae v) (n+2) f g ((n+2:Nat):Int) (l:Int) (m:Int) (Ae (P++(U++Q)))=E6 N K P.length (n+3) (Ae v) (n+2) f g ((n+2:Nat):Int) (Ae (P++(U++Q))) (D:Int):=by
   intro hlt C
   have L:(l - 1)*v1+(m+v1)=top:=by
    have:l*v1=(l - 1)*v1+v1:=by
     obtain⟨l',rfl⟩:∃ l',l=l'+1:=⟨l - 1,by omega⟩
     rw[Nat.add_mul];simp
    omega
   unfold Mu Wq
   rw[wi1,Aa (by omega),ct,ZO (show n+1<v.length by omega),e1,Ja (show v1<18446744073709551616 by omega),ND,Ja (show m+v1<18446744073709551616 by omega),A2x (by omega) C]
   by_cases V:4294967296≤m+v1
   ·have hDB:l - 1<4294967296:=by
     apply Nat.lt_of_not_le;intro hge
     have:=Nat.mul_le_mul_right v1 hge
     rw[Nat.mul_comm 4294967296] at this
     omega
    have G:(l - 1)*(v1*4294967296+v2)≤top*4294967296+u2:=by
     have x1:(l - 1)*v2≤4294967295*4294967295:=Nat.mul_le_mul (by omega) (by omega)
     rw[←L,Nat.add_mul,Nat.mul_add,←Nat.mul_assoc]
     omega
    have I:=Al9 hV' hUU G (by omega) M
    rw[S] at I
    exact⟨l - 1,hDB,by omega,I,by rw[Bbl V,ct]⟩
   ·obtain⟨D,d1,d2,d3,d4⟩:=ih fuel (l - 1) (m+v1) (by omega) (by omega) (by omega) L (by omega)
    exact⟨D,d1,d2,d3,by rw[Bbk (by omega),cf,d4]⟩
  rw[E7];unfold Wr
  by_cases hlB:l<4294967296
  ·rw[Bbk hlB,show((false:Bool)==false)=true by rfl,ct,wi2,Aa (by omega),ct,ZO (show n<v.length by omega),Aa (by omega),ct,Bbj (show n<U.length by omega),Bd7,e2,e3,Ja (show v2<18446744073709551616 by omega),Ja (show u2<18446744073709551616 by omega),Abd]
   have x1:l*v2≤4294967295*4294967295:=Nat.mul_le_mul (by omega) (by omega)
   rw[Ja (show l*v2<18446744073709551616 by omega),Bcb hm2 b3]
   by_cases Y:m*4294967296+u2<l*v2
   ·rw[show decide (((l*v2:Nat):Int)>((m*4294967296+u2:Nat):Int))=true by rw[decide_eq_true_eq];omega,ct]
    have hup:val U/val v<l:=Al8 hV hUU' (by rw[←T];exact Bcc Y) M
    rw[S] at hup
    exact lower hup (by omega)
   ·rw[show decide (((l*v2:Nat):Int)>((m*4294967296+u2:Nat):Int))=false by rw[decide_eq_false_iff_not];omega,cf]
    have G:l*(v1*4294967296+v2)≤top*4294967296+u2:=by
     rw[←T];exact Bcd (Nat.le_of_not_lt Y)
    have I:=Al9 hV' hUU G (by omega) M
    rw[S] at I
    exact⟨l,hlB,hql,I,rfl⟩
  ·rw[Bbl (by omega),show((true:Bool)==false)=false by rfl,cf]
   have C:l<18446744073709551616:=by
    have:l*2147483648≤l*v1:=Nat.mul_le_mul_left _ hv1
    omega
   exact lower (by omega) C
theorem Agd {N:Nat} {P Q U v:List Nat} {n:Nat} {f g:Bool} (hn:v.length=n+2) (I:Al v) (hU:Al U) (hUl:U.length=n+3) (hs:n≤1000000000) (hN:n+8<N) (Y:2147483648≤v[n+1]'(by omega)) (hlt:val U<val v*4294967296) :
  ∃ U',Al U'∧U'.length=n+3∧val U'=val U%val v∧∀ K:Int→LA→O R,Lm N P.length (n+3) (Ae v) (n+2) f g (Ae (P++(U++Q))) K=K ((val U/val v:Nat):Int) (Ae (P++(U'++Q))):=by
 have b1:=Ba I (show n+1<v.length by omega)
 have b2:=Ba I (show n<v.length by omega)
 have b3:=Ba hU (show n<U.length by omega)
 have b4:=Ba hU (show n+1<U.length by omega)
 have b5:=Ba hU (show n+2<U.length by omega)
 have hP:0<4294967296 ^ n:=Nat.pow_pos (by omega)
 have vv:val v=val (v.take n)+4294967296 ^ n*(v[n+1]'(by omega)*4294967296+v[n]'(by omega)):=by
  have k:=A5 (l:=v) (c:=n+1) (by omega)
  have C:=A5 (l:=v) (c:=n) (by omega)
  rw[List.take_of_length_le (by omega)] at k
  rw[k,C,Nat.pow_succ,Nat.mul_add,Nat.mul_assoc,Nat.mul_comm 4294967296 v[n+1]];omega
 have uu:val U=val (U.take n)+4294967296 ^ n*((U[n+2]'(by omega)*4294967296+U[n+1]'(by omega))*4294967296+U[n]'(by omega)):=by
  have h0:=A5 (l:=U) (c:=n+2) (by omega)
  have k:=A5 (l:=U) (c:=n+1) (by omega)
  have C:=A5 (l:=U) (c:=n) (by omega)
  rw[List.take_of_length_le (by omega)] at h0
  have x1:4294967296 ^ (n+2)*U[n+2]=4294967296 ^ n*(U[n+2]*4294967296*4294967296):=by rw[Nat.pow_succ (n:=4294967296) (m:=n+1),Nat.pow_succ,Bde,Bde]
  have x2:4294967296 ^ (n+1)*U[n+1]=4294967296 ^ n*(U[n+1]*4294967296):=by rw[Nat.pow_succ,Bde]
  rw[h0,k,C,x1,x2,Nat.add_mul,Nat.mul_add,Nat.mul_add];omega
 have tv:=Bk (Cq I n)
 have tu:=Bk (Cq hU n)
 rw[List.length_take,Nat.min_eq_left (by omega)] at tv tu
 generalize e1:v[n+1]'(by omega)=v1 at *
 generalize e2:v[n]'(by omega)=v2 at *
 generalize e3:U[n]'(by omega)=u2 at *
 generalize e4:U[n+1]'(by omega)=u1 at *
 generalize e5:U[n+2]'(by omega)=u0 at *
 have L:0<val v:=by
  have:0<4294967296 ^ n*(v1*4294967296+v2):=Nat.mul_pos hP (by omega)
  omega
 have hV:(v1*4294967296+v2)*4294967296 ^ n≤val v:=by rw[Nat.mul_comm];omega
 have hV':val v<(v1*4294967296+v2+1)*4294967296 ^ n:=by rw[Nat.mul_comm,Nat.mul_add];omega
 have hUU:((u0*4294967296+u1)*4294967296+u2)*4294967296 ^ n≤val U:=by rw[Nat.mul_comm];omega
 have hUU':val U<((u0*4294967296+u1)*4294967296+u2+1)*4294967296 ^ n:=by rw[Nat.mul_comm,Nat.mul_add];omega
 have hq:val U/val v<4294967296:=Nat.div_lt_of_lt_mul hlt
 have F:u0*4294967296+u1<v1*4294967296+4294967296:=by
  have k:((u0*4294967296+u1)*4294967296+u2)*4294967296 ^ n<(v1*4294967296+v2+1)*4294967296 ^ n*4294967296:=by
   have:=(Nat.mul_lt_mul_right (show 0<4294967296 by omega)).2 hV'
   omega
  rw[Nat.mul_right_comm] at k
  exact Bce b2 (Nat.lt_of_mul_lt_mul_right k)
 obtain⟨top,M⟩:∃ top,u0*4294967296+u1=top:=⟨_,rfl⟩
 rw[M] at hUU hUU' F
 have hdm:=Nat.div_add_mod top v1
 have hmod:=Nat.mod_lt top (show 0<v1 by omega)
 have hq0:val U/val v≤top/v1:=by
  have k:val U/val v<top/v1+1:=by
   apply Al8 hV hUU' _ L
   have C:top<v1*(top/v1+1):=by rw[Nat.mul_add];omega
   have h3:(top+1)*4294967296≤v1*(top/v1+1)*4294967296:=Nat.mul_le_mul_right _ C
   rw[Nat.mul_add,←Nat.mul_assoc,Nat.mul_comm _ v1]
   omega
  omega
 have key:∀ K:Int→LA→O R,∃ D,D<4294967296∧val U/val v≤D∧D≤val U/val v+1∧Lm N P.length (n+3) (Ae v) (n+2) f g (Ae (P++(U++Q))) K=E6 N K P.length (n+3) (Ae v) (n+2) f g ((n+2:Nat):Int) (Ae (P++(U++Q))) (D:Int):=by
  intro K
  obtain⟨D,S,T,V,G⟩:=A72 (R:=R) (N:=N) (P:=P) (Q:=Q) (f:=f) (g:=g) (K:=K) hn I hU hUl (by omega) e1 e2 e3 Y F hV hV' hUU hUU' hq 2 N (top/v1) (top%v1) (by omega) (by omega) (by omega) (by rw[Nat.mul_comm];exact hdm) hq0
  refine⟨D,S,T,V,?_⟩
  rw[←G,OC];unfold Xh
  have wi1:IntKind.wrap .i64 (((n+2:Nat):Int) - 1)=((n+1:Nat):Int):=by rw[i64 (by omega)];omega
  rw[Aa (by omega),ct,Bek (show n+2<U.length by omega),wi1,Aa (by omega),ct,Bbj (show n+1<U.length by omega),Aa (by omega),ct,ZO (show n+1<v.length by omega),e1,e4,e5,Ja (show v1<18446744073709551616 by omega),Akk (by omega),cf,ct,ZO (show n+1<v.length by omega),e1,Ja (show v1<18446744073709551616 by omega),Akk (by omega),cf,Ja (show u0<18446744073709551616 by omega),Ja (show u1<18446744073709551616 by omega),Bcb b5 b4,M,jy,d8,Ja (show top/v1<18446744073709551616 from Nat.lt_of_le_of_lt (Nat.div_le_self _ _) (by omega))]
 have fin:∀ D,D<4294967296→val U/val v≤D→D≤val U/val v+1→∃ U',Al U'∧U'.length=n+3∧val U'=val U%val v∧∀ K:Int→LA→O R,E6 N K P.length (n+3) (Ae v) (n+2) f g ((n+2:Nat):Int) (Ae (P++(U++Q))) (D:Int)=K ((val U/val v:Nat):Int) (Ae (P++(U'++Q))):=by
  intro D S T V
  obtain⟨X',q1,q2,q3,q4⟩:=A71 (R:=R) (N:=N) (P:=P) (Q:=Q) (U:=U) (v:=v) (n:=n+2) (D:=D) (f:=f) (g:=g) I hn hU hUl (by omega) (by omega) S L T V (n+2) 0 N U 0 (by omega) (by omega) hU hUl (fun _ _ _ _=>rfl) (by omega) (by simp[val])
  exact⟨X',q1,q2,q3,fun K=>by unfold E6 Wp;exact q4 K⟩
 by_cases hz:val U/val v+1<4294967296
 ·obtain⟨U1,a1,a2,a3,a4⟩:=fin (val U/val v) hq (Nat.le_refl _) (by omega)
  obtain⟨U2,c1,c2,c3,c4⟩:=fin (val U/val v+1) hz (by omega) (Nat.le_refl _)
  have:U1=U2:=by
   have k:=(Bt a1).1;have C:=(Bt c1).1
   rw[a3] at k;rw[c3] at C;rw[k,C,a2,c2]
  subst this
  refine⟨U1,a1,a2,a3,fun K=>?_⟩
  obtain⟨D,S,T,V,G⟩:=key K
  have:D=val U/val v∨D=val U/val v+1:=by
   generalize val U/val v=q at *;omega
  rcases this with rfl | rfl
  ·rw[G,a4 K]
  ·rw[G,c4 K]
 ·obtain⟨U1,a1,a2,a3,a4⟩:=fin (val U/val v) hq (Nat.le_refl _) (by omega)
  refine⟨U1,a1,a2,a3,fun K=>?_⟩
  obtain⟨D,S,T,V,G⟩:=key K
  have:D=val U/val v:=by
   generalize val U/val v=q at *;omega
  subst this
  rw[G,a4 K]
end
end Gx

namespace Gx
open Go Go.Proofs
section
variable {R:Type}
theorem d9 {l:List Nat} {d:Nat} (h:d<l.length):val (l.drop d)=l[d]+4294967296*val (l.drop (d+1)):=by
 rw[List.drop_eq_getElem_cons h,val]
theorem Avv {S:List Nat} {d v:Nat} (h:d<S.length):(S.set d v).drop d=v::S.drop (d+1):=by
 rw[List.drop_eq_getElem_cons (by simpa using h),List.getElem_set_self,List.drop_set_of_lt (by omega)]
theorem wy {N:Nat} {a:List Nat} {t o:Bool} {b:Nat} (M:Al a) (C:0<b) (V:b<4294967296) (D:fit a.length N):∀ (c fuel:Nat) (S:List Nat) (r:Nat),c<fuel→c≤a.length→Al S→S.length=a.length→r<b→val (S.drop c)*b+r=val (a.drop c) →
  ∃ S' S2,Al S'∧val S'=val a/b∧Al S2∧val S2=val a%b∧∀ K:Nat→Nat→LA→LA→O R,Ea N K (Ae a) a.length t o (b:Int) fuel (r:Int) ((c:Int) - 1) (Ae S)=K (Ar (val a/b)).length (Ar (val a%b)).length (Ae S') (Ae S2)
 | 0,fuel+1,S,r,_,_,hS,I,hr,F=>by
  have Y:=D.1
  rw[List.drop_zero,List.drop_zero] at F
  have hq:val a/b=val S:=by
   rw[←F,Nat.mul_comm,Nat.mul_add_div C,Nat.div_eq_of_lt hr,Nat.add_zero]
  have T:val a%b=r:=by rw[←F,Nat.mul_comm,Nat.mul_add_mod,Nat.mod_eq_of_lt hr]
  obtain⟨S2,s1,s2,s3⟩:=Lq (R:=R) (N:=N) (v:=r) (by omega) (by omega)
  refine⟨S,S2,hS,hq.symm,s1,by rw[T,s2],fun K=>?_⟩
  rw[Ea];unfold Jy
  rw[show decide ((((0:Nat):Int) - 1)≥0)=false by simp,cf,NS I.symm hS (by rw[I];exact D),s3,hq,T]
 | c+1,fuel+1,S,r,hfu,hc,hS,I,hr,F=>by
  have Y:=D.1;have h2:=D.2
  have k:c<a.length:=by omega
  have ac:=Ba M k
  have hrB:r<4294967296:=by omega
  have U:r*4294967296+a[c]<b*4294967296:=by
   have:(r+1)*4294967296≤b*4294967296:=Nat.mul_le_mul_right _ hr
   rw[Nat.add_mul] at this;omega
  have L:r*4294967296+a[c]<18446744073709551616:=by omega
  obtain⟨w,G⟩:∃ w,r*4294967296+a[c]=w:=⟨_,rfl⟩
  rw[G] at U L
  have hqB:w/b<4294967296:=Nat.div_lt_of_lt_mul U
  have hdm:=Nat.div_add_mod w b
  obtain⟨S',S2,q1,q2,q3,q4,q5⟩:=wy (t:=t) (o:=o) M C V D c fuel (S.set c (w/b)) (w%b) (by omega) (by omega) (Cx hS hqB c) (by simpa using I) (Nat.mod_lt _ C) (by
   rw[Avv (by omega),val,d9 k,Nat.add_mul,Nat.mul_assoc,←F,Nat.mul_add,Nat.mul_comm (w/b)]
   omega)
  refine⟨S',S2,q1,q2,q3,q4,fun K=>?_⟩
  rw[Ea];unfold Jy
  rw[show(((c+1:Nat):Int) - 1)=(c:Int) by omega,show decide ((c:Int)≥0)=true by simp,ct,Aa k,ct,ZO k,Ja (show b<18446744073709551616 by omega),Akk (by omega),cf,ct,Al1 (by omega),ct,cf,Ja (show a[c]<18446744073709551616 by omega),Bcb hrB ac,G,jy,d8,Ja (show w/b<18446744073709551616 by omega),A2q hqB,cC,i64 (by omega)]
  exact q5 K
theorem Avw {N:Nat} {a:List Nat} {n:Nat} {t o:Bool} {b:Nat} (hn:n=a.length) (D:Al a) (k:0<b) (F:b<4294967296) (C:fit a.length N) :
  ∃ S' S2,Al S'∧val S'=val a/b∧Al S2∧val S2=val a%b∧∀ K:Nat→Nat→LA→LA→O R,Gq N (Ae a) n t o (b:Int) K=K (Ar (val a/b)).length (Ar (val a%b)).length (Ae S') (Ae S2):=by
 subst hn
 have U:=C.1;have V:=C.2
 obtain⟨S',S2,G,I,L,M,T⟩:=wy (R:=R) (t:=t) (o:=o) D k F C a.length N (List.replicate a.length 0) 0 (by omega) (Nat.le_refl _) (Cw _) (by simp) k (by rw[List.drop_eq_nil_of_le (by simp),List.drop_eq_nil_of_le (by simp)];simp[val])
 refine⟨S',S2,G,I,L,M,fun K=>?_⟩
 rw[AM];unfold Pt
 rw[A64 (by omega),ct,i64 (by omega),Db]
 exact T K
theorem A73 {x V s:Nat} (F:x<4294967296) (hs:s≤31):(x+4294967296*V)/2 ^ s=(x+4294967296*(V%4294967296))/2 ^ s%4294967296+4294967296*(V/2 ^ s):=by
 have k:0<2 ^ s:=Nat.pow_pos (by omega)
 have D:2 ^ s∣4294967296:=⟨2 ^ (32 - s),by rw[←Nat.pow_add,show s+(32 - s)=32 by omega]⟩
 have key:∀ W,(x+4294967296*W)/2 ^ s=(x+4294967296*(W%2 ^ s))/2 ^ s+4294967296*(W/2 ^ s):=by
  intro W
  have e:x+4294967296*W=x+4294967296*(W%2 ^ s)+2 ^ s*(4294967296*(W/2 ^ s)):=by
   have h:=Nat.div_add_mod W (2 ^ s)
   have:4294967296*W=4294967296*(2 ^ s*(W/2 ^ s)+W%2 ^ s):=by rw[h]
   rw[this,Nat.mul_add,Nat.mul_left_comm];omega
  rw[e,Nat.add_mul_div_left _ _ k]
 have C:(x+4294967296*(V%2 ^ s))/2 ^ s<4294967296:=by
  rw[Nat.div_lt_iff_lt_mul k]
  have:V%2 ^ s+1≤2 ^ s:=Nat.mod_lt _ k
  have:=Nat.mul_le_mul_left 4294967296 this
  rw[Nat.mul_add] at this
  omega
 rw[key V,key (V%4294967296),Nat.mod_mod_of_dvd _ D,Nat.add_mul_mod_self_left,Nat.mod_eq_of_lt C]
theorem A96:∀ {l:List Nat},Al l→val l%4294967296=l.getD 0 0
 | [],_=>rfl
 | x::r,h=>by
  have:=(Ds.1 h).1
  simp[val];omega
theorem Avx {N:Nat} {a:List Nat} {o:Bool} {s:Nat} (F:Al a) (hs:s≤31) (G:fit a.length N):∀ (m d fuel:Nat) (S:List Nat),d+m=a.length→m<fuel→Al S→S.length=a.length→A50 S d→val S+4294967296 ^ d*(val (a.drop d)/2 ^ s)=val a/2 ^ s →
  ∃ S',Al S'∧val S'=val a/2 ^ s∧∀ K:Nat→Bool→LA→O R,Dm N K o fuel (Ae a) a.length (s:Int) a.length (Ae a) a.length (a.length:Int) (d:Int) (Ae S)=K (Ar (val a/2 ^ s)).length true (Ae S')
 | 0,d,fuel+1,S,hd,_,hS,I,L,D=>by
  have M:d=a.length:=by omega
  subst M
  rw[List.drop_length] at D
  simp[val] at D
  refine⟨S,hS,D,fun K=>?_⟩
  rw[Dm];unfold Iw
  rw[Ku (Nat.le_refl _),cf,NS I.symm hS (by rw[I];exact G),D]
 | m+1,d,fuel+1,S,hd,hfu,hS,I,L,D=>by
  have h1:=G.1;have h2:=G.2
  have k:d<a.length:=by omega
  have ad:=Ba F k
  have step:=A73 (V:=val (a.drop (d+1))) ad hs
  rw[A96 (SE F _),←d9 k] at step
  have hg:(a.drop (d+1)).getD 0 0=a.getD (d+1) 0:=by simp[List.getD_eq_getElem?_getD,List.getElem?_drop]
  rw[hg] at step
  have go:∀ w,(a[d]+4294967296*a.getD (d+1) 0)/2 ^ s=w→∃ S',Al S'∧val S'=val a/2 ^ s∧∀ K:Nat→Bool→LA→O R,Dm N K o fuel (Ae a) a.length (s:Int) a.length (Ae a) a.length (a.length:Int) ((d+1:Nat):Int) (Ae (S.set d (w%4294967296)))=K (Ar (val a/2 ^ s)).length true (Ae S'):=by
   intro w hw
   refine Avx (o:=o) F hs G m (d+1) fuel (S.set d (w%4294967296)) (by omega) (by omega) (Cx hS (by omega) d) (by simpa using I) (KA L) ?_
   rw[Xl L (by omega),←D,step,hw,Nat.pow_succ,Nat.mul_add,Nat.mul_assoc];omega
  by_cases hn:d+1<a.length
  ·have an:=Ba F hn
   have C:a.getD (d+1) 0=a[d+1]:=by rw[List.getD_eq_getElem?_getD,List.getElem?_eq_getElem hn];rfl
   rw[C] at go
   obtain⟨S',T,U,Y⟩:=go _ rfl
   refine⟨S',T,U,fun K=>?_⟩
   rw[Dm];unfold Iw
   have e:Ta .u64 ((a[d]:Nat):Int) (IntKind.wrap .u64 (((a[d+1]:Nat):Int)*2 ^ 32))=((a[d]+4294967296*a[d+1]:Nat):Int):=by
    rw[show(2:Int) ^ 32=((2 ^ 32:Nat):Int) by rfl,Abd,Ja (by omega),Ayz (by omega) (by omega),Nat.or_comm,sA (by omega)]
    congr 1;omega
   rw[Jh k,ct,Aa k,ct,ZO k,wS (by omega),Jh hn,ct,Aa hn,ct,ZO hn,show decide (((s:Nat):Int)<0)=false by simp,cf,ct,Al1 (by omega),ct,Ja (show a[d]<18446744073709551616 by omega),Ja (show a[d+1]<18446744073709551616 by omega),e,Int.toNat_natCast s,Nat.min_eq_left (by omega),T5,lD,cC]
   exact Y K
  ·have C:a.getD (d+1) 0=0:=by rw[List.getD_eq_getElem?_getD,List.getElem?_eq_none (by omega)];rfl
   rw[C,Nat.mul_zero,Nat.add_zero] at go
   obtain⟨S',T,U,Y⟩:=go _ rfl
   refine⟨S',T,U,fun K=>?_⟩
   rw[Dm];unfold Iw
   rw[Jh k,ct,Aa k,ct,ZO k,wS (by omega),Ku (by omega),cf,show decide (((s:Nat):Int)<0)=false by simp,cf,ct,Al1 (by omega),ct,Ja (show a[d]<18446744073709551616 by omega),Int.toNat_natCast s,Nat.min_eq_left (by omega),T5,lD,cC]
   exact Y K
theorem A74 {N:Nat} {a:List Nat} {n:Nat} {t o:Bool} {s:Nat} (hn:n=a.length) (C:Al a) (hs:s≤31) (k:fit a.length N) :
  ∃ S',Al S'∧val S'=val a/2 ^ s∧∀ K:Nat→Bool→LA→O R,Na N (Ae a) n t o (s:Int) K=K (Ar (val a/2 ^ s)).length true (Ae S'):=by
 have T:=k.1;have U:=k.2
 have la:=(Bt C).2
 have F:IntKind.wrap .i64 (Int.tdiv ((s:Nat):Int) 32)=((0:Nat):Int):=by
  rw[show(32:Int)=((32:Nat):Int) by rfl,jy,Nat.div_eq_of_lt (by omega)];decide
 have e1:Int.tmod ((s:Nat):Int) 32=(s:Int):=by rw[show(32:Int)=((32:Nat):Int) by rfl,d8,Nat.mod_eq_of_lt (by omega)]
 by_cases D:val a=0
 ·refine⟨[],Wf,by rw[D];simp[val],fun K=>?_⟩
  rw[Ul];unfold Od
  rw[show decide (((s:Nat):Int)<0)=false by simp,cf,B9 hn C k,D,F,Nat.zero_div,Eb];rfl
 ·obtain⟨S',I,G,L⟩:=Avx (R:=R) (o:=o) (a:=Ar (val a)) (Ad _) hs (k.le la) (Ar (val a)).length 0 N (List.replicate (Ar (val a)).length 0) (by omega) (by omega) (Cw _) (by simp) (Nd _) (by rw[Ei];simp)
  rw[Ak] at G
  refine⟨S',I,G,fun K=>?_⟩
  rw[Ul];unfold Od
  have M:(Ar (val a)).length≠0:=fun h=>D (Bv.1 h)
  rw[show decide (((s:Nat):Int)<0)=false by simp,cf,B9 hn C k,F,e1,show decide (((0:Nat):Int)≥(((Ar (val a)).length:Nat):Int))=false by rw[decide_eq_false_iff_not];omega,cf]
  have c1:((decide ((0:Int)≤((0:Nat):Int)))&&((decide (((0:Nat):Int)≤(((Ar (val a)).length:Nat):Int)))&&((decide ((((Ar (val a)).length:Nat):Int)≤(((Ar (val a)).length:Nat):Int)))&&(decide ((((Ar (val a)).length:Nat):Int)≤(((Ar (val a)).length:Nat):Int))))))=true:=by simp
  rw[c1,ct,Int.toNat_natCast,Nat.sub_zero,A64 (by omega),ct,Nat.zero_mul,List.drop_zero,Nat.mul_one,Wg,List.take_length,Db]
  have:=L K
  rw[Ak] at this
  exact this
end
end Gx

namespace Gx
open Go Go.Proofs
section
variable {R:Type}
theorem TY {S:List Nat} {k:Nat} (h:val S<4294967296 ^ k):val (S.take k)=val S:=by
 by_cases F:k≤S.length
 ·have C:=Sd (S.take k) (S.drop k)
  rw[List.take_append_drop,List.length_take,Nat.min_eq_left F] at C
  rcases Nat.eq_zero_or_pos (val (S.drop k)) with D | D
  ·rw[D] at C;simpa using C.symm
  ·have:=Nat.le_mul_of_pos_right (4294967296 ^ k) D
   omega
 ·rw[List.take_of_length_le (by omega)]
theorem TZ {S:List Nat} {n:Nat} (hS:Al S) (h:S.length=n+1):val S<(S[n]+1)*4294967296 ^ n:=by
 have C:=OU h
 have k:=Bk (Cq hS n)
 rw[List.length_take,Nat.min_eq_left (by omega)] at k
 rw[Nat.add_mul,Nat.mul_comm S[n]];omega
theorem Bfc {a b c:Nat} (k:a≤b) (C:b≤c):((decide ((0:Int)≤(a:Int)))&&((decide ((a:Int)≤(b:Int)))&&((decide ((b:Int)≤(c:Int)))&&(decide ((c:Int)≤(c:Int))))))=true:=by simp;omega
theorem Anw {N:Nat} {v u0 Sv:List Nat} {n D s:Nat} (hn:v.length=n+2) (hv:Al v) (T:2147483648≤v[n+1]'(by omega)) (hSv:List.take ((n+2)*1) (Ae Sv)=Ae v) (hu:Al u0) (hul:u0.length=D+(n+2)) (hs:s≤31) (I:fit (D+n+4) N) :
  ∀ (j fuel c:Nat) (W q:List Nat),j<fuel→c+j=D→Al W→W.length=u0.length→Al q→q.length=D→W.take j=u0.take j→val (W.drop j)<val v→val (q.drop j)*val v+val (W.drop j)=val (u0.drop j) →
  ∃ Sq Sr,Al Sq∧val Sq=val u0/val v∧Al Sr∧val Sr=val u0%val v/2 ^ s∧∀ K:Nat→Nat→LA→LA→O R,Ec N K (s:Int) (n+2) u0.length (Ae Sv) fuel D ((n+2:Nat):Int) (D:Int) (D:Int) (c:Int) (Ae q) (Ae W)=K (Ar (val u0/val v)).length (Ar (val u0%val v/2 ^ s)).length (Ae Sq) (Ae Sr)
 | 0,fuel+1,c,W,q,_,hc,hW,hWl,hq,F,L,hr,C=>by
  have h1:=I.1;have h2:=I.2
  simp only[List.drop_zero] at C hr
  have M:0<val v:=by omega
  have vlt:=Bk hv
  rw[hn] at vlt
  have V:val u0/val v=val q:=by rw[←C,Nat.mul_comm,Nat.mul_add_div M,Nat.div_eq_of_lt hr,Nat.add_zero]
  have hm:val u0%val v=val W:=by rw[←C,Nat.mul_comm,Nat.mul_add_mod,Nat.mod_eq_of_lt hr]
  have ht:val (W.take (n+2))=val W:=TY (by omega)
  have Y:(W.take (n+2)).length=n+2:=by rw[List.length_take];omega
  obtain⟨S',q1,q3,q4⟩:=A74 (R:=R) (N:=N) (a:=W.take (n+2)) (n:=n+2) (t:=false) (o:=true) (s:=s) Y.symm (Cq hW _) hs (I.le (by rw[Y];omega))
  rw[ht,←hm] at q3 q4
  refine⟨q,S',hq,V.symm,q1,q3,fun K=>?_⟩
  have hcD:c=D:=by omega
  subst hcD
  rw[Ec];unfold Nv
  rw[Ku (Nat.le_refl _),cf,Bbd (by omega),ct,Int.toNat_natCast,Nat.mul_one,Wg,q4,NS F.symm hq (by rw[F];exact I.le (by omega)),←V]
 | j+1,fuel+1,c,W,q,hfu,hc,hW,hWl,hq,F,L,hr,C=>by
  have h1:=I.1;have h2:=I.2
  have vlt:=Bk hv
  rw[hn] at vlt
  have hjW:j<W.length:=by omega
  have hju:j<u0.length:=by omega
  have hjq:j<q.length:=by omega
  have hWj:W[j]=u0[j]:=by
   have:=congrArg (fun l=>l[j]?) L
   simp only[List.getElem?_take_of_lt (show j<j+1 by omega),List.getElem?_eq_getElem hjW,List.getElem?_eq_getElem hju] at this
   exact Option.some.inj this
  have wj:=Ba hW hjW
  have eW:=d9 hjW
  have eu:=d9 hju
  have hUl:((W.drop j).take (n+3)).length=n+3:=by rw[List.length_take,List.length_drop];omega
  have k:val (W.drop j)<val v*4294967296:=by rw[eW];omega
  have hB:val (W.drop j)<4294967296 ^ (n+3):=by
   have:=(Nat.mul_lt_mul_right (show 0<4294967296 by omega)).2 vlt
   rw[←Nat.pow_succ] at this;exact Nat.lt_trans k this
  have hU:val ((W.drop j).take (n+3))=val (W.drop j):=TY hB
  have G:W=W.take j++((W.drop j).take (n+3)++(W.drop j).drop (n+3)):=by rw[List.take_append_drop,List.take_append_drop]
  have hPl:(W.take j).length=j:=by rw[List.length_take];omega
  obtain⟨U',u1,u2,u3,u4⟩:=Agd (R:=R) (N:=N) (P:=W.take j) (Q:=(W.drop j).drop (n+3)) (U:=(W.drop j).take (n+3)) (v:=v) (n:=n) (f:=false) (g:=true) hn hv (Cq (SE hW _) _) hUl (by omega) (by omega) T (by rw[hU];exact k)
  rw[hU] at u3 u4
  have hQ0:val ((W.drop j).drop (n+3))=0:=by
   have:=Sd ((W.drop j).take (n+3)) ((W.drop j).drop (n+3))
   rw[List.take_append_drop,hU,hUl] at this
   have hp:0<4294967296 ^ (n+3):=Nat.pow_pos (by omega)
   rcases Nat.eq_zero_or_pos (val ((W.drop j).drop (n+3))) with h | h
   ·exact h
   ·have:=Nat.le_mul_of_pos_right (4294967296 ^ (n+3)) h;omega
  have M:0<val v:=by omega
  have hqd:val (W.drop j)/val v<4294967296:=Nat.div_lt_of_lt_mul k
  have hdm:=Nat.div_add_mod (val (W.drop j)) (val v)
  have hmd:=Nat.mod_lt (val (W.drop j)) M
  have hW':Al (W.take j++(U'++(W.drop j).drop (n+3))):=nK.2 ⟨Cq hW _,nK.2 ⟨u1,SE (SE hW _) _⟩⟩
  have hWl':(W.take j++(U'++(W.drop j).drop (n+3))).length=u0.length:=by
   rw[List.length_append,List.length_append,hPl,u2,List.length_drop,List.length_drop];omega
  have hWd:(W.take j++(U'++(W.drop j).drop (n+3))).drop j=U'++(W.drop j).drop (n+3):=by
   rw[List.drop_append,hPl,Nat.sub_self,List.drop_zero,List.drop_eq_nil_of_le (by omega),List.nil_append]
  have hWt:(W.take j++(U'++(W.drop j).drop (n+3))).take j=u0.take j:=by
   rw[List.take_append,hPl,Nat.sub_self,List.take_zero,List.append_nil,List.take_take,Nat.min_self]
   have:=congrArg (List.take j) L
   rwa [List.take_take,List.take_take,Nat.min_eq_left (by omega)] at this
  have hWv:val (U'++(W.drop j).drop (n+3))=val (W.drop j)%val v:=by rw[Sd,hQ0,u3];simp
  obtain⟨Sq,Sr,a1,a2,a3,a4,a5⟩:=Anw (N:=N) hn hv T hSv hu hul hs I j fuel (c+1) (W.take j++(U'++(W.drop j).drop (n+3))) (q.set j (val (W.drop j)/val v)) (by omega) (by omega) hW' hWl' (Cx hq hqd j) (by simpa using F) hWt (by rw[hWd,hWv];exact hmd) (by
   rw[hWd,hWv,Avv hjq,val,eu,←C,←hWj,Nat.add_mul,Nat.mul_assoc,Nat.mul_add,Nat.mul_comm (val (W.drop j)/val v)]
   omega)
  refine⟨Sq,Sr,a1,a2,a3,a4,fun K=>?_⟩
  have w0:IntKind.wrap .i64 (IntKind.wrap .i64 (((D:Nat):Int) - 1) - (c:Int))=(j:Int):=by
   rw[i64 (a:=((D:Nat):Int) - 1) (by omega),i64 (by omega)];omega
  have w1:IntKind.wrap .i64 (IntKind.wrap .i64 ((j:Int)+((n+2:Nat):Int))+1)=((j+(n+3):Nat):Int):=by
   rw[i64 (a:=(j:Int)+((n+2:Nat):Int)) (by omega),i64 (by omega)];omega
  have:=u4 fun z aa=>cond (Ac (j:Int) D) (cond ((Nat.beq 1 1)&&((Nat.ble ((0+((Int.toNat (j:Int))*1))+1) (List.length (Ae q)))&&(!false))) (Ec N K (s:Int) (n+2) u0.length (Ae Sv) fuel D ((n+2:Nat):Int) (D:Int) (D:Int) (IntKind.wrap .i64 ((c:Int)+1)) (List.set (Ae q) (0+((Int.toNat (j:Int))*1)) (.int .u32 z)) aa) none) none
  rw[←G,hPl] at this
  rw[Ec];unfold Nv
  rw[Jh (by omega),ct,w0,w1,Bfc (by omega) (by omega),ct,hSv,Int.toNat_natCast,Int.toNat_natCast,Nat.mul_one,Nat.zero_add,show j+(n+3) - j=n+3 by omega]
  rw[Int.toNat_natCast,Nat.mul_one,Nat.zero_add] at this
  rw[this,Aa (by omega),ct,show((Nat.beq 1 1)&&((Nat.ble (j+1) (List.length (Ae q)))&&(!false)))=true by (rw[B4];simp;omega),ct,nL,wS (by omega)]
  exact a5 K
theorem A51 {N:Nat} {a b:List Nat} {n m:Nat} {t o t' o':Bool} (hn:n=a.length) (hm:m=b.length) (ha:Al a) (Y:Al b) (M:2≤b.length) (hlen:b.length≤a.length) (F:b.getLast (by intro h;rw[h] at M;simp at M)≠0) (S:fit (a.length+b.length+4) N) :
  ∃ Sq Sr,Al Sq∧val Sq=val a/val b∧Al Sr∧val Sr=val a%val b∧∀ K:Nat→Nat→LA→LA→O R,Jl N (Ae a) n t o (Ae b) m t' o' K=K (Ar (val a/val b)).length (Ar (val a%val b)).length (Ae Sq) (Ae Sr):=by
 subst hn hm
 have h1:=S.1;have h2:=S.2
 obtain⟨k,U⟩:∃ k,b.length=k+2:=⟨b.length - 2,by omega⟩
 have hbl2:b[k+1]'(by omega)≠0:=by
  rw[List.getLast_eq_getElem] at F
  simp only[U] at F
  exact F
 have bk:=Ba Y (show k+1<b.length by omega)
 obtain⟨s,s1,s2,s3,s4⟩:=A2w (R:=R) (N:=N) (c:=b[k+1]'(by omega)) (by omega) bk
 obtain⟨Sv,v1,v2,v3,v4⟩:=pc (R:=R) (N:=N) (a:=b) (t:=false) (o:=o') (s:=s) rfl Y s1 (S.le (by omega))
 obtain⟨Su,p1,p2,p3,p4⟩:=pc (R:=R) (N:=N) (a:=a) (t:=false) (o:=o) (s:=s) rfl ha s1 (S.le (by omega))
 have V:0<2 ^ s:=Nat.pow_pos (by omega)
 have hP:0<4294967296 ^ (k+1):=Nat.pow_pos (by omega)
 have bt:=TZ Y U
 have bf:=OU U
 have hVlt:val b*2 ^ s<4294967296 ^ (k+2):=by
  have x1:val b*2 ^ s<(b[k+1]+1)*4294967296 ^ (k+1)*2 ^ s:=(Nat.mul_lt_mul_right V).2 bt
  have hd:2 ^ s∣4294967296:=⟨2 ^ (32 - s),by rw[←Nat.pow_add,show s+(32 - s)=32 by omega]⟩
  have x2:(b[k+1]+1)*2 ^ s≤4294967296:=by
   obtain⟨r,hr⟩:=hd
   have x3:b[k+1]<r:=by
    rw[hr,Nat.mul_comm] at s3
    exact Nat.lt_of_mul_lt_mul_left s3
   have x4:(b[k+1]+1)*2 ^ s≤r*2 ^ s:=Nat.mul_le_mul_right _ x3
   have x5:r*2 ^ s=4294967296:=by rw[Nat.mul_comm];exact hr.symm
   omega
  have x6:=Nat.mul_le_mul_right (4294967296 ^ (k+1)) x2
  rw[Nat.mul_right_comm] at x1
  rw[Nat.pow_succ,Nat.mul_comm _ 4294967296]
  exact Nat.lt_of_lt_of_le x1 x6
 have T:(Sv.take (k+2)).length=k+2:=by rw[List.length_take];omega
 have C:val (Sv.take (k+2))=val b*2 ^ s:=by rw[TY (by rw[v3];exact hVlt),v3]
 have G:2147483648*4294967296 ^ (k+1)≤val b*2 ^ s:=by
  have x1:4294967296 ^ (k+1)*b[k+1]≤val b:=by omega
  have x2:=Nat.mul_le_mul_right (2 ^ s) x1
  rw[Nat.mul_assoc,Nat.mul_comm (4294967296 ^ (k+1))] at x2
  have x3:=Nat.mul_le_mul_right (4294967296 ^ (k+1)) s2
  omega
 have I:2147483648≤(Sv.take (k+2))[k+1]'(by omega):=by
  have x1:=TZ (Cq v1 (k+2)) T
  rw[C] at x1
  have x2:=Nat.lt_of_mul_lt_mul_right (Nat.lt_of_le_of_lt G x1)
  omega
 have hDl:Su.length=(a.length+1 - (k+2))+(k+2):=by omega
 have L:val (Su.drop (a.length+1 - (k+2)))<val (Sv.take (k+2)):=by
  have x1:=Sd (Su.take (a.length+1 - (k+2))) (Su.drop (a.length+1 - (k+2)))
  rw[List.take_append_drop,p3,List.length_take,Nat.min_eq_left (by omega)] at x1
  have x2:=Bk ha
  have x3:val a*2 ^ s<4294967296 ^ a.length*2 ^ s:=(Nat.mul_lt_mul_right V).2 x2
  have x4:a.length=(a.length+1 - (k+2))+(k+1):=by omega
  generalize hE:a.length+1 - (k+2)=E at *
  have x5:4294967296 ^ a.length=4294967296 ^ E*4294967296 ^ (k+1):=by rw[←Nat.pow_add];congr 1
  rw[x5,Nat.mul_assoc] at x3
  have x6:4294967296 ^ E*val (Su.drop E)<4294967296 ^ E*(4294967296 ^ (k+1)*2 ^ s):=by omega
  have x7:=Nat.lt_of_mul_lt_mul_left x6
  have x8:4294967296 ^ (k+1)*2 ^ s≤2147483648*4294967296 ^ (k+1):=by rw[Nat.mul_comm];exact Nat.mul_le_mul_right _ (Ara s1)
  rw[C];omega
 obtain⟨Sq,Sr,a1,a2,a3,a4,a5⟩:=Anw (R:=R) (N:=N) (v:=Sv.take (k+2)) (u0:=Su) (Sv:=Sv) (n:=k) (D:=a.length+1 - (k+2)) (s:=s) T (Cq v1 _) I (by rw[Nat.mul_one,Wg]) p1 hDl s1 (S.le (by omega)) (a.length+1 - (k+2)) N 0 Su (List.replicate (a.length+1 - (k+2)) 0) (by omega) (by omega) p1 rfl (Cw _) (by simp) rfl L (by
  rw[List.drop_eq_nil_of_le (show(List.replicate (a.length+1 - (k+2)) 0).length≤a.length+1 - (k+2) by simp)];simp[val])
 have hq:val Su/val (Sv.take (k+2))=val a/val b:=by rw[p3,C,Nat.mul_div_mul_right _ _ V]
 have hr:val Su%val (Sv.take (k+2))/2 ^ s=val a%val b:=by rw[p3,C,Nat.mul_mod_mul_right,Nat.mul_div_cancel _ V]
 rw[hq] at a2;rw[hr] at a4
 refine⟨Sq,Sr,a1,a2,a3,a4,fun K=>?_⟩
 rw[JD];unfold Um
 have w1:IntKind.wrap .i64 (((b.length:Nat):Int) - 1)=((k+1:Nat):Int):=by rw[i64 (by omega)];omega
 have w2:IntKind.wrap .i64 (((a.length+1:Nat):Int) - ((b.length:Nat):Int))=((a.length+1 - (k+2):Nat):Int):=by rw[i64 (by omega)];omega
 rw[w1,Aa (by omega),ct,ZO (by omega),s4,v4,Bbd (by omega),ct,p4,w2,A64 (by omega),ct,Int.toNat_natCast,Db]
 have:=a5 K
 rw[hq,hr,p2] at this
 rw[U]
 exact this
theorem d_ {N:Nat} {a b:List Nat} {n m:Nat} {t o t' o':Bool} (hn:n=a.length) (hm:m=b.length) (ha:Al a) (hb:Al b) (G:val b≠0) (D:fit (a.length+b.length+4) N) :
  ∃ Sq Sr,Al Sq∧val Sq=val a/val b∧Al Sr∧val Sr=val a%val b∧∀ K:Nat→Nat→Bool→LA→LA→O R,Fj N (Ae a) n t o (Ae b) m t' o' K=K (Ar (val a/val b)).length (Ar (val a%val b)).length true (Ae Sq) (Ae Sr):=by
 have h1:=D.1;have h2:=D.2
 have la:=(Bt ha).2
 have lb:=(Bt hb).2
 have T:(Ar (val b)).length≠0:=fun h=>G (Bv.1 h)
 have start:∀ K:Nat→Nat→Bool→LA→LA→O R,Fj N (Ae a) n t o (Ae b) m t' o' K=cond (decide (H9 (val a) (val b)<0)) (CD N (Ae (Ar (val a))) (Ar (val a)).length false o (fun s t=>(K 0 s true [] t))) (cond (decide ((((Ar (val a)).length:Nat):Int)≤(2:Int))) (Rt N (Ae (Ar (val a))) (Ar (val a)).length false o (fun p=>(Rt N (Ae (Ar (val b))) (Ar (val b)).length false o' (fun o=>(cond (o==(0:Int)) none (B7 N (IntKind.wrap .u64 (Int.tdiv p o)) (fun u w=>(cond (o==(0:Int)) none (B7 N (Int.tmod p o) (fun x y=>(K u x true w y))))))))))) (cond ((((Ar (val b)).length:Nat):Int)==(1:Int)) (cond (Ac (0:Int) (Ar (val b)).length) (An .u32 (Ae (Ar (val b))) fun z=>(Gq N (Ae (Ar (val a))) (Ar (val a)).length false o z (fun aa ab ac ad=>(K aa ab true ac ad)))) none) (Jl N (Ae (Ar (val a))) (Ar (val a)).length false o (Ae (Ar (val b))) (Ar (val b)).length false o' (fun ae af ag ah=>(K ae af true ag ah))))):=by
  intro K
  rw[jY];unfold lj
  rw[B9 hn ha (D.le (by omega)),B9 hm hb (D.le (by omega)),Akk T,cf,Tm rfl rfl (Ad _) (Ad _) (D.le (by omega)),Ak,Ak]
 by_cases k:val a<val b
 ·refine⟨[],Ar (val a),Wf,by rw[Nat.div_eq_of_lt k];rfl,Ad _,by rw[Nat.mod_eq_of_lt k,Ak],fun K=>?_⟩
  rw[start,show decide (H9 (val a) (val b)<0)=true by (unfold H9;rw[if_pos k];rfl),ct,gK rfl (Ad _) (D.le (by omega)),Ak,Nat.div_eq_of_lt k,Nat.mod_eq_of_lt k,Eb];rfl
 ·have C:decide (H9 (val a) (val b)<0)=false:=by unfold H9;rw[if_neg k];split<;>rfl
  have I:=B6 (Nat.le_of_not_lt k)
  by_cases F:(Ar (val a)).length≤2
  ·have av:=pa F
   have bv:=pa (Nat.le_trans I F)
   have L:val a/val b<18446744073709551616:=Nat.lt_of_le_of_lt (Nat.div_le_self _ _) av
   have U:val a%val b<18446744073709551616:=Nat.lt_of_le_of_lt (Nat.mod_le _ _) av
   obtain⟨Sq,a1,a2,a3⟩:=Lq (R:=R) (N:=N) L (by omega)
   obtain⟨Sr,b1,b2,b3⟩:=Lq (R:=R) (N:=N) U (by omega)
   refine⟨Sq,Sr,a1,a2,b1,b2,fun K=>?_⟩
   rw[start,C,cf,show decide ((((Ar (val a)).length:Nat):Int)≤2)=true by simp;omega,ct,OT rfl (Ad _) F (by omega),OT rfl (Ad _) (by omega) (by omega),Ak,Ak,Akk G,cf,jy,Ja L,a3,cf,d8,b3]
  ·have M:decide ((((Ar (val a)).length:Nat):Int)≤2)=false:=by simp;omega
   by_cases V:(Ar (val b)).length=1
   ·obtain⟨x,Y⟩:∃ x,Ar (val b)=[x]:=by
     match h:Ar (val b),V with
     | [x],_=>exact⟨x,rfl⟩
    have S:x=val b:=by have:=Ak (val b);rw[Y] at this;simpa[val] using this
    have xl:x<4294967296:=by have:=Ad (val b);rw[Y] at this;exact(Ds.1 this).1
    obtain⟨Sq,Sr,a1,a2,a3,a4,a5⟩:=Avw (R:=R) (N:=N) (a:=Ar (val a)) (t:=false) (o:=o) (b:=x) rfl (Ad _) (by omega) xl (D.le (by omega))
    rw[Ak,S] at a2 a4 a5
    refine⟨Sq,Sr,a1,a2,a3,a4,fun K=>?_⟩
    rw[start,C,cf,M,cf,Y]
    simp only[List.length_cons,List.length_nil,DA,Ay]
    rw[show((((0+1:Nat)):Int)==1)=true by rfl,ct,show Ac 0 (0+1)=true by decide,ct,S,a5]
   ·obtain⟨Sq,Sr,a1,a2,a3,a4,a5⟩:=A51 (R:=R) (N:=N) (a:=Ar (val a)) (b:=Ar (val b)) (t:=false) (o:=o) (t':=false) (o':=o') rfl rfl (Ad _) (Ad _) (by omega) I (Abc _ _) (D.le (by omega))
    rw[Ak,Ak] at a2 a4 a5
    refine⟨Sq,Sr,a1,a2,a3,a4,fun K=>?_⟩
    rw[start,C,cf,M,cf,show((((Ar (val b)).length:Nat):Int)==1)=false by rw[beq_eq_false_iff_ne];omega,cf,a5]
end
end Gx

namespace Gx
open Go Go.Proofs
section
variable {R:Type}
def Beb (A B u0 u1 v0 v1:Nat) (e:Bool):Prop:=v0=0∨(1≤u1∧1≤v1∧match e with
 | true=>v0*B≤u0*A∧u1*A≤v1*B∧(v0+v1)*B≤(u0+u1)*A∧u0*v1=v0*u1+1
 | false=>u0*A≤v0*B∧v1*B≤u1*A∧(u0+u1)*A≤(v0+v1)*B∧u1*v0=v1*u0+1)
structure Lead (X Y x y u1 u2 v1 v2:Nat) (e:Bool):Prop where
 le:y≤x
 idV:x*v2+y*v1=X
 idU:x*u2+y*u1=Y
 pos:1≤v2
 par:match e with
  | false=>x+v1*Y=u1*X∧y+u2*X=v2*Y∧u1*v2=v1*u2+1
  | true=>x+u1*X=v1*Y∧y+v2*Y=u2*X∧u2*v1=v2*u1+1
 small:(v1=0∧u1=1∧u2=0∧v2=1∧e=false)∨(1≤v1∧u1≤v1∧u2≤v2∧1≤u2)
theorem Lead.init {X Y:Nat} (h:Y≤X):Lead X Y X Y 1 0 0 1 false:=⟨h,by simp,by simp,by omega,by simp,.inl ⟨rfl,rfl,rfl,rfl,rfl⟩⟩
theorem Lead.step {X Y x y u1 u2 v1 v2:Nat} {e:Bool} (L:Lead X Y x y u1 u2 v1 v2 e) (M:1≤y):Lead X Y y (x%y) u2 (u1+x/y*u2) v2 (v1+x/y*v2) (!e):=by
 have k:=Nat.div_add_mod x y
 have I:=Nat.mod_lt x (show 0<y by omega)
 have hq:1≤x/y:=by rw[Nat.le_div_iff_mul_le (by omega)];have:=L.le;omega
 generalize x/y=q at *
 generalize x%y=r at *
 have C:=L.pos
 refine⟨by omega,?_,?_,?_,?_,?_⟩
 ·rw[←L.idV,←k,Nat.mul_add,Nat.add_mul,Nat.mul_assoc];omega
 ·rw[←L.idU,←k,Nat.mul_add,Nat.add_mul,Nat.mul_assoc];omega
 ·have:=Nat.mul_le_mul hq C;omega
 ·have p:=L.par
  cases e with
  | false =>
   obtain⟨p1,p2,F⟩:=p
   refine⟨p2,?_,?_⟩
   ·have e1:q*(y+u2*X)=q*(v2*Y):=by rw[p2]
    rw[Nat.mul_add,←Nat.mul_assoc,←Nat.mul_assoc] at e1
    rw[Nat.mul_comm y q] at k
    rw[Nat.add_mul,Nat.add_mul];omega
   ·rw[Nat.add_mul,Nat.add_mul,Nat.mul_right_comm q u2,F];omega
  | true =>
   obtain⟨p1,p2,F⟩:=p
   refine⟨p2,?_,?_⟩
   ·have e1:q*(y+v2*Y)=q*(u2*X):=by rw[p2]
    rw[Nat.mul_add,←Nat.mul_assoc,←Nat.mul_assoc] at e1
    rw[Nat.mul_comm y q] at k
    rw[Nat.add_mul,Nat.add_mul];omega
   ·rw[Nat.mul_add,Nat.mul_add,F,Nat.mul_left_comm u2 q,Nat.mul_left_comm v2 q,Nat.mul_comm u2 v2];omega
 ·right
  rcases L.small with⟨s1,s2,D,G,_⟩ | ⟨s1,s2,D,G⟩
  ·subst s1 s2 D G;exact⟨by omega,by omega,by omega,by omega⟩
  ·have S:q*u2≤q*v2:=Nat.mul_le_mul_left _ D
   exact⟨C,D,by omega,by have:=Nat.mul_le_mul hq G;omega⟩
theorem Lead.cof {X Y x y u1 u2 v1 v2 A B P:Nat} {e:Bool} (L:Lead X Y x y u1 u2 v1 v2 e) (hA:X*P≤A) (hA':A<(X+1)*P) (hB:Y*P≤B) (hB':B<(Y+1)*P) (c1:v2≤y) (C:v1+v2≤x - y):Beb A B u1 u2 v1 v2 (!e):=by
 have p:=L.par
 have D:=L.le
 rcases L.small with⟨s1,_⟩ | ⟨s1,s2,G,F⟩
 ·exact .inl s1
 ·refine .inr ⟨F,L.pos,?_⟩
  cases e with
  | false =>
   obtain⟨p1,p2,k⟩:=p
   have n1:u2*A≤v2*B:=HQ hB hA' (w:=y) (by omega) (by omega)
   have n2:(v1+v2)*B≤(u1+u2)*A:=HQ hA hB' (w:=x - y) (by rw[Nat.add_mul,Nat.add_mul];omega) C
   refine⟨?_,n1,n2,k⟩
   rw[Nat.add_mul,Nat.add_mul] at n2;omega
  | true =>
   obtain⟨p1,p2,k⟩:=p
   have n1:v2*B≤u2*A:=HQ hA hB' (w:=y) (by omega) (by omega)
   have n2:(u1+u2)*A≤(v1+v2)*B:=HQ hB hA' (w:=x - y) (by rw[Nat.add_mul,Nat.add_mul];omega) (by omega)
   refine⟨?_,n1,n2,k⟩
   rw[Nat.add_mul,Nat.add_mul] at n2;omega
theorem dq {x y:Nat} (C:1≤y) (h:y≤x):2*(y*(x%y))≤x*y:=by
 have D:=Nat.div_add_mod x y
 have F:=Nat.mod_lt x (show 0<y by omega)
 have hq:1≤x/y:=by rw[Nat.le_div_iff_mul_le (by omega)];omega
 have G:y*1≤y*(x/y):=Nat.mul_le_mul_left _ hq
 have k:2*(x%y)≤x:=by omega
 have:=Nat.mul_le_mul_left y k
 rw[Nat.mul_comm x y,Nat.mul_left_comm];exact this
def A2z (u0 u1 v0 v1:Nat) (e:Bool):LA:=[.int .u64 (u0:Int),.int .u64 (u1:Int),.int .u64 (v0:Int),.int .u64 (v1:Int),.bool e]
theorem A52 {N:Nat} {X Y A B P:Nat} (hX:X<18446744073709551616) (hYX:Y≤X) (hA:X*P≤A) (hA':A<(X+1)*P) (hB:Y*P≤B) (hB':B<(Y+1)*P):∀ (k fuel x y u0 u1 u2 v0 v1 v2:Nat) (e:Bool),k<fuel→x*y<2 ^ k→Lead X Y x y u1 u2 v1 v2 e→Beb A B u0 u1 v0 v1 e→u0<18446744073709551616→u1<18446744073709551616→v0<18446744073709551616→v1<18446744073709551616 →
  ∃ (a1 a2 I G:Nat) (e':Bool),Beb A B a1 a2 I G e'∧a1<18446744073709551616∧a2<18446744073709551616∧I<18446744073709551616∧G<18446744073709551616∧∀ K:LA→O R,Ek N K fuel (x:Int) (y:Int) (u0:Int) (u1:Int) (u2:Int) (v0:Int) (v1:Int) (v2:Int) e=K (A2z a1 a2 I G e'):=by
 intro k
 induction k with
 | zero =>
  intro fuel x y u0 u1 u2 v0 v1 v2 e hf M L C I G b3 U
  obtain⟨fuel,rfl⟩:∃ F,fuel=F+1:=⟨fuel - 1,by omega⟩
  have T:y=0:=by
   rcases Nat.eq_zero_or_pos y with h | h
   ·exact h
   ·have h3:=Nat.mul_le_mul_left x (show 1≤y by omega)
    have h4:=L.le
    rw[Nat.pow_zero] at M
    omega
  refine⟨u0,u1,v0,v1,e,C,I,G,b3,U,fun K=>?_⟩
  rw[Ek];unfold Kd
  have:=L.pos
  rw[show decide ((y:Int)≥(v2:Int))=false by simp;omega];rfl
 | succ k ih =>
  intro fuel x y u0 u1 u2 v0 v1 v2 e hf M L C I G b3 U
  obtain⟨fuel,rfl⟩:∃ F,fuel=F+1:=⟨fuel - 1,by omega⟩
  have hv2:=L.pos
  have S:=L.le
  by_cases c1:v2≤y
  ·have T:1≤y:=by omega
   have hxX:x≤X:=by
    have:=Nat.mul_le_mul_left x hv2
    have:=L.idV;omega
   have hsum:v1+v2≤X:=by
    have h1:=Nat.mul_le_mul_right v2 (show 1≤x by omega)
    have h2:=Nat.mul_le_mul_right v1 T
    have:=L.idV;omega
   by_cases c2:v1+v2≤x - y
   ·have L':=L.step T
    have C':=L.cof hA hA' hB hB' c1 c2
    have i1:=L'.idV
    have i2:=L'.idU
    have w1:v1+x/y*v2≤X:=by
     have:=Nat.mul_le_mul_right (v1+x/y*v2) T;omega
    have w2:u1+x/y*u2≤Y:=by
     have:=Nat.mul_le_mul_right (u1+x/y*u2) T;omega
    have hu2:u2<18446744073709551616:=by
     have h1:=Nat.mul_le_mul_right u2 (show 1≤x by omega)
     have:=L.idU;omega
    have V:v2<18446744073709551616:=by omega
    have hlt:y*(x%y)<2 ^ k:=by
     have:=dq T S
     rw[Nat.pow_succ] at M;omega
    obtain⟨a1,a2,d1,d2,e',r1,r2,r3,r4,r5,r6⟩:=ih fuel y (x%y) u1 u2 (u1+x/y*u2) v1 v2 (v1+x/y*v2) (!e) (by omega) hlt L' C' G hu2 U V
    refine⟨a1,a2,d1,d2,e',r1,r2,r3,r4,r5,fun K=>?_⟩
    rw[Ek];unfold Kd
    have D:x<18446744073709551616:=by omega
    have hdiv:x/y<18446744073709551616:=Nat.lt_of_le_of_lt (Nat.div_le_self _ _) D
    rw[show decide ((y:Int)≥(v2:Int))=true by simp;omega,show((true:Bool)==true)=true by rfl,ct,ry D S,ND,Ja (show v1+v2<18446744073709551616 by omega),show decide (((x - y:Nat):Int)≥((v1+v2:Nat):Int))=true by rw[decide_eq_true_eq];omega,Au4,ct]
    unfold Xg
    dsimp only
    rw[Akk (by omega),cf,cf,jy,d8,Ja hdiv,Abd,Abd,Ja (show x/y*u2<18446744073709551616 by omega),Ja (show x/y*v2<18446744073709551616 by omega),ND,ND,Ja (show u1+x/y*u2<18446744073709551616 by omega),Ja (show v1+x/y*v2<18446744073709551616 by omega)]
    exact r6 K
   ·refine⟨u0,u1,v0,v1,e,C,I,G,b3,U,fun K=>?_⟩
    rw[Ek];unfold Kd
    rw[show decide ((y:Int)≥(v2:Int))=true by simp;omega,show((true:Bool)==true)=true by rfl,ct,ry (by omega) S,ND,Ja (show v1+v2<18446744073709551616 by omega),show decide (((x - y:Nat):Int)≥((v1+v2:Nat):Int))=false by rw[decide_eq_false_iff_not];omega,Au4,cf]
    rfl
  ·refine⟨u0,u1,v0,v1,e,C,I,G,b3,U,fun K=>?_⟩
   rw[Ek];unfold Kd
   rw[show decide ((y:Int)≥(v2:Int))=false by simp;omega];rfl
end
end Gx

namespace Gx
open Go Go.Proofs
section
variable {R:Type}
theorem sw {N:Nat} {a:List Nat} {n:Nat} {t o:Bool} {i:Nat} {K:Int→O R} (hn:n=a.length) (k:Al a):Ll N (i:Int) (Ae a) n t o K=K ((a.getD i 0:Nat):Int):=by
 subst hn
 rw[N_];unfold MA
 by_cases h:i<a.length
 ·have:=Ba k h
  rw[Jh h,ct,Aa h,ct,ZO h,Ja (by omega),List.getD_eq_getElem?_getD,List.getElem?_eq_getElem h];rfl
 ·rw[Ku (by omega),cf,List.getD_eq_getElem?_getD,List.getElem?_eq_none (by omega)];rfl
theorem DL {a:List Nat} (k:Al a) (i:Nat):a.getD i 0<4294967296:=by
 by_cases h:i<a.length
 ·rw[List.getD_eq_getElem?_getD,List.getElem?_eq_getElem h];exact Ba k h
 ·rw[List.getD_eq_getElem?_getD,List.getElem?_eq_none (by omega)];simp
theorem A75 {a:List Nat} {n:Nat} (F:a.length≤n+3):val a=val (a.take n)+4294967296 ^ n*((a.getD (n+2) 0*4294967296+a.getD (n+1) 0)*4294967296+a.getD n 0):=by
 have k:=Tn a (n+2)
 have C:=Tn a (n+1)
 have D:=Tn a n
 rw[List.take_of_length_le (by omega)] at k
 have x1:4294967296 ^ (n+2)*a.getD (n+2) 0=4294967296 ^ n*(a.getD (n+2) 0*4294967296*4294967296):=by rw[Nat.pow_succ (n:=4294967296) (m:=n+1),Nat.pow_succ,Bde,Bde]
 have x2:4294967296 ^ (n+1)*a.getD (n+1) 0=4294967296 ^ n*(a.getD (n+1) 0*4294967296):=by rw[Nat.pow_succ,Bde]
 rw[k,C,D,x1,x2,Nat.add_mul,Nat.mul_add,Nat.mul_add];omega
theorem wz {N:Nat} {a:List Nat} {m n s:Nat} {t o:Bool} {K:Int→O R} (I:m=a.length) (D:Al a) (Y:a.length≤n+3) (hs:s≤31) (C:a.getD (n+2) 0*2 ^ s<4294967296) (hn:n≤1000000000000) :
  DH N (Ae a) m t o ((n+3:Nat):Int) (s:Int) K=K ((val a/(4294967296 ^ n*2 ^ (32 - s)):Nat):Int)∧val a/(4294967296 ^ n*2 ^ (32 - s))<18446744073709551616:=by
 have hp:0<2 ^ s:=Nat.pow_pos (by omega)
 have F:0<2 ^ (32 - s):=Nat.pow_pos (by omega)
 have hP:0<4294967296 ^ n:=Nat.pow_pos (by omega)
 have k:2 ^ s*2 ^ (32 - s)=4294967296:=by rw[←Nat.pow_add,show s+(32 - s)=32 by omega]
 have b0:=DL D (n+2)
 have b1:=DL D (n+1)
 have b2:=DL D n
 have tk:=Bk (Cq D n)
 have Akl:val (a.take n)<4294967296 ^ n:=by
  refine Nat.lt_of_lt_of_le tk (Nat.pow_le_pow_right (by omega) ?_)
  rw[List.length_take];omega
 have hv:=A75 Y
 generalize L:a.getD (n+2) 0=a0 at *
 generalize M:a.getD (n+1) 0=a1 at *
 generalize S:a.getD n 0=a2 at *
 have T:a0<2 ^ (32 - s):=by
  rw[←k,Nat.mul_comm] at C;exact Nat.lt_of_mul_lt_mul_left C
 have G:(a0*4294967296+a1)*2 ^ s<18446744073709551616:=by
  have x1:(a0+1)*4294967296≤2 ^ (32 - s)*4294967296:=Nat.mul_le_mul_right _ T
  have x2:a0*4294967296+a1<2 ^ (32 - s)*4294967296:=by rw[Nat.add_mul] at x1;omega
  have x3:=(Nat.mul_lt_mul_right hp).2 x2
  rw[Nat.mul_right_comm,Nat.mul_comm (2 ^ (32 - s)),k] at x3
  exact x3
 have U:a2/2 ^ (32 - s)<2 ^ s:=by
  rw[Nat.div_lt_iff_lt_mul F,k];exact b2
 have hq:val a/(4294967296 ^ n*2 ^ (32 - s))=(a0*4294967296+a1)*2 ^ s+a2/2 ^ (32 - s):=by
  rw[←Nat.div_div_eq_div_mul,hv,Nat.add_mul_div_left _ _ hP,Nat.div_eq_of_lt Akl,Nat.zero_add]
  have:(a0*4294967296+a1)*4294967296+a2=a2+2 ^ (32 - s)*((a0*4294967296+a1)*2 ^ s):=by
   rw[Nat.mul_left_comm,Nat.mul_comm (2 ^ (32 - s)),k];omega
  rw[this,Nat.add_mul_div_left _ _ F];omega
 have hb:(a0*4294967296+a1)*2 ^ s+a2/2 ^ (32 - s)<18446744073709551616:=by
  have V:2 ^ s*2 ^ (64 - s)=18446744073709551616:=by rw[←Nat.pow_add,show s+(64 - s)=64 by omega]
  obtain⟨r,hr⟩:∃ r,18446744073709551616=2 ^ s*r:=⟨2 ^ (64 - s),V.symm⟩
  rw[hr,Nat.mul_comm] at G
  have x1:=Nat.lt_of_mul_lt_mul_left G
  have x2:(a0*4294967296+a1+1)*2 ^ s≤r*2 ^ s:=Nat.mul_le_mul_right _ x1
  rw[Nat.add_mul,Nat.mul_comm r,←hr] at x2
  omega
 rw[hq]
 refine⟨?_,hb⟩
 rw[jN];unfold l7
 have w1:IntKind.wrap .i64 (((n+3:Nat):Int) - 1)=((n+2:Nat):Int):=by rw[i64 (by omega)];omega
 have w2:IntKind.wrap .i64 (((n+3:Nat):Int) - 2)=((n+1:Nat):Int):=by rw[i64 (by omega)];omega
 have w3:IntKind.wrap .i64 (((n+3:Nat):Int) - 3)=((n:Nat):Int):=by rw[i64 (by omega)];omega
 have w4:IntKind.wrap .i64 ((32:Int) - (s:Int))=((32 - s:Nat):Int):=by rw[i64 (by omega)];omega
 rw[w1,w2,w3,w4,sw I D,sw I D,show decide (((s:Nat):Int)<0)=false by simp,cf,sw I D,show decide (((32 - s:Nat):Int)<0)=false by simp,cf]
 rw[L,M,S,Bcb b0 b1,Int.toNat_natCast,Int.toNat_natCast,Nat.min_eq_left (by omega),Nat.min_eq_left (by omega),T5,show(2:Int) ^ s=((2 ^ s:Nat):Int) by simp,Abd,Ja G,Ayz G (by omega),sA U]
theorem Arb {N:Nat} {a b:List Nat} {n m:Nat} {t o t' o':Bool} (hn:n=a.length) (hm:m=b.length) (S:Al a) (hb:Al b) (G:3≤a.length) (D:a.getLast (by intro h;rw[h] at G;simp at G)≠0) (hlb:b.length≤a.length) (T:val b≤val a) (hf:fit a.length N) :
  ∃ (a1 a2 I L:Nat) (e:Bool),Beb (val a) (val b) a1 a2 I L e∧a1<18446744073709551616∧a2<18446744073709551616∧I<18446744073709551616∧L<18446744073709551616∧∀ K:LA→O R,Wo N (Ae a) n t o (Ae b) m t' o' K=K (A2z a1 a2 I L e):=by
 subst hn hm
 have h1:=hf.1;have h2:=hf.2
 obtain⟨k,hk⟩:∃ k,a.length=k+3:=⟨a.length - 3,by omega⟩
 have hla2:a[k+2]'(by omega)≠0:=by
  rw[List.getLast_eq_getElem] at D
  simp only[hk] at D
  exact D
 have ak:=Ba S (show k+2<a.length by omega)
 obtain⟨s,s1,s2,s3,s4⟩:=A2w (R:=R) (N:=N) (c:=a[k+2]'(by omega)) (by omega) ak
 have U:a.getD (k+2) 0=a[k+2]'(by omega):=by rw[List.getD_eq_getElem?_getD,List.getElem?_eq_getElem (by omega)];rfl
 have F:b.getD (k+2) 0≤a[k+2]'(by omega):=by
  apply Nat.le_of_not_lt;intro C
  have M:k+2<b.length:=by
   apply Nat.lt_of_not_le;intro V
   rw[List.getD_eq_getElem?_getD,List.getElem?_eq_none V] at C;simp at C
  have hbg:b.getD (k+2) 0=b[k+2]:=by rw[List.getD_eq_getElem?_getD,List.getElem?_eq_getElem M];rfl
  rw[hbg] at C
  have x1:=TZ S (n:=k+2) (by omega)
  have x2:=A0k M
  have x3:(a[k+2]+1)*4294967296 ^ (k+2)≤b[k+2]*4294967296 ^ (k+2):=Nat.mul_le_mul_right _ C
  rw[Nat.mul_comm] at x2
  omega
 have hbt:b.getD (k+2) 0*2 ^ s<4294967296:=Nat.lt_of_le_of_lt (Nat.mul_le_mul_right _ F) s3
 have hPP:0<4294967296 ^ k*2 ^ (32 - s):=Nat.mul_pos (Nat.pow_pos (by omega)) (Nat.pow_pos (by omega))
 have wa:=fun K=>wz (R:=R) (N:=N) (a:=a) (m:=a.length) (n:=k) (s:=s) (t:=false) (o:=o) (K:=K) rfl S (by omega) s1 (by rw[U];exact s3) (by omega)
 have wb:=fun K=>wz (R:=R) (N:=N) (a:=b) (m:=b.length) (n:=k) (s:=s) (t:=false) (o:=o') (K:=K) rfl hb (by omega) s1 hbt (by omega)
 have hX:=(wa fun _=>none).2
 generalize hP:4294967296 ^ k*2 ^ (32 - s)=P at *
 have hYX:val b/P≤val a/P:=Nat.div_le_div_right T
 have q1:∀ z,z/P*P≤z:=fun z=>Nat.div_mul_le_self z P
 have q2:∀ z,z<(z/P+1)*P:=fun z=>by
  have:=Nat.div_add_mod z P;have:=Nat.mod_lt z hPP
  rw[Nat.add_mul,Nat.mul_comm];omega
 obtain⟨a1,a2,I,L,e,r1,r2,r3,r4,r5,r6⟩:=A52 (R:=R) (N:=N) (X:=val a/P) (Y:=val b/P) (A:=val a) (B:=val b) (P:=P) hX hYX (q1 _) (q2 _) (q1 _) (q2 _) 128 N (val a/P) (val b/P) 0 1 0 0 0 1 false (by omega) (by
  have:=Nat.mul_lt_mul'' hX (Nat.lt_of_le_of_lt hYX hX)
  exact this) (Lead.init hYX) (.inl rfl) (by omega) (by omega) (by omega) (by omega)
 refine⟨a1,a2,I,L,e,r1,r2,r3,r4,r5,fun K=>?_⟩
 rw[cL];unfold I_
 have w1:IntKind.wrap .i64 (((a.length:Nat):Int) - 1)=((k+2:Nat):Int):=by rw[i64 (by omega)];omega
 rw[w1,Aa (by omega),ct,ZO (by omega),s4,show((a.length:Nat):Int)=((k+3:Nat):Int) by rw[hk],(wa _).1,(wb _).1]
 exact r6 K
theorem CM {N:Nat} {a b:List Nat} {n m:Nat} {x y:Nat} {t o t' o':Bool} (hn:n=a.length) (V:m=b.length) (G:Al a) (I:Al b) (C:x<18446744073709551616) (D:y<18446744073709551616) (F:val b*y≤val a*x) (k:fit (a.length+b.length+4) N) :
  ∃ S,Al S∧val S=val a*x - val b*y∧∀ K:Nat→LA→O R,Gs N (Ae a) n t o (x:Int) (Ae b) m t' o' (y:Int) K=K (Ar (val a*x - val b*y)).length (Ae S):=by
 subst hn V
 have h1:=k.1;have h2:=k.2
 obtain⟨Sx,x1,x2,x3⟩:=Lq (R:=R) (N:=N) C (by omega)
 obtain⟨Sy,y1,y2,y3⟩:=Lq (R:=R) (N:=N) D (by omega)
 have lx:=TX C
 have ly:=TX D
 obtain⟨P1,p1,p2,L⟩:=d7 (R:=R) (N:=N) (a:=a) (b:=Ar x) (t:=false) (o:=o) (t':=false) (o':=true) rfl rfl G (Ad _) (k.le (by omega))
 obtain⟨P2,Y,M,T⟩:=d7 (R:=R) (N:=N) (a:=b) (b:=Ar y) (t:=false) (o:=o') (t':=false) (o':=true) rfl rfl I (Ad _) (k.le (by omega))
 rw[Ak] at p2 L M T
 have l1:(Ar (val a*x)).length≤a.length+2:=En (by
  have:=Nat.mul_lt_mul'' (Bk G) C
  rw[Nat.pow_add];exact this)
 have l2:(Ar (val b*y)).length≤b.length+2:=En (by
  have:=Nat.mul_lt_mul'' (Bk I) D
  rw[Nat.pow_add];exact this)
 obtain⟨S,s1,s2,U⟩:=Agb (R:=R) (N:=N) (a:=Ar (val a*x)) (b:=Ar (val b*y)) (t:=false) (o:=true) (t':=false) (o':=true) rfl rfl (Ad _) (Ad _) (k.le (by omega)) (by rw[Ak,Ak];exact F)
 rw[Ak,Ak] at s2 U
 refine⟨S,s1,s2,fun K=>?_⟩
 rw[cQ];unfold cP
 have tx:List.take ((Ar x).length*1) (Ae Sx)=Ae (Ar x):=by rw[←x2,M9 x1]
 have ty:List.take ((Ar y).length*1) (Ae Sy)=Ae (Ar y):=by rw[←y2,M9 y1]
 have t1:List.take ((Ar (val a*x)).length*1) (Ae P1)=Ae (Ar (val a*x)):=by rw[←p2,M9 p1]
 have t2:List.take ((Ar (val b*y)).length*1) (Ae P2)=Ae (Ar (val b*y)):=by rw[←M,M9 Y]
 rw[x3,tx,L,y3,ty,T,t1,t2,U]
end
end Gx

namespace Gx
open Go Go.Proofs
section
variable {R:Type}
theorem A53 {N:Nat} (hN:4≤N):∀ (k fuel x y:Nat),k<fuel→x*y<2 ^ k→y≤x→x<18446744073709551616→∃ S,Al S∧val S=Nat.gcd x y∧∀ (D:LA→Nat→Bool→LA→Nat→Bool→O R) (K:Nat→LA→O R),Ti N D K fuel (x:Int) (y:Int)=K (Ar (Nat.gcd x y)).length (Ae S):=by
 have base:∀ (fuel x:Nat),x<18446744073709551616→∃ S,Al S∧val S=Nat.gcd x 0∧∀ (D:LA→Nat→Bool→LA→Nat→Bool→O R) (K:Nat→LA→O R),Ti N D K (fuel+1) (x:Int) ((0:Nat):Int)=K (Ar (Nat.gcd x 0)).length (Ae S):=by
  intro fuel x G
  obtain⟨S,s1,s2,L⟩:=Lq (R:=R) (N:=N) G hN
  refine⟨S,s1,by rw[s2,Nat.gcd_zero_right],fun D K=>?_⟩
  rw[Ti];unfold TC
  rw[show(((0:Nat):Int) != 0)=false by rfl,cf,L,Nat.gcd_zero_right]
 intro k
 induction k with
 | zero =>
  intro fuel x y M C I G
  obtain⟨fuel,rfl⟩:∃ F,fuel=F+1:=⟨fuel - 1,by omega⟩
  have T:y=0:=by
   rcases Nat.eq_zero_or_pos y with h | h
   ·exact h
   ·have Y:=Nat.mul_le_mul_left x (show 1≤y by omega)
    rw[Nat.pow_zero] at C;omega
  subst T
  exact base fuel x G
 | succ k U =>
  intro fuel x y M C I G
  obtain⟨fuel,rfl⟩:∃ F,fuel=F+1:=⟨fuel - 1,by omega⟩
  rcases Nat.eq_zero_or_pos y with h | h
  ·subst h;exact base fuel x G
  ·have hh:=dq (show 1≤y by omega) I
   have hm:=Nat.mod_lt x h
   obtain⟨S,s1,s2,L⟩:=U fuel y (x%y) (by omega) (by rw[Nat.pow_succ] at C;omega) (by omega) (by omega)
   have V:Nat.gcd y (x%y)=Nat.gcd x y:=by rw[Nat.gcd_comm,←Nat.gcd_rec,Nat.gcd_comm]
   rw[V] at s2 L
   refine⟨S,s1,s2,fun D K=>?_⟩
   rw[Ti];unfold TC
   rw[show((y:Int) != 0)=true by rw[bne_iff_ne];omega,ct,Akk (by omega),cf,d8]
   exact L D K
theorem Anx {a b u v s t x y:Nat} (C:x+v*b=u*a) (D:y+s*a=t*b) (k:u*t=v*s+1):t*x+v*y=a∧s*x+u*y=b:=by
 constructor
 ·have F:t*x+t*v*b=t*u*a:=by rw[Nat.mul_assoc,Nat.mul_assoc,←Nat.mul_add,C]
  have G:v*y+v*s*a=v*t*b:=by rw[Nat.mul_assoc,Nat.mul_assoc,←Nat.mul_add,D]
  have I:t*u*a=v*s*a+a:=by rw[Nat.mul_comm t u,k,Nat.add_mul,Nat.one_mul]
  have L:t*v*b=v*t*b:=by rw[Nat.mul_comm t v]
  omega
 ·have F:s*x+s*v*b=s*u*a:=by rw[Nat.mul_assoc,Nat.mul_assoc,←Nat.mul_add,C]
  have G:u*y+u*s*a=u*t*b:=by rw[Nat.mul_assoc,Nat.mul_assoc,←Nat.mul_add,D]
  have I:u*t*b=v*s*b+b:=by rw[k,Nat.add_mul,Nat.one_mul]
  have L:s*u*a=u*s*a:=by rw[Nat.mul_comm s u]
  have M:s*v*b=v*s*b:=by rw[Nat.mul_comm s v]
  omega
theorem Any {A B a b p q r s:Nat} (hA:p*a+q*b=A) (hB:r*a+s*b=B) (k:1≤p) (hq:1≤q) (hr:1≤r) (C:b≤a):2*(a*b)≤A*B∧a≤A:=by
 have G:=Nat.mul_le_mul_right a k
 have I:=Nat.mul_le_mul_right b hq
 have L:=Nat.mul_le_mul_right a hr
 have D:2*b≤A:=by omega
 have F:a≤B:=by omega
 have:=Nat.mul_le_mul D F
 refine⟨?_,by omega⟩
 rw[Nat.mul_comm a b,←Nat.mul_assoc];exact this
theorem Bcf {u0 u1 v0 v1:Nat} {e:Bool}:setCells [(.int .u64 0),(.int .u64 0),(.int .u64 0),(.int .u64 0),(.bool false)] 0 (A2z u0 u1 v0 v1 e)=A2z u0 u1 v0 v1 e:=rfl
theorem Avy {N:Nat}:∀ (k fuel A B:Nat) (d f:Bool),k<fuel→A*B<2 ^ k→B≤A→fit (2*(Ar A).length+4) N→∃ S,Al S∧val S=Nat.gcd A B∧∀ K:Nat→LA→O R,Fk N K fuel (Ae (Ar A)) (Ar A).length d (Ae (Ar B)) (Ar B).length f=K (Ar (Nat.gcd A B)).length (Ae S):=by
 have base:∀ (fuel A:Nat) (d f:Bool),fit (2*(Ar A).length+4) N→∃ S,Al S∧val S=Nat.gcd A 0∧∀ K:Nat→LA→O R,Fk N K (fuel+1) (Ae (Ar A)) (Ar A).length d (Ae (Ar 0)) (Ar 0).length f=K (Ar (Nat.gcd A 0)).length (Ae S):=by
  intro fuel A d f D
  refine⟨Ar A,Ad _,by rw[Ak,Nat.gcd_zero_right],fun K=>?_⟩
  rw[Fk];unfold FO
  rw[Eb,show decide ((((([]:List Nat).length:Nat)):Int)>0)=false by decide,cf,gK rfl (Ad _) (D.le (by omega)),Ak,Nat.gcd_zero_right]
 intro k
 induction k with
 | zero =>
  intro fuel A B d f hfu L I D
  obtain⟨fuel,rfl⟩:∃ F,fuel=F+1:=⟨fuel - 1,by omega⟩
  have hy:B=0:=by
   rcases Nat.eq_zero_or_pos B with h | h
   ·exact h
   ·have h3:=Nat.mul_le_mul_left A (show 1≤B by omega)
    rw[Nat.pow_zero] at L;omega
  subst hy
  exact base fuel A d f D
 | succ k ih =>
  intro fuel A B d f hfu L I D
  have h1:=D.1;have h2:=D.2
  obtain⟨fuel,rfl⟩:∃ F,fuel=F+1:=⟨fuel - 1,by omega⟩
  rcases Nat.eq_zero_or_pos B with h | h
  ·subst h;exact base fuel A d f D
  have hll:=B6 I
  have hbl:(Ar B).length≠0:=fun h0=>by have:=Bv.1 h0;omega
  have Y:decide ((((Ar B).length:Nat):Int)>0)=true:=by rw[decide_eq_true_eq];omega
  by_cases ha2:(Ar A).length≤2
  ·have av:=pa ha2
   obtain⟨S,s1,s2,T⟩:=A53 (R:=R) (N:=N) (by omega) 128 N A B (by omega) (by have:=Nat.mul_lt_mul'' av (Nat.lt_of_le_of_lt I av);exact this) I av
   refine⟨S,s1,s2,fun K=>?_⟩
   rw[Fk];unfold FO
   rw[Y,ct,show decide ((((Ar A).length:Nat):Int)≤2)=true by rw[decide_eq_true_eq];omega,ct,OT rfl (Ad _) ha2 (by omega),OT rfl (Ad _) (by omega) (by omega),Ak,Ak]
   exact T _ K
  ·have hd2:decide ((((Ar A).length:Nat):Int)≤2)=false:=by rw[decide_eq_false_iff_not];omega
   obtain⟨a1,a2,C,G,e,r1,r2,r3,r4,r5,r6⟩:=Arb (R:=R) (N:=N) (a:=Ar A) (b:=Ar B) (t:=false) (o:=d) (t':=false) (o':=f) rfl rfl (Ad _) (Ad _) (by omega) (Abc _ _) hll (by rw[Ak,Ak];exact I) (D.le (by omega))
   rw[Ak,Ak] at r1
   have start:∀ K:Nat→LA→O R,Fk N K (fuel+1) (Ae (Ar A)) (Ar A).length d (Ae (Ar B)) (Ar B).length f=cond ((C:Int)==0) (Fj N (Ae (Ar A)) (Ar A).length false d (Ae (Ar B)) (Ar B).length false f (fun bm ag bn bo ar=>(Fk N K fuel (Ae (Ar B)) (Ar B).length f (List.take (ag*1) ar) ag false))) (cond e (Gs N (Ae (Ar A)) (Ar A).length false d (a1:Int) (Ae (Ar B)) (Ar B).length false f (C:Int) (fun ah ax=>Gs N (Ae (Ar B)) (Ar B).length false f (G:Int) (Ae (Ar A)) (Ar A).length false d (a2:Int) (fun ai ba=>(Fk N K fuel (List.take (ah*1) ax) ah false (List.take (ai*1) ba) ai false)))) (Gs N (Ae (Ar B)) (Ar B).length false f (C:Int) (Ae (Ar A)) (Ar A).length false d (a1:Int) (fun aj bd=>Gs N (Ae (Ar A)) (Ar A).length false d (a2:Int) (Ae (Ar B)) (Ar B).length false f (G:Int) (fun ak bg=>(Fk N K fuel (List.take (aj*1) bd) aj false (List.take (ak*1) bg) ak false))))):=by
    intro K
    rw[Fk];unfold FO
    rw[Y,ct,hd2,cf,r6,Bcf]
    rfl
   by_cases U:C=0
   ·obtain⟨Sq,Sr,q1,q2,q3,q4,q5⟩:=d_ (R:=R) (N:=N) (a:=Ar A) (b:=Ar B) (t:=false) (o:=d) (t':=false) (o':=f) rfl rfl (Ad _) (Ad _) (by rw[Ak];omega) (D.le (by omega))
    rw[Ak,Ak] at q2 q4 q5
    have hm:=Nat.mod_lt A h
    have hh:=dq (show 1≤B by omega) I
    obtain⟨S,s1,s2,T⟩:=ih fuel B (A%B) f false (by omega) (by rw[Nat.pow_succ] at L;omega) (by omega) (D.le (by omega))
    have V:Nat.gcd B (A%B)=Nat.gcd A B:=by rw[Nat.gcd_comm,←Nat.gcd_rec,Nat.gcd_comm]
    rw[V] at s2 T
    refine⟨S,s1,s2,fun K=>?_⟩
    have tk:List.take ((Ar (A%B)).length*1) (Ae Sr)=Ae (Ar (A%B)):=by rw[←q4,M9 q3]
    rw[start,Be3 U,ct,q5,tk,T]
   ·rcases r1 with r1 | ⟨p1,p2,r1⟩
    ·exact absurd r1 U
    cases e with
    | true =>
     obtain⟨c1,c2,c3,c4⟩:=r1
     obtain⟨S1,t1,t2,t3⟩:=CM (R:=R) (N:=N) (a:=Ar A) (b:=Ar B) (x:=a1) (y:=C) (t:=false) (o:=d) (t':=false) (o':=f) rfl rfl (Ad _) (Ad _) r2 r4 (by rw[Ak,Ak,Nat.mul_comm,Nat.mul_comm A];exact c1) (D.le (by omega))
     obtain⟨S2,w1,w2,w3⟩:=CM (R:=R) (N:=N) (a:=Ar B) (b:=Ar A) (x:=G) (y:=a2) (t:=false) (o:=f) (t':=false) (o':=d) rfl rfl (Ad _) (Ad _) r5 r3 (by rw[Ak,Ak,Nat.mul_comm,Nat.mul_comm B];exact c2) (D.le (by omega))
     rw[Ak,Ak] at t2 t3 w2 w3
     have g1:(A*a1 - B*C)+C*B=a1*A:=by rw[Nat.mul_comm A,Nat.mul_comm B];omega
     have g2:(B*G - A*a2)+a2*A=G*B:=by rw[Nat.mul_comm A,Nat.mul_comm B];omega
     have M:B*G - A*a2≤A*a1 - B*C:=by rw[Nat.add_mul,Nat.add_mul] at c3;omega
     obtain⟨i1,i2⟩:=Anx g1 g2 c4
     have V:=Auf g1 g2 c4
     obtain⟨i3,i4⟩:=Any i1 i2 p2 (by omega) p1 M
     have hl:=B6 i4
     obtain⟨S,s1,s2,T⟩:=ih fuel (A*a1 - B*C) (B*G - A*a2) false false (by omega) (by rw[Nat.pow_succ] at L;omega) M (D.le (by omega))
     rw[V] at s2 T
     refine⟨S,s1,s2,fun K=>?_⟩
     have tk1:List.take ((Ar (A*a1 - B*C)).length*1) (Ae S1)=Ae (Ar (A*a1 - B*C)):=by rw[←t2,M9 t1]
     have Akl:List.take ((Ar (B*G - A*a2)).length*1) (Ae S2)=Ae (Ar (B*G - A*a2)):=by rw[←w2,M9 w1]
     rw[start,Akk U,cf,ct,t3,w3,tk1,Akl,T]
    | false =>
     obtain⟨c1,c2,c3,c4⟩:=r1
     obtain⟨S1,t1,t2,t3⟩:=CM (R:=R) (N:=N) (a:=Ar B) (b:=Ar A) (x:=C) (y:=a1) (t:=false) (o:=f) (t':=false) (o':=d) rfl rfl (Ad _) (Ad _) r4 r2 (by rw[Ak,Ak,Nat.mul_comm,Nat.mul_comm B];exact c1) (D.le (by omega))
     obtain⟨S2,w1,w2,w3⟩:=CM (R:=R) (N:=N) (a:=Ar A) (b:=Ar B) (x:=a2) (y:=G) (t:=false) (o:=d) (t':=false) (o':=f) rfl rfl (Ad _) (Ad _) r3 r5 (by rw[Ak,Ak,Nat.mul_comm,Nat.mul_comm A];exact c2) (D.le (by omega))
     rw[Ak,Ak] at t2 t3 w2 w3
     have g1:(B*C - A*a1)+a1*A=C*B:=by rw[Nat.mul_comm A,Nat.mul_comm B];omega
     have g2:(A*a2 - B*G)+G*B=a2*A:=by rw[Nat.mul_comm A,Nat.mul_comm B];omega
     have M:A*a2 - B*G≤B*C - A*a1:=by rw[Nat.add_mul,Nat.add_mul] at c3;omega
     obtain⟨i1,i2⟩:=Anx g2 g1 c4
     have V:=Auf g2 g1 c4
     rw[Nat.gcd_comm] at V
     rw[Nat.add_comm] at i1 i2
     obtain⟨i3,i4⟩:=Any i1 i2 p2 (by omega) p1 M
     have hl:=B6 i4
     obtain⟨S,s1,s2,T⟩:=ih fuel (B*C - A*a1) (A*a2 - B*G) false false (by omega) (by rw[Nat.pow_succ] at L;omega) M (D.le (by omega))
     rw[V] at s2 T
     refine⟨S,s1,s2,fun K=>?_⟩
     have tk1:List.take ((Ar (B*C - A*a1)).length*1) (Ae S1)=Ae (Ar (B*C - A*a1)):=by rw[←t2,M9 t1]
     have Akl:List.take ((Ar (A*a2 - B*G)).length*1) (Ae S2)=Ae (Ar (A*a2 - B*G)):=by rw[←w2,M9 w1]
     rw[start,Akk U,cf,cf,t3,w3,tk1,Akl,T]
theorem Avz (n m:Nat):4294967296 ^ n*4294967296 ^ m=2 ^ (32*(n+m)):=by
 rw[←Nat.pow_add,show(4294967296:Nat)=2 ^ 32 by rfl,←Nat.pow_mul]
theorem A76 {N:Nat} {a b:List Nat} {n m:Nat} {t o t' o':Bool} (hn:n=a.length) (L:m=b.length) (F:Al a) (G:Al b) (C:fit (2*(a.length+b.length)+4) N) :
  ∃ S,Al S∧val S=Nat.gcd (val a) (val b)∧∀ K:Nat→LA→O R,cS N (Ae a) n t o (Ae b) m t' o' K=K (Ar (Nat.gcd (val a) (val b))).length (Ae S):=by
 have M:=C.1;have T:=C.2
 have la:=(Bt F).2
 have lb:=(Bt G).2
 have k:val a*val b<2 ^ (32*(a.length+b.length)):=by rw[←Avz];exact Nat.mul_lt_mul'' (Bk F) (Bk G)
 have start:∀ K:Nat→LA→O R,cS N (Ae a) n t o (Ae b) m t' o' K=cond (decide (H9 (val a) (val b)<0)) (Fk N K N (Ae (Ar (val b))) (Ar (val b)).length o' (Ae (Ar (val a))) (Ar (val a)).length o) (Fk N K N (Ae (Ar (val a))) (Ar (val a)).length o (Ae (Ar (val b))) (Ar (val b)).length o'):=by
  intro K
  rw[Adv];unfold zn fu lm
  dsimp only
  rw[B9 hn F (C.le (by omega)),B9 L G (C.le (by omega)),Tm rfl rfl (Ad _) (Ad _) (C.le (by omega)),Ak,Ak]
 by_cases D:val a<val b
 ·obtain⟨S,s1,s2,I⟩:=Avy (R:=R) (N:=N) (32*(a.length+b.length)) N (val b) (val a) o' o (by omega) (by rw[Nat.mul_comm];exact k) (by omega) (C.le (by omega))
  rw[Nat.gcd_comm] at s2
  refine⟨S,s1,s2,fun K=>?_⟩
  rw[start,show decide (H9 (val a) (val b)<0)=true by (unfold H9;rw[if_pos D];rfl),ct,I,Nat.gcd_comm]
 ·obtain⟨S,s1,s2,I⟩:=Avy (R:=R) (N:=N) (32*(a.length+b.length)) N (val a) (val b) o o' (by omega) k (by omega) (C.le (by omega))
  refine⟨S,s1,s2,fun K=>?_⟩
  rw[start,show decide (H9 (val a) (val b)<0)=false by (unfold H9;rw[if_neg D];split<;>rfl),cf,I]
end
end Gx

namespace Gx
open Go Go.Proofs
section
variable {R:Type}
theorem Bdp {c:Nat} (h:c≤1000000000000):((Nat.ble (0+c) 140737488355328)&&(Nat.ble ((0+c)*4) 140737488355328))=true:=by simp;omega
theorem mF {N:Nat} {l:List Nat} {t o:Bool} {K:Nat→LA→O R} (C:Al l) (hs:l.length≤1000000000000):∀ (c fuel:Nat),c≤l.length→c<fuel →
  N9 N K (Ae l) l.length t o fuel (c:Int)=K (Ar (val (l.take c))).length (Ae (Ar (val (l.take c))))
 | 0,fuel+1,D,_=>by
  rw[N9];unfold BX
  rw[show decide (((0:Nat):Int)>0)=false by simp]
  rw[show((false:Bool)==true)=false by rfl,cf,Bbd (by omega),ct,Int.toNat_natCast,Nat.mul_one,Wg,HR,Bool.or_true,ct,Bdp (by omega),ct];rfl
 | c+1,fuel+1,D,F=>by
  rw[N9];unfold BX
  rw[Azo,ct,wP (by omega),Aa (by omega),ct,ZO (by omega),Au4,Bbd (by omega),ct,mF C hs c fuel (by omega) (by omega),Int.toNat_natCast,Nat.mul_one,Wg,HR,Bool.or_true,ct,Bdp (by omega),ct,Nat.zero_add]
  by_cases k:l[c]=0
  ·rw[A5 (by omega),k];simp
  ·rw[Aqh C (by omega) k,List.length_take,Nat.min_eq_left D]
   rw[Akk k,cf]
theorem Du {N:Nat} {l:List Nat} {n:Nat} {t o:Bool} {K:Nat→LA→O R} (hn:n=l.length) (C:Al l) (k:fit l.length N):D1 N (Ae l) n t o K=K (Ar (val l)).length (Ae (Ar (val l))):=by
 subst hn
 have D:=k.1;have F:=k.2
 rw[SF];unfold NE
 dsimp only
 rw[mF C (by omega) l.length N (Nat.le_refl _) (by omega),List.take_length]
theorem Av0 {N:Nat} {a b:List Nat} {t o t' o':Bool} {K:Bool→O R} (hs:a.length≤1000000000000) (F:a.length=b.length):∀ (m j fuel:Nat),j+m=a.length→m<fuel →
  Lg N K (Ae a) a.length t o (Ae b) b.length t' o' fuel (j:Int)=K (decide (a.drop j=b.drop j))
 | 0,j,fuel+1,G,_=>by
  rw[Lg];unfold Xc
  rw[Ku (by omega),cf,List.drop_eq_nil_of_le (by omega),List.drop_eq_nil_of_le (by omega)];simp
 | m+1,j,fuel+1,G,I=>by
  have C:j<a.length:=by omega
  have D:j<b.length:=by omega
  rw[Lg];unfold Xc
  rw[Jh C,ct,Aa C,ct,ZO C,Aa D,ct,ZO D,wS (by omega),Av0 hs F m (j+1) fuel (by omega) (by omega),List.drop_eq_getElem_cons C,List.drop_eq_getElem_cons D]
  by_cases h:a[j]=b[j]
  ·rw[show((((a[j]:Nat):Int) != ((b[j]:Nat):Int)))=false by simp[h],cf];congr 1;rw[decide_eq_decide,List.cons.injEq];exact⟨fun k=>⟨h,k⟩,fun k=>k.2⟩
  ·rw[show((((a[j]:Nat):Int) != ((b[j]:Nat):Int)))=true by rw[bne_iff_ne];omega,ct];congr 1;symm;rw[decide_eq_false_iff_not,List.cons.injEq];exact fun k=>h k.1
theorem A77 {N:Nat} {a b:List Nat} {n m:Nat} {t o t' o':Bool} {K:Bool→O R} (hn:n=a.length) (D:m=b.length) (C:fit a.length N):DB N (Ae a) n t o (Ae b) m t' o' K=K (decide (a=b)):=by
 subst hn D
 have F:=C.1;have G:=C.2
 rw[iJ];unfold SH
 by_cases k:a.length=b.length
 ·rw[show(((a.length:Nat):Int) != ((b.length:Nat):Int))=false by simp[k],cf]
  have:=Av0 (R:=R) (N:=N) (t:=t) (o:=o) (t':=t') (o':=o') (K:=K) (by omega) k a.length 0 N (by omega) (by omega)
  simpa using this
 ·rw[show(((a.length:Nat):Int) != ((b.length:Nat):Int))=true by rw[bne_iff_ne];omega,ct]
  congr 1;symm;rw[decide_eq_false_iff_not];intro h;exact k (by rw[h])
theorem KB {N:Nat} {v:Nat} {K:Nat→LA→O R} (D:v<18446744073709551616) (hN:4≤N):F4 N (v:Int) K=K (Ar v).length (Ae (Ar v)):=by
 have C:Al [v%4294967296,v/4294967296]:=Ds.2 ⟨by omega,Ds.2 ⟨by omega,Wf⟩⟩
 have k:val [v%4294967296,v/4294967296]=v:=by simp[val];omega
 rw[EC];unfold Zr
 rw[lD,rz,A2q (show v/4294967296<4294967296 by omega)]
 have:=mF (R:=R) (N:=N) (l:=[v%4294967296,v/4294967296]) (t:=false) (o:=true) (K:=K) C (by simp) 2 N (by simp) (by omega)
 rw[show [v%4294967296,v/4294967296].take 2=[v%4294967296,v/4294967296] by rfl,k] at this
 rw[SF];unfold NE
 exact this
theorem T_ {N:Nat} {l:List Nat} {n:Nat} {t o:Bool} {K:Int→Bool→O R} (hn:n=l.length) (L:Al l) (G:fit l.length N):Se N (Ae l) n t o K=if val l<18446744073709551616 then K (val l:Int) true else K 0 false:=by
 have U:=G.1
 rw[a9];unfold HX
 rw[Du hn L G]
 by_cases h:val l<18446744073709551616
 ·have S:=TX h
  rw[if_pos h,show decide ((((Ar (val l)).length:Nat):Int)>2)=false by simp;omega,cf]
  have k:=Ak (val l)
  have D:=Ad (val l)
  obtain⟨M,hM⟩:∃ M,N=M+4:=⟨N - 4,by omega⟩
  rw[hM]
  generalize Ar (val l)=d at *
  match d,S,k,D with
  | [],_,k,_ =>
   dsimp only
   rw[Ej];unfold F5
   rw[←k,i64 (by simp)];rfl
  | [x],_,k,D =>
   have F:=(Ds.1 D).1
   have C:val l=x:=by rw[←k];simp[val]
   dsimp only
   rw[Ej];unfold F5
   rw[i64 (by simp),show((([x]:List Nat).length:Nat):Int) - 1=((0:Nat):Int) by rfl,show decide (((0:Nat):Int)≥0)=true by rfl,ct,Aa (by simp),ct,oF (by simp)]
   rw[Ej];unfold F5
   rw[i64 (by simp),show decide ((((0:Nat):Int) - 1)≥0)=false by rfl,cf]
   have:=Bcb (a:=0) (b:=x) (by omega) F
   simp only[List.getElem_cons_zero]
   rw[Ja (show x<18446744073709551616 by omega),show(0:Int)=((0:Nat):Int) by rfl,this,C];simp
  | [x,y],_,k,D =>
   have F:=(Ds.1 D).1
   have I:=(Ds.1 (Ds.1 D).2).1
   have C:val l=y*4294967296+x:=by rw[←k];simp[val];omega
   dsimp only
   rw[Ej];unfold F5
   rw[i64 (by simp),show((([x,y]:List Nat).length:Nat):Int) - 1=((1:Nat):Int) by rfl,show decide (((1:Nat):Int)≥0)=true by rfl,ct,Aa (by simp),ct,oF (by simp)]
   rw[Ej];unfold F5
   rw[i64 (by simp),show(((1:Nat):Int) - 1)=((0:Nat):Int) by rfl,show decide (((0:Nat):Int)≥0)=true by rfl,ct,Aa (by simp),ct,oF (by simp)]
   rw[Ej];unfold F5
   rw[i64 (by simp),show decide ((((0:Nat):Int) - 1)≥0)=false by rfl,cf]
   have o1:=Bcb (a:=0) (b:=y) (by omega) I
   have o2:=Bcb (a:=y) (b:=x) I F
   simp only[List.getElem_cons_zero,List.getElem_cons_succ]
   rw[Ja (show y<18446744073709551616 by omega),Ja (show x<18446744073709551616 by omega),show(0:Int)=((0:Nat):Int) by rfl,o1,Nat.zero_mul,Nat.zero_add,o2,C]
 ·have:¬ (Ar (val l)).length≤2:=fun T=>h (pa T)
  rw[if_neg h,show decide ((((Ar (val l)).length:Nat):Int)>2)=true by simp;omega,ct]
theorem Anz {N:Nat} {x y:List Nat} {K:Int→O R} (D:Al x) (F:Al y) (hs:x.length≤1000000000000) (I:x.length=y.length):∀ (i fuel:Nat),i≤x.length→i<fuel →
  Hq N K x.length y.length (Ae x) (Ae y) fuel ((i:Int) - 1)=K (H9 (val (x.take i)) (val (y.take i)))
 | 0,fuel+1,_,_=>by
  rw[Hq];unfold Rr
  rw[show decide ((((0:Nat):Int) - 1)≥0)=false by simp,cf]
  simp[DK]
 | i+1,fuel+1,hi,L=>by
  rw[Hq];unfold Rr
  rw[show(((i+1:Nat):Int) - 1)=(i:Int) by omega,show decide ((i:Int)≥0)=true by simp,ct,Aa (by omega),ct,oF (by omega),Aa (by omega),ct,oF (by omega),ct,oF (by omega),ct,oF (by omega),i64 (by omega),
   Anz D F hs I i fuel (by omega) (by omega),A5 (by omega),A5 (by omega)]
  have k:=Bk (Cq D i)
  have C:=Bk (Cq F i)
  rw[List.length_take,Nat.min_eq_left (by omega)] at k C
  by_cases c1:x[i]<y[i]
  ·have:=zp k C c1
   rw[show decide (((x[i]:Nat):Int)<((y[i]:Nat):Int))=true by simp;exact c1,ct]
   unfold H9;rw[if_pos this]
  ·by_cases G:y[i]<x[i]
   ·have:=zp C k G
    rw[show decide (((x[i]:Nat):Int)<((y[i]:Nat):Int))=false by simp;omega,cf,show decide (((x[i]:Nat):Int)>((y[i]:Nat):Int))=true by simp;exact G,ct]
    unfold H9;rw[if_neg (by omega),if_pos this]
   ·have:x[i]=y[i]:=by omega
    rw[show decide (((x[i]:Nat):Int)<((y[i]:Nat):Int))=false by simp;omega,cf,show decide (((x[i]:Nat):Int)>((y[i]:Nat):Int))=false by simp;omega,cf,this]
    unfold H9
    congr 1
    by_cases a1:val (x.take i)<val (y.take i)
    ·rw[if_pos a1,if_pos (by omega)]
    ·by_cases a2:val (y.take i)<val (x.take i)
     ·rw[if_neg a1,if_pos a2,if_neg (by omega),if_pos (by omega)]
     ·rw[if_neg a1,if_neg a2,if_neg (by omega),if_neg (by omega)]
theorem A54 {N:Nat} {a b:List Nat} {n m:Nat} {t o t' o':Bool} {K:Int→O R} (hn:n=a.length) (I:m=b.length) (C:Al a) (D:Al b) (k:fit (a.length+b.length) N) :
  Tb N (Ae a) n t o (Ae b) m t' o' K=K (H9 (val a) (val b)):=by
 subst hn I
 have L:=k.1;have M:=k.2
 rw[VW];unfold BY
 dsimp only
 rw[Du rfl C (k.le (by omega)),Du rfl D (k.le (by omega))]
 have la:=(Bt C).2
 have lb:=(Bt D).2
 by_cases F:(Ar (val a)).length=(Ar (val b)).length
 ·rw[show((((Ar (val a)).length:Nat):Int) != (((Ar (val b)).length:Nat):Int))=false by simp;omega,cf,i64 (by omega),Anz (Ad _) (Ad _) (by omega) F _ N (Nat.le_refl _) (by omega),List.take_length,F,List.take_length,Ak,Ak]
 ·rw[show((((Ar (val a)).length:Nat):Int) != (((Ar (val b)).length:Nat):Int))=true by simp;omega,ct]
  by_cases G:(Ar (val a)).length<(Ar (val b)).length
  ·have:=TW G
   rw[Jh G,ct]
   unfold H9;rw[if_pos this]
  ·have:=TW (show(Ar (val b)).length<(Ar (val a)).length by omega)
   rw[Ku (by omega),cf]
   unfold H9;rw[if_neg (by omega),if_pos this]
end
end Gx

namespace Gx
open Go Go.Proofs
section
variable {R:Type}
theorem Bdq (a b:Nat):Gc (a:Int) (b:Int)=((max a b:Nat):Int):=by
 unfold Gc
 by_cases h:(b:Int)>(a:Int)
 ·rw[decide_eq_true h];show(b:Int)=_;omega
 ·rw[decide_eq_false h];show(a:Int)=_;omega
theorem An0 {N:Nat} {a b:List Nat} {t o t' o':Bool} {n:Nat} (I:Al a) (L:Al b) (M:a.length<n) (T:b.length<n) (hn:n≤max a.length b.length+1) (F:fit n N):∀ (m d fuel:Nat) (S:List Nat) (c:Nat),d+m=n→m<fuel→Al S→S.length=n→A50 S d→c≤1 →
  val S+4294967296 ^ d*c=val (a.take d)+val (b.take d) →
  ∀ K:Nat→LA→O R,Jc N K (Ae a) a.length t o (Ae b) b.length t' o' fuel n (c:Int) (d:Int) (Ae S)=K (Ar (val a+val b)).length (Ae (Ar (val a+val b)))
 | 0,d,fuel+1,S,c,hd,_,hS,G,U,hc,V=>by
  intro K
  have Y:d=n:=by omega
  subst Y
  rw[List.take_of_length_le (by omega),List.take_of_length_le (by omega)] at V
  have hc0:c=0:=by
   rcases Nat.eq_zero_or_pos c with h | h
   ·exact h
   ·exfalso
    have hc1:c=1:=by omega
    subst hc1
    obtain⟨e,rfl⟩:∃ e,d=e+1:=⟨d - 1,by omega⟩
    have x1:=Bk I
    have x2:=Bk L
    have y1:4294967296 ^ a.length≤4294967296 ^ e:=Nat.pow_le_pow_right (by omega) (by omega)
    have y2:4294967296 ^ b.length≤4294967296 ^ e:=Nat.pow_le_pow_right (by omega) (by omega)
    rw[Nat.pow_succ] at V
    omega
  subst hc0
  have hv2:val S=val a+val b:=by omega
  rw[Jc];unfold HY
  rw[Ku (Nat.le_refl _),cf,Nat.mul_one,List.take_of_length_le (by rw[B4];omega),Du G.symm hS (by rw[G];exact F),hv2]
 | m+1,d,fuel+1,S,c,hd,hfu,hS,G,U,hc,V=>by
  intro K
  have h1:=F.1;have h2:=F.2
  have ga:=DL I d
  have gb:=DL L d
  have step:∀ s:Nat,s=c+a.getD d 0+b.getD d 0→val (S.set d (s%4294967296))+4294967296 ^ (d+1)*(s/4294967296)=val (a.take (d+1))+val (b.take (d+1)):=by
   intro s hs
   rw[Xl U (by omega),Tn a d,Tn b d,Nat.pow_succ]
   have e:=Ol (4294967296 ^ d) s
   have e2:4294967296 ^ d*s=4294967296 ^ d*c+4294967296 ^ d*a.getD d 0+4294967296 ^ d*b.getD d 0:=by rw[hs,Nat.mul_add,Nat.mul_add]
   omega
  have next:∀ s:Nat,s=c+a.getD d 0+b.getD d 0→Jc N K (Ae a) a.length t o (Ae b) b.length t' o' fuel n ((s/4294967296:Nat):Int) ((d+1:Nat):Int) (Ae (S.set d (s%4294967296)))=K (Ar (val a+val b)).length (Ae (Ar (val a+val b))):=by
   intro s hs
   exact An0 I L M T hn F m (d+1) fuel (S.set d (s%4294967296)) (s/4294967296) (by omega) (by omega) (Cx hS (by omega) d) (by simpa using G) (KA U) (by omega) (step s hs) K
  have second:∀ w:Nat,w=c+a.getD d 0→EG N (Jc N K (Ae a) a.length t o (Ae b) b.length t' o' fuel) K (Ae a) a.length t o (Ae b) b.length t' o' n (Ae S) (w:Int) (d:Int)=K (Ar (val a+val b)).length (Ae (Ar (val a+val b))):=by
   intro w hw
   unfold EG
   by_cases k:d<b.length
   ·have D:b.getD d 0=b[d]:=by rw[List.getD_eq_getElem?_getD,List.getElem?_eq_getElem k];rfl
    rw[Jh k,ct,Aa k,ct,ZO k,Aa (by omega),ct,Al1 (by omega),ct,Ja (show b[d]<18446744073709551616 by omega),ND,Ja (show w+b[d]<18446744073709551616 by omega),rz,lD,cC,wS (by omega)]
    exact next _ (by rw[hw,D])
   ·have D:b.getD d 0=0:=by rw[List.getD_eq_getElem?_getD,List.getElem?_eq_none (by omega)];rfl
    rw[Ku (by omega),cf,Aa (by omega),ct,Al1 (by omega),ct,rz,lD,cC,wS (by omega)]
    exact next _ (by rw[hw,D];rfl)
  rw[Jc];unfold HY
  rw[Jh (by omega),ct]
  by_cases C:d<a.length
  ·have D:a.getD d 0=a[d]:=by rw[List.getD_eq_getElem?_getD,List.getElem?_eq_getElem C];rfl
   rw[Jh C,ct,Aa C,ct,ZO C,Ja (show a[d]<18446744073709551616 by omega),ND,Ja (show c+a[d]<18446744073709551616 by omega)]
   exact second _ (by rw[D])
  ·have D:a.getD d 0=0:=by rw[List.getD_eq_getElem?_getD,List.getElem?_eq_none (by omega)];rfl
   rw[Ku (by omega),cf]
   exact second _ (by rw[D];rfl)
theorem sx {N:Nat} {a b:List Nat} {n m:Nat} {t o t' o':Bool} {K:Nat→LA→O R} (hn:n=a.length) (C:m=b.length) (D:Al a) (F:Al b) (k:fit (a.length+b.length+1) N) :
  HZ N (Ae a) n t o (Ae b) m t' o' K=K (Ar (val a+val b)).length (Ae (Ar (val a+val b))):=by
 subst hn C
 have G:=k.1;have I:=k.2
 rw[vK];unfold n0
 rw[Bdq,wS (by omega),A64 (by omega),ct,Int.toNat_natCast,Db]
 exact An0 D F (n:=max a.length b.length+1) (by omega) (by omega) (Nat.le_refl _) (k.le (by omega)) (max a.length b.length+1) 0 N (List.replicate (max a.length b.length+1) 0) 0 (by omega) (by omega) (Cw _) (by simp) (Nd _) (by omega) (by rw[Ei];simp[val]) K
theorem An1 {N:Nat} {a b:List Nat} (ha:Al a) (hb:Al b) (M:fit a.length N) (I:b.length≤a.length) (T:val b≤val a):∀ (m d fuel:Nat) (S:List Nat) (c:Nat),d+m=a.length→m<fuel→Al S→S.length=a.length→A50 S d→c≤1 →
  val S+val (b.take d)=val (a.take d)+4294967296 ^ d*c →
  ∀ K:Nat→Bool→LA→O R,Jd N K a.length b.length (Ae a) (Ae b) fuel (c:Int) (d:Int) (Ae S)=K (Ar (val a - val b)).length true (Ae (Ar (val a - val b)))
 | 0,d,fuel+1,S,c,hd,_,hS,L,U,hc,hv=>by
  intro K
  have V:d=a.length:=by omega
  subst V
  rw[List.take_length,List.take_of_length_le I] at hv
  have D:=Bk hS
  rw[L] at D
  have Y:c=0:=by
   rcases Nat.lt_or_ge 0 c with h | h
   ·exfalso
    have:c=1:=by omega
    subst this
    omega
   ·omega
  subst Y
  have hv2:val S=val a - val b:=by omega
  rw[Jd];unfold H'
  rw[Ku (Nat.le_refl _),cf,Nat.mul_one,List.take_of_length_le (by rw[B4];omega),Du L.symm hS (by rw[L];exact M),hv2]
 | m+1,d,fuel+1,S,c,hd,hfu,hS,L,U,hc,hv=>by
  intro K
  have h1:=M.1;have h2:=M.2
  have k:d<a.length:=by omega
  have ad:=Ba ha k
  have gb:=DL hb d
  have step:∀ y g c':Nat,y=c+b.getD d 0→a[d]+4294967296*c'=g+y→val (S.set d g)+val (b.take (d+1))=val (a.take (d+1))+4294967296 ^ (d+1)*c':=by
   intro y g c' G F
   rw[Xl U (by omega),A5 k,Tn b d,Nat.pow_succ,Nat.mul_assoc]
   have e:4294967296 ^ d*(a[d]+4294967296*c')=4294967296 ^ d*(g+(c+b.getD d 0)):=by rw[F,G]
   rw[Nat.mul_add,Nat.mul_add,Nat.mul_add] at e
   omega
  have next:∀ y g c':Nat,g<4294967296→c'≤1→y=c+b.getD d 0→a[d]+4294967296*c'=g+y→Jd N K a.length b.length (Ae a) (Ae b) fuel (c':Int) ((d+1:Nat):Int) (Ae (S.set d g))=K (Ar (val a - val b)).length true (Ae (Ar (val a - val b))):=by
   intro y g c' F hc' G he
   exact An1 ha hb M I T m (d+1) fuel (S.set d g) c' (by omega) (by omega) (Cx hS F d) (by simpa using L) (KA U) hc' (step y g c' G he) K
  have second:∀ y:Nat,y=c+b.getD d 0→EH N (Jd N K a.length b.length (Ae a) (Ae b) fuel) K a.length b.length (Ae a) (Ae b) (Ae S) (d:Int) (y:Int)=K (Ar (val a - val b)).length true (Ae (Ar (val a - val b))):=by
   intro y G
   unfold EH
   rw[Aa k,ct,oF k,Ja (show a[d]<18446744073709551616 by omega)]
   by_cases D:a[d]<y
   ·rw[Jh D,ct,ct,Al1 (by omega),ct,show((a[d]:Nat):Int)+4294967296=((a[d]+4294967296:Nat):Int) by omega,Ja (show a[d]+4294967296<18446744073709551616 by omega),ry (by omega) (by omega),A2q (by omega),cC,wS (by omega)]
    exact next y (a[d]+4294967296 - y) 1 (by omega) (by omega) G (by omega)
   ·rw[Ku (by omega),cf,ct,Al1 (by omega),ct,ry (by omega) (by omega),A2q (by omega),cC,wS (by omega)]
    exact next y (a[d] - y) 0 (by omega) (by omega) G (by omega)
  rw[Jd];unfold H'
  rw[Jh k,ct]
  by_cases C:d<b.length
  ·have F:b.getD d 0=b[d]:=by rw[List.getD_eq_getElem?_getD,List.getElem?_eq_getElem C];rfl
   rw[Jh C,ct,Aa C,ct,oF C,Ja (show b[d]<18446744073709551616 by omega),ND,Ja (show c+b[d]<18446744073709551616 by omega)]
   exact second _ (by rw[F])
  ·have F:b.getD d 0=0:=by rw[List.getD_eq_getElem?_getD,List.getElem?_eq_none (by omega)];rfl
   rw[Ku (by omega),cf]
   exact second _ (by rw[F];rfl)
theorem sy {N:Nat} {a b:List Nat} {n m:Nat} {t o t' o':Bool} {K:Nat→Bool→LA→O R} (hn:n=a.length) (I:m=b.length) (D:Al a) (F:Al b) (C:fit (a.length+b.length) N) :
  IA N (Ae a) n t o (Ae b) m t' o' K=if val b≤val a then K (Ar (val a - val b)).length true (Ae (Ar (val a - val b))) else K 0 false []:=by
 subst hn I
 have L:=C.1;have M:=C.2
 have la:=(Bt D).2
 have lb:=(Bt F).2
 rw[vO];unfold n7
 dsimp only
 rw[A54 rfl rfl D F C]
 by_cases k:val b≤val a
 ·have G:=B6 k
  rw[if_pos k,show decide (H9 (val a) (val b)<0)=false by (unfold H9;rw[if_neg (by omega)];split<;>rfl),cf,Du rfl D (C.le (by omega)),Du rfl F (C.le (by omega)),A64 (by omega),ct,Db]
  have:=An1 (R:=R) (N:=N) (a:=Ar (val a)) (b:=Ar (val b)) (Ad _) (Ad _) (C.le (by omega)) G (by rw[Ak,Ak];exact k) (Ar (val a)).length 0 N (List.replicate (Ar (val a)).length 0) 0 (by omega) (by omega) (Cw _) (by simp) (Nd _) (by omega) (by rw[Ei];simp[val]) K
  rw[Ak,Ak] at this
  exact this
 ·rw[if_neg k,show decide (H9 (val a) (val b)<0)=true by (unfold H9;rw[if_pos (by omega)];rfl),ct]
theorem A20 {N:Nat} {x y:List Nat} {c d c' d':Bool} {f:Nat} (V:Al x) (Y:Al y) (G:f<x.length) (hs:x.length+y.length≤1000000000000):∀ (m l fuel:Nat) (S:List Nat) (p:Nat) (v:Nat),l+m=y.length→m<fuel→Al S→S.length=x.length+y.length→A50 S (f+y.length)→p<4294967296 →
  val S+4294967296 ^ (f+l)*p=v+4294967296 ^ f*(x[f]*val (y.take l)) →
  ∃ S',Al S'∧S'.length=x.length+y.length∧val S'=v+4294967296 ^ f*(x[f]*val y)∧∀ (D:Nat→Int→LA→O R) (K:Nat→LA→O R),Sm N D K (Ae x) x.length c d (Ae y) y.length c' d' (x.length+y.length) fuel (f:Int) (p:Int) (l:Int) (Ae S)=D (x.length+y.length) ((f+1:Nat):Int) (Ae S')
 | 0,l,fuel+1,S,p,v,hl,_,hS,k,L,I,M=>by
  have T:l=y.length:=by omega
  subst T
  rw[List.take_length] at M
  refine⟨S.set (f+y.length) p,Cx hS I _,by simpa using k,by rw[Xl L (by omega),M],fun D K=>?_⟩
  rw[Sm];unfold JI
  rw[Ku (Nat.le_refl _),cf,wA (by omega),Aa (by omega),ct,Al1 (by omega),ct,A2q I,cC,wS (by omega)]
 | m+1,l,fuel+1,S,p,v,hl,hfu,hS,k,L,I,M=>by
  have C:l<y.length:=by omega
  have yl:=Ba Y C
  have hq:=Ba V G
  have hi:f+l<S.length:=by omega
  have sl:=Ba hS hi
  have hw:=Avu I hq yl sl
  have U:x[f]*y[l]<18446744073709551616:=by omega
  generalize F:p+(x[f]*y[l]+S[f+l])=s at *
  have hset:=p_ (v:=s%4294967296) hi
  have key:val (S.set (f+l) (s%4294967296))+4294967296 ^ (f+(l+1))*(s/4294967296)=v+4294967296 ^ f*(x[f]*val (y.take (l+1))):=by
   rw[A5 C,←Nat.add_assoc f l 1,Nat.pow_succ]
   have e:=Ol (4294967296 ^ (f+l)) s
   have e2:4294967296 ^ (f+l)*s=4294967296 ^ (f+l)*p+(4294967296 ^ (f+l)*(x[f]*y[l])+4294967296 ^ (f+l)*S[f+l]):=by rw[←F,Nat.mul_add,Nat.mul_add]
   have e3:4294967296 ^ f*(x[f]*(val (y.take l)+4294967296 ^ l*y[l]))=4294967296 ^ f*(x[f]*val (y.take l))+4294967296 ^ (f+l)*(x[f]*y[l]):=by
    rw[Nat.mul_add,Nat.mul_add,Nat.pow_add]
    congr 1
    rw[Nat.mul_assoc];congr 1
    rw[←Nat.mul_assoc,←Nat.mul_assoc,Nat.mul_comm x[f]]
   omega
  obtain⟨S',q1,q2,q3,q4⟩:=A20 (N:=N) (c:=c) (d:=d) (c':=c') (d':=d') V Y G hs m (l+1) fuel (S.set (f+l) (s%4294967296)) (s/4294967296) v (by omega) (by omega) (Cx hS (by omega) _) (by simpa using k) (fun j hj hk=>by
   rw[List.getElem_set,if_neg (by omega)];exact L j (by simpa using hj) hk) (by omega) key
  refine⟨S',q1,q2,q3,fun D K=>?_⟩
  rw[Sm];unfold JI
  rw[Jh C,ct,wA (by omega),Aa (by omega),ct,oF hi,Aa G,ct,ZO G,Aa C,ct,ZO C,ct,Al1 hi,ct,Ja (show x[f]<18446744073709551616 by omega),Ja (show y[l]<18446744073709551616 by omega),Ja (show S[f+l]<18446744073709551616 by omega),Abd,Ja U,ND,Nat.add_comm S[f+l],Ja (by omega),ND,F,Ja hw,rz,lD,cC,wS (by omega)]
  exact q4 D K
theorem Av1 {N:Nat} {x y:List Nat} {c d c' d':Bool} (L:Al x) (M:Al y) (k:fit (x.length+y.length) N):∀ (m f fuel:Nat) (S:List Nat),f+m=x.length→m<fuel→Al S→S.length=x.length+y.length →
  val S=val (x.take f)*val y →
  ∀ K:Nat→LA→O R,Ln N K (Ae x) x.length c d (Ae y) y.length c' d' fuel (x.length+y.length) (f:Int) (Ae S)=K (Ar (val x*val y)).length (Ae (Ar (val x*val y)))
 | 0,f,fuel+1,S,V,_,hS,C,I=>by
  intro K
  have T:f=x.length:=by omega
  subst T
  rw[List.take_length] at I
  rw[Ln];unfold JJ
  rw[Ku (Nat.le_refl _),cf,Nat.mul_one,List.take_of_length_le (by rw[B4];omega),Du C.symm hS (by rw[C];exact k),I]
 | m+1,f,fuel+1,S,V,Y,hS,C,I=>by
  intro K
  have h1:=k.1;have h2:=k.2
  have F:f<x.length:=by omega
  have U:=Bk (Cq L f)
  rw[List.length_take,Nat.min_eq_left (by omega)] at U
  have b2:=Bk M
  have D:val S<4294967296 ^ (f+y.length):=by
   rw[I,Nat.pow_add];exact Nat.mul_lt_mul'' U b2
  have G:val (x.take (f+1))*val y=val S+4294967296 ^ f*(x[f]*val y):=by
   rw[A5 F,Nat.add_mul,I,Nat.mul_assoc]
  obtain⟨S1,p1,p2,p3,p4⟩:=A20 (R:=R) (N:=N) (x:=x) (y:=y) (c:=c) (d:=d) (c':=c') (d':=d') (f:=f) L M F (by omega) y.length 0 N S 0 (val S) (by omega) (by omega) hS C (A7x D) (by omega) (by simp[val])
  rw[Ln];unfold JJ
  rw[Jh F,ct]
  have:=p4 (Ln N K (Ae x) x.length c d (Ae y) y.length c' d' fuel) K
  simp only[Int.natCast_zero] at this
  dsimp only
  rw[this]
  exact Av1 L M k m (f+1) fuel S1 (by omega) (by omega) p1 p2 (by rw[p3,G]) K
theorem A55 {N:Nat} {a b:List Nat} {n m:Nat} {t o t' o':Bool} {K:Nat→LA→O R} (hn:n=a.length) (C:m=b.length) (D:Al a) (F:Al b) (k:fit (a.length+b.length) N) :
  gG N (Ae a) n t o (Ae b) m t' o' K=K (Ar (val a*val b)).length (Ae (Ar (val a*val b))):=by
 subst hn C
 have G:=k.1;have I:=k.2
 rw[wV];unfold ou
 rw[wA (by omega),A64 (by omega),ct,Int.toNat_natCast,Db]
 exact Av1 D F k a.length 0 N (List.replicate (a.length+b.length) 0) (by omega) (by omega) (Cw _) (by simp) (by rw[Ei];simp[val]) K
end
end Gx

namespace Gx
open Go Go.Proofs
section
variable {R:Type}
theorem Age {N:Nat}:∀ (k fuel n v:Nat),v<2 ^ k→k<fuel→n+k≤1000000000000→∃ b:Nat,b≤k∧v<2 ^ b∧(v≠0→2 ^ b≤2*v)∧(v=0→b=0)∧∀ K:Int→O R,K3 N K fuel (n:Int) (v:Int)=K ((n+b:Nat):Int)
 | 0,fuel+1,n,v,D,_,_=>by
  have C:v=0:=by simpa using D
  subst C
  refine⟨0,by omega,by simp,fun h=>absurd rfl h,fun _=>rfl,fun K=>?_⟩
  rw[K3];unfold T7
  rw[show decide (((0:Nat):Int)>0)=false by rfl,cf];rfl
 | k+1,fuel+1,n,v,D,L,hn=>by
  by_cases C:v=0
  ·subst C
   refine⟨0,by omega,by simp,fun h=>absurd rfl h,fun _=>rfl,fun K=>?_⟩
   rw[K3];unfold T7
   rw[show decide (((0:Nat):Int)>0)=false by rfl,cf];rfl
  ·obtain⟨b,M,S,b3,G,I⟩:=Age (N:=N) k fuel (n+1) (v/2) (by rw[Nat.pow_succ] at D;omega) (by omega) (by omega)
   refine⟨b+1,by omega,by rw[Nat.pow_succ];omega,fun _=>?_,fun h=>absurd h C,fun K=>?_⟩
   ·by_cases F:v/2=0
    ·rw[G F];simp;omega
    ·have:=b3 F;rw[Nat.pow_succ];omega
   ·rw[K3];unfold T7
    rw[show decide (((v:Nat):Int)>0)=true by rw[decide_eq_true_eq];omega,ct,wS (by omega),T5 v 1,show v/2 ^ 1=v/2 by rfl,I]
    congr 2;omega
theorem A0m {N:Nat} {a:List Nat} {n:Nat} {t o:Bool} (hn:n=a.length) (G:Al a) (F:fit a.length N):∃ nb:Nat,nb≤32*a.length∧val a<2 ^ nb∧(val a≠0→2 ^ nb≤2*val a)∧(val a=0→nb=0)∧∀ K:Int→O R,NH N (Ae a) n t o K=K (nb:Int):=by
 have Y:=F.1;have h2:=F.2
 have la:=(Bt G).2
 by_cases D:val a=0
 ·refine⟨0,by omega,by rw[D];simp,fun h=>absurd D h,fun _=>rfl,fun K=>?_⟩
  rw[SI];unfold NG
  rw[Du hn G F,D,Eb];rfl
 ·have M:(Ar (val a)).length≠0:=fun h=>D (Bv.1 h)
  obtain⟨k,I⟩:∃ k,(Ar (val a)).length=k+1:=⟨(Ar (val a)).length - 1,by omega⟩
  have top:=Ba (Ad (val a)) (show k<(Ar (val a)).length by omega)
  have C:(Ar (val a))[k]'(by omega)≠0:=by
   have:=Abc (val a) (lC D)
   rw[List.getLast_eq_getElem] at this
   simp only[I,Nat.add_sub_cancel] at this
   exact this
  have tf:=OU I
  have tl:=TZ (Ad (val a)) I
  rw[Ak] at tf tl
  obtain⟨b,b1,S,b3,b4,T⟩:=Age (R:=R) (N:=N) 32 N (32*k) ((Ar (val a))[k]'(by omega)) (by exact top) (by omega) (by omega)
  have L:(2:Nat) ^ (32*k+b)=4294967296 ^ k*2 ^ b:=by rw[Nat.pow_add,Nat.pow_mul]
  refine⟨32*k+b,by omega,?_,fun _=>?_,fun h=>absurd h D,fun K=>?_⟩
  ·rw[L]
   have:((Ar (val a))[k]'(by omega)+1)*4294967296 ^ k≤2 ^ b*4294967296 ^ k:=Nat.mul_le_mul_right _ S
   rw[Nat.mul_comm (2 ^ b)] at this;omega
  ·rw[L]
   have:=Nat.mul_le_mul_left (4294967296 ^ k) (b3 C)
   rw[Nat.mul_left_comm] at this
   omega
  ·rw[SI];unfold NG
   have U:IntKind.wrap .i64 ((((Ar (val a)).length:Nat):Int) - 1)=((k:Nat):Int):=by rw[i64 (by omega)];omega
   have V:IntKind.wrap .i64 ((32:Int)*((k:Nat):Int))=((32*k:Nat):Int):=by rw[i64 (by omega)];omega
   rw[Du hn G F,Akk M,cf,U,Aa (by omega),ct,oF (by omega),V]
   exact T K
theorem Av2 {a:List Nat} {j:Nat} (h:j<a.length):val a=val (a.take j)+4294967296 ^ j*(a[j]+4294967296*val (a.drop (j+1))):=by
 have:=Sd (a.take j) (a.drop j)
 rw[List.take_append_drop,List.length_take,Nat.min_eq_left (by omega),d9 h] at this
 exact this
theorem tA (j k:Nat):(2:Nat) ^ (32*j+k)=4294967296 ^ j*2 ^ k:=by rw[Nat.pow_add,Nat.pow_mul]
theorem A97 {a:List Nat} {j k:Nat} (C:Al a) (h:j<a.length) (G:k<32):val a/2 ^ (32*j+k)%2=a[j]/2 ^ k%2:=by
 have tl:=Bk (Cq C j)
 rw[List.length_take,Nat.min_eq_left (by omega)] at tl
 have hP:0<4294967296 ^ j:=Nat.pow_pos (by omega)
 have D:0<2 ^ k:=Nat.pow_pos (by omega)
 rw[tA,←Nat.div_div_eq_div_mul,Av2 h,Nat.add_mul_div_left _ _ hP,Nat.div_eq_of_lt tl,Nat.zero_add]
 have e:4294967296=2 ^ k*(2*2 ^ (31 - k)):=by rw[←Nat.pow_succ',←Nat.pow_add,show k+(31 - k+1)=32 by omega]
 have F:4294967296*val (a.drop (j+1))=2 ^ k*(2*(2 ^ (31 - k)*val (a.drop (j+1)))):=by
  rw[←Nat.mul_assoc 2,←Nat.mul_assoc,←e]
 rw[F,Nat.add_mul_div_left _ _ D,Nat.add_mul_mod_self_left]
theorem A56 {N:Nat} {a:List Nat} {n:Nat} {t o:Bool} {i:Nat} {K:Int→O R} (hn:n=a.length) (F:Al a) (hi:i<32*a.length) (hs:a.length≤1000000000):n6 N (Ae a) n t o (i:Int) K=K ((val a/2 ^ i%2:Nat):Int):=by
 subst hn
 have C:i/32<a.length:=by omega
 have aj:=Ba F C
 rw[vM];unfold Abn
 have G:IntKind.wrap .i64 (Int.tdiv ((i:Nat):Int) 32)=((i/32:Nat):Int):=by rw[show(32:Int)=((32:Nat):Int) by rfl,jy,i64 (by omega)]
 have I:IntKind.wrap .u64 (Int.tmod ((i:Nat):Int) 32)=((i%32:Nat):Int):=by rw[show(32:Int)=((32:Nat):Int) by rfl,d8,Ja (by omega)]
 rw[G,I,show decide (((i/32:Nat):Int)≥((a.length:Nat):Int))=false by rw[decide_eq_false_iff_not];omega,cf,Aa C,ct,ZO C,show decide (((i%32:Nat):Int)<0)=false by rw[decide_eq_false_iff_not];omega,cf,Int.toNat_natCast,Nat.min_eq_left (by omega),T5]
 have D:a[i/32]/2 ^ (i%32)<4294967296:=Nat.lt_of_le_of_lt (Nat.div_le_self _ _) aj
 have e:=Ayx (k:=.u32) rfl (a:=a[i/32]/2 ^ (i%32)) (b:=1) D (by decide)
 rw[show(1:Int)=((1:Nat):Int) by rfl,e,Nat.and_one_is_mod]
 have:=A97 F C (k:=i%32) (by omega)
 rw[Nat.div_add_mod] at this
 rw[this]
theorem A78 {Q:List Nat} {j k:Nat} (hQ:Al Q) (h:j<Q.length) (F:k<32) (C:2 ^ (32*j+k+1)∣val Q):2 ^ (k+1)∣Q[j]:=by
 have tl:=Bk (Cq hQ j)
 rw[List.length_take,Nat.min_eq_left (by omega)] at tl
 have hP:0<4294967296 ^ j:=Nat.pow_pos (by omega)
 rw[Nat.add_assoc,tA,Av2 h] at C
 have D:val (Q.take j)=0:=by
  have x1:4294967296 ^ j∣val (Q.take j):=(Nat.dvd_add_left (Nat.dvd_mul_right _ _)).1 (Nat.dvd_trans (Nat.dvd_mul_right _ _) C)
  exact Nat.eq_zero_of_dvd_of_lt x1 tl
 rw[D,Nat.zero_add] at C
 have x2:=Nat.dvd_of_mul_dvd_mul_left hP C
 have x3:2 ^ (k+1)∣4294967296*val (Q.drop (j+1)):=Nat.dvd_trans ⟨2 ^ (31 - k),by rw[←Nat.pow_add,show k+1+(31 - k)=32 by omega]⟩ (Nat.dvd_mul_right _ _)
 exact(Nat.dvd_add_left x3).1 x2
theorem tB {N:Nat} {a b:List Nat} {t o:Bool} {B:Nat} (ha:Al a) (G:b=Ar B) (hB:0<B) (F:fit (a.length+2*b.length+4) N):∀ (i fuel:Nat) (Q:List Nat) (r:Nat),i<fuel→i≤32*a.length→Al Q→Q.length=a.length→r=val a/2 ^ i%B→val Q=val a/2 ^ i/B*2 ^ i →
  ∀ K:Nat→Nat→Bool→LA→LA→O R,Fs N K (Ae a) a.length t o b.length (Ae b) fuel (Ar r).length ((i:Int) - 1) (Ae Q) (Ae (Ar r))=K (Ar (val a/B)).length (Ar (val a%B)).length true (Ae (Ar (val a/B))) (Ae (Ar (val a%B)))
 | 0,fuel+1,Q,r,_,_,hQ,T,hr,I=>by
  intro K
  rw[Nat.pow_zero,Nat.div_one] at hr I
  rw[Nat.mul_one] at I
  have lr:(Ar r).length≤b.length:=by
   rw[G];apply B6;rw[hr];exact Nat.le_of_lt (Nat.mod_lt _ hB)
  rw[Fs];unfold T8
  rw[show decide ((((0:Nat):Int) - 1)≥0)=false by rfl,cf,Nat.mul_one,List.take_of_length_le (by rw[B4];omega),Du T.symm hQ (by rw[T];exact F.le (by omega)),Nat.mul_one,List.take_of_length_le (by rw[B4];omega),Du rfl (Ad _) (F.le (by omega)),Ak,I,hr]
 | i+1,fuel+1,Q,r,hfu,hi,hQ,T,hr,I=>by
  intro K
  have h1:=F.1;have h2:=F.2
  have hrB:r<B:=by rw[hr];exact Nat.mod_lt _ hB
  have lr:(Ar r).length≤b.length:=by rw[G];exact B6 (Nat.le_of_lt hrB)
  have D:val a/2 ^ i=2*(val a/2 ^ (i+1))+val a/2 ^ i%2:=by
   have:=Nat.div_add_mod (val a/2 ^ i) 2
   rw[Nat.div_div_eq_div_mul,←Nat.pow_succ] at this
   exact this.symm
  have hdm:=Nat.div_add_mod (val a/2 ^ (i+1)) B
  have hb2:val a/2 ^ i%2<2:=Nat.mod_lt _ (by omega)
  generalize hH:val a/2 ^ (i+1)=H at *
  generalize U:val a/2 ^ i%2=bt at *
  have C:val a/2 ^ i=B*(2*(H/B))+(2*r+bt):=by
   rw[D,hr,Nat.mul_left_comm];omega
  clear hr hdm D
  have V:i/32<Q.length:=by omega
  have qj:=Ba hQ V
  have Y:2 ^ (32*(i/32)+i%32+1)∣val Q:=by rw[Nat.div_add_mod,I];exact Nat.dvd_mul_left _ _
  have L:=A78 hQ V (Nat.mod_lt _ (by omega)) Y
  have hpw:2 ^ i=4294967296 ^ (i/32)*2 ^ (i%32):=by rw[←tA,Nat.div_add_mod]
  have hpk:2 ^ (i%32+1)≤4294967296:=(Nat.pow_le_pow_right (by omega) (show i%32+1≤32 by omega):2 ^ (i%32+1)≤2 ^ 32)
  have hor:Ta .u32 ((Q[i/32]:Nat):Int) (IntKind.wrap .u32 ((1:Int)*2 ^ (min (Int.toNat ((i%32:Nat):Int)) 32)))=((Q[i/32]+2 ^ (i%32):Nat):Int)∧Q[i/32]+2 ^ (i%32)<4294967296:=by
   obtain⟨c,hc⟩:=L
   have hpos:0<2 ^ (i%32):=Nat.pow_pos (by omega)
   have hlt:Q[i/32]+2 ^ (i%32)<4294967296:=by
    obtain⟨w,hw⟩:∃ w,4294967296=2 ^ (i%32+1)*w:=⟨2 ^ (31 - i%32),by rw[←Nat.pow_add,show i%32+1+(31 - i%32)=32 by omega]⟩
    have x1:c<w:=by rw[hc,hw] at qj;exact Nat.lt_of_mul_lt_mul_left qj
    have x2:=Nat.mul_le_mul_left (2 ^ (i%32+1)) (show c+1≤w from x1)
    rw[Nat.mul_add,←hw,←hc,Nat.mul_one,Nat.pow_succ] at x2
    omega
   refine⟨?_,hlt⟩
   rw[Int.toNat_natCast,Nat.min_eq_left (by omega),Int.one_mul,show(2:Int) ^ (i%32)=((2 ^ (i%32):Nat):Int) by simp,A2q (by rw[Nat.pow_succ] at hpk;omega),Al7 (k:=.u32) rfl qj (by show 2 ^ (i%32)<4294967296;rw[Nat.pow_succ] at hpk;omega)]
   congr 1
   have e:Q[i/32]=c*2 ^ (i%32+1):=by rw[hc,Nat.mul_comm]
   rw[e];exact sA (by rw[Nat.pow_succ];omega)
  have w1:IntKind.wrap .i64 (Int.tdiv ((i:Nat):Int) 32)=((i/32:Nat):Int):=by rw[show(32:Int)=((32:Nat):Int) by rfl,jy,i64 (by omega)]
  have w2:IntKind.wrap .u64 (Int.tmod ((i:Nat):Int) 32)=((i%32:Nat):Int):=by rw[show(32:Int)=((32:Nat):Int) by rfl,d8,Ja (by omega)]
  have l2:(Ar (2*r+bt)).length≤b.length+1:=by
   apply En
   have x1:=Bk (Ad B)
   rw[Ak,←G] at x1
   rw[Nat.pow_succ];omega
  have second:M7 N (Fs N K (Ae a) a.length t o b.length (Ae b) fuel) K (Ae a) a.length t o b.length ((i:Nat):Int) (Ae b) (Ae Q) (Ar (2*r+bt)).length (Ae (Ar (2*r+bt)))=K (Ar (val a/B)).length (Ar (val a%B)).length true (Ae (Ar (val a/B))) (Ae (Ar (val a%B))):=by
   unfold M7
   have lb:Al b:=by rw[G];exact Ad _
   have vb:val b=B:=by rw[G,Ak]
   rw[Nat.mul_one,Nat.mul_one,List.take_of_length_le (by rw[B4];omega),List.take_of_length_le (by rw[B4];omega),sy rfl rfl (Ad _) lb (F.le (by omega)),Ak,vb]
   by_cases hge:B≤2*r+bt
   ·have M:val a/2 ^ i/B=2*(H/B)+1:=by
     rw[C,show B*(2*(H/B))+(2*r+bt)=B*(2*(H/B)+1)+(2*r+bt - B) by rw[Nat.mul_add];omega,Nat.mul_add_div hB,Nat.div_eq_of_lt (show 2*r+bt - B<B by omega),Nat.add_zero]
    have S:val a/2 ^ i%B=2*r+bt - B:=by
     rw[C,show B*(2*(H/B))+(2*r+bt)=B*(2*(H/B)+1)+(2*r+bt - B) by rw[Nat.mul_add];omega,Nat.mul_add_mod,Nat.mod_eq_of_lt (by omega)]
    rw[if_pos hge,ct,w1,w2,Aa (by omega),ct,oF V,show decide (((i%32:Nat):Int)<0)=false by rw[decide_eq_false_iff_not];omega,cf,ct,Al1 V,ct,hor.1,cC,i64 (by omega)]
    refine tB ha G hB F i fuel (Q.set (i/32) (Q[i/32]+2 ^ (i%32))) (2*r+bt - B) (by omega) (by omega) (Cx hQ hor.2 _) (by simpa using T) S.symm ?_ K
    have x1:=p_ (v:=Q[i/32]+2 ^ (i%32)) V
    rw[Nat.mul_add,←hpw] at x1
    rw[M,Nat.add_mul,Nat.one_mul,Nat.mul_comm 2,Nat.mul_assoc,Nat.mul_comm 2,←Nat.pow_succ,←I]
    omega
   ·have M:val a/2 ^ i/B=2*(H/B):=by rw[C,Nat.mul_add_div hB,Nat.div_eq_of_lt (show 2*r+bt<B by omega),Nat.add_zero]
    have S:val a/2 ^ i%B=2*r+bt:=by rw[C,Nat.mul_add_mod,Nat.mod_eq_of_lt (by omega)]
    rw[if_neg hge,cf,i64 (by omega)]
    refine tB ha G hB F i fuel Q (2*r+bt) (by omega) (by omega) hQ T S.symm ?_ K
    rw[M,Nat.mul_comm 2,Nat.mul_assoc,Nat.mul_comm 2,←Nat.pow_succ,←I]
  rw[Fs];unfold T8
  rw[show(((i+1:Nat):Int) - 1)=((i:Nat):Int) by omega,show decide (((i:Nat):Int)≥0)=true by rw[decide_eq_true_eq];omega,ct,Nat.mul_one,List.take_of_length_le (by rw[B4];omega),sx rfl rfl (Ad _) (Ad _) (F.le (by omega)),Ak,A56 rfl ha (by omega) (by omega),U]
  have l3:(Ar (r+r)).length≤b.length+1:=by
   apply En
   have x1:=Bk (Ad B)
   rw[Ak,←G] at x1
   rw[Nat.pow_succ];omega
  rcases(show bt=0∨bt=1 by omega) with rfl | rfl
  ·rw[show(((0:Nat):Int)==1)=false by rfl,cf]
   rw[show 2*r+0=r+r by omega] at second
   exact second
  ·rw[show(((1:Nat):Int)==1)=true by rfl,ct,Nat.mul_one,List.take_of_length_le (by rw[B4];omega)]
   have:=sx (R:=R) (N:=N) (a:=Ar (r+r)) (b:=[1]) (n:=(Ar (r+r)).length) (m:=1) (t:=false) (o:=true) (t':=false) (o':=true) (K:=fun af ag=>M7 N (Fs N K (Ae a) a.length t o b.length (Ae b) fuel) K (Ae a) a.length t o b.length ((i:Nat):Int) (Ae b) (Ae Q) af ag) rfl rfl (Ad _) (by intro x hx;simp at hx;omega) (F.le (by simp;omega))
   rw[Ak,show val [1]=1 by rfl,show r+r+1=2*r+1 by omega] at this
   exact this.trans second
end
end Gx

namespace Gx
open Go Go.Proofs
section
variable {R:Type}
theorem T' {N:Nat} {a b:List Nat} {n m:Nat} {t o t' o':Bool} {K:Nat→Nat→Bool→LA→LA→O R} (hn:n=a.length) (V:m=b.length) (I:Al a) (S:Al b) (F:val b≠0) (D:fit (a.length+2*b.length+4) N) :
  Sh N (Ae a) n t o (Ae b) m t' o' K=K (Ar (val a/val b)).length (Ar (val a%val b)).length true (Ae (Ar (val a/val b))) (Ae (Ar (val a%val b))):=by
 have Y:=D.1;have h2:=D.2
 have lb:=(Bt S).2
 have L:(Ar (val b)).length≠0:=fun h=>F (Bv.1 h)
 rw[bD];unfold IB
 dsimp only
 have long:Qt N K (Ae a) n t o (Ar (val b)).length (Ae (Ar (val b)))=K (Ar (val a/val b)).length (Ar (val a%val b)).length true (Ae (Ar (val a/val b))) (Ae (Ar (val a%val b))):=by
  obtain⟨nb,n1,n2,n3,n4,n5⟩:=A0m (R:=R) (N:=N) (a:=a) (n:=n) (t:=false) (o:=o) hn I (D.le (by omega))
  unfold Qt EI
  dsimp only
  rw[n5,hn,A64 (by omega),ct,Db,i64 (by omega)]
  have U:val a/2 ^ nb=0:=Nat.div_eq_of_lt n2
  have:=tB (R:=R) (N:=N) (a:=a) (b:=Ar (val b)) (t:=t) (o:=o) (B:=val b) I rfl (by omega) (D.le (by omega)) nb N (List.replicate a.length 0) 0 (by omega) n1 (Cw _) (by simp) (by rw[U];simp) (by rw[U,Ei];simp) K
  exact this
 rw[Du V S (D.le (by omega)),Akk L,cf,T_ hn I (D.le (by omega)),Nat.mul_one,List.take_of_length_le (by rw[B4];exact Nat.le_refl _)]
 by_cases C:val a<18446744073709551616
 ·rw[if_pos C,T_ rfl (Ad _) (D.le (by omega)),Ak]
  by_cases k:val b<18446744073709551616
  ·have G:val a/val b<18446744073709551616:=Nat.lt_of_le_of_lt (Nat.div_le_self _ _) C
   have M:val a%val b<18446744073709551616:=Nat.lt_of_le_of_lt (Nat.mod_le _ _) C
   rw[if_pos k,show((true:Bool)==true)=true by rfl,ct,Au4,ct,Akk F,cf,jy,Ja G,KB G (by omega),cf,d8,KB M (by omega)]
  ·rw[if_neg k,show((true:Bool)==true)=true by rfl,ct,Au4,cf,long]
 ·rw[if_neg C,T_ rfl (Ad _) (D.le (by omega)),Ak]
  by_cases k:val b<18446744073709551616
  ·rw[if_pos k,show((false:Bool)==true)=false by rfl,cf,long]
  ·rw[if_neg k,show((false:Bool)==true)=false by rfl,cf,long]
theorem A57 {N:Nat}:∀ (k fuel A B:Nat),k<fuel→A*B<2 ^ k→B<A→fit (3*(Ar A).length+4) N→∀ K:Nat→LA→O R,Eo N K fuel (Ar A).length (Ar B).length (Ae (Ar A)) (Ae (Ar B))=K (Ar (Nat.gcd A B)).length (Ae (Ar (Nat.gcd A B))):=by
 have base:∀ (fuel A:Nat) (K:Nat→LA→O R),Eo N K (fuel+1) (Ar A).length (Ar 0).length (Ae (Ar A)) (Ae (Ar 0))=K (Ar (Nat.gcd A 0)).length (Ae (Ar (Nat.gcd A 0))):=by
  intro fuel A K
  rw[Eo];unfold Tc
  rw[Eb,show decide ((((([]:List Nat).length:Nat)):Int)>0)=false by decide,cf,Nat.gcd_zero_right]
 intro k
 induction k with
 | zero =>
  intro fuel A B I C D G K
  obtain⟨fuel,rfl⟩:∃ F,fuel=F+1:=⟨fuel - 1,by omega⟩
  have L:B=0:=by
   rcases Nat.eq_zero_or_pos B with h | h
   ·exact h
   ·have h3:=Nat.mul_le_mul_left A (show 1≤B by omega)
    rw[Nat.pow_zero] at C;omega
  subst L
  exact base fuel A K
 | succ k M =>
  intro fuel A B I C D G K
  have h1:=G.1;have h2:=G.2
  obtain⟨fuel,rfl⟩:∃ F,fuel=F+1:=⟨fuel - 1,by omega⟩
  rcases Nat.eq_zero_or_pos B with h | h
  ·subst h;exact base fuel A K
  have S:=B6 (Nat.le_of_lt D)
  have U:(Ar B).length≠0:=fun V=>by have:=Bv.1 V;omega
  have Y:=Nat.mod_lt A h
  have hh:=dq (show 1≤B by omega) (Nat.le_of_lt D)
  have:=M fuel B (A%B) (by omega) (by rw[Nat.pow_succ] at C;omega) Y (G.le (by omega)) K
  have hg:Nat.gcd B (A%B)=Nat.gcd A B:=by rw[Nat.gcd_comm,←Nat.gcd_rec,Nat.gcd_comm]
  rw[hg] at this
  rw[Eo];unfold Tc
  rw[show decide ((((Ar B).length:Nat):Int)>0)=true by rw[decide_eq_true_eq];omega,ct,Nat.mul_one,Nat.mul_one,List.take_of_length_le (by rw[B4];exact Nat.le_refl _),List.take_of_length_le (by rw[B4];exact Nat.le_refl _),T' rfl rfl (Ad _) (Ad _) (by rw[Ak];omega) (G.le (by omega)),Ak,Ak]
  exact this
theorem A58 {N:Nat} {a b:List Nat} {n m:Nat} {t o t' o':Bool} {K:Nat→LA→O R} (hn:n=a.length) (M:m=b.length) (D:Al a) (G:Al b) (C:fit (3*(a.length+b.length)+4) N) :
  ff N (Ae a) n t o (Ae b) m t' o' K=K (Ar (Nat.gcd (val a) (val b))).length (Ae (Ar (Nat.gcd (val a) (val b)))):=by
 have Y:=C.1;have h2:=C.2
 have la:=(Bt D).2
 have lb:=(Bt G).2
 have I:val a*val b<2 ^ (32*(a.length+b.length)):=by rw[←Avz];exact Nat.mul_lt_mul'' (Bk D) (Bk G)
 rw[vQ];unfold n9
 dsimp only
 rw[Du hn D (C.le (by omega)),Du M G (C.le (by omega))]
 obtain⟨F,hF⟩:∃ F,N=F+1:=⟨N - 1,by omega⟩
 rcases Nat.eq_zero_or_pos (val b) with h | h
 ·rw[h,Eb,Nat.gcd_zero_right,hF,Eo];unfold Tc
  rw[show decide ((((([]:List Nat).length:Nat)):Int)>0)=false by decide,cf]
 ·have L:=Nat.mod_lt (val a) h
  have S:(Ar (val b)).length≠0:=fun U=>by have:=Bv.1 U;omega
  have k:val b*(val a%val b)<2 ^ (32*(a.length+b.length)):=by
   have:val b*(val a%val b)≤val b*val a:=Nat.mul_le_mul_left _ (Nat.mod_le _ _)
   rw[Nat.mul_comm (val b) (val a)] at this;omega
  have:=A57 (R:=R) (N:=N) (32*(a.length+b.length)) F (val b) (val a%val b) (by omega) k L (C.le (by omega)) K
  have V:Nat.gcd (val b) (val a%val b)=Nat.gcd (val a) (val b):=by rw[Nat.gcd_comm,←Nat.gcd_rec,Nat.gcd_comm]
  rw[V] at this
  have e:Eo N K (F+1) (Ar (val a)).length (Ar (val b)).length (Ae (Ar (val a))) (Ae (Ar (val b)))=Eo N K F (Ar (val b)).length (Ar (val a%val b)).length (Ae (Ar (val b))) (Ae (Ar (val a%val b))):=by
   rw[Eo];unfold Tc
   rw[show decide ((((Ar (val b)).length:Nat):Int)>0)=true by rw[decide_eq_true_eq];omega,ct,Nat.mul_one,Nat.mul_one,List.take_of_length_le (by rw[B4];exact Nat.le_refl _),List.take_of_length_le (by rw[B4];exact Nat.le_refl _),T' rfl rfl (Ad _) (Ad _) (by rw[Ak];omega) (C.le (by omega)),Ak,Ak]
  conv=>lhs;rw[show(Eo N K N)=Eo N K (F+1) by rw[←hF]]
  rw[e];exact this
end
end Gx

namespace Gx
open Go Go.Proofs
section
variable {R:Type}
inductive LS where
 | nil
 | of (l:List Nat) (t o:Bool)
def LS.l:LS→List Nat
 | .nil=>[]
 | .of l _ _=>l
def LS.av:LS→AV
 | .nil=>.nsl
 | .of l t o=>.imm (Ae l) l.length 1 t o
theorem A0n {s:LS} {r:LA} {f:LA→Nat→O R}:Co 1 (s.av::r) f=f (Ae s.l) s.l.length:=by
 cases s<;>simp[Co,LS.av,LS.l,A3v,Ae]
theorem Bbm {b:Bool} {r:LA} {f:Bool→O R}:NC (.bool b::r) f=f b:=by simp[NC,asBool]
def Kv (neg:Bool) (s:LS):LA:=[.bool neg,s.av]
def A2 (neg:Bool) (s:LS):Int:=if neg then -(val s.l:Int) else (val s.l:Int)
theorem Cz (neg:Bool) (s:LS):(A2 neg s).natAbs=val s.l:=by unfold A2;cases neg<;>simp
theorem Us {neg:Bool} {s:LS} {f:Bool→O R}:NC (Kv neg s) f=f neg:=Bbm
theorem Qk {neg:Bool} {s:LS} {f:LA→Nat→O R}:Co 1 (List.drop 1 (Kv neg s)) f=f (Ae s.l) s.l.length:=by rw[Kv,List.drop_succ_cons,List.drop_zero,A0n]
theorem On {N:Nat} {c:Bool} {a:Nat} {b:LA} {K:Bool→O R}:J9 N c a b K=K (c&&decide (0<a)):=by
 rw[i7];unfold lK
 cases c<;>simp
theorem DM {z:Int} {c:Bool} {m:Nat} (h:z=if c then -(m:Int) else (m:Int)):(c&&decide (0<(Ar m).length))=decide (z<0)∧z.natAbs=m:=by
 have D:z.natAbs=m:=by rw[h];cases c<;>simp
 refine⟨?_,D⟩
 by_cases C:m=0
 ·subst C;rw[h,Eb];cases c<;>simp
 ·have:0<(Ar m).length:=by
   rcases Nat.eq_zero_or_pos (Ar m).length with k | k
   ·exact absurd (Bv.1 k) C
   ·exact k
  rw[h];cases c<;>simp[this]<;>omega
theorem Akm {N:Nat} {v:Int} (G:-9223372036854775808≤v∧v≤9223372036854775807) (hN:4≤N):∃ S,Al S∧val S=v.natAbs∧∀ K:Bool→Nat→LA→O R,EL N v K=K (decide (v<0)) (Ar v.natAbs).length (Ae S):=by
 have D:v.natAbs<18446744073709551616:=by omega
 obtain⟨S,s1,s2,C⟩:=Lq (R:=R) (N:=N) D hN
 refine⟨S,s1,s2,fun K=>?_⟩
 rw[bM];unfold bL
 by_cases h:v<0
 ·have e:IntKind.wrap .u64 ((0:Int) - IntKind.wrap .u64 v)=(v.natAbs:Int):=by rw[lE,lE];omega
  rw[decide_eq_true h,ct,e,C,On]
  have F:v.natAbs≠0:=by omega
  have:0<(Ar v.natAbs).length:=by
   rcases Nat.eq_zero_or_pos (Ar v.natAbs).length with k | k
   ·exact absurd (Bv.1 k) F
   ·exact k
  simp[this]
 ·have e:IntKind.wrap .u64 v=(v.natAbs:Int):=by rw[lE];omega
  rw[decide_eq_false h,cf,e,C,On];rfl
theorem mG {N:Nat} {neg:Bool} {s:LS} {o:Bool} {K:Int→O R} (hs:Al s.l) (k:fit s.l.length N):SP N (Kv neg s) o K=K (A2 neg s).sign:=by
 rw[va];unfold Acs
 rw[Qk,Af8 rfl hs k]
 unfold A2
 by_cases h:val s.l=0
 ·rw[h,DK,show((0:Int)==0)=true by rfl,ct];cases neg<;>rfl
 ·have:H9 (val s.l) 0=1:=by unfold H9;rw[if_neg (by omega),if_pos (by omega)]
  rw[this,show((1:Int)==0)=false by rfl,cf,Us]
  cases neg
  ·rw[cf];simp only[Bool.false_eq_true,if_false]
   congr 1
   rw[Int.sign_eq_one_of_pos];omega
  ·rw[ct];simp only[if_true]
   congr 1
   rw[Int.sign_eq_neg_one_of_neg];omega
theorem OV {N:Nat} {n1 n2:Bool} {s1 s2:LS} {o1 o2:Bool} (C:Al s1.l) (D:Al s2.l) (F:fit (s1.l.length+s2.l.length) N):∃ S,Al S∧val S=(A2 n1 s1*A2 n2 s2).natAbs∧∀ K:Bool→Nat→LA→O R,SV N (Kv n1 s1) o1 (Kv n2 s2) o2 K=K (decide (A2 n1 s1*A2 n2 s2<0)) (Ar (A2 n1 s1*A2 n2 s2).natAbs).length (Ae S):=by
 obtain⟨S,a1,a2,a3⟩:=d7 (R:=R) (N:=N) (a:=s1.l) (b:=s2.l) (t:=false) (o:=o1) (t':=false) (o':=o2) rfl rfl C D F
 have G:A2 n1 s1*A2 n2 s2=if (!(n1==n2)) then -((val s1.l*val s2.l:Nat):Int) else ((val s1.l*val s2.l:Nat):Int):=by
  unfold A2;cases n1<;>cases n2<;>simp[Int.mul_neg,Int.neg_mul]
 obtain⟨c1,k⟩:=DM G
 refine⟨S,a1,by rw[a2,k],fun K=>?_⟩
 rw[Ac9];unfold Aqf
 rw[Us,Us,Qk,Qk,a3,On,c1,k]
theorem An2 {N:Nat} {n1 n2:Bool} {s1 s2:LS} {o1 o2:Bool} (F:Al s1.l) (G:Al s2.l) (I:fit (s1.l.length+s2.l.length+1) N):∃ S,Al S∧val S=(A2 n1 s1+A2 n2 s2).natAbs∧∀ K:Bool→Nat→LA→O R,sh N (Kv n1 s1) o1 (Kv n2 s2) o2 K=K (decide (A2 n1 s1+A2 n2 s2<0)) (Ar (A2 n1 s1+A2 n2 s2).natAbs).length (Ae S):=by
 by_cases hn:n1=n2
 ·subst hn
  obtain⟨S,a1,a2,a3⟩:=A7v (R:=R) (N:=N) (a:=s1.l) (b:=s2.l) (t:=false) (o:=o1) (t':=false) (o':=o2) rfl rfl F G I
  have C:A2 n1 s1+A2 n1 s2=if n1 then -((val s1.l+val s2.l:Nat):Int) else ((val s1.l+val s2.l:Nat):Int):=by
   unfold A2;cases n1<;>simp;omega
  obtain⟨c1,k⟩:=DM C
  refine⟨S,a1,by rw[a2,k],fun K=>?_⟩
  rw[TF];unfold oi
  rw[Us,Us,show(n1==n1)=true by simp,ct,Us,Qk,Qk,a3,On,c1,k]
 ·have D:(n1==n2)=false:=by simp[hn]
  by_cases L:val s2.l≤val s1.l
  ·obtain⟨S,a1,a2,a3⟩:=Agb (R:=R) (N:=N) (a:=s1.l) (b:=s2.l) (t:=false) (o:=o1) (t':=false) (o':=o2) rfl rfl F G (I.le (by omega)) L
   have C:A2 n1 s1+A2 n2 s2=if n1 then -((val s1.l - val s2.l:Nat):Int) else ((val s1.l - val s2.l:Nat):Int):=by
    unfold A2;cases n1<;>cases n2<;>simp at hn ⊢<;>omega
   obtain⟨c1,k⟩:=DM C
   refine⟨S,a1,by rw[a2,k],fun K=>?_⟩
   rw[TF];unfold oi
   rw[Us,Us,D,cf,Qk,Qk,a3,ct,Us,On,c1,k]
  ·obtain⟨S,a1,a2,a3⟩:=Agb (R:=R) (N:=N) (a:=s2.l) (b:=s1.l) (t:=false) (o:=o2) (t':=false) (o':=o1) rfl rfl G F (I.le (by omega)) (by omega)
   have C:A2 n1 s1+A2 n2 s2=if n2 then -((val s2.l - val s1.l:Nat):Int) else ((val s2.l - val s1.l:Nat):Int):=by
    unfold A2;cases n1<;>cases n2<;>simp at hn ⊢<;>omega
   obtain⟨c1,k⟩:=DM C
   refine⟨S,a1,by rw[a2,k],fun K=>?_⟩
   rw[TF];unfold oi
   rw[Us,Us,D,cf,Qk,Qk,A7w rfl rfl F G (I.le (by omega)) (by omega),cf,Qk,Qk,a3,Us,On,c1,k]
theorem A0o {N:Nat} {n1:Bool} {s1:LS} {o1:Bool} {K:Bool→Nat→LA→O R} (k:Al s1.l) (C:fit s1.l.length N):oQ N (Kv n1 s1) o1 K=K (decide (A2 n1 s1<0)) (Ar (A2 n1 s1).natAbs).length (Ae (Ar (A2 n1 s1).natAbs)):=by
 obtain⟨c1,D⟩:=DM (z:=A2 n1 s1) (c:=n1) (m:=val s1.l) (by unfold A2;cases n1<;>simp)
 rw[wI];unfold Adq
 rw[Us,Qk,gK rfl k C,On,c1,D]
def pf (x y:Int):Int:=if x<y then -1 else if y<x then 1 else 0
theorem A79 (x y:Nat):pf (x:Int) (y:Int)=H9 x y:=by unfold pf H9;simp
theorem A8a (x y:Nat):pf (-(x:Int)) (-(y:Int))=H9 y x:=by
 unfold pf H9
 by_cases h:y<x
 ·rw[if_pos (by omega),if_pos h]
 ·rw[if_neg (by omega),if_neg h]
  by_cases k:x<y
  ·rw[if_pos (by omega),if_pos k]
  ·rw[if_neg (by omega),if_neg k]
theorem Akn {N:Nat} {n1 n2:Bool} {s1 s2:LS} {o1 o2:Bool} {K:Int→O R} (D:Al s1.l) (F:Al s2.l) (C:fit (s1.l.length+s2.l.length) N):EZ N (Kv n1 s1) o1 (Kv n2 s2) o2 K=K (pf (A2 n1 s1) (A2 n2 s2)):=by
 rw[bZ];unfold bY
 have l2:∀ n s,List.take 2 (Kv n s)=Kv n s:=fun n s=>rfl
 have l3:∀ n s,Nat.ble 2 (List.length (Kv n s))=true:=fun n s=>rfl
 rw[l2,l2,l3,l3,ct,mG D (C.le (by omega)),ct,mG F (C.le (by omega))]
 have sg:∀ z:Int,z.sign=if z<0 then -1 else if 0<z then 1 else 0:=by
  intro z
  rcases Int.lt_trichotomy z 0 with h | h | h
  ·rw[Int.sign_eq_neg_one_of_neg h,if_pos h]
  ·subst h;rfl
  ·rw[Int.sign_eq_one_of_pos h,if_neg (by omega),if_pos h]
 by_cases c1:(A2 n1 s1).sign<(A2 n2 s2).sign
 ·rw[decide_eq_true c1,ct]
  rw[sg,sg] at c1
  unfold pf;rw[if_pos]
  split at c1<;>split at c1<;>(try split at c1)<;>(try split at c1)<;>omega
 ·rw[decide_eq_false c1,cf]
  by_cases k:(A2 n1 s1).sign>(A2 n2 s2).sign
  ·rw[decide_eq_true k,ct]
   rw[sg,sg] at k
   unfold pf;rw[if_neg,if_pos]
   ·split at k<;>split at k<;>(try split at k)<;>(try split at k)<;>omega
   ·split at k<;>split at k<;>(try split at k)<;>(try split at k)<;>omega
  ·rw[decide_eq_false k,cf]
   have I:(A2 n1 s1).sign=(A2 n2 s2).sign:=by omega
   by_cases c3:(A2 n1 s1).sign<0
   ·rw[decide_eq_true c3,ct,Qk,Qk,Tm rfl rfl F D (C.le (by omega))]
    have p1:A2 n1 s1<0:=by rw[sg] at c3;split at c3;assumption;split at c3<;>omega
    have p2:A2 n2 s2<0:=by rw[I,sg] at c3;split at c3;assumption;split at c3<;>omega
    have e1:A2 n1 s1=-(val s1.l:Int):=by unfold A2 at p1 ⊢;cases n1<;>simp at p1 ⊢;omega
    have G:A2 n2 s2=-(val s2.l:Int):=by unfold A2 at p2 ⊢;cases n2<;>simp at p2 ⊢;omega
    rw[e1,G,A8a]
   ·rw[decide_eq_false c3,cf,Qk,Qk,Tm rfl rfl D F (C.le (by omega))]
    have p1:0≤A2 n1 s1:=by
     apply Int.not_lt.1;intro h;rw[Int.sign_eq_neg_one_of_neg h] at c3;omega
    have p2:0≤A2 n2 s2:=by
     apply Int.not_lt.1;intro h;rw[I,Int.sign_eq_neg_one_of_neg h] at c3;omega
    have e1:A2 n1 s1=(val s1.l:Int):=by have:=Cz n1 s1;omega
    have G:A2 n2 s2=(val s2.l:Int):=by have:=Cz n2 s2;omega
    rw[e1,G,A79]
end
end Gx
