/- A part of the proof; each theorem says what it holds. -/
import Derived.Shelf.Sort.Plain
import Derived.Test.YtihjnfhdmgipmaaGreatP1
set_option linter.unusedVariables false
set_option linter.defProp false
set_option linter.unusedSimpArgs false
open Nat (ble beq)
open List (take drop replicate)
open Go.IntKind (wrap)
namespace Gx
open Go Go.Proofs
set_option maxRecDepth 100000
noncomputable section
variable{R:Type}(N:Nat)
def Im(r0:Nat->Nat->LA->LA->O R)(c:Int)(a b:Nat)(d:LA)(k0:Nat->Int->Int->Int->Int->LA->LA->O R)(s:Nat)(h g t f:Int)(r u:LA):O R:=(cond (decide (f<t)) (cond ((decide (0<=(wrap .i64 ((wrap .i64 (g - 1)) - f))))&&((decide ((wrap .i64 ((wrap .i64 (g - 1)) - f))<=(wrap .i64 ((wrap .i64 ((wrap .i64 ((wrap .i64 (g - 1)) - f))+h))+1))))&&((decide ((wrap .i64 ((wrap .i64 ((wrap .i64 ((wrap .i64 (g - 1)) - f))+h))+1))<=(b:Int)))&&(decide ((b:Int)<=(b:Int)))))) (Jv N (0+(((wrap .i64 ((wrap .i64 (g - 1)) - f)).toNat)*1)) (((wrap .i64 ((wrap .i64 ((wrap .i64 ((wrap .i64 (g - 1)) - f))+h))+1)).toNat) - ((wrap .i64 ((wrap .i64 (g - 1)) - f)).toNat)) (d.take (a*1)) a false true u fun w x=>cond (Ab (wrap .i64 ((wrap .i64 (g - 1)) - f)) s) (cond ((beq 1 1)&&((ble ((0+(((wrap .i64 ((wrap .i64 (g - 1)) - f)).toNat)*1))+1) r.length)&&(!false))) (k0 s h g t (wrap .i64 (f+1)) (r.set (0+(((wrap .i64 ((wrap .i64 (g - 1)) - f)).toNat)*1)) (.int .u32 w)) x) none) none) none) (cond ((decide ((0:Int)<=(0:Int)))&&((decide (0<=h))&&((decide (h<=(b:Int)))&&(decide ((b:Int)<=(b:Int)))))) (Kh N (u.take (h.toNat*1)) h.toNat false true c fun y ad z=>Rz N s r fun aa=>r0 aa y r z) none))
def C7(r0:Nat->Nat->LA->LA->O R)(c:Int)(a b:Nat)(d:LA):Nat->Nat->Int->Int->Int->Int->LA->LA->O R
|0=>fun _ _ _ _ _ _ _=>none
|n+1=>Im N r0 c a b d (C7 r0 c a b d n)
def Ly(r0:Nat->Nat->LA->LA->O R)(q0:Int->Nat->LA->Nat->Int->Int->Int->Int->LA->LA->O R)(j:LA)(l:Nat)(p m:Bool)(i:LA)(a:Nat)(q o:Bool):O R:=(cond (Ab (wrap .i64 ((a:Int) - 1)) a) (Am .u32 (i.drop (((wrap .i64 ((a:Int) - 1)).toNat)*1)) fun ab=>Bx N ab fun c=>Ni N i a false o c fun v d=>cond ((decide ((0:Int)<=(0:Int)))&&((decide (0<=(a:Int)))&&((decide ((a:Int)<=(v:Int)))&&(decide ((v:Int)<=(v:Int)))))) (Ni N j l false m c fun b ac=>cond ((decide (0<=(wrap .i64 ((b:Int) - (a:Int)))))&&((decide ((wrap .i64 ((b:Int) - (a:Int)))<=(wrap .i64 ((b:Int) - (a:Int)))))&&((decide ((wrap .i64 ((b:Int) - (a:Int)))<=140737488355328))&&(decide (((wrap .i64 ((b:Int) - (a:Int)))*((4:Nat):Int))<=140737488355328))))) (q0 c b d ((wrap .i64 ((b:Int) - (a:Int))).toNat) (a:Int) (wrap .i64 ((b:Int) - (a:Int))) (wrap .i64 ((b:Int) - (a:Int))) 0 (replicate ((wrap .i64 ((b:Int) - (a:Int))).toNat) (.int .u32 0)) ac) none) none) none)
def Ib:=(Ak fun N j l p m i a q o r0=>Ly (R:=R) N r0 (fun c b d=>C7 N r0 c a b d N) j l p m i a q o).1
def T8(j l p m i a q o r0):(@Ib R N j l p m i a q o r0)=(Ly N r0 (fun c b d=>C7 N r0 c a b d N) j l p m i a q o):=by rw[Ib,(Ak _).2]
def We:Hints:={H:=hK 7 (hS (hK 1 (hS (hP [4,6,7,8,9,10,35,36] hL) hL)) hL),nils:=[(4,1),(5,1)],modes:=[(2,1),(2,1)]}
def Zz:Vc:=[I3 N,ff N,WQ N,TA N,KG N]
def OR(F:KF R):=Mp Tryz.f228 We (Zz N) [] N F
def OS(c:Int)(a b:Nat)(d:LA)(K:St->O R):=fun s h g t f r u=>K ⟨[(4,Ahf 0 s),(6,iv h),(7,iv c),(8,Ahf 1 a),(9,Ahf 2 b),(10,iv g),(35,iv t),(36,iv f)],hq [bQ 1 r,bQ 1 d,bQ 1 u]⟩
def EV(F:KF R)(c a b d):∀ n,OS c a b d (A3 (OR N F (pz 1398084) []) n)=(C7 N (RE F) c a b d n):=Mo fun n e=>(Dw (Im N (RE F) c a b d) e:_)
def TB:=Dm N 228 (Zz N) We (fun
|[.imm j l 1 p m,.imm i a 1 q o],[]=>some fun _ k=>Ib N j l p m i a q o (RE k)
| _,_=>none) fun _ _=>by split;intro R F;exact(Dw (Ly N (RE F) · _ _ _ _ _ _ _ _) (uF fun c b d=>(lW ..).trans (EV ..)):_).trans (T8 ..).symm;trivial
def ID(h:LA)(i:Nat)(j a:Bool)(l:LA)(m:Nat)(n b:Bool)(r0:Nat->Nat->Bool->LA->LA->O R):O R:=(B9 N h i j a fun e c=>B9 N l m n b fun f d=>cond ((d:Int)==0) (r0 0 0 false [] []) (Dc N e c false a f d false b fun p=>cond (decide (p<0)) (T0 N e c false a fun q r=>r0 0 q true [] r) (cond (decide ((c:Int)<=2)) (Lq N e c false a fun o=>Lq N f d false b fun g=>cond (g==0) none (Bn N (wrap .u64 (Int.tdiv o g)) fun s t=>cond (g==0) none (Bn N (Int.tmod o g) fun u v=>r0 s u true t v))) (cond ((d:Int)==1) (cond (Ab 0 d) (Am .u32 f fun w=>Ft N e c false a w fun x y z aa=>r0 x y true z aa) none) (Ib N e c false a f d false b fun ab ac ad ae=>r0 ab ac true ad ae)))))
def Ej:=(Ak (@ID R)).1
def GA:@Ej R=@ID R:=(Ak _).2
def RM:=Dm N 184 [Iz N,Hu N,EE N,OC N,Fs N,KQ N,TB N] { H:=hL,nils:=[(4,1),(5,1)],modes:=[(2,1),(2,1),(0,0)] } (fun
|[.imm h i 1 j a,.imm l m 1 n b],[]=>some fun _ k=>Ej N h i j a l m n b (RF k)
| _,_=>none) fun _ _=>by split;intro R F;dsimp only;rw[GA];kernel_rfl;trivial
def Sc(r0:Nat->Bool->LA->O R)(f:LA)(d:Nat)(b:Bool)(a:Nat)(g:LA)(c:Bool)(k0:Int->Int->Int->LA->O R)(r s h:Int)(i:LA):O R:=(cond (decide (h<s)) (cond (Ab h a) (Am .u32 (g.drop (h.toNat*1)) fun t=>cond (decide (h<(d:Int))) (cond (Ab h d) (Am .u32 (f.drop (h.toNat*1)) fun u=>cond (Ab h a) (cond ((beq 1 1)&&((ble ((0+(h.toNat*1))+1) i.length)&&(!false))) (k0 (Int.fdiv (wrap .u64 ((wrap .u64 ((wrap .u64 t) - r)) - (wrap .u64 u))) (2 ^ 63)) s (wrap .i64 (h+1)) (i.set (0+(h.toNat*1)) (.int .u32 (wrap .u32 (wrap .u64 ((wrap .u64 ((wrap .u64 t) - r)) - (wrap .u64 u))))))) none) none) none) (cond (Ab h a) (cond ((beq 1 1)&&((ble ((0+(h.toNat*1))+1) i.length)&&(!false))) (k0 (Int.fdiv (wrap .u64 ((wrap .u64 t) - r)) (2 ^ 63)) s (wrap .i64 (h+1)) (i.set (0+(h.toNat*1)) (.int .u32 (wrap .u32 (wrap .u64 ((wrap .u64 t) - r)))))) none) none)) none) (Rz N a i fun v=>r0 v true i))
def K6(r0:Nat->Bool->LA->O R)(f:LA)(d:Nat)(b:Bool)(a:Nat)(g:LA)(c:Bool):Nat->Int->Int->Int->LA->O R
|0=>fun _ _ _ _=>none
|n+1=>Sc N r0 f d b a g c (K6 r0 f d b a g c n)
def KS(r0:Nat->Bool->LA->O R)(q0:LA->Nat->Nat->LA->Int->Int->Int->LA->O R)(j:LA)(l:Nat)(m c:Bool)(o:LA)(p:Nat)(q b:Bool):O R:=(B9 N j l m c fun g a=>B9 N o p q b fun f d=>Dc N g a false c f d false b fun w=>cond (decide (w<0)) (r0 0 false []) (cond ((decide (0<=(a:Int)))&&((decide ((a:Int)<=(a:Int)))&&((decide ((a:Int)<=140737488355328))&&(decide (((a:Int)*((4:Nat):Int))<=140737488355328))))) (q0 f d a g 0 (a:Int) 0 (replicate a (.int .u32 0))) none))
def CD:=(Ak fun N j l m c o p q b r0=>KS (R:=R) N r0 (fun f d a g=>K6 N r0 f d b a g c N) j l m c o p q b).1
def IE(j l m c o p q b r0):(@CD R N j l m c o p q b r0)=(KS N r0 (fun f d a g=>K6 N r0 f d b a g c N) j l m c o p q b):=by rw[CD,(Ak _).2]
def cH:Hints:={H:=hK 5 (hS (hK 1 (hS (hP [1,6,7,22,23,24] hL) hL)) hL),nils:=[(4,1)],modes:=[(2,1),(0,0)]}
def jV:Vc:=[E7 N,Hu N]
def oJ(F:KF R):=Mp Tryz.f186 cH (jV N) [] N F
def oK(f:LA)(d:Nat)(b:Bool)(a:Nat)(g:LA)(c:Bool)(K:St->O R):=fun r s h i=>K ⟨[(1,.imm f d 1 false b),(6,Ahf 0 a),(7,.int .u64 r),(22,.imm g a 1 false c),(23,iv s),(24,iv h)],hq [bQ 1 i]⟩
def fk(F:KF R)(f d b a g c):∀ n,oK f d b a g c (A3 (oJ N F (pz 87364) []) n)=(K6 N (N' F) f d b a g c n):=Mo fun n e=>(Dw (Sc N (N' F) f d b a g c) e:_)
def jX:=Dm N 186 (jV N) cH (fun
|[.imm j l 1 m c,.imm o p 1 q b],[]=>some fun _ k=>CD N j l m c o p q b (N' k)
| _,_=>none) fun _ _=>by split;intro R F;exact(Dw (KS N (N' F) · _ _ _ _ _ _ _ _) (rz fun f d a g=>(lW ..).trans (fk ..)):_).trans (IE ..).symm;trivial
def CE(a:LA)(b:Nat)(i c:Bool)(d:Int)(e:LA)(f:Nat)(j g:Bool)(h:Int)(r0:Nat->LA->O R):O R:=(Bn N d fun l p=>X2 N a b false c (p.take (l*1)) l false true fun m q=>Bn N h fun n r=>X2 N e f false g (r.take (n*1)) n false true fun o s=>CD N (q.take (m*1)) m false true (s.take (o*1)) o false true fun t v u=>r0 t u)
def Fk:=(Ak (@CE R)).1
def CF:@Fk R=@CE R:=(Ak _).2
def fm:=Dm N 226 [Fs N,KM N,jX N] { H:=hL,nils:=[(8,1)],modes:=[(2,1)] } (fun
|[.imm a b 1 i c,.int .u64 d,.imm e f 1 j g,.int .u64 h],[]=>some fun _ k=>Fk N a b i c d e f j g h (Ga k)
| _,_=>none) fun _ _=>by split;intro R F;dsimp only;rw[CF];kernel_rfl;trivial
def X6(k1:LA->Nat->Bool->LA->Nat->Bool->O R)(r0:Nat->LA->O R)(k2:Int->Int->O R)(z s:Int):O R:=(cond (s != 0) (cond (s==0) none (k2 s (Int.tmod z s))) (Bn N z fun aj ak=>r0 aj ak))
def K7(k1:LA->Nat->Bool->LA->Nat->Bool->O R)(r0:Nat->LA->O R):Nat->Int->Int->O R
|0=>fun _ _=>none
|n+1=>X6 N k1 r0 (K7 k1 r0 n)
def Sd(r0:Nat->LA->O R)(k1:LA->Nat->Bool->LA->Nat->Bool->O R)(q2:Int->Int->O R)(g:LA)(a:Nat)(h:Bool)(i:LA)(b:Nat)(j:Bool):O R:=(cond (decide ((b:Int)>0)) (cond (decide ((a:Int)<=2)) (Lq N g a false h fun al=>Lq N i b false j fun am=>q2 al am) (R9 N g a false h i b false j fun c=>cond ((beq c.length 5)&&((ble 5 5)&&(!false))) (Am .u64 ((setCells [.int .u64 0,.int .u64 0,.int .u64 0,.int .u64 0,.bool false] 0 c).drop 2) fun an=>cond (an==0) (Ej N g a false h i b false j fun bh ae bi bj ao=>k1 i b j (ao.take (ae*1)) ae false) (Zu ((setCells [.int .u64 0,.int .u64 0,.int .u64 0,.int .u64 0,.bool false] 0 c).drop 4) fun ap=>cond ap (Am .u64 (setCells [.int .u64 0,.int .u64 0,.int .u64 0,.int .u64 0,.bool false] 0 c) fun aq=>Am .u64 ((setCells [.int .u64 0,.int .u64 0,.int .u64 0,.int .u64 0,.bool false] 0 c).drop 2) fun ar=>Fk N g a false h aq i b false j ar fun af au=>Am .u64 ((setCells [.int .u64 0,.int .u64 0,.int .u64 0,.int .u64 0,.bool false] 0 c).drop 3) fun av=>Am .u64 ((setCells [.int .u64 0,.int .u64 0,.int .u64 0,.int .u64 0,.bool false] 0 c).drop 1) fun aw=>Fk N i b false j av g a false h aw fun ag ax=>k1 (au.take (af*1)) af false (ax.take (ag*1)) ag false) (Am .u64 ((setCells [.int .u64 0,.int .u64 0,.int .u64 0,.int .u64 0,.bool false] 0 c).drop 2) fun ay=>Am .u64 (setCells [.int .u64 0,.int .u64 0,.int .u64 0,.int .u64 0,.bool false] 0 c) fun az=>Fk N i b false j ay g a false h az fun ah ba=>Am .u64 ((setCells [.int .u64 0,.int .u64 0,.int .u64 0,.int .u64 0,.bool false] 0 c).drop 1) fun bb=>Am .u64 ((setCells [.int .u64 0,.int .u64 0,.int .u64 0,.int .u64 0,.bool false] 0 c).drop 3) fun bc=>Fk N g a false h bb i b false j bc fun ai bd=>k1 (ba.take (ah*1)) ah false (bd.take (ai*1)) ai false))) none)) (T0 N g a false h fun be bf=>r0 be bf))
def Dz(r0:Nat->LA->O R):Nat->LA->Nat->Bool->LA->Nat->Bool->O R
|0=>fun _ _ _ _ _ _=>none
|n+1=>Sd N r0 (Dz r0 n) (K7 N (Dz r0 n) r0 N)
def IF(N:Nat)(r0:Nat->LA->O R)(q1:LA->Nat->Bool->LA->Nat->Bool->O R)(t:LA)(u:Nat)(v:Bool)(w:LA)(x:Nat)(y:Bool):O R:=(q1 t u v w x y)
def EG(r0:Nat->LA->O R)(t:LA)(u:Nat)(v:Bool)(w:LA)(x:Nat)(y:Bool):O R:=IF N r0 (Dz N r0 N) t u v w x y
def UE(r0:Nat->LA->O R)(q0:LA->Nat->Bool->LA->Nat->Bool->O R)(l:LA)(m:Nat)(o d:Bool)(p:LA)(q:Nat)(r f:Bool):O R:=(B9 N l m o d fun aa ab=>B9 N p q r f fun ac ad=>Dc N aa ab false d ac ad false f fun bg=>cond (decide (bg<0)) (q0 ac ad f aa ab d) (q0 aa ab d ac ad f))
def IG:=(Ak fun N l m o d p q r f r0=>UE (R:=R) N r0 (EG N r0) l m o d p q r f).1
def WT(l m o d p q r f r0):(@IG R N l m o d p q r f r0)=(UE N r0 (EG N r0) l m o d p q r f):=by rw[IG,(Ak _).2]
def cI:Hints:={H:=hK 2 (hJ [0,1] hL (hS (hS (hP [0,1] (hK 1 (hS (hS (hK 1 (hS (hK 1 (hS (hS (hP [5,6] hL) hL) hL)) hL)) hL) hL))) hL) hL)),nils:=[(0,1000001),(1,1000001)],modes:=[(2,1)]}
def jY:Vc:=[Iz N,Hu N,OC N,f_ N,RM N,fm N,EE N,Fs N]
def OT(F:KF R):=Mp Tryz.f183 cI (jY N) [] N F
def oM(K:St->O R):=fun z s=>K ⟨[(5,.int .u64 z),(6,.int .u64 s)],[]⟩
def OU(K:St->O R):=fun g a h i b j=>K ⟨[(0,.imm g a 1 false h),(1,.imm i b 1 false j)],[]⟩
def oN(K:St->O R):=fun t u v w x y=>K ⟨[(0,.imm t u 1 false v),(1,.imm w x 1 false y)],[]⟩
def fq Q1 (F:KF R):∀ n,oM (A3 (OT N F (pz 356532496) [Q1]) n)=(K7 N (OU Q1) (Ga F) n):=Mo fun n e=>(Dw (X6 N (OU Q1) (Ga F)) e:_)
def ft(F:KF R):∀ n,OU (A3 (OT N F (pz 1360) []) n)=(Dz N (Ga F) n):=Mo fun n e=>(ZX (Sd N (Ga F)) e ((lW ..).trans ((fq ..).trans (m_ (K7 _ · _ _) e))):_)
def fu(F:KF R):oN (Ba (OT N F (pz 85) []))=(EG N (Ga F)):=(Dw (IF N (Ga F)) ((lW ..).trans (ft ..)):_)
def qP:=Dm N 183 (jY N) cI (fun
|[.imm l m 1 o d,.imm p q 1 r f],[]=>some fun _ k=>IG N l m o d p q r f (Ga k)
| _,_=>none) fun _ _=>by split;intro R F;exact(Dw (UE N (Ga F) · _ _ _ _ _ _ _ _) ((jW ..).trans (fu ..)):_).trans (WT ..).symm;trivial
def IH(d:LA)(f:Bool)(i:LA)(j:Nat)(n l:Bool)(r0:LA->O R):O R:=(Zu d fun s=>D6 1 (d.drop 1) fun t u=>cond (beq d.length 2) (UC N [.bool s,.imm t u 1 false f] (f||false) fun m b g=>T0 N i j false l fun c h=>cond ((b:Int)==0) (r0 [.bool false,.nsl,.imm [.int .u32 1] 1 1 false false]) (IG N (g.take (b*1)) b false true (h.take (c*1)) c false true fun a e=>cond (((a:Int) != 1)==false) (cond (Ab 0 a) (Am .u32 e fun v=>cond (cond false true (v != 1)) (Ej N (g.take (b*1)) b false true (e.take (a*1)) a false true fun o aa ab w ac=>Ej N (h.take (c*1)) c false true (e.take (a*1)) a false true fun p ad ae x af=>r0 [.bool m,.imm (w.take (o*1)) o 1 false false,.imm (x.take (p*1)) p 1 false false]) (r0 [.bool m,.imm (g.take (b*1)) b 1 false false,.imm (h.take (c*1)) c 1 false false])) none) (Ej N (g.take (b*1)) b false true (e.take (a*1)) a false true fun q ag ah y ai=>Ej N (h.take (c*1)) c false true (e.take (a*1)) a false true fun r aj ak z al=>r0 [.bool m,.imm (y.take (q*1)) q 1 false false,.imm (z.take (r*1)) r 1 false false]))) none)
def K8:=(Ak (@IH R)).1
def GB:@K8 R=@IH R:=(Ak _).2
def CG:=Dm N 129 [oF N,EE N,qP N,RM N] { H:=hL,modes:=[(3,0)],cob:=[2] } (fun
|[.pagg d f,.imm i j 1 n l],[]=>some fun _ k=>K8 N d f i j n l (Gs k)
| _,_=>none) fun _ _=>by split;intro R F;dsimp only;rw[GB];kernel_rfl;trivial
def Wf(r0:LA->O R)(c:Bool)(a:LA)(d:Bool)(b:LA):O R:=(cond (ble 3 a.length) (I0 N (a.take 3) c fun e l m n o=>cond ((beq 0 0)&&((beq e.length 2)&&(beq 2 2))) (cond (ble 3 b.length) (I0 N (b.take 3) d fun f p q r s=>cond ((beq 0 0)&&((beq f.length 2)&&(beq 2 2))) (cond (ble 2 e.length) (cond (ble 2 f.length) (B_ N (e.take 2) l (f.take 2) p fun t i u=>X2 N m n false o q r false s fun j v=>K8 N [.bool t,.imm (u.take (i*1)) i 1 false true] true (v.take (j*1)) j false true fun g=>cond ((beq 0 0)&&((beq g.length 3)&&(beq 3 3))) (cond (ble 3 g.length) (r0 (g.take 3)) none) none) none) none) none) none) none) none)
def EH(r0:LA->O R)(q0:O R)(a:LA)(c:Bool)(b:LA)(d:Bool):O R:=(cond (ble 3 a.length) (Fj N (a.take 3) c fun w x y=>cond (ble 3 b.length) (Fj N (b.take 3) d fun z aa ab=>cond (y==true) (cond (cond true ab false) (G6 N (wrap .i64 (w*z)) (wrap .i64 (x*aa)) fun h=>cond ((beq 0 0)&&((beq h.length 3)&&(beq 3 3))) (cond (ble 3 h.length) (r0 (h.take 3)) none) none) q0) q0) none) none)
def Kc:=(Ak fun N a c b d r0=>EH (R:=R) N r0 (Wf N r0 c a d b) a c b d).1
def X7(a c b d r0):(@Kc R N a c b d r0)=(EH N r0 (Wf N r0 c a d b) a c b d):=by rw[Kc,(Ak _).2]
def cJ:Hints:={H:=hK 3 (hJ [2,3,4] hL hL),modes:=[(3,0)]}
def jZ:Vc:=[Xy N,Ve N,R5 N,WN N,KM N,CG N]
def oO(F:KF R):=Mp Tryz.f73 cJ (jZ N) [] N F
def oP(c:Bool)(a:LA)(d:Bool)(b:LA)(K:St->O R):=K ⟨[(2,op 0),(3,op 1),(4,op 2)],hq [bP c 0 a,bP d 0 b,bN 0 [.bool false,.nsl,.nsl]]⟩
def fv(F:KF R)(c a d b):oP c a d b (Ba (oO N F (pz 341) []))=(Wf N (Gs F) c a d b):=by kernel_rfl
def Of:=Dm N 73 (jZ N) cJ (fun
|[.pagg a c,.pagg b d],[]=>some fun _ k=>Kc N a c b d (Gs k)
| _,_=>none) fun _ _=>by split;intro R F;exact(Dw (EH N (Gs F) · _ _ _ _) ((jW ..).trans (fv ..)):_).trans (X7 ..).symm;trivial
def WU(a:LA)(b:Bool)(r0:Int->O R):O R:=(D6 1 (a.drop 1) fun c d=>Ng N c d false b fun e=>cond (e==0) (r0 0) (Zu a fun f=>cond f (r0 (-1)) (r0 1)))
def EI:=(Ak (@WU R)).1
def RN:@EI R=@WU R:=(Ak _).2
def cM:=Dm N 124 [KL N] G4 (fun
|[.pagg a b],[]=>some fun _ k=>EI N a b (He k)
| _,_=>none) fun _ _=>by split;intro R F;dsimp only;rw[RN];kernel_rfl;trivial
def WV(a:LA)(b:Bool)(r0:Int->O R):O R:=(cond (ble 3 a.length) (I0 N (a.take 3) b fun c d f g h=>cond ((beq 0 0)&&((beq c.length 2)&&(beq 2 2))) (cond (ble 2 c.length) (EI N (c.take 2) d fun e=>r0 e) none) none) none)
def Lz:=(Ak (@WV R)).1
def RO:@Lz R=@WV R:=(Ak _).2
def Wg:=Dm N 69 [R5 N,cM N] G4 (fun
|[.pagg a b],[]=>some fun _ k=>Lz N a b (He k)
| _,_=>none) fun _ _=>by split;intro R F;dsimp only;rw[RO];kernel_rfl;trivial
def KT(a:LA)(b:Bool)(r0:LA->O R):O R:=(cond (ble 3 a.length) (Fj N (a.take 3) b fun e f g=>cond g (G6 N e f fun c=>cond ((beq 0 0)&&((beq c.length 3)&&(beq 3 3))) (cond (ble 3 c.length) (r0 (c.take 3)) none) none) (cond (ble 3 a.length) (I0 N (a.take 3) b fun h i j l m=>K8 N h i j l false m fun d=>cond ((beq 0 0)&&((beq d.length 3)&&(beq 3 3))) (cond (ble 3 d.length) (r0 (d.take 3)) none) none) none)) none)
def Qd:=(Ak (@KT R)).1
def CH:@Qd R=@KT R:=(Ak _).2
def OV:=Dm N 76 [Xy N,Ve N,R5 N,CG N] J9 (fun
|[.pagg a b],[]=>some fun _ k=>Qd N a b (Gs k)
| _,_=>none) fun _ _=>by split;intro R F;dsimp only;rw[CH];kernel_rfl;trivial
def Se(r0:Nat->LA->O R)(b:LA)(a:Nat)(d:Bool)(f:LA)(c:Nat)(g:Bool)(k1:Nat->Int->Int->Int->LA->O R)(m:Nat)(o v h:Int)(l:LA):O R:=(cond (decide (h<v)) (cond (Ab h a) (Am .u32 (b.drop (h.toNat*1)) fun w=>cond (decide (h<(c:Int))) (cond (Ab h c) (Am .u32 (f.drop (h.toNat*1)) fun z=>cond (Ab h m) (cond ((beq 1 1)&&((ble ((0+(h.toNat*1))+1) l.length)&&(!false))) (k1 m (Int.fdiv (wrap .u64 ((wrap .u64 (o+(wrap .u64 w)))+(wrap .u64 z))) (2 ^ 32)) v (wrap .i64 (h+1)) (l.set (0+(h.toNat*1)) (.int .u32 (wrap .u32 (wrap .u64 ((wrap .u64 (o+(wrap .u64 w)))+(wrap .u64 z))))))) none) none) none) (cond (Ab h m) (cond ((beq 1 1)&&((ble ((0+(h.toNat*1))+1) l.length)&&(!false))) (k1 m (Int.fdiv (wrap .u64 (o+(wrap .u64 w))) (2 ^ 32)) v (wrap .i64 (h+1)) (l.set (0+(h.toNat*1)) (.int .u32 (wrap .u32 (wrap .u64 (o+(wrap .u64 w))))))) none) none)) none) (cond (Ab (a:Int) m) (cond ((beq 1 1)&&((ble ((0+(a*1))+1) l.length)&&(!false))) (Rz N m (l.set (0+(a*1)) (.int .u32 (wrap .u32 o))) fun ac=>r0 ac (l.set (0+(a*1)) (.int .u32 (wrap .u32 o)))) none) none))
def Nn(r0:Nat->LA->O R)(b:LA)(a:Nat)(d:Bool)(f:LA)(c:Nat)(g:Bool):Nat->Nat->Int->Int->Int->LA->O R
|0=>fun _ _ _ _ _=>none
|n+1=>Se N r0 b a d f c g (Nn r0 b a d f c g n)
def II(N:Nat)(r0:Nat->LA->O R)(q1:LA->Nat->Bool->LA->Nat->Bool->Nat->Int->Int->Int->LA->O R)(b:LA)(a:Nat)(d:Bool)(f:LA)(c:Nat)(g:Bool):O R:=(cond ((decide (0<=(wrap .i64 ((a:Int)+1))))&&((decide ((wrap .i64 ((a:Int)+1))<=(wrap .i64 ((a:Int)+1))))&&((decide ((wrap .i64 ((a:Int)+1))<=140737488355328))&&(decide (((wrap .i64 ((a:Int)+1))*((4:Nat):Int))<=140737488355328))))) (q1 b a d f c g ((wrap .i64 ((a:Int)+1)).toNat) 0 (a:Int) 0 (replicate ((wrap .i64 ((a:Int)+1)).toNat) (.int .u32 0))) none)
def Wh(r0:Nat->LA->O R)(b:LA)(a:Nat)(d:Bool)(f:LA)(c:Nat)(g:Bool):O R:=II N r0 (fun b a d f c g=>Nn N r0 b a d f c g N) b a d f c g
def KU(r0:Nat->LA->O R)(q0:LA->Nat->Bool->LA->Nat->Bool->O R)(p:LA)(q:Nat)(r i:Bool)(s:LA)(t:Nat)(u j:Bool):O R:=(B9 N p q r i fun aa x=>B9 N s t u j fun ab y=>cond (decide ((x:Int)<(y:Int))) (q0 ab y j aa x i) (q0 aa x i ab y j))
def WW:=(Ak fun N p q r i s t u j r0=>KU (R:=R) N r0 (Wh N r0) p q r i s t u j).1
def IJ(p q r i s t u j r0):(@WW R N p q r i s t u j r0)=(KU N r0 (Wh N r0) p q r i s t u j):=by rw[WW,(Ak _).2]
def cN:Hints:={H:=hK 2 (hJ [0,1] hL (hK 2 (hS (hK 1 (hS (hP [0,1,5,6,24,25,26] hL) hL)) hL))),nils:=[(4,1)],modes:=[(2,1)]}
def j0:Vc:=[E7 N]
def cO(F:KF R):=Mp Tryz.f185 cN (j0 N) [] N F
def oQ(b:LA)(a:Nat)(d:Bool)(f:LA)(c:Nat)(g:Bool)(K:St->O R):=fun m o v h l=>K ⟨[(0,.imm b a 1 false d),(1,.imm f c 1 false g),(5,Ahf 0 m),(6,.int .u64 o),(24,.imm b a 1 false d),(25,iv v),(26,iv h)],hq [bQ 1 l]⟩
def oR(K:St->O R):=fun b a d f c g=>K ⟨[(0,.imm b a 1 false d),(1,.imm f c 1 false g)],[]⟩
def fy(F:KF R)(b a d f c g):∀ n,oQ b a d f c g (A3 (cO N F (pz 87364) []) n)=(Nn N (Ga F) b a d f c g n):=Mo fun n e=>(Dw (Se N (Ga F) b a d f c g) e:_)
def gA(F:KF R):oR (Ba (cO N F (pz 85) []))=(Wh N (Ga F)):=(Dw (II N (Ga F)) (vM fun b a d f c g=>(lW ..).trans (fy ..)):_)
def qQ:=Dm N 185 (j0 N) cN (fun
|[.imm p q 1 r i,.imm s t 1 u j],[]=>some fun _ k=>WW N p q r i s t u j (Ga k)
| _,_=>none) fun _ _=>by split;intro R F;exact(Dw (KU N (Ga F) · _ _ _ _ _ _ _ _) ((jW ..).trans (gA ..)):_).trans (IJ ..).symm;trivial
def KV(a:LA)(c:Bool)(b:LA)(d:Bool)(r0:Bool->Nat->LA->O R):O R:=(Zu a fun l=>Zu b fun m=>cond (l==m) (Zu a fun n=>D6 1 (a.drop 1) fun o p=>D6 1 (b.drop 1) fun q r=>WW N o p false c q r false d fun e f=>H8 N n e f fun s=>r0 s e f) (D6 1 (a.drop 1) fun t u=>D6 1 (b.drop 1) fun v w=>CD N t u false c v w false d fun g x h=>cond x (Zu a fun y=>H8 N y g h fun z=>r0 z g h) (D6 1 (b.drop 1) fun aa ab=>D6 1 (a.drop 1) fun ac ad=>CD N aa ab false d ac ad false c fun i ag j=>Zu b fun ae=>H8 N ae i j fun af=>r0 af i j)))
def WX:=(Ak (@KV R)).1
def X8:@WX R=@KV R:=(Ak _).2
def qR:=Dm N 130 [qQ N,Ty N,jX N] G4 (fun
|[.pagg a c,.pagg b d],[]=>some fun _ k=>WX N a c b d (sM k)
| _,_=>none) fun _ _=>by split;intro R F;dsimp only;rw[X8];kernel_rfl;trivial
def Wi(r0:LA->O R)(c:Bool)(a:LA)(d:Bool)(b:LA):O R:=(cond (ble 3 a.length) (I0 N (a.take 3) c fun i x n o j=>cond ((beq 0 0)&&((beq i.length 2)&&(beq 2 2))) (cond (ble 3 b.length) (I0 N (b.take 3) d fun l y q r p=>cond ((beq 0 0)&&((beq l.length 2)&&(beq 2 2))) (Dc N n o false j q r false p fun ae=>cond (ae==0) (cond (ble 2 i.length) (cond (ble 2 l.length) (WX N (i.take 2) x (l.take 2) y fun af z ag=>K8 N [.bool af,.imm (ag.take (z*1)) z 1 false true] true n o false j fun s=>cond ((beq 0 0)&&((beq s.length 3)&&(beq 3 3))) (cond (ble 3 s.length) (r0 (s.take 3)) none) none) none) none) (cond (ble 2 i.length) (B_ N (i.take 2) x [.bool false,.imm q r 1 false p] (p||false) fun ah aa ai=>cond (ble 2 l.length) (B_ N (l.take 2) y [.bool false,.imm n o 1 false j] (j||false) fun aj ab ak=>WX N [.bool ah,.imm (ai.take (aa*1)) aa 1 false true] true [.bool aj,.imm (ak.take (ab*1)) ab 1 false true] true fun al ac am=>X2 N n o false j q r false p fun ad an=>K8 N [.bool al,.imm (am.take (ac*1)) ac 1 false true] true (an.take (ad*1)) ad false true fun t=>cond ((beq 0 0)&&((beq t.length 3)&&(beq 3 3))) (cond (ble 3 t.length) (r0 (t.take 3)) none) none) none) none)) none) none) none) none)
def X9(r0:LA->O R)(g e h f:Int)(c:Bool)(a:LA)(d:Bool)(b:LA)(q1:O R)(m:Bool):O R:=(cond m (G6 N (wrap .i64 ((wrap .i64 (g*f))+(wrap .i64 (h*e)))) (wrap .i64 (e*f)) fun u=>cond ((beq 0 0)&&((beq u.length 3)&&(beq 3 3))) (cond (ble 3 u.length) (r0 (u.take 3)) none) none) q1)
def K9(r0:LA->O R)(g e h f:Int)(c:Bool)(a:LA)(d:Bool)(b:LA)(m:Bool):O R:=X9 N r0 g e h f c a d b (Wi N r0 c a d b) m
def EJ(r0:LA->O R)(q0:Int->Int->Int->Int->Bool->O R)(a:LA)(c:Bool)(b:LA)(d:Bool):O R:=(cond (ble 3 a.length) (Lz N (a.take 3) c fun ao=>cond (ao==0) (cond (ble 3 b.length) (Qd N (b.take 3) d fun v=>cond ((beq 0 0)&&((beq v.length 3)&&(beq 3 3))) (cond (ble 3 v.length) (r0 (v.take 3)) none) none) none) (cond (ble 3 b.length) (Lz N (b.take 3) d fun ap=>cond (ap==0) (cond (ble 3 a.length) (Qd N (a.take 3) c fun w=>cond ((beq 0 0)&&((beq w.length 3)&&(beq 3 3))) (cond (ble 3 w.length) (r0 (w.take 3)) none) none) none) (cond (ble 3 a.length) (Fj N (a.take 3) c fun g e aq=>cond (ble 3 b.length) (Fj N (b.take 3) d fun h f ar=>cond (aq==true) (q0 g e h f (cond true ar false)) (q0 g e h f false)) none) none)) none)) none)
def L0:=(Ak fun N a c b d r0=>EJ (R:=R) N r0 (fun g e h f=>K9 N r0 g e h f c a d b) a c b d).1
def Ya(a c b d r0):(@L0 R N a c b d r0)=(EJ N r0 (fun g e h f=>K9 N r0 g e h f c a d b) a c b d):=by rw[L0,(Ak _).2]
def cP:Hints:={H:=hK 5 (hJ [2,3,4] (hJ [2,3,4,5,6,8,9,41] hL hL) hL),modes:=[(3,0)]}
def j1:Vc:=[Wg N,OV N,Xy N,Ve N,R5 N,Hu N,qR N,CG N,WN N,KM N]
def cQ(F:KF R):=Mp Tryz.f72 cP (j1 N) [] N F
def oS(c:Bool)(a:LA)(d:Bool)(b:LA)(K:St->O R):=K ⟨[(2,op 0),(3,op 1),(4,op 2)],hq [bP c 0 a,bP d 0 b,bN 0 [.bool false,.nsl,.nsl]]⟩
def oT(g e h f:Int)(c:Bool)(a:LA)(d:Bool)(b:LA)(K:St->O R):=fun m=>K ⟨[(2,op 0),(3,op 1),(4,op 2),(5,iv g),(6,iv e),(8,iv h),(9,iv f),(41,.bool m)],hq [bP c 0 a,bP d 0 b,bN 0 [.bool false,.nsl,.nsl]]⟩
def gB(F:KF R)(c a d b):oS c a d b (Ba (cQ N F (pz 5461) []))=(Wi N (Gs F) c a d b):=by kernel_rfl
def gC(F:KF R)(g e h f c a d b):oT g e h f c a d b (Ba (cQ N F (pz 21841) []))=(K9 N (Gs F) g e h f c a d b):=(Dw (X9 N (Gs F) g e h f c a d b) ((jW ..).trans (gB ..)):_)
def Wj:=Dm N 72 (j1 N) cP (fun
|[.pagg a c,.pagg b d],[]=>some fun _ k=>L0 N a c b d (Gs k)
| _,_=>none) fun _ _=>by split;intro R F;exact(Dw (EJ N (Gs F) · _ _ _ _) (rz fun g e h f=>(jW ..).trans (gC ..)):_).trans (Ya ..).symm;trivial
def gD(a:LA)(b:Bool)(c:LA)(d:Bool)(r0:LA->O R):O R:=(Zu a fun f=>D6 1 (a.drop 1) fun g h=>D6 1 (a.drop 2) fun i j=>cond (beq a.length 3) (Zu c fun l=>D6 1 (c.drop 1) fun m n=>D6 1 (c.drop 2) fun o p=>cond (beq c.length 3) (L0 N [.bool f,.imm g h 1 false b,.imm i j 1 false b] (b||(b||false)) [.bool (!l),.imm m n 1 false d,.imm o p 1 false d] (d||(d||false)) fun e=>cond ((beq 0 0)&&((beq e.length 3)&&(beq 3 3))) (cond (ble 3 e.length) (r0 (e.take 3)) none) none) none) none)
def Sf:=(Ak (@gD R)).1
def WY:@Sf R=@gD R:=(Ak _).2
def CI:=Dm N 67 [Wj N] { H:=hL,modes:=[(3,0)],cob:=[2,3] } (fun
|[.pagg a b,.pagg c d],[]=>some fun _ k=>Sf N a b c d (Gs k)
| _,_=>none) fun _ _=>by split;intro R F;dsimp only;rw[WY];kernel_rfl;trivial
def L5(N:Nat)(a:Int)(r0:Bool->O R):O R:=(r0 (a != a))
def Ic:=(Ak (@L5 R)).1
def L6:@Ic R=@L5 R:=(Ak _).2
def Z0:=Dm N 175 [] G4 (fun
|[.int .i64 a],[]=>some fun _ k=>Ic N a (C1 k)
| _,_=>none) fun _ _=>by split;intro R F;dsimp only;rw[L6];kernel_rfl;trivial
def No(a b:Int)(r0:Int->O R):O R:=(Ic N a fun d=>Ic N b fun c=>cond d (cond c (r0 0) (r0 (-1))) (cond c (r0 1) (cond (decide (a<b)) (r0 (-1)) (cond (decide (a>b)) (r0 1) (r0 0)))))
def Kp:=(Ak (@No R)).1
def Pi:@Kp R=@No R:=(Ak _).2
def KW:=Dm N 114 [Z0 N] G4 (fun
|[.int .i64 a,.int .i64 b],[]=>some fun _ k=>Kp N a b (He k)
| _,_=>none) fun _ _=>by split;intro R F;dsimp only;rw[Pi];kernel_rfl;trivial
def Np(N:Nat)(a:Int)(r0:Bool->O R):O R:=(r0 (a != a))
def Kq:=(Ak (@Np R)).1
def Pj:@Kq R=@Np R:=(Ak _).2
def KX:=Dm N 177 [] G4 (fun
|[.int .i64 a],[]=>some fun _ k=>Kq N a (C1 k)
| _,_=>none) fun _ _=>by split;intro R F;dsimp only;rw[Pj];kernel_rfl;trivial
def Kz(a b:Int)(r0:Int->O R):O R:=(Kq N a fun d=>Kq N b fun c=>cond d (cond c (r0 0) (r0 (-1))) (cond c (r0 1) (cond (decide (a<b)) (r0 (-1)) (cond (decide (a>b)) (r0 1) (r0 0)))))
def In:=(Ak (@Kz R)).1
def Mt:@In R=@Kz R:=(Ak _).2
def EW:=Dm N 116 [KX N] G4 (fun
|[.int .i64 a,.int .i64 b],[]=>some fun _ k=>In N a b (He k)
| _,_=>none) fun _ _=>by split;intro R F;dsimp only;rw[Mt];kernel_rfl;trivial
def CJ(a:LA)(c:Bool)(b:LA)(d:Bool)(r0:Int->O R):O R:=(cond (ble 2 a.length) (EI N (a.take 2) c fun e=>cond (ble 2 b.length) (EI N (b.take 2) d fun f=>cond (decide (e<f)) (r0 (-1)) (cond (decide (e>f)) (r0 1) (cond (decide (e<0)) (D6 1 (b.drop 1) fun g h=>D6 1 (a.drop 1) fun i j=>Dc N g h false d i j false c fun l=>r0 l) (D6 1 (a.drop 1) fun m n=>D6 1 (b.drop 1) fun o p=>Dc N m n false c o p false d fun q=>r0 q)))) none) none)
def Yb:=(Ak (@CJ R)).1
def CK:@Yb R=@CJ R:=(Ak _).2
def gE:=Dm N 118 [cM N,Hu N] G4 (fun
|[.pagg a c,.pagg b d],[]=>some fun _ k=>Yb N a c b d (He k)
| _,_=>none) fun _ _=>by split;intro R F;dsimp only;rw[CK];kernel_rfl;trivial
def Ki(r0:Int->O R)(c:Bool)(a:LA)(d:Bool)(b:LA):O R:=(cond (ble 3 a.length) (I0 N (a.take 3) c fun e n o p g=>cond ((beq 0 0)&&((beq e.length 2)&&(beq 2 2))) (cond (ble 3 b.length) (I0 N (b.take 3) d fun f q r s h=>cond ((beq 0 0)&&((beq f.length 2)&&(beq 2 2))) (cond (ble 2 e.length) (B_ N (e.take 2) n [.bool false,.imm r s 1 false h] (h||false) fun t i u=>cond (ble 2 f.length) (B_ N (f.take 2) q [.bool false,.imm o p 1 false g] (g||false) fun v j w=>Yb N [.bool t,.imm (u.take (i*1)) i 1 false true] true [.bool v,.imm (w.take (j*1)) j 1 false true] true fun x=>r0 x) none) none) none) none) none) none)
def T9(r0:Int->O R)(q0:O R)(a:LA)(c:Bool)(b:LA)(d:Bool):O R:=(cond (ble 3 a.length) (Lz N (a.take 3) c fun l=>cond (ble 3 b.length) (Lz N (b.take 3) d fun m=>cond (l != m) (Kp N l m fun y=>r0 y) (cond (ble 3 a.length) (Fj N (a.take 3) c fun z aa ab=>cond (ble 3 b.length) (Fj N (b.take 3) d fun ac ad ae=>cond (ab==true) (cond (cond true ae false) (In N (wrap .i64 (z*ad)) (wrap .i64 (ac*aa)) fun af=>r0 af) q0) q0) none) none)) none) none)
def I5:=(Ak fun N a c b d r0=>T9 (R:=R) N r0 (Ki N r0 c a d b) a c b d).1
def CL(a c b d r0):(@I5 R N a c b d r0)=(T9 N r0 (Ki N r0 c a d b) a c b d):=by rw[I5,(Ak _).2]
def GC:Hints:={H:=hK 4 (hJ [2,3] hL hL)}
def KY:Vc:=[Wg N,KW N,Xy N,EW N,R5 N,WN N,gE N]
def aG(F:KF R):=Mp Tryz.f55 GC (KY N) [] N F
def aH(c:Bool)(a:LA)(d:Bool)(b:LA)(K:St->O R):=K ⟨[(2,op 0),(3,op 1)],hq [bP c 0 a,bP d 0 b]⟩
def OW(F:KF R)(c a d b):aH c a d b (Ba (aG N F (pz 1365) []))=(Ki N (He F) c a d b):=by kernel_rfl
def Yc:=Dm N 55 (KY N) GC (fun
|[.pagg a c,.pagg b d],[]=>some fun _ k=>I5 N a c b d (He k)
| _,_=>none) fun _ _=>by split;intro R F;exact(Dw (T9 N (He F) · _ _ _ _) ((jW ..).trans (OW ..)):_).trans (CL ..).symm;trivial
def Vf(a b:Int)(r0:Bool->O R):O R:=(Ic N a fun c=>cond (c==true) (Ic N b fun d=>cond ((cond true (!d) false)==false) (r0 (cond false true (decide (a<b)))) (r0 true)) (r0 (cond false true (decide (a<b)))))
def Qe:=(Ak (@Vf R)).1
def Wk:@Qe R=@Vf R:=(Ak _).2
def WZ:=Dm N 187 [Z0 N] G4 (fun
|[.int .i64 a,.int .i64 b],[]=>some fun _ k=>Qe N a b (C1 k)
| _,_=>none) fun _ _=>by split;intro R F;dsimp only;rw[Wk];kernel_rfl;trivial
def gF(c:LA)(d:Bool)(a:LA)(b:Bool)(r0:LA->Bool->O R):O R:=(cond (ble 3 a.length) (Lz N (a.take 3) b fun f=>cond (f==0) (r0 [.bool false,.nsl,.nsl] false) (cond (ble 3 c.length) (Zu a fun g=>D6 1 (a.drop 2) fun h i=>D6 1 (a.drop 1) fun j l=>Kc N (c.take 3) d [.bool g,.imm h i 1 false b,.imm j l 1 false b] (b||(b||false)) fun e=>cond ((beq 0 0)&&((beq e.length 3)&&(beq 3 3))) (cond (ble 3 e.length) (r0 (e.take 3) true) none) none) none)) none)
def gG:=(Ak (@gF R)).1
def W_:@gG R=@gF R:=(Ak _).2
def qS:=Dm N 133 [Wg N,Of N] { H:=hL,modes:=[(3,0),(0,0)] } (fun
|[.pagg c d,.pagg a b],[]=>some fun _ k=>gG N c d a b (Vd k)
| _,_=>none) fun _ _=>by split;intro R F;dsimp only;rw[W_];kernel_rfl;trivial
def Qf(N:Nat)(r0:Nat->LA->O R)(b:LA)(a:Nat)(f c:Bool)(k0:Int->O R)(d:Int):O R:=(cond ((decide (d>0))==true) (cond (Ab (wrap .i64 (d - 1)) a) (Am .u32 (b.drop (((wrap .i64 (d - 1)).toNat)*1)) fun g=>cond (cond true (g==0) false) (k0 (wrap .i64 (d - 1))) (cond ((decide ((0:Int)<=(0:Int)))&&((decide (0<=d))&&((decide (d<=(a:Int)))&&(decide ((a:Int)<=(a:Int)))))) (cond ((!c)||(Bs (b.take (d.toNat*1)))) (cond ((ble (0+d.toNat) 140737488355328)&&(ble ((0+d.toNat)*4) 140737488355328)) (r0 (0+d.toNat) (b.take (d.toNat*1))) none) none) none)) none) (cond ((decide ((0:Int)<=(0:Int)))&&((decide (0<=d))&&((decide (d<=(a:Int)))&&(decide ((a:Int)<=(a:Int)))))) (cond ((!c)||(Bs (b.take (d.toNat*1)))) (cond ((ble (0+d.toNat) 140737488355328)&&(ble ((0+d.toNat)*4) 140737488355328)) (r0 (0+d.toNat) (b.take (d.toNat*1))) none) none) none))
def I6(r0:Nat->LA->O R)(b:LA)(a:Nat)(f c:Bool):Nat->Int->O R
|0=>fun _=>none
|n+1=>Qf N r0 b a f c (I6 r0 b a f c n)
def Wl(N:Nat)(r0:Nat->LA->O R)(q0:Int->O R)(b:LA)(a:Nat)(f c:Bool):O R:=(q0 (a:Int))
def Df:=(Ak fun N b a f c r0=>Wl (R:=R) N r0 (I6 N r0 b a f c N) b a f c).1
def Yd(b a f c r0):(@Df R N b a f c r0)=(Wl N r0 (I6 N r0 b a f c N) b a f c):=by rw[Df,(Ak _).2]
def j2(F:KF R):=Mp Tryz.f193 RD [] [] N F
def j3(b:LA)(a:Nat)(f c:Bool)(K:St->O R):=fun d=>K ⟨[(0,.imm b a 1 f c),(3,iv d)],[]⟩
def XA(F:KF R)(b a f c):∀ n,j3 b a f c (A3 (j2 N F (pz 336) []) n)=(I6 N (Ga F) b a f c n):=Mo fun n e=>(Dw (Qf N (Ga F) b a f c) e:_)
def Hg:=Dm N 193 [] RD (fun
|[.imm b a 1 f c],[]=>some fun _ k=>Df N b a f c (Ga k)
| _,_=>none) fun _ _=>by split;intro R F;exact(Dw (Wl N (Ga F) · _ _ _ _) ((lW ..).trans (XA ..)):_).trans (Yd ..).symm;trivial
def OX(b:Bool)(c:LA)(d:Nat)(f e:Bool)(r0:LA->O R):O R:=(Df N c d false e fun a g=>cond (b==true) (r0 [.bool (cond true (decide ((a:Int)>0)) false),.imm (g.take (a*1)) a 1 false false]) (r0 [.bool false,.imm (g.take (a*1)) a 1 false false]))
def Fy:=(Ak (@OX R)).1
def KZ:@Fy R=@OX R:=(Ak _).2
def K0:=Dm N 139 [Hg N] J9 (fun
|[.bool b,.imm c d 1 f e],[]=>some fun _ k=>Fy N b c d f e (Gs k)
| _,_=>none) fun _ _=>by split;intro R F;dsimp only;rw[KZ];kernel_rfl;trivial
def OY(a:LA)(b:Bool)(r0:LA->O R):O R:=(Zu a fun d=>D6 1 (a.drop 1) fun e f=>Fy N d e f false b fun c=>cond ((beq 0 0)&&((beq c.length 2)&&(beq 2 2))) (cond (ble 2 c.length) (r0 (c.take 2)) none) none)
def Wm:=(Ak (@OY R)).1
def K_:@Wm R=@OY R:=(Ak _).2
def XB:=Dm N 120 [K0 N] J9 (fun
|[.pagg a b],[]=>some fun _ k=>Wm N a b (Gs k)
| _,_=>none) fun _ _=>by split;intro R F;dsimp only;rw[K_];kernel_rfl;trivial
def OZ(a:LA)(b:Bool)(r0:Int->O R):O R:=(cond (ble 2 a.length) (Wm N (a.take 2) b fun c=>cond ((beq c.length 2)&&((ble 2 a.length)&&(!false))) (Zu (setCells a 0 c) fun d=>cond d (r0 (-1)) (D6 1 ((setCells a 0 c).drop 1) fun f e=>cond ((e:Int)==0) (r0 0) (r0 1))) none) none)
def Wn:=(Ak (@OZ R)).1
def LB:@Wn R=@OZ R:=(Ak _).2
def XC:=Dm N 60 [XB N] G4 (fun
|[.pagg a b],[]=>some fun _ k=>Wn N a b (He k)
| _,_=>none) fun _ _=>by split;intro R F;dsimp only;rw[LB];kernel_rfl;trivial
def O_(N:Nat)(r0:LA->O R):O R:=(r0 [.bool false,.imm [] 0 1 false false,.imm [.int .u32 1] 1 1 false false])
def LC:=(Ak (@O_ R)).1
def LD:@LC R=@O_ R:=(Ak _).2
def lU:=Dm N 35 [] J9 (fun
|[],[]=>some fun _ k=>LC N (Gs k)
| _,_=>none) fun _ _=>by split;intro R F;dsimp only;rw[LD];kernel_rfl;trivial
def N8(N:Nat)(r0:Bool->O R)(c:LA)(a:Nat)(f g:Bool)(d:LA)(b:Nat)(h i:Bool)(k0:Int->O R)(j:Int):O R:=(cond (decide (j<(a:Int))) (cond (Ab j a) (Am .u32 (c.drop (j.toNat*1)) fun l=>cond (Ab j b) (Am .u32 (d.drop (j.toNat*1)) fun m=>cond (l != m) (r0 false) (k0 (wrap .i64 (j+1)))) none) none) (r0 true))
def Hh(r0:Bool->O R)(c:LA)(a:Nat)(f g:Bool)(d:LA)(b:Nat)(h i:Bool):Nat->Int->O R
|0=>fun _=>none
|n+1=>N8 N r0 c a f g d b h i (Hh r0 c a f g d b h i n)
def Ye(N:Nat)(r0:Bool->O R)(q0:Int->O R)(c:LA)(a:Nat)(f g:Bool)(d:LA)(b:Nat)(h i:Bool):O R:=(cond ((a:Int) != (b:Int)) (r0 false) (q0 0))
def Wo:=(Ak fun N c a f g d b h i r0=>Ye (R:=R) N r0 (Hh N r0 c a f g d b h i N) c a f g d b h i).1
def GD(c a f g d b h i r0):(@Wo R N c a f g d b h i r0)=(Ye N r0 (Hh N r0 c a f g d b h i N) c a f g d b h i):=by rw[Wo,(Ak _).2]
def LF:Hints:={H:=hK 2 (hS (hK 1 (hS (hP [0,1,5] hL) hL)) hL)}
def gH(F:KF R):=Mp Tryz.f135 LF [] [] N F
def gJ(c:LA)(a:Nat)(f g:Bool)(d:LA)(b:Nat)(h i:Bool)(K:St->O R):=fun j=>K ⟨[(0,.imm c a 1 f g),(1,.imm d b 1 h i),(5,iv j)],[]⟩
def TC(F:KF R)(c a f g d b h i):∀ n,gJ c a f g d b h i (A3 (gH N F (pz 1348) []) n)=(Hh N (C1 F) c a f g d b h i n):=Mo fun n e=>(Dw (N8 N (C1 F) c a f g d b h i) e:_)
def j4:=Dm N 135 [] LF (fun
|[.imm c a 1 f g,.imm d b 1 h i],[]=>some fun _ k=>Wo N c a f g d b h i (C1 k)
| _,_=>none) fun _ _=>by split;intro R F;exact(Dw (Ye N (C1 F) · _ _ _ _ _ _ _ _) ((lW ..).trans (TC ..)):_).trans (GD ..).symm;trivial
def Ec(N:Nat)(r0:Int->Bool->O R)(a:Nat)(b:LA)(k0:Int->Int->O R)(i h:Int):O R:=(cond (decide (h>=0)) (cond (Ab h a) (Am .u32 (b.drop (0+(h.toNat*1))) fun j=>k0 (K5 .u64 (wrap .u64 (i*2 ^ 32)) (wrap .u64 j)) (wrap .i64 (h - 1))) none) (r0 i true))
def De(r0:Int->Bool->O R)(a:Nat)(b:LA):Nat->Int->Int->O R
|0=>fun _ _=>none
|n+1=>Ec N r0 a b (De r0 a b n)
def Ua(r0:Int->Bool->O R)(q0:Nat->LA->Int->Int->O R)(c:LA)(d:Nat)(g f:Bool):O R:=(Df N c d false f fun a b=>cond (decide ((a:Int)>2)) (r0 0 false) (q0 a b 0 (wrap .i64 ((a:Int) - 1))))
def Nq:=(Ak fun N c d g f r0=>Ua (R:=R) N r0 (fun a b=>De N r0 a b N) c d g f).1
def CM(c d g f r0):(@Nq R N c d g f r0)=(Ua N r0 (fun a b=>De N r0 a b N) c d g f):=by rw[Nq,(Ak _).2]
def GF:Hints:={H:=hK 4 (hS (hK 1 (hS (hP [0,4,5] hL) hL)) hL)}
def LG:Vc:=[Hg N]
def aI(F:KF R):=Mp Tryz.f229 GF (LG N) [] N F
def aJ(a:Nat)(b:LA)(K:St->O R):=fun i h=>K ⟨[(0,Ahf 0 a),(4,.int .u64 i),(5,iv h)],hq [bQ 1 b]⟩
def O'(F:KF R)(a b):∀ n,aJ a b (A3 (aI N F (pz 21828) []) n)=(De N (jI F) a b n):=Mo fun n e=>(Dw (Ec N (jI F) a b) e:_)
def gK:=Dm N 229 (LG N) GF (fun
|[.imm c d 1 g f],[]=>some fun _ k=>Nq N c d g f (jI k)
| _,_=>none) fun _ _=>by split;intro R F;exact(Dw (Ua N (jI F) · _ _ _ _) (kP fun a b=>(lW ..).trans (O' ..)):_).trans (CM ..).symm;trivial
def O2(a:Int)(r0:Nat->LA->O R):O R:=(Df N [.int .u32 (wrap .u32 a),.int .u32 (wrap .u32 (Int.fdiv a (2 ^ 32)))] 2 false true fun b c=>r0 b c)
def Fl:=(Ak (@O2 R)).1
def Sg:@Fl R=@O2 R:=(Ak _).2
def Wp:=Dm N 140 [Hg N] qI (fun
|[.int .u64 a],[]=>some fun _ k=>Fl N a (Ga k)
| _,_=>none) fun _ _=>by split;intro R F;dsimp only;rw[Sg];kernel_rfl;trivial
def L7(N:Nat)(r0:Int->O R)(k0:Int->Int->O R)(g h:Int):O R:=(cond (decide (h>0)) (k0 (wrap .i64 (g+1)) (Int.fdiv h (2 ^ 1))) (r0 g))
def G7(r0:Int->O R):Nat->Int->Int->O R
|0=>fun _ _=>none
|n+1=>L7 N r0 (G7 r0 n)
def Wq(r0:Int->O R)(q0:Int->Int->O R)(a:LA)(b:Nat)(d c:Bool):O R:=(Df N a b false c fun f i=>cond ((f:Int)==0) (r0 0) (cond (Ab (wrap .i64 ((f:Int) - 1)) f) (Am .u32 (i.drop (0+(((wrap .i64 ((f:Int) - 1)).toNat)*1))) fun j=>q0 (wrap .i64 (32*(wrap .i64 ((f:Int) - 1)))) j) none))
def CN:=(Ak fun N a b d c r0=>Wq (R:=R) N r0 (G7 N r0 N) a b d c).1
def Yf(a b d c r0):(@CN R N a b d c r0)=(Wq N r0 (G7 N r0 N) a b d c):=by rw[CN,(Ak _).2]
def RP:Hints:={H:=hK 4 (hS (hK 1 (hS (hP [3,4] hL) hL)) hL)}
def XD:Vc:=[Hg N]
def j5(F:KF R):=Mp Tryz.f230 RP (XD N) [] N F
def j6(K:St->O R):=fun g h=>K ⟨[(3,iv g),(4,.int .u32 h)],[]⟩
def XE(F:KF R):∀ n,j6 (A3 (j5 N F (pz 21828) []) n)=(G7 N (He F) n):=Mo fun n e=>(Dw (L7 N (He F)) e:_)
def lV:=Dm N 230 (XD N) RP (fun
|[.imm a b 1 d c],[]=>some fun _ k=>CN N a b d c (He k)
| _,_=>none) fun _ _=>by split;intro R F;exact(Dw (Wq N (He F) · _ _ _ _) ((lW ..).trans (XE ..)):_).trans (Yf ..).symm;trivial
def Sh(N:Nat)(k0:Nat->Int->Int->LA->O R)(r0:Nat->LA->O R)(c:LA)(a:Nat)(f g:Bool)(d:LA)(b:Nat)(h i:Bool)(j:Nat)(l:LA)(p m:Int):O R:=(cond (decide (m<(b:Int))) (cond (Ab m b) (Am .u32 (d.drop (m.toNat*1)) fun r=>cond (Ab m j) (cond ((beq 1 1)&&((ble ((0+(m.toNat*1))+1) l.length)&&(!false))) (k0 j (Int.fdiv (wrap .u64 (p+(wrap .u64 r))) (2 ^ 32)) (wrap .i64 (m+1)) (l.set (0+(m.toNat*1)) (.int .u32 (wrap .u32 (wrap .u64 (p+(wrap .u64 r))))))) none) none) none) (cond (Ab m j) (cond ((beq 1 1)&&((ble ((0+(m.toNat*1))+1) l.length)&&(!false))) (k0 j (Int.fdiv p (2 ^ 32)) (wrap .i64 (m+1)) (l.set (0+(m.toNat*1)) (.int .u32 (wrap .u32 p)))) none) none))
def Ub(r0:Nat->LA->O R)(c:LA)(a:Nat)(f g:Bool)(d:LA)(b:Nat)(h i:Bool)(k0:Nat->Int->Int->LA->O R)(q1:Nat->LA->Int->Int->O R)(j:Nat)(q o:Int)(l:LA):O R:=(cond (decide (o<(j:Int))) (cond (decide (o<(a:Int))) (cond (Ab o a) (Am .u32 (c.drop (o.toNat*1)) fun s=>q1 j l (wrap .u64 (q+(wrap .u64 s))) o) none) (q1 j l q o)) (Df N (l.take (j*1)) j false true fun t u=>r0 t u))
def Ge(r0:Nat->LA->O R)(c:LA)(a:Nat)(f g:Bool)(d:LA)(b:Nat)(h i:Bool):Nat->Nat->Int->Int->LA->O R
|0=>fun _ _ _ _=>none
|n+1=>Ub N r0 c a f g d b h i (Ge r0 c a f g d b h i n) (fun j l=>Sh N (Ge r0 c a f g d b h i n) r0 c a f g d b h i j l)
def LH(N:Nat)(r0:Nat->LA->O R)(q0:Nat->Int->Int->LA->O R)(c:LA)(a:Nat)(f g:Bool)(d:LA)(b:Nat)(h i:Bool):O R:=(cond ((decide (0<=(wrap .i64 ((Ij (a:Int) (b:Int))+1))))&&((decide ((wrap .i64 ((Ij (a:Int) (b:Int))+1))<=(wrap .i64 ((Ij (a:Int) (b:Int))+1))))&&((decide ((wrap .i64 ((Ij (a:Int) (b:Int))+1))<=140737488355328))&&(decide (((wrap .i64 ((Ij (a:Int) (b:Int))+1))*((4:Nat):Int))<=140737488355328))))) (q0 ((wrap .i64 ((Ij (a:Int) (b:Int))+1)).toNat) 0 0 (replicate ((wrap .i64 ((Ij (a:Int) (b:Int))+1)).toNat) (.int .u32 0))) none)
def Yg:=(Ak fun N c a f g d b h i r0=>LH (R:=R) N r0 (Ge N r0 c a f g d b h i N) c a f g d b h i).1
def RQ(c a f g d b h i r0):(@Yg R N c a f g d b h i r0)=(LH N r0 (Ge N r0 c a f g d b h i N) c a f g d b h i):=by rw[Yg,(Ak _).2]
def XF:Hints:={H:=hK 3 (hS (hK 1 (hS (hP [0,1,5,6,7] (hK 1 (hS (hS (hJ [0,1,5,6,7] hL hL) hL) hL))) hL)) hL),nils:=[(4,1)],modes:=[(2,1)]}
def cR:Vc:=[Hg N]
def XG(F:KF R):=Mp Tryz.f141 XF (cR N) [] N F
def lX(c:LA)(a:Nat)(f g:Bool)(d:LA)(b:Nat)(h i:Bool)(j:Nat)(l:LA)(K:St->O R):=fun p m=>K ⟨[(0,.imm c a 1 f g),(1,.imm d b 1 h i),(5,Ahf 0 j),(6,.int .u64 p),(7,iv m)],hq [bQ 1 l]⟩
def XH(c:LA)(a:Nat)(f g:Bool)(d:LA)(b:Nat)(h i:Bool)(K:St->O R):=fun j q o l=>K ⟨[(0,.imm c a 1 f g),(1,.imm d b 1 h i),(5,Ahf 0 j),(6,.int .u64 q),(7,iv o)],hq [bQ 1 l]⟩
def aK Q0 (F:KF R) (c a f g d b h i j l):lX c a f g d b h i j l (Ba (XG N F (pz 5574721) [Q0]))=(Sh N (XH c a f g d b h i Q0) (Ga F) c a f g d b h i j l):=by kernel_rfl
def aL(F:KF R)(c a f g d b h i):∀ n,XH c a f g d b h i (A3 (XG N F (pz 5444) []) n)=(Ge N (Ga F) c a f g d b h i n):=Mo fun n e=>(ZX (Ub N (Ga F) c a f g d b h i) e (kP fun j l=>(jW ..).trans ((aK ..).trans (m_ (Sh _ · _ _ _ _ _ _ _ _ _ _ _) e))):_)
def cS:=Dm N 141 (cR N) XF (fun
|[.imm c a 1 f g,.imm d b 1 h i],[]=>some fun _ k=>Yg N c a f g d b h i (Ga k)
| _,_=>none) fun _ _=>by split;intro R F;exact(Dw (LH N (Ga F) · _ _ _ _ _ _ _ _) ((lW ..).trans (aL ..)):_).trans (RQ ..).symm;trivial
def XI(N:Nat)(c:LA)(b:Nat)(d e:Bool)(a:Int)(r0:Int->O R):O R:=(cond (decide ((wrap .i64 (Int.tdiv a 32))>=(b:Int))) (r0 0) (cond (Ab (wrap .i64 (Int.tdiv a 32)) b) (Am .u32 (c.drop (((wrap .i64 (Int.tdiv a 32)).toNat)*1)) fun f=>cond (decide ((wrap .u64 (Int.tmod a 32))<0)) none (r0 (lL .u32 (Int.fdiv f (2 ^ (min ((wrap .u64 (Int.tmod a 32)).toNat) 32))) 1))) none))
def UF:=(Ak (@XI R)).1
def RR:@UF R=@XI R:=(Ak _).2
def lY(F:KF R):Int->O R:=fun g=>F (.int .u32 g) []
def oU:=Dm N 231 [] G4 (fun
|[.imm c b 1 d e,.int .i64 a],[]=>some fun _ k=>UF N c b d e a (lY k)
| _,_=>none) fun _ _=>by split;intro R F;dsimp only;rw[RR];kernel_rfl;trivial
def Kr(N:Nat)(r0:Int->O R)(a b:Nat)(c d:LA)(k0:Int->O R)(f:Int):O R:=(cond (decide (f>=0)) (cond (Ab f a) (Am .u32 (c.drop (0+(f.toNat*1))) fun q=>cond (Ab f b) (Am .u32 (d.drop (0+(f.toNat*1))) fun r=>cond (decide (q<r)) (r0 (-1)) (cond (Ab f a) (Am .u32 (c.drop (0+(f.toNat*1))) fun s=>cond (Ab f b) (Am .u32 (d.drop (0+(f.toNat*1))) fun t=>cond (decide (s>t)) (r0 1) (k0 (wrap .i64 (f - 1)))) none) none)) none) none) (r0 0))
def Fm(r0:Int->O R)(a b:Nat)(c d:LA):Nat->Int->O R
|0=>fun _=>none
|n+1=>Kr N r0 a b c d (Fm r0 a b c d n)
def Qg(r0:Int->O R)(q0:Nat->Nat->LA->LA->Int->O R)(g:LA)(h:Nat)(o i:Bool)(j:LA)(l:Nat)(p m:Bool):O R:=(Df N g h false i fun a c=>Df N j l false m fun b d=>cond ((a:Int) != (b:Int)) (cond (decide ((a:Int)<(b:Int))) (r0 (-1)) (r0 1)) (q0 a b c d (wrap .i64 ((a:Int) - 1))))
def Og:=(Ak fun N g h o i j l p m r0=>Qg (R:=R) N r0 (fun a b c d=>Fm N r0 a b c d N) g h o i j l p m).1
def Z1(g h o i j l p m r0):(@Og R N g h o i j l p m r0)=(Qg N r0 (fun a b c d=>Fm N r0 a b c d N) g h o i j l p m):=by rw[Og,(Ak _).2]
def GG:Vc:=[Hg N]
def XJ(F:KF R):=Mp Tryz.f194 cB (GG N) [] N F
def XK(a b:Nat)(c d:LA)(K:St->O R):=fun f=>K ⟨[(0,Ahf 0 a),(1,Ahf 1 b),(5,iv f)],hq [bQ 1 c,bQ 1 d]⟩
def LI(F:KF R)(a b c d):∀ n,XK a b c d (A3 (XJ N F (pz 5444) []) n)=(Fm N (He F) a b c d n):=Mo fun n e=>(Dw (Kr N (He F) a b c d) e:_)
def aM:=Dm N 194 (GG N) cB (fun
|[.imm g h 1 o i,.imm j l 1 p m],[]=>some fun _ k=>Og N g h o i j l p m (He k)
| _,_=>none) fun _ _=>by split;intro R F;exact(Dw (Qg N (He F) · _ _ _ _ _ _ _ _) (rz fun a b c d=>(lW ..).trans (LI ..)):_).trans (Z1 ..).symm;trivial
def Uc(N:Nat)(r0:Bool->O R)(b:Bool)(a:LA):O R:=(Am .i64 (a.drop 20) fun i=>cond ((decide (i<1))==false) (Am .i64 (a.drop 20) fun j=>cond (cond false true (decide (j>48))) (r0 false) (Am .i64 (a.drop 19) fun l=>cond ((l != 1)==false) (Am .i64 (a.drop 20) fun m=>Am .i64 (a.drop 12) fun o=>r0 (cond false true (decide (m<=o)))) (r0 true))) (r0 false))
def Yh(N:Nat)(r0:Bool->O R)(c d f g:Int)(b:Bool)(a:LA)(k0:Int->O R)(q1:O R)(h:Int):O R:=(cond (decide (h<4)) (cond (Ab h 4) (cond (beq (h.toNat*1) 0) (cond ((decide (c<0))==false) (cond (cond false true (decide (c>24))) (r0 false) (k0 (wrap .i64 (h+1)))) (r0 false)) (cond (beq (h.toNat*1) 1) (cond ((decide (d<0))==false) (cond (cond false true (decide (d>24))) (r0 false) (k0 (wrap .i64 (h+1)))) (r0 false)) (cond (beq (h.toNat*1) 2) (cond ((decide (f<0))==false) (cond (cond false true (decide (f>24))) (r0 false) (k0 (wrap .i64 (h+1)))) (r0 false)) (cond (beq (h.toNat*1) 3) (cond ((decide (g<0))==false) (cond (cond false true (decide (g>24))) (r0 false) (k0 (wrap .i64 (h+1)))) (r0 false)) none)))) none) (Am .i64 (a.drop 19) fun p=>cond ((p != 0)==true) (Am .i64 (a.drop 19) fun q=>cond ((cond true (q != 1) false)==true) (Am .i64 (a.drop 19) fun r=>cond (cond true (r != 2) false) (r0 false) q1) q1) q1))
def La(r0:Bool->O R)(c d f g:Int)(b:Bool)(a:LA):Nat->Int->O R
|0=>fun _=>none
|n+1=>Yh N r0 c d f g b a (La r0 c d f g b a n) (Uc N r0 b a)
def EK(N:Nat)(r0:Bool->O R)(q0:Int->Int->Int->Int->Int->O R)(a:LA)(b:Bool):O R:=(Am .i64 (a.drop 10) fun c=>Am .i64 (a.drop 11) fun d=>Am .i64 (a.drop 12) fun f=>Am .i64 (a.drop 15) fun g=>q0 c d f g 0)
def CO:=(Ak fun N a b r0=>EK (R:=R) N r0 (fun c d f g=>La N r0 c d f g b a N) a b).1
def LJ(a b r0):(@CO R N a b r0)=(EK N r0 (fun c d f g=>La N r0 c d f g b a N) a b):=by rw[CO,(Ak _).2]
def RS:Hints:={H:=hK 1 (hS (hK 1 (hS (hP [1,13,14] hL) hL)) (hJ [1] hL hL))}
def RT(F:KF R):=Mp Tryz.f104 RS [] [] N F
def j7(b:Bool)(a:LA)(K:St->O R):=K ⟨[(1,op 0)],hq [bP b 0 a]⟩
def j8(c d f g:Int)(b:Bool)(a:LA)(K:St->O R):=fun h=>K ⟨[(1,op 0),(13,.agg [iv c,iv d,iv f,iv g]),(14,iv h)],hq [bP b 0 a]⟩
def XL(F:KF R)(b a):j7 b a (Ba (RT N F (pz 85) []))=(Uc N (C1 F) b a):=by kernel_rfl
def XM(F:KF R)(c d f g b a):∀ n,j8 c d f g b a (A3 (RT N F (pz 324) []) n)=(La N (C1 F) c d f g b a n):=Mo fun n e=>(ZX (Yh N (C1 F) c d f g b a) e ((jW ..).trans (XL ..)):_)
def lZ:=Dm N 104 [] RS (fun
|[.pagg a b],[]=>some fun _ k=>CO N a b (C1 k)
| _,_=>none) fun _ _=>by split;intro R F;exact(Dw (EK N (C1 F) · _ _) (rz fun c d f g=>(lW ..).trans (XM ..)):_).trans (LJ ..).symm;trivial
def Gn(N:Nat)(k0:Int->Int->Int->O R)(r0:Bool->O R)(b:LA)(d:Nat)(c:Bool)(f:Int)(a:LA)(j h l:Int)(i:LA):O R:=(cond ((decide (h>0))==true) (Am .i64 (i.drop 1) fun o=>D6 2 (a.drop 4) fun p q=>cond (Ab (wrap .i64 (h - 1)) q) (Am .i64 ((p.drop (((wrap .i64 (h - 1)).toNat)*2)).drop 1) fun r=>cond (cond true (decide (o<r)) false) (r0 false) (Am .i64 i fun s=>k0 (wrap .i64 (j+s)) f (wrap .i64 (l+1)))) none) (Am .i64 i fun t=>k0 (wrap .i64 (j+t)) f (wrap .i64 (l+1))))
def Fz(r0:Bool->O R)(b:LA)(d:Nat)(c:Bool)(a:LA)(k0:Int->Int->Int->O R)(q1:Int->Int->Int->Int->LA->O R)(m f g:Int):O R:=(cond (decide (g<f)) (cond (Ab g d) (cond (ble 2 ((b.drop (g.toNat*2)).length)) (cond ((!c)||(Bs ((b.drop (g.toNat*2)).take 2))) (cond ((beq (((b.drop (g.toNat*2)).take 2).length) 2)&&((ble 2 2)&&(!false))) (Am .i64 (setCells [Ahg,Ahg] 0 ((b.drop (g.toNat*2)).take 2)) fun u=>Ck N 1 1048576 [.int .i64 u] 1 false true fun v=>cond ((!v)==false) (Am .i64 ((setCells [Ahg,Ahg] 0 ((b.drop (g.toNat*2)).take 2)).drop 1) fun w=>Ck N (-1048576) 1048576 [.int .i64 w] 1 false true fun x=>cond (cond false true (!x)) (r0 false) (q1 f m g g (setCells [Ahg,Ahg] 0 ((b.drop (g.toNat*2)).take 2)))) (r0 false)) none) none) none) none) (Am .i64 (a.drop 3) fun y=>Am .i64 (a.drop 2) fun z=>r0 (m==(wrap .i64 (y - z)))))
def B0(r0:Bool->O R)(b:LA)(d:Nat)(c:Bool)(a:LA):Nat->Int->Int->Int->O R
|0=>fun _ _ _=>none
|n+1=>Fz N r0 b d c a (B0 r0 b d c a n) (fun f=>Gn N (B0 r0 b d c a n) r0 b d c f a)
def Io(N:Nat)(r0:Bool->O R)(q0:LA->Nat->Int->Int->Int->O R)(a:LA)(c:Bool):O R:=(D6 2 (a.drop 4) fun ab aa=>cond (decide ((aa:Int)>8)) (r0 false) (D6 2 (a.drop 4) fun b d=>q0 b d 0 (d:Int) 0))
def Fc:=(Ak fun N a c r0=>Io (R:=R) N r0 (fun b d=>B0 N r0 b d c a N) a c).1
def Oh(a c r0):(@Fc R N a c r0)=(Io N r0 (fun b d=>B0 N r0 b d c a N) a c):=by rw[Fc,(Ak _).2]
def Pk:Hints:={H:=hK 3 (hS (hK 1 (hS (hP [1,3,11,12,13] (hK 2 (hS (hS (hK 1 (hJ [1,3,4,5,11,12,13] hL hL)) hL) hL))) hL)) hL)}
def Si:Vc:=[X5 N]
def Pm(F:KF R):=Mp Tryz.f105 Pk (Si N) [] N F
def EX(b:LA)(d:Nat)(c:Bool)(f:Int)(a:LA)(K:St->O R):=fun j h l i=>K ⟨[(1,op 0),(3,iv j),(4,iv h),(5,op 1),(11,.imm b d 2 false c),(12,iv f),(13,iv l)],hq [bP c 0 a,bQ 0 i]⟩
def Pn(b:LA)(d:Nat)(c:Bool)(a:LA)(K:St->O R):=fun m f g=>K ⟨[(1,op 0),(3,iv m),(11,.imm b d 2 false c),(12,iv f),(13,iv g)],hq [bP c 0 a]⟩
def Yi Q0 (F:KF R) (b d c f a):EX b d c f a (Ba (Pm N F (pz 89195781) [Q0]))=(Gn N (Pn b d c a Q0) (C1 F) b d c f a):=by kernel_rfl
def Yj(F:KF R)(b d c a):∀ n,Pn b d c a (A3 (Pm N F (pz 5444) []) n)=(B0 N (C1 F) b d c a n):=Mo fun n e=>(ZX (Fz N (C1 F) b d c a) e (uE fun f=>(jW ..).trans ((Yi ..).trans (m_ (Gn _ · _ _ _ _ _ _) e))):_)
def IK:=Dm N 105 (Si N) Pk (fun
|[.pagg a c],[]=>some fun _ k=>Fc N a c (C1 k)
| _,_=>none) fun _ _=>by split;intro R F;exact(Dw (Io N (C1 F) · _ _) (kP fun b d=>(lW ..).trans (Yj ..)):_).trans (Oh ..).symm;trivial
def Jw(r0:Bool->O R)(b:LA)(a:Nat)(c d:Bool)(f:Int)(k0:Int->Int->O R)(h g:Int):O R:=(cond (decide (g<h)) (cond (Ab g a) (Am .i64 (b.drop (g.toNat*1)) fun i=>Ck N 0 (wrap .i64 (f - 1)) [.int .i64 i] 1 false true fun j=>cond ((!j)==false) (cond ((decide (g>0))==true) (cond (Ab (wrap .i64 (g - 1)) a) (Am .i64 (b.drop (((wrap .i64 (g - 1)).toNat)*1)) fun l=>cond (cond false true (cond true (decide (i<=l)) false)) (r0 false) (k0 h (wrap .i64 (g+1)))) none) (k0 h (wrap .i64 (g+1)))) (r0 false)) none) (r0 true))
def Ew(r0:Bool->O R)(b:LA)(a:Nat)(c d:Bool)(f:Int):Nat->Int->Int->O R
|0=>fun _ _=>none
|n+1=>Jw N r0 b a c d f (Ew r0 b a c d f n)
def N9(N:Nat)(r0:Bool->O R)(q0:Int->Int->O R)(b:LA)(a:Nat)(c d:Bool)(f:Int):O R:=(q0 (a:Int) 0)
def Jx:=(Ak fun N b a c d f r0=>N9 (R:=R) N r0 (Ew N r0 b a c d f N) b a c d f).1
def Wr(b a c d f r0):(@Jx R N b a c d f r0)=(N9 N r0 (Ew N r0 b a c d f N) b a c d f):=by rw[Jx,(Ak _).2]
def Z2:Hints:={H:=hK 1 (hS (hK 1 (hS (hP [0,1,7,8,9] hL) hL)) hL)}
def CP:Vc:=[X5 N]
def TD(F:KF R):=Mp Tryz.f106 Z2 (CP N) [] N F
def TE(b:LA)(a:Nat)(c d:Bool)(f:Int)(K:St->O R):=fun h g=>K ⟨[(0,.imm b a 1 c d),(1,iv f),(7,.imm b a 1 c d),(8,iv h),(9,iv g)],[]⟩
def IL(F:KF R)(b a c d f):∀ n,TE b a c d f (A3 (TD N F (pz 324) []) n)=(Ew N (C1 F) b a c d f n):=Mo fun n e=>(Dw (Jw N (C1 F) b a c d f) e:_)
def XN:=Dm N 106 (CP N) Z2 (fun
|[.imm b a 1 c d,.int .i64 f],[]=>some fun _ k=>Jx N b a c d f (C1 k)
| _,_=>none) fun _ _=>by split;intro R F;exact(Dw (N9 N (C1 F) · _ _ _ _ _) ((lW ..).trans (IL ..)):_).trans (Wr ..).symm;trivial
def CQ(r0:Bool->O R)(c:Int)(b:Bool)(a:LA):O R:=(Am .i64 (a.drop 2) fun d=>Am .i64 (a.drop 3) fun e=>Am .i64 (a.drop 8) fun f=>Am .i64 (a.drop 9) fun g=>Ck N d e [.int .i64 f,.int .i64 g] 2 false true fun h=>cond (!h) (r0 false) (Am .i64 (a.drop 5) fun i=>Am .i64 (a.drop 13) fun j=>Am .i64 (a.drop 14) fun l=>Am .i64 (a.drop 17) fun m=>Ck N 0 1048576 [.int .i64 i,.int .i64 j,.int .i64 l,.int .i64 m] 4 false true fun n=>cond (!n) (r0 false) (Am .i64 (a.drop 19) fun o=>cond (o==2) (Am .i64 (a.drop 2) fun p=>Am .i64 (a.drop 3) fun q=>Am .i64 (a.drop 21) fun r=>Ck N p q [.int .i64 r] 1 false true fun s=>cond (!s) (r0 false) (cond (ble 22 a.length) (Fc N (a.take 22) b fun t=>cond (t==true) (D6 1 (a.drop 18) fun u v=>Jx N u v false b c fun w=>r0 (cond true w false)) (r0 false)) none)) (Am .i64 (a.drop 21) fun x=>cond (x != 0) (r0 false) (cond (ble 22 a.length) (Fc N (a.take 22) b fun y=>cond (y==true) (D6 1 (a.drop 18) fun z aa=>Jx N z aa false b c fun ab=>r0 (cond true ab false)) (r0 false)) none)))))
def Yk(r0:Bool->O R)(c:Int)(b:Bool)(a:LA)(q1:O R):O R:=(Am .i64 (a.drop 2) fun ac=>Am .i64 (a.drop 3) fun ad=>Am .i64 (a.drop 6) fun ae=>Am .i64 (a.drop 7) fun af=>Am .i64 (a.drop 16) fun ag=>Ck N 0 1048576 [.int .i64 ac,.int .i64 ad,.int .i64 ae,.int .i64 af,.int .i64 ag] 5 false true fun ah=>cond ((!ah)==false) (Am .i64 (a.drop 2) fun ai=>Am .i64 (a.drop 3) fun aj=>cond (cond false true (decide (ai>aj))) (r0 false) q1) (r0 false))
def Ud(r0:Bool->O R)(c:Int)(b:Bool)(a:LA):O R:=Yk N r0 c b a (CQ N r0 c b a)
def EL(r0:Bool->O R)(q0:O R)(a:LA)(b:Bool)(c:Int):O R:=(Ck N 1 24 [.int .i64 c] 1 false true fun ak=>cond ((!ak)==false) (cond (ble 22 a.length) (CO N (a.take 22) b fun al=>cond (cond false true (!al)) (r0 false) q0) none) (r0 false))
def CS:=(Ak fun N a b c r0=>EL (R:=R) N r0 (Ud N r0 c b a) a b c).1
def LK(a b c r0):(@CS R N a b c r0)=(EL N r0 (Ud N r0 c b a) a b c):=by rw[CS,(Ak _).2]
def RU:Hints:={H:=hK 1 (hJ [1,2] hL (hJ [1,2] hL hL))}
def XO:Vc:=[X5 N,lZ N,IK N,XN N]
def RV(F:KF R):=Mp Tryz.f48 RU (XO N) [] N F
def j9(c:Int)(b:Bool)(a:LA)(K:St->O R):=K ⟨[(1,iv c),(2,op 0)],hq [bP b 0 a]⟩
def j_(c:Int)(b:Bool)(a:LA)(K:St->O R):=K ⟨[(1,iv c),(2,op 0)],hq [bP b 0 a]⟩
def XP(F:KF R)(c b a):j9 c b a (Ba (RV N F (pz 85) []))=(CQ N (C1 F) c b a):=by kernel_rfl
def XQ(F:KF R)(c b a):j_ c b a (Ba (RV N F (pz 21) []))=(Ud N (C1 F) c b a):=(Dw (Yk N (C1 F) c b a) ((jW ..).trans (XP ..)):_)
def l7:=Dm N 48 (XO N) RU (fun
|[.pagg a b,.int .i64 c],[]=>some fun _ k=>CS N a b c (C1 k)
| _,_=>none) fun _ _=>by split;intro R F;exact(Dw (EL N (C1 F) · _ _ _) ((jW ..).trans (XQ ..)):_).trans (LK ..).symm;trivial
def Fn(N:Nat)(r0:Nat->Nat->LA->Bool->LA->O R)(f:Int)(d:LA)(e:Bool)(b:LA)(g:Bool)(c:LA)(i j:Nat):O R:=(cond ((ble (i+1) 140737488355328)&&(ble ((i+1)*8) 140737488355328)) (cond (ble 3 c.length) (cond ((beq ((c.take 3).length) 3)&&(ble 3 3)) (cond ((ble (j+1) 140737488355328)&&(ble ((j+1)*56) 140737488355328)) (r0 (i+1) (j+1) ((d.take (i*1))++[.int .i64 f]) (e||(g||false)) ((b.take (j*3))++((setCells [.bool false,.nsl,.nsl] 0 (c.take 3)).take 3))) none) none) none) none)
def Jy(r0:Nat->Nat->LA->Bool->LA->O R)(q0:Nat->Nat->O R)(f:Int)(c:LA)(g:Bool)(a h:Nat)(d:LA)(e:Bool)(b:LA):O R:=(cond (decide ((a:Int)>=2)) (cond (Ab (wrap .i64 ((a:Int) - 1)) h) (cond (ble 3 ((b.drop (0+(((wrap .i64 ((a:Int) - 1)).toNat)*3))).length)) (cond (Ab (wrap .i64 ((a:Int) - 2)) h) (cond (ble 3 ((b.drop (0+(((wrap .i64 ((a:Int) - 2)).toNat)*3))).length)) (Sf N ((b.drop (0+(((wrap .i64 ((a:Int) - 1)).toNat)*3))).take 3) e ((b.drop (0+(((wrap .i64 ((a:Int) - 2)).toNat)*3))).take 3) e fun n=>cond (Ab (wrap .i64 ((a:Int) - 1)) a) (Am .i64 (d.drop (0+(((wrap .i64 ((a:Int) - 1)).toNat)*1))) fun o=>A4 N (wrap .i64 (f - o)) fun p=>Kc N n false p false fun l=>cond ((beq 0 0)&&((beq l.length 3)&&(beq 3 3))) (cond (ble 3 c.length) (cond (Ab (wrap .i64 ((a:Int) - 1)) h) (cond (ble 3 ((b.drop (0+(((wrap .i64 ((a:Int) - 1)).toNat)*3))).length)) (Sf N (c.take 3) g ((b.drop (0+(((wrap .i64 ((a:Int) - 1)).toNat)*3))).take 3) e fun q=>cond (Ab (wrap .i64 ((a:Int) - 1)) a) (Am .i64 (d.drop (0+(((wrap .i64 ((a:Int) - 1)).toNat)*1))) fun r=>cond (Ab (wrap .i64 ((a:Int) - 2)) a) (Am .i64 (d.drop (0+(((wrap .i64 ((a:Int) - 2)).toNat)*1))) fun s=>A4 N (wrap .i64 (r - s)) fun t=>Kc N q false t false fun m=>cond ((beq 0 0)&&((beq m.length 3)&&(beq 3 3))) (cond (ble 3 l.length) (cond (ble 3 m.length) (I5 N (l.take 3) false (m.take 3) false fun u=>cond (u==0) (cond ((decide ((0:Int)<=(0:Int)))&&((decide (0<=(wrap .i64 ((a:Int) - 1))))&&((decide ((wrap .i64 ((a:Int) - 1))<=(a:Int)))&&(decide ((a:Int)<=(a:Int)))))) (cond ((decide ((0:Int)<=(0:Int)))&&((decide (0<=(wrap .i64 ((a:Int) - 1))))&&((decide ((wrap .i64 ((a:Int) - 1))<=(h:Int)))&&(decide ((h:Int)<=(h:Int)))))) (q0 ((wrap .i64 ((a:Int) - 1)).toNat) ((wrap .i64 ((a:Int) - 1)).toNat)) none) none) (q0 a h)) none) none) none) none) none) none) none) none) none) none) none) none) none) none) (q0 a h))
def Dq:=(Ak fun N f c g a h d e b r0=>Jy (R:=R) N r0 (Fn N r0 f d e b g c) f c g a h d e b).1
def Po(f c g a h d e b r0):(@Dq R N f c g a h d e b r0)=(Jy N r0 (Fn N r0 f d e b g c) f c g a h d e b):=by rw[Dq,(Ak _).2]
def Ue:Vc:=[CI N,Cd N,Of N,Yc N]
def IM(F:KF R):=Mp Tryz.f123 md (Ue N) [100000,100001,100002] N F
def IN(f:Int)(d:LA)(e:Bool)(b:LA)(g:Bool)(c:LA)(K:St->O R):=fun i j=>K ⟨[(0,.optr 100000 0),(1,iv f),(5,op 0)],[(100000,bN 0 [.own 100001 0 i,.own 100002 0 j]),(100001,bQ 1 d),(100002,bP e 3 b),(300000,bP g 0 c)]⟩
def AO(F:KF R)(f d e b g c):IN f d e b g c (Ba (IM N F (pz 85) []))=(Fn N (qJ F) f d e b g c):=by kernel_rfl
def Uf:=Dm N 123 (Ue N) md (fun
|[.optr 100000 0,.int .i64 f,.pagg c g],[(100000,⟨false,false,false,false,0,[.own 100001 0 a,.own 100002 0 h],false,none⟩),(100001,⟨false,false,true,false,1,d,false,none⟩),(100002,⟨false,false,true,e,3,b,false,none⟩)]=>some fun _ k=>Dq N f c g a h d e b (qJ k)
| _,_=>none) fun _ _=>by split;intro R F;exact(Dw (Jy N (qJ F) · _ _ _ _ _ _ _ _) ((jW ..).trans (AO ..)):_).trans (Po ..).symm;trivial
def Gp(r0:LA->Bool->O R)(a:LA)(c:Nat)(b:Bool)(k0:Int->Int->Int->Nat->Nat->LA->LA->Bool->LA->O R)(l m d:Int)(h i:Nat)(g o:LA)(j:Bool)(p:LA):O R:=(cond (decide (d<m)) (cond (Ab d c) (cond (ble 2 ((a.drop (d.toNat*2)).length)) (cond ((!b)||(Bs ((a.drop (d.toNat*2)).take 2))) (cond ((beq (((a.drop (d.toNat*2)).take 2).length) 2)&&((ble 2 2)&&(!false))) (Am .i64 (setCells [Ahg,Ahg] 0 ((a.drop (d.toNat*2)).take 2)) fun r=>cond (ble 3 g.length) (Am .i64 (setCells [Ahg,Ahg] 0 ((a.drop (d.toNat*2)).take 2)) fun u=>A4 N u fun v=>Am .i64 ((setCells [Ahg,Ahg] 0 ((a.drop (d.toNat*2)).take 2)).drop 1) fun w=>A4 N w fun x=>Kc N v false x false fun y=>Sf N (g.take 3) false y false fun q=>cond ((beq q.length 3)&&((ble 3 g.length)&&(!false))) (cond (ble 3 ((setCells g 0 q).length)) (Dq N (wrap .i64 (l+r)) ((setCells g 0 q).take 3) false h i o j p fun z aa ab ac ad=>k0 (wrap .i64 (l+r)) m (wrap .i64 (d+1)) z aa (setCells g 0 q) ab ac ad) none) none) none) none) none) none) none) (r0 [.imm (o.take (h*1)) h 1 false false,.imm (p.take (i*3)) i 3 false j] (j||false)))
def C3(r0:LA->Bool->O R)(a:LA)(c:Nat)(b:Bool):Nat->Int->Int->Int->Nat->Nat->LA->LA->Bool->LA->O R
|0=>fun _ _ _ _ _ _ _ _ _=>none
|n+1=>Gp N r0 a c b (C3 r0 a c b n)
def Jz(r0:LA->Bool->O R)(q0:LA->Nat->Int->Int->Int->Nat->Nat->LA->LA->Bool->LA->O R)(f:LA)(b:Bool):O R:=(Am .i64 (f.drop 2) fun ae=>A4 N 0 fun s=>cond ((beq s.length 3)&&(ble 3 3)) (Am .i64 (f.drop 2) fun af=>A4 N 0 fun t=>cond ((beq 0 0)&&((beq t.length 3)&&(beq 3 3))) (D6 2 (f.drop 4) fun a c=>q0 a c af (c:Int) 0 1 1 t [.int .i64 ae] false (setCells [.bool false,.nsl,.nsl] 0 s)) none) none)
def Hz:=(Ak fun N f b r0=>Jz (R:=R) N r0 (fun a c=>C3 N r0 a c b N) f b).1
def Pp(f b r0):(@Hz R N f b r0)=(Jz N r0 (fun a c=>C3 N r0 a c b N) f b):=by rw[Hz,(Ak _).2]
def Sj:Hints:={H:=hK 3 (hS (hK 1 (hS (hP [2,3,4,5,18,19,20] hL) hL)) hL),modes:=[(3,0)]}
def Ug:Vc:=[Cd N,Of N,CI N,Uf N]
def IP(F:KF R):=Mp Tryz.f66 Sj (Ug N) [] N F
def IQ(a:LA)(c:Nat)(b:Bool)(K:St->O R):=fun l m d h i g o j p=>K ⟨[(2,op 0),(3,op 1),(4,iv l),(5,op 2),(18,.imm a c 2 false b),(19,iv m),(20,iv d)],hq [bN 0 [.nsl,.nsl],bN 0 [Ahf 3 h,Ahf 4 i],bQ 0 g,bQ 1 o,bP j 3 p]⟩
def AP(F:KF R)(a c b):∀ n,IQ a c b (A3 (IP N F (pz 5444) []) n)=(C3 N (WE F) a c b n):=Mo fun n e=>(Dw (Gp N (WE F) a c b) e:_)
def LL:=Dm N 66 (Ug N) Sj (fun
|[.pagg f b],[]=>some fun _ k=>Hz N f b (WE k)
| _,_=>none) fun _ _=>by split;intro R F;exact(Dw (Jz N (WE F) · _ _) (kP fun a c=>(lW ..).trans (AP ..)):_).trans (Pp ..).symm;trivial
def Ek(N:Nat)(k0:Int->O R)(r0:Nat->LA->O R)(a:Nat)(b:LA)(k1:Int->Nat->Nat->Int->LA->O R)(c:Int)(i h:Nat)(f:Int)(g:LA):O R:=(cond (decide (f<(h:Int))) (cond (Ab f h) (Am .i64 (g.drop (i+(f.toNat*1))) fun j=>cond (Ab (wrap .i64 (f - 1)) h) (Am .i64 (g.drop (i+(((wrap .i64 (f - 1)).toNat)*1))) fun l=>cond (j != l) (cond (Ab f h) (Am .i64 (g.drop (i+(f.toNat*1))) fun m=>cond (Ab c a) (cond ((beq 1 1)&&((ble ((0+(c.toNat*1))+1) g.length)&&(!false))) (k1 (wrap .i64 (c+1)) i h (wrap .i64 (f+1)) (g.set (0+(c.toNat*1)) (.int .i64 m))) none) none) none) (k1 c i h (wrap .i64 (f+1)) g)) none) none) (cond ((decide (0<=c))&&((decide (c<=(a:Int)))&&((decide ((a:Int)<=(a:Int)))&&(decide ((a:Int)<=(a:Int)))))) (cond ((decide ((0:Int)<=(0:Int)))&&((decide (0<=c))&&((decide (c<=(a:Int)))&&(decide ((a:Int)<=(a:Int)))))) (r0 c.toNat (D8 g (0+(c.toNat*1)) (replicate (a - c.toNat) Ahg))) none) none))
def Bl(k0:Int->O R)(r0:Nat->LA->O R)(a:Nat)(b:LA):Nat->Int->Nat->Nat->Int->LA->O R
|0=>fun _ _ _ _ _=>none
|n+1=>Ek N k0 r0 a b (Bl k0 r0 a b n)
def El(N:Nat)(r0:Nat->LA->O R)(a:Nat)(b:LA)(k0:Int->O R)(q1:Int->Nat->Nat->Int->LA->O R)(d:Int):O R:=(cond (decide (d<(a:Int))) (cond (Ab d a) (Am .i64 (b.drop (0+(d.toNat*1))) fun o=>cond (Ab (wrap .i64 (d - 1)) a) (Am .i64 (b.drop (0+(((wrap .i64 (d - 1)).toNat)*1))) fun p=>cond (o==p) (cond ((decide (0<=d))&&((decide (d<=(a:Int)))&&((decide ((a:Int)<=(a:Int)))&&(decide ((a:Int)<=(a:Int)))))) (q1 d (0+(d.toNat*1)) (a - d.toNat) 1 b) none) (k0 (wrap .i64 (d+1)))) none) none) (r0 a b))
def A8(r0:Nat->LA->O R)(a:Nat)(b:LA):Nat->Int->O R
|0=>fun _=>none
|n+1=>El N r0 a b (A8 r0 a b n) (Bl N (A8 r0 a b n) r0 a b N)
def F0(N:Nat)(r0:Nat->LA->O R)(q0:Int->O R)(a:Nat)(b:LA):O R:=(cond (decide ((a:Int)<2)) (r0 a b) (q0 1))
def B3:=(Ak fun N a b r0=>F0 (R:=R) N r0 (A8 N r0 a b N) a b).1
def Lb(a b r0):(@B3 R N a b r0)=(F0 N r0 (A8 N r0 a b N) a b):=by rw[B3,(Ak _).2]
def L8:Hints:={H:=hK 2 (hS (hK 1 (hS (hP [0,3] (hK 1 (hS (hS (hK 1 (hS (hK 1 (hS (hK 1 (hS (hP [0,3,4,5] hL) hL)) hL)) hL)) hL) hL))) hL)) hL),nils:=[(2,1)],modes:=[(2,1)]}
def L9(F:KF R):=Mp Tryz.f126 L8 [] [100000] N F
def Cg(F:KF R):Nat->LA->O R:=fun q r=>F (.own 100000 0 q) [(100000,bQ 1 r)]
def Yl(a:Nat)(b:LA)(K:St->O R):=fun c i h f g=>K ⟨[(0,.own 100000 0 a),(3,iv c),(4,.own 100000 i h),(5,iv f)],[(100000,bQ 1 g)]⟩
def Hi(a:Nat)(b:LA)(K:St->O R):=fun d=>K ⟨[(0,.own 100000 0 a),(3,iv d)],[(100000,bQ 1 b)]⟩
def Ti Q0 (F:KF R) (a b):∀ n,Yl a b (A3 (L9 N F (pz 1413547076) [Q0]) n)=(Bl N (Hi a b Q0) (Cg F) a b n):=Mo fun n e=>(Dw (Ek N (Hi a b Q0) (Cg F) a b) e:_)
def Tj(F:KF R)(a b):∀ n,Hi a b (A3 (L9 N F (pz 1348) []) n)=(A8 N (Cg F) a b n):=Mo fun n e=>(ZX (El N (Cg F) a b) e ((lW ..).trans ((Ti ..).trans (m_ (Bl _ · _ _ _ _) e))):_)
def Mu:=Dm N 126 [] L8 (fun
|[.own 100000 0 a],[(100000,⟨false,false,true,false,1,b,false,none⟩)]=>some fun _ k=>B3 N a b (Cg k)
| _,_=>none) fun _ _=>by split;intro R F;exact(Dw (F0 N (Cg F) · _ _) ((lW ..).trans (Tj ..)):_).trans (Lb ..).symm;trivial
def Vg(N:Nat)(a:Int)(r0:Bool->O R):O R:=(r0 (a != a))
def Qh:=(Ak (@Vg R)).1
def Ws:@Qh R=@Vg R:=(Ak _).2
def XR:=Dm N 188 [] G4 (fun
|[.int .i64 a],[]=>some fun _ k=>Qh N a (C1 k)
| _,_=>none) fun _ _=>by split;intro R F;dsimp only;rw[Ws];kernel_rfl;trivial
def Ey(r0:Int->Bool->O R)(b:LA)(a:Nat)(d f:Bool)(c:Int)(k0:Int->Int->Int->O R)(i g h:Int):O R:=(cond (decide (g<h)) (cond (Ab (wrap .i64 (Int.fdiv (wrap .u64 (wrap .i64 (g+h))) (2 ^ 1))) a) (Am .i64 (b.drop (((wrap .i64 (Int.fdiv (wrap .u64 (wrap .i64 (g+h))) (2 ^ 1))).toNat)*1)) fun j=>Qe N j c fun l=>cond l (k0 i (wrap .i64 ((wrap .i64 (Int.fdiv (wrap .u64 (wrap .i64 (g+h))) (2 ^ 1)))+1)) h) (k0 i g (wrap .i64 (Int.fdiv (wrap .u64 (wrap .i64 (g+h))) (2 ^ 1))))) none) (cond ((decide (g<i))==true) (cond (Ab g a) (Am .i64 (b.drop (g.toNat*1)) fun m=>cond ((m==c)==false) (cond (Ab g a) (Am .i64 (b.drop (g.toNat*1)) fun o=>Qh N o fun p=>cond (p==true) (Qh N c fun q=>r0 g (cond true (cond false true (cond true q false)) false)) (r0 g false)) none) (r0 g true)) none) (r0 g false)))
def Bo(r0:Int->Bool->O R)(b:LA)(a:Nat)(d f:Bool)(c:Int):Nat->Int->Int->Int->O R
|0=>fun _ _ _=>none
|n+1=>Ey N r0 b a d f c (Bo r0 b a d f c n)
def Ds(N:Nat)(r0:Int->Bool->O R)(q0:Int->Int->Int->O R)(b:LA)(a:Nat)(d f:Bool)(c:Int):O R:=(q0 (a:Int) 0 (a:Int))
def Cz:=(Ak fun N b a d f c r0=>Ds (R:=R) N r0 (Bo N r0 b a d f c N) b a d f c).1
def H0(b a d f c r0):(@Cz R N b a d f c r0)=(Ds N r0 (Bo N r0 b a d f c N) b a d f c):=by rw[Cz,(Ak _).2]
def Ip:Hints:={H:=hK 3 (hS (hS (hP [0,1,6,7,8] hL) hL) hL)}
def I7:Vc:=[WZ N,XR N]
def Qi(F:KF R):=Mp Tryz.f132 Ip (I7 N) [] N F
def Da(F:KF R):Int->Bool->O R:=fun r s=>F (.tup [iv r,.bool s]) []
def Qj(b:LA)(a:Nat)(d f:Bool)(c:Int)(K:St->O R):=fun i g h=>K ⟨[(0,.imm b a 1 d f),(1,iv c),(6,iv i),(7,iv g),(8,iv h)],[]⟩
def Nr(F:KF R)(b a d f c):∀ n,Qj b a d f c (A3 (Qi N F (pz 1360) []) n)=(Bo N (Da F) b a d f c n):=Mo fun n e=>(Dw (Ey N (Da F) b a d f c) e:_)
def Sk:=Dm N 132 (I7 N) Ip (fun
|[.imm b a 1 d f,.int .i64 c],[]=>some fun _ k=>Cz N b a d f c (Da k)
| _,_=>none) fun _ _=>by split;intro R F;exact(Dw (Ds N (Da F) · _ _ _ _ _) ((lW ..).trans (Nr ..)):_).trans (H0 ..).symm;trivial
def Sm(b:LA)(c:Bool)(d:Int)(r0:LA->Bool->O R):O R:=(D6 1 b fun m n=>Cz N m n false c d fun a o=>cond o (D6 3 (b.drop 1) fun e p=>cond (Ab a p) (cond (ble 3 ((e.drop (a.toNat*3)).length)) (cond ((beq 0 0)&&((beq (((e.drop (a.toNat*3)).take 3).length) 3)&&(beq 3 3))) (cond (ble 3 (((e.drop (a.toNat*3)).take 3).length)) (r0 (((e.drop (a.toNat*3)).take 3).take 3) c) none) none) none) none) (D6 3 (b.drop 1) fun i q=>cond (Ab a q) (cond (ble 3 ((i.drop (a.toNat*3)).length)) (D6 3 (b.drop 1) fun j r=>cond (Ab (wrap .i64 (a - 1)) r) (cond (ble 3 ((j.drop (((wrap .i64 (a - 1)).toNat)*3)).length)) (Sf N ((i.drop (a.toNat*3)).take 3) c ((j.drop (((wrap .i64 (a - 1)).toNat)*3)).take 3) c fun f=>cond ((beq 0 0)&&((beq f.length 3)&&(beq 3 3))) (cond (ble 3 f.length) (D6 1 b fun s t=>cond (Ab a t) (Am .i64 (s.drop (a.toNat*1)) fun u=>D6 1 b fun v w=>cond (Ab (wrap .i64 (a - 1)) w) (Am .i64 (v.drop (((wrap .i64 (a - 1)).toNat)*1)) fun x=>A4 N (wrap .i64 (u - x)) fun y=>gG N (f.take 3) false y false fun g af=>cond ((beq 0 0)&&((beq g.length 3)&&(beq 3 3))) (D6 3 (b.drop 1) fun l z=>cond (Ab (wrap .i64 (a - 1)) z) (cond (ble 3 ((l.drop (((wrap .i64 (a - 1)).toNat)*3)).length)) (cond (ble 3 g.length) (D6 1 b fun aa ab=>cond (Ab (wrap .i64 (a - 1)) ab) (Am .i64 (aa.drop (((wrap .i64 (a - 1)).toNat)*1)) fun ac=>A4 N (wrap .i64 (d - ac)) fun ad=>Kc N (g.take 3) false ad false fun ae=>L0 N ((l.drop (((wrap .i64 (a - 1)).toNat)*3)).take 3) c ae false fun h=>cond ((beq 0 0)&&((beq h.length 3)&&(beq 3 3))) (cond (ble 3 h.length) (r0 (h.take 3) false) none) none) none) none) none) none) none) none) none) none) none) none) none) none) none))
def By:=(Ak (@Sm R)).1
def Uh:@By R=@Sm R:=(Ak _).2
def O3:=Dm N 74 [Sk N,CI N,Cd N,qS N,Of N,Wj N] J9 (fun
|[.pagg b c,.int .i64 d],[]=>some fun _ k=>By N b c d (WE k)
| _,_=>none) fun _ _=>by split;intro R F;dsimp only;rw[Uh];kernel_rfl;trivial
def Sn(N:Nat)(k0:Int->Int->LA->O R)(r0:Nat->Bool->LA->O R)(a b:Nat)(c d f:LA)(g s:Int):O R:=(cond (Ab g a) (Am .u32 (c.drop (0+(g.toNat*1))) fun u=>cond (decide ((wrap .u64 u)<s)) (cond (Ab g a) (cond ((beq 1 1)&&((ble ((0+(g.toNat*1))+1) f.length)&&(!false))) (k0 1 (wrap .i64 (g+1)) (f.set (0+(g.toNat*1)) (.int .u32 (wrap .u32 (wrap .u64 ((wrap .u64 ((wrap .u64 u)+4294967296)) - s)))))) none) none) (cond (Ab g a) (cond ((beq 1 1)&&((ble ((0+(g.toNat*1))+1) f.length)&&(!false))) (k0 0 (wrap .i64 (g+1)) (f.set (0+(g.toNat*1)) (.int .u32 (wrap .u32 (wrap .u64 ((wrap .u64 u) - s)))))) none) none)) none)
def Ui(r0:Nat->Bool->LA->O R)(a b:Nat)(c d:LA)(k0:Int->Int->LA->O R)(q1:LA->Int->Int->O R)(t p:Int)(f:LA):O R:=(cond (decide (p<(a:Int))) (cond (decide (p<(b:Int))) (cond (Ab p b) (Am .u32 (d.drop (0+(p.toNat*1))) fun v=>q1 f p (wrap .u64 (t+(wrap .u64 v)))) none) (q1 f p t)) (Df N (f.take (a*1)) a false true fun w x=>r0 w true x))
def Gf(r0:Nat->Bool->LA->O R)(a b:Nat)(c d:LA):Nat->Int->Int->LA->O R
|0=>fun _ _ _=>none
|n+1=>Ui N r0 a b c d (Gf r0 a b c d n) (fun f=>Sn N (Gf r0 a b c d n) r0 a b c d f)
def LM(r0:Nat->Bool->LA->O R)(q0:Nat->Nat->LA->LA->Int->Int->LA->O R)(h:LA)(i:Nat)(q j:Bool)(l:LA)(m:Nat)(r o:Bool):O R:=(Og N h i false j l m false o fun y=>cond (decide (y<0)) (r0 0 false []) (Df N h i false j fun a c=>Df N l m false o fun b d=>cond ((decide (0<=(a:Int)))&&((decide ((a:Int)<=(a:Int)))&&((decide ((a:Int)<=140737488355328))&&(decide (((a:Int)*((4:Nat):Int))<=140737488355328))))) (q0 a b c d 0 0 (replicate a (.int .u32 0))) none))
def Ym:=(Ak fun N h i q j l m r o r0=>LM (R:=R) N r0 (fun a b c d=>Gf N r0 a b c d N) h i q j l m r o).1
def RW(h i q j l m r o r0):(@Ym R N h i q j l m r o r0)=(LM N r0 (fun a b c d=>Gf N r0 a b c d N) h i q j l m r o):=by rw[Ym,(Ak _).2]
def XS:Hints:={H:=hK 5 (hS (hK 1 (hS (hP [0,1,6,7,8] (hK 1 (hS (hS (hK 1 (hJ [0,1,6,8,9] hL hL)) hL) hL))) hL)) hL),nils:=[(4,1)],modes:=[(2,1),(0,0)]}
def cT:Vc:=[aM N,Hg N]
def XT(F:KF R):=Mp Tryz.f142 XS (cT N) [] N F
def l8(a b:Nat)(c d f:LA)(K:St->O R):=fun g s=>K ⟨[(0,Ahf 0 a),(1,Ahf 1 b),(6,Ahf 2 a),(8,iv g),(9,.int .u64 s)],hq [bQ 1 c,bQ 1 d,bQ 1 f]⟩
def XU(a b:Nat)(c d:LA)(K:St->O R):=fun t p f=>K ⟨[(0,Ahf 0 a),(1,Ahf 1 b),(6,Ahf 2 a),(7,.int .u64 t),(8,iv p)],hq [bQ 1 c,bQ 1 d,bQ 1 f]⟩
def aN Q0 (F:KF R) (a b c d f):l8 a b c d f (Ba (XT N F (pz 357843205) [Q0]))=(Sn N (XU a b c d Q0) (N' F) a b c d f):=by kernel_rfl
def aO(F:KF R)(a b c d):∀ n,XU a b c d (A3 (XT N F (pz 87364) []) n)=(Gf N (N' F) a b c d n):=Mo fun n e=>(ZX (Ui N (N' F) a b c d) e (uE fun f=>(jW ..).trans ((aN ..).trans (m_ (Sn _ · _ _ _ _ _ _) e))):_)
def cV:=Dm N 142 (cT N) XS (fun
|[.imm h i 1 q j,.imm l m 1 r o],[]=>some fun _ k=>Ym N h i q j l m r o (N' k)
| _,_=>none) fun _ _=>by split;intro R F;exact(Dw (LM N (N' F) · _ _ _ _ _ _ _ _) (rz fun a b c d=>(lW ..).trans (aO ..)):_).trans (RW ..).symm;trivial
def If(k1:Nat->Int->LA->LA->O R)(r0:Nat->Nat->Bool->LA->LA->O R)(b:LA)(a:Nat)(f c:Bool)(d:Nat)(h:Int)(g i:LA)(q:Nat)(s:LA):O R:=(Ym N (s.take (q*1)) q false true (g.take (d*1)) d false true fun x y z=>cond y (cond (Ab (wrap .i64 (Int.tdiv h 32)) a) (Am .u32 (i.drop (0+(((wrap .i64 (Int.tdiv h 32)).toNat)*1))) fun aa=>cond (decide ((wrap .u64 (Int.tmod h 32))<0)) none (cond (Ab (wrap .i64 (Int.tdiv h 32)) a) (cond ((beq 1 1)&&((ble ((0+(((wrap .i64 (Int.tdiv h 32)).toNat)*1))+1) i.length)&&(!false))) (k1 x (wrap .i64 (h - 1)) (i.set (0+(((wrap .i64 (Int.tdiv h 32)).toNat)*1)) (.int .u32 (K5 .u32 aa (wrap .u32 ((1:Int)*2 ^ (min ((wrap .u64 (Int.tmod h 32)).toNat) 32)))))) z) none) none)) none) (k1 q (wrap .i64 (h - 1)) i s))
def Ma(r0:Nat->Nat->Bool->LA->LA->O R)(b:LA)(a:Nat)(f c:Bool)(d:Nat)(g:LA)(k1:Nat->Int->LA->LA->O R)(q2:Int->LA->Nat->LA->O R)(j:Nat)(h:Int)(i r:LA):O R:=(cond (decide (h>=0)) (Yg N (r.take (j*1)) j false true (r.take (j*1)) j false true fun u v=>UF N b a false c h fun ab=>cond (ab==1) (Yg N (v.take (u*1)) u false true [.int .u32 1] 1 false true fun ac ad=>q2 h i ac ad) (q2 h i u v)) (Df N (i.take (a*1)) a false true fun ae af=>Df N (r.take (j*1)) j false true fun ag ah=>r0 ae ag true af ah))
def D4(r0:Nat->Nat->Bool->LA->LA->O R)(b:LA)(a:Nat)(f c:Bool)(d:Nat)(g:LA):Nat->Nat->Int->LA->LA->O R
|0=>fun _ _ _ _=>none
|n+1=>Ma N r0 b a f c d g (D4 r0 b a f c d g n) (fun h i=>If N (D4 r0 b a f c d g n) r0 b a f c d h g i)
def So(r0:Nat->Nat->Bool->LA->LA->O R)(b:LA)(a:Nat)(f c:Bool)(d:Nat)(g:LA)(q1:Nat->Int->LA->LA->O R):O R:=(cond ((decide (0<=(a:Int)))&&((decide ((a:Int)<=(a:Int)))&&((decide ((a:Int)<=140737488355328))&&(decide (((a:Int)*((4:Nat):Int))<=140737488355328))))) (CN N b a false c fun ai=>q1 0 (wrap .i64 (ai - 1)) (replicate a (.int .u32 0)) []) none)
def Kj(r0:Nat->Nat->Bool->LA->LA->O R)(b:LA)(a:Nat)(f c:Bool)(d:Nat)(g:LA):O R:=So N r0 b a f c d g (D4 N r0 b a f c d g N)
def Uj(r0:Nat->Nat->Bool->LA->LA->O R)(q0:Nat->LA->O R)(b:LA)(a:Nat)(f c:Bool)(l:LA)(m:Nat)(p o:Bool):O R:=(Df N l m false o fun d g=>cond ((d:Int)==0) (r0 0 0 false [] []) (Nq N b a false c fun w aj=>Nq N (g.take (d*1)) d false true fun t ak=>cond (aj==true) (cond (cond true ak false) (cond (t==0) none (Fl N (wrap .u64 (Int.tdiv w t)) fun al am=>cond (t==0) none (Fl N (Int.tmod w t) fun an ao=>r0 al an true am ao))) (q0 d g)) (q0 d g)))
def Ns:=(Ak fun N b a f c l m p o r0=>Uj (R:=R) N r0 (fun d g=>Kj N r0 b a f c d g) b a f c l m p o).1
def CT(b a f c l m p o r0):(@Ns R N b a f c l m p o r0)=(Uj N r0 (fun d g=>Kj N r0 b a f c d g) b a f c l m p o):=by rw[Ns,(Ak _).2]
def GH:Hints:={H:=hK 4 (hJ [0,1,5] hL (hK 1 (hS (hK 1 (hS (hP [0,1,4,5,11] (hK 1 (hS (hS (hK 1 (hJ [0,1,4,5,11] hL hL)) hL) hL))) hL)) hL))),nils:=[(4,1),(5,1)],modes:=[(2,1),(2,1),(0,0)]}
def LN:Vc:=[Hg N,gK N,Wp N,lV N,cS N,oU N,cV N]
def Vh(F:KF R):=Mp Tryz.f190 GH (LN N) [] N F
def aP(b:LA)(a:Nat)(f c:Bool)(d:Nat)(h:Int)(g i:LA)(K:St->O R):=fun q s=>K ⟨[(0,.imm b a 1 f c),(1,Ahf 0 d),(4,Ahf 1 a),(5,Ahf 2 q),(11,iv h)],hq [bQ 1 g,bQ 1 i,bQ 1 s]⟩
def GI(b:LA)(a:Nat)(f c:Bool)(d:Nat)(g:LA)(K:St->O R):=fun j h i r=>K ⟨[(0,.imm b a 1 f c),(1,Ahf 0 d),(4,Ahf 1 a),(5,Ahf 2 j),(11,iv h)],hq [bQ 1 g,bQ 1 i,bQ 1 r]⟩
def aQ(b:LA)(a:Nat)(f c:Bool)(d:Nat)(g:LA)(K:St->O R):=K ⟨[(0,.imm b a 1 f c),(1,Ahf 0 d),(5,Ahf 1 0)],hq [bQ 1 g,bQ 1 []]⟩
def PA Q1 (F:KF R) (b a f c d h g i):aP b a f c d h g i (Ba (Vh N F (pz 1431585029) [Q1]))=(If N (GI b a f c d g Q1) (RF F) b a f c d h g i):=by kernel_rfl
def PC(F:KF R)(b a f c d g):∀ n,GI b a f c d g (A3 (Vh N F (pz 349508) []) n)=(D4 N (RF F) b a f c d g n):=Mo fun n e=>(ZX (Ma N (RF F) b a f c d g) e (kP fun h i=>(jW ..).trans ((PA ..).trans (m_ (If _ · _ _ _ _ _ _ _ _ _) e))):_)
def PD(F:KF R)(b a f c d g):aQ b a f c d g (Ba (Vh N F (pz 1365) []))=(Kj N (RF F) b a f c d g):=(Dw (So N (RF F) b a f c d g) ((lW ..).trans (PC ..)):_)
def LO:=Dm N 190 (LN N) GH (fun
|[.imm b a 1 f c,.imm l m 1 p o],[]=>some fun _ k=>Ns N b a f c l m p o (RF k)
| _,_=>none) fun _ _=>by split;intro R F;exact(Dw (Uj N (RF F) · _ _ _ _ _ _ _ _) (kP fun d g=>(jW ..).trans (PD ..)):_).trans (CT ..).symm;trivial
def Lc(r0:Nat->LA->O R)(k0:Nat->Nat->LA->LA->O R)(l j:Nat)(m o:LA):O R:=(cond (decide ((j:Int)>0)) (Ns N (m.take (l*1)) l false true (o.take (j*1)) j false true fun v p w x q=>k0 j p o q) (r0 l m))
def Dg(r0:Nat->LA->O R):Nat->Nat->Nat->LA->LA->O R
|0=>fun _ _ _ _=>none
|n+1=>Lc N r0 (Dg r0 n)
def LP(r0:Nat->LA->O R)(q0:Nat->Nat->LA->LA->O R)(a:LA)(b:Nat)(h c:Bool)(d:LA)(f:Nat)(i g:Bool):O R:=(Df N a b false c fun r s=>Df N d f false g fun t u=>q0 r t s u)
def LQ:=(Ak fun N a b h c d f i g r0=>LP (R:=R) N r0 (Dg N r0 N) a b h c d f i g).1
def RX(a b h c d f i g r0):(@LQ R N a b h c d f i g r0)=(LP N r0 (Dg N r0 N) a b h c d f i g):=by rw[LQ,(Ak _).2]
def XV:Hints:={H:=hK 2 (hS (hS (hP [0,1] hL) hL) hL),nils:=[(4,1)],modes:=[(2,1)]}
def cW:Vc:=[Hg N,LO N]
def l9(F:KF R):=Mp Tryz.f189 XV (cW N) [] N F
def l_(K:St->O R):=fun l j m o=>K ⟨[(0,Ahf 0 l),(1,Ahf 1 j)],hq [bQ 1 m,bQ 1 o]⟩
def aR(F:KF R):∀ n,l_ (A3 (l9 N F (pz 336) []) n)=(Dg N (Ga F) n):=Mo fun n e=>(Dw (Lc N (Ga F)) e:_)
def oV:=Dm N 189 (cW N) XV (fun
|[.imm a b 1 h c,.imm d f 1 i g],[]=>some fun _ k=>LQ N a b h c d f i g (Ga k)
| _,_=>none) fun _ _=>by split;intro R F;exact(Dw (LP N (Ga F) · _ _ _ _ _ _ _ _) ((lW ..).trans (aR ..)):_).trans (RX ..).symm;trivial
def XW(a:LA)(b:Bool)(c:LA)(d:Bool)(r0:LA->O R):O R:=(D6 1 (a.drop 1) fun g h=>D6 1 (c.drop 1) fun i j=>LQ N g h false b i j false d fun f l=>Fy N false (l.take (f*1)) f false true fun e=>cond ((beq 0 0)&&((beq e.length 2)&&(beq 2 2))) (cond (ble 2 e.length) (r0 (e.take 2)) none) none)
def UG:=(Ak (@XW R)).1
def RY:@UG R=@XW R:=(Ak _).2
def oW:=Dm N 136 [oV N,K0 N] J9 (fun
|[.pagg a b,.pagg c d],[]=>some fun _ k=>UG N a b c d (Gs k)
| _,_=>none) fun _ _=>by split;intro R F;dsimp only;rw[RY];kernel_rfl;trivial
def ja(a:LA)(b:Bool)(r0:LA->O R):O R:=(D6 1 (a.drop 1) fun d e=>Fy N false d e false b fun c=>cond ((beq 0 0)&&((beq c.length 2)&&(beq 2 2))) (cond (ble 2 c.length) (r0 (c.take 2)) none) none)
def gL:=(Ak (@ja R)).1
def jb:@gL R=@ja R:=(Ak _).2
def oX:=Dm N 191 [K0 N] J9 (fun
|[.pagg a b],[]=>some fun _ k=>gL N a b (Gs k)
| _,_=>none) fun _ _=>by split;intro R F;dsimp only;rw[jb];kernel_rfl;trivial
def jc(a:LA)(c:Bool)(b:LA)(d:Bool)(r0:LA->O R):O R:=(Zu a fun l=>Zu b fun m=>cond (l==m) (Zu a fun n=>D6 1 (a.drop 1) fun o p=>D6 1 (b.drop 1) fun q r=>Yg N o p false c q r false d fun h s=>Fy N n (s.take (h*1)) h false true fun e=>cond ((beq 0 0)&&((beq e.length 2)&&(beq 2 2))) (cond (ble 2 e.length) (r0 (e.take 2)) none) none) (D6 1 (a.drop 1) fun t u=>D6 1 (b.drop 1) fun v w=>Ym N t u false c v w false d fun i x y=>cond x (Zu a fun z=>Fy N z (y.take (i*1)) i false true fun f=>cond ((beq 0 0)&&((beq f.length 2)&&(beq 2 2))) (cond (ble 2 f.length) (r0 (f.take 2)) none) none) (D6 1 (b.drop 1) fun aa ab=>D6 1 (a.drop 1) fun ac ad=>Ym N aa ab false d ac ad false c fun j ag ae=>Zu b fun af=>Fy N af (ae.take (j*1)) j false true fun g=>cond ((beq 0 0)&&((beq g.length 2)&&(beq 2 2))) (cond (ble 2 g.length) (r0 (g.take 2)) none) none)))
def LR:=(Ak (@jc R)).1
def jd:@LR R=@jc R:=(Ak _).2
def cX:=Dm N 81 [cS N,K0 N,cV N] J9 (fun
|[.pagg a c,.pagg b d],[]=>some fun _ k=>LR N a c b d (Gs k)
| _,_=>none) fun _ _=>by split;intro R F;dsimp only;rw[jd];kernel_rfl;trivial
def Yn(a:Int)(r0:LA->O R):O R:=(cond (decide (a<0)) (Fl N (wrap .u64 ((wrap .u64 (wrap .i64 ((0:Int) - (wrap .i64 (a+1)))))+1)) fun d f=>Fy N true (f.take (d*1)) d false true fun b=>cond ((beq 0 0)&&((beq b.length 2)&&(beq 2 2))) (cond (ble 2 b.length) (r0 (b.take 2)) none) none) (Fl N (wrap .u64 a) fun e g=>Fy N false (g.take (e*1)) e false true fun c=>cond ((beq 0 0)&&((beq c.length 2)&&(beq 2 2))) (cond (ble 2 c.length) (r0 (c.take 2)) none) none))
def I8:=(Ak (@Yn R)).1
def Z3:@I8 R=@Yn R:=(Ak _).2
def GJ:=Dm N 80 [Wp N,K0 N] J9 (fun
|[.int .i64 a],[]=>some fun _ k=>I8 N a (Gs k)
| _,_=>none) fun _ _=>by split;intro R F;dsimp only;rw[Z3];kernel_rfl;trivial
def je(a:LA)(b:Bool)(r0:LA->O R):O R:=(Zu a fun d=>D6 1 (a.drop 1) fun e f=>Fy N (!d) e f false b fun c=>cond ((beq 0 0)&&((beq c.length 2)&&(beq 2 2))) (cond (ble 2 c.length) (r0 (c.take 2)) none) none)
def LU:=(Ak (@je R)).1
def jf:@LU R=@je R:=(Ak _).2
def cY:=Dm N 138 [K0 N] J9 (fun
|[.pagg a b],[]=>some fun _ k=>LU N a b (Gs k)
| _,_=>none) fun _ _=>by split;intro R F;dsimp only;rw[jf];kernel_rfl;trivial
def jg(a:LA)(c:Bool)(b:LA)(d:Bool)(r0:LA->O R):O R:=(cond (ble 2 a.length) (cond (ble 2 b.length) (LU N (b.take 2) d fun f=>LR N (a.take 2) c f false fun e=>cond ((beq 0 0)&&((beq e.length 2)&&(beq 2 2))) (cond (ble 2 e.length) (r0 (e.take 2)) none) none) none) none)
def gM:=(Ak (@jg R)).1
def jh:@gM R=@jg R:=(Ak _).2
def oY:=Dm N 192 [cY N,cX N] J9 (fun
|[.pagg a c,.pagg b d],[]=>some fun _ k=>gM N a c b d (Gs k)
| _,_=>none) fun _ _=>by split;intro R F;dsimp only;rw[jh];kernel_rfl;trivial
def CU(g:LA)(i:Bool)(f:LA)(h:Bool)(r0:LA->LA->Bool->O R):O R:=(D6 1 (g.drop 1) fun m n=>D6 1 (f.drop 1) fun o p=>Ns N m n false i o p false h fun j l q r s=>cond (!q) (r0 [.bool false,.nsl] [.bool false,.nsl] false) (Zu g fun t=>Zu f fun u=>Fy N (!(t==u)) (r.take (j*1)) j false true fun a=>Zu g fun v=>Fy N v (s.take (l*1)) l false true fun b=>cond ((beq 0 0)&&((beq a.length 2)&&(beq 2 2))) (cond ((beq 0 0)&&((beq b.length 2)&&(beq 2 2))) (Zu b fun w=>cond w (cond (ble 2 b.length) (cond (ble 2 f.length) (gL N (f.take 2) h fun x=>LR N (b.take 2) false x false fun c=>cond ((beq c.length 2)&&((ble 2 b.length)&&(!false))) (Zu f fun y=>cond y (cond (ble 2 a.length) (I8 N 1 fun z=>LR N (a.take 2) false z false fun d=>cond ((beq d.length 2)&&((ble 2 a.length)&&(!false))) (cond (ble 2 ((setCells a 0 d).length)) (cond (ble 2 ((setCells b 0 c).length)) (cond ((beq (((setCells a 0 d).take 2).length) 2)&&((ble 2 ((setCells a 0 d).length))&&(!false))) (cond ((beq (((setCells b 0 c).take 2).length) 2)&&((ble 2 ((setCells b 0 c).length))&&(!false))) (cond (ble 2 ((setCells (setCells a 0 d) 0 ((setCells a 0 d).take 2)).length)) (cond (ble 2 ((setCells (setCells b 0 c) 0 ((setCells b 0 c).take 2)).length)) (r0 ((setCells (setCells a 0 d) 0 ((setCells a 0 d).take 2)).take 2) ((setCells (setCells b 0 c) 0 ((setCells b 0 c).take 2)).take 2) true) none) none) none) none) none) none) none) none) (cond (ble 2 a.length) (I8 N 1 fun aa=>gM N (a.take 2) false aa false fun e=>cond ((beq e.length 2)&&((ble 2 a.length)&&(!false))) (cond (ble 2 ((setCells a 0 e).length)) (cond (ble 2 ((setCells b 0 c).length)) (cond ((beq (((setCells a 0 e).take 2).length) 2)&&((ble 2 ((setCells a 0 e).length))&&(!false))) (cond ((beq (((setCells b 0 c).take 2).length) 2)&&((ble 2 ((setCells b 0 c).length))&&(!false))) (cond (ble 2 ((setCells (setCells a 0 e) 0 ((setCells a 0 e).take 2)).length)) (cond (ble 2 ((setCells (setCells b 0 c) 0 ((setCells b 0 c).take 2)).length)) (r0 ((setCells (setCells a 0 e) 0 ((setCells a 0 e).take 2)).take 2) ((setCells (setCells b 0 c) 0 ((setCells b 0 c).take 2)).take 2) true) none) none) none) none) none) none) none) none)) none) none) none) (cond (ble 2 a.length) (cond (ble 2 b.length) (cond ((beq ((a.take 2).length) 2)&&((ble 2 a.length)&&(!false))) (cond ((beq ((b.take 2).length) 2)&&((ble 2 b.length)&&(!false))) (cond (ble 2 ((setCells a 0 (a.take 2)).length)) (cond (ble 2 ((setCells b 0 (b.take 2)).length)) (r0 ((setCells a 0 (a.take 2)).take 2) ((setCells b 0 (b.take 2)).take 2) true) none) none) none) none) none) none)) none) none))
def Sp:=(Ak (@CU R)).1
def CV:@Sp R=@CU R:=(Ak _).2
def aS(F:KF R):LA->LA->Bool->O R:=fun ab ac ad=>F (.tup [.pagg ab false,.pagg ac false,.bool ad]) []
def gN:=Dm N 137 [LO N,K0 N,oX N,cX N,GJ N,oY N] { H:=hL,modes:=[(3,0),(3,0),(0,0)] } (fun
|[.pagg g i,.pagg f h],[]=>some fun _ k=>Sp N g i f h (aS k)
| _,_=>none) fun _ _=>by split;intro R F;dsimp only;rw[CV];kernel_rfl;trivial
def Uk(r0:LA->O R)(d:Bool)(b:LA)(c:Bool)(a:LA):O R:=(cond (ble 2 b.length) (cond (ble 2 a.length) (UG N (b.take 2) d (a.take 2) c fun h=>cond ((beq 0 0)&&((beq h.length 2)&&(beq 2 2))) (cond (ble 2 b.length) (cond (ble 2 h.length) (Sp N (b.take 2) d (h.take 2) false fun e t ab=>cond ((beq 0 0)&&((beq e.length 2)&&(beq 2 2))) (cond ((beq 0 0)&&((beq t.length 2)&&(beq 2 2))) (cond (ble 2 a.length) (cond (ble 2 h.length) (Sp N (a.take 2) c (h.take 2) false fun f u ac=>cond ((beq 0 0)&&((beq f.length 2)&&(beq 2 2))) (cond ((beq 0 0)&&((beq u.length 2)&&(beq 2 2))) (Zu f fun v=>cond v (cond (ble 2 e.length) (LU N (e.take 2) false fun g=>cond (ble 2 f.length) (LU N (f.take 2) false fun s=>cond ((beq g.length 2)&&((ble 2 e.length)&&(!false))) (cond ((beq s.length 2)&&((ble 2 f.length)&&(!false))) (cond (ble 2 ((setCells e 0 g).length)) (D6 1 ((setCells f 0 s).drop 1) fun l m=>cond ((beq (((setCells e 0 g).take 2).length) 2)&&(ble 2 3)) (cond ((beq 1 1)&&(ble 3 ((setCells [.bool false,.nsl,.nsl] 0 ((setCells e 0 g).take 2)).length))) (cond ((beq 0 0)&&((beq (((setCells [.bool false,.nsl,.nsl] 0 ((setCells e 0 g).take 2)).set 2 (.imm l m 1 false false)).length) 3)&&(beq 3 3))) (cond (ble 3 (((setCells [.bool false,.nsl,.nsl] 0 ((setCells e 0 g).take 2)).set 2 (.imm l m 1 false false)).length)) (r0 (((setCells [.bool false,.nsl,.nsl] 0 ((setCells e 0 g).take 2)).set 2 (.imm l m 1 false false)).take 3)) none) none) none) none) none) none) none) none) none) (cond (ble 2 e.length) (D6 1 (f.drop 1) fun n o=>cond ((beq ((e.take 2).length) 2)&&(ble 2 3)) (cond ((beq 1 1)&&(ble 3 ((setCells [.bool false,.nsl,.nsl] 0 (e.take 2)).length))) (cond ((beq 0 0)&&((beq (((setCells [.bool false,.nsl,.nsl] 0 (e.take 2)).set 2 (.imm n o 1 false false)).length) 3)&&(beq 3 3))) (cond (ble 3 (((setCells [.bool false,.nsl,.nsl] 0 (e.take 2)).set 2 (.imm n o 1 false false)).length)) (r0 (((setCells [.bool false,.nsl,.nsl] 0 (e.take 2)).set 2 (.imm n o 1 false false)).take 3)) none) none) none) none) none)) none) none) none) none) none) none) none) none) none) none) none)
def EM(r0:LA->O R)(q0:O R)(b:LA)(d:Bool)(a:LA)(c:Bool):O R:=(cond (ble 2 a.length) (Wn N (a.take 2) c fun w=>cond (w==0) (LC N fun p=>cond ((beq 0 0)&&((beq p.length 3)&&(beq 3 3))) (cond (ble 3 p.length) (r0 (p.take 3)) none) none) (cond (ble 2 a.length) (Wm N (a.take 2) c fun j=>cond ((beq 0 0)&&((beq j.length 2)&&(beq 2 2))) (Zu j fun x=>cond ((!x)==true) (D6 1 (j.drop 1) fun y z=>Wo N y z false false [.int .u32 1] 1 false true fun aa=>cond (cond true aa false) (cond (ble 2 b.length) (Wm N (b.take 2) d fun i=>D6 1 (j.drop 1) fun q r=>cond ((beq i.length 2)&&(ble 2 3)) (cond ((beq 1 1)&&(ble 3 ((setCells [.bool false,.nsl,.nsl] 0 i).length))) (cond ((beq 0 0)&&((beq (((setCells [.bool false,.nsl,.nsl] 0 i).set 2 (.imm q r 1 false false)).length) 3)&&(beq 3 3))) (cond (ble 3 (((setCells [.bool false,.nsl,.nsl] 0 i).set 2 (.imm q r 1 false false)).length)) (r0 (((setCells [.bool false,.nsl,.nsl] 0 i).set 2 (.imm q r 1 false false)).take 3)) none) none) none) none) none) q0) q0) none) none)) none)
def Ss:=(Ak fun N b d a c r0=>EM (R:=R) N r0 (Uk N r0 d b c a) b d a c).1
def LV(b d a c r0):(@Ss R N b d a c r0)=(EM N r0 (Uk N r0 d b c a) b d a c):=by rw[Ss,(Ak _).2]
def RZ:Hints:={H:=hK 2 (hJ [2,3,4] hL hL),modes:=[(3,0)]}
def XX:Vc:=[XC N,lU N,XB N,j4 N,oW N,gN N,cY N]
def ji(F:KF R):=Mp Tryz.f79 RZ (XX N) [] N F
def jj(d:Bool)(b:LA)(c:Bool)(a:LA)(K:St->O R):=K ⟨[(2,op 0),(3,op 1),(4,op 2)],hq [bP d 0 b,bP c 0 a,bN 0 [.bool false,.nsl,.nsl]]⟩
def XY(F:KF R)(d b c a):jj d b c a (Ba (ji N F (pz 85) []))=(Uk N (Gs F) d b c a):=by kernel_rfl
def XZ:=Dm N 79 (XX N) RZ (fun
|[.pagg b d,.pagg a c],[]=>some fun _ k=>Ss N b d a c (Gs k)
| _,_=>none) fun _ _=>by split;intro R F;exact(Dw (EM N (Gs F) · _ _ _ _) ((jW ..).trans (XY ..)):_).trans (LV ..).symm;trivial
def PE(a:LA)(b:Bool)(r0:LA->O R):O R:=(cond (ble 2 a.length) (D6 1 (a.drop 2) fun d e=>Ss N (a.take 2) b [.bool false,.imm d e 1 false b] (b||false) fun c=>cond ((beq 0 0)&&((beq c.length 3)&&(beq 3 3))) (cond (ble 3 c.length) (r0 (c.take 3)) none) none) none)
def LW:=(Ak (@PE R)).1
def LX:@LW R=@PE R:=(Ak _).2
def lc:=Dm N 61 [XZ N] J9 (fun
|[.pagg a b],[]=>some fun _ k=>LW N a b (Gs k)
| _,_=>none) fun _ _=>by split;intro R F;dsimp only;rw[LX];kernel_rfl;trivial
def PF(a:LA)(b:Bool)(r0:Int->O R):O R:=(cond (ble 3 a.length) (LW N (a.take 3) b fun c=>cond (ble 2 c.length) (Wn N (c.take 2) false fun d=>r0 d) none) none)
def LY:=(Ak (@PF R)).1
def LZ:@LY R=@PF R:=(Ak _).2
def ld:=Dm N 25 [lc N,XC N] G4 (fun
|[.pagg a b],[]=>some fun _ k=>LY N a b (He k)
| _,_=>none) fun _ _=>by split;intro R F;dsimp only;rw[LZ];kernel_rfl;trivial
def Yo(a:Int)(r0:LA->O R):O R:=(I8 N a fun c=>I8 N 1 fun d=>Ss N c false d false fun b=>cond ((beq 0 0)&&((beq b.length 3)&&(beq 3 3))) (cond (ble 3 b.length) (r0 (b.take 3)) none) none)
def G8:=(Ak (@Yo R)).1
def Z4:@G8 R=@Yo R:=(Ak _).2
def aT:=Dm N 30 [GJ N,XZ N] J9 (fun
|[.int .i64 a],[]=>some fun _ k=>G8 N a (Gs k)
| _,_=>none) fun _ _=>by split;intro R F;dsimp only;rw[Z4];kernel_rfl;trivial
def gO(a:LA)(c:Bool)(b:LA)(d:Bool)(r0:LA->O R):O R:=(cond (ble 3 a.length) (cond (ble 3 b.length) (I5 N (a.take 3) c (b.take 3) d fun g=>cond (decide (g>=0)) (cond (ble 3 a.length) (Qd N (a.take 3) c fun e=>cond ((beq 0 0)&&((beq e.length 3)&&(beq 3 3))) (cond (ble 3 e.length) (r0 (e.take 3)) none) none) none) (cond (ble 3 b.length) (Qd N (b.take 3) d fun f=>cond ((beq 0 0)&&((beq f.length 3)&&(beq 3 3))) (cond (ble 3 f.length) (r0 (f.take 3)) none) none) none)) none) none)
def gP:=(Ak (@gO R)).1
def X_:@gP R=@gO R:=(Ak _).2
def qT:=Dm N 198 [Yc N,OV N] J9 (fun
|[.pagg a c,.pagg b d],[]=>some fun _ k=>gP N a c b d (Gs k)
| _,_=>none) fun _ _=>by split;intro R F;dsimp only;rw[X_];kernel_rfl;trivial
end
end Gx
namespace Go.Proofs
open Go.Shelf
open Go.RowKit Go.Lib Go.Sort
def Tryz.lays189_ren : Go.Shelf.Ren := ⟨fun|189 => 125|125 => 179|257 => 178|128 => 223|129 => 224|294 => 215|295 => 216|296 => 217|297 => 218|298 => 219|299 => 220|216 => 187|300 => 221|301 => 222|328 => 236|329 => 237|330 => 238|331 => 239|332 => 240|215 => 175|343 => 249|n => n, fun|28 => 22|3 => 3|46 => 241|0 => 0|51 => 129|53 => 202|4 => 4|183 => 263|182 => 262|131 => 195|5 => 5|9 => 9|218 => 282|222 => 286|228 => 292|229 => 174|n => n, fun|n => n⟩
def Tryz.lays189 : Go.Proofs.Lays.n189 Tryz.prog Tryz.lays189_ren := {
  mixed := by kernel_rfl
  f125 := Tryz.func179.trans (congrArg some (by kernel_rfl))
  f128 := Tryz.func223.trans (congrArg some (by kernel_rfl))
  f129 := Tryz.func224.trans (congrArg some (by kernel_rfl))
  f189 := Tryz.func125.trans (congrArg some (by kernel_rfl))
  f215 := Tryz.func175.trans (congrArg some (by kernel_rfl))
  f216 := Tryz.func187.trans (congrArg some (by kernel_rfl))
  f257 := Tryz.func178.trans (congrArg some (by kernel_rfl))
  f294 := Tryz.func215.trans (congrArg some (by kernel_rfl))
  f295 := Tryz.func216.trans (congrArg some (by kernel_rfl))
  f296 := Tryz.func217.trans (congrArg some (by kernel_rfl))
  f297 := Tryz.func218.trans (congrArg some (by kernel_rfl))
  f298 := Tryz.func219.trans (congrArg some (by kernel_rfl))
  f299 := Tryz.func220.trans (congrArg some (by kernel_rfl))
  f300 := Tryz.func221.trans (congrArg some (by kernel_rfl))
  f301 := Tryz.func222.trans (congrArg some (by kernel_rfl))
  f328 := Tryz.func236.trans (congrArg some (by kernel_rfl))
  f329 := Tryz.func237.trans (congrArg some (by kernel_rfl))
  f330 := Tryz.func238.trans (congrArg some (by kernel_rfl))
  f331 := Tryz.func239.trans (congrArg some (by kernel_rfl))
  f332 := Tryz.func240.trans (congrArg some (by kernel_rfl))
  f343 := Tryz.func249.trans (congrArg some (by kernel_rfl))
  t0 := Tryz.underlying0
  a0 := Tryz.isAgg0
  z0 := Tryz.sizeOf0
  v0 := Tryz.zeroValue0
  t3 := Tryz.underlying3
  a3 := Tryz.isAgg3
  z3 := Tryz.sizeOf3
  v3 := Tryz.zeroValue3
  t4 := Tryz.underlying4
  a4 := Tryz.isAgg4
  z4 := Tryz.sizeOf4
  v4 := Tryz.zeroValue4
  t5 := Tryz.underlying5
  a5 := Tryz.isAgg5
  z5 := Tryz.sizeOf5
  v5 := Tryz.zeroValue5
  t9 := Tryz.underlying9
  a9 := Tryz.isAgg9
  z9 := Tryz.sizeOf9
  v9 := Tryz.zeroValue9
  t28 := Tryz.underlying22
  a28 := Tryz.isAgg22
  z28 := Tryz.sizeOf22
  v28 := Tryz.zeroValue22
  t46 := Tryz.underlying241
  a46 := Tryz.isAgg241
  z46 := Tryz.sizeOf241
  v46 := Tryz.zeroValue241
  t51 := Tryz.underlying129
  a51 := Tryz.isAgg129
  z51 := Tryz.sizeOf129
  v51 := Tryz.zeroValue129
  t53 := Tryz.underlying202
  a53 := Tryz.isAgg202
  z53 := Tryz.sizeOf202
  v53 := Tryz.zeroValue202
  t131 := Tryz.underlying195
  a131 := Tryz.isAgg195
  z131 := Tryz.sizeOf195
  v131 := Tryz.zeroValue195
  t182 := Tryz.underlying262
  a182 := Tryz.isAgg262
  z182 := Tryz.sizeOf262
  v182 := Tryz.zeroValue262
  t183 := Tryz.underlying263
  a183 := Tryz.isAgg263
  z183 := Tryz.sizeOf263
  v183 := Tryz.zeroValue263
  t218 := Tryz.underlying282
  a218 := Tryz.isAgg282
  z218 := Tryz.sizeOf282
  v218 := Tryz.zeroValue282
  t222 := Tryz.underlying286
  a222 := Tryz.isAgg286
  z222 := Tryz.sizeOf286
  v222 := Tryz.zeroValue286
  t228 := Tryz.underlying292
  a228 := Tryz.isAgg292
  z228 := Tryz.sizeOf292
  v228 := Tryz.zeroValue292
  t229 := Tryz.underlying174
  a229 := Tryz.isAgg174
  z229 := Tryz.sizeOf174
  v229 := Tryz.zeroValue174 }
open Go.Sort Go.RowKit in
def Tryz.slices_Sort_int(blk off cap : Nat)(zs : List Int)(w : World)(hH : Holds (Value.int .i64) w blk off zs.toArray)(hblk : blk < w.heap.size)(hsz : zs.length < 4611686018427387904):
    Calls Tryz.prog 125 #[.slice (some ⟨blk, off, none⟩) zs.length cap] w fun e w' =>
      e = .returned (.tuple #[]) /\ ∃ n os, w' = grow (putRow (Value.int .i64) (Sort.ahead w n) blk off (zs.mergeSort fun x y => decide (x <= y)).toArray) os := Any.slices_Sort_int Tryz.lays189 blk off cap zs w hH hblk hsz
end Go.Proofs
namespace Gx
open Go
section
variable{J:Bool->Nat->Prop}{β:Bt}{h:Ap}{w w':World}
def Step.junk(S:SimH J β h w)(ho:w'.os=w.os)(ht:w'.tape=w.tape)(hu:w'.output=w.output)(hs:w.heap.size<=w'.heap.size)(G:∀ k,k<w.heap.size->w'.heap[k]?=w.heap[k]?):Step J β h w J β h w':=by
 have hz:∀ k,Aw w k<=Aw w' k:=fun k=>by
  by_cases T:k<w.heap.size
  ·simp[Aw,G k T]
  ·simp[Aw,Aas (Aa7 T)]
 have E:Ext J β h w J β h w':=⟨fun _ _ C=>C,fun o k C=>G k (S.jlt o k C),fun b x D=>⟨x,⟨D,rfl⟩,by cases I:x.dead<;>simp⟩,fun b k o _=>hz k⟩
 refine⟨E,⟨fun o k C=>zV (S.jlt o k C) hs,S.jft,S.gl.ext E,fun b x D I L=>?_,fun b x D I L=>(S.mblk b x D I L).keep rfl (fun k o hβ=>G k (M7 S D I hβ)) (fun _ _ _ _ C=>C),S.sep⟩,ho,ht,hu,hs,fun k T _=>G k T,fun k L _=>L,fun _ _ C=>.inl C⟩
 rcases S.blk b x D I L with Y|⟨k,o,cs,ty,fr,Y,h2,h3,h4,h5,h6⟩
 ·exact .inl Y
 ·exact .inr ⟨k,o,cs,ty,fr,Y,by rw[G k (P5 h2)];exact h2,h3,h4,h5.ext E,h6⟩
end
end Gx
namespace Gx
open Go Go.Proofs Go.RowKit
noncomputable section
variable{R:Type}(N:Nat)
def pK:AV->Int
|.int _ n=>n
|_=>0
def gQ:AV->Bool
|.int .i64 n=>decide (-9223372036854775808<=n)&&decide (n<=9223372036854775807)
|_=>false
def Pq(l:List Int):LA:=l.map fun n=>.int .i64 n
def CW(l:List Int):List Int:=l.mergeSort fun x y=>decide (x<=y)
def Em(_N:Nat)(n:Nat)(c:LA)(r0:LA->O R):O R:=cond (ble 1 n&&(ble n 16777216&&(c.take n).all gQ)) (r0 (Pq (CW ((c.take n).map pK))++c.drop n)) none
def D0:=(Ak (@Em R)).1
def Ed:@D0 R=@Em R:=(Ak _).2
def C8(a:LA)(h:Ap)(k:KF R):O R :=
 match a,h with
|[.own 100000 0 n],[(100000,⟨false,false,true,false,1,c,false,none⟩)]=>D0 N n c fun c'=>k (.tup []) [(100000,bQ 1 c')]
|_,_=>none
def Ps:Tw:=⟨fun {R} a h k=>@C8 R N a h k,fun {R} a h k=>by
 unfold C8
 split
 ·rename_i n c
  rw[Ed,Ed];unfold Em;cases (ble 1 n&&(ble n 16777216&&(c.take n).all gQ))<;>rfl
 ·rfl⟩
end
def qU{x:AV}(h:gQ x=true):∃ n,x=.int .i64 n/\-9223372036854775808<=n/\n<=9223372036854775807:=by
 unfold gQ at h
 split at h
 ·simp at h;exact⟨_,rfl,h⟩
 ·cases h
def jk:∀{c:LA},c.all gQ=true->c=Pq (c.map pK)
|[],_=>rfl
|x::r,h=>by
  simp only[Ad5,zJ]at h
  obtain⟨n,rfl,C⟩:=qU h.1
  have k:=jk h.2
  simp only[z_,Pq,pK];rw[show List.map (fun n=>AV.int IntKind.i64 n) (List.map pK r)=r from k.symm]
def FDone.of{J J':Bool->Nat->Prop}{β β':Bt}{h H:Ap}{w w':World}(A:Step J β h w J' β' H w')(I:∀ k,Aw w k<=Aw w' k)(L:∀ b x,Ah H b=some x->x.dead=false):FDone ⟨J,β,h,w⟩ J' β' H w' :=
 ⟨A.sim,A.os,A.tape,A.output,A.size,A.frame,A.wr,A.ext.jsub,A.jup,I,fun b x0 x T G Y=>by
  obtain⟨x',⟨D,h2⟩,C⟩:=A.ext.blk b x0 T
  change Ah H b=some x at G
  rw[G]at D;simp at D;subst D
  rcases C with C|⟨C,h4,h5,h6⟩
  ·rw[Y]at C;cases C
  ·exact⟨⟨h4,h2⟩,h5,fun _=>h6 (by first | rfl | assumption),C⟩,L⟩
def Pu(N:Nat):fQ Tryz.prog 125 (Ps N):=by
 intro args h res h' hh0
 have hh:C8 N args h (fun v h'=>some (v,h'))=some (res,h'):=hh0
 unfold C8 at hh
 split at hh
 ·rename_i n c
  rw[Ed,Em]at hh
  obtain⟨h1,h2⟩:=uc hh
  simp only[zJ]at h1
  obtain⟨a4,a5,a6⟩:=h1
  have a4:=Ac0 a4
  have a5:=Ac0 a5
  have a7:=jk a6
  simp only[Aba,Ae2]at h2
  obtain⟨rfl,rfl⟩:=h2
  intro J β w vs S hr
  obtain⟨u,rfl,e1⟩:=qG hr
  have hb:Ah [(100000,(⟨false,false,true,false,1,c,false,none⟩:Blk))] 100000=some ⟨false,false,true,false,1,c,false,none⟩:=rfl
  rw[Rep]at e1
  obtain⟨x,A,cap,⟨D,_⟩,rfl,hcap,e1⟩:=e1
  rw[hb]at D;simp at D;subst D
  rcases e1 with e1|⟨k,o,rfl,e1⟩
  ·omega
  rcases e1 with e1|⟨hβ,g1,g2⟩
  ·cases e1
  rcases S.blk 100000 _ hb rfl rfl with⟨hz,_⟩|⟨k',o',cs,ty,fr,Y,k1,G,k3,k4,k5,_⟩
  ·rw[hβ]at hz;cases hz
  rw[hβ]at Y;simp at Y;obtain⟨rfl,rfl⟩:=Y
  have k3:o+c.length<=cs.size:=k3
  have g2:0+n*1<=c.length:=g2
  have k4':RepCs (J false) w c (fun j=>cs[o+j]?) 0:=k4.1 rfl
  generalize hzs:(c.take n).map pK=zs at *
  have hzl:zs.length=n:=by rw[<-hzs];simp;omega
  have hcz:∀(q:Nat) m,zs[q]?=some m->cs[o+q]?=some (.int .i64 m):=by
   intro q m hq
   have hql:=(zK.1 hq).1
   have h9:(c.take n)[q]?=some (.int .i64 m):=by rw[a7];unfold Pq;rw[Abo,hq];rfl
   rw[Acj (by omega)]at h9
   obtain⟨v,hv,T⟩:=k4'.at h9
   rw[RepC]at T;subst T
   simpa using hv
  have hH:Go.Sort.Holds (Value.int .i64) w k (o+0) zs.toArray:=by
   intro q hq
   have hq':q<zs.length:=by simpa using hq
   refine⟨?_,?_⟩
   ·rw[show w.cell? ⟨k,o+0+q,none⟩=cs[o+0+q]? by simp[World.cell?,k1],zg,hcz q zs[q] (by simp[hq'])]
    simp[hq']
   ·simp only[World.frozen?,k1]
    have:=G.1.at (o+0+q) (by omega)
    cases fr;simp at this ⊢;omega
  have L:=Tryz.slices_Sort_int k (o+0) cap zs w hH (P5 k1) (by omega)
  rw[hzl,show(zs.mergeSort fun x y=>decide (x<=y))=CW zs from rfl]at L
  refine L.mono ?_
  rintro e w' ⟨rfl,q,os,rfl⟩
  have hnl:(CW zs).length=n:=by unfold CW;rw[Aeo];exact hzl
  generalize CW zs=nw at *
  have O:OnlyBlk w (Go.Sort.putRow (Value.int .i64) (Go.Sort.ahead w q) k (o+0) nw.toArray) k cs (Go.Sort.putCells (Value.int .i64) (o+0) nw.toArray cs) ty fr:=by
   refine⟨k1,?_,by simp[Go.Sort.putCells],fun I hq2=>?_,?_,rfl,rfl,rfl⟩
   ·simp[Go.Sort.putRow,Go.Sort.mapBlock,Go.Sort.ahead,Aaj,k1,Go.Sort.onCells]
   ·simp[Go.Sort.putRow,Go.Sort.mapBlock,Go.Sort.ahead,Aaj,Ne.symm hq2]
   ·simp[Go.Sort.putRow,Go.Sort.mapBlock,Go.Sort.ahead]
  have hlen:(Pq nw++c.drop n).length=c.length:=by unfold Pq;simp;omega
  have hrc:RepCs (J false) w (Pq nw++c.drop n) (fun I=>(Go.Sort.putCells (Value.int .i64) (o+0) nw.toArray cs)[o+I]?) 0:=by
   rw[Bh]
   intro I x D
   rw[zU]
   by_cases hq2:I<n
   ·rw[Ace (by unfold Pq;simp;omega)]at D
    unfold Pq at D
    rw[Abo,zD (by omega)]at D
    simp at D;subst D
    refine⟨.int .i64 nw[I],?_,by rw[RepC]⟩
    have:o+I<cs.size:=by omega
    simp[Go.Sort.putCells,this,hnl,hq2]
   ·rw[Ab5 (by unfold Pq;simp;omega)]at D
    have hx':c[I]?=some x:=by
     rw[zk,show(Pq nw).length=n by unfold Pq;simp;omega,show n+(I - n)=I by omega]at D;exact D
    obtain⟨v,hv,T⟩:=k4'.at hx'
    have hv:cs[o+I]?=some v:=by simpa using hv
    refine⟨v,?_,T⟩
    have hlt:=(zK.1 hx').1
    have:o+I<cs.size:=by omega
    have hn2:¬ (o<=o+I/\o+I<o+nw.length):=by omega
    simp only[Go.Sort.putCells,Array.getElem?_mapIdx,hv,Option.map_some,List.size_toArray,zg,if_neg hn2]
  have A:=Step.set S hb rfl rfl hβ O (x':=bQ 1 (Pq nw++c.drop n)) rfl rfl rfl hlen ⟨fun _=>hrc,fun hp=>by cases hp⟩ rfl
  have B:=Step.junk A.sim (w':=Go.Sort.grow (Go.Sort.putRow (Value.int .i64) (Go.Sort.ahead w q) k (o+0) nw.toArray) os) rfl rfl rfl (by simp[Go.Sort.grow]) (fun G hk2=>Abk hk2)
  have hz:∀ G,Aw w G<=Aw (Go.Sort.grow (Go.Sort.putRow (Value.int .i64) (Go.Sort.ahead w q) k (o+0) nw.toArray) os) G:=fun G=>by
   by_cases hl:G<w.heap.size
   ·have e:(Go.Sort.grow (Go.Sort.putRow (Value.int .i64) (Go.Sort.ahead w q) k (o+0) nw.toArray) os).heap[G]?=(Go.Sort.putRow (Value.int .i64) (Go.Sort.ahead w q) k (o+0) nw.toArray).heap[G]?:=by
     simp only[Go.Sort.grow];exact Abk (by rw[O.size];exact hl)
    by_cases e2:G=k
    ·subst e2;rw[C0 O.old,C0 (e.trans O.new),O.sz];exact zE _
    ·simp only[Aw,e,O.other G e2];exact zE _
   ·simp[Aw,Aas (Aa7 hl)]
  have C:=A.trans B (fun b G o2 _=>hz G)
  refine⟨_,J,β,rfl,FDone.of C hz (fun b x D=>?_),by rw[Rep];exact⟨[],rfl,by rw[Reps]⟩⟩
  change Ah [(100000,bQ 1 (Pq nw++c.drop n))] b=some x at D
  rw[Ah]at D
  cases hq:beq 100000 b<;>rw[hq]at D<;>simp[Ah]at D
  subst D;rfl
 ·simp at hh
noncomputable def Sw(N:Nat):=xM (Ps N) (Pu N)
end Gx
namespace Gx
open Go
mutual
def xC:AV->AV->Bool
|.int k n,.int k' n'=>G9 k k'&&decide (n=n')
|.bool b,.bool b'=>b==b'
|.str s,.str s'=>s==s'
|.nsl,.nsl=>true
|.imm c n s t o,.imm c' n' s' t' o'=>beq n n'&&(beq s s'&&(t==t'&&(o==o'&&TF c c')))
|.iptr c o,.iptr c' o'=>o==o'&&TF c c'
|.pagg c o,.pagg c' o'=>o==o'&&TF c c'
|.own b f n,.own b' f' n'=>beq b b'&&(beq f f'&&beq n n')
|.optr b f,.optr b' f'=>beq b b'&&beq f f'
|.agg c,.agg c'=>TF c c'
|.tup c,.tup c'=>TF c c'
|.fn f c,.fn f' c'=>beq f f'&&TF c c'
|.nilptr,.nilptr=>true
|.nilfn,.nilfn=>true
|.undef,.undef=>true
|.omap b,.omap b'=>beq b b'
|_,_=>false
def TF:List AV->List AV->Bool
|[],[]=>true
|x::r,y::q=>xC x y&&TF r q
|_,_=>false
end
mutual
def lf:∀ a b,xC a b=true->a=b:=by
 intro a b h
 cases a<;>cases b<;>simp only[xC,zJ,Aeg,beq_iff_eq,G9,decide_eq_true_eq,reduceCtorEq,Aa0]at h
 case int.int=>rw[h.1,h.2]
 case bool.bool=>rw[h]
 case str.str=>rw[h]
 case nsl.nsl=>rfl
 case imm.imm=>rw[h.1,h.2.1,h.2.2.1,h.2.2.2.1,Qk _ _ h.2.2.2.2]
 case iptr.iptr=>rw[h.1,Qk _ _ h.2]
 case pagg.pagg=>rw[h.1,Qk _ _ h.2]
 case own.own=>rw[h.1,h.2.1,h.2.2]
 case optr.optr=>rw[h.1,h.2]
 case agg.agg=>rw[Qk _ _ h]
 case tup.tup=>rw[Qk _ _ h]
 case fn.fn=>rw[h.1,Qk _ _ h.2]
 case nilptr.nilptr=>rfl
 case nilfn.nilfn=>rfl
 case undef.undef=>rfl
 case omap.omap=>rw[h]
def Qk:∀ a b,TF a b=true->a=b:=by
 intro a b h
 cases a<;>cases b<;>simp only[TF,zJ,Aa0]at h
 ·rfl
 ·rw[lf _ _ h.1,Qk _ _ h.2]
end
def xD:Option (Nat×Nat)->Option (Nat×Nat)->Bool
|none,none=>true
|some (a,b),some (c,d)=>beq a c&&beq b d
|_,_=>false
def xU(x y:Blk):Bool:=x.dead==y.dead&&(x.sealed==y.sealed&&(x.pure==y.pure&&(x.taint==y.taint&&(beq x.sz y.sz&&(x.mp==y.mp&&(xD x.ty y.ty&&TF x.cells y.cells))))))
def tG:Ap->Ap->Bool
|[],[]=>true
|(i,x)::r,(j,y)::q=>beq i j&&(xU x y&&tG r q)
|_,_=>false
def uJ:∀ a b,xD a b=true->a=b:=by
 intro a b h
 match a,b,h with
|none,none,_=>rfl
|some (a,b),some (c,d),h=>simp only[xD,zJ,Aeg]at h;rw[h.1,h.2]
|none,some _,h=>cases h
|some _,none,h=>simp[xD]at h
def uK(x y:Blk)(h:xU x y=true):x=y:=by
 unfold xU at h
 simp only[zJ,Aeg,beq_iff_eq]at h
 obtain⟨D,G,I,L,T,Y,k,C⟩:=h
 have:=uJ _ _ k;have:=Qk _ _ C
 cases x;cases y;simp_all
def li:∀ a b,tG a b=true->a=b:=by
 intro a
 induction a with
|nil=>intro b h;cases b<;>simp[tG]at h ⊢
| cons p r k =>
  intro b h
  cases b with
  |nil=>simp[tG]at h
  |cons q s =>
   obtain⟨i,x⟩:=p;obtain⟨j,y⟩:=q
   simp only[tG,zJ,Aeg]at h
   rw[h.1,uK _ _ h.2.1,k _ h.2.2]
structure Pt where
 f:Nat
 args:List AV
 h:Ap
 res:AV
 h':Ap
def oZ(P:Program)(p:Pt):Prop:=sG P p.f p.args p.h p.res p.h'
def cZ(P:Program):List Pt->Prop
|[]=>True
|p::r=>oZ P p/\cZ P r
def CX(f:Nat)(a:LA)(h:Ap):List Pt->Option Pt
|[]=>none
|p::r=>cond (beq p.f f&&(TF p.args a&&tG p.h h)) (some p) (CX f a h r)
def qV{R:Type}(k:AV->Ap->O R)(alt:O R):Option Pt->O R
|some p=>k p.res p.h'
|none=>alt
def uL (l:List Pt) (f:Nat) (t:Tw):Tw:=⟨fun {R} a h k=>qV k (t.runK a h k) (CX f a h l),fun {R} a h k=>by
 cases CX f a h l with
|none=>exact t.eq a h k
| some p=>rfl⟩
def c9{P:Program}{f:Nat}{a:LA}{h:Ap}:∀{l:List Pt},cZ P l->∀{p},CX f a h l=some p->sG P f a h p.res p.h'
|[],_,p,e=>by simp[CX]at e
| q::r,H,p,e=>by
  unfold CX at e
  cases hc:beq q.f f&&(TF q.args a&&tG q.h h)with
  |false=>rw[hc]at e;exact c9 H.2 e
  |true =>
   rw[hc]at e
   simp only[cond_true,Aba]at e
   subst e
   simp only[zJ,Aeg]at hc
   have:=Qk _ _ hc.2.1;have:=li _ _ hc.2.2
   obtain⟨rfl,_,_⟩:=hc
   subst_vars;exact H.1
def sO{P:Program}{l:List Pt}(H:cZ P l){f:Nat}{t:Tw}(k:fQ P f t):fQ P f (uL l f t):=by
 intro a h res h' e
 have e:qV (fun v h'=>some (v,h')) (t.runK a h fun v h'=>some (v,h')) (CX f a h l)=some (res,h'):=e
 cases hq:CX f a h l with
|none=>rw[hq]at e;exact k a h res h' e
|some p =>
  rw[hq]at e
  simp only[qV,Aba,Ae2]at e
  obtain⟨rfl,rfl⟩:=e
  exact c9 H hq
def uM(P:Program)(muts:Nat->List Bool)(N:Nat)(l:List Pt)(fs:List (Nat×Hints)):Nat->List (Nat×Tw)
|0=>[]
|d+1=>fs.map fun p=>(p.1,uL l p.1 ⟨fun args h k=>WD P muts (uM P muts N l fs d) p.2 N p.1 args h k,fun args h k=>by rw[V6,V6];exact HL ..⟩)
def qW{P:Program}(D:P.follows .mixedOrders=true)(muts:Nat->List Bool)(N:Nat){l:List Pt}(H:cZ P l)(fs:List (Nat×Hints)):∀ d,VX P (uM P muts N l fs d)
|0=>trivial
| d+1=>by
  rw[uM]
  have key:∀(q:List (Nat×Hints)),VX P (q.map fun p=>((p.1,uL l p.1 ⟨fun C h k=>WD P muts (uM P muts N l fs d) p.2 N p.1 C h k,fun C h k=>by rw[V6,V6];exact HL ..⟩):Nat×Tw)):=by
   intro q
   induction q with
   |nil=>trivial
   |cons p r G =>
    refine⟨sO H ?_,G⟩
    intro C h res h' hh
    exact BR (qW D muts N H fs d) D ((V6 ..).symm.trans hh)
  exact key fs
def sP(f:Nat):List (Nat×Hints)->Hints
|[]=>⟨.leaf,[],[],[],[]⟩
|p::r=>cond (beq p.1 f) p.2 (sP f r)
def c_(p:Pt):Option (AV×Ap)->Bool
|some (v,h)=>xC p.res v&&tG p.h' h
|none=>false
def tH{P:Program}(k:P.follows .mixedOrders=true){muts:Nat->List Bool}{N:Nat}{l:List Pt}(H:cZ P l){fs:List (Nat×Hints)}(d:Nat){p:Pt}
  (e:c_ p (WD P muts (uM P muts N l fs d) (sP p.f fs) N p.f p.args p.h fun v h=>some (v,h))=true):oZ P p:=by
 cases hq:WD P muts (uM P muts N l fs d) (sP p.f fs) N p.f p.args p.h fun v h=>some (v,h)with
|none=>rw[hq]at e;cases e
|some q =>
  rw[hq]at e
  obtain⟨v,h⟩:=q
  simp only[c_,zJ]at e
  have:=lf _ _ e.1;have:=li _ _ e.2
  subst_vars
  exact BR (qW k muts N H fs d) k ((V6 ..).symm.trans hq)
end Gx
namespace Gx
open Go Go.Proofs
def uO{P:Program}{p:Pt}{o:Option (AV×Ap)}(h:∀ v h',o=some (v,h')->sG P p.f p.args p.h v h')(e:c_ p o=true):oZ P p:=by
 cases hq:o with
|none=>rw[hq]at e;cases e
|some q =>
  rw[hq]at e
  obtain⟨v,h'⟩:=q
  simp only[c_,zJ]at e
  have k:=lf _ _ e.1;have C:=li _ _ e.2
  unfold oZ;rw[k,C]
  exact h _ _ hq
def qX:List Int->Bool
|a::b::r=>decide (a<=b)&&qX (b::r)
|_=>true
def mh:∀{l:List Int},qX l=true->l.Pairwise fun x y=>decide (x<=y)=true
|[],_=>.nil
|[a],_=>by simp
| a::b::r,h=>by
  rw[qX,zJ,decide_eq_true_eq]at h
  have C:=mh h.2
  refine .cons (fun t k=>?_) C
  rcases zX.1 k with rfl|k
  ·simpa using h.1
  ·have:=(Acm.1 C).1 t k
   simp at this ⊢;omega
def qY(a:LA)(h:Ap):Option (AV×Ap):=match a,h with
|[.own 100000 0 n],[(100000,⟨false,false,true,false,1,c,false,none⟩)]=>cond (ble 1 n&&(ble n 16777216&&(c.take n).all gQ)) (cond (qX ((c.take n).map pK)) (some (.tup [],[(100000,bQ 1 (Pq ((c.take n).map pK)++c.drop n))])) none) none
|_,_=>none
def qZ(a:LA)(h:Ap)(v:AV)(h':Ap)(k:qY a h=some (v,h')):sG Tryz.prog 125 a h v h':=by
 refine Pu 0 _ _ _ _ (show C8 0 a h (fun v h'=>some (v,h'))=some (v,h')from ?_)
 unfold qY at k;unfold C8
 split at k
 ·rename_i n c
  rw[Ed];unfold Em
  by_cases hc:(ble 1 n&&(ble n 16777216&&(c.take n).all gQ))=true
  ·rw[hc,cond_true]at k
   show cond (ble 1 n&&(ble n 16777216&&(c.take n).all gQ)) (some (AV.tup [],[(100000,bQ 1 (Pq (CW ((c.take n).map pK))++c.drop n))])) none=some (v,h')
   rw[hc,cond_true]
   by_cases C:qX ((c.take n).map pK)=true
   ·rw[C,cond_true]at k
    rw[show CW ((c.take n).map pK)=(c.take n).map pK from List.mergeSort_of_pairwise (mh C)]
    exact k
   ·rw[Bool.not_eq_true]at C;rw[C]at k;cases k
  ·rw[Bool.not_eq_true]at hc;rw[hc]at k;cases k
 ·cases k
def sQ{p:Pt}(k:p.f=125)(e:c_ p (qY p.args p.h)=true):oZ Tryz.prog p:=uO (fun v h' C=>by rw[k];exact qZ _ _ _ _ C) e
end Gx
namespace Gx
open Go Go.Proofs
set_option maxRecDepth 100000
set_option linter.unusedVariables false
noncomputable section
def xV:List (Nat×Hints):=[(23,{H:=hS hL (hS hL (hS hL (hS hL (hS hL (hS (hS hL (hS (hP [1,5,10,11,13,14,57,58] hL) hL)) (hS hL (hS (hS hL (hS (hP [1,10,11,13,14,82,83] (hS hL (hS hL (hS (hS (hS hL (hS hL (hS (hP [1,10,11,13,14,16,82,83,86,87,88] hL) hL))) hL) hL)))) hL)) (hS hL (hS (hS hL (hS (hP [1,10,11,13,14,19,115,116,117] hL) hL)) hL))))))))),modes:=[(3,0),(3,0),(0,0)],cob:=[5,26,27,44,45,52,53,148,149,7000024,7000029,7000034,7000040,7000050,7000055,7000064,7000077,7000078,7000079,7000087,7000107,7000116,7000140,7000153]}),(28,{H:=hL,modes:=[(0,0),(0,0),(3,0),(0,0)]}),(30,{H:=hL,modes:=[(3,0)]}),(33,{H:=hL,modes:=[(3,0)]}),(35,{H:=hL,modes:=[(3,0)]}),(41,{H:=hL,modes:=[(3,0)]}),(47,{H:=hL,modes:=[(3,0)]}),(49,{H:=hL,cob:=[4,14,15]}),(50,{H:=hS hL (hS hL (hS hL (hS hL (hS (hS hL (hS (hP [1,4,5,24,25] hL) hL)) (hS (hS hL (hS (hP [4,5,36,37] hL) hL)) (hS (hS hL (hS (hP [5,47,48] hL) hL)) hL)))))),nils:=[(2,2)],modes:=[(2,2)]}),(51,{H:=hL,modes:=[(3,0)]}),(53,{H:=hL,modes:=[(3,0)]}),(54,{H:=hS hL (hS hL (hS hL (hS (hP [0,1,2,7,8,30,31,32] hL) hL)))}),(56,{H:=hS hL (hS hL (hS (hS hL (hS (hP [0,1,2,6,7,8] hL) hL)) hL))}),(61,{H:=hL,modes:=[(3,0)]}),(66,{H:=hS hL (hS hL (hS hL (hS (hS hL (hS (hP [2,3,4,5,18,19,20] hL) hL)) hL))),modes:=[(3,0)]}),(67,{H:=hL,modes:=[(3,0)],cob:=[2,3]}),(70,{H:=hS hL (hS hL (hS (hS hL (hS (hP [0,1,3,8,9,18,19,20] hL) hL)) (hS hL (hS hL (hS hL (hS (hS hL (hS (hP [3,8,12,41,42,43] hL) hL)) hL)))))),modes:=[(3,0)]}),(71,{H:=hL,modes:=[(3,0)]}),(72,{H:=hL,modes:=[(3,0)]}),(73,{H:=hL,modes:=[(3,0)]}),(74,{H:=hL,modes:=[(3,0)]}),(75,{H:=hS hL (hS hL (hS hL (hS (hS hL (hS (hP [2,3,5,6,11,12,13] hL) hL)) hL)))}),(76,{H:=hL,modes:=[(3,0)]}),(79,{H:=hL,modes:=[(3,0)]}),(80,{H:=hL,modes:=[(3,0)]}),(81,{H:=hL,modes:=[(3,0)]}),(82,{H:=hL,modes:=[(3,0)]}),(83,{H:=hL,modes:=[(3,0)]}),(85,{H:=hL,modes:=[(3,0),(0,0)]}),(86,{H:=hS hL (hS hL (hS (hS hL (hS (hP [2,3,4,5] hL) hL)) hL)),cob:=[1000002,1000003]}),(87,{H:=hS hL (hS hL (hS hL (hS (hP [0,1,2,8,10] hL) hL)))}),(102,{H:=hL,modes:=[(3,0)]}),(103,{H:=hS hL (hS (hS hL (hS (hP [0,1,9,10,11] hL) hL)) hL)}),(104,{H:=hS hL (hS (hS hL (hS (hP [1,13,14] hL) hL)) hL)}),(105,{H:=hS hL (hS hL (hS hL (hS (hS hL (hS (hP [1,3,11,12,13] hL) hL)) hL)))}),(106,{H:=hS hL (hS (hS hL (hS (hP [0,1,7,8,9] hL) hL)) hL)}),(109,{H:=hL,nils:=[(4,2),(7,2)],modes:=[(1,2)]}),(112,{H:=hS hL (hS (hS hL (hS hL (hS hL (hS (hP [0,1,6,7,8,9] hL) hL)))) hL)}),(117,{H:=hL,nils:=[(3,1)],modes:=[(3,0),(1,1)]}),(120,{H:=hL,modes:=[(3,0)]}),(126,{H:=hS hL (hS hL (hS (hS hL (hS (hP [0,3] (hS hL (hS (hS (hS hL (hS (hS hL (hS (hS hL (hS (hP [0,3,4,5] hL) hL)) hL)) hL)) hL) hL))) hL)) hL)),nils:=[(2,1)],modes:=[(2,1)]}),(127,{H:=hS hL (hS hL (hS hL (hS hL (hS (hS (hP [0,1,4,5,6,7] hL) hL) hL)))),modes:=[(3,0)]}),(128,{H:=hS hL (hS hL (hS hL (hS (hS hL (hS (hP [0,1,5] hL) hL)) hL)))}),(132,{H:=hS hL (hS hL (hS hL (hS (hS (hP [0,1,6,7,8] hL) hL) hL)))}),(135,{H:=hS hL (hS hL (hS (hS hL (hS (hP [0,1,5] hL) hL)) hL))}),(138,{H:=hL,modes:=[(3,0)]}),(139,{H:=hL,modes:=[(3,0)]}),(140,{H:=hL,nils:=[(2,1)],modes:=[(2,1)]}),(142,{H:=hS hL (hS hL (hS hL (hS hL (hS hL (hS (hS hL (hS (hP [0,1,6,7,8] hL) hL)) hL))))),nils:=[(4,1)],modes:=[(2,1),(0,0)]}),(143,{H:=hS hL (hS hL (hS (hS hL (hS (hP [0,1,5,6] (hS hL (hS (hS (hS hL (hS (hS hL (hS (hP [0,1,5,6,7,8] hL) hL)) hL)) hL) hL))) hL)) hL)),nils:=[(4,1)],modes:=[(2,1)]}),(149,{H:=hL,modes:=[(3,0)]}),(170,{H:=hL,nils:=[(2,1)],modes:=[(2,1)]}),(180,{H:=hS hL (hS hL (hS (hS (hP [0,3] hL) hL) hL)),nils:=[(2,1)],modes:=[(2,1)]}),(193,{H:=hS hL (hS hL (hS (hS (hP [0,3] hL) hL) hL)),nils:=[(2,1)],modes:=[(2,1)]}),(194,{H:=hS hL (hS hL (hS hL (hS (hS hL (hS (hP [0,1,5] hL) hL)) hL)))}),(195,{H:=hS hL (hS (hS hL (hS (hP [0,1,2,7] hL) hL)) hL),nils:=[(6,2)],modes:=[(2,2)]}),(198,{H:=hL,modes:=[(3,0)]}),(212,{H:=hS hL (hS (hS hL (hS (hP [0,1,7,8] hL) hL)) hL)}),(214,{H:=hS hL (hS hL (hS (hS hL (hS (hP [3,6,7,8] hL) hL)) hL))}),(233,{H:=hL,modes:=[(3,0)]}),(235,{H:=hS hL (hS (hS hL (hS (hP [0,1,7,8] hL) hL)) hL)}),(247,{H:=hL,modes:=[(3,0)]}),(248,{H:=hL,modes:=[(3,0)]})]++[16,21,25,48,52,55,60,68,69,107,108,110,111,113,114,115,116,123,124,125,144,147,169,171,172,173,175,176,177,187,196,197,213].map fun f=>(f,{H:=hL})
structure PtL where
 l:List Pt
 ok:cZ Tryz.prog l
def Z5(n:Nat)(c:LA):Blk:=⟨false,false,true,false,n,c,false,none⟩
def AQ(s:PtL)(p:Pt)(e:c_ p (WD Tryz.prog muts (uM Tryz.prog muts 1000000 s.l xV 11) (sP p.f xV) 1000000 p.f p.args p.h fun v h=>some (v,h))=true):PtL:=⟨p::s.l,tH follows s.ok _ e,s.ok⟩
def xW(s:PtL)(p:Pt)(e:oZ Tryz.prog p):PtL:=⟨p::s.l,e,s.ok⟩
def pl:PtL:=⟨[],trivial⟩
def y7:=AQ pl ⟨66,[.pagg [.str [],iv 0,iv 10,iv 30,.imm [iv 20,iv 4] 1 2 false false,iv 0,iv 100,iv 100,iv 30,iv 30,iv 0,iv 0,iv 0,iv 50,iv 50,iv 0,iv 0,iv 0,.nsl,iv 0,iv 1,iv 0] false],[],.pagg [.imm [iv 10,iv 30] 2 1 false false,.imm [.bool false,.imm [] 0 1 false false,.imm [.int .u32 1] 1 1 false false,.bool true,.imm [.int .u32 80] 1 1 false false,.imm [.int .u32 1] 1 1 false false] 2 3 false false] false,[]⟩ (by kernel_rfl)
def y8:=xW y7 ⟨125,[.own 100000 0 2],[(100000,Z5 1 [iv 10,iv 30])],.tup [],[(100000,Z5 1 [iv 10,iv 30])]⟩ (sQ (by kernel_rfl) (by kernel_rfl))
def xE:Ap:=[(100000,Z5 0 [.bool false,.imm [.int .u32 5] 1 1 false false,.imm [.int .u32 1] 1 1 false false]),(100001,Z5 0 [.imm [iv 10,iv 30] 2 1 false false,.imm [.bool false,.imm [] 0 1 false false,.imm [.int .u32 1] 1 1 false false,.bool true,.imm [.int .u32 80] 1 1 false false,.imm [.int .u32 1] 1 1 false false] 2 3 false false]),(100002,Z5 0 [.bool false,.imm [] 0 1 false false,.imm [.int .u32 1] 1 1 false false]),(100003,⟨false,false,false,false,0,[.fn 68 [.optr 100002 0,.optr 100004 0,.optr 100005 0,.optr 100006 0]],false,none⟩),(100004,Z5 0 [.str [],iv 0,iv 10,iv 30,.imm [iv 20,iv 4] 1 2 false false,iv 0,iv 100,iv 100,iv 30,iv 30,iv 0,iv 0,iv 0,iv 50,iv 50,iv 0,iv 0,iv 0,.nsl,iv 0,iv 1,iv 0]),(100005,⟨false,false,false,false,0,[iv 30],false,none⟩),(100006,⟨false,false,false,false,0,[iv 10],false,none⟩)]
def y9:=AQ y8 ⟨71,[iv 10,.optr 100000 0,.optr 100001 0,.optr 100002 0,.optr 100003 0],xE,.pagg [.bool false,.imm [.int .u32 50] 1 1 false false,.imm [.int .u32 1] 1 1 false false] false,xE⟩ (by kernel_rfl)
def y_:=AQ y9 ⟨71,[iv 30,.optr 100000 0,.optr 100001 0,.optr 100002 0,.optr 100003 0],xE,.pagg [.bool false,.imm [.int .u32 70] 1 1 false false,.imm [.int .u32 1] 1 1 false false] false,xE⟩ (by kernel_rfl)
def ya:=AQ y_ ⟨75,[.pagg [.imm [iv 10,iv 30] 2 1 false false,.imm [.bool false,.imm [.int .u32 50] 1 1 false false,.imm [.int .u32 1] 1 1 false false,.bool false,.imm [.int .u32 70] 1 1 false false,.imm [.int .u32 1] 1 1 false false] 2 3 false false] false,.pagg [.bool false,.imm [] 0 1 false false,.imm [.int .u32 1] 1 1 false false] false],[],iv 30,[]⟩ (by kernel_rfl)
def yb:=AQ ya ⟨28,[.pagg [.str [],iv 0,iv 10,iv 30,.imm [iv 20,iv 4] 1 2 false false,iv 0,iv 100,iv 100,iv 30,iv 30,iv 0,iv 0,iv 0,iv 50,iv 50,iv 0,iv 0,iv 0,.nsl,iv 0,iv 1,iv 0] false,iv 0,iv 100,.pagg [.bool false,.imm [.int .u32 5] 1 1 false false,.imm [.int .u32 1] 1 1 false false] false,.pagg [.bool false,.imm [] 0 1 false false,.imm [.int .u32 1] 1 1 false false] false],[],.tup [iv 30,iv 0,.pagg [.bool false,.imm [.int .u32 70] 1 1 false false,.imm [.int .u32 1] 1 1 false false] false,iv 0],[]⟩ (by kernel_rfl)
def yc:=AQ yb ⟨66,[.pagg [.str [],iv 0,iv 10,iv 30,.imm [iv 20,iv 4] 1 2 false false,iv 0,iv 100,iv 100,iv 30,iv 30,iv 0,iv 0,iv 0,iv 50,iv 50,iv 0,iv 0,iv 0,.imm [] 0 1 false false,iv 0,iv 1,iv 0] false],[],.pagg [.imm [iv 10,iv 30] 2 1 false false,.imm [.bool false,.imm [] 0 1 false false,.imm [.int .u32 1] 1 1 false false,.bool true,.imm [.int .u32 80] 1 1 false false,.imm [.int .u32 1] 1 1 false false] 2 3 false false] false,[]⟩ (by kernel_rfl)
def yd:=AQ yc ⟨149,[.iptr [.str [],iv 0,iv 10,iv 30,.imm [iv 20,iv 4] 1 2 false false,iv 0,iv 100,iv 100,iv 30,iv 30,iv 0,iv 0,iv 0,iv 50,iv 50,iv 0,iv 0,iv 0,.imm [] 0 1 false false,iv 0,iv 1,iv 0,iv 1,.imm [.bool false,.imm [.int .u32 5] 1 1 false false,.imm [.int .u32 1] 1 1 false false] 1 3 false true,.imm [.bool false,.imm [] 0 1 false false,.imm [.int .u32 1] 1 1 false false] 1 3 false true,.imm [iv 10,iv 30] 2 1 false false,.imm [.bool false,.imm [] 0 1 false false,.imm [.int .u32 1] 1 1 false false,.bool true,.imm [.int .u32 80] 1 1 false false,.imm [.int .u32 1] 1 1 false false] 2 3 false false,.imm [] 0 2 false true,.imm [] 0 2 false true,.imm [] 0 2 false true,.imm [] 0 2 false true,.imm [] 0 2 false true,.imm [] 0 2 false true,.imm [] 0 2 false true,.nsl,.nsl,.nsl,.nsl,.nsl,.nsl,.nsl,.nsl,.nsl,.nsl,.nsl,.nsl,.nsl,.nsl,.nsl,.nsl,.nsl] true,iv 0],[],.pagg [.bool false,.imm [] 0 1 false false,.imm [.int .u32 1] 1 1 false false] false,[]⟩ (by kernel_rfl)
def ye:=AQ yd ⟨247,[.iptr [.str [],iv 0,iv 10,iv 30,.imm [iv 20,iv 4] 1 2 false false,iv 0,iv 100,iv 100,iv 30,iv 30,iv 0,iv 0,iv 0,iv 50,iv 50,iv 0,iv 0,iv 0,.imm [] 0 1 false false,iv 0,iv 1,iv 0,iv 1,.imm [.bool false,.imm [.int .u32 5] 1 1 false false,.imm [.int .u32 1] 1 1 false false] 1 3 false true,.imm [.bool false,.imm [] 0 1 false false,.imm [.int .u32 1] 1 1 false false] 1 3 false true,.imm [iv 10,iv 30] 2 1 false false,.imm [.bool false,.imm [] 0 1 false false,.imm [.int .u32 1] 1 1 false false,.bool true,.imm [.int .u32 80] 1 1 false false,.imm [.int .u32 1] 1 1 false false] 2 3 false false,.imm [] 0 2 false true,.imm [] 0 2 false true,.imm [] 0 2 false true,.imm [] 0 2 false true,.imm [] 0 2 false true,.imm [] 0 2 false true,.imm [] 0 2 false true,.nsl,.nsl,.nsl,.nsl,.nsl,.nsl,.nsl,.nsl,.nsl,.nsl,.nsl,.nsl,.nsl,.nsl,.nsl,.nsl,.nsl] true,iv 0,iv 10],[],.pagg [.bool false,.imm [.int .u32 50] 1 1 false false,.imm [.int .u32 1] 1 1 false false] false,[]⟩ (by kernel_rfl)
def yf:=AQ ye ⟨247,[.iptr [.str [],iv 0,iv 10,iv 30,.imm [iv 20,iv 4] 1 2 false false,iv 0,iv 100,iv 100,iv 30,iv 30,iv 0,iv 0,iv 0,iv 50,iv 50,iv 0,iv 0,iv 0,.imm [] 0 1 false false,iv 0,iv 1,iv 0,iv 1,.imm [.bool false,.imm [.int .u32 5] 1 1 false false,.imm [.int .u32 1] 1 1 false false] 1 3 false true,.imm [.bool false,.imm [] 0 1 false false,.imm [.int .u32 1] 1 1 false false] 1 3 false true,.imm [iv 10,iv 30] 2 1 false false,.imm [.bool false,.imm [] 0 1 false false,.imm [.int .u32 1] 1 1 false false,.bool true,.imm [.int .u32 80] 1 1 false false,.imm [.int .u32 1] 1 1 false false] 2 3 false false,.imm [] 0 2 false true,.imm [] 0 2 false true,.imm [] 0 2 false true,.imm [] 0 2 false true,.imm [] 0 2 false true,.imm [] 0 2 false true,.imm [] 0 2 false true,.nsl,.nsl,.nsl,.nsl,.nsl,.nsl,.nsl,.nsl,.nsl,.nsl,.nsl,.nsl,.nsl,.nsl,.nsl,.nsl,.nsl] true,iv 0,iv 30],[],.pagg [.bool false,.imm [.int .u32 70] 1 1 false false,.imm [.int .u32 1] 1 1 false false] false,[]⟩ (by kernel_rfl)
def yL:Ap:=[(100000,Z5 1 [iv 30,iv 10,iv 30]),(100001,⟨false,false,false,false,0,[.iptr [.str [],iv 0,iv 10,iv 30,.imm [iv 20,iv 4] 1 2 false false,iv 0,iv 100,iv 100,iv 30,iv 30,iv 0,iv 0,iv 0,iv 50,iv 50,iv 0,iv 0,iv 0,.imm [] 0 1 false false,iv 0,iv 1,iv 0,iv 1,.imm [.bool false,.imm [.int .u32 5] 1 1 false false,.imm [.int .u32 1] 1 1 false false] 1 3 false true,.imm [.bool false,.imm [] 0 1 false false,.imm [.int .u32 1] 1 1 false false] 1 3 false true,.imm [iv 10,iv 30] 2 1 false false,.imm [.bool false,.imm [] 0 1 false false,.imm [.int .u32 1] 1 1 false false,.bool true,.imm [.int .u32 80] 1 1 false false,.imm [.int .u32 1] 1 1 false false] 2 3 false false,.imm [] 0 2 false true,.imm [] 0 2 false true,.imm [] 0 2 false true,.imm [] 0 2 false true,.imm [] 0 2 false true,.imm [] 0 2 false true,.imm [] 0 2 false true,.nsl,.nsl,.nsl,.nsl,.nsl,.nsl,.nsl,.nsl,.nsl,.nsl,.nsl,.nsl,.nsl,.nsl,.nsl,.nsl,.nsl] true],false,none⟩),(100002,⟨false,false,false,false,0,[iv 0],false,none⟩),(100003,Z5 0 [.bool false,.imm [] 0 1 false false,.imm [.int .u32 1] 1 1 false false])]
def xX:=AQ yf ⟨70,[iv 10,iv 30,.own 100000 0 3,.fn 248 [.optr 100001 0,.optr 100002 0,.optr 100003 0]],yL,.pagg [.imm [iv 10,iv 30] 2 1 false false,.imm [.bool false,.imm [.int .u32 50] 1 1 false false,.imm [.int .u32 1] 1 1 false false,.bool false,.imm [.int .u32 70] 1 1 false false,.imm [.int .u32 1] 1 1 false false] 2 3 false false] false,yL⟩ (by kernel_rfl)
def yM:Ap:=[(100004,Z5 7 []),(100005,Z5 7 []),(100006,Z5 7 []),(100007,Z5 7 []),(100008,Z5 7 []),(100009,Z5 2 []),(100010,Z5 2 []),(100011,Z5 2 []),(100012,Z5 2 []),(100013,Z5 2 []),(100014,Z5 2 []),(100015,Z5 2 [])]
def yN:Ap:=[(100000,⟨false,false,false,false,0,[.optr 100001 0,.imm [iv (-1)] 1 1 false true,.own 100002 0 2,.own 100003 0 2,.own 100004 0 0,.own 100005 0 0,.own 100006 0 0,.own 100007 0 0,.own 100008 0 0,.nsl,.nsl,.nsl,.nsl,.nsl,.nsl,.nsl,.nsl,.nsl,.nsl,.nsl,.nsl,.nsl,.nsl,.nsl,.nsl,.nsl,.nsl],false,none⟩),(100001,⟨false,false,false,false,0,[.str [],iv 0,iv 10,iv 30,.imm [iv 20,iv 4] 1 2 false false,iv 0,iv 100,iv 100,iv 30,iv 30,iv 0,iv 0,iv 0,iv 50,iv 50,iv 0,iv 0,iv 0,.imm [] 0 1 false false,iv 0,iv 1,iv 0,iv 1,.imm [.bool false,.imm [.int .u32 5] 1 1 false false,.imm [.int .u32 1] 1 1 false false] 1 3 false true,.imm [.bool false,.imm [] 0 1 false false,.imm [.int .u32 1] 1 1 false false] 1 3 false true,.imm [iv 10,iv 30] 2 1 false false,.imm [.bool false,.imm [] 0 1 false false,.imm [.int .u32 1] 1 1 false false,.bool true,.imm [.int .u32 80] 1 1 false false,.imm [.int .u32 1] 1 1 false false] 2 3 false false,.own 300000 0 1,.own 100010 0 0,.own 100011 0 0,.own 100012 0 0,.own 100013 0 0,.own 100014 0 0,.own 100015 0 0,.nsl,.nsl,.nsl,.nsl,.nsl,.nsl,.nsl,.nsl,.nsl,.nsl,.nsl,.nsl,.nsl,.nsl,.nsl,.nsl,.nsl],false,none⟩),(100002,Z5 7 [.bool true,.bool false,.imm [] 0 1 false false,.imm [.int .u32 1] 1 1 false false,iv 0,iv 0,.bool false,.bool false,.bool false,.nsl,.nsl,iv 0,iv 0,.bool false]),(100003,Z5 7 [.bool true,.bool false,.imm [] 0 1 false false,.imm [.int .u32 1] 1 1 false false,iv 0,iv 0,.bool false,.bool true,.bool false,.imm [.int .u32 20] 1 1 false false,.imm [.int .u32 1] 1 1 false false,iv 0,iv 0,.bool true]),(100004,Z5 7 []),(100005,Z5 7 []),(100006,Z5 7 []),(100007,Z5 7 []),(100008,Z5 7 []),(100010,Z5 2 []),(100011,Z5 2 []),(100012,Z5 2 []),(100013,Z5 2 []),(100014,Z5 2 []),(100015,Z5 2 []),(300000,Z5 2 [.imm [iv 10,iv 30] 2 1 false false,.imm [.bool false,.imm [.int .u32 50] 1 1 false false,.imm [.int .u32 1] 1 1 false false,.bool false,.imm [.int .u32 70] 1 1 false false,.imm [.int .u32 1] 1 1 false false] 2 3 false false])]
def xY:=AQ xX ⟨112,[.optr 100000 0,iv 0,.pagg [iv 2,iv 1] false,.pagg [.bool true,.bool true,.imm [.int .u32 50] 1 1 false false,.imm [.int .u32 1] 1 1 false false,iv 0,iv 0,.bool true] false],(100000,⟨false,false,false,false,0,[.optr 100001 0,.imm [iv (-1)] 1 1 false true,.own 100002 0 2,.own 100003 0 2,.own 100004 0 0,.own 100005 0 0,.own 100006 0 0,.own 100007 0 0,.own 100008 0 0,.nsl,.nsl,.nsl,.nsl,.nsl,.nsl,.nsl,.nsl,.nsl,.nsl,.nsl,.nsl,.nsl,.nsl,.nsl,.nsl,.nsl,.nsl],false,none⟩)::(100001,⟨false,false,false,false,0,[.str [],iv 0,iv 10,iv 30,.imm [iv 20,iv 4] 1 2 false false,iv 0,iv 100,iv 100,iv 30,iv 30,iv 0,iv 0,iv 0,iv 50,iv 50,iv 0,iv 0,iv 0,.imm [] 0 1 false false,iv 0,iv 1,iv 0,iv 1,.imm [.bool false,.imm [.int .u32 5] 1 1 false false,.imm [.int .u32 1] 1 1 false false] 1 3 false true,.imm [.bool false,.imm [] 0 1 false false,.imm [.int .u32 1] 1 1 false false] 1 3 false true,.imm [iv 10,iv 30] 2 1 false false,.imm [.bool false,.imm [] 0 1 false false,.imm [.int .u32 1] 1 1 false false,.bool true,.imm [.int .u32 80] 1 1 false false,.imm [.int .u32 1] 1 1 false false] 2 3 false false,.own 100009 0 0,.own 100010 0 0,.own 100011 0 0,.own 100012 0 0,.own 100013 0 0,.own 100014 0 0,.own 100015 0 0,.nsl,.nsl,.nsl,.nsl,.nsl,.nsl,.nsl,.nsl,.nsl,.nsl,.nsl,.nsl,.nsl,.nsl,.nsl,.nsl,.nsl],false,none⟩)::(100002,Z5 7 [.bool true,.bool false,.imm [] 0 1 false false,.imm [.int .u32 1] 1 1 false false,iv 0,iv 0,.bool false,.bool false,.bool false,.nsl,.nsl,iv 0,iv 0,.bool false])::(100003,Z5 7 [.bool true,.bool false,.imm [] 0 1 false false,.imm [.int .u32 1] 1 1 false false,iv 0,iv 0,.bool false,.bool false,.bool false,.nsl,.nsl,iv 0,iv 0,.bool false])::yM,.tup [],yN⟩ (by kernel_rfl)
def xZ:=AQ xY ⟨54,[.optr 100000 0,iv 0,iv 0,.pagg [iv 0,iv 1] false],(100000,⟨false,false,false,false,0,[.optr 100001 0,.imm [iv (-1)] 1 1 false true,.own 100002 0 2,.own 100003 0 2,.own 100004 0 0,.own 100005 0 0,.own 100006 0 0,.own 100007 0 0,.own 100008 0 0,.nsl,.nsl,.nsl,.nsl,.nsl,.nsl,.nsl,.nsl,.nsl,.nsl,.nsl,.nsl,.nsl,.nsl,.nsl,.nsl,.nsl,.nsl],false,none⟩)::(100001,⟨false,false,false,false,0,[.str [],iv 0,iv 10,iv 30,.imm [iv 20,iv 4] 1 2 false false,iv 0,iv 100,iv 100,iv 30,iv 30,iv 0,iv 0,iv 0,iv 50,iv 50,iv 0,iv 0,iv 0,.imm [] 0 1 false false,iv 0,iv 1,iv 0,iv 1,.imm [.bool false,.imm [.int .u32 5] 1 1 false false,.imm [.int .u32 1] 1 1 false false] 1 3 false true,.imm [.bool false,.imm [] 0 1 false false,.imm [.int .u32 1] 1 1 false false] 1 3 false true,.imm [iv 10,iv 30] 2 1 false false,.imm [.bool false,.imm [] 0 1 false false,.imm [.int .u32 1] 1 1 false false,.bool true,.imm [.int .u32 80] 1 1 false false,.imm [.int .u32 1] 1 1 false false] 2 3 false false,.own 100009 0 0,.own 100010 0 0,.own 100011 0 0,.own 100012 0 0,.own 100013 0 0,.own 100014 0 0,.own 100015 0 0,.nsl,.nsl,.nsl,.nsl,.nsl,.nsl,.nsl,.nsl,.nsl,.nsl,.nsl,.nsl,.nsl,.nsl,.nsl,.nsl,.nsl],false,none⟩)::(100002,Z5 7 [.bool true,.bool false,.imm [] 0 1 false false,.imm [.int .u32 1] 1 1 false false,iv 0,iv 0,.bool false,.bool false,.bool false,.nsl,.nsl,iv 0,iv 0,.bool false])::(100003,Z5 7 [.bool false,.bool false,.nsl,.nsl,iv 0,iv 0,.bool false,.bool false,.bool false,.nsl,.nsl,iv 0,iv 0,.bool false])::yM,.tup [],yN⟩ (by kernel_rfl)
def x9:=AQ xZ ⟨149,[.iptr [.str [],iv 0,iv 10,iv 30,.imm [iv 20,iv 4] 1 2 false false,iv 0,iv 100,iv 100,iv 30,iv 30,iv 0,iv 0,iv 0,iv 50,iv 50,iv 0,iv 0,iv 0,.imm [] 0 1 false false,iv 0,iv 1,iv 0,iv 1,.imm [.bool false,.imm [.int .u32 5] 1 1 false false,.imm [.int .u32 1] 1 1 false false] 1 3 false true,.imm [.bool false,.imm [] 0 1 false false,.imm [.int .u32 1] 1 1 false false] 1 3 false true,.imm [iv 10,iv 30] 2 1 false false,.imm [.bool false,.imm [] 0 1 false false,.imm [.int .u32 1] 1 1 false false,.bool true,.imm [.int .u32 80] 1 1 false false,.imm [.int .u32 1] 1 1 false false] 2 3 false false,.imm [.imm [iv 10,iv 30] 2 1 false false,.imm [.bool false,.imm [.int .u32 50] 1 1 false false,.imm [.int .u32 1] 1 1 false false,.bool false,.imm [.int .u32 70] 1 1 false false,.imm [.int .u32 1] 1 1 false false] 2 3 false false] 1 2 false true,.imm [] 0 2 false true,.imm [] 0 2 false true,.imm [] 0 2 false true,.imm [] 0 2 false true,.imm [] 0 2 false true,.imm [] 0 2 false true,.nsl,.nsl,.nsl,.nsl,.nsl,.nsl,.nsl,.nsl,.nsl,.nsl,.nsl,.nsl,.nsl,.nsl,.nsl,.nsl,.nsl] true,iv 0],[],.pagg [.bool false,.imm [] 0 1 false false,.imm [.int .u32 1] 1 1 false false] false,[]⟩ (by kernel_rfl)
def x_:=AQ x9 ⟨23,[.pagg [.str [],iv 0,iv 10,iv 30,.imm [iv 20,iv 4] 1 2 false false,iv 0,iv 100,iv 100,iv 30,iv 30,iv 0,iv 0,iv 0,iv 50,iv 50,iv 0,iv 0,iv 0,.nsl,iv 0,iv 1,iv 0] false,iv 1,.imm [.bool false,.imm [.int .u32 5] 1 1 false false,.imm [.int .u32 1] 1 1 false false] 1 3 false true,.imm [.bool false,.imm [] 0 1 false false,.imm [.int .u32 1] 1 1 false false] 1 3 false true,.imm [iv (-1)] 1 1 false true],[],.tup [.pagg [.imm [iv 2] 1 1 false false,.imm [.bool false,.imm [.int .u32 30] 1 1 false false,.imm [.int .u32 1] 1 1 false false] 1 3 false false,.imm [.bool false,.imm [] 0 1 false false,.imm [.int .u32 1] 1 1 false false] 1 3 false false] false,.pagg [.bool false,.imm [.int .u32 20] 1 1 false false,.imm [.int .u32 1] 1 1 false false] false,iv 0],[]⟩ (by kernel_rfl)
def xa:=AQ x_ ⟨33,[.pagg [.bool false,.imm [.int .u32 70] 1 1 false false,.imm [.int .u32 1] 1 1 false false] false,.pagg [.bool true,.imm [.int .u32 70] 1 1 false false,.imm [.int .u32 1] 1 1 false false] false],[],.pagg [.bool false,.imm [] 0 1 false false,.imm [.int .u32 1] 1 1 false false] false,[]⟩ (by kernel_rfl)
def xb:=AQ xa ⟨21,[.pagg [.bool false,.imm [.int .u32 70] 1 1 false false,.imm [.int .u32 1] 1 1 false false] false,.pagg [.bool false,.imm [.int .u32 70] 1 1 false false,.imm [.int .u32 1] 1 1 false false] false],[],iv 0,[]⟩ (by kernel_rfl)
def xc:=AQ xb ⟨33,[.pagg [.bool false,.imm [.int .u32 20] 1 1 false false,.imm [.int .u32 1] 1 1 false false] false,.pagg [.bool true,.imm [.int .u32 20] 1 1 false false,.imm [.int .u32 1] 1 1 false false] false],[],.pagg [.bool false,.imm [] 0 1 false false,.imm [.int .u32 1] 1 1 false false] false,[]⟩ (by kernel_rfl)
def yg:=AQ xc ⟨21,[.pagg [.bool false,.imm [.int .u32 20] 1 1 false false,.imm [.int .u32 1] 1 1 false false] false,.pagg [.bool false,.imm [.int .u32 20] 1 1 false false,.imm [.int .u32 1] 1 1 false false] false],[],iv 0,[]⟩ (by kernel_rfl)
def PG:sG Tryz.prog 16 [] [] (.bool true) []:=tH follows (muts:=muts) (N:=1000000) yg.ok (fs:=xV) 11 (p:=⟨16,[],[],.bool true,[]⟩) (by kernel_rfl)
end
end Gx
namespace Gx
open Go Go.Proofs
noncomputable section
variable{R:Type}(N:Nat)
def L_(_N:Nat)(r0:Bool->O R):O R:=r0 true
def Ul:=(Ak (@L_ R)).1
def Ks:@Ul R=@L_ R:=(Ak _).2
def aU:Bd Tryz.prog:=⟨16,fun
|[],[]=>some fun _ k=>Ul N fun b=>k (.bool b) []
| _,_=>none,(fun a h g e R k=>by
  split at e
  ·cases e;dsimp only;rw[Ks,Ks];rfl
  ·cases e),(fun a h g res h' e hh=>by
  split at e
  ·cases e;dsimp only at hh;rw[Ks]at hh;cases hh;exact PG
  ·cases e)⟩
end
end Gx
namespace Gx
open Go Go.Proofs
set_option maxRecDepth 100000
noncomputable section
variable{R:Type}(N:Nat)
def Hj(N:Nat)(r0:LA->Bool->LA->O R)(b:Int)(c:Bool)(a:LA):O R:=(cond (ble 3 a.length) (cond ((beq ((a.take 3).length) 3)&&(ble 3 3)) (r0 [.int .i64 b] (c||false) ((setCells [.bool false,.nsl,.nsl] 0 (a.take 3)).take 3)) none) none)
def J3(N:Nat)(r0:LA->Bool->LA->O R)(q0:O R)(b:Int)(a:LA)(c:Bool):O R:=q0
def Ez:=(Ak fun N b a c r0=>J3 (R:=R) N r0 (Hj N r0 b c a) b a c).1
def Pv(b a c r0):(@Ez R N b a c r0)=(J3 N r0 (Hj N r0 b c a) b a c):=by rw[Ez,(Ak _).2]
def IR(F:KF R):=Mp Tryz.f123 md [] [100000] N F
def K1(F:KF R):LA->Bool->LA->O R:=fun d e f=>F (.tup []) [(100000,bN 0 [Ahf 0 1,Ahf 1 1]),(300000,bQ 1 d),(300001,bP e 3 f)]
def IS(b:Int)(c:Bool)(a:LA)(K:St->O R):=K ⟨[(0,.optr 100000 0),(1,iv b),(5,op 0)],[(100000,bN 0 [.nsl,.nsl]),(300000,bP c 0 a)]⟩
def AR(F:KF R)(b c a):IS b c a (Ba (IR N F (pz 85) []))=(Hj N (K1 F) b c a):=by kernel_rfl
def MA:=Dm N 123 [] md (fun
|[.optr 100000 0,.int .i64 b,.pagg a c],[(100000,⟨false,false,false,false,0,[.nsl,.nsl],false,none⟩)]=>some fun _ k=>Ez N b a c (K1 k)
| _,_=>none) fun _ _=>by split;intro R F;exact(Dw (J3 N (K1 F) · _ _ _) ((jW ..).trans (AR ..)):_).trans (Pv ..).symm;trivial
def Eo:=xN (MA N) (Uf N) (Eq.refl 123)
def Iq(r0:Int->O R)(g:LA)(f:Nat)(b:Bool)(a:LA)(d:Bool)(c:LA)(k1:Int->Int->Int->LA->O R)(m l h:Int)(i:LA):O R:=(cond (decide (h<l)) (cond (Ab h f) (Am .i64 (g.drop (h.toNat*1)) fun s=>D6 3 (a.drop 1) fun q t=>cond (Ab h t) (cond (ble 3 ((q.drop (h.toNat*3)).length)) (cond (ble 3 c.length) (A4 N s fun u=>Kc N (c.take 3) d u false fun v=>L0 N ((q.drop (h.toNat*3)).take 3) b v false fun j=>cond ((beq 0 0)&&((beq j.length 3)&&(beq 3 3))) (cond ((h==0)==false) (cond (ble 3 j.length) (cond (ble 3 i.length) (I5 N (j.take 3) false (i.take 3) false fun w=>cond (cond false true (decide (w>0))) (cond (ble 3 j.length) (cond ((beq ((j.take 3).length) 3)&&((ble 3 i.length)&&(!false))) (k1 h l (wrap .i64 (h+1)) (setCells i 0 (j.take 3))) none) none) (k1 m l (wrap .i64 (h+1)) i)) none) none) (cond (ble 3 j.length) (cond ((beq ((j.take 3).length) 3)&&((ble 3 i.length)&&(!false))) (k1 h l (wrap .i64 (h+1)) (setCells i 0 (j.take 3))) none) none)) none) none) none) none) none) (D6 1 a fun x y=>cond (Ab m y) (Am .i64 (x.drop (m.toNat*1)) fun z=>r0 z) none))
def Fd(r0:Int->O R)(g:LA)(f:Nat)(b:Bool)(a:LA)(d:Bool)(c:LA):Nat->Int->Int->Int->LA->O R
|0=>fun _ _ _ _=>none
|n+1=>Iq N r0 g f b a d c (Fd r0 g f b a d c n)
def Mb(r0:Int->O R)(g:LA)(f:Nat)(b:Bool)(a:LA)(d:Bool)(c:LA)(k0:Int->O R)(k1:Int->Int->Int->LA->O R)(o:Int):O R:=(cond (decide (0<o)) (cond (Ab 0 f) (Am .i64 g fun aa=>D6 3 (a.drop 1) fun r ab=>cond (Ab 0 ab) (cond (ble 3 r.length) (cond (ble 3 c.length) (A4 N aa fun ac=>Kc N (c.take 3) d ac false fun ad=>L0 N (r.take 3) b ad false fun p=>cond ((beq 0 0)&&((beq p.length 3)&&(beq 3 3))) (cond (ble 3 p.length) (cond ((beq 0 0)&&((beq ((p.take 3).length) 3)&&(beq 3 3))) (k1 0 o 1 (p.take 3)) none) none) none) none) none) none) none) (D6 1 a fun ae af=>cond (Ab 0 af) (Am .i64 ae fun ag=>r0 ag) none))
def Fe(r0:Int->O R)(g:LA)(f:Nat)(b:Bool)(a:LA)(d:Bool)(c:LA):Nat->Int->O R
|0=>fun _=>none
|n+1=>Mb N r0 g f b a d c (Fe r0 g f b a d c n) (Fd N r0 g f b a d c n)
def Mc(N:Nat)(r0:Int->O R)(q0:LA->Nat->Int->O R)(a:LA)(b:Bool)(c:LA)(d:Bool):O R:=(D6 1 a fun g f=>q0 g f (f:Int))
def Gg:=(Ak fun N a b c d r0=>Mc (R:=R) N r0 (fun g f=>Fe N r0 g f b a d c N) a b c d).1
def Um(a b c d r0):(@Gg R N a b c d r0)=(Mc N r0 (fun g f=>Fe N r0 g f b a d c N) a b c d):=by rw[Gg,(Ak _).2]
def Wt:Hints:={H:=hK 3 (hS (hK 1 (hS (hP [2,3,5,6,11,12,13] hL) hL)) hL)}
def Z6:Vc:=[Cd N,Of N,Wj N,Yc N]
def Wu(F:KF R):=Mp Tryz.f75 Wt (Z6 N) [] N F
def PH(g:LA)(f:Nat)(b:Bool)(a:LA)(d:Bool)(c:LA)(K:St->O R):=fun m l h i=>K ⟨[(2,op 0),(3,op 1),(5,iv m),(6,op 2),(11,.imm g f 1 false b),(12,iv l),(13,iv h)],hq [bP b 0 a,bP d 0 c,bQ 0 i]⟩
def PI(g:LA)(f:Nat)(b:Bool)(a:LA)(d:Bool)(c:LA)(K:St->O R):=fun o=>K ⟨[(2,op 0),(3,op 1),(5,iv 0),(6,op 2),(11,.imm g f 1 false b),(12,iv o),(13,iv 0)],hq [bP b 0 a,bP d 0 c,bN 0 [.bool false,.nsl,.nsl]]⟩
def EY(F:KF R)(g f b a d c):∀ n,PH g f b a d c (A3 (Wu N F (pz 5444) []) n)=(Fd N (He F) g f b a d c n):=Mo fun n e=>(Dw (Iq N (He F) g f b a d c) e:_)
def EZ(F:KF R)(g f b a d c):∀ n,PI g f b a d c (A3 (Wu N F (pz 5444) []) n)=(Fe N (He F) g f b a d c n):=Mo fun n e=>(ZX (Mb N (He F) g f b a d c) e (EY ..):_)
def Z7:=Dm N 75 (Z6 N) Wt (fun
|[.pagg a b,.pagg c d],[]=>some fun _ k=>Gg N a b c d (He k)
| _,_=>none) fun _ _=>by split;intro R F;exact(Dw (Mc N (He F) · _ _ _ _) (kP fun g f=>(lW ..).trans (EZ ..)):_).trans (Um ..).symm;trivial
def Vi(a:LA)(b:Bool)(c:Int)(d:LA)(e:Nat)(f g:Bool)(h:LA)(i:Nat)(j l:Bool)(r0:Lu->Int->Int->Int->LA->Nat->Int->Int->Int->Int->Int->Int->Int->Int->Int->Int->Int->Int->Int->LA->Nat->Int->Int->Int->LA->Nat->Bool->LA->Nat->Bool->LA->LA->LA->LA->LA->LA->LA->O R):O R:=(yH a fun n=>Am .i64 (a.drop 1) fun o=>Am .i64 (a.drop 2) fun p=>Am .i64 (a.drop 3) fun q=>D6 2 (a.drop 4) fun r s=>Am .i64 (a.drop 5) fun t=>Am .i64 (a.drop 6) fun u=>Am .i64 (a.drop 7) fun v=>Am .i64 (a.drop 8) fun w=>Am .i64 (a.drop 9) fun x=>Am .i64 (a.drop 10) fun y=>Am .i64 (a.drop 11) fun z=>Am .i64 (a.drop 12) fun aa=>Am .i64 (a.drop 13) fun ab=>Am .i64 (a.drop 14) fun ac=>Am .i64 (a.drop 15) fun ad=>Am .i64 (a.drop 16) fun ae=>Am .i64 (a.drop 17) fun af=>D6 1 (a.drop 18) fun ag ah=>Am .i64 (a.drop 19) fun ai=>Am .i64 (a.drop 20) fun aj=>Am .i64 (a.drop 21) fun ak=>cond (beq a.length 22) (Hz N [.str n,.int .i64 o,.int .i64 p,.int .i64 q,.imm r s 2 false b,.int .i64 t,.int .i64 u,.int .i64 v,.int .i64 w,.int .i64 x,.int .i64 y,.int .i64 z,.int .i64 aa,.int .i64 ab,.int .i64 ac,.int .i64 ad,.int .i64 ae,.int .i64 af,.imm ag ah 1 false b,.int .i64 ai,.int .i64 aj,.int .i64 ak] (b||(b||false)) fun m al=>D6 1 m fun am an=>D6 3 (m.drop 1) fun ao ap=>cond ((beq m.length 2)&&(true&&(beq 2 2&&ble 27 51))) (r0 n o p q r s t u v w x y z aa ab ac ad ae af ag ah ai aj ak am an al ao ap al [] [] [] [] [] [] []) none) none)
def Ql:=(Ak (@Vi R)).1
def Wv:@Ql R=@Vi R:=(Ak _).2
def TG(b:Bool)(c:Int)(d:LA)(e:Nat)(f g:Bool)(h:LA)(i:Nat)(j l:Bool)(F:KF R):Lu->Int->Int->Int->LA->Nat->Int->Int->Int->Int->Int->Int->Int->Int->Int->Int->Int->Int->Int->LA->Nat->Int->Int->Int->LA->Nat->Bool->LA->Nat->Bool->LA->LA->LA->LA->LA->LA->LA->O R:=fun aq ar au av aw ax ay az ba bb bc bd be bf bg bh bi bj bk bl bm bn bo bp bq br bs bt bu bv bw bx bz ca cb cc cd=>F (op 0) (hq [bN 0 [.str aq,iv ar,iv au,iv av,.imm aw ax 2 false b,iv ay,iv az,iv ba,iv bb,iv bc,iv bd,iv be,iv bf,iv bg,iv bh,iv bi,iv bj,iv bk,.imm bl bm 1 false b,iv bn,iv bo,iv bp,iv c,.imm d e 3 f g,.imm h i 3 j l,.imm bq br 1 false bs,.imm bt bu 3 false bv,Ahf 1 0,Ahf 2 0,Ahf 3 0,Ahf 4 0,Ahf 5 0,Ahf 6 0,Ahf 7 0,.nsl,.nsl,.nsl,.nsl,.nsl,.nsl,.nsl,.nsl,.nsl,.nsl,.nsl,.nsl,.nsl,.nsl,.nsl,.nsl,.nsl],bQ 2 bw,bQ 2 bx,bQ 2 bz,bQ 2 ca,bQ 2 cb,bQ 2 cc,bQ 2 cd])
def YA:=Dm N 49 [LL N] { H:=hL,cob:=[4,14,15] } (fun
|[.pagg a b,.int .i64 c,.imm d e 3 f g,.imm h i 3 j l],[]=>some fun _ k=>Ql N a b c d e f g h i j l (TG b c d e f g h i j l k)
| _,_=>none) fun _ _=>by split;intro R F;dsimp only;rw[Wv];kernel_rfl;trivial
def Nt(b:LA)(c:Bool)(a:Int)(r0:LA->O R):O R:=(A4 N 0 fun f=>D6 3 (b.drop 24) fun e g=>cond (Ab a g) (cond (ble 3 ((e.drop (a.toNat*3)).length)) (Am .i64 (b.drop 17) fun h=>A4 N h fun i=>Sf N ((e.drop (a.toNat*3)).take 3) c i false fun j=>gP N f false j false fun d=>cond ((beq 0 0)&&((beq d.length 3)&&(beq 3 3))) (cond (ble 3 d.length) (r0 (d.take 3)) none) none) none) none)
def E1:=(Ak (@Nt R)).1
def Pw:@E1 R=@Nt R:=(Ak _).2
def Md:=Dm N 149 [Cd N,CI N,qT N] J9 (fun
|[.iptr b c,.int .i64 a],[]=>some fun _ k=>E1 N b c a (Gs k)
| _,_=>none) fun _ _=>by split;intro R F;dsimp only;rw[Pw];kernel_rfl;trivial
def O4(e:LA)(f:Bool)(g:Int)(a:LA)(c:Bool)(r0:LA->Bool->O R):O R:=(E1 N e f g fun b=>cond ((beq 0 0)&&((beq b.length 3)&&(beq 3 3))) (cond (ble 2 a.length) (cond (ble 3 b.length) (cond (ble 2 a.length) (A4 N 0 fun i=>Gg N (a.take 2) c i false fun d=>cond (ble 2 a.length) (cond (ble 3 b.length) (Gg N (a.take 2) c (b.take 3) false fun h=>cond ((beq ((a.take 2).length) 2)&&(ble 2 7)) (cond ((beq ((b.take 3).length) 3)&&(ble 5 ((setCells [.nsl,.nsl,.bool false,.nsl,.nsl,Ahg,Ahg] 0 (a.take 2)).length))) (cond ((beq 1 1)&&(ble 6 ((setCells (setCells [.nsl,.nsl,.bool false,.nsl,.nsl,Ahg,Ahg] 0 (a.take 2)) 2 (b.take 3)).length))) (cond ((beq 1 1)&&(ble 7 (((setCells (setCells [.nsl,.nsl,.bool false,.nsl,.nsl,Ahg,Ahg] 0 (a.take 2)) 2 (b.take 3)).set 5 (.int .i64 d)).length))) (cond ((beq 0 0)&&((beq ((((setCells (setCells [.nsl,.nsl,.bool false,.nsl,.nsl,Ahg,Ahg] 0 (a.take 2)) 2 (b.take 3)).set 5 (.int .i64 d)).set 6 (.int .i64 h)).length) 7)&&(beq 7 7))) (cond (ble 7 ((((setCells (setCells [.nsl,.nsl,.bool false,.nsl,.nsl,Ahg,Ahg] 0 (a.take 2)) 2 (b.take 3)).set 5 (.int .i64 d)).set 6 (.int .i64 h)).length)) (r0 ((((setCells (setCells [.nsl,.nsl,.bool false,.nsl,.nsl,Ahg,Ahg] 0 (a.take 2)) 2 (b.take 3)).set 5 (.int .i64 d)).set 6 (.int .i64 h)).take 7) (c||false)) none) none) none) none) none) none) none) none) none) none) none) none)
def Bm:=(Ak (@O4 R)).1
def Sz:@Bm R=@O4 R:=(Ak _).2
def Ww:=Dm N 146 [Md N,Cd N,Z7 N] J9 (fun
|[.iptr e f,.int .i64 g,.pagg a c],[]=>some fun _ k=>Bm N e f g a c (WE k)
| _,_=>none) fun _ _=>by split;intro R F;dsimp only;rw[Sz];kernel_rfl;trivial
def O5(N:Nat)(a:LA)(b:Bool)(r0:Int->O R):O R:=(D6 1 a fun c d=>cond (Ab 0 d) (Am .i64 c fun e=>r0 e) none)
def Gv:=(Ak (@O5 R)).1
def S5:@Gv R=@O5 R:=(Ak _).2
def Nu:=Dm N 197 [] G4 (fun
|[.pagg a b],[]=>some fun _ k=>Gv N a b (He k)
| _,_=>none) fun _ _=>by split;intro R F;dsimp only;rw[S5];kernel_rfl;trivial
def S6(N:Nat)(a:LA)(b:Bool)(r0:Int->O R):O R:=(D6 1 a fun d e=>D6 1 a fun g c=>cond (Ab (wrap .i64 ((c:Int) - 1)) e) (Am .i64 (d.drop (((wrap .i64 ((c:Int) - 1)).toNat)*1)) fun f=>r0 f) none)
def Ig:=(Ak (@S6 R)).1
def Up:@Ig R=@S6 R:=(Ak _).2
def O6:=Dm N 196 [] G4 (fun
|[.pagg a b],[]=>some fun _ k=>Ig N a b (He k)
| _,_=>none) fun _ _=>by split;intro R F;dsimp only;rw[Up];kernel_rfl;trivial
def Me(c:LA)(o:Bool)(b:LA)(d:Bool)(a:Int)(r0:Int->Int->O R):O R:=(Am .i64 (c.drop 16) fun e=>Am .i64 (c.drop 3) fun f=>Am .i64 (c.drop 6) fun g=>Am .i64 (b.drop 5) fun h=>Am .i64 (b.drop 6) fun i=>cond (ble 2 b.length) (Gv N (b.take 2) d fun j=>Am .i64 (c.drop 6) fun l=>cond (ble 2 b.length) (Ig N (b.take 2) d fun m=>Am .i64 (c.drop 7) fun n=>cond (ble 3 ((b.drop 2).length)) (Lz N ((b.drop 2).take 3) d fun p=>cond (decide (p>0)) (Am .i64 (c.drop 6) fun q=>r0 (Fg (Fg (Ij (Ij (Fg (Ij (wrap .i64 ((Fg (wrap .i64 (a+e)) f) - g)) h) i) j) (wrap .i64 (a - l))) m) (wrap .i64 (a+n))) (wrap .i64 ((Fg (Fg (wrap .i64 (a+e)) f) (wrap .i64 ((Fg (Fg (Ij (Ij (Fg (Ij (wrap .i64 ((Fg (wrap .i64 (a+e)) f) - g)) h) i) j) (wrap .i64 (a - l))) m) (wrap .i64 (a+n)))+q))) - a))) (r0 (Fg (Fg (Ij (Ij (Fg (Ij (wrap .i64 ((Fg (wrap .i64 (a+e)) f) - g)) h) i) j) (wrap .i64 (a - l))) m) (wrap .i64 (a+n))) 0)) none) none) none)
def A5:=(Ak (@Me R)).1
def Oi:@A5 R=@Me R:=(Ak _).2
def E_(F:KF R):Int->Int->O R:=fun r s=>F (.tup [iv r,iv s]) []
def S7:=Dm N 145 [Nu N,O6 N,Wg N] G4 (fun
|[.iptr c o,.pagg b d,.int .i64 a],[]=>some fun _ k=>A5 N c o b d a (E_ k)
| _,_=>none) fun _ _=>by split;intro R F;dsimp only;rw[Oi];kernel_rfl;trivial
def S8(a:LA)(c:Bool)(b d:Int)(r0:LA->O R):O R:=(D6 3 (a.drop 23) fun g h=>cond (Ab b h) (cond (ble 3 ((g.drop (b.toNat*3)).length)) (A4 N d fun i=>Kc N ((g.drop (b.toNat*3)).take 3) c i false fun e=>cond ((beq 0 0)&&((beq e.length 3)&&(beq 3 3))) (cond (ble 3 e.length) (cond (ble 2 ((a.drop 25).length)) (By N ((a.drop 25).take 2) c d fun j l=>L0 N (e.take 3) false j l fun m=>Am .i64 (a.drop 5) fun n=>A4 N n fun o=>Sf N m false o false fun f=>cond ((beq 0 0)&&((beq f.length 3)&&(beq 3 3))) (cond (ble 3 f.length) (r0 (f.take 3)) none) none) none) none) none) none) none)
def Kk:=(Ak (@S8 R)).1
def Uq:@Kk R=@S8 R:=(Ak _).2
def Z8:=Dm N 247 [Cd N,Of N,O3 N,Wj N,CI N] J9 (fun
|[.iptr a c,.int .i64 b,.int .i64 d],[]=>some fun _ k=>Kk N a c b d (Gs k)
| _,_=>none) fun _ _=>by split;intro R F;dsimp only;rw[Uq];kernel_rfl;trivial
def Ik(h:Int)(b:LA)(c d:Bool)(a:LA)(f:Bool)(e:LA)(g:Int)(r0:LA->O R):O R:=(cond (ble 7 a.length) (A5 N b c (a.take 7) d h fun l m=>cond (ble 2 e.length) (By N (e.take 2) f l fun n o=>cond (ble 3 ((a.drop 2).length)) (A4 N m fun p=>Kc N ((a.drop 2).take 3) d p false fun q=>L0 N n o q false fun i=>cond ((beq 0 0)&&((beq i.length 3)&&(beq 3 3))) (cond (ble 3 i.length) (Kk N b c g h fun r=>L0 N (i.take 3) false r false fun j=>cond ((beq 0 0)&&((beq j.length 3)&&(beq 3 3))) (cond (ble 3 j.length) (r0 (j.take 3)) none) none) none) none) none) none) none)
def Br:=(Ak (@Ik R)).1
def Kl:@Br R=@Ik R:=(Ak _).2
def Wx(b:LA)(c d:Bool)(a:LA)(f:Bool)(e:LA)(g:Int)(F:KF R):LA->O R:=fun s=>F (.pagg s false) [(100000,bN 0 [.iptr b c]),(100001,bP d 0 a),(100002,bP f 0 e),(100003,bN 0 [iv g])]
def Yp:=Dm N 246 [S7 N,O3 N,Cd N,Of N,Wj N,Z8 N] J9 (fun
|[.int .i64 h,.optr 100000 0,.optr 100001 0,.optr 100002 0,.optr 100003 0],[(100000,⟨false,false,false,false,0,[.iptr b c],false,none⟩),(100001,⟨false,false,true,d,0,a,false,none⟩),(100002,⟨false,false,true,f,0,e,false,none⟩),(100003,⟨false,false,false,false,0,[.int .i64 g],false,none⟩)]=>some fun _ k=>Br N h b c d a f e g (Wx b c d a f e g k)
| _,_=>none) fun _ _=>by split;intro R F;dsimp only;rw[Kl];kernel_rfl;trivial
def Z9(r0:LA->Bool->O R)(j:Nat)(i a:LA)(b c:Bool)(d:LA)(f:Bool)(g:LA)(h:Int)(l:LA)(k2:Int->Int->Nat->Nat->LA->Bool->LA->O R)(y s:Int)(v w:Nat)(z:LA)(x:Bool)(aa:LA):O R:=(cond (decide (s<y)) (cond (Ab s j) (Am .i64 (l.drop (0+(s.toNat*1))) fun ad=>Br N ad a b c d f g h fun af=>Dq N ad af false v w z x aa fun ag ah ai aj ak=>k2 y (wrap .i64 (s+1)) ag ah ai aj ak) none) (r0 [.imm (z.take (v*1)) v 1 false false,.imm (aa.take (w*3)) w 3 false x] (x||false)))
def I9(r0:LA->Bool->O R)(j:Nat)(i a:LA)(b c:Bool)(d:LA)(f:Bool)(g:LA)(h:Int)(l:LA):Nat->Int->Int->Nat->Nat->LA->Bool->LA->O R
|0=>fun _ _ _ _ _ _ _=>none
|n+1=>Z9 N r0 j i a b c d f g h l (I9 r0 j i a b c d f g h l n)
def AA(r0:LA->Bool->O R)(j:Nat)(i a:LA)(b c:Bool)(d:LA)(f:Bool)(g:LA)(h:Int)(l:LA)(k1:Int->O R)(k2:Int->Int->Nat->Nat->LA->Bool->LA->O R)(ab:Int):O R:=(cond (decide (0<ab)) (cond (Ab 0 j) (Am .i64 l fun ae=>Br N ae a b c d f g h fun al=>Ez N ae al false fun am an ao=>k2 ab 1 1 1 am an ao) none) (r0 [.nsl,.nsl] false))
def Ja(r0:LA->Bool->O R)(j:Nat)(i a:LA)(b c:Bool)(d:LA)(f:Bool)(g:LA)(h:Int)(l:LA):Nat->Int->O R
|0=>fun _=>none
|n+1=>AA N r0 j i a b c d f g h l (Ja r0 j i a b c d f g h l n) (I9 N r0 j i a b c d f g h l n)
def O7(r0:LA->Bool->O R)(m o:Int)(p:Nat)(i a:LA)(b c:Bool)(d:LA)(f:Bool)(g:LA)(h:Int)(k0:Nat->Int->Int->LA->O R)(q1:Nat->LA->Int->O R)(q:Nat)(t r:Int)(u:LA):O R:=(cond (decide (r<t)) (cond (Ab r p) (Am .i64 (i.drop (0+(r.toNat*1))) fun ac=>cond ((decide (ac>m))==true) (cond (cond true (decide (ac<o)) false) (cond ((ble (q+1) 140737488355328)&&(ble ((q+1)*8) 140737488355328)) (k0 (q+1) t (wrap .i64 (r+1)) ((u.take (q*1))++[.int .i64 ac])) none) (k0 q t (wrap .i64 (r+1)) u)) (k0 q t (wrap .i64 (r+1)) u)) none) (D0 N q u fun ap=>B3 N q ap fun j l=>q1 j l (j:Int)))
def Gw(r0:LA->Bool->O R)(m o:Int)(p:Nat)(i a:LA)(b c:Bool)(d:LA)(f:Bool)(g:LA)(h:Int):Nat->Nat->Int->Int->LA->O R
|0=>fun _ _ _ _=>none
|n+1=>O7 N r0 m o p i a b c d f g h (Gw r0 m o p i a b c d f g h n) (fun j l=>Ja N r0 j i a b c d f g h l N)
def Qm(N:Nat)(r0:LA->Bool->O R)(q0:Nat->Int->Int->LA->O R)(m o:Int)(p:Nat)(i a:LA)(b c:Bool)(d:LA)(f:Bool)(g:LA)(h:Int):O R:=(q0 2 (p:Int) 0 [.int .i64 m,.int .i64 o])
def Oj:=(Ak fun N m o p i a b c d f g h r0=>Qm (R:=R) N r0 (Gw N r0 m o p i a b c d f g h N) m o p i a b c d f g h).1
def AB(m o p i a b c d f g h r0):(@Oj R N m o p i a b c d f g h r0)=(Qm N r0 (Gw N r0 m o p i a b c d f g h N) m o p i a b c d f g h):=by rw[Oj,(Ak _).2]
def GK:Vc:=[Sw N,Mu N,Yp N,Eo N]
def S9(F:KF R):=Mp Tryz.f70 mf (GK N) [100000,100001,100002,100003,100004] N F
def Ee(i a:LA)(b c:Bool)(d:LA)(f:Bool)(g:LA)(h:Int)(F:KF R):LA->Bool->O R:=fun aq ar=>F (.pagg aq ar) [(100000,bQ 1 i),(100001,bN 0 [.iptr a b]),(100002,bP c 0 d),(100003,bP f 0 g),(100004,bN 0 [iv h])]
def YB(j:Nat)(i a:LA)(b c:Bool)(d:LA)(f:Bool)(g:LA)(h:Int)(l:LA)(K:St->O R):=fun y s v w z x aa=>K ⟨[(3,.fn 246 [.optr 100001 0,.optr 100002 0,.optr 100003 0,.optr 100004 0]),(8,op 0),(12,op 1),(41,Ahf 2 j),(42,iv y),(43,iv s)],[(100000,bQ 1 i),(100001,bN 0 [.iptr a b]),(100002,bP c 0 d),(100003,bP f 0 g),(100004,bN 0 [iv h]),(300000,bN 0 [.nsl,.nsl]),(300001,bN 0 [Ahf 3 v,Ahf 4 w]),(300002,bQ 1 l),(300003,bQ 1 z),(300004,bP x 3 aa)]⟩
def YC(j:Nat)(i a:LA)(b c:Bool)(d:LA)(f:Bool)(g:LA)(h:Int)(l:LA)(K:St->O R):=fun ab=>K ⟨[(3,.fn 246 [.optr 100001 0,.optr 100002 0,.optr 100003 0,.optr 100004 0]),(8,op 0),(12,op 1),(41,Ahf 2 j),(42,iv ab),(43,iv 0)],[(100000,bQ 1 i),(100001,bN 0 [.iptr a b]),(100002,bP c 0 d),(100003,bP f 0 g),(100004,bN 0 [iv h]),(300000,bN 0 [.nsl,.nsl]),(300001,bN 0 [.nsl,.nsl]),(300002,bQ 1 l)]⟩
def YD(m o:Int)(p:Nat)(i a:LA)(b c:Bool)(d:LA)(f:Bool)(g:LA)(h:Int)(K:St->O R):=fun q t r u=>K ⟨[(0,iv m),(1,iv o),(3,.fn 246 [.optr 100001 0,.optr 100002 0,.optr 100003 0,.optr 100004 0]),(8,op 0),(9,Ahf 1 q),(18,.own 100000 0 p),(19,iv t),(20,iv r)],[(100000,bQ 1 i),(100001,bN 0 [.iptr a b]),(100002,bP c 0 d),(100003,bP f 0 g),(100004,bN 0 [iv h]),(300000,bN 0 [.nsl,.nsl]),(300001,bQ 1 u)]⟩
def MB(F:KF R)(j i a b c d f g h l):∀ n,YB j i a b c d f g h l (A3 (S9 N F (pz 349508) []) n)=(I9 N (Ee i a b c d f g h F) j i a b c d f g h l n):=Mo fun n e=>(Dw (Z9 N (Ee i a b c d f g h F) j i a b c d f g h l) e:_)
def MC(F:KF R)(j i a b c d f g h l):∀ n,YC j i a b c d f g h l (A3 (S9 N F (pz 349508) []) n)=(Ja N (Ee i a b c d f g h F) j i a b c d f g h l n):=Mo fun n e=>(ZX (AA N (Ee i a b c d f g h F) j i a b c d f g h l) e (MB ..):_)
def MD(F:KF R)(m o p i a b c d f g h):∀ n,YD m o p i a b c d f g h (A3 (S9 N F (pz 1348) []) n)=(Gw N (Ee i a b c d f g h F) m o p i a b c d f g h n):=Mo fun n e=>(ZX (O7 N (Ee i a b c d f g h F) m o p i a b c d f g h) e (kP fun j l=>(lW ..).trans (MC ..)):_)
def aV:=Dm N 70 (GK N) mf (fun
|[.int .i64 m,.int .i64 o,.own 100000 0 p,.fn 246 [.optr 100001 0,.optr 100002 0,.optr 100003 0,.optr 100004 0]],[(100000,⟨false,false,true,false,1,i,false,none⟩),(100001,⟨false,false,false,false,0,[.iptr a b],false,none⟩),(100002,⟨false,false,true,c,0,d,false,none⟩),(100003,⟨false,false,true,f,0,g,false,none⟩),(100004,⟨false,false,false,false,0,[.int .i64 h],false,none⟩)]=>some fun _ k=>Oj N m o p i a b c d f g h (Ee i a b c d f g h k)
| _,_=>none) fun _ _=>by split;rename_i m o p i a b c d f g h;intro R F;exact(Dw (Qm N (Ee i a b c d f g h F) · m o p i a b c d f g h) ((lW ..).trans (MD ..)):_).trans (AB ..).symm;trivial
def F2(r0:LA->Bool->O R)(i:LA)(g:Nat)(c:Bool)(a:LA)(d:Bool)(f:Int)(b:LA)(j:Bool)(h:LA)(k0:Int->Int->Nat->Int->Int->LA->LA->O R)(p q:Int)(l:Nat)(r o:Int)(m s:LA):O R:=(cond (decide (o<r)) (cond (Ab o g) (Am .i64 (i.drop (o.toNat*1)) fun t=>Am .i64 (m.drop 7) fun x=>Am .i64 (m.drop 6) fun y=>Am .i64 (m.drop 6) fun z=>Am .i64 (m.drop 16) fun aa=>cond ((ble (l+3) 140737488355328)&&(ble ((l+3)*8) 140737488355328)) (k0 p q (l+3) r (wrap .i64 (o+1)) m ((s.take (l*1))++[.int .i64 (wrap .i64 (t - x)),.int .i64 (wrap .i64 (t+y)),.int .i64 (wrap .i64 ((wrap .i64 (t+z)) - aa))])) none) none) (Oj N p q l s a d j h c b f fun u ab=>cond ((beq 0 0)&&((beq u.length 2)&&(beq 2 2))) (cond (ble 2 u.length) (r0 (u.take 2) ab) none) none))
def Cl(r0:LA->Bool->O R)(i:LA)(g:Nat)(c:Bool)(a:LA)(d:Bool)(f:Int)(b:LA)(j:Bool)(h:LA):Nat->Int->Int->Nat->Int->Int->LA->LA->O R
|0=>fun _ _ _ _ _ _ _=>none
|n+1=>F2 N r0 i g c a d f b j h (Cl r0 i g c a d f b j h n)
def Ir(r0:LA->Bool->O R)(q0:LA->Nat->Bool->LA->Int->Int->Nat->Int->Int->LA->LA->O R)(a:LA)(d:Bool)(f:Int)(b:LA)(c:Bool):O R:=(cond (ble 22 a.length) (cond ((beq 0 0)&&((beq ((a.take 22).length) 22)&&(beq 22 22))) (cond (ble 2 b.length) (Bm N a d f (b.take 2) c fun h j=>cond ((beq 0 0)&&((beq h.length 7)&&(beq 7 7))) (Am .i64 ((a.take 22).drop 2) fun ac=>cond (ble 2 b.length) (Gv N (b.take 2) c fun ad=>Am .i64 ((a.take 22).drop 7) fun ae=>Am .i64 ((a.take 22).drop 3) fun af=>cond (ble 2 b.length) (Ig N (b.take 2) c fun ag=>Am .i64 ((a.take 22).drop 6) fun ah=>Am .i64 ((a.take 22).drop 3) fun ai=>Am .i64 ((a.take 22).drop 16) fun aj=>Am .i64 ((a.take 22).drop 3) fun ak=>Am .i64 ((a.take 22).drop 6) fun al=>Am .i64 ((a.take 22).drop 7) fun am=>D6 1 (a.drop 25) fun w v=>cond ((!d)||(Bs w)) (cond ((ble (2+v) 140737488355328)&&(ble ((2+v)*8) 140737488355328)) (D6 1 b fun i g=>q0 i g j h (Ij ac (wrap .i64 (ad - ae))) (Fg af (wrap .i64 (ag+ah))) (2+v) (g:Int) 0 (a.take 22) ([.int .i64 (wrap .i64 (ai - aj)),.int .i64 (wrap .i64 ((wrap .i64 (ak - al)) - am))]++w)) none) none) none) none) none) none) none) none)
def A6:=(Ak fun N a d f b c r0=>Ir (R:=R) N r0 (fun i g j h=>Cl N r0 i g c a d f b j h N) a d f b c).1
def Ol(a d f b c r0):(@A6 R N a d f b c r0)=(Ir N r0 (fun i g j h=>Cl N r0 i g c a d f b j h N) a d f b c):=by rw[A6,(Ak _).2]
def Px:Hints:={H:=hK 5 (hS (hK 1 (hS (hP [3,4,5,6,7,8,9,10,11,59,60,61] hL) hL)) hL),modes:=[(3,0)]}
def Ta:Vc:=[Ww N,Nu N,O6 N,aV N]
def E'(F:KF R):=Mp Tryz.f232 Px (Ta N) [] N F
def FA(i:LA)(g:Nat)(c:Bool)(a:LA)(d:Bool)(f:Int)(b:LA)(j:Bool)(h:LA)(K:St->O R):=fun p q l r o m s=>K ⟨[(3,op 0),(4,op 1),(5,op 2),(6,op 3),(7,op 4),(8,op 5),(9,iv p),(10,iv q),(11,Ahf 6 l),(59,.imm i g 1 false c),(60,iv r),(61,iv o)],hq [bN 0 [.iptr a d],bN 0 [iv f],bP c 0 b,bN 0 [.nsl,.nsl],bP d 0 m,bP j 0 h,bQ 1 s]⟩
def Yq(F:KF R)(i g c a d f b j h):∀ n,FA i g c a d f b j h (A3 (E' N F (pz 87364) []) n)=(Cl N (WE F) i g c a d f b j h n):=Mo fun n e=>(Dw (F2 N (WE F) i g c a d f b j h) e:_)
def IT:=Dm N 232 (Ta N) Px (fun
|[.iptr a d,.int .i64 f,.pagg b c],[]=>some fun _ k=>A6 N a d f b c (WE k)
| _,_=>none) fun _ _=>by split;intro R F;exact(Dw (Ir N (WE F) · _ _ _ _ _) (rz fun i g j h=>(lW ..).trans (Yq ..)):_).trans (Ol ..).symm;trivial
def Jb(N:Nat)(a:LA)(c:Bool)(b:Int)(r0:Bool->O R):O R:=(cond ((b==0)==true) (Am .i64 (a.drop 19) fun d=>r0 (cond true (d==2) false)) (r0 false))
def Cm:=(Ak (@Jb R)).1
def Ld:@Cm R=@Jb R:=(Ak _).2
def Mv:=Dm N 147 [] G4 (fun
|[.iptr a c,.int .i64 b],[]=>some fun _ k=>Cm N a c b (C1 k)
| _,_=>none) fun _ _=>by split;intro R F;dsimp only;rw[Ld];kernel_rfl;trivial
def Mf(a:LA)(b:Bool)(r0:LA->O R):O R:=(Am .i64 (a.drop 21) fun d=>A4 N 0 fun c=>cond ((beq c.length 3)&&(ble 3 3)) (r0 [.imm [.int .i64 d] 1 1 false false,.imm ((setCells [.bool false,.nsl,.nsl] 0 c).take 3) 1 3 false false]) none)
def D1:=(Ak (@Mf R)).1
def Om:@D1 R=@Mf R:=(Ak _).2
def Tb:=Dm N 148 [Cd N] J9 (fun
|[.iptr a b],[]=>some fun _ k=>D1 N a b (Gs k)
| _,_=>none) fun _ _=>by split;intro R F;dsimp only;rw[Om];kernel_rfl;trivial
def Jc(e:Int)(a:LA)(c:Bool)(d:Int)(b:LA)(r0:LA->O R):O R:=(Am .i64 (a.drop 16) fun g=>Am .i64 (a.drop 8) fun h=>Kk N a c d e fun i=>cond (ble 3 b.length) (A4 N (Fg g (wrap .i64 (h - e))) fun j=>Kc N (b.take 3) false j false fun l=>L0 N i false l false fun f=>cond ((beq 0 0)&&((beq f.length 3)&&(beq 3 3))) (cond (ble 3 f.length) (r0 (f.take 3)) none) none) none)
def B4:=(Ak (@Jc R)).1
def Le:@B4 R=@Jc R:=(Ak _).2
def Yr(a:LA)(c:Bool)(d:Int)(b:LA)(F:KF R):LA->O R:=fun m=>F (.pagg m false) [(100000,bN 0 [.iptr a c]),(100001,bN 0 [iv d]),(100002,bQ 0 b)]
def AS:=Dm N 248 [Z8 N,Cd N,Of N,Wj N] J9 (fun
|[.int .i64 e,.optr 100000 0,.optr 100001 0,.optr 100002 0],[(100000,⟨false,false,false,false,0,[.iptr a c],false,none⟩),(100001,⟨false,false,false,false,0,[.int .i64 d],false,none⟩),(100002,⟨false,false,true,false,0,b,false,none⟩)]=>some fun _ k=>B4 N e a c d b (Yr a c d b k)
| _,_=>none) fun _ _=>by split;intro R F;dsimp only;rw[Le];kernel_rfl;trivial
def AC(r0:LA->Bool->O R)(g:Nat)(f a:LA)(b:Bool)(c:Int)(d h:LA)(k2:Int->Int->Nat->Nat->LA->Bool->LA->O R)(v p:Int)(s t:Nat)(w:LA)(u:Bool)(x:LA):O R:=(cond (decide (p<v)) (cond (Ab p g) (Am .i64 (h.drop (0+(p.toNat*1))) fun aa=>B4 N aa a b c d fun ac=>Dq N aa ac false s t w u x fun ad ae af ag ah=>k2 v (wrap .i64 (p+1)) ad ae af ag ah) none) (r0 [.imm (w.take (s*1)) s 1 false false,.imm (x.take (t*3)) t 3 false u] (u||false)))
def Jd(r0:LA->Bool->O R)(g:Nat)(f a:LA)(b:Bool)(c:Int)(d h:LA):Nat->Int->Int->Nat->Nat->LA->Bool->LA->O R
|0=>fun _ _ _ _ _ _ _=>none
|n+1=>AC N r0 g f a b c d h (Jd r0 g f a b c d h n)
def AD(r0:LA->Bool->O R)(g:Nat)(f a:LA)(b:Bool)(c:Int)(d h:LA)(k1:Int->O R)(k2:Int->Int->Nat->Nat->LA->Bool->LA->O R)(y:Int):O R:=(cond (decide (0<y)) (cond (Ab 0 g) (Am .i64 h fun ab=>B4 N ab a b c d fun ai=>Ez N ab ai false fun aj ak al=>k2 y 1 1 1 aj ak al) none) (r0 [.nsl,.nsl] false))
def Je(r0:LA->Bool->O R)(g:Nat)(f a:LA)(b:Bool)(c:Int)(d h:LA):Nat->Int->O R
|0=>fun _=>none
|n+1=>AD N r0 g f a b c d h (Je r0 g f a b c d h n) (Jd N r0 g f a b c d h n)
def O8(r0:LA->Bool->O R)(i j:Int)(l:Nat)(f a:LA)(b:Bool)(c:Int)(d:LA)(k0:Nat->Int->Int->LA->O R)(q1:Nat->LA->Int->O R)(m:Nat)(q o:Int)(r:LA):O R:=(cond (decide (o<q)) (cond (Ab o l) (Am .i64 (f.drop (0+(o.toNat*1))) fun z=>cond ((decide (z>i))==true) (cond (cond true (decide (z<j)) false) (cond ((ble (m+1) 140737488355328)&&(ble ((m+1)*8) 140737488355328)) (k0 (m+1) q (wrap .i64 (o+1)) ((r.take (m*1))++[.int .i64 z])) none) (k0 m q (wrap .i64 (o+1)) r)) (k0 m q (wrap .i64 (o+1)) r)) none) (D0 N m r fun am=>B3 N m am fun g h=>q1 g h (g:Int)))
def Gy(r0:LA->Bool->O R)(i j:Int)(l:Nat)(f a:LA)(b:Bool)(c:Int)(d:LA):Nat->Nat->Int->Int->LA->O R
|0=>fun _ _ _ _=>none
|n+1=>O8 N r0 i j l f a b c d (Gy r0 i j l f a b c d n) (fun g h=>Je N r0 g f a b c d h N)
def Qn(N:Nat)(r0:LA->Bool->O R)(q0:Nat->Int->Int->LA->O R)(i j:Int)(l:Nat)(f a:LA)(b:Bool)(c:Int)(d:LA):O R:=(q0 2 (l:Int) 0 [.int .i64 i,.int .i64 j])
def Ur:=(Ak fun N i j l f a b c d r0=>Qn (R:=R) N r0 (Gy N r0 i j l f a b c d N) i j l f a b c d).1
def AE(i j l f a b c d r0):(@Ur R N i j l f a b c d r0)=(Qn N r0 (Gy N r0 i j l f a b c d N) i j l f a b c d):=by rw[Ur,(Ak _).2]
def GL:Vc:=[Sw N,Mu N,AS N,Eo N]
def Tc(F:KF R):=Mp Tryz.f70 mf (GL N) [100000,100001,100002,100003] N F
def Ef(f a:LA)(b:Bool)(c:Int)(d:LA)(F:KF R):LA->Bool->O R:=fun an ao=>F (.pagg an ao) [(100000,bQ 1 f),(100001,bN 0 [.iptr a b]),(100002,bN 0 [iv c]),(100003,bQ 0 d)]
def YE(g:Nat)(f a:LA)(b:Bool)(c:Int)(d h:LA)(K:St->O R):=fun v p s t w u x=>K ⟨[(3,.fn 248 [.optr 100001 0,.optr 100002 0,.optr 100003 0]),(8,op 0),(12,op 1),(41,Ahf 2 g),(42,iv v),(43,iv p)],[(100000,bQ 1 f),(100001,bN 0 [.iptr a b]),(100002,bN 0 [iv c]),(100003,bQ 0 d),(300000,bN 0 [.nsl,.nsl]),(300001,bN 0 [Ahf 3 s,Ahf 4 t]),(300002,bQ 1 h),(300003,bQ 1 w),(300004,bP u 3 x)]⟩
def YF(g:Nat)(f a:LA)(b:Bool)(c:Int)(d h:LA)(K:St->O R):=fun y=>K ⟨[(3,.fn 248 [.optr 100001 0,.optr 100002 0,.optr 100003 0]),(8,op 0),(12,op 1),(41,Ahf 2 g),(42,iv y),(43,iv 0)],[(100000,bQ 1 f),(100001,bN 0 [.iptr a b]),(100002,bN 0 [iv c]),(100003,bQ 0 d),(300000,bN 0 [.nsl,.nsl]),(300001,bN 0 [.nsl,.nsl]),(300002,bQ 1 h)]⟩
def YG(i j:Int)(l:Nat)(f a:LA)(b:Bool)(c:Int)(d:LA)(K:St->O R):=fun m q o r=>K ⟨[(0,iv i),(1,iv j),(3,.fn 248 [.optr 100001 0,.optr 100002 0,.optr 100003 0]),(8,op 0),(9,Ahf 1 m),(18,.own 100000 0 l),(19,iv q),(20,iv o)],[(100000,bQ 1 f),(100001,bN 0 [.iptr a b]),(100002,bN 0 [iv c]),(100003,bQ 0 d),(300000,bN 0 [.nsl,.nsl]),(300001,bQ 1 r)]⟩
def ME(F:KF R)(g f a b c d h):∀ n,YE g f a b c d h (A3 (Tc N F (pz 349508) []) n)=(Jd N (Ef f a b c d F) g f a b c d h n):=Mo fun n e=>(Dw (AC N (Ef f a b c d F) g f a b c d h) e:_)
def MF(F:KF R)(g f a b c d h):∀ n,YF g f a b c d h (A3 (Tc N F (pz 349508) []) n)=(Je N (Ef f a b c d F) g f a b c d h n):=Mo fun n e=>(ZX (AD N (Ef f a b c d F) g f a b c d h) e (ME ..):_)
def MG(F:KF R)(i j l f a b c d):∀ n,YG i j l f a b c d (A3 (Tc N F (pz 1348) []) n)=(Gy N (Ef f a b c d F) i j l f a b c d n):=Mo fun n e=>(ZX (O8 N (Ef f a b c d F) i j l f a b c d) e (kP fun g h=>(lW ..).trans (MF ..)):_)
def aW:=Dm N 70 (GL N) mf (fun
|[.int .i64 i,.int .i64 j,.own 100000 0 l,.fn 248 [.optr 100001 0,.optr 100002 0,.optr 100003 0]],[(100000,⟨false,false,true,false,1,f,false,none⟩),(100001,⟨false,false,false,false,0,[.iptr a b],false,none⟩),(100002,⟨false,false,false,false,0,[.int .i64 c],false,none⟩),(100003,⟨false,false,true,false,0,d,false,none⟩)]=>some fun _ k=>Ur N i j l f a b c d (Ef f a b c d k)
| _,_=>none) fun _ _=>by split;rename_i i j l f a b c d;intro R F;exact(Dw (Qn N (Ef f a b c d F) · i j l f a b c d) ((lW ..).trans (MG ..)):_).trans (AE ..).symm;trivial
def Nv(a:LA)(b:Bool)(c:Int)(r0:LA->Bool->O R):O R:=(E1 N a b c fun f=>cond ((beq 0 0)&&((beq f.length 3)&&(beq 3 3))) (Am .i64 (a.drop 8) fun h=>Am .i64 (a.drop 16) fun i=>D6 1 (a.drop 25) fun g d=>cond ((!b)||(Bs g)) (cond ((ble (1+d) 140737488355328)&&(ble ((1+d)*8) 140737488355328)) (Am .i64 (a.drop 2) fun j=>Am .i64 (a.drop 8) fun l=>Ur N j l (1+d) ([.int .i64 (wrap .i64 (h - i))]++g) a b c f fun e m=>cond ((beq 0 0)&&((beq e.length 2)&&(beq 2 2))) (cond (ble 2 e.length) (r0 (e.take 2) m) none) none) none) none) none)
def H1:=(Ak (@Nv R)).1
def Py:@H1 R=@Nv R:=(Ak _).2
def MH:=Dm N 233 [Md N,aW N] J9 (fun
|[.iptr a b,.int .i64 c],[]=>some fun _ k=>H1 N a b c (WE k)
| _,_=>none) fun _ _=>by split;intro R F;dsimp only;rw[Py];kernel_rfl;trivial
def E5(N:Nat)(k1:Int->Int->Nat->Nat->Nat->Nat->Nat->Nat->Nat->LA->LA->LA->LA->LA->LA->LA->O R)(r0:Nat->Nat->Nat->Nat->Nat->Nat->Nat->Nat->LA->LA->LA->LA->LA->LA->LA->O R)(r1:Nat->Nat->Nat->Nat->Nat->Nat->Nat->Nat->LA->LA->LA->LA->LA->LA->LA->O R)(r2:Nat->Nat->Nat->Nat->Nat->Nat->Nat->Nat->LA->LA->LA->LA->LA->LA->LA->O R)(r3:Nat->Nat->Nat->Nat->Nat->Nat->Nat->Nat->LA->LA->LA->LA->LA->LA->LA->O R)(r4:Nat->Nat->Nat->Nat->Nat->Nat->Nat->Nat->LA->LA->LA->LA->LA->LA->LA->O R)(r5:Nat->Nat->Nat->Nat->Nat->Nat->Nat->Nat->LA->LA->LA->LA->LA->LA->LA->O R)(r6:Nat->Nat->Nat->Nat->Nat->Nat->Nat->Nat->LA->LA->LA->LA->LA->LA->LA->O R)(j:Int)(s:RB)(az ba:Int)(ap ar au av aw ax ay:Nat)(u bb bc bd be bf bg bh:LA):O R:=(cond (az==0) (cond (ble 2 u.length) (cond ((beq ((u.take 2).length) 2)&&(ble 2 2)) (cond ((ble (ap+1) 140737488355328)&&(ble ((ap+1)*48) 140737488355328)) (k1 0 (wrap .i64 (ba+1)) (ap+1) ar au av aw ax ay ((bb.take (ap*2))++((setCells [.nsl,.nsl] 0 (u.take 2)).take 2)) bc bd be bf bg bh) none) none) none) (cond (az==1) (cond (ble 2 u.length) (cond ((beq ((u.take 2).length) 2)&&(ble 2 2)) (cond ((ble (ar+1) 140737488355328)&&(ble ((ar+1)*48) 140737488355328)) (k1 1 (wrap .i64 (ba+1)) ap (ar+1) au av aw ax ay bb ((bc.take (ar*2))++((setCells [.nsl,.nsl] 0 (u.take 2)).take 2)) bd be bf bg bh) none) none) none) (cond (az==2) (cond (ble 2 u.length) (cond ((beq ((u.take 2).length) 2)&&(ble 2 2)) (cond ((ble (au+1) 140737488355328)&&(ble ((au+1)*48) 140737488355328)) (k1 2 (wrap .i64 (ba+1)) ap ar (au+1) av aw ax ay bb bc ((bd.take (au*2))++((setCells [.nsl,.nsl] 0 (u.take 2)).take 2)) be bf bg bh) none) none) none) (cond (az==3) (cond (ble 2 u.length) (cond ((beq ((u.take 2).length) 2)&&(ble 2 2)) (cond ((ble (av+1) 140737488355328)&&(ble ((av+1)*48) 140737488355328)) (k1 3 (wrap .i64 (ba+1)) ap ar au (av+1) aw ax ay bb bc bd ((be.take (av*2))++((setCells [.nsl,.nsl] 0 (u.take 2)).take 2)) bf bg bh) none) none) none) (cond (az==4) (cond (ble 2 u.length) (cond ((beq ((u.take 2).length) 2)&&(ble 2 2)) (cond ((ble (aw+1) 140737488355328)&&(ble ((aw+1)*48) 140737488355328)) (k1 4 (wrap .i64 (ba+1)) ap ar au av (aw+1) ax ay bb bc bd be ((bf.take (aw*2))++((setCells [.nsl,.nsl] 0 (u.take 2)).take 2)) bg bh) none) none) none) (cond (az==5) (cond (ble 2 u.length) (cond ((beq ((u.take 2).length) 2)&&(ble 2 2)) (cond ((ble (ax+1) 140737488355328)&&(ble ((ax+1)*48) 140737488355328)) (k1 5 (wrap .i64 (ba+1)) ap ar au av aw (ax+1) ay bb bc bd be bf ((bg.take (ax*2))++((setCells [.nsl,.nsl] 0 (u.take 2)).take 2)) bh) none) none) none) (cond (az==6) (cond (ble 2 u.length) (cond ((beq ((u.take 2).length) 2)&&(ble 2 2)) (cond ((ble (ay+1) 140737488355328)&&(ble ((ay+1)*48) 140737488355328)) (k1 6 (wrap .i64 (ba+1)) ap ar au av aw ax (ay+1) bb bc bd be bf bg ((bh.take (ay*2))++((setCells [.nsl,.nsl] 0 (u.take 2)).take 2))) none) none) none) none)))))))
def On(r0:Nat->Nat->Nat->Nat->Nat->Nat->Nat->Nat->LA->LA->LA->LA->LA->LA->LA->O R)(r1:Nat->Nat->Nat->Nat->Nat->Nat->Nat->Nat->LA->LA->LA->LA->LA->LA->LA->O R)(r2:Nat->Nat->Nat->Nat->Nat->Nat->Nat->Nat->LA->LA->LA->LA->LA->LA->LA->O R)(r3:Nat->Nat->Nat->Nat->Nat->Nat->Nat->Nat->LA->LA->LA->LA->LA->LA->LA->O R)(r4:Nat->Nat->Nat->Nat->Nat->Nat->Nat->Nat->LA->LA->LA->LA->LA->LA->LA->O R)(r5:Nat->Nat->Nat->Nat->Nat->Nat->Nat->Nat->LA->LA->LA->LA->LA->LA->LA->O R)(r6:Nat->Nat->Nat->Nat->Nat->Nat->Nat->Nat->LA->LA->LA->LA->LA->LA->LA->O R)(j:Int)(s:RB)(k1:Int->Int->Nat->Nat->Nat->Nat->Nat->Nat->Nat->LA->LA->LA->LA->LA->LA->LA->O R)(q2:Int->Int->Nat->Nat->Nat->Nat->Nat->Nat->Nat->LA->LA->LA->LA->LA->LA->LA->LA->O R)(v a:Int)(b c d f g h i:Nat)(l m o p q r t:LA):O R:=(cond (decide (a<=j)) (cond (decide (a>v)) (cond (v==0) (cond (Ab (wrap .i64 ((wrap .i64 (a - 0)) - 1)) b) (cond (ble 2 ((l.drop (0+(((wrap .i64 ((wrap .i64 (a - 0)) - 1)).toNat)*2))).length)) (A6 N (HM s (l.take (b*2)) b (m.take (c*2)) c (o.take (d*2)) d (p.take (f*2)) f (q.take (g*2)) g (r.take (h*2)) h (t.take (i*2)) i) true a ((l.drop (0+(((wrap .i64 ((wrap .i64 (a - 0)) - 1)).toNat)*2))).take 2) false fun bk bt=>cond (bt||false) none (cond ((beq 0 0)&&((beq bk.length 2)&&(beq 2 2))) (q2 0 a b c d f g h i bk l m o p q r t) none)) none) none) (cond (v==1) (cond (Ab (wrap .i64 ((wrap .i64 (a - 1)) - 1)) c) (cond (ble 2 ((m.drop (0+(((wrap .i64 ((wrap .i64 (a - 1)) - 1)).toNat)*2))).length)) (A6 N (HM s (l.take (b*2)) b (m.take (c*2)) c (o.take (d*2)) d (p.take (f*2)) f (q.take (g*2)) g (r.take (h*2)) h (t.take (i*2)) i) true a ((m.drop (0+(((wrap .i64 ((wrap .i64 (a - 1)) - 1)).toNat)*2))).take 2) false fun bl bv=>cond (bv||false) none (cond ((beq 0 0)&&((beq bl.length 2)&&(beq 2 2))) (q2 1 a b c d f g h i bl l m o p q r t) none)) none) none) (cond (v==2) (cond (Ab (wrap .i64 ((wrap .i64 (a - 2)) - 1)) d) (cond (ble 2 ((o.drop (0+(((wrap .i64 ((wrap .i64 (a - 2)) - 1)).toNat)*2))).length)) (A6 N (HM s (l.take (b*2)) b (m.take (c*2)) c (o.take (d*2)) d (p.take (f*2)) f (q.take (g*2)) g (r.take (h*2)) h (t.take (i*2)) i) true a ((o.drop (0+(((wrap .i64 ((wrap .i64 (a - 2)) - 1)).toNat)*2))).take 2) false fun bm bw=>cond (bw||false) none (cond ((beq 0 0)&&((beq bm.length 2)&&(beq 2 2))) (q2 2 a b c d f g h i bm l m o p q r t) none)) none) none) (cond (v==3) (cond (Ab (wrap .i64 ((wrap .i64 (a - 3)) - 1)) f) (cond (ble 2 ((p.drop (0+(((wrap .i64 ((wrap .i64 (a - 3)) - 1)).toNat)*2))).length)) (A6 N (HM s (l.take (b*2)) b (m.take (c*2)) c (o.take (d*2)) d (p.take (f*2)) f (q.take (g*2)) g (r.take (h*2)) h (t.take (i*2)) i) true a ((p.drop (0+(((wrap .i64 ((wrap .i64 (a - 3)) - 1)).toNat)*2))).take 2) false fun bn bx=>cond (bx||false) none (cond ((beq 0 0)&&((beq bn.length 2)&&(beq 2 2))) (q2 3 a b c d f g h i bn l m o p q r t) none)) none) none) (cond (v==4) (cond (Ab (wrap .i64 ((wrap .i64 (a - 4)) - 1)) g) (cond (ble 2 ((q.drop (0+(((wrap .i64 ((wrap .i64 (a - 4)) - 1)).toNat)*2))).length)) (A6 N (HM s (l.take (b*2)) b (m.take (c*2)) c (o.take (d*2)) d (p.take (f*2)) f (q.take (g*2)) g (r.take (h*2)) h (t.take (i*2)) i) true a ((q.drop (0+(((wrap .i64 ((wrap .i64 (a - 4)) - 1)).toNat)*2))).take 2) false fun bo bz=>cond (bz||false) none (cond ((beq 0 0)&&((beq bo.length 2)&&(beq 2 2))) (q2 4 a b c d f g h i bo l m o p q r t) none)) none) none) (cond (v==5) (cond (Ab (wrap .i64 ((wrap .i64 (a - 5)) - 1)) h) (cond (ble 2 ((r.drop (0+(((wrap .i64 ((wrap .i64 (a - 5)) - 1)).toNat)*2))).length)) (A6 N (HM s (l.take (b*2)) b (m.take (c*2)) c (o.take (d*2)) d (p.take (f*2)) f (q.take (g*2)) g (r.take (h*2)) h (t.take (i*2)) i) true a ((r.drop (0+(((wrap .i64 ((wrap .i64 (a - 5)) - 1)).toNat)*2))).take 2) false fun bp ca=>cond (ca||false) none (cond ((beq 0 0)&&((beq bp.length 2)&&(beq 2 2))) (q2 5 a b c d f g h i bp l m o p q r t) none)) none) none) (cond (v==6) (cond (Ab (wrap .i64 ((wrap .i64 (a - 6)) - 1)) i) (cond (ble 2 ((t.drop (0+(((wrap .i64 ((wrap .i64 (a - 6)) - 1)).toNat)*2))).length)) (A6 N (HM s (l.take (b*2)) b (m.take (c*2)) c (o.take (d*2)) d (p.take (f*2)) f (q.take (g*2)) g (r.take (h*2)) h (t.take (i*2)) i) true a ((t.drop (0+(((wrap .i64 ((wrap .i64 (a - 6)) - 1)).toNat)*2))).take 2) false fun bq cb=>cond (cb||false) none (cond ((beq 0 0)&&((beq bq.length 2)&&(beq 2 2))) (q2 6 a b c d f g h i bq l m o p q r t) none)) none) none) none))))))) (Cm N (HM s (l.take (b*2)) b (m.take (c*2)) c (o.take (d*2)) d (p.take (f*2)) f (q.take (g*2)) g (r.take (h*2)) h (t.take (i*2)) i) true v fun cd=>cond cd (D1 N (HM s (l.take (b*2)) b (m.take (c*2)) c (o.take (d*2)) d (p.take (f*2)) f (q.take (g*2)) g (r.take (h*2)) h (t.take (i*2)) i) true fun ce=>A6 N (HM s (l.take (b*2)) b (m.take (c*2)) c (o.take (d*2)) d (p.take (f*2)) f (q.take (g*2)) g (r.take (h*2)) h (t.take (i*2)) i) true a ce false fun br cf=>cond (cf||false) none (cond ((beq 0 0)&&((beq br.length 2)&&(beq 2 2))) (q2 v a b c d f g h i br l m o p q r t) none)) (H1 N (HM s (l.take (b*2)) b (m.take (c*2)) c (o.take (d*2)) d (p.take (f*2)) f (q.take (g*2)) g (r.take (h*2)) h (t.take (i*2)) i) true a fun bs cg=>cond (cg||false) none (cond ((beq 0 0)&&((beq bs.length 2)&&(beq 2 2))) (q2 v a b c d f g h i bs l m o p q r t) none)))) (cond (v==0) (r0 b b c d f g h i l m o p q r t) (cond (v==1) (r1 c b c d f g h i m l o p q r t) (cond (v==2) (r2 d b c d f g h i o l m p q r t) (cond (v==3) (r3 f b c d f g h i p l m o q r t) (cond (v==4) (r4 g b c d f g h i q l m o p r t) (cond (v==5) (r5 h b c d f g h i r l m o p q t) (cond (v==6) (r6 i b c d f g h i t l m o p q r) none))))))))
def B5(r0:Nat->Nat->Nat->Nat->Nat->Nat->Nat->Nat->LA->LA->LA->LA->LA->LA->LA->O R)(r1:Nat->Nat->Nat->Nat->Nat->Nat->Nat->Nat->LA->LA->LA->LA->LA->LA->LA->O R)(r2:Nat->Nat->Nat->Nat->Nat->Nat->Nat->Nat->LA->LA->LA->LA->LA->LA->LA->O R)(r3:Nat->Nat->Nat->Nat->Nat->Nat->Nat->Nat->LA->LA->LA->LA->LA->LA->LA->O R)(r4:Nat->Nat->Nat->Nat->Nat->Nat->Nat->Nat->LA->LA->LA->LA->LA->LA->LA->O R)(r5:Nat->Nat->Nat->Nat->Nat->Nat->Nat->Nat->LA->LA->LA->LA->LA->LA->LA->O R)(r6:Nat->Nat->Nat->Nat->Nat->Nat->Nat->Nat->LA->LA->LA->LA->LA->LA->LA->O R)(j:Int)(s:RB):Nat->Int->Int->Nat->Nat->Nat->Nat->Nat->Nat->Nat->LA->LA->LA->LA->LA->LA->LA->O R
|0=>fun _ _ _ _ _ _ _ _ _ _ _ _ _ _ _ _=>none
|n+1=>On N r0 r1 r2 r3 r4 r5 r6 j s (B5 r0 r1 r2 r3 r4 r5 r6 j s n) (E5 N (B5 r0 r1 r2 r3 r4 r5 r6 j s n) r0 r1 r2 r3 r4 r5 r6 j s)
def Oo(N:Nat)(r0:Nat->Nat->Nat->Nat->Nat->Nat->Nat->Nat->LA->LA->LA->LA->LA->LA->LA->O R)(r1:Nat->Nat->Nat->Nat->Nat->Nat->Nat->Nat->LA->LA->LA->LA->LA->LA->LA->O R)(r2:Nat->Nat->Nat->Nat->Nat->Nat->Nat->Nat->LA->LA->LA->LA->LA->LA->LA->O R)(r3:Nat->Nat->Nat->Nat->Nat->Nat->Nat->Nat->LA->LA->LA->LA->LA->LA->LA->O R)(r4:Nat->Nat->Nat->Nat->Nat->Nat->Nat->Nat->LA->LA->LA->LA->LA->LA->LA->O R)(r5:Nat->Nat->Nat->Nat->Nat->Nat->Nat->Nat->LA->LA->LA->LA->LA->LA->LA->O R)(r6:Nat->Nat->Nat->Nat->Nat->Nat->Nat->Nat->LA->LA->LA->LA->LA->LA->LA->O R)(j:Int)(s:RB)(q1:Int->Int->Nat->Nat->Nat->Nat->Nat->Nat->Nat->LA->LA->LA->LA->LA->LA->LA->O R)(bi bj:Int):O R:=(q1 bi bj s.na s.nb s.nc s.nd s.ne s.nf s.ng s.ka s.kb s.kc s.kd s.ke s.kf s.kg)
def Kd(r0:Nat->Nat->Nat->Nat->Nat->Nat->Nat->Nat->LA->LA->LA->LA->LA->LA->LA->O R)(r1:Nat->Nat->Nat->Nat->Nat->Nat->Nat->Nat->LA->LA->LA->LA->LA->LA->LA->O R)(r2:Nat->Nat->Nat->Nat->Nat->Nat->Nat->Nat->LA->LA->LA->LA->LA->LA->LA->O R)(r3:Nat->Nat->Nat->Nat->Nat->Nat->Nat->Nat->LA->LA->LA->LA->LA->LA->LA->O R)(r4:Nat->Nat->Nat->Nat->Nat->Nat->Nat->Nat->LA->LA->LA->LA->LA->LA->LA->O R)(r5:Nat->Nat->Nat->Nat->Nat->Nat->Nat->Nat->LA->LA->LA->LA->LA->LA->LA->O R)(r6:Nat->Nat->Nat->Nat->Nat->Nat->Nat->Nat->LA->LA->LA->LA->LA->LA->LA->O R)(j:Int)(s:RB)(bi bj:Int):O R:=Oo N r0 r1 r2 r3 r4 r5 r6 j s (B5 N r0 r1 r2 r3 r4 r5 r6 j s N) bi bj
def Mg(N:Nat)(r0:Nat->Nat->Nat->Nat->Nat->Nat->Nat->Nat->LA->LA->LA->LA->LA->LA->LA->O R)(r1:Nat->Nat->Nat->Nat->Nat->Nat->Nat->Nat->LA->LA->LA->LA->LA->LA->LA->O R)(r2:Nat->Nat->Nat->Nat->Nat->Nat->Nat->Nat->LA->LA->LA->LA->LA->LA->LA->O R)(r3:Nat->Nat->Nat->Nat->Nat->Nat->Nat->Nat->LA->LA->LA->LA->LA->LA->LA->O R)(r4:Nat->Nat->Nat->Nat->Nat->Nat->Nat->Nat->LA->LA->LA->LA->LA->LA->LA->O R)(r5:Nat->Nat->Nat->Nat->Nat->Nat->Nat->Nat->LA->LA->LA->LA->LA->LA->LA->O R)(r6:Nat->Nat->Nat->Nat->Nat->Nat->Nat->Nat->LA->LA->LA->LA->LA->LA->LA->O R)(q0:Int->Int->O R)(w j:Int)(s:RB):O R:=(cond (w==0) (q0 0 (wrap .i64 (0+(s.na:Int)))) (cond (w==1) (q0 1 (wrap .i64 (1+(s.nb:Int)))) (cond (w==2) (q0 2 (wrap .i64 (2+(s.nc:Int)))) (cond (w==3) (q0 3 (wrap .i64 (3+(s.nd:Int)))) (cond (w==4) (q0 4 (wrap .i64 (4+(s.ne:Int)))) (cond (w==5) (q0 5 (wrap .i64 (5+(s.nf:Int)))) (cond (w==6) (q0 6 (wrap .i64 (6+(s.ng:Int)))) none)))))))
def Gz:=(Ak fun N w j s r0 r1 r2 r3 r4 r5 r6=>Mg (R:=R) N r0 r1 r2 r3 r4 r5 r6 (Kd N r0 r1 r2 r3 r4 r5 r6 j s) w j s).1
def Oq(w j s r0 r1 r2 r3 r4 r5 r6):(@Gz R N w j s r0 r1 r2 r3 r4 r5 r6)=(Mg N r0 r1 r2 r3 r4 r5 r6 (Kd N r0 r1 r2 r3 r4 r5 r6 j s) w j s):=by rw[Gz,(Ak _).2]
def Pz:Hints:={H:=hK 1 (hS (hJ [0,1,2,7] hL (hS (hP [0,1,2,7] (hK 1 (hS (hS (hK 1 (hJ [0,1,2,7,8] hL hL)) hL) hL))) hL)) hL),nils:=[(6,2)],modes:=[(2,2)],free:=[100001,100002,100003,100004,100005,100006,100007],cob:=[6000009,6000033,6000055,6000069]}
def Td:Vc:=[IT N,Mv N,Tb N,MH N]
def Ke(F:KF R):=Mp Tryz.f195 Pz (Td N) [100000,100001,100002,100003,100004,100005,100006,100007] N F
def Cn(s:RB)(F:KF R):Nat->Nat->Nat->Nat->Nat->Nat->Nat->Nat->LA->LA->LA->LA->LA->LA->LA->O R:=fun x y z aa ab ad ae af ag ah ai aj ak al am=>F (Ahf 0 x) [(100000,bN 0 [.str s.nm,iv s.bu,iv s.mi,iv s.ma,.imm s.sc s.sn 2 s.st s.so,iv s.nl,iv s.ru,iv s.rd,iv s.sr,iv s.tr,iv s.ut,iv s.dt,iv s.sT,iv s.hc,iv s.cc,iv s.hh,iv s.rs,iv s.rp,.imm s.ac s.an 1 s.aq s.ao,iv s.us,iv s.uh,iv s.uo,iv s.hs,.imm s.ec s.en 3 s.et s.eo,.imm s.qc s.qn 3 s.qt s.qo,.imm s.pc s.pn 1 s.pt s.po,.imm s.vc s.vn 3 s.vt s.vo,Ahf 0 y,Ahf 1 z,Ahf 2 aa,Ahf 3 ab,Ahf 4 ad,Ahf 5 ae,Ahf 6 af,.nsl,.nsl,.nsl,.nsl,.nsl,.nsl,.nsl,.nsl,.nsl,.nsl,.nsl,.nsl,.nsl,.nsl,.nsl,.nsl,.nsl]),(300000,bQ 2 ag),(300001,bQ 2 ah),(300002,bQ 2 ai),(300003,bQ 2 aj),(300004,bQ 2 ak),(300005,bQ 2 al),(300006,bQ 2 am)]
def Co(s:RB)(F:KF R):Nat->Nat->Nat->Nat->Nat->Nat->Nat->Nat->LA->LA->LA->LA->LA->LA->LA->O R:=fun x y z aa ab ad ae af ag ah ai aj ak al am=>F (Ahf 0 x) [(100000,bN 0 [.str s.nm,iv s.bu,iv s.mi,iv s.ma,.imm s.sc s.sn 2 s.st s.so,iv s.nl,iv s.ru,iv s.rd,iv s.sr,iv s.tr,iv s.ut,iv s.dt,iv s.sT,iv s.hc,iv s.cc,iv s.hh,iv s.rs,iv s.rp,.imm s.ac s.an 1 s.aq s.ao,iv s.us,iv s.uh,iv s.uo,iv s.hs,.imm s.ec s.en 3 s.et s.eo,.imm s.qc s.qn 3 s.qt s.qo,.imm s.pc s.pn 1 s.pt s.po,.imm s.vc s.vn 3 s.vt s.vo,Ahf 1 y,Ahf 0 z,Ahf 2 aa,Ahf 3 ab,Ahf 4 ad,Ahf 5 ae,Ahf 6 af,.nsl,.nsl,.nsl,.nsl,.nsl,.nsl,.nsl,.nsl,.nsl,.nsl,.nsl,.nsl,.nsl,.nsl,.nsl,.nsl,.nsl]),(300000,bQ 2 ag),(300001,bQ 2 ah),(300002,bQ 2 ai),(300003,bQ 2 aj),(300004,bQ 2 ak),(300005,bQ 2 al),(300006,bQ 2 am)]
def Cp(s:RB)(F:KF R):Nat->Nat->Nat->Nat->Nat->Nat->Nat->Nat->LA->LA->LA->LA->LA->LA->LA->O R:=fun x y z aa ab ad ae af ag ah ai aj ak al am=>F (Ahf 0 x) [(100000,bN 0 [.str s.nm,iv s.bu,iv s.mi,iv s.ma,.imm s.sc s.sn 2 s.st s.so,iv s.nl,iv s.ru,iv s.rd,iv s.sr,iv s.tr,iv s.ut,iv s.dt,iv s.sT,iv s.hc,iv s.cc,iv s.hh,iv s.rs,iv s.rp,.imm s.ac s.an 1 s.aq s.ao,iv s.us,iv s.uh,iv s.uo,iv s.hs,.imm s.ec s.en 3 s.et s.eo,.imm s.qc s.qn 3 s.qt s.qo,.imm s.pc s.pn 1 s.pt s.po,.imm s.vc s.vn 3 s.vt s.vo,Ahf 1 y,Ahf 2 z,Ahf 0 aa,Ahf 3 ab,Ahf 4 ad,Ahf 5 ae,Ahf 6 af,.nsl,.nsl,.nsl,.nsl,.nsl,.nsl,.nsl,.nsl,.nsl,.nsl,.nsl,.nsl,.nsl,.nsl,.nsl,.nsl,.nsl]),(300000,bQ 2 ag),(300001,bQ 2 ah),(300002,bQ 2 ai),(300003,bQ 2 aj),(300004,bQ 2 ak),(300005,bQ 2 al),(300006,bQ 2 am)]
def Cq(s:RB)(F:KF R):Nat->Nat->Nat->Nat->Nat->Nat->Nat->Nat->LA->LA->LA->LA->LA->LA->LA->O R:=fun x y z aa ab ad ae af ag ah ai aj ak al am=>F (Ahf 0 x) [(100000,bN 0 [.str s.nm,iv s.bu,iv s.mi,iv s.ma,.imm s.sc s.sn 2 s.st s.so,iv s.nl,iv s.ru,iv s.rd,iv s.sr,iv s.tr,iv s.ut,iv s.dt,iv s.sT,iv s.hc,iv s.cc,iv s.hh,iv s.rs,iv s.rp,.imm s.ac s.an 1 s.aq s.ao,iv s.us,iv s.uh,iv s.uo,iv s.hs,.imm s.ec s.en 3 s.et s.eo,.imm s.qc s.qn 3 s.qt s.qo,.imm s.pc s.pn 1 s.pt s.po,.imm s.vc s.vn 3 s.vt s.vo,Ahf 1 y,Ahf 2 z,Ahf 3 aa,Ahf 0 ab,Ahf 4 ad,Ahf 5 ae,Ahf 6 af,.nsl,.nsl,.nsl,.nsl,.nsl,.nsl,.nsl,.nsl,.nsl,.nsl,.nsl,.nsl,.nsl,.nsl,.nsl,.nsl,.nsl]),(300000,bQ 2 ag),(300001,bQ 2 ah),(300002,bQ 2 ai),(300003,bQ 2 aj),(300004,bQ 2 ak),(300005,bQ 2 al),(300006,bQ 2 am)]
def Cr(s:RB)(F:KF R):Nat->Nat->Nat->Nat->Nat->Nat->Nat->Nat->LA->LA->LA->LA->LA->LA->LA->O R:=fun x y z aa ab ad ae af ag ah ai aj ak al am=>F (Ahf 0 x) [(100000,bN 0 [.str s.nm,iv s.bu,iv s.mi,iv s.ma,.imm s.sc s.sn 2 s.st s.so,iv s.nl,iv s.ru,iv s.rd,iv s.sr,iv s.tr,iv s.ut,iv s.dt,iv s.sT,iv s.hc,iv s.cc,iv s.hh,iv s.rs,iv s.rp,.imm s.ac s.an 1 s.aq s.ao,iv s.us,iv s.uh,iv s.uo,iv s.hs,.imm s.ec s.en 3 s.et s.eo,.imm s.qc s.qn 3 s.qt s.qo,.imm s.pc s.pn 1 s.pt s.po,.imm s.vc s.vn 3 s.vt s.vo,Ahf 1 y,Ahf 2 z,Ahf 3 aa,Ahf 4 ab,Ahf 0 ad,Ahf 5 ae,Ahf 6 af,.nsl,.nsl,.nsl,.nsl,.nsl,.nsl,.nsl,.nsl,.nsl,.nsl,.nsl,.nsl,.nsl,.nsl,.nsl,.nsl,.nsl]),(300000,bQ 2 ag),(300001,bQ 2 ah),(300002,bQ 2 ai),(300003,bQ 2 aj),(300004,bQ 2 ak),(300005,bQ 2 al),(300006,bQ 2 am)]
def Cs(s:RB)(F:KF R):Nat->Nat->Nat->Nat->Nat->Nat->Nat->Nat->LA->LA->LA->LA->LA->LA->LA->O R:=fun x y z aa ab ad ae af ag ah ai aj ak al am=>F (Ahf 0 x) [(100000,bN 0 [.str s.nm,iv s.bu,iv s.mi,iv s.ma,.imm s.sc s.sn 2 s.st s.so,iv s.nl,iv s.ru,iv s.rd,iv s.sr,iv s.tr,iv s.ut,iv s.dt,iv s.sT,iv s.hc,iv s.cc,iv s.hh,iv s.rs,iv s.rp,.imm s.ac s.an 1 s.aq s.ao,iv s.us,iv s.uh,iv s.uo,iv s.hs,.imm s.ec s.en 3 s.et s.eo,.imm s.qc s.qn 3 s.qt s.qo,.imm s.pc s.pn 1 s.pt s.po,.imm s.vc s.vn 3 s.vt s.vo,Ahf 1 y,Ahf 2 z,Ahf 3 aa,Ahf 4 ab,Ahf 5 ad,Ahf 0 ae,Ahf 6 af,.nsl,.nsl,.nsl,.nsl,.nsl,.nsl,.nsl,.nsl,.nsl,.nsl,.nsl,.nsl,.nsl,.nsl,.nsl,.nsl,.nsl]),(300000,bQ 2 ag),(300001,bQ 2 ah),(300002,bQ 2 ai),(300003,bQ 2 aj),(300004,bQ 2 ak),(300005,bQ 2 al),(300006,bQ 2 am)]
def Ct(s:RB)(F:KF R):Nat->Nat->Nat->Nat->Nat->Nat->Nat->Nat->LA->LA->LA->LA->LA->LA->LA->O R:=fun x y z aa ab ad ae af ag ah ai aj ak al am=>F (Ahf 0 x) [(100000,bN 0 [.str s.nm,iv s.bu,iv s.mi,iv s.ma,.imm s.sc s.sn 2 s.st s.so,iv s.nl,iv s.ru,iv s.rd,iv s.sr,iv s.tr,iv s.ut,iv s.dt,iv s.sT,iv s.hc,iv s.cc,iv s.hh,iv s.rs,iv s.rp,.imm s.ac s.an 1 s.aq s.ao,iv s.us,iv s.uh,iv s.uo,iv s.hs,.imm s.ec s.en 3 s.et s.eo,.imm s.qc s.qn 3 s.qt s.qo,.imm s.pc s.pn 1 s.pt s.po,.imm s.vc s.vn 3 s.vt s.vo,Ahf 1 y,Ahf 2 z,Ahf 3 aa,Ahf 4 ab,Ahf 5 ad,Ahf 6 ae,Ahf 0 af,.nsl,.nsl,.nsl,.nsl,.nsl,.nsl,.nsl,.nsl,.nsl,.nsl,.nsl,.nsl,.nsl,.nsl,.nsl,.nsl,.nsl]),(300000,bQ 2 ag),(300001,bQ 2 ah),(300002,bQ 2 ai),(300003,bQ 2 aj),(300004,bQ 2 ak),(300005,bQ 2 al),(300006,bQ 2 am)]
def FB(j:Int)(s:RB)(K:St->O R):=fun az ba ap ar au av aw ax ay u bb bc bd be bf bg bh=>K ⟨[(0,.optr 100000 0),(1,iv az),(2,iv j),(7,iv ba),(8,op 0)],[(100000,bN 0 [.str s.nm,iv s.bu,iv s.mi,iv s.ma,.imm s.sc s.sn 2 s.st s.so,iv s.nl,iv s.ru,iv s.rd,iv s.sr,iv s.tr,iv s.ut,iv s.dt,iv s.sT,iv s.hc,iv s.cc,iv s.hh,iv s.rs,iv s.rp,.imm s.ac s.an 1 s.aq s.ao,iv s.us,iv s.uh,iv s.uo,iv s.hs,.imm s.ec s.en 3 s.et s.eo,.imm s.qc s.qn 3 s.qt s.qo,.imm s.pc s.pn 1 s.pt s.po,.imm s.vc s.vn 3 s.vt s.vo,Ahf 1 ap,Ahf 2 ar,Ahf 3 au,Ahf 4 av,Ahf 5 aw,Ahf 6 ax,Ahf 7 ay,.nsl,.nsl,.nsl,.nsl,.nsl,.nsl,.nsl,.nsl,.nsl,.nsl,.nsl,.nsl,.nsl,.nsl,.nsl,.nsl,.nsl]),(300000,bQ 0 u),(300001,bQ 2 bb),(300002,bQ 2 bc),(300003,bQ 2 bd),(300004,bQ 2 be),(300005,bQ 2 bf),(300006,bQ 2 bg),(300007,bQ 2 bh)]⟩
def P0(j:Int)(s:RB)(K:St->O R):=fun v a b c d f g h i l m o p q r t=>K ⟨[(0,.optr 100000 0),(1,iv v),(2,iv j),(7,iv a)],[(100000,bN 0 [.str s.nm,iv s.bu,iv s.mi,iv s.ma,.imm s.sc s.sn 2 s.st s.so,iv s.nl,iv s.ru,iv s.rd,iv s.sr,iv s.tr,iv s.ut,iv s.dt,iv s.sT,iv s.hc,iv s.cc,iv s.hh,iv s.rs,iv s.rp,.imm s.ac s.an 1 s.aq s.ao,iv s.us,iv s.uh,iv s.uo,iv s.hs,.imm s.ec s.en 3 s.et s.eo,.imm s.qc s.qn 3 s.qt s.qo,.imm s.pc s.pn 1 s.pt s.po,.imm s.vc s.vn 3 s.vt s.vo,Ahf 0 b,Ahf 1 c,Ahf 2 d,Ahf 3 f,Ahf 4 g,Ahf 5 h,Ahf 6 i,.nsl,.nsl,.nsl,.nsl,.nsl,.nsl,.nsl,.nsl,.nsl,.nsl,.nsl,.nsl,.nsl,.nsl,.nsl,.nsl,.nsl]),(300000,bQ 2 l),(300001,bQ 2 m),(300002,bQ 2 o),(300003,bQ 2 p),(300004,bQ 2 q),(300005,bQ 2 r),(300006,bQ 2 t)]⟩
def FC(j:Int)(s:RB)(K:St->O R):=fun bi bj=>K ⟨[(0,.optr 100000 0),(1,iv bi),(2,iv j),(7,iv bj)],[(100000,bN 0 [.str s.nm,iv s.bu,iv s.mi,iv s.ma,.imm s.sc s.sn 2 s.st s.so,iv s.nl,iv s.ru,iv s.rd,iv s.sr,iv s.tr,iv s.ut,iv s.dt,iv s.sT,iv s.hc,iv s.cc,iv s.hh,iv s.rs,iv s.rp,.imm s.ac s.an 1 s.aq s.ao,iv s.us,iv s.uh,iv s.uo,iv s.hs,.imm s.ec s.en 3 s.et s.eo,.imm s.qc s.qn 3 s.qt s.qo,.imm s.pc s.pn 1 s.pt s.po,.imm s.vc s.vn 3 s.vt s.vo,Ahf 0 s.na,Ahf 1 s.nb,Ahf 2 s.nc,Ahf 3 s.nd,Ahf 4 s.ne,Ahf 5 s.nf,Ahf 6 s.ng,.nsl,.nsl,.nsl,.nsl,.nsl,.nsl,.nsl,.nsl,.nsl,.nsl,.nsl,.nsl,.nsl,.nsl,.nsl,.nsl,.nsl]),(300000,bQ 2 s.ka),(300001,bQ 2 s.kb),(300002,bQ 2 s.kc),(300003,bQ 2 s.kd),(300004,bQ 2 s.ke),(300005,bQ 2 s.kf),(300006,bQ 2 s.kg)]⟩
def Ys Q1 (F:KF R) (j s):FB j s (Ba (Ke N F (pz 1327365) [Q1]))=(E5 N (P0 j s Q1) (Cn s F) (Co s F) (Cp s F) (Cq s F) (Cr s F) (Cs s F) (Ct s F) j s):=by kernel_rfl
def Yt(F:KF R)(j s):∀ n,P0 j s (A3 (Ke N F (pz 324) []) n)=(B5 N (Cn s F) (Co s F) (Cp s F) (Cq s F) (Cr s F) (Cs s F) (Ct s F) j s n):=Mo fun n e=>(ZX (On N (Cn s F) (Co s F) (Cp s F) (Cq s F) (Cr s F) (Cs s F) (Ct s F) j s) e ((jW ..).trans ((Ys ..).trans (m_ (E5 _ · _ _ _ _ _ _ _ _ _) e))):_)
def Yu(F:KF R)(j s):FC j s (Ba (Ke N F (pz 81) []))=(Kd N (Cn s F) (Co s F) (Cp s F) (Cq s F) (Cr s F) (Cs s F) (Ct s F) j s):=(Dw (Oo N (Cn s F) (Co s F) (Cp s F) (Cq s F) (Cr s F) (Cs s F) (Ct s F) j s) ((lW ..).trans (Yt ..)):_)
def IU:=Dm N 195 (Td N) Pz (va fun
|[.optr 100000 0,.int .i64 w,.int .i64 j],s=>some fun _ k=>Gz N w j s (Cn s k) (Co s k) (Cp s k) (Cq s k) (Cr s k) (Cs s k) (Ct s k)
| _,_=>none) (xR fun _ s=>by split;rename_i w j;intro R F;exact(Dw (Mg N (Cn s F) (Co s F) (Cp s F) (Cq s F) (Cr s F) (Cs s F) (Ct s F) · w j s) ((jW ..).trans (Yu ..)):_).trans (Oq ..).symm;trivial)
def J4(r0:Int->Bool->Nat->Nat->Nat->Nat->Nat->Nat->Nat->LA->LA->LA->LA->LA->LA->LA->O R)(s:RB)(d e f g h i j:Nat)(c l m n o p q r:LA)(t:Int):O R:=(cond (ble 2 c.length) (Gv N (c.take 2) false fun ad=>cond (decide (t<ad)) (r0 0 false d e f g h i j l m n o p q r) (cond (ble 2 c.length) (A4 N 0 fun ae=>Gg N (c.take 2) false ae false fun af=>r0 (Fg af t) true d e f g h i j l m n o p q r) none)) none)
def Mh(r0:Int->Bool->Nat->Nat->Nat->Nat->Nat->Nat->Nat->LA->LA->LA->LA->LA->LA->LA->O R)(a:Int)(s:RB)(q1:Nat->Nat->Nat->Nat->Nat->Nat->Nat->LA->LA->LA->LA->LA->LA->LA->LA->Int->O R)(d e f g h i j:Nat)(c l m n o p q r:LA):O R:=(cond (ble 2 c.length) (Ig N (c.take 2) false fun ab=>cond (decide (a<(wrap .i64 (s.hs - 1)))) (q1 d e f g h i j c l m n o p q r (Fg ab s.tr)) (q1 d e f g h i j c l m n o p q r ab)) none)
def G0(r0:Int->Bool->Nat->Nat->Nat->Nat->Nat->Nat->Nat->LA->LA->LA->LA->LA->LA->LA->O R)(a:Int)(s:RB)(d e f g h i j:Nat)(c l m n o p q r:LA):O R:=Mh N r0 a s (fun d e f g h i j c l m n o p q r=>J4 N r0 s d e f g h i j c l m n o p q r) d e f g h i j c l m n o p q r
def Mi(r0:Int->Bool->Nat->Nat->Nat->Nat->Nat->Nat->Nat->LA->LA->LA->LA->LA->LA->LA->O R)(q0:Nat->Nat->Nat->Nat->Nat->Nat->Nat->LA->LA->LA->LA->LA->LA->LA->LA->O R)(b a:Int)(s:RB):O R:=(Gz N b a s (fun ag ah ai aj ak al am ap u ar au av aw ax ay=>cond (Ab (wrap .i64 (a - b)) ag) (cond (ble 2 ((u.drop (0+(((wrap .i64 (a - b)).toNat)*2))).length)) (cond ((beq 0 0)&&((beq (((u.drop (0+(((wrap .i64 (a - b)).toNat)*2))).take 2).length) 2)&&(beq 2 2))) (q0 ah ai aj ak al am ap ((u.drop (0+(((wrap .i64 (a - b)).toNat)*2))).take 2) u ar au av aw ax ay) none) none) none) (fun az ba bb bc bd be bf bg v bh bi bj bk bl bm=>cond (Ab (wrap .i64 (a - b)) az) (cond (ble 2 ((v.drop (0+(((wrap .i64 (a - b)).toNat)*2))).length)) (cond ((beq 0 0)&&((beq (((v.drop (0+(((wrap .i64 (a - b)).toNat)*2))).take 2).length) 2)&&(beq 2 2))) (q0 ba bb bc bd be bf bg ((v.drop (0+(((wrap .i64 (a - b)).toNat)*2))).take 2) bh v bi bj bk bl bm) none) none) none) (fun bn bo bp bq br bs bt bv w bw bx bz ca cb cd=>cond (Ab (wrap .i64 (a - b)) bn) (cond (ble 2 ((w.drop (0+(((wrap .i64 (a - b)).toNat)*2))).length)) (cond ((beq 0 0)&&((beq (((w.drop (0+(((wrap .i64 (a - b)).toNat)*2))).take 2).length) 2)&&(beq 2 2))) (q0 bo bp bq br bs bt bv ((w.drop (0+(((wrap .i64 (a - b)).toNat)*2))).take 2) bw bx w bz ca cb cd) none) none) none) (fun ce cf cg ch ci cj ck cl x cm cn co cp cq cr=>cond (Ab (wrap .i64 (a - b)) ce) (cond (ble 2 ((x.drop (0+(((wrap .i64 (a - b)).toNat)*2))).length)) (cond ((beq 0 0)&&((beq (((x.drop (0+(((wrap .i64 (a - b)).toNat)*2))).take 2).length) 2)&&(beq 2 2))) (q0 cf cg ch ci cj ck cl ((x.drop (0+(((wrap .i64 (a - b)).toNat)*2))).take 2) cm cn co x cp cq cr) none) none) none) (fun cs ct cu cv cw cx cy cz y da db dc dd de df=>cond (Ab (wrap .i64 (a - b)) cs) (cond (ble 2 ((y.drop (0+(((wrap .i64 (a - b)).toNat)*2))).length)) (cond ((beq 0 0)&&((beq (((y.drop (0+(((wrap .i64 (a - b)).toNat)*2))).take 2).length) 2)&&(beq 2 2))) (q0 ct cu cv cw cx cy cz ((y.drop (0+(((wrap .i64 (a - b)).toNat)*2))).take 2) da db dc dd y de df) none) none) none) (fun dg dh di dj dk dl dm dn z dp dq dr ds du dv=>cond (Ab (wrap .i64 (a - b)) dg) (cond (ble 2 ((z.drop (0+(((wrap .i64 (a - b)).toNat)*2))).length)) (cond ((beq 0 0)&&((beq (((z.drop (0+(((wrap .i64 (a - b)).toNat)*2))).take 2).length) 2)&&(beq 2 2))) (q0 dh di dj dk dl dm dn ((z.drop (0+(((wrap .i64 (a - b)).toNat)*2))).take 2) dp dq dr ds du z dv) none) none) none) fun dw dx dy dz ea eb ed ee aa ef eg eh ei ej ek=>cond (Ab (wrap .i64 (a - b)) dw) (cond (ble 2 ((aa.drop (0+(((wrap .i64 (a - b)).toNat)*2))).length)) (cond ((beq 0 0)&&((beq (((aa.drop (0+(((wrap .i64 (a - b)).toNat)*2))).take 2).length) 2)&&(beq 2 2))) (q0 dx dy dz ea eb ed ee ((aa.drop (0+(((wrap .i64 (a - b)).toNat)*2))).take 2) ef eg eh ei ej ek aa) none) none) none)
def Ih:=(Ak fun N b a s r0=>Mi (R:=R) N r0 (G0 N r0 a s) b a s).1
def Us(b a s r0):(@Ih R N b a s r0)=(Mi N r0 (G0 N r0 a s) b a s):=by rw[Ih,(Ak _).2]
def Wy:Hints:={H:=hK 1 (hJ [0,2,8] hL (hK 1 (hJ [8,9] hL hL)))}
def AF:Vc:=[IU N,O6 N,Nu N,Cd N,Z7 N]
def Wz(F:KF R):=Mp Tryz.f144 Wy (AF N) [100000,100001,100002,100003,100004,100005,100006,100007] N F
def G1(s:RB)(F:KF R):Int->Bool->Nat->Nat->Nat->Nat->Nat->Nat->Nat->LA->LA->LA->LA->LA->LA->LA->O R:=fun el em ep er es eu ev ew ex ey ez fa fb fc fd fe=>F (.tup [iv el,.bool em]) [(100000,bN 0 [.str s.nm,iv s.bu,iv s.mi,iv s.ma,.imm s.sc s.sn 2 s.st s.so,iv s.nl,iv s.ru,iv s.rd,iv s.sr,iv s.tr,iv s.ut,iv s.dt,iv s.sT,iv s.hc,iv s.cc,iv s.hh,iv s.rs,iv s.rp,.imm s.ac s.an 1 s.aq s.ao,iv s.us,iv s.uh,iv s.uo,iv s.hs,.imm s.ec s.en 3 s.et s.eo,.imm s.qc s.qn 3 s.qt s.qo,.imm s.pc s.pn 1 s.pt s.po,.imm s.vc s.vn 3 s.vt s.vo,Ahf 0 ep,Ahf 1 er,Ahf 2 es,Ahf 3 eu,Ahf 4 ev,Ahf 5 ew,Ahf 6 ex,.nsl,.nsl,.nsl,.nsl,.nsl,.nsl,.nsl,.nsl,.nsl,.nsl,.nsl,.nsl,.nsl,.nsl,.nsl,.nsl,.nsl]),(300000,bQ 2 ey),(300001,bQ 2 ez),(300002,bQ 2 fa),(300003,bQ 2 fb),(300004,bQ 2 fc),(300005,bQ 2 fd),(300006,bQ 2 fe)]
def PJ(s:RB)(d e f g h i j:Nat)(c l m n o p q r:LA)(K:St->O R):=fun t=>K ⟨[(8,op 0),(9,iv t)],[(100000,bN 0 [.str s.nm,iv s.bu,iv s.mi,iv s.ma,.imm s.sc s.sn 2 s.st s.so,iv s.nl,iv s.ru,iv s.rd,iv s.sr,iv s.tr,iv s.ut,iv s.dt,iv s.sT,iv s.hc,iv s.cc,iv s.hh,iv s.rs,iv s.rp,.imm s.ac s.an 1 s.aq s.ao,iv s.us,iv s.uh,iv s.uo,iv s.hs,.imm s.ec s.en 3 s.et s.eo,.imm s.qc s.qn 3 s.qt s.qo,.imm s.pc s.pn 1 s.pt s.po,.imm s.vc s.vn 3 s.vt s.vo,Ahf 1 d,Ahf 2 e,Ahf 3 f,Ahf 4 g,Ahf 5 h,Ahf 6 i,Ahf 7 j,.nsl,.nsl,.nsl,.nsl,.nsl,.nsl,.nsl,.nsl,.nsl,.nsl,.nsl,.nsl,.nsl,.nsl,.nsl,.nsl,.nsl]),(300000,bQ 0 c),(300001,bQ 2 l),(300002,bQ 2 m),(300003,bQ 2 n),(300004,bQ 2 o),(300005,bQ 2 p),(300006,bQ 2 q),(300007,bQ 2 r)]⟩
def PK(a:Int)(s:RB)(K:St->O R):=fun d e f g h i j c l m n o p q r=>K ⟨[(0,.optr 100000 0),(2,iv a),(8,op 0)],[(100000,bN 0 [.str s.nm,iv s.bu,iv s.mi,iv s.ma,.imm s.sc s.sn 2 s.st s.so,iv s.nl,iv s.ru,iv s.rd,iv s.sr,iv s.tr,iv s.ut,iv s.dt,iv s.sT,iv s.hc,iv s.cc,iv s.hh,iv s.rs,iv s.rp,.imm s.ac s.an 1 s.aq s.ao,iv s.us,iv s.uh,iv s.uo,iv s.hs,.imm s.ec s.en 3 s.et s.eo,.imm s.qc s.qn 3 s.qt s.qo,.imm s.pc s.pn 1 s.pt s.po,.imm s.vc s.vn 3 s.vt s.vo,Ahf 1 d,Ahf 2 e,Ahf 3 f,Ahf 4 g,Ahf 5 h,Ahf 6 i,Ahf 7 j,.nsl,.nsl,.nsl,.nsl,.nsl,.nsl,.nsl,.nsl,.nsl,.nsl,.nsl,.nsl,.nsl,.nsl,.nsl,.nsl,.nsl]),(300000,bQ 0 c),(300001,bQ 2 l),(300002,bQ 2 m),(300003,bQ 2 n),(300004,bQ 2 o),(300005,bQ 2 p),(300006,bQ 2 q),(300007,bQ 2 r)]⟩
def FD(F:KF R)(s d e f g h i j c l m n o p q r):PJ s d e f g h i j c l m n o p q r (Ba (Wz N F (pz 341) []))=(J4 N (G1 s F) s d e f g h i j c l m n o p q r):=by kernel_rfl
def FE(F:KF R)(a s):PK a s (Ba (Wz N F (pz 21) []))=(G0 N (G1 s F) a s):=(Dw (Mh N (G1 s F) a s) (uF fun d e f=>vM fun g h i j c l=>vM fun m n o p q r=>(jW ..).trans (FD ..)):_)
def AG:=Dm N 144 (AF N) Wy (va fun
|[.optr 100000 0,.int .i64 b,.int .i64 a],s=>some fun _ k=>Ih N b a s (G1 s k)
| _,_=>none) (xR fun _ s=>by split;rename_i b a;intro R F;exact(Dw (Mi N (G1 s F) · b a s) ((jW ..).trans (FE ..)):_).trans (Us ..).symm;trivial)
def K2(b a:Int)(s:RB)(r0:LA->Bool->Bool->Nat->Nat->Nat->Nat->Nat->Nat->Nat->LA->LA->LA->LA->LA->LA->LA->O R):O R:=(Ih N b a s fun r aa j l m n o p q c d e f g h i=>cond (!aa) (r0 [.bool false,.nsl,.nsl] false false j l m n o p q c d e f g h i) (cond (b==0) (cond (Ab (wrap .i64 (a - 0)) j) (cond (ble 2 ((c.drop (0+(((wrap .i64 (a - 0)).toNat)*2))).length)) (By N ((c.drop (0+(((wrap .i64 (a - 0)).toNat)*2))).take 2) false r fun t ab=>cond ((beq 0 0)&&((beq t.length 3)&&(beq 3 3))) (cond (ble 3 t.length) (r0 (t.take 3) ab true j l m n o p q c d e f g h i) none) none) none) none) (cond (b==1) (cond (Ab (wrap .i64 (a - 1)) l) (cond (ble 2 ((d.drop (0+(((wrap .i64 (a - 1)).toNat)*2))).length)) (By N ((d.drop (0+(((wrap .i64 (a - 1)).toNat)*2))).take 2) false r fun u ad=>cond ((beq 0 0)&&((beq u.length 3)&&(beq 3 3))) (cond (ble 3 u.length) (r0 (u.take 3) ad true j l m n o p q c d e f g h i) none) none) none) none) (cond (b==2) (cond (Ab (wrap .i64 (a - 2)) m) (cond (ble 2 ((e.drop (0+(((wrap .i64 (a - 2)).toNat)*2))).length)) (By N ((e.drop (0+(((wrap .i64 (a - 2)).toNat)*2))).take 2) false r fun v ae=>cond ((beq 0 0)&&((beq v.length 3)&&(beq 3 3))) (cond (ble 3 v.length) (r0 (v.take 3) ae true j l m n o p q c d e f g h i) none) none) none) none) (cond (b==3) (cond (Ab (wrap .i64 (a - 3)) n) (cond (ble 2 ((f.drop (0+(((wrap .i64 (a - 3)).toNat)*2))).length)) (By N ((f.drop (0+(((wrap .i64 (a - 3)).toNat)*2))).take 2) false r fun w af=>cond ((beq 0 0)&&((beq w.length 3)&&(beq 3 3))) (cond (ble 3 w.length) (r0 (w.take 3) af true j l m n o p q c d e f g h i) none) none) none) none) (cond (b==4) (cond (Ab (wrap .i64 (a - 4)) o) (cond (ble 2 ((g.drop (0+(((wrap .i64 (a - 4)).toNat)*2))).length)) (By N ((g.drop (0+(((wrap .i64 (a - 4)).toNat)*2))).take 2) false r fun x ag=>cond ((beq 0 0)&&((beq x.length 3)&&(beq 3 3))) (cond (ble 3 x.length) (r0 (x.take 3) ag true j l m n o p q c d e f g h i) none) none) none) none) (cond (b==5) (cond (Ab (wrap .i64 (a - 5)) p) (cond (ble 2 ((h.drop (0+(((wrap .i64 (a - 5)).toNat)*2))).length)) (By N ((h.drop (0+(((wrap .i64 (a - 5)).toNat)*2))).take 2) false r fun y ah=>cond ((beq 0 0)&&((beq y.length 3)&&(beq 3 3))) (cond (ble 3 y.length) (r0 (y.take 3) ah true j l m n o p q c d e f g h i) none) none) none) none) (cond (b==6) (cond (Ab (wrap .i64 (a - 6)) q) (cond (ble 2 ((i.drop (0+(((wrap .i64 (a - 6)).toNat)*2))).length)) (By N ((i.drop (0+(((wrap .i64 (a - 6)).toNat)*2))).take 2) false r fun z ai=>cond ((beq 0 0)&&((beq z.length 3)&&(beq 3 3))) (cond (ble 3 z.length) (r0 (z.take 3) ai true j l m n o p q c d e f g h i) none) none) none) none) none))))))))
def Is:=(Ak (@K2 R)).1
def Mw:@Is R=@K2 R:=(Ak _).2
def CY(s:RB)(F:KF R):LA->Bool->Bool->Nat->Nat->Nat->Nat->Nat->Nat->Nat->LA->LA->LA->LA->LA->LA->LA->O R:=fun aj ak al am ap ar au av aw ax ay az ba bb bc bd be=>F (.tup [.pagg aj ak,.bool al]) [(100000,bN 0 [.str s.nm,iv s.bu,iv s.mi,iv s.ma,.imm s.sc s.sn 2 s.st s.so,iv s.nl,iv s.ru,iv s.rd,iv s.sr,iv s.tr,iv s.ut,iv s.dt,iv s.sT,iv s.hc,iv s.cc,iv s.hh,iv s.rs,iv s.rp,.imm s.ac s.an 1 s.aq s.ao,iv s.us,iv s.uh,iv s.uo,iv s.hs,.imm s.ec s.en 3 s.et s.eo,.imm s.qc s.qn 3 s.qt s.qo,.imm s.pc s.pn 1 s.pt s.po,.imm s.vc s.vn 3 s.vt s.vo,Ahf 0 am,Ahf 1 ap,Ahf 2 ar,Ahf 3 au,Ahf 4 av,Ahf 5 aw,Ahf 6 ax,.nsl,.nsl,.nsl,.nsl,.nsl,.nsl,.nsl,.nsl,.nsl,.nsl,.nsl,.nsl,.nsl,.nsl,.nsl,.nsl,.nsl]),(300000,bQ 2 ay),(300001,bQ 2 az),(300002,bQ 2 ba),(300003,bQ 2 bb),(300004,bQ 2 bc),(300005,bQ 2 bd),(300006,bQ 2 be)]
def FF:=Dm N 85 [AG N,O3 N] { H:=hL,modes:=[(3,0),(0,0)],cob:=[6000021] } (va fun
|[.optr 100000 0,.int .i64 b,.int .i64 a],s=>some fun _ k=>Is N b a s (CY s k)
| _,_=>none) (xR fun _ s=>by split;intro R F;dsimp only;rw[Mw];kernel_rfl;trivial)
def Ut(r0:Nat->Nat->Nat->LA->LA->LA->O R)(a:Int)(k0:Int->Nat->Nat->Nat->LA->LA->LA->O R)(f:Int)(b c d:Nat)(g h i:LA):O R:=(cond (decide (f<a)) (cond ((ble (b+1) 140737488355328)&&(ble ((b+1)*8) 140737488355328)) (A4 N 0 fun j=>cond ((beq j.length 3)&&(ble 3 3)) (cond ((ble (c+1) 140737488355328)&&(ble ((c+1)*56) 140737488355328)) (A4 N 0 fun l=>cond ((beq l.length 3)&&(ble 3 3)) (cond ((ble (d+1) 140737488355328)&&(ble ((d+1)*56) 140737488355328)) (k0 (wrap .i64 (f+1)) (b+1) (c+1) (d+1) ((g.take (b*1))++[Ahg]) ((h.take (c*3))++((setCells [.bool false,.nsl,.nsl] 0 j).take 3)) ((i.take (d*3))++((setCells [.bool false,.nsl,.nsl] 0 l).take 3))) none) none) none) none) none) (r0 b c d g h i))
def K3(r0:Nat->Nat->Nat->LA->LA->LA->O R)(a:Int):Nat->Int->Nat->Nat->Nat->LA->LA->LA->O R
|0=>fun _ _ _ _ _ _ _=>none
|n+1=>Ut N r0 a (K3 r0 a n)
def MI(N:Nat)(r0:Nat->Nat->Nat->LA->LA->LA->O R)(q0:Int->Nat->Nat->Nat->LA->LA->LA->O R)(a:Int):O R:=(q0 0 0 0 0 [] [] [])
def MJ:=(Ak fun N a r0=>MI (R:=R) N r0 (K3 N r0 a N) a).1
def R_(a r0):(@MJ R N a r0)=(MI N r0 (K3 N r0 a N) a):=by rw[MJ,(Ak _).2]
def YH:Hints:={H:=hK 2 (hS (hK 1 (hS (hP [2,3,4,5] hL) hL)) hL),modes:=[(0,0)],cob:=[1000002,1000003]}
def dA:Vc:=[Cd N]
def lj(F:KF R):=Mp Tryz.f86 YH (dA N) [] N F
def Yv(F:KF R):Nat->Nat->Nat->LA->LA->LA->O R:=fun m o p q r s=>F (.agg [Ahf 0 m,Ahf 1 o,Ahf 2 p]) (hq [bQ 1 q,bQ 3 r,bQ 3 s])
def lk(a:Int)(K:St->O R):=fun f b c d g h i=>K ⟨[(2,op 0),(3,op 1),(4,iv a),(5,iv f)],hq [bN 0 [Ahf 2 0,Ahf 3 0,Ahf 4 0],bN 0 [Ahf 5 b,Ahf 6 c,Ahf 7 d],bQ 1 [],bQ 3 [],bQ 3 [],bQ 1 g,bQ 3 h,bQ 3 i]⟩
def aX(F:KF R)a:∀ n,lk a (A3 (lj N F (pz 1348) []) n)=(K3 N (Yv F) a n):=Mo fun n e=>(Dw (Ut N (Yv F) a) e:_)
def o4:=Dm N 86 (dA N) YH (fun
|[.int .i64 a],[]=>some fun _ k=>MJ N a (Yv k)
| _,_=>none) fun _ _=>by split;intro R F;exact(Dw (MI N (Yv F) · _) ((lW ..).trans (aX ..)):_).trans (R_ ..).symm;trivial
def F3(k0:Int->Int->Int->LA->LA->LA->O R)(r0:Nat->Nat->Nat->Nat->Nat->Nat->Nat->LA->LA->LA->LA->LA->LA->LA->LA->LA->LA->O R)(s:RB)(a b c d g i j x y z:Nat)(l m o r t u v aa ab ad:LA)(au av aj aw ax:Int)(am ap ar:LA):O R:=(cond (Ab aj x) (cond ((beq 1 1)&&((ble ((0+(aj.toNat*1))+1) am.length)&&(!false))) (A4 N av fun ay=>A4 N ax fun az=>cond (Ab aj y) (cond ((beq ay.length 3)&&((ble ((0+(aj.toNat*3))+3) ap.length)&&(!false))) (cond (Ab aj z) (cond ((beq az.length 3)&&((ble ((0+(aj.toNat*3))+3) ar.length)&&(!false))) (k0 au aw (wrap .i64 (aj - 1)) (am.set (0+(aj.toNat*1)) (.int .i64 2)) (setCells ap (0+(aj.toNat*3)) ay) (setCells ar (0+(aj.toNat*3)) az)) none) none) none) none) none) none)
def Te(r0:Nat->Nat->Nat->Nat->Nat->Nat->Nat->LA->LA->LA->LA->LA->LA->LA->LA->LA->LA->O R)(s:RB)(a b c d g i j x y z:Nat)(l m o r t u v aa ab ad:LA)(k0:Int->Int->Int->LA->LA->LA->O R)(q1:Int->Int->Int->Int->Int->LA->LA->LA->O R)(af ae w:Int)(ag ah ai:LA):O R:=(cond (decide (w>=af)) (cond (decide (w>af)) (cond (af==0) (cond (Ab (wrap .i64 ((wrap .i64 (w - 0)) - 1)) a) (cond (ble 2 ((l.drop (0+(((wrap .i64 ((wrap .i64 (w - 0)) - 1)).toNat)*2))).length)) (Bm N (HM s (l.take (a*2)) a (m.take (b*2)) b (o.take (c*2)) c (r.take (d*2)) d (t.take (g*2)) g (u.take (i*2)) i (v.take (j*2)) j) true w ((l.drop (0+(((wrap .i64 ((wrap .i64 (w - 0)) - 1)).toNat)*2))).take 2) false fun ba bb=>cond (bb||false) none (A5 N (HM s (l.take (a*2)) a (m.take (b*2)) b (o.take (c*2)) c (r.take (d*2)) d (t.take (g*2)) g (u.take (i*2)) i (v.take (j*2)) j) true ba false ae fun bc bd=>q1 0 ae w bc bd ag ah ai)) none) none) (cond (af==1) (cond (Ab (wrap .i64 ((wrap .i64 (w - 1)) - 1)) b) (cond (ble 2 ((m.drop (0+(((wrap .i64 ((wrap .i64 (w - 1)) - 1)).toNat)*2))).length)) (Bm N (HM s (l.take (a*2)) a (m.take (b*2)) b (o.take (c*2)) c (r.take (d*2)) d (t.take (g*2)) g (u.take (i*2)) i (v.take (j*2)) j) true w ((m.drop (0+(((wrap .i64 ((wrap .i64 (w - 1)) - 1)).toNat)*2))).take 2) false fun be bf=>cond (bf||false) none (A5 N (HM s (l.take (a*2)) a (m.take (b*2)) b (o.take (c*2)) c (r.take (d*2)) d (t.take (g*2)) g (u.take (i*2)) i (v.take (j*2)) j) true be false ae fun bg bh=>q1 1 ae w bg bh ag ah ai)) none) none) (cond (af==2) (cond (Ab (wrap .i64 ((wrap .i64 (w - 2)) - 1)) c) (cond (ble 2 ((o.drop (0+(((wrap .i64 ((wrap .i64 (w - 2)) - 1)).toNat)*2))).length)) (Bm N (HM s (l.take (a*2)) a (m.take (b*2)) b (o.take (c*2)) c (r.take (d*2)) d (t.take (g*2)) g (u.take (i*2)) i (v.take (j*2)) j) true w ((o.drop (0+(((wrap .i64 ((wrap .i64 (w - 2)) - 1)).toNat)*2))).take 2) false fun bi bj=>cond (bj||false) none (A5 N (HM s (l.take (a*2)) a (m.take (b*2)) b (o.take (c*2)) c (r.take (d*2)) d (t.take (g*2)) g (u.take (i*2)) i (v.take (j*2)) j) true bi false ae fun bk bl=>q1 2 ae w bk bl ag ah ai)) none) none) (cond (af==3) (cond (Ab (wrap .i64 ((wrap .i64 (w - 3)) - 1)) d) (cond (ble 2 ((r.drop (0+(((wrap .i64 ((wrap .i64 (w - 3)) - 1)).toNat)*2))).length)) (Bm N (HM s (l.take (a*2)) a (m.take (b*2)) b (o.take (c*2)) c (r.take (d*2)) d (t.take (g*2)) g (u.take (i*2)) i (v.take (j*2)) j) true w ((r.drop (0+(((wrap .i64 ((wrap .i64 (w - 3)) - 1)).toNat)*2))).take 2) false fun bm bn=>cond (bn||false) none (A5 N (HM s (l.take (a*2)) a (m.take (b*2)) b (o.take (c*2)) c (r.take (d*2)) d (t.take (g*2)) g (u.take (i*2)) i (v.take (j*2)) j) true bm false ae fun bo bp=>q1 3 ae w bo bp ag ah ai)) none) none) (cond (af==4) (cond (Ab (wrap .i64 ((wrap .i64 (w - 4)) - 1)) g) (cond (ble 2 ((t.drop (0+(((wrap .i64 ((wrap .i64 (w - 4)) - 1)).toNat)*2))).length)) (Bm N (HM s (l.take (a*2)) a (m.take (b*2)) b (o.take (c*2)) c (r.take (d*2)) d (t.take (g*2)) g (u.take (i*2)) i (v.take (j*2)) j) true w ((t.drop (0+(((wrap .i64 ((wrap .i64 (w - 4)) - 1)).toNat)*2))).take 2) false fun bq br=>cond (br||false) none (A5 N (HM s (l.take (a*2)) a (m.take (b*2)) b (o.take (c*2)) c (r.take (d*2)) d (t.take (g*2)) g (u.take (i*2)) i (v.take (j*2)) j) true bq false ae fun bs bt=>q1 4 ae w bs bt ag ah ai)) none) none) (cond (af==5) (cond (Ab (wrap .i64 ((wrap .i64 (w - 5)) - 1)) i) (cond (ble 2 ((u.drop (0+(((wrap .i64 ((wrap .i64 (w - 5)) - 1)).toNat)*2))).length)) (Bm N (HM s (l.take (a*2)) a (m.take (b*2)) b (o.take (c*2)) c (r.take (d*2)) d (t.take (g*2)) g (u.take (i*2)) i (v.take (j*2)) j) true w ((u.drop (0+(((wrap .i64 ((wrap .i64 (w - 5)) - 1)).toNat)*2))).take 2) false fun bv bw=>cond (bw||false) none (A5 N (HM s (l.take (a*2)) a (m.take (b*2)) b (o.take (c*2)) c (r.take (d*2)) d (t.take (g*2)) g (u.take (i*2)) i (v.take (j*2)) j) true bv false ae fun bx bz=>q1 5 ae w bx bz ag ah ai)) none) none) (cond (af==6) (cond (Ab (wrap .i64 ((wrap .i64 (w - 6)) - 1)) j) (cond (ble 2 ((v.drop (0+(((wrap .i64 ((wrap .i64 (w - 6)) - 1)).toNat)*2))).length)) (Bm N (HM s (l.take (a*2)) a (m.take (b*2)) b (o.take (c*2)) c (r.take (d*2)) d (t.take (g*2)) g (u.take (i*2)) i (v.take (j*2)) j) true w ((v.drop (0+(((wrap .i64 ((wrap .i64 (w - 6)) - 1)).toNat)*2))).take 2) false fun ca cb=>cond (cb||false) none (A5 N (HM s (l.take (a*2)) a (m.take (b*2)) b (o.take (c*2)) c (r.take (d*2)) d (t.take (g*2)) g (u.take (i*2)) i (v.take (j*2)) j) true ca false ae fun cd ce=>q1 6 ae w cd ce ag ah ai)) none) none) none))))))) (Cm N (HM s (l.take (a*2)) a (m.take (b*2)) b (o.take (c*2)) c (r.take (d*2)) d (t.take (g*2)) g (u.take (i*2)) i (v.take (j*2)) j) true af fun cf=>cond cf (D1 N (HM s (l.take (a*2)) a (m.take (b*2)) b (o.take (c*2)) c (r.take (d*2)) d (t.take (g*2)) g (u.take (i*2)) i (v.take (j*2)) j) true fun cg=>Bm N (HM s (l.take (a*2)) a (m.take (b*2)) b (o.take (c*2)) c (r.take (d*2)) d (t.take (g*2)) g (u.take (i*2)) i (v.take (j*2)) j) true w cg false fun ch ci=>cond (ci||false) none (A5 N (HM s (l.take (a*2)) a (m.take (b*2)) b (o.take (c*2)) c (r.take (d*2)) d (t.take (g*2)) g (u.take (i*2)) i (v.take (j*2)) j) true ch false ae fun cj ck=>q1 af ae w cj ck ag ah ai)) (E1 N (HM s (l.take (a*2)) a (m.take (b*2)) b (o.take (c*2)) c (r.take (d*2)) d (t.take (g*2)) g (u.take (i*2)) i (v.take (j*2)) j) true w fun cl=>Lz N cl false fun cm=>cond (decide (cm>0)) (q1 af ae w 0 (Fg s.rs (wrap .i64 (s.sr - ae))) ag ah ai) (q1 af ae w 0 0 ag ah ai)))) (r0 a b c d g i j ag ah ai l m o r t u v))
def B8(r0:Nat->Nat->Nat->Nat->Nat->Nat->Nat->LA->LA->LA->LA->LA->LA->LA->LA->LA->LA->O R)(s:RB)(a b c d g i j x y z:Nat)(l m o r t u v aa ab ad:LA):Nat->Int->Int->Int->LA->LA->LA->O R
|0=>fun _ _ _ _ _ _=>none
|n+1=>Te N r0 s a b c d g i j x y z l m o r t u v aa ab ad (B8 r0 s a b c d g i j x y z l m o r t u v aa ab ad n) (F3 N (B8 r0 s a b c d g i j x y z l m o r t u v aa ab ad n) r0 s a b c d g i j x y z l m o r t u v aa ab ad)
def Kt(r0:Nat->Nat->Nat->Nat->Nat->Nat->Nat->LA->LA->LA->LA->LA->LA->LA->LA->LA->LA->O R)(q0:Nat->Nat->Nat->Nat->Nat->Nat->Nat->LA->LA->LA->LA->LA->LA->LA->Int->Int->Int->LA->LA->LA->O R)(ak al:Int)(x y z:Nat)(aa ab ad:LA)(s:RB):O R:=(Ih N ak al s fun cn co a b c d g i j l m o r t u v=>cond (!co) (r0 a b c d g i j aa ab ad l m o r t u v) (q0 a b c d g i j l m o r t u v ak cn al aa ab ad))
def Jf:=(Ak fun N ak al x y z aa ab ad s r0=>Kt (R:=R) N r0 (fun a b c d g i j l m o r t u v=>B8 N r0 s a b c d g i j x y z l m o r t u v aa ab ad N) ak al x y z aa ab ad s).1
def Tf(ak al x y z aa ab ad s r0):(@Jf R N ak al x y z aa ab ad s r0)=(Kt N r0 (fun a b c d g i j l m o r t u v=>B8 N r0 s a b c d g i j x y z l m o r t u v aa ab ad N) ak al x y z aa ab ad s):=by rw[Jf,(Ak _).2]
def Uu:Hints:={H:=hK 3 (hS (hP [0,1,2,8,10] (hK 1 (hS (hS (hK 1 (hJ [0,1,2,8,10,11,12] hL hL)) hL) hL))) hL),cob:=[6000037]}
def W0:Vc:=[AG N,Ww N,S7 N,Mv N,Tb N,Md N,Wg N,Cd N]
def Uv(F:KF R):=Mp Tryz.f87 Uu (W0 N) [100000,100001,100002,100003,100004,100005,100006,100007,100008,100009,100010,100011] N F
def F4(x y z:Nat)(s:RB)(F:KF R):Nat->Nat->Nat->Nat->Nat->Nat->Nat->LA->LA->LA->LA->LA->LA->LA->LA->LA->LA->O R:=fun cp cq cr cs ct cu cv cw cx cy cz da db dc dd de df=>F (.tup []) [(100000,bN 0 [.str s.nm,iv s.bu,iv s.mi,iv s.ma,.imm s.sc s.sn 2 s.st s.so,iv s.nl,iv s.ru,iv s.rd,iv s.sr,iv s.tr,iv s.ut,iv s.dt,iv s.sT,iv s.hc,iv s.cc,iv s.hh,iv s.rs,iv s.rp,.imm s.ac s.an 1 s.aq s.ao,iv s.us,iv s.uh,iv s.uo,iv s.hs,.imm s.ec s.en 3 s.et s.eo,.imm s.qc s.qn 3 s.qt s.qo,.imm s.pc s.pn 1 s.pt s.po,.imm s.vc s.vn 3 s.vt s.vo,Ahf 0 cp,Ahf 1 cq,Ahf 2 cr,Ahf 3 cs,Ahf 4 ct,Ahf 5 cu,Ahf 6 cv,.nsl,.nsl,.nsl,.nsl,.nsl,.nsl,.nsl,.nsl,.nsl,.nsl,.nsl,.nsl,.nsl,.nsl,.nsl,.nsl,.nsl]),(100001,bN 0 [.own 100009 0 x,.own 100010 0 y,.own 100011 0 z]),(100009,bQ 1 cw),(100010,bQ 3 cx),(100011,bQ 3 cy),(300000,bQ 2 cz),(300001,bQ 2 da),(300002,bQ 2 db),(300003,bQ 2 dc),(300004,bQ 2 dd),(300005,bQ 2 de),(300006,bQ 2 df)]
def MK(s:RB)(a b c d g i j x y z:Nat)(l m o r t u v aa ab ad:LA)(K:St->O R):=fun au av aj aw ax am ap ar=>K ⟨[(0,.optr 100000 0),(1,.optr 100001 0),(2,iv au),(8,iv av),(10,iv aj),(11,iv aw),(12,iv ax)],[(100000,bN 0 [.str s.nm,iv s.bu,iv s.mi,iv s.ma,.imm s.sc s.sn 2 s.st s.so,iv s.nl,iv s.ru,iv s.rd,iv s.sr,iv s.tr,iv s.ut,iv s.dt,iv s.sT,iv s.hc,iv s.cc,iv s.hh,iv s.rs,iv s.rp,.imm s.ac s.an 1 s.aq s.ao,iv s.us,iv s.uh,iv s.uo,iv s.hs,.imm s.ec s.en 3 s.et s.eo,.imm s.qc s.qn 3 s.qt s.qo,.imm s.pc s.pn 1 s.pt s.po,.imm s.vc s.vn 3 s.vt s.vo,Ahf 0 a,Ahf 1 b,Ahf 2 c,Ahf 3 d,Ahf 4 g,Ahf 5 i,Ahf 6 j,.nsl,.nsl,.nsl,.nsl,.nsl,.nsl,.nsl,.nsl,.nsl,.nsl,.nsl,.nsl,.nsl,.nsl,.nsl,.nsl,.nsl]),(100001,bN 0 [.own 100009 0 x,.own 100010 0 y,.own 100011 0 z]),(100009,bQ 1 am),(100010,bQ 3 ap),(100011,bQ 3 ar),(300000,bQ 2 l),(300001,bQ 2 m),(300002,bQ 2 o),(300003,bQ 2 r),(300004,bQ 2 t),(300005,bQ 2 u),(300006,bQ 2 v)]⟩
def Uw(s:RB)(a b c d g i j x y z:Nat)(l m o r t u v aa ab ad:LA)(K:St->O R):=fun af ae w ag ah ai=>K ⟨[(0,.optr 100000 0),(1,.optr 100001 0),(2,iv af),(8,iv ae),(10,iv w)],[(100000,bN 0 [.str s.nm,iv s.bu,iv s.mi,iv s.ma,.imm s.sc s.sn 2 s.st s.so,iv s.nl,iv s.ru,iv s.rd,iv s.sr,iv s.tr,iv s.ut,iv s.dt,iv s.sT,iv s.hc,iv s.cc,iv s.hh,iv s.rs,iv s.rp,.imm s.ac s.an 1 s.aq s.ao,iv s.us,iv s.uh,iv s.uo,iv s.hs,.imm s.ec s.en 3 s.et s.eo,.imm s.qc s.qn 3 s.qt s.qo,.imm s.pc s.pn 1 s.pt s.po,.imm s.vc s.vn 3 s.vt s.vo,Ahf 0 a,Ahf 1 b,Ahf 2 c,Ahf 3 d,Ahf 4 g,Ahf 5 i,Ahf 6 j,.nsl,.nsl,.nsl,.nsl,.nsl,.nsl,.nsl,.nsl,.nsl,.nsl,.nsl,.nsl,.nsl,.nsl,.nsl,.nsl,.nsl]),(100001,bN 0 [.own 100009 0 x,.own 100010 0 y,.own 100011 0 z]),(100009,bQ 1 ag),(100010,bQ 3 ah),(100011,bQ 3 ai),(300000,bQ 2 l),(300001,bQ 2 m),(300002,bQ 2 o),(300003,bQ 2 r),(300004,bQ 2 t),(300005,bQ 2 u),(300006,bQ 2 v)]⟩
def CZ Q0 (F:KF R) (s a b c d g i j x y z l m o r t u v aa ab ad):MK s a b c d g i j x y z l m o r t u v aa ab ad (Ba (Uv N F (pz 1392901) [Q0]))=(F3 N (Uw s a b c d g i j x y z l m o r t u v aa ab ad Q0) (F4 x y z s F) s a b c d g i j x y z l m o r t u v aa ab ad):=by kernel_rfl
def C_(F:KF R)(s a b c d g i j x y z l m o r t u v aa ab ad):∀ n,Uw s a b c d g i j x y z l m o r t u v aa ab ad (A3 (Uv N F (pz 340) []) n)=(B8 N (F4 x y z s F) s a b c d g i j x y z l m o r t u v aa ab ad n):=Mo fun n e=>(ZX (Te N (F4 x y z s F) s a b c d g i j x y z l m o r t u v aa ab ad) e ((jW ..).trans ((CZ ..).trans (m_ (F3 _ · _ _ _ _ _ _ _ _ _ _ _ _ _ _ _ _ _ _ _ _ _ _) e))):_)
def IV:RB×Nat×Nat×Nat×LA×LA×LA->Ap
|(s,x,y,z,aa,ab,ad)=>[(100000,xO (xA 100001 s)),(100001,⟨false,false,false,false,0,[.own 100009 0 x,.own 100010 0 y,.own 100011 0 z],false,none⟩),(100002,lO 2 s.ka),(100003,lO 2 s.kb),(100004,lO 2 s.kc),(100005,lO 2 s.kd),(100006,lO 2 s.ke),(100007,lO 2 s.kf),(100008,lO 2 s.kg),(100009,⟨false,false,true,false,1,aa,false,none⟩),(100010,⟨false,false,true,false,3,ab,false,none⟩),(100011,⟨false,false,true,false,3,ad,false,none⟩)]
def Mj:Ap->Option (RB×Nat×Nat×Nat×LA×LA×LA)
|dg::(100001,⟨false,false,false,false,0,[.own 100009 0 x,.own 100010 0 y,.own 100011 0 z],false,none⟩)::dh::di::dj::dk::dl::dm::dn::(100009,⟨false,false,true,false,1,aa,false,none⟩)::(100010,⟨false,false,true,false,3,ab,false,none⟩)::(100011,⟨false,false,true,false,3,ad,false,none⟩)::[]=>(xB 100000 100001 dg).bind fun s=>(kQ 100002 2 dh).bind fun dp=>(kQ 100003 2 di).bind fun dq=>(kQ 100004 2 dj).bind fun dr=>(kQ 100005 2 dk).bind fun ds=>(kQ 100006 2 dl).bind fun du=>(kQ 100007 2 dm).bind fun dv=>(kQ 100008 2 dn).bind fun dw=>some ({s with ka:=dp,kb:=dq,kc:=dr,kd:=ds,ke:=du,kf:=dv,kg:=dw},x,y,z,aa,ab,ad)
|_=>none
def IW{h:Ap}{p:RB×Nat×Nat×Nat×LA×LA×LA}(e:Mj h=some p):h=IV p:=by
 unfold Mj at e
 split at e
 ·obtain⟨s,q,f⟩:=ub e
  cases qH q
  obtain⟨_,q,e0⟩:=ub f
  cases Lp q
  obtain⟨_,q,e1⟩:=ub e0
  cases Lp q
  obtain⟨_,q,e2⟩:=ub e1
  cases Lp q
  obtain⟨_,q,e3⟩:=ub e2
  cases Lp q
  obtain⟨_,q,e4⟩:=ub e3
  cases Lp q
  obtain⟨_,q,e5⟩:=ub e4
  cases Lp q
  obtain⟨_,q,e6⟩:=ub e5
  cases Lp q
  cases e6;rfl
 ·cases e
def PL:=Dm N 87 (W0 N) Uu (xS Mj fun
|[.optr 100000 0,.optr 100001 0,.int .i64 ak,.int .i64 al],p=>some fun _ k=>Jf N ak al p.2.1 p.2.2.1 p.2.2.2.1 p.2.2.2.2.1 p.2.2.2.2.2.1 p.2.2.2.2.2.2 p.1 (F4 p.2.1 p.2.2.1 p.2.2.2.1 p.1 k)
| _,_=>none) (y5 IW fun _ p=>by obtain⟨s,x,y,z,aa,ab,ad⟩:=p;split;rename_i ak al;intro R F;exact(Dw (Kt N (F4 x y z s F) · ak al x y z aa ab ad s) (kP fun a b=>vM fun c d g i j l=>vM fun m o r t u v=>(lW ..).trans (C_ ..)):_).trans (Tf ..).symm;trivial)
def PM(r0:LA->LA->Int->O R)(a c d:Int)(h:LA)(e:Nat)(m i:Bool)(j:LA)(f:Nat)(n l b:Bool)(g:LA):O R:=(cond (ble 22 g.length) (Ql N (g.take 22) b a h e false i j f false l fun t u v w x y z aa ab ac ad ae af ag ah ai aj ak al am an ao ap aq ar au av aw ax ay az ba bb bc bd be bf=>Is N c d (RB.mk t u v w x y false b z aa ab ac ad ae af ag ah ai aj ak al am an false b ao ap aq a h e false i j f false l ar au false av aw ax false ay 0 0 0 0 0 0 0 az ba bb bc bd be bf) fun o bg bh bi bj bk bl bm bn bo bp bq br bs bt bu bv=>cond ((beq 0 0)&&((beq o.length 3)&&(beq 3 3))) (cond (!bh) (r0 [.nsl,.nsl,.nsl] [.bool false,.nsl,.nsl] 7) (MJ N a fun p q r bw bx bz=>Jf N c d p q r bw bx bz (RB.mk t u v w x y false b z aa ab ac ad ae af ag ah ai aj ak al am an false b ao ap aq a h e false i j f false l ar au false av aw ax false ay bi bj bk bl bm bn bo bp bq br bs bt bu bv) fun ch ci cj ck cl cm cn ca cb cc co cp cq cr cs ct cu=>cond (ble 3 o.length) (Qd N (o.take 3) bg fun s=>cond ((beq 0 0)&&((beq s.length 3)&&(beq 3 3))) (cond (ble 3 s.length) (r0 [.imm (ca.take (p*1)) p 1 false false,.imm (cb.take (q*3)) q 3 false false,.imm (cc.take (r*3)) r 3 false false] (s.take 3) 0) none) none) none)) none) none)
def IX(N:Nat)(r0:LA->LA->Int->O R)(a c d:Int)(h:LA)(e:Nat)(m i:Bool)(j:LA)(f:Nat)(n l b:Bool)(g:LA)(q1:O R):O R:=(cond ((decide (c<0))==false) (cond ((cond false true (decide (c>d)))==false) (cond (cond false true (decide (d>=a))) (r0 [.nsl,.nsl,.nsl] [.bool false,.nsl,.nsl] 3) q1) (r0 [.nsl,.nsl,.nsl] [.bool false,.nsl,.nsl] 3)) (r0 [.nsl,.nsl,.nsl] [.bool false,.nsl,.nsl] 3))
def EN(r0:LA->LA->Int->O R)(a c d:Int)(h:LA)(e:Nat)(m i:Bool)(j:LA)(f:Nat)(n l b:Bool)(g:LA):O R:=IX N r0 a c d h e m i j f n l b g (PM N r0 a c d h e m i j f n l b g)
def UH(r0:LA->LA->Int->O R)(q0:O R)(g:LA)(b:Bool)(a c d:Int)(h:LA)(e:Nat)(m i:Bool)(j:LA)(f:Nat)(n l:Bool):O R:=(cond (ble 22 g.length) (CS N (g.take 22) b a fun cd=>cond (!cd) (r0 [.nsl,.nsl,.nsl] [.bool false,.nsl,.nsl] 1) (cond (((e:Int) != a)==false) (cond (cond false true ((f:Int) != a)) (r0 [.nsl,.nsl,.nsl] [.bool false,.nsl,.nsl] 4) q0) (r0 [.nsl,.nsl,.nsl] [.bool false,.nsl,.nsl] 4))) none)
def YI:=(Ak fun N g b a c d h e m i j f n l r0=>UH (R:=R) N r0 (EN N r0 a c d h e m i j f n l b g) g b a c d h e m i j f n l).1
def YJ(g b a c d h e m i j f n l r0):(@YI R N g b a c d h e m i j f n l r0)=(UH N r0 (EN N r0 a c d h e m i j f n l b g) g b a c d h e m i j f n l):=by rw[YI,(Ak _).2]
def dB:Hints:={H:=hK 2 (hJ [1,2,3,4,5,6,12,13] hL (hJ [1,2,3,4,5,6,12,13] hL hL)),modes:=[(3,0),(3,0),(0,0)]}
def jl:Vc:=[l7 N,YA N,FF N,o4 N,PL N,OV N]
def dC(F:KF R):=Mp Tryz.f36 dB (jl N) [] N F
def W1(F:KF R):LA->LA->Int->O R:=fun ce cf cg=>F (.tup [.pagg ce false,.pagg cf false,iv cg]) []
def o5(a c d:Int)(h:LA)(e:Nat)(m i:Bool)(j:LA)(f:Nat)(n l b:Bool)(g:LA)(K:St->O R):=K ⟨[(1,iv a),(2,iv c),(3,iv d),(4,.imm h e 3 m i),(5,.imm j f 3 n l),(6,op 0),(12,op 1),(13,op 2)],hq [bP b 0 g,bN 0 [.nsl,.nsl,.nsl],bN 0 [.bool false,.nsl,.nsl]]⟩
def o6(a c d:Int)(h:LA)(e:Nat)(m i:Bool)(j:LA)(f:Nat)(n l b:Bool)(g:LA)(K:St->O R):=K ⟨[(1,iv a),(2,iv c),(3,iv d),(4,.imm h e 3 m i),(5,.imm j f 3 n l),(6,op 0),(12,op 1),(13,op 2)],hq [bP b 0 g,bN 0 [.nsl,.nsl,.nsl],bN 0 [.bool false,.nsl,.nsl]]⟩
def gR(F:KF R)(a c d h e m i j f n l b g):o5 a c d h e m i j f n l b g (Ba (dC N F (pz 341) []))=(PM N (W1 F) a c d h e m i j f n l b g):=by kernel_rfl
def gS(F:KF R)(a c d h e m i j f n l b g):o6 a c d h e m i j f n l b g (Ba (dC N F (pz 85) []))=(EN N (W1 F) a c d h e m i j f n l b g):=(Dw (IX N (W1 F) a c d h e m i j f n l b g) ((jW ..).trans (gR ..)):_)
def q_:=Dm N 36 (jl N) dB (fun
|[.pagg g b,.int .i64 a,.int .i64 c,.int .i64 d,.imm h e 3 m i,.imm j f 3 n l],[]=>some fun _ k=>YI N g b a c d h e m i j f n l (W1 k)
| _,_=>none) fun _ _=>by split;intro R F;exact(Dw (UH N (W1 F) · _ _ _ _ _ _ _ _ _ _ _ _ _) ((jW ..).trans (gS ..)):_).trans (YJ ..).symm;trivial
def gT(N:Nat)(a b c:Int)(r0:Bool->O R):O R:=(cond ((decide (a>=b))==true) (r0 (cond true (decide (a<=c)) false)) (r0 false))
def Hk:=(Ak (@gT R)).1
def YK:@Hk R=@gT R:=(Ak _).2
def jm:=Dm N 57 [] G4 (fun
|[.int .i64 a,.int .i64 b,.int .i64 c],[]=>some fun _ k=>Hk N a b c (C1 k)
| _,_=>none) fun _ _=>by split;intro R F;dsimp only;rw[YK];kernel_rfl;trivial
def Qo(N:Nat)(r0:Bool->O R)(b:Bool)(a:LA):O R:=(Am .i64 (a.drop 19) fun c=>cond ((c != 0)==true) (Am .i64 (a.drop 19) fun d=>cond ((cond true (d != 1) false)==true) (Am .i64 (a.drop 19) fun e=>cond ((cond true (e != 2) false)==false) (Am .i64 (a.drop 20) fun f=>cond ((cond false true (decide (f<1)))==false) (Am .i64 (a.drop 20) fun g=>cond (cond false true (decide (g>48))) (r0 false) (Am .i64 (a.drop 19) fun h=>cond ((h != 1)==false) (Am .i64 (a.drop 20) fun i=>Am .i64 (a.drop 12) fun j=>r0 (cond false true (decide (i<=j)))) (r0 true))) (r0 false)) (r0 false)) (Am .i64 (a.drop 20) fun l=>cond ((cond false true (decide (l<1)))==false) (Am .i64 (a.drop 20) fun m=>cond (cond false true (decide (m>48))) (r0 false) (Am .i64 (a.drop 19) fun n=>cond ((n != 1)==false) (Am .i64 (a.drop 20) fun o=>Am .i64 (a.drop 12) fun p=>r0 (cond false true (decide (o<=p)))) (r0 true))) (r0 false))) (Am .i64 (a.drop 20) fun q=>cond ((cond false true (decide (q<1)))==false) (Am .i64 (a.drop 20) fun r=>cond (cond false true (decide (r>48))) (r0 false) (Am .i64 (a.drop 19) fun s=>cond ((s != 1)==false) (Am .i64 (a.drop 20) fun t=>Am .i64 (a.drop 12) fun u=>r0 (cond false true (decide (t<=u)))) (r0 true))) (r0 false)))
def Yw(N:Nat)(r0:Bool->O R)(q0:O R)(a:LA)(b:Bool):O R:=(Am .i64 (a.drop 10) fun v=>cond ((decide (v<0))==false) (Am .i64 (a.drop 10) fun w=>cond ((cond false true (decide (w>24)))==false) (Am .i64 (a.drop 11) fun x=>cond ((cond false true (decide (x<0)))==false) (Am .i64 (a.drop 11) fun y=>cond ((cond false true (decide (y>24)))==false) (Am .i64 (a.drop 12) fun z=>cond ((cond false true (decide (z<0)))==false) (Am .i64 (a.drop 12) fun aa=>cond ((cond false true (decide (aa>24)))==false) (Am .i64 (a.drop 15) fun ab=>cond ((cond false true (decide (ab<0)))==false) (Am .i64 (a.drop 15) fun ac=>cond (cond false true (decide (ac>24))) (r0 false) q0) (r0 false)) (r0 false)) (r0 false)) (r0 false)) (r0 false)) (r0 false)) (r0 false))
def W3:=(Ak fun N a b r0=>Yw (R:=R) N r0 (Qo N r0 b a) a b).1
def GM(a b r0):(@W3 R N a b r0)=(Yw N r0 (Qo N r0 b a) a b):=by rw[W3,(Ak _).2]
def ML:Hints:={H:=hK 1 (hJ [1] hL hL)}
def gU(F:KF R):=Mp Tryz.f58 ML [] [] N F
def gV(b:Bool)(a:LA)(K:St->O R):=K ⟨[(1,op 0)],hq [bP b 0 a]⟩
def TH(F:KF R)(b a):gV b a (Ba (gU N F (pz 21) []))=(Qo N (C1 F) b a):=by kernel_rfl
def jn:=Dm N 58 [] ML (fun
|[.pagg a b],[]=>some fun _ k=>W3 N a b (C1 k)
| _,_=>none) fun _ _=>by split;intro R F;exact(Dw (Yw N (C1 F) · _ _) ((jW ..).trans (TH ..)):_).trans (GM ..).symm;trivial
def J5(r0:Bool->O R)(b:Bool)(a:LA)(k0:Int->Int->O R)(f c:Int):O R:=(D6 2 (a.drop 4) fun z g=>cond (decide (c<(g:Int))) (D6 2 (a.drop 4) fun d h=>cond (Ab c h) (cond (ble 2 ((d.drop (c.toNat*2)).length)) (cond ((!b)||(Bs ((d.drop (c.toNat*2)).take 2))) (cond ((beq (((d.drop (c.toNat*2)).take 2).length) 2)&&((ble 2 2)&&(!false))) (Am .i64 (setCells [Ahg,Ahg] 0 ((d.drop (c.toNat*2)).take 2)) fun i=>Hk N i 1 1048576 fun j=>cond ((!j)==false) (Am .i64 ((setCells [Ahg,Ahg] 0 ((d.drop (c.toNat*2)).take 2)).drop 1) fun l=>Hk N l (-1048576) 1048576 fun m=>cond ((cond false true (!m))==false) (cond ((decide (c>0))==true) (Am .i64 ((setCells [Ahg,Ahg] 0 ((d.drop (c.toNat*2)).take 2)).drop 1) fun o=>D6 2 (a.drop 4) fun p q=>cond (Ab (wrap .i64 (c - 1)) q) (Am .i64 ((p.drop (((wrap .i64 (c - 1)).toNat)*2)).drop 1) fun r=>cond ((cond false true (cond true (decide (o<r)) false))==false) (Am .i64 (setCells [Ahg,Ahg] 0 ((d.drop (c.toNat*2)).take 2)) fun s=>cond (cond false true (decide (s>f))) (r0 false) (Am .i64 (setCells [Ahg,Ahg] 0 ((d.drop (c.toNat*2)).take 2)) fun t=>k0 (wrap .i64 (f - t)) (wrap .i64 (c+1)))) (r0 false)) none) (Am .i64 (setCells [Ahg,Ahg] 0 ((d.drop (c.toNat*2)).take 2)) fun u=>cond (cond false true (decide (u>f))) (r0 false) (Am .i64 (setCells [Ahg,Ahg] 0 ((d.drop (c.toNat*2)).take 2)) fun v=>k0 (wrap .i64 (f - v)) (wrap .i64 (c+1))))) (r0 false)) (r0 false)) none) none) none) none) (r0 (f==0)))
def Dr(r0:Bool->O R)(b:Bool)(a:LA):Nat->Int->Int->O R
|0=>fun _ _=>none
|n+1=>J5 N r0 b a (Dr r0 b a n)
def Oa(N:Nat)(r0:Bool->O R)(q0:Int->Int->O R)(a:LA)(b:Bool):O R:=(D6 2 (a.drop 4) fun aa w=>cond (decide ((w:Int)>8)) (r0 false) (Am .i64 (a.drop 3) fun x=>Am .i64 (a.drop 2) fun y=>q0 (wrap .i64 (x - y)) 0))
def Mk:=(Ak fun N a b r0=>Oa (R:=R) N r0 (Dr N r0 b a N) a b).1
def W4(a b r0):(@Mk R N a b r0)=(Oa N r0 (Dr N r0 b a N) a b):=by rw[Mk,(Ak _).2]
def AH:Hints:={H:=hK 3 (hS (hK 1 (hS (hP [1,3,4] hL) hL)) hL)}
def DA:Vc:=[jm N]
def TI(F:KF R):=Mp Tryz.f59 AH (DA N) [] N F
def TJ(b:Bool)(a:LA)(K:St->O R):=fun f c=>K ⟨[(1,op 0),(3,iv f),(4,iv c)],hq [bP b 0 a]⟩
def IY(F:KF R)(b a):∀ n,TJ b a (A3 (TI N F (pz 5444) []) n)=(Dr N (C1 F) b a n):=Mo fun n e=>(Dw (J5 N (C1 F) b a) e:_)
def YL:=Dm N 59 (DA N) AH (fun
|[.pagg a b],[]=>some fun _ k=>Mk N a b (C1 k)
| _,_=>none) fun _ _=>by split;intro R F;exact(Dw (Oa N (C1 F) · _ _) ((lW ..).trans (IY ..)):_).trans (W4 ..).symm;trivial
end
end Gx
namespace Gx
open Go Go.Proofs
inductive Sl(α:Type)where
|nil
|of (l:List α) (t o:Bool)
def Sl.l{α:Type}:Sl α->List α
|.nil=>[]
|.of l _ _=>l
def Sl.av{α:Type}(sz:Nat)(e:α->LA):Sl α->AV
|.nil=>.nsl
|.of l t o=>.imm (l.flatMap e) l.length sz t o
def qe(n:Int):LA:=[.int .i64 n]
def Ao(l:List Int):LA:=l.map fun n=>.int .i64 n
def Rc:∀ l:List Int,l.flatMap qe=Ao l
|[]=>rfl
|a::r=>by rw[Aad,Rc r];rfl
structure SegD where
 width:Int
 price:Int
structure UnitD where
 name:List UInt8
 bus:Int
 min:Int
 max:Int
 segs:Sl SegD
 noLoad:Int
 rampUp:Int
 rampDown:Int
 startRamp:Int
 stopRamp:Int
 upTime:Int
 downTime:Int
 startTime:Int
 hotCost:Int
 coldCost:Int
 hotHours:Int
 reserve:Int
 reservePrice:Int
 away:Sl Int
 state:Int
 hours:Int
 output:Int
def SegD.av(s:SegD):LA:=[.int .i64 s.width,.int .i64 s.price]
def UnitD.av(u:UnitD):LA:=[.str u.name,.int .i64 u.bus,.int .i64 u.min,.int .i64 u.max,u.segs.av 2 SegD.av,.int .i64 u.noLoad,.int .i64 u.rampUp,.int .i64 u.rampDown,.int .i64 u.startRamp,.int .i64 u.stopRamp,.int .i64 u.upTime,.int .i64 u.downTime,.int .i64 u.startTime,.int .i64 u.hotCost,.int .i64 u.coldCost,.int .i64 u.hotHours,.int .i64 u.reserve,.int .i64 u.reservePrice,u.away.av 1 qe,.int .i64 u.state,.int .i64 u.hours,.int .i64 u.output]
section
variable{R:Type}
def qf{α:Type}{sz:Nat}{e:α->LA}{s:Sl α}{r:LA}{f:LA->Nat->O R}:D6 sz (s.av sz e::r) f=f (s.l.flatMap e) s.l.length:=by cases s<;>simp[D6,Sl.av,Sl.l,pR]
def PN{α:Type}{e:α->LA}{sz:Nat}(k:∀ a,(e a).length=sz):∀(l:List α)(j:Nat)(h:j<l.length),drop (j*sz) (l.flatMap e)=e l[j]++(l.drop (j+1)).flatMap e
|a::r,0,_=>by simp
|a::r,j+1,h=>by
  have:=PN k r j (by simpa using h)
  rw[Aad,List.drop_append,k,show(j+1)*sz - sz=j*sz by rw[zS];omega,Aaa (by rw[k,zS];omega)]
  simpa using this
def qg{l:List Int}{i:Nat}(h:i<l.length){f:Int->O R}:Am .i64 (drop i (Ao l)) f=f l[i]:=by rw[Ao,Aar (by simpa using h)];simp[Az]
def Dh{l:List Int}{i:Nat}(h:i<l.length){f:Int->O R}:Am .i64 (drop ((Int.toNat (i:Int))*1) (Ao l)) f=f l[i]:=by rw[zG,zY,qg h]
def DB{α:Type}{l:List α}{j:Nat}(h:j<l.length):l.drop j=l[j]::l.drop (j+1):=Aar h
def GN{α:Type}{l:List α}{j:Nat}(h:l.length<=j):l.drop j=[]:=Aaa h
def cK{α:Type}(K:α->O R)(c:Bool)(a b:α):cond c (K a) (K b)=K (cond c a b):=by cases c<;>rfl
def YM(u:UnitD):take 22 u.av=u.av:=rfl
def jo(u:UnitD):ble 22 (List.length u.av)=true:=rfl
def u2{u:UnitD}{f:Int->O R}:Am .i64 (drop 2 u.av) f=f u.min:=Az
def u3{u:UnitD}{f:Int->O R}:Am .i64 (drop 3 u.av) f=f u.max:=Az
def u5{u:UnitD}{f:Int->O R}:Am .i64 (drop 5 u.av) f=f u.noLoad:=Az
def u6{u:UnitD}{f:Int->O R}:Am .i64 (drop 6 u.av) f=f u.rampUp:=Az
def u7{u:UnitD}{f:Int->O R}:Am .i64 (drop 7 u.av) f=f u.rampDown:=Az
def u8{u:UnitD}{f:Int->O R}:Am .i64 (drop 8 u.av) f=f u.startRamp:=Az
def u9{u:UnitD}{f:Int->O R}:Am .i64 (drop 9 u.av) f=f u.stopRamp:=Az
def xd{u:UnitD}{f:Int->O R}:Am .i64 (drop 10 u.av) f=f u.upTime:=Az
def xe{u:UnitD}{f:Int->O R}:Am .i64 (drop 11 u.av) f=f u.downTime:=Az
def xF{u:UnitD}{f:Int->O R}:Am .i64 (drop 12 u.av) f=f u.startTime:=Az
def xh{u:UnitD}{f:Int->O R}:Am .i64 (drop 13 u.av) f=f u.hotCost:=Az
def xi{u:UnitD}{f:Int->O R}:Am .i64 (drop 14 u.av) f=f u.coldCost:=Az
def xj{u:UnitD}{f:Int->O R}:Am .i64 (drop 15 u.av) f=f u.hotHours:=Az
def vN{u:UnitD}{f:Int->O R}:Am .i64 (drop 16 u.av) f=f u.reserve:=Az
def xk{u:UnitD}{f:Int->O R}:Am .i64 (drop 17 u.av) f=f u.reservePrice:=Az
def tI{u:UnitD}{f:Int->O R}:Am .i64 (drop 19 u.av) f=f u.state:=Az
def xm{u:UnitD}{f:Int->O R}:Am .i64 (drop 20 u.av) f=f u.hours:=Az
def vO{u:UnitD}{f:Int->O R}:Am .i64 (drop 21 u.av) f=f u.output:=Az
def u4{u:UnitD}{f:LA->Nat->O R}:D6 2 (drop 4 u.av) f=f (u.segs.l.flatMap SegD.av) u.segs.l.length:=qf
def uP{u:UnitD}{f:LA->Nat->O R}:D6 1 (drop 18 u.av) f=f (Ao u.away.l) u.away.l.length:=by rw[<-Rc];exact qf
def Gq(lo hi x:Int):Bool:=decide (lo<=x)&&decide (x<=hi)
def MM{N:Nat}{b c:Int}{e f:Bool}{K:Bool->O R}(l:List Int)(hs:l.length<=1000000000000):∀(m j k:Nat),j+m=l.length->m<k ->
  Gd N K b c (Ao l) l.length e f k (l.length:Int) (j:Int)=K ((l.drop j).all (Gq b c))
|0,j,k+1,C,_=>by
  rw[Gd];unfold Lx
  rw[Wc (by omega),cf,GN (by omega),List.all_nil]
|m+1,j,k+1,C,D=>by
  rw[Gd];unfold Lx
  have h:j<l.length:=by omega
  rw[T6 h,ct,Aa h,ct,Dh h,wS (by omega),MM l hs m (j+1) k (by omega) (by omega),DB h,Ad5]
  simp only[cK];congr 1
  generalize (drop (j+1) l).all (Gq b c)=t
  rw[Aa1];cases t<;>simp[Gq]<;>omega
def Qp{N:Nat}{b c:Int}{e f:Bool}{K:Bool->O R}(l:List Int)(n:Nat)(k:n=l.length)(hN:l.length<N)(hs:l.length<=1000000000000):Ck N b c (Ao l) n e f K=K (l.all (Gq b c)):=by
 subst k
 rw[CC];unfold T7
 have:=MM (N:=N) (b:=b) (c:=c) (e:=e) (f:=f) (K:=K) l hs l.length 0 N (by omega) hN
 simpa using this
def EO{N:Nat}{a b c:Int}{K:Bool->O R}:Hk N a b c K=K (Gq b c a):=by
 rw[YK];unfold gT
 simp only[cK];congr 1
 rw[Aa1];simp[Gq]
def IZ(u:UnitD):Bool:=Gq 0 24 u.upTime&&(Gq 0 24 u.downTime&&(Gq 0 24 u.startTime&&(Gq 0 24 u.hotHours&&((u.state==0||(u.state==1||u.state==2))&&(Gq 1 48 u.hours&&(!(u.state==1)||decide (u.hours<=u.startTime)))))))
def PO{N:Nat}{u:UnitD}{b:Bool}{K:Bool->O R}:Uc N K b u.av=K (Gq 1 48 u.hours&&(!(u.state==1)||decide (u.hours<=u.startTime))):=by
 unfold Uc
 simp only[xm,tI,xF,cK];congr 1
 rw[Aa1];simp[Gq];omega
def PP{N n:Nat}{u:UnitD}{d e f g:Int}{b:Bool}{K:Bool->O R}:La N K d e f g b u.av (n+5) 0 =
  K (Gq 0 24 d&&(Gq 0 24 e&&(Gq 0 24 f&&(Gq 0 24 g&&((u.state==0||(u.state==1||u.state==2))&&(Gq 1 48 u.hours&&(!(u.state==1)||decide (u.hours<=u.startTime)))))))):=by
 have a1:wrap .i64 ((0:Int)+1)=1:=by decide
 have a2:wrap .i64 ((1:Int)+1)=2:=by decide
 have a3:wrap .i64 ((2:Int)+1)=3:=by decide
 have a4:wrap .i64 ((3:Int)+1)=4:=by decide
 simp only[La,Yh,PO,a1,a2,a3,a4,tI]
 simp[Ab,cK];congr 1
 generalize (decide (u.hours<=u.startTime))=t
 generalize Gq 1 48 u.hours=s
 by_cases k:u.state=0<;>by_cases C:u.state=1<;>by_cases D:u.state=2<;>first|omega|skip
 all_goals (rw[Aa1];cases s<;>cases t<;>simp[Gq,k,C,D]<;>omega)
def aY{N:Nat}{u:UnitD}{b:Bool}{K:Bool->O R}(hN:64<=N):CO N u.av b K=K (IZ u):=by
 rw[LJ];unfold EK
 obtain⟨n,rfl⟩:∃ n,N=n+5:=⟨N - 5,by omega⟩
 simp only[xd,xe,xF,xj,PP];rfl
end
end Gx
namespace Gx
open Go Go.Proofs
section
variable{R:Type}
def YN{N:Nat}{u:UnitD}{b:Bool}{K:Bool->O R}:W3 N u.av b K=K (IZ u):=by
 rw[GM];unfold Yw Qo
 simp only[xd,xe,xF,xj,tI,xm]
 simp[cK];congr 1
 unfold IZ
 by_cases k:u.state=0<;>by_cases C:u.state=1<;>by_cases D:u.state=2<;>first|omega|skip
 all_goals (rw[Aa1];simp[Gq,k,C,D]<;>omega)
def ve{N:Nat}{b c x:Int}{e f:Bool}{K:Bool->O R}(hN:64<=N):Ck N b c [.int .i64 x] 1 e f K=K (Gq b c x):=by
 have:=Qp (N:=N) (b:=b) (c:=c) (e:=e) (f:=f) (K:=K) [x] 1 rfl (by simp;omega) (by simp)
 simpa[Ao]using this
def yh{N:Nat}{b c x y:Int}{e f:Bool}{K:Bool->O R}(hN:64<=N):Ck N b c [.int .i64 x,.int .i64 y] 2 e f K=K (Gq b c x&&Gq b c y):=by
 have:=Qp (N:=N) (b:=b) (c:=c) (e:=e) (f:=f) (K:=K) [x,y] 2 rfl (by simp;omega) (by simp)
 simpa[Ao]using this
def yi{N:Nat}{b c x y z w:Int}{e f:Bool}{K:Bool->O R}(hN:64<=N):Ck N b c [.int .i64 x,.int .i64 y,.int .i64 z,.int .i64 w] 4 e f K=K (Gq b c x&&(Gq b c y&&(Gq b c z&&Gq b c w))):=by
 have:=Qp (N:=N) (b:=b) (c:=c) (e:=e) (f:=f) (K:=K) [x,y,z,w] 4 rfl (by simp;omega) (by simp)
 simpa[Ao]using this
def yj{N:Nat}{b c x y z w v:Int}{e f:Bool}{K:Bool->O R}(hN:64<=N):Ck N b c [.int .i64 x,.int .i64 y,.int .i64 z,.int .i64 w,.int .i64 v] 5 e f K=K (Gq b c x&&(Gq b c y&&(Gq b c z&&(Gq b c w&&Gq b c v)))):=by
 have:=Qp (N:=N) (b:=b) (c:=c) (e:=e) (f:=f) (K:=K) [x,y,z,w,v] 5 rfl (by simp;omega) (by simp)
 simpa[Ao]using this
def F5(p:Int):List SegD->Bool
|[]=>true
|s::r=>Gq 1 1048576 s.width&&(Gq (-1048576) 1048576 s.price&&(decide (p<=s.price)&&F5 s.price r))
def H2:List SegD->Int
|[]=>0
|s::r=>s.width+H2 r
def SA(l:List SegD):Nat->Int
|0=>-1048576
|j+1=>((l[j]?).map (·.price)).getD 0
def Yx{l:List SegD}{j:Nat}(h:j<l.length):SA l (j+1)=l[j].price:=by simp[SA,h]
def YO{l:List SegD}{j:Nat}(h:j<l.length):drop ((Int.toNat (j:Int))*2) (l.flatMap SegD.av)=(.int .i64 l[j].width)::(.int .i64 l[j].price)::(l.drop (j+1)).flatMap SegD.av:=by rw[zG,PN (e:=SegD.av) (sz:=2) (fun _=>rfl) _ _ h];rfl
def YP{x y:Int}{f:Int->O R}:Am .i64 (setCells [Ahg,Ahg] 0 [.int .i64 x,.int .i64 y]) f=f x:=rfl
def UI{x y:Int}{f:Int->O R}:Am .i64 (drop 1 (setCells [Ahg,Ahg] 0 [.int .i64 x,.int .i64 y])) f=f y:=rfl
def SB:∀{l:List SegD}{p:Int},F5 p l=true->0<=H2 l
|[],_,_=>by simp[H2]
|s::r,p,h=>by
  simp[F5,Gq]at h
  have:=SB h.2.2.2
  simp[H2];omega
def mj{N:Nat}{u:UnitD}{b:Bool}{K:Bool->O R}(hN:64<=N)(I:0<=u.min/\u.min<=1048576)(L:0<=u.max/\u.max<=1048576)(T:u.segs.l.length<=8):∀(m j k:Nat)(g:Int),j+m=u.segs.l.length->m<k->(0<=g/\g<=1048576*(j:Int)) ->
  B0 N K (u.segs.l.flatMap SegD.av) u.segs.l.length b u.av k g (u.segs.l.length:Int) (j:Int)=K (F5 (SA u.segs.l j) (u.segs.l.drop j)&&(g+H2 (u.segs.l.drop j)==u.max - u.min))
|0,j,k+1,g,Y,_,_=>by
  rw[B0];unfold Fz
  rw[Wc (by omega),cf,u3,u2,i64 (by omega),GN (l:=u.segs.l) (by omega)]
  simp[F5,H2]
| m+1,j,k+1,g,Y,hf,hg=>by
  rw[B0];unfold Fz
  have h:j<u.segs.l.length:=by omega
  rw[T6 h,ct,Aa h,ct,YO h]
  have p0:take 2 ((AV.int .i64 u.segs.l[j].width)::(AV.int .i64 u.segs.l[j].price)::(u.segs.l.drop (j+1)).flatMap SegD.av)=[.int .i64 u.segs.l[j].width,.int .i64 u.segs.l[j].price]:=rfl
  rw[p0,show ble 2 (List.length ((AV.int .i64 u.segs.l[j].width)::(AV.int .i64 u.segs.l[j].price)::(u.segs.l.drop (j+1)).flatMap SegD.av))=true by simp,ct]
  rw[show((!b)||Bs [AV.int .i64 u.segs.l[j].width,.int .i64 u.segs.l[j].price])=true by cases b<;>rfl,ct]
  rw[show((beq (List.length [AV.int .i64 u.segs.l[j].width,.int .i64 u.segs.l[j].price]) 2)&&((ble 2 2)&&(!false)))=true from rfl,ct,YP,UI,ve hN]
  simp only[ve hN]
  rw[DB h,F5,H2]
  cases hw:Gq 1 1048576 u.segs.l[j].width with
  |false=>simp
  | true =>
   cases G:Gq (-1048576) 1048576 u.segs.l[j].price with
   |false=>simp
   | true =>
    simp only[Gq,zJ,decide_eq_true_eq]at hw G
    have step:=mj (b:=b) (K:=K) hN I L T m (j+1) k (g+u.segs.l[j].width) (by omega) (by omega) (by omega)
    rw[Yx h]at step
    have e1:wrap .i64 (g+u.segs.l[j].width)=g+u.segs.l[j].width:=i64 (by omega)
    have e2:wrap .i64 ((j:Int)+1)=((j+1:Nat):Int):=wS (by omega)
    unfold Gn
    simp only[u4,UI,YP,e1,e2,step]
    rcases j with _|j
    ·simp[SA,G.1,Int.add_assoc]
    ·have C:j<u.segs.l.length:=by omega
     rw[wP (by omega),Aa C,ct,YO C,lT,ct]
     rw[show ∀ r:LA,drop 1 ((AV.int .i64 u.segs.l[j].width)::(AV.int .i64 u.segs.l[j].price)::r)=(AV.int .i64 u.segs.l[j].price)::r from fun _=>rfl,Az,Yx C]
     simp only[Ac7,beq_self_eq_true,cK,Int.add_assoc,Bool.true_and]
     simp only[cond_true,cond_false]
     congr 1
     by_cases D:u.segs.l[j+1].price<u.segs.l[j].price
     ·simp[D,show ¬ u.segs.l[j].price<=u.segs.l[j+1].price by omega]
     ·simp[D,show u.segs.l[j].price<=u.segs.l[j+1].price by omega]
def SC(u:UnitD):Bool:=decide (u.segs.l.length<=8)&&(F5 (-1048576) u.segs.l&&(H2 u.segs.l==u.max - u.min))
def sR{N:Nat}{u:UnitD}{b:Bool}{K:Bool->O R}(hN:64<=N)(C:0<=u.min/\u.min<=1048576)(D:0<=u.max/\u.max<=1048576):Fc N u.av b K=K (SC u):=by
 rw[Oh];unfold Io
 rw[u4]
 by_cases k:u.segs.l.length<=8
 ·rw[show decide ((u.segs.l.length:Int)>8)=false by simp;omega,cf,u4]
  have:=mj (b:=b) (K:=K) hN C D k u.segs.l.length 0 N 0 (by omega) (by omega) (by omega)
  simpa[SC,k,SA]using this
 ·rw[show decide ((u.segs.l.length:Int)>8)=true by simp;omega,ct]
  simp[SC,k]
end
end Gx
namespace Gx
open Go Go.Proofs
set_option maxRecDepth 100000
noncomputable section
variable{R:Type}(N:Nat)
def Ob(r0:Bool->O R)(b:Int)(c:Bool)(a:LA)(k3:Int->O R)(d:Int):O R:=(D6 1 (a.drop 18) fun be f=>cond (decide (d<(f:Int))) (D6 1 (a.drop 18) fun g h=>cond (Ab d h) (Am .i64 (g.drop (d.toNat*1)) fun i=>Hk N i 0 (wrap .i64 (b - 1)) fun j=>cond ((!j)==false) (cond ((decide (d>0))==true) (D6 1 (a.drop 18) fun l m=>cond (Ab d m) (Am .i64 (l.drop (d.toNat*1)) fun o=>D6 1 (a.drop 18) fun p q=>cond (Ab (wrap .i64 (d - 1)) q) (Am .i64 (p.drop (((wrap .i64 (d - 1)).toNat)*1)) fun r=>cond (cond false true (cond true (decide (o<=r)) false)) (r0 false) (k3 (wrap .i64 (d+1)))) none) none) (k3 (wrap .i64 (d+1)))) (r0 false)) none) (Am .i64 (a.drop 19) fun s=>cond (s==2) (Am .i64 (a.drop 21) fun t=>Am .i64 (a.drop 2) fun u=>Am .i64 (a.drop 3) fun v=>Hk N t u v fun w=>r0 w) (Am .i64 (a.drop 21) fun x=>r0 (x==0))))
def J6(r0:Bool->O R)(b:Int)(c:Bool)(a:LA):Nat->Int->O R
|0=>fun _=>none
|n+1=>Ob N r0 b c a (J6 r0 b c a n)
def Vj(N:Nat)(r0:Bool->O R)(b:Int)(c:Bool)(a:LA)(q3:Int->O R):O R:=(q3 0)
def Yy(r0:Bool->O R)(b:Int)(c:Bool)(a:LA):O R:=Vj N r0 b c a (J6 N r0 b c a N)
def Vk(r0:Bool->O R)(b:Int)(c:Bool)(a:LA)(q2:O R):O R:=(Am .i64 (a.drop 5) fun y=>Hk N y 0 1048576 fun z=>cond ((!z)==false) (Am .i64 (a.drop 13) fun aa=>Hk N aa 0 1048576 fun ab=>cond ((cond false true (!ab))==false) (Am .i64 (a.drop 14) fun ac=>Hk N ac 0 1048576 fun ad=>cond ((cond false true (!ad))==false) (Am .i64 (a.drop 17) fun ae=>Hk N ae 0 1048576 fun af=>cond (cond false true (!af)) (r0 false) q2) (r0 false)) (r0 false)) (r0 false))
def Yz(r0:Bool->O R)(b:Int)(c:Bool)(a:LA):O R:=Vk N r0 b c a (Yy N r0 b c a)
def Vl(r0:Bool->O R)(b:Int)(c:Bool)(a:LA)(q1:O R):O R:=(Am .i64 (a.drop 6) fun ag=>Hk N ag 0 1048576 fun ah=>cond ((!ah)==false) (Am .i64 (a.drop 7) fun ai=>Hk N ai 0 1048576 fun aj=>cond ((cond false true (!aj))==false) (Am .i64 (a.drop 16) fun ak=>Hk N ak 0 1048576 fun al=>cond ((cond false true (!al))==false) (Am .i64 (a.drop 8) fun am=>Am .i64 (a.drop 2) fun an=>Am .i64 (a.drop 3) fun ao=>Hk N am an ao fun ap=>cond ((cond false true (!ap))==false) (Am .i64 (a.drop 9) fun aq=>Am .i64 (a.drop 2) fun ar=>Am .i64 (a.drop 3) fun au=>Hk N aq ar au fun av=>cond (cond false true (!av)) (r0 false) q1) (r0 false)) (r0 false)) (r0 false)) (r0 false))
def Qq(r0:Bool->O R)(b:Int)(c:Bool)(a:LA):O R:=Vl N r0 b c a (Yz N r0 b c a)
def Y0(r0:Bool->O R)(q0:O R)(a:LA)(c:Bool)(b:Int):O R:=(Hk N b 1 24 fun aw=>cond ((!aw)==false) (cond (ble 22 a.length) (W3 N (a.take 22) c fun ax=>cond ((cond false true (!ax))==false) (Am .i64 (a.drop 2) fun ay=>Hk N ay 0 1048576 fun az=>cond ((cond false true (!az))==false) (Am .i64 (a.drop 3) fun ba=>Am .i64 (a.drop 2) fun bb=>Hk N ba bb 1048576 fun bc=>cond ((cond false true (!bc))==false) (cond (ble 22 a.length) (Mk N (a.take 22) c fun bd=>cond (cond false true (!bd)) (r0 false) q0) none) (r0 false)) (r0 false)) (r0 false)) none) (r0 false))
def Rd:=(Ak fun N a c b r0=>Y0 (R:=R) N r0 (Qq N r0 b c a) a c b).1
def GO(a c b r0):(@Rd R N a c b r0)=(Y0 N r0 (Qq N r0 b c a) a c b):=by rw[Rd,(Ak _).2]
def MN:Hints:={H:=hK 1 (hJ [1,2] hL (hJ [1,2] hL (hJ [1,2] hL (hS (hK 1 (hS (hP [1,2,5] hL) hL)) hL))))}
def SD:Vc:=[jm N,jn N,YL N]
def Qr(F:KF R):=Mp Tryz.f24 MN (SD N) [] N F
def gW(b:Int)(c:Bool)(a:LA)(K:St->O R):=fun d=>K ⟨[(1,iv b),(2,op 0),(5,iv d)],hq [bP c 0 a]⟩
def gX(b:Int)(c:Bool)(a:LA)(K:St->O R):=K ⟨[(1,iv b),(2,op 0)],hq [bP c 0 a]⟩
def gY(b:Int)(c:Bool)(a:LA)(K:St->O R):=K ⟨[(1,iv b),(2,op 0)],hq [bP c 0 a]⟩
def gZ(b:Int)(c:Bool)(a:LA)(K:St->O R):=K ⟨[(1,iv b),(2,op 0)],hq [bP c 0 a]⟩
def TK(F:KF R)(b c a):∀ n,gW b c a (A3 (Qr N F (pz 21828) []) n)=(J6 N (C1 F) b c a n):=Mo fun n e=>(Dw (Ob N (C1 F) b c a) e:_)
def TL(F:KF R)(b c a):gX b c a (Ba (Qr N F (pz 341) []))=(Yy N (C1 F) b c a):=(Dw (Vj N (C1 F) b c a) ((lW ..).trans (TK ..)):_)
def TM(F:KF R)(b c a):gY b c a (Ba (Qr N F (pz 85) []))=(Yz N (C1 F) b c a):=(Dw (Vk N (C1 F) b c a) ((jW ..).trans (TL ..)):_)
def TN(F:KF R)(b c a):gZ b c a (Ba (Qr N F (pz 21) []))=(Qq N (C1 F) b c a):=(Dw (Vl N (C1 F) b c a) ((jW ..).trans (TM ..)):_)
def jq:=Dm N 24 (SD N) MN (fun
|[.pagg a c,.int .i64 b],[]=>some fun _ k=>Rd N a c b (C1 k)
| _,_=>none) fun _ _=>by split;intro R F;exact(Dw (Y0 N (C1 F) · _ _ _) ((jW ..).trans (TN ..)):_).trans (GO ..).symm;trivial
def MO(N:Nat)(k0:Nat->Nat->Int->LA->LA->O R)(r0:LA->Bool->O R)(a c d:Int)(h f:Nat)(g:Bool)(b v:LA)(ag:Int)(ap:LA):O R:=(cond (Ab ag h) (Am .i64 (v.drop (0+(ag.toNat*1))) fun ba=>cond (Ab ag f) (Am .i64 (ap.drop (0+(ag.toNat*1))) fun bb=>cond (decide (ba>bb)) (r0 [.nsl,.nsl,.nsl] false) (k0 h f (wrap .i64 (ag+1)) v ap)) none) none)
def GP(N:Nat)(k0:Nat->Nat->Int->LA->LA->O R)(r0:LA->Bool->O R)(a c d:Int)(h f:Nat)(g:Bool)(b:LA)(q4:LA->Int->LA->O R)(x:Int)(v ae:LA):O R:=(cond ((x==d)==true) (cond (cond true (decide (d<(wrap .i64 (a - 1)))) false) (cond (Ab x f) (Am .i64 (ae.drop (0+(x.toNat*1))) fun bc=>Am .i64 (b.drop 9) fun bd=>cond (Ab x f) (cond ((beq 1 1)&&((ble ((0+(x.toNat*1))+1) ae.length)&&(!false))) (q4 v x (ae.set (0+(x.toNat*1)) (.int .i64 (Fg bc bd)))) none) none) none) (q4 v x ae)) (q4 v x ae))
def Qs(k0:Nat->Nat->Int->LA->LA->O R)(r0:LA->Bool->O R)(a c d:Int)(h f:Nat)(g:Bool)(b:LA)(x:Int)(v ae:LA):O R:=GP N k0 r0 a c d h f g b (fun v=>MO N k0 r0 a c d h f g b v) x v ae
def GQ(N:Nat)(k0:Nat->Nat->Int->LA->LA->O R)(r0:LA->Bool->O R)(a c d:Int)(h f:Nat)(g:Bool)(b:LA)(q1:Int->LA->LA->O R)(u:Int)(an:Bool)(af z:LA):O R:=(cond an (cond (Ab u h) (Am .i64 (af.drop (0+(u.toNat*1))) fun be=>Am .i64 (b.drop 21) fun bf=>Am .i64 (b.drop 7) fun bg=>cond (Ab u f) (Am .i64 (z.drop (0+(u.toNat*1))) fun bh=>Am .i64 (b.drop 21) fun bi=>Am .i64 (b.drop 6) fun bj=>cond (Ab u h) (cond ((beq 1 1)&&((ble ((0+(u.toNat*1))+1) af.length)&&(!false))) (cond (Ab u f) (cond ((beq 1 1)&&((ble ((0+(u.toNat*1))+1) z.length)&&(!false))) (q1 u (af.set (0+(u.toNat*1)) (.int .i64 (Ij be (wrap .i64 (bf - bg))))) (z.set (0+(u.toNat*1)) (.int .i64 (Fg bh (wrap .i64 (bi+bj)))))) none) none) none) none) none) none) (cond (Ab u f) (Am .i64 (z.drop (0+(u.toNat*1))) fun bk=>Am .i64 (b.drop 8) fun bl=>cond (Ab u f) (cond ((beq 1 1)&&((ble ((0+(u.toNat*1))+1) z.length)&&(!false))) (q1 u af (z.set (0+(u.toNat*1)) (.int .i64 (Fg bk bl)))) none) none) none))
def Y1(k0:Nat->Nat->Int->LA->LA->O R)(r0:LA->Bool->O R)(a c d:Int)(h f:Nat)(g:Bool)(b:LA)(u:Int)(an:Bool)(af z:LA):O R:=GQ N k0 r0 a c d h f g b (Qs N k0 r0 a c d h f g b) u an af z
def MP(k5:Int->Int->Nat->Nat->Nat->LA->LA->LA->O R)(r0:LA->Bool->O R)(a c d:Int)(h f:Nat)(t:Int)(g:Bool)(b i j:LA)(l m o:Nat)(p q r:LA)(y:Int):O R:=(G8 N t fun au=>G8 N 0 fun av=>cond (Ab y l) (cond ((beq 1 1)&&((ble ((0+(y.toNat*1))+1) p.length)&&(!false))) (cond (Ab y m) (cond ((beq au.length 3)&&((ble ((0+(y.toNat*3))+3) q.length)&&(!false))) (cond (Ab y o) (cond ((beq av.length 3)&&((ble ((0+(y.toNat*3))+3) r.length)&&(!false))) (k5 t (wrap .i64 (y+1)) l m o (p.set (0+(y.toNat*1)) (.int .i64 2)) (setCells q (0+(y.toNat*3)) au) (setCells r (0+(y.toNat*3)) av)) none) none) none) none) none) none)
def GR(N:Nat)(k5:Int->Int->Nat->Nat->Nat->LA->LA->LA->O R)(r0:LA->Bool->O R)(a c d:Int)(h f:Nat)(t:Int)(g:Bool)(b i j:LA)(l m o:Nat)(p q r:LA)(q9:Int->O R)(ah aq:Int):O R:=(cond (decide ((wrap .i64 (a+ah))<0)) none (q9 ah))
def Y2(k5:Int->Int->Nat->Nat->Nat->LA->LA->LA->O R)(r0:LA->Bool->O R)(a c d:Int)(h f:Nat)(t:Int)(g:Bool)(b i j:LA)(l m o:Nat)(p q r:LA)(ah aq:Int):O R:=GR N k5 r0 a c d h f t g b i j l m o p q r (MP N k5 r0 a c d h f t g b i j l m o p q r) ah aq
def Vm(N:Nat)(k5:Int->Int->Nat->Nat->Nat->LA->LA->LA->O R)(r0:LA->Bool->O R)(a c d:Int)(h f:Nat)(t:Int)(g:Bool)(b i j:LA)(l m o:Nat)(p q r:LA)(q8:Int->Int->O R)(ai aa:Int):O R:=(Am .i64 (b.drop 3) fun aw=>Am .i64 (b.drop 6) fun ax=>cond ((aa==c)==true) (cond ((aa==0)==true) (Am .i64 (b.drop 19) fun bm=>cond (cond true (!(cond true (bm==2) false)) false) (Am .i64 (b.drop 8) fun bn=>q8 aa bn) (q8 aa (Fg aw (wrap .i64 (ai+ax))))) (Am .i64 (b.drop 8) fun bo=>q8 aa bo)) (q8 aa (Fg aw (wrap .i64 (ai+ax)))))
def Y3(k5:Int->Int->Nat->Nat->Nat->LA->LA->LA->O R)(r0:LA->Bool->O R)(a c d:Int)(h f:Nat)(t:Int)(g:Bool)(b i j:LA)(l m o:Nat)(p q r:LA)(ai aa:Int):O R:=Vm N k5 r0 a c d h f t g b i j l m o p q r (Y2 N k5 r0 a c d h f t g b i j l m o p q r) ai aa
def Vn(N:Nat)(k5:Int->Int->Nat->Nat->Nat->LA->LA->LA->O R)(r0:LA->Bool->O R)(a c d:Int)(h f:Nat)(g:Bool)(b i j:LA)(l m o:Nat)(p q r:LA)(q7:Int->Int->Int->O R)(ao aj t ar:Int):O R:=(cond (decide (aj<0)) none (q7 t ao aj))
def Ml(k5:Int->Int->Nat->Nat->Nat->LA->LA->LA->O R)(r0:LA->Bool->O R)(a c d:Int)(h f:Nat)(g:Bool)(b i j:LA)(l m o:Nat)(p q r:LA)(ao aj t ar:Int):O R:=Vn N k5 r0 a c d h f g b i j l m o p q r (fun t=>Y3 N k5 r0 a c d h f t g b i j l m o p q r) ao aj t ar
def Vo(N:Nat)(r0:LA->Bool->O R)(a c d:Int)(h f:Nat)(g:Bool)(b i j:LA)(k5:Int->Int->Nat->Nat->Nat->LA->LA->LA->O R)(q6:Nat->Nat->Nat->LA->LA->LA->Int->Int->Int->Int->O R)(ak ab:Int)(l m o:Nat)(p q r:LA):O R:=(cond (decide (ab<=d)) (cond (Ab ab h) (Am .i64 (i.drop (0+(ab.toNat*1))) fun ay=>cond (Ab ab f) (Am .i64 (j.drop (0+(ab.toNat*1))) fun az=>cond (decide (ab>c)) (Am .i64 (b.drop 7) fun bp=>Am .i64 (b.drop 6) fun bq=>q6 l m o p q r ak ab (Ij ay (wrap .i64 (ak - bp))) (Fg az (wrap .i64 (ak+bq)))) (q6 l m o p q r ak ab ay az)) none) none) (r0 [.imm (p.take (l*1)) l 1 false false,.imm (q.take (m*3)) m 3 false false,.imm (r.take (o*3)) o 3 false false] true))
def Hl(r0:LA->Bool->O R)(a c d:Int)(h f:Nat)(g:Bool)(b i j:LA):Nat->Int->Int->Nat->Nat->Nat->LA->LA->LA->O R
|0=>fun _ _ _ _ _ _ _ _=>none
|n+1=>Vo N r0 a c d h f g b i j (Hl r0 a c d h f g b i j n) (fun l m o p q r=>Ml N (Hl r0 a c d h f g b i j n) r0 a c d h f g b i j l m o p q r)
def GS(N:Nat)(r0:LA->Bool->O R)(a c d:Int)(h f:Nat)(g:Bool)(b:LA)(k3:Int->LA->LA->O R)(q5:LA->LA->Int->Int->Nat->Nat->Nat->LA->LA->LA->O R)(w:Int)(i j:LA):O R:=(cond (decide (w>c)) (cond (Ab (wrap .i64 (w - 1)) h) (Am .i64 (i.drop (0+(((wrap .i64 (w - 1)).toNat)*1))) fun br=>cond (Ab w h) (Am .i64 (i.drop (0+(w.toNat*1))) fun bs=>Am .i64 (b.drop 6) fun bt=>cond (Ab (wrap .i64 (w - 1)) f) (Am .i64 (j.drop (0+(((wrap .i64 (w - 1)).toNat)*1))) fun bu=>cond (Ab w f) (Am .i64 (j.drop (0+(w.toNat*1))) fun bv=>Am .i64 (b.drop 7) fun bw=>cond (Ab (wrap .i64 (w - 1)) h) (cond ((beq 1 1)&&((ble ((0+(((wrap .i64 (w - 1)).toNat)*1))+1) i.length)&&(!false))) (cond (Ab (wrap .i64 (w - 1)) f) (cond ((beq 1 1)&&((ble ((0+(((wrap .i64 (w - 1)).toNat)*1))+1) j.length)&&(!false))) (k3 (wrap .i64 (w - 1)) (i.set (0+(((wrap .i64 (w - 1)).toNat)*1)) (.int .i64 (Ij br (wrap .i64 (bs - bt))))) (j.set (0+(((wrap .i64 (w - 1)).toNat)*1)) (.int .i64 (Fg bu (wrap .i64 (bv+bw)))))) none) none) none) none) none) none) none) none) (cond ((decide (0<=a))&&((decide (a<=a))&&((decide (a<=140737488355328))&&(decide ((a*((8:Nat):Int))<=140737488355328))))) (cond ((decide (0<=a))&&((decide (a<=a))&&((decide (a<=140737488355328))&&(decide ((a*((56:Nat):Int))<=140737488355328))))) (cond ((decide (0<=a))&&((decide (a<=a))&&((decide (a<=140737488355328))&&(decide ((a*((56:Nat):Int))<=140737488355328))))) (Am .i64 (b.drop 21) fun bx=>q5 i j bx c a.toNat a.toNat a.toNat (replicate a.toNat Ahg) (List.flatten (replicate a.toNat ([.bool false,.nsl,.nsl]:LA))) (List.flatten (replicate a.toNat ([.bool false,.nsl,.nsl]:LA)))) none) none) none))
def Hm(r0:LA->Bool->O R)(a c d:Int)(h f:Nat)(g:Bool)(b:LA):Nat->Int->LA->LA->O R
|0=>fun _ _ _=>none
|n+1=>GS N r0 a c d h f g b (Hm r0 a c d h f g b n) (fun i j=>Hl N r0 a c d h f g b i j N)
def GU(N:Nat)(r0:LA->Bool->O R)(a c d:Int)(g:Bool)(b:LA)(k0:Nat->Nat->Int->LA->LA->O R)(q1:Nat->Nat->Int->LA->LA->O R)(q2:Nat->Nat->Int->Bool->LA->LA->O R)(q3:Nat->Nat->Int->LA->LA->O R)(h f:Nat)(s:Int)(ac ad:LA):O R:=(cond (decide (s<=d)) (Am .i64 (b.drop 2) fun al=>Am .i64 (b.drop 3) fun am=>cond (Ab s h) (cond ((beq 1 1)&&((ble ((0+(s.toNat*1))+1) ac.length)&&(!false))) (cond (Ab s f) (cond ((beq 1 1)&&((ble ((0+(s.toNat*1))+1) ad.length)&&(!false))) (cond (decide (s>c)) (cond (Ab s h) (Am .i64 ((ac.set (0+(s.toNat*1)) (.int .i64 al)).drop (0+(s.toNat*1))) fun bz=>cond (Ab (wrap .i64 (s - 1)) h) (Am .i64 ((ac.set (0+(s.toNat*1)) (.int .i64 al)).drop (0+(((wrap .i64 (s - 1)).toNat)*1))) fun ca=>Am .i64 (b.drop 7) fun cb=>cond (Ab s f) (Am .i64 ((ad.set (0+(s.toNat*1)) (.int .i64 am)).drop (0+(s.toNat*1))) fun cc=>cond (Ab (wrap .i64 (s - 1)) f) (Am .i64 ((ad.set (0+(s.toNat*1)) (.int .i64 am)).drop (0+(((wrap .i64 (s - 1)).toNat)*1))) fun cd=>Am .i64 (b.drop 6) fun ce=>cond (Ab s h) (cond ((beq 1 1)&&((ble ((0+(s.toNat*1))+1) ((ac.set (0+(s.toNat*1)) (.int .i64 al)).length))&&(!false))) (cond (Ab s f) (cond ((beq 1 1)&&((ble ((0+(s.toNat*1))+1) ((ad.set (0+(s.toNat*1)) (.int .i64 am)).length))&&(!false))) (q1 h f s ((ac.set (0+(s.toNat*1)) (.int .i64 al)).set (0+(s.toNat*1)) (.int .i64 (Ij bz (wrap .i64 (ca - cb))))) ((ad.set (0+(s.toNat*1)) (.int .i64 am)).set (0+(s.toNat*1)) (.int .i64 (Fg cc (wrap .i64 (cd+ce)))))) none) none) none) none) none) none) none) none) (cond ((s==0)==true) (Am .i64 (b.drop 19) fun cf=>q2 h f s (cond true (cf==2) false) (ac.set (0+(s.toNat*1)) (.int .i64 al)) (ad.set (0+(s.toNat*1)) (.int .i64 am))) (q2 h f s false (ac.set (0+(s.toNat*1)) (.int .i64 al)) (ad.set (0+(s.toNat*1)) (.int .i64 am))))) none) none) none) none) (q3 h f d ac ad))
def F6(r0:LA->Bool->O R)(a c d:Int)(g:Bool)(b:LA):Nat->Nat->Nat->Int->LA->LA->O R
|0=>fun _ _ _ _ _=>none
|n+1=>GU N r0 a c d g b (F6 r0 a c d g b n) (fun h f=>Qs N (F6 r0 a c d g b n) r0 a c d h f g b) (fun h f=>Y1 N (F6 r0 a c d g b n) r0 a c d h f g b) (fun h f=>Hm N r0 a c d h f g b N)
def Y4(N:Nat)(r0:LA->Bool->O R)(q0:Nat->Nat->Int->LA->LA->O R)(b:LA)(g:Bool)(a c d:Int):O R:=(cond ((decide (0<=a))&&((decide (a<=a))&&((decide (a<=140737488355328))&&(decide ((a*((8:Nat):Int))<=140737488355328))))) (cond ((decide (0<=a))&&((decide (a<=a))&&((decide (a<=140737488355328))&&(decide ((a*((8:Nat):Int))<=140737488355328))))) (q0 a.toNat a.toNat c (replicate a.toNat Ahg) (replicate a.toNat Ahg)) none) none)
def W5:=(Ak fun N b g a c d r0=>Y4 (R:=R) N r0 (F6 N r0 a c d g b N) b g a c d).1
def GV(b g a c d r0):(@W5 R N b g a c d r0)=(Y4 N r0 (F6 N r0 a c d g b N) b g a c d):=by rw[W5,(Ak _).2]
def MQ:Hints:={H:=hK 2 (hS (hK 1 (hS (hP [1,2,3,4,5,10,12,13,14] (hK 1 (hS (hS (hK 1 (hJ [1,2,3,4,5,10,12,13,14] (hS (hK 2 (hJ [1,2,3,4,5,10,12,13,14,89] hL hL)) hL) (hJ [1,2,3,4,5,10,12,13,14] hL hL))) hL) hL))) hL)) (hS (hK 1 (hS (hP [1,2,3,4,5,10,12,13,15] hL) hL)) (hK 2 (hS (hK 1 (hS (hP [1,2,3,4,5,10,12,13,16,17,18] (hK 1 (hS (hS (hK 1 (hJ [1,2,3,4,5,10,12,13,16,17,18,19,20] hL (hJ [1,2,3,4,5,10,12,13,16,17,18,19] hL (hK 1 (hJ [1,2,3,4,5,10,12,13,16,18,19,21] hL (hK 1 (hJ [1,2,3,4,5,10,12,13,16,18,19,22] hL hL))))))) hL) hL))) hL)) hL)))),modes:=[(3,0),(0,0)]}
def SE:Vc:=[aT N]
def D5(F:KF R):=Mp Tryz.f37 MQ (SE N) [] N F
def g8(a c d:Int)(h f:Nat)(g:Bool)(b v:LA)(K:St->O R):=fun ag ap=>K ⟨[(1,iv a),(2,iv c),(3,iv d),(4,.nsl),(5,op 0),(10,op 1),(12,Ahf 2 h),(13,Ahf 3 f),(14,iv ag)],hq [bP g 0 b,bN 0 [.nsl,.nsl,.nsl],bQ 1 v,bQ 1 ap]⟩
def g9(a c d:Int)(h f:Nat)(g:Bool)(b:LA)(K:St->O R):=fun x v ae=>K ⟨[(1,iv a),(2,iv c),(3,iv d),(4,.nsl),(5,op 0),(10,op 1),(12,Ahf 2 h),(13,Ahf 3 f),(14,iv x)],hq [bP g 0 b,bN 0 [.nsl,.nsl,.nsl],bQ 1 v,bQ 1 ae]⟩
def g_(a c d:Int)(h f:Nat)(g:Bool)(b:LA)(K:St->O R):=fun u an af z=>K ⟨[(1,iv a),(2,iv c),(3,iv d),(4,.nsl),(5,op 0),(10,op 1),(12,Ahf 2 h),(13,Ahf 3 f),(14,iv u),(89,.bool an)],hq [bP g 0 b,bN 0 [.nsl,.nsl,.nsl],bQ 1 af,bQ 1 z]⟩
def gc(a c d:Int)(h f:Nat)(t:Int)(g:Bool)(b i j:LA)(l m o:Nat)(p q r:LA)(K:St->O R):=fun y=>K ⟨[(1,iv a),(2,iv c),(3,iv d),(4,.nsl),(5,op 0),(10,op 1),(12,Ahf 2 h),(13,Ahf 3 f),(16,op 4),(18,iv y),(19,iv t),(22,iv 0)],hq [bP g 0 b,bN 0 [.nsl,.nsl,.nsl],bQ 1 i,bQ 1 j,bN 0 [Ahf 5 l,Ahf 6 m,Ahf 7 o],bQ 1 p,bQ 3 q,bQ 3 r]⟩
def gd(a c d:Int)(h f:Nat)(t:Int)(g:Bool)(b i j:LA)(l m o:Nat)(p q r:LA)(K:St->O R):=fun ah aq=>K ⟨[(1,iv a),(2,iv c),(3,iv d),(4,.nsl),(5,op 0),(10,op 1),(12,Ahf 2 h),(13,Ahf 3 f),(16,op 4),(18,iv ah),(19,iv t),(21,iv aq)],hq [bP g 0 b,bN 0 [.nsl,.nsl,.nsl],bQ 1 i,bQ 1 j,bN 0 [Ahf 5 l,Ahf 6 m,Ahf 7 o],bQ 1 p,bQ 3 q,bQ 3 r]⟩
def ge(a c d:Int)(h f:Nat)(t:Int)(g:Bool)(b i j:LA)(l m o:Nat)(p q r:LA)(K:St->O R):=fun ai aa=>K ⟨[(1,iv a),(2,iv c),(3,iv d),(4,.nsl),(5,op 0),(10,op 1),(12,Ahf 2 h),(13,Ahf 3 f),(16,op 4),(17,iv ai),(18,iv aa),(19,iv t)],hq [bP g 0 b,bN 0 [.nsl,.nsl,.nsl],bQ 1 i,bQ 1 j,bN 0 [Ahf 5 l,Ahf 6 m,Ahf 7 o],bQ 1 p,bQ 3 q,bQ 3 r]⟩
def gf(a c d:Int)(h f:Nat)(g:Bool)(b i j:LA)(l m o:Nat)(p q r:LA)(K:St->O R):=fun ao aj t ar=>K ⟨[(1,iv a),(2,iv c),(3,iv d),(4,.nsl),(5,op 0),(10,op 1),(12,Ahf 2 h),(13,Ahf 3 f),(16,op 4),(17,iv ao),(18,iv aj),(19,iv t),(20,iv ar)],hq [bP g 0 b,bN 0 [.nsl,.nsl,.nsl],bQ 1 i,bQ 1 j,bN 0 [Ahf 5 l,Ahf 6 m,Ahf 7 o],bQ 1 p,bQ 3 q,bQ 3 r]⟩
def F7(a c d:Int)(h f:Nat)(g:Bool)(b i j:LA)(K:St->O R):=fun ak ab l m o p q r=>K ⟨[(1,iv a),(2,iv c),(3,iv d),(4,.nsl),(5,op 0),(10,op 1),(12,Ahf 2 h),(13,Ahf 3 f),(16,op 4),(17,iv ak),(18,iv ab)],hq [bP g 0 b,bN 0 [.nsl,.nsl,.nsl],bQ 1 i,bQ 1 j,bN 0 [Ahf 5 l,Ahf 6 m,Ahf 7 o],bQ 1 p,bQ 3 q,bQ 3 r]⟩
def gg(a c d:Int)(h f:Nat)(g:Bool)(b:LA)(K:St->O R):=fun w i j=>K ⟨[(1,iv a),(2,iv c),(3,iv d),(4,.nsl),(5,op 0),(10,op 1),(12,Ahf 2 h),(13,Ahf 3 f),(15,iv w)],hq [bP g 0 b,bN 0 [.nsl,.nsl,.nsl],bQ 1 i,bQ 1 j]⟩
def J7(a c d:Int)(g:Bool)(b:LA)(K:St->O R):=fun h f s ac ad=>K ⟨[(1,iv a),(2,iv c),(3,iv d),(4,.nsl),(5,op 0),(10,op 1),(12,Ahf 2 h),(13,Ahf 3 f),(14,iv s)],hq [bP g 0 b,bN 0 [.nsl,.nsl,.nsl],bQ 1 ac,bQ 1 ad]⟩
def TO Q0 (F:KF R) (a c d h f g b v):g8 a c d h f g b v (Ba (D5 N F (pz 22086677) [Q0]))=(MO N (J7 a c d g b Q0) (Vd F) a c d h f g b v):=by kernel_rfl
def AI Q0 (F:KF R) (a c d h f g b):g9 a c d h f g b (Ba (D5 N F (pz 5521669) [Q0]))=(Qs N (J7 a c d g b Q0) (Vd F) a c d h f g b):=(Dw (GP N (J7 a c d g b Q0) (Vd F) a c d h f g b) (uE fun v=>(jW ..).trans (TO ..)):_)
def TP Q0 (F:KF R) (a c d h f g b):g_ a c d h f g b (Ba (D5 N F (pz 1413547029) [Q0]))=(Y1 N (J7 a c d g b Q0) (Vd F) a c d h f g b):=(Dw (GQ N (J7 a c d g b Q0) (Vd F) a c d h f g b) ((jW ..).trans (AI ..)):_)
def TQ Q5 (F:KF R) (a c d h f t g b i j l m o p q r):gc a c d h f t g b i j l m o p q r (Ba (D5 N F (pz 1465943070037) [Q5]))=(MP N (F7 a c d h f g b i j Q5) (Vd F) a c d h f t g b i j l m o p q r):=by kernel_rfl
def TR Q5 (F:KF R) (a c d h f t g b i j l m o p q r):gd a c d h f t g b i j l m o p q r (Ba (D5 N F (pz 91621441877) [Q5]))=(Y2 N (F7 a c d h f g b i j Q5) (Vd F) a c d h f t g b i j l m o p q r):=(Dw (GR N (F7 a c d h f g b i j Q5) (Vd F) a c d h f t g b i j l m o p q r) ((jW ..).trans (TQ ..)):_)
def TS Q5 (F:KF R) (a c d h f t g b i j l m o p q r):ge a c d h f t g b i j l m o p q r (Ba (D5 N F (pz 5726340117) [Q5]))=(Y3 N (F7 a c d h f g b i j Q5) (Vd F) a c d h f t g b i j l m o p q r):=(Dw (Vm N (F7 a c d h f g b i j Q5) (Vd F) a c d h f t g b i j l m o p q r) ((jW ..).trans (TR ..)):_)
def TT Q5 (F:KF R) (a c d h f g b i j l m o p q r):gf a c d h f g b i j l m o p q r (Ba (D5 N F (pz 1431585029) [Q5]))=(Ml N (F7 a c d h f g b i j Q5) (Vd F) a c d h f g b i j l m o p q r):=(Dw (Vn N (F7 a c d h f g b i j Q5) (Vd F) a c d h f g b i j l m o p q r) (uE fun t=>(jW ..).trans (TS ..)):_)
def TU(F:KF R)(a c d h f g b i j):∀ n,F7 a c d h f g b i j (A3 (D5 N F (pz 349508) []) n)=(Hl N (Vd F) a c d h f g b i j n):=Mo fun n e=>(ZX (Vo N (Vd F) a c d h f g b i j) e (vM fun l m o p q r=>(jW ..).trans ((TT ..).trans (m_ (Ml _ · _ _ _ _ _ _ _ _ _ _ _ _ _ _ _ _) e))):_)
def TV(F:KF R)(a c d h f g b):∀ n,gg a c d h f g b (A3 (D5 N F (pz 5444) []) n)=(Hm N (Vd F) a c d h f g b n):=Mo fun n e=>(ZX (GS N (Vd F) a c d h f g b) e (kP fun i j=>(lW ..).trans (TU ..)):_)
def TW(F:KF R)(a c d g b):∀ n,J7 a c d g b (A3 (D5 N F (pz 1348) []) n)=(F6 N (Vd F) a c d g b n):=Mo fun n e=>(yZ (GU N (Vd F) a c d g b) e (kP fun h f=>(jW ..).trans ((AI ..).trans (m_ (Qs _ · _ _ _ _ _ _ _ _) e))) (kP fun h f=>(jW ..).trans ((TP ..).trans (m_ (Y1 _ · _ _ _ _ _ _ _ _) e))) (kP fun h f=>(lW ..).trans (TV ..)):_)
def jr:=Dm N 37 (SE N) MQ (fun
|[.pagg b g,.int .i64 a,.int .i64 c,.int .i64 d,.nsl],[]=>some fun _ k=>W5 N b g a c d (Vd k)
| _,_=>none) fun _ _=>by split;intro R F;exact(Dw (Y4 N (Vd F) · _ _ _ _ _) ((lW ..).trans (TW ..)):_).trans (GV ..).symm;trivial
def As(r0:Bool->O R)(ag:Int)(ae af:LA)(av:Int):O R:=(Ul N fun aw=>cond (aw==true) (cond ((cond true (ag==av) false)==true) (cond ((ag==0)==false) (D6 1 ae fun bg ax=>D6 3 (ae.drop 1) fun bh ay=>D6 3 (ae.drop 2) fun bi az=>cond (((wrap .i64 ((wrap .i64 ((ax:Int)+(ay:Int)))+(az:Int)))==0)==true) (cond (ble 3 af.length) (LY N (af.take 3) false fun ba=>r0 (cond true (cond false true (cond true (ba==0) false)) false)) none) (r0 false)) (r0 true)) (r0 false)) (r0 false))
def Di(r0:Bool->O R)(a d e ag:Int)(h:Lu)(i j l:Int)(m:LA)(f:Nat)(ah b:Bool)(n o p q r s t u v w x y z:Int)(aa:LA)(g:Nat)(ai c:Bool)(ab ac ad:Int)(ae af:LA)(q1:Int->O R)(ar:Bool):O R:=(cond ar (q1 3) (W5 N [.str h,.int .i64 i,.int .i64 j,.int .i64 l,.imm m f 2 false b,.int .i64 n,.int .i64 o,.int .i64 p,.int .i64 q,.int .i64 r,.int .i64 s,.int .i64 t,.int .i64 u,.int .i64 v,.int .i64 w,.int .i64 x,.int .i64 y,.int .i64 z,.imm aa g 1 false c,.int .i64 ab,.int .i64 ac,.int .i64 ad] (b||(c||false)) a d e fun bb bc=>cond ((beq 0 0)&&((beq bb.length 3)&&(beq 3 3))) (cond (!bc) (q1 7) (q1 0)) none))
def Ch(r0:Bool->O R)(a d e ag:Int)(h:Lu)(i j l:Int)(m:LA)(f:Nat)(ah b:Bool)(n o p q r s t u v w x y z:Int)(aa:LA)(g:Nat)(ai c:Bool)(ab ac ad:Int)(ae af:LA)(ar:Bool):O R:=Di N r0 a d e ag h i j l m f ah b n o p q r s t u v w x y z aa g ai c ab ac ad ae af (As N r0 ag ae af) ar
def Dj(N:Nat)(r0:Bool->O R)(a d e ag:Int)(h:Lu)(i j l:Int)(m:LA)(f:Nat)(ah b:Bool)(n o p q r s t u v w x y z:Int)(aa:LA)(g:Nat)(ai c:Bool)(ab ac ad:Int)(ae af:LA)(q1:Int->O R)(q3:Bool->O R)(au:Bool):O R:=(cond au (q1 4) (cond ((decide (d<0))==false) (cond ((cond false true (decide (d>e)))==false) (q3 (cond false true (decide (e>=a)))) (q3 true)) (q3 true)))
def Bg(r0:Bool->O R)(a d e ag:Int)(h:Lu)(i j l:Int)(m:LA)(f:Nat)(ah b:Bool)(n o p q r s t u v w x y z:Int)(aa:LA)(g:Nat)(ai c:Bool)(ab ac ad:Int)(ae af:LA)(au:Bool):O R:=Dj N r0 a d e ag h i j l m f ah b n o p q r s t u v w x y z aa g ai c ab ac ad ae af (As N r0 ag ae af) (Ch N r0 a d e ag h i j l m f ah b n o p q r s t u v w x y z aa g ai c ab ac ad ae af) au
def Fo(r0:Bool->O R)(a d e:Int)(al:LA)(aj:Nat)(ap am:Bool)(an:LA)(ak:Nat)(aq ao:Bool)(h:Lu)(i j l:Int)(m:LA)(f:Nat)(ah b:Bool)(n o p q r s t u v w x y z:Int)(aa:LA)(g:Nat)(ai c:Bool)(ab ac ad:Int)(q1:Int->LA->LA->Int->O R)(q2:Int->LA->LA->Bool->O R):O R:=(YI N [.str h,.int .i64 i,.int .i64 j,.int .i64 l,.imm m f 2 false b,.int .i64 n,.int .i64 o,.int .i64 p,.int .i64 q,.int .i64 r,.int .i64 s,.int .i64 t,.int .i64 u,.int .i64 v,.int .i64 w,.int .i64 x,.int .i64 y,.int .i64 z,.imm aa g 1 false c,.int .i64 ab,.int .i64 ac,.int .i64 ad] (b||(c||false)) a d e al aj false am an ak false ao fun ae af ag=>cond ((beq 0 0)&&((beq ae.length 3)&&(beq 3 3))) (cond ((beq 0 0)&&((beq af.length 3)&&(beq 3 3))) (Rd N [.str h,.int .i64 i,.int .i64 j,.int .i64 l,.imm m f 2 false b,.int .i64 n,.int .i64 o,.int .i64 p,.int .i64 q,.int .i64 r,.int .i64 s,.int .i64 t,.int .i64 u,.int .i64 v,.int .i64 w,.int .i64 x,.int .i64 y,.int .i64 z,.imm aa g 1 false c,.int .i64 ab,.int .i64 ac,.int .i64 ad] (b||(c||false)) a fun bd=>cond (!bd) (q1 ag ae af 1) (cond (((aj:Int) != a)==false) (q2 ag ae af (cond false true ((ak:Int) != a))) (q2 ag ae af true))) none) none)
def Ci(r0:Bool->O R)(a d e:Int)(al:LA)(aj:Nat)(ap am:Bool)(an:LA)(ak:Nat)(aq ao:Bool)(h:Lu)(i j l:Int)(m:LA)(f:Nat)(ah b:Bool)(n o p q r s t u v w x y z:Int)(aa:LA)(g:Nat)(ai c:Bool)(ab ac ad:Int):O R:=Fo N r0 a d e al aj ap am an ak aq ao h i j l m f ah b n o p q r s t u v w x y z aa g ai c ab ac ad (fun ag ae af=>As N r0 ag ae af) fun ag ae af=>Bg N r0 a d e ag h i j l m f ah b n o p q r s t u v w x y z aa g ai c ab ac ad ae af
def Ep(r0:Bool->O R)(q0:O R)(h:Lu)(i j l:Int)(m:LA)(f:Nat)(ah b:Bool)(n o p q r s t u v w x y z:Int)(aa:LA)(g:Nat)(ai c:Bool)(ab ac ad a d e:Int)(al:LA)(aj:Nat)(ap am:Bool)(an:LA)(ak:Nat)(aq ao:Bool):O R:=(cond ((decide ((g:Int)>20))==false) (cond ((cond false true (decide ((f:Int)>20)))==false) (OP N al aj false am fun be=>cond ((cond false true (!be))==false) (OP N an ak false ao fun bf=>cond ((cond false true (!bf))==false) (cond ((decide (a>6))==true) (cond (cond false true (cond true (decide (a<=24)) false)) (r0 true) q0) q0) (r0 true)) (r0 true)) (r0 true)) (r0 true))
def E8:=(Ak fun N h i j l m f ah b n o p q r s t u v w x y z aa g ai c ab ac ad a d e al aj ap am an ak aq ao r0=>Ep (R:=R) N r0 (Ci N r0 a d e al aj ap am an ak aq ao h i j l m f ah b n o p q r s t u v w x y z aa g ai c ab ac ad) h i j l m f ah b n o p q r s t u v w x y z aa g ai c ab ac ad a d e al aj ap am an ak aq ao).1
def Jg(h i j l m f ah b n o p q r s t u v w x y z aa g ai c ab ac ad a d e al aj ap am an ak aq ao r0):(@E8 R N h i j l m f ah b n o p q r s t u v w x y z aa g ai c ab ac ad a d e al aj ap am an ak aq ao r0)=(Ep N r0 (Ci N r0 a d e al aj ap am an ak aq ao h i j l m f ah b n o p q r s t u v w x y z aa g ai c ab ac ad) h i j l m f ah b n o p q r s t u v w x y z aa g ai c ab ac ad a d e al aj ap am an ak aq ao):=by rw[E8,(Ak _).2]
def Ka:Hints:={H:=hK 1 (hJ [1,2,3,4,5,6] hL (hK 2 (hJ [13,14,15,16] (hS (hK 2 (hJ [1,2,3,6,13,14,15,16,73] hL (hK 1 (hJ [1,2,3,6,13,14,15,16,84] hL hL)))) hL) hL)))}
def Km:Vc:=[qO N,q_ N,jq N,aU N,ld N,jr N]
def Dt(F:KF R):=Mp Tryz.f10 Ka (Km N) [] N F
def Tk(ag:Int)(ae af:LA)(K:St->O R):=fun av=>K ⟨[(13,op 0),(14,op 1),(15,iv ag),(16,iv av)],hq [bQ 0 ae,bQ 0 af]⟩
def Tl(a d e ag:Int)(h:Lu)(i j l:Int)(m:LA)(f:Nat)(ah b:Bool)(n o p q r s t u v w x y z:Int)(aa:LA)(g:Nat)(ai c:Bool)(ab ac ad:Int)(ae af:LA)(K:St->O R):=fun ar=>K ⟨[(1,iv a),(2,iv d),(3,iv e),(6,op 0),(13,op 1),(14,op 2),(15,iv ag),(16,iv 0),(84,.bool ar)],hq [bN 0 [.str h,iv i,iv j,iv l,.imm m f 2 ah b,iv n,iv o,iv p,iv q,iv r,iv s,iv t,iv u,iv v,iv w,iv x,iv y,iv z,.imm aa g 1 ai c,iv ab,iv ac,iv ad],bQ 0 ae,bQ 0 af]⟩
def Tm(a d e ag:Int)(h:Lu)(i j l:Int)(m:LA)(f:Nat)(ah b:Bool)(n o p q r s t u v w x y z:Int)(aa:LA)(g:Nat)(ai c:Bool)(ab ac ad:Int)(ae af:LA)(K:St->O R):=fun au=>K ⟨[(1,iv a),(2,iv d),(3,iv e),(6,op 0),(13,op 1),(14,op 2),(15,iv ag),(16,iv 0),(73,.bool au)],hq [bN 0 [.str h,iv i,iv j,iv l,.imm m f 2 ah b,iv n,iv o,iv p,iv q,iv r,iv s,iv t,iv u,iv v,iv w,iv x,iv y,iv z,.imm aa g 1 ai c,iv ab,iv ac,iv ad],bQ 0 ae,bQ 0 af]⟩
def Tn(a d e:Int)(al:LA)(aj:Nat)(ap am:Bool)(an:LA)(ak:Nat)(aq ao:Bool)(h:Lu)(i j l:Int)(m:LA)(f:Nat)(ah b:Bool)(n o p q r s t u v w x y z:Int)(aa:LA)(g:Nat)(ai c:Bool)(ab ac ad:Int)(K:St->O R):=K ⟨[(1,iv a),(2,iv d),(3,iv e),(4,.imm al aj 3 ap am),(5,.imm an ak 3 aq ao),(6,op 0)],hq [bN 0 [.str h,iv i,iv j,iv l,.imm m f 2 ah b,iv n,iv o,iv p,iv q,iv r,iv s,iv t,iv u,iv v,iv w,iv x,iv y,iv z,.imm aa g 1 ai c,iv ab,iv ac,iv ad]]⟩
def E2(F:KF R)(ag ae af):Tk ag ae af (Ba (Dt N F (pz 1365) []))=(As N (C1 F) ag ae af):=by kernel_rfl
def O9(F:KF R)(a d e ag h i j l m f ah b n o p q r s t u v w x y z aa g ai c ab ac ad ae af):Tl a d e ag h i j l m f ah b n o p q r s t u v w x y z aa g ai c ab ac ad ae af (Ba (Dt N F (pz 5587285) []))=(Ch N (C1 F) a d e ag h i j l m f ah b n o p q r s t u v w x y z aa g ai c ab ac ad ae af):=(Dw (Di N (C1 F) a d e ag h i j l m f ah b n o p q r s t u v w x y z aa g ai c ab ac ad ae af) ((jW ..).trans (E2 ..)):_)
def Pa(F:KF R)(a d e ag h i j l m f ah b n o p q r s t u v w x y z aa g ai c ab ac ad ae af):Tm a d e ag h i j l m f ah b n o p q r s t u v w x y z aa g ai c ab ac ad ae af (Ba (Dt N F (pz 349205) []))=(Bg N (C1 F) a d e ag h i j l m f ah b n o p q r s t u v w x y z aa g ai c ab ac ad ae af):=(ZX (Dj N (C1 F) a d e ag h i j l m f ah b n o p q r s t u v w x y z aa g ai c ab ac ad ae af) ((jW ..).trans (E2 ..)) ((jW ..).trans (O9 ..)):_)
def Pb(F:KF R)(a d e al aj ap am an ak aq ao h i j l m f ah b n o p q r s t u v w x y z aa g ai c ab ac ad):Tn a d e al aj ap am an ak aq ao h i j l m f ah b n o p q r s t u v w x y z aa g ai c ab ac ad (Ba (Dt N F (pz 21) []))=(Ci N (C1 F) a d e al aj ap am an ak aq ao h i j l m f ah b n o p q r s t u v w x y z aa g ai c ab ac ad):=(ZX (Fo N (C1 F) a d e al aj ap am an ak aq ao h i j l m f ah b n o p q r s t u v w x y z aa g ai c ab ac ad) (uF fun ag ae af=>(jW ..).trans (E2 ..)) (uF fun ag ae af=>(jW ..).trans (Pa ..)):_)
def Kn:=Dm N 10 (Km N) Ka (fun
|[.agg [.str h,.int .i64 i,.int .i64 j,.int .i64 l,.imm m f 2 ah b,.int .i64 n,.int .i64 o,.int .i64 p,.int .i64 q,.int .i64 r,.int .i64 s,.int .i64 t,.int .i64 u,.int .i64 v,.int .i64 w,.int .i64 x,.int .i64 y,.int .i64 z,.imm aa g 1 ai c,.int .i64 ab,.int .i64 ac,.int .i64 ad],.int .i64 a,.int .i64 d,.int .i64 e,.imm al aj 3 ap am,.imm an ak 3 aq ao],[]=>some fun _ k=>E8 N h i j l m f ah b n o p q r s t u v w x y z aa g ai c ab ac ad a d e al aj ap am an ak aq ao (C1 k)
| _,_=>none) fun _ _=>by split;intro R F;exact(Dw (Ep N (C1 F) · _ _ _ _ _ _ _ _ _ _ _ _ _ _ _ _ _ _ _ _ _ _ _ _ _ _ _ _ _ _ _ _ _ _ _ _ _ _ _) ((jW ..).trans (Pb ..)):_).trans (Jg ..).symm;trivial
def Kb:=(Kn N).tw
def To:fQ Tryz.prog 10 (Kb N):=(Kn N).tok
end
end Gx
namespace Gx
open Go Go.Proofs
section
variable{R:Type}
def mo{N:Nat}{u:UnitD}{b:Bool}{K:Bool->O R}(L:u.segs.l.length<=8):∀(m j k:Nat)(d:Int),j+m=u.segs.l.length->m<k->(0<=d/\d<=1048576) ->
  Dr N K b u.av k d (j:Int)=K (F5 (SA u.segs.l j) (u.segs.l.drop j)&&(H2 (u.segs.l.drop j)==d))
|0,j,k+1,d,T,_,_=>by
  rw[Dr];unfold J5
  rw[u4,Wc (by omega),cf,GN (l:=u.segs.l) (by omega)]
  congr 1
  rw[Aa1];simp[F5,H2];omega
| m+1,j,k+1,d,T,hf,hd=>by
  rw[Dr];unfold J5
  have h:j<u.segs.l.length:=by omega
  rw[u4,T6 h,ct,u4,Aa h,ct,YO h]
  have p0:take 2 ((AV.int .i64 u.segs.l[j].width)::(AV.int .i64 u.segs.l[j].price)::(u.segs.l.drop (j+1)).flatMap SegD.av)=[.int .i64 u.segs.l[j].width,.int .i64 u.segs.l[j].price]:=rfl
  rw[p0,show ble 2 (List.length ((AV.int .i64 u.segs.l[j].width)::(AV.int .i64 u.segs.l[j].price)::(u.segs.l.drop (j+1)).flatMap SegD.av))=true by simp,ct]
  rw[show((!b)||Bs [AV.int .i64 u.segs.l[j].width,.int .i64 u.segs.l[j].price])=true by cases b<;>rfl,ct]
  rw[show((beq (List.length [AV.int .i64 u.segs.l[j].width,.int .i64 u.segs.l[j].price]) 2)&&((ble 2 2)&&(!false)))=true from rfl,ct]
  simp only[YP,UI,EO,u4]
  rw[DB h,F5,H2]
  cases Y:Gq 1 1048576 u.segs.l[j].width with
  |false=>simp
  | true =>
   cases I:Gq (-1048576) 1048576 u.segs.l[j].price with
   |false=>simp
   | true =>
    simp only[Gq,zJ,decide_eq_true_eq]at Y I
    have e2:wrap .i64 ((j:Int)+1)=((j+1:Nat):Int):=wS (by omega)
    have key:(cond (cond false true (decide (u.segs.l[j].width>d))) (K false) (Dr N K b u.av k (wrap .i64 (d - u.segs.l[j].width)) (wrap .i64 ((j:Int)+1))))=K (F5 u.segs.l[j].price (u.segs.l.drop (j+1))&&(u.segs.l[j].width+H2 (u.segs.l.drop (j+1))==d)):=by
     by_cases D:u.segs.l[j].width>d
     ·rw[show decide (u.segs.l[j].width>d)=true by simpa using D]
      simp only[cond_true,cond_false]
      congr 1
      cases hs:F5 u.segs.l[j].price (u.segs.l.drop (j+1))with
      |false=>rfl
      |true =>
       have:=SB hs
       symm;simp;omega
     ·rw[show decide (u.segs.l[j].width>d)=false by simpa using D]
      simp only[cond_false]
      have e1:wrap .i64 (d - u.segs.l[j].width)=d - u.segs.l[j].width:=i64 (by omega)
      rw[e1,e2,mo L m (j+1) k _ (by omega) (by omega) (by omega),Yx h]
      congr 1
      rw[Aa1];simp;omega
    rw[key]
    rcases j with _|j
    ·simp[SA,I.1]
    ·have C:j<u.segs.l.length:=by omega
     rw[wP (by omega),Aa C,ct,YO C,lT,ct]
     rw[show ∀ r:LA,drop 1 ((AV.int .i64 u.segs.l[j].width)::(AV.int .i64 u.segs.l[j].price)::r)=(AV.int .i64 u.segs.l[j].price)::r from fun _=>rfl,Az,Yx C]
     by_cases G:u.segs.l[j+1].price<u.segs.l[j].price
     ·simp[G,show ¬ u.segs.l[j].price<=u.segs.l[j+1].price by omega]
     ·simp[G,show u.segs.l[j].price<=u.segs.l[j+1].price by omega]
def sS{N:Nat}{u:UnitD}{b:Bool}{K:Bool->O R}(hN:64<=N)(C:0<=u.min/\u.min<=u.max)(D:u.max<=1048576):Mk N u.av b K=K (SC u):=by
 rw[W4];unfold Oa
 rw[u4]
 by_cases k:u.segs.l.length<=8
 ·rw[show decide ((u.segs.l.length:Int)>8)=false by simp;omega,cf,u3,u2,i64 (by omega)]
  have:=mo (b:=b) (N:=N) (K:=K) k u.segs.l.length 0 N (u.max - u.min) (by omega) (by omega) (by omega)
  simpa[SC,k,SA]using this
 ·rw[show decide ((u.segs.l.length:Int)>8)=true by simp;omega,ct]
  simp[SC,k]
def Y5(hi p:Int):List Int->Bool
|[]=>true
|x::r=>Gq 0 hi x&&(decide (p<x)&&Y5 hi x r)
def SF(l:List Int):Nat->Int
|0=>-1
|j+1=>(l[j]?).getD 0
def Y6{l:List Int}{j:Nat}(h:j<l.length):SF l (j+1)=l[j]:=by simp[SF,h]
def mq{N:Nat}{l:List Int}{e e':Bool}{f hi:Int}{K:Bool->O R}(hN:64<=N)(I:l.length<=1000000000000)(G:wrap .i64 (f - 1)=hi):∀(m j k:Nat),j+m=l.length->m<k ->
  Ew N K (Ao l) l.length e e' f k (l.length:Int) (j:Int)=K (Y5 hi (SF l j) (l.drop j))
|0,j,k+1,L,_=>by
  rw[Ew];unfold Jw
  rw[Wc (by omega),cf,GN (l:=l) (by omega),Y5]
| m+1,j,k+1,L,T=>by
  rw[Ew];unfold Jw
  have h:j<l.length:=by omega
  rw[T6 h,ct,Aa h,ct,Dh h,ve hN,G,wS (by omega),mq hN I G m (j+1) k (by omega) (by omega),DB h,Y5,Y6 h]
  cases Y:Gq 0 hi l[j]with
  |false=>simp
  | true =>
   simp only[Gq,zJ,decide_eq_true_eq]at Y
   rcases j with _|j
   ·simp[SF,show(-1:Int)<l[0] by omega]
   ·have C:j<l.length:=by omega
    rw[wP (by omega),Aa C,ct,Dh C,lT,ct,Y6 C]
    by_cases D:l[j]<l[j+1]
    ·simp[D,show ¬ l[j+1]<=l[j] by omega]
    ·simp[D,show l[j+1]<=l[j] by omega]
def sU{N:Nat}{l:List Int}{n:Nat}{e e':Bool}{f hi:Int}{K:Bool->O R}(hN:64<=N)(C:l.length<=1000000000000)(k:l.length<N)(D:n=l.length)(G:wrap .i64 (f - 1)=hi):Jx N (Ao l) n e e' f K=K (Y5 hi (-1) l):=by
 subst D
 rw[Wr];unfold N9
 have:=mq (N:=N) (e:=e) (e':=e') (K:=K) hN C G l.length 0 N (by omega) k
 simpa[SF]using this
def qh(u:UnitD):Bool:=cond (u.state==2) (Gq u.min u.max u.output) (u.output==0)
def js{N:Nat}{u:UnitD}{c:Bool}{f hi:Int}{K:Bool->O R}(I:u.away.l.length<=1000000000000)(G:wrap .i64 (f - 1)=hi):∀(m j k:Nat),j+m=u.away.l.length->m<k ->
  J6 N K f c u.av k (j:Int)=K (Y5 hi (SF u.away.l j) (u.away.l.drop j)&&qh u)
|0,j,k+1,L,_=>by
  rw[J6];unfold Ob
  rw[uP,Wc (by omega),cf,GN (l:=u.away.l) (by omega),Y5]
  simp only[tI,vO,u2,u3,EO,cK];rfl
| m+1,j,k+1,L,T=>by
  rw[J6];unfold Ob
  have h:j<u.away.l.length:=by omega
  rw[uP,T6 h,ct,uP,Aa h,ct,Dh h,EO,G,wS (by omega),js I G m (j+1) k (by omega) (by omega),DB h,Y5,Y6 h]
  cases Y:Gq 0 hi u.away.l[j]with
  |false=>simp
  | true =>
   simp only[Gq,zJ,decide_eq_true_eq]at Y
   rcases j with _|j
   ·simp[SF,show(-1:Int)<u.away.l[0] by omega]
   ·have C:j<u.away.l.length:=by omega
    rw[uP,Aa h,ct,Dh h,uP,wP (by omega),Aa C,ct,Dh C,lT,ct,Y6 C]
    by_cases D:u.away.l[j]<u.away.l[j+1]
    ·simp[D,show ¬ u.away.l[j+1]<=u.away.l[j] by omega]
    ·simp[D,show u.away.l[j+1]<=u.away.l[j] by omega]
def Bc(u:UnitD)(hours:Int):Bool :=
 Gq 1 24 hours&&(IZ u&&(Gq 0 1048576 u.min&&(Gq 0 1048576 u.max&&(Gq 0 1048576 u.rampUp&&(Gq 0 1048576 u.rampDown&&(Gq 0 1048576 u.reserve&&(decide (u.min<=u.max)&&(Gq u.min u.max u.startRamp&&(Gq u.min u.max u.stopRamp &&
 (Gq 0 1048576 u.noLoad&&(Gq 0 1048576 u.hotCost&&(Gq 0 1048576 u.coldCost&&(Gq 0 1048576 u.reservePrice&&(qh u&&(SC u&&Y5 (hours - 1) (-1) u.away.l)))))))))))))))
def aZ{N:Nat}{u:UnitD}{b:Bool}{k:Int}{K:Bool->O R}(hN:64<=N)(I:u.away.l.length<=1000000000000)(C:u.away.l.length<N):CS N u.av b k K=K (Bc u k):=by
 rw[LK];unfold EL
 rw[ve hN]
 unfold Bc
 cases L:Gq 1 24 k with
|false=>simp
| true =>
  have hh:1<=k/\k<=24:=by simpa[Gq]using L
  rw[YM,jo,ct,aY hN]
  cases IZ u with
  |false=>simp
  | true =>
   unfold Ud Yk
   simp only[u2,u3,u6,u7,vN,yj hN]
   cases D:Gq 0 1048576 u.min with
   |false=>simp
   | true =>
    cases G:Gq 0 1048576 u.max with
    |false=>simp
    |true =>
     unfold CQ
     simp only[Gq,zJ,decide_eq_true_eq]at D G
     simp only[u2,u3,u5,u8,u9,xh,xi,xk,tI,vO,uP,YM,jo,yh hN,yi hN,ve hN,ct,sR hN D G,sU hN I C rfl (i64 (a:=k - 1) (by omega))]
     simp[cK];congr 1
     unfold qh
     by_cases hs:u.state=2
     ·rw[Aa1];simp[hs];grind
     ·rw[Aa1];simp[hs];grind
def YQ{N:Nat}{u:UnitD}{b:Bool}{k:Int}{K:Bool->O R}(hN:64<=N)(Y:u.away.l.length<=1000000000000)(D:u.away.l.length<N):Rd N u.av b k K=K (Bc u k):=by
 rw[GO];unfold Y0
 rw[EO]
 unfold Bc
 cases h0:Gq 1 24 k with
|false=>simp
| true =>
  have hh:1<=k/\k<=24:=by simpa[Gq]using h0
  rw[YM,jo,ct,YN]
  cases IZ u with
  |false=>simp
  | true =>
   simp only[u2,u3,EO]
   cases L:Gq 0 1048576 u.min with
   |false=>simp
   | true =>
    simp only[Gq,zJ,decide_eq_true_eq]at L
    by_cases G:u.min<=u.max/\u.max<=1048576
    ·have I:Gq 0 1048576 u.max=true:=by simp[Gq];omega
     have C:Gq u.min 1048576 u.max=true:=by simp[Gq];omega
     unfold Qq Vl Yz Vk Yy Vj
     have T:=js (u:=u) (N:=N) (c:=b) (K:=K) Y (i64 (a:=k - 1) (by omega)) u.away.l.length 0 N (by omega) D
     simp only[SF,zy,Int.natCast_zero]at T
     simp only[u2,u3,u5,u6,u7,u8,u9,xh,xi,vN,xk,EO,ct,T,sS hN ⟨L.1,G.1⟩ G.2,I,C]
     simp[cK,G.1];congr 1
     rw[Aa1];simp;grind
    ·have C:Gq u.min 1048576 u.max=false:=by simp[Gq];omega
     simp only[C]
     have:(Gq 0 1048576 u.max&&decide (u.min<=u.max))=false:=by simp[Gq];omega
     simp;congr 1;symm
     cases h3:Gq 0 1048576 u.max with
     |false=>rfl
     |true =>
      rw[h3]at this
      simp at this
      simp;intro _ _ _ h5;omega
def lm{v n:Int}(k:0<n):Int.tmod (Int.tmod v n+n) n=v%n:=by
 have C:0<=Int.tmod v n+n:=by
  have:=Ae6 v k;omega
 rw[Int.tmod_eq_emod_of_nonneg C,Int.tmod_def,show v - n*v.tdiv n+n=v+n*(1 - v.tdiv n) by rw[Int.mul_sub];omega,Int.add_mul_emod_self_left]
def o7{v n:Int}(k:0<n)(C:n<=4611686018427387904):wrap .i64 (Int.tmod v n+n)=Int.tmod v n+n:=by
 have D:=Ae6 v k
 have G:=Int.tmod_lt_of_pos v k
 exact i64 (by omega)
def vf{N:Nat}{v n:Int}{K:Int->O R}(k:0<n)(C:n<=4611686018427387904):EF N v n K=K (v%n):=by
 rw[aD];unfold IC
 rw[o7 k C,lm k,show(n==0)=false by simp;omega,cf,cf]
def mr(v:Int){n:Int}(h:0<n):0<=v%n/\v%n<n:=⟨Int.emod_nonneg v (by omega),Int.emod_lt_of_pos v h⟩
def Fq(x y:Nat):Int:=if x<y then -1 else if y<x then 1 else 0
def Rf(x:Nat):Fq x x=0:=by unfold Fq;simp
def Y7{a b:Nat}(h:(Al a).length<(Al b).length):a<b:=Ac4 fun k=>by have:=Bf k;omega
def UJ{u w p q P:Nat}(k:u<P)(C:w<P)(h:p<q):u+P*p<w+P*q:=by
 have:P*(p+1)<=P*q:=zW _ h
 rw[zN]at this
 omega
def dD{N:Nat}{x y:List Nat}{t u:Bool}{K:Int->O R}(G:Ag x)(I:Ag y)(hs:x.length<=1000000000000)(T:x.length=y.length):∀(i k:Nat),i<=x.length->i<k ->
  Dx N K (Ad x) x.length t (Ad y) y.length u k ((i:Int) - 1)=K (Fq (val (x.take i)) (val (y.take i)))
|0,k+1,_,_=>by
  rw[Dx];unfold Il
  rw[show decide ((((0:Nat):Int) - 1)>=0)=false by simp,cf]
  simp[Rf]
| i+1,k+1,hi,Y=>by
  rw[Dx];unfold Il
  rw[show(((i+1:Nat):Int) - 1)=(i:Int) by omega,show decide ((i:Int)>=0)=true by simp,ct,Aa (by omega),ct,CB (by omega),Aa (by omega),ct,CB (by omega),ct,CB (by omega),ct,CB (by omega),i64 (by omega),
   dD G I hs T i k (by omega) (by omega),Au (by omega),Au (by omega)]
  have C:=Be (B7 G i)
  have D:=Be (B7 I i)
  rw[zT,zZ (by omega)]at C D
  by_cases c1:x[i]<y[i]
  ·have:=UJ C D c1
   rw[show decide (((x[i]:Nat):Int)<((y[i]:Nat):Int))=true by simp;exact c1,ct]
   unfold Fq;rw[if_pos this]
  ·by_cases L:y[i]<x[i]
   ·have:=UJ D C L
    rw[show decide (((x[i]:Nat):Int)<((y[i]:Nat):Int))=false by simp;omega,cf,show decide (((x[i]:Nat):Int)>((y[i]:Nat):Int))=true by simp;exact L,ct]
    unfold Fq;rw[if_neg (by omega),if_pos this]
   ·have:x[i]=y[i]:=by omega
    rw[show decide (((x[i]:Nat):Int)<((y[i]:Nat):Int))=false by simp;omega,cf,show decide (((x[i]:Nat):Int)>((y[i]:Nat):Int))=false by simp;omega,cf,this]
    unfold Fq
    congr 1
    by_cases a1:val (x.take i)<val (y.take i)
    ·rw[if_pos a1,if_pos (by omega)]
    ·by_cases a2:val (y.take i)<val (x.take i)
     ·rw[if_neg a1,if_pos a2,if_neg (by omega),if_pos (by omega)]
     ·rw[if_neg a1,if_neg a2,if_neg (by omega),if_neg (by omega)]
def Lf{N:Nat}{a b:List Nat}{n m:Nat}{t o t' o':Bool}{K:Int->O R}(I:n=a.length)(L:m=b.length)(C:Ag a)(D:Ag b)(k:fit (a.length+b.length) N):
  Dc N (Ad a) n t o (Ad b) m t' o' K=K (Fq (val a) (val b)):=by
 subst I L
 have Y:=k.1;have h2:=k.2
 rw[T1];unfold Lt
 dsimp only
 rw[Bi rfl C (k.le (by omega)),Bi rfl D (k.le (by omega))]
 have la:=(A7 C).2
 have lb:=(A7 D).2
 by_cases G:(Al (val a)).length=(Al (val b)).length
 ·rw[show((((Al (val a)).length:Nat):Int) != (((Al (val b)).length:Nat):Int))=false by simp;omega,cf,i64 (by omega),dD (Ac _) (Ac _) (by omega) G _ N (zE _) (by omega),zd,G,zd,Af,Af]
 ·rw[show((((Al (val a)).length:Nat):Int) != (((Al (val b)).length:Nat):Int))=true by simp;omega,ct]
  by_cases T:(Al (val a)).length<(Al (val b)).length
  ·have:=Y7 T
   rw[show decide ((((Al (val a)).length:Nat):Int)<(((Al (val b)).length:Nat):Int))=true by simp;omega,ct]
   unfold Fq;rw[if_pos this]
  ·have:=Y7 (show(Al (val b)).length<(Al (val a)).length by omega)
   rw[show decide ((((Al (val a)).length:Nat):Int)<(((Al (val b)).length:Nat):Int))=false by simp;omega,cf]
   unfold Fq;rw[if_neg (by omega),if_pos this]
def YR{N:Nat}{a:List Nat}{n:Nat}{t o:Bool}{K:Int->O R}(D:n=a.length)(G:Ag a)(k:fit a.length N):Ng N (Ad a) n t o K=K (Fq (val a) 0):=by
 subst D
 have I:=k.1;have L:=k.2
 rw[BZ];unfold Tz
 dsimp only
 rw[Bi rfl G k,oG (by omega)]
 by_cases C:val a=0
 ·rw[C,C6,Rf]
  cases N with
  |zero=>omega
  |succ N =>
   rw[Kg];unfold R4
   rw[i64 (by simp)];simp
 ·have T:(Al (val a)).length≠0:=fun h=>C (Bb.1 h)
  rw[show((((Al (val a)).length:Nat):Int) != (0:Int))=true by simp;exact fun h=>C (WF.1 h),ct]
  rw[show decide ((((Al (val a)).length:Nat):Int)<(0:Int))=false by simp,cf]
  unfold Fq;rw[if_neg (by omega),if_pos (by omega)]
end
end Gx
