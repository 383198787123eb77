/- A part of the proof; each theorem says what it holds. -/
import Derived.Laws.BitsLemmas
import Derived.Test.YtnlplnjnonldpaaGreatDoorP2
set_option linter.unusedVariables false
set_option linter.defProp false
set_option linter.unusedSimpArgs false
open Nat (ble beq)
open List (take drop replicate)
open Go.IntKind (wrap)
namespace Gx
open Go Go.Proofs
set_option maxRecDepth 100000
noncomputable section
variable {R:Type} (N:Nat)
def NQ (k1:LA→Nat→Bool→LA→Nat→Bool→O R) (r0:Nat→LA→O R) (k2:Int→Int→O R) (t l:Int):O R :=
 (cond (l != 0) (cond (l==0) none (k2 l (Int.tmod t l))) (Bu N t fun aj ak=>r0 aj ak))
def Rr (k1:LA→Nat→Bool→LA→Nat→Bool→O R) (r0:Nat→LA→O R):Nat→Int→Int→O R
 | 0,_,_=>none
 | n+1,t,l=>NQ N k1 r0 (Rr k1 r0 n) t l
def DL (r0:Nat→LA→O R) (k1:LA→Nat→Bool→LA→Nat→Bool→O R) (q2:Int→Int→O R) (c:LA) (a:Nat) (d:Bool) (f:LA) (b:Nat) (g:Bool):O R :=
 (cond (decide ((b:Int)>0)) (cond (decide ((a:Int)≤2)) (Th N c a false d fun al=>Th N f b false g fun am=>q2 al am) (DG N c a false d f b false g fun h=>cond ((beq (h.length) 5)&&((ble 5 5)&&(!false))) (As .u64 ((setCells [(.int .u64 0),(.int .u64 0),(.int .u64 0),(.int .u64 0),(.bool false)] 0 h).drop 2) fun an=>cond (an==0) (E8 N c a false d f b false g fun bh ae bi bj ao=>k1 f b g (ao.take (ae*1)) ae false) (Ud ((setCells [(.int .u64 0),(.int .u64 0),(.int .u64 0),(.int .u64 0),(.bool false)] 0 h).drop 4) fun ap=>cond ap (As .u64 (setCells [(.int .u64 0),(.int .u64 0),(.int .u64 0),(.int .u64 0),(.bool false)] 0 h) fun aq=>As .u64 ((setCells [(.int .u64 0),(.int .u64 0),(.int .u64 0),(.int .u64 0),(.bool false)] 0 h).drop 2) fun ar=>G4 N c a false d aq f b false g ar fun af au=>As .u64 ((setCells [(.int .u64 0),(.int .u64 0),(.int .u64 0),(.int .u64 0),(.bool false)] 0 h).drop 3) fun av=>As .u64 ((setCells [(.int .u64 0),(.int .u64 0),(.int .u64 0),(.int .u64 0),(.bool false)] 0 h).drop 1) fun aw=>G4 N f b false g av c a false d aw fun ag ax=>k1 (au.take (af*1)) af false (ax.take (ag*1)) ag false) (As .u64 ((setCells [(.int .u64 0),(.int .u64 0),(.int .u64 0),(.int .u64 0),(.bool false)] 0 h).drop 2) fun ay=>As .u64 (setCells [(.int .u64 0),(.int .u64 0),(.int .u64 0),(.int .u64 0),(.bool false)] 0 h) fun az=>G4 N f b false g ay c a false d az fun ah ba=>As .u64 ((setCells [(.int .u64 0),(.int .u64 0),(.int .u64 0),(.int .u64 0),(.bool false)] 0 h).drop 1) fun bb=>As .u64 ((setCells [(.int .u64 0),(.int .u64 0),(.int .u64 0),(.int .u64 0),(.bool false)] 0 h).drop 3) fun bc=>G4 N c a false d bb f b false g bc fun ai bd=>k1 (ba.take (ah*1)) ah false (bd.take (ai*1)) ai false))) none)) (W5 N c a false d fun be bf=>r0 be bf))
def E9 (r0:Nat→LA→O R):Nat→LA→Nat→Bool→LA→Nat→Bool→O R
 | 0,_,_,_,_,_,_=>none
 | n+1,c,a,d,f,b,g=>DL N r0 (E9 r0 n) (Rr N (E9 r0 n) r0 N) c a d f b g
def cU (N:Nat) (r0:Nat→LA→O R) (q1:LA→Nat→Bool→LA→Nat→Bool→O R) (u:LA) (v:Nat) (w:Bool) (x:LA) (y:Nat) (z:Bool):O R :=
 (q1 u v w x y z)
def WV (r0:Nat→LA→O R) (u:LA) (v:Nat) (w:Bool) (x:LA) (y:Nat) (z:Bool):O R:=(cU N r0 (E9 N r0 N) u v w x y z)
def pv (r0:Nat→LA→O R) (q0:LA→Nat→Bool→LA→Nat→Bool→O R) (m:LA) (o:Nat) (p i:Bool) (q:LA) (r:Nat) (s j:Bool):O R :=
 (Cp N m o p i fun aa ab=>Cp N q r s j fun ac ad=>Fk N aa ab false i ac ad false j fun bg=>cond (decide (bg<0)) (q0 ac ad j aa ab i) (q0 aa ab i ac ad j))
def cV:=(Af fun N m o p i q r s j r0=>pv (R:=R) N r0 (WV N r0) m o p i q r s j).1
theorem sk (m o p i q r s j r0):(@cV R N m o p i q r s j r0)=(pv N r0 (WV N r0) m o p i q r s j):=by rw[cV,(Af _).2]
def yP:Hints:={ H:=(hK 2 (hJ [0,1] hL (hS (hS (hP [0,1] (hK 1 (hS (hS (hK 1 (hS (hK 1 (hS (hS (hP [5,6] hL) hL) hL)) hL)) hL) hL))) hL) hL))),nils:=[(0,1000001),(1,1000001)],modes:=[(2,1)] }
def Afx:N0:=[Jx N,Qi N,ju N,Aa8 N,TR N,Abe N,BH N,Hp N]
def kI (F:KF R):=Hh Tryz.f230 yP (Afx N) [] N F
def Ao2 (K:St→O R):=fun t l=>K ⟨[(5,(.int .u64 t)),(6,(.int .u64 l))],[]⟩
def kJ (K:St→O R):=fun c a d f b g=>K ⟨[(0,(.imm c a 1 false d)),(1,(.imm f b 1 false g))],[]⟩
def Ao3 (K:St→O R):=fun u v w x y z=>K ⟨[(0,(.imm u v 1 false w)),(1,(.imm x y 1 false z))],[]⟩
theorem Abf (Q1) (F:KF R):∀ n,Ao2 (Ao (kI N F (pz 356532496) [Q1]) n)=(Rr N (kJ Q1) (Ca F) n):=D3 fun n e=>(Bn (NQ N (kJ Q1) (Ca F)) e:_)
theorem Abg (F:KF R):∀ n,kJ (Ao (kI N F (pz 1360) []) n)=(E9 N (Ca F) n):=D3 fun n e=>(Yq (DL N (Ca F)) e ((lW ..).trans ((Abf ..).trans (vO (Rr _ · _ _) e))):_)
theorem Abh (F:KF R):Ao3 (A0 (kI N F (pz 85) []))=(WV N (Ca F)):=(Bn (cU N (Ca F)) ((lW ..).trans (Abg ..)):_)
def Asa:=Bj N 230 (Afx N) yP (fun
 | [(.imm m o 1 p i),(.imm q r 1 s j)],[]=>some fun _ k=>cV N m o p i q r s j (Ca k)
 | _,_=>none) fun _ _=>by split;intro R F;exact(Bn (pv N (Ca F) · _ _ _ _ _ _ _ _) ((jW ..).trans (Abh ..)):_).trans (sk ..).symm;trivial
def cW (d:LA) (f:Bool) (i:LA) (j:Nat) (n l:Bool) (r0:LA→O R):O R :=
 (Ud d fun s=>Aw 1 (d.drop 1) fun t u=>cond (beq (d.length) 2) (pq N [(.bool s),(.imm t u 1 false f)] (f||false) fun m b g=>W5 N i j false l fun c h=>cond ((b:Int)==0) (r0 [(.bool false),.nsl,(.imm [(.int .u32 1)] 1 1 false false)]) (cV N (g.take (b*1)) b false true (h.take (c*1)) c false true fun a e=>cond (((a:Int) != 1)==false) (cond (Ae 0 a) (As .u32 e fun v=>cond (cond false true (v != 1)) (E8 N (g.take (b*1)) b false true (e.take (a*1)) a false true fun o aa ab w ac=>E8 N (h.take (c*1)) c false true (e.take (a*1)) a false true fun p ad ae x af=>r0 [(.bool m),(.imm (w.take (o*1)) o 1 false false),(.imm (x.take (p*1)) p 1 false false)]) (r0 [(.bool m),(.imm (g.take (b*1)) b 1 false false),(.imm (h.take (c*1)) c 1 false false)])) none) (E8 N (g.take (b*1)) b false true (e.take (a*1)) a false true fun q ag ah y ai=>E8 N (h.take (c*1)) c false true (e.take (a*1)) a false true fun r aj ak z al=>r0 [(.bool m),(.imm (y.take (q*1)) q 1 false false),(.imm (z.take (r*1)) r 1 false false)]))) none)
def JV:=(Af (@cW R)).1
theorem ZV:@JV R=@cW R:=(Af _).2
def Afy:=Bj N 210 [Aox N,BH N,Asa N,TR N] { H:=hL,modes:=[(3,0)],cob:=[2] } (fun
 | [(.pagg d f),(.imm i j 1 n l)],[]=>some fun _ k=>JV N d f i j n l (Da k)
 | _,_=>none) fun _ _=>by split;intro R F;dsimp only;rw[ZV];kernel_rfl;trivial
def fm (a:LA) (b:Bool) (r0:LA→O R):O R :=
 (cond (ble 3 (a.length)) (DB N (a.take 3) b fun e f g=>cond g (Rp N e f fun c=>cond ((beq 0 0)&&((beq (c.length) 3)&&(beq 3 3))) (cond (ble 3 (c.length)) (r0 (c.take 3)) none) none) (cond (ble 3 (a.length)) (TK N (a.take 3) b fun h i j l m=>JV N h i j l false m fun d=>cond ((beq 0 0)&&((beq (d.length) 3)&&(beq 3 3))) (cond (ble 3 (d.length)) (r0 (d.take 3)) none) none) none)) none)
def WW:=(Af (@fm R)).1
theorem TU:@WW R=@fm R:=(Af _).2
def kK:=Bj N 186 [Aj4 N,wZ N,s7 N,Afy N] Uh (fun
 | [(.pagg a b)],[]=>some fun _ k=>WW N a b (Da k)
 | _,_=>none) fun _ _=>by split;intro R F;dsimp only;rw[TU];kernel_rfl;trivial
def sn (b:LA) (c:Nat) (d e:Bool) (r0:Int→O R):O R :=
 (Cp N b c d e fun f a=>cond ((a:Int)==0) (r0 0) (cond (Ae (wrap .i64 ((a:Int) - 1)) a) (As .u32 (f.drop (((wrap .i64 ((a:Int) - 1)).toNat)*1)) fun g=>Hq N g fun h=>r0 (wrap .i64 ((wrap .i64 (32*(wrap .i64 ((a:Int) - 1))))+h))) none))
def NR:=(Af (@sn R)).1
theorem mz:@NR R=@sn R:=(Af _).2
def Ao4:=Bj N 187 [Jx N,FO N] Bg (fun
 | [(.imm b c 1 d e)],[]=>some fun _ k=>NR N b c d e (Mw k)
 | _,_=>none) fun _ _=>by split;intro R F;dsimp only;rw[mz];kernel_rfl;trivial
def sp (a:LA) (b:Bool) (r0:Int→O R):O R :=
 (cond (ble 3 (a.length)) (WW N (a.take 3) b fun c=>cond ((beq 0 0)&&((beq (c.length) 3)&&(beq 3 3))) (Aw 1 (c.drop 1) fun d e=>NR N d e false false fun f=>Aw 1 (c.drop 2) fun g h=>NR N g h false false fun i=>r0 (wrap .i64 (f+i))) none) none)
def pw:=(Af (@sp R)).1
theorem nA:@pw R=@sp R:=(Af _).2
def Ao5:=Bj N 162 [kK N,Ao4 N] Bg (fun
 | [(.pagg a b)],[]=>some fun _ k=>pw N a b (Mw k)
 | _,_=>none) fun _ _=>by split;intro R F;dsimp only;rw[nA];kernel_rfl;trivial
def TV (a:Int) (r0:Bool→Nat→LA→O R):O R :=
 (cond (decide (a<0)) (Bu N (wrap .u64 ((0:Int) - (wrap .u64 a))) fun b c=>En N true b c fun f=>r0 f b c) (Bu N (wrap .u64 a) fun d e=>En N false d e fun g=>r0 g d e))
def Iy:=(Af (@TV R)).1
theorem TW:@Iy R=@TV R:=(Af _).2
def AD:=Bj N 189 [Hp N,Nk N] Bg (fun
 | [(.int .i64 a)],[]=>some fun _ k=>Iy N a (vd k)
 | _,_=>none) fun _ _=>by split;intro R F;dsimp only;rw[TW];kernel_rfl;trivial
def TX (a:LA) (c:Bool) (b:LA) (d:Bool) (r0:Int→O R):O R :=
 (cond (ble 2 (a.length)) (Qh N (a.take 2) c fun e=>cond (ble 2 (b.length)) (Qh N (b.take 2) d fun f=>cond (decide (e<f)) (r0 (-1)) (cond (decide (e>f)) (r0 1) (cond (decide (e<0)) (Aw 1 (b.drop 1) fun g h=>Aw 1 (a.drop 1) fun i j=>Fk N g h false d i j false c fun l=>r0 l) (Aw 1 (a.drop 1) fun m n=>Aw 1 (b.drop 1) fun o p=>Fk N m n false c o p false d fun q=>r0 q)))) none) none)
def NS:=(Af (@TX R)).1
theorem TY:@NS R=@TX R:=(Af _).2
def Abi:=Bj N 188 [JM N,Qi N] Bg (fun
 | [(.pagg a c),(.pagg b d)],[]=>some fun _ k=>NS N a c b d (Mw k)
 | _,_=>none) fun _ _=>by split;intro R F;dsimp only;rw[TY];kernel_rfl;trivial
def Abj (a:LA) (c:Bool) (b:LA) (d:Bool) (r0:Bool→Nat→LA→O R):O R :=
 (Ud a fun g=>Ud b fun h=>Aw 1 (a.drop 1) fun i j=>Aw 1 (b.drop 1) fun l m=>cS N i j false c l m false d fun e f=>En N (!(g==h)) e f fun n=>r0 n e f)
def TZ:=(Af (@Abj R)).1
theorem sr:@TZ R=@Abj R:=(Af _).2
def Afz:=Bj N 241 [Afv N,Nk N] Bg (fun
 | [(.pagg a c),(.pagg b d)],[]=>some fun _ k=>TZ N a c b d (vd k)
 | _,_=>none) fun _ _=>by split;intro R F;dsimp only;rw[sr];kernel_rfl;trivial
def Abk (a:LA) (b:Bool) (r0:Bool→Nat→LA→O R):O R :=
 (Aw 1 (a.drop 1) fun e f=>W5 N e f false b fun c d=>En N false c d fun g=>r0 g c d)
def Abl:=(Af (@Abk R)).1
theorem su:@Abl R=@Abk R:=(Af _).2
def Asb:=Bj N 251 [BH N,Nk N] Bg (fun
 | [(.pagg a b)],[]=>some fun _ k=>Abl N a b (vd k)
 | _,_=>none) fun _ _=>by split;intro R F;dsimp only;rw[su];kernel_rfl;trivial
def DM (r0:Nat→LA→O R) (b:LA) (a:Nat) (d:Bool) (f:LA) (c:Nat) (g:Bool) (k1:Nat→Int→Int→Int→LA→O R) (j:Nat) (l v h:Int) (i:LA):O R :=
 (cond (decide (h<v)) (cond (Ae h a) (As .u32 (b.drop ((h.toNat)*1)) fun w=>cond (decide (h<(c:Int))) (cond (Ae h c) (As .u32 (f.drop ((h.toNat)*1)) fun z=>cond (Ae h j) (cond ((beq 1 1)&&((ble ((0+((h.toNat)*1))+1) (i.length))&&(!false))) (k1 j (Int.fdiv (wrap .u64 ((wrap .u64 (l+(wrap .u64 w)))+(wrap .u64 z))) (2 ^ 32)) v (wrap .i64 (h+1)) (i.set (0+((h.toNat)*1)) (.int .u32 (wrap .u32 (wrap .u64 ((wrap .u64 (l+(wrap .u64 w)))+(wrap .u64 z))))))) none) none) none) (cond (Ae h j) (cond ((beq 1 1)&&((ble ((0+((h.toNat)*1))+1) (i.length))&&(!false))) (k1 j (Int.fdiv (wrap .u64 (l+(wrap .u64 w))) (2 ^ 32)) v (wrap .i64 (h+1)) (i.set (0+((h.toNat)*1)) (.int .u32 (wrap .u32 (wrap .u64 (l+(wrap .u64 w))))))) none) none)) none) (cond (Ae (a:Int) j) (cond ((beq 1 1)&&((ble ((0+(a*1))+1) (i.length))&&(!false))) (DC N j (i.set (0+(a*1)) (.int .u32 (wrap .u32 l))) fun ac=>r0 ac (i.set (0+(a*1)) (.int .u32 (wrap .u32 l)))) none) none))
def Vu (r0:Nat→LA→O R) (b:LA) (a:Nat) (d:Bool) (f:LA) (c:Nat) (g:Bool):Nat→Nat→Int→Int→Int→LA→O R
 | 0,_,_,_,_,_=>none
 | n+1,j,l,v,h,i=>DM N r0 b a d f c g (Vu r0 b a d f c g n) j l v h i
def cX (N:Nat) (r0:Nat→LA→O R) (q1:LA→Nat→Bool→LA→Nat→Bool→Nat→Int→Int→Int→LA→O R) (b:LA) (a:Nat) (d:Bool) (f:LA) (c:Nat) (g:Bool):O R :=
 (cond ((decide (0≤(wrap .i64 ((a:Int)+1))))&&((decide ((wrap .i64 ((a:Int)+1))≤(wrap .i64 ((a:Int)+1))))&&((decide ((wrap .i64 ((a:Int)+1))≤140737488355328))&&(decide (((wrap .i64 ((a:Int)+1))*((4:Nat):Int))≤140737488355328))))) (q1 b a d f c g ((wrap .i64 ((a:Int)+1)).toNat) 0 (a:Int) 0 (replicate ((wrap .i64 ((a:Int)+1)).toNat) (.int .u32 0))) none)
def JW (r0:Nat→LA→O R) (b:LA) (a:Nat) (d:Bool) (f:LA) (c:Nat) (g:Bool):O R:=(cX N r0 (fun b a d f c g=>Vu N r0 b a d f c g N) b a d f c g)
def fq (r0:Nat→LA→O R) (q0:LA→Nat→Bool→LA→Nat→Bool→O R) (p:LA) (q:Nat) (r m:Bool) (s:LA) (t:Nat) (u o:Bool):O R :=
 (Cp N p q r m fun aa x=>Cp N s t u o fun ab y=>cond (decide ((x:Int)<(y:Int))) (q0 ab y o aa x m) (q0 aa x m ab y o))
def kL:=(Af fun N p q r m s t u o r0=>fq (R:=R) N r0 (JW N r0) p q r m s t u o).1
theorem cY (p q r m s t u o r0):(@kL R N p q r m s t u o r0)=(fq N r0 (JW N r0) p q r m s t u o):=by rw[kL,(Af _).2]
def yQ:Hints:={ H:=(hK 2 (hJ [0,1] hL (hK 2 (hS (hK 1 (hS (hP [0,1,5,6,24,25,26] hL) hL)) hL)))),nils:=[(4,1)],modes:=[(2,1)] }
def Af0:N0:=[Gb N]
def yR (F:KF R):=Hh Tryz.f260 yQ (Af0 N) [] N F
def Ao6 (b:LA) (a:Nat) (d:Bool) (f:LA) (c:Nat) (g:Bool) (K:St→O R):=fun j l v h i=>K ⟨[(0,(.imm b a 1 false d)),(1,(.imm f c 1 false g)),(5,(.own 300000 0 j)),(6,(.int .u64 l)),(24,(.imm b a 1 false d)),(25,(iv v)),(26,(iv h))],(hq [(bQ 1 i)])⟩
def Ao7 (K:St→O R):=fun b a d f c g=>K ⟨[(0,(.imm b a 1 false d)),(1,(.imm f c 1 false g))],[]⟩
theorem Abm (F:KF R) (b a d f c g):∀ n,Ao6 b a d f c g (Ao (yR N F (pz 87364) []) n)=(Vu N (Ca F) b a d f c g n):=D3 fun n e=>(Bn (DM N (Ca F) b a d f c g) e:_)
theorem Abn (F:KF R):Ao7 (A0 (yR N F (pz 85) []))=(JW N (Ca F)):=(Bn (cX N (Ca F)) (Ayg fun b a d f c g=>(lW ..).trans (Abm ..)):_)
def Af1:=Bj N 260 (Af0 N) yQ (fun
 | [(.imm p q 1 r m),(.imm s t 1 u o)],[]=>some fun _ k=>kL N p q r m s t u o (Ca k)
 | _,_=>none) fun _ _=>by split;intro R F;exact(Bn (fq N (Ca F) · _ _ _ _ _ _ _ _) ((jW ..).trans (Abn ..)):_).trans (cY ..).symm;trivial
def H8 (r0:LA→LA→Bool→O R) (d a:Nat) (f:Bool) (b:LA) (e:Bool) (c g h:LA) (i:Bool):O R :=
 (cond i (kL N (g.take (d*1)) d false true [(.int .u32 1)] 1 false true fun j m=>Aw 1 (c.drop 1) fun o p=>NO N o p false e (h.take (a*1)) a false true fun l ae n=>Ud b fun q=>Ud c fun r=>En N (!(q==r)) j m fun s=>En N false l n fun t=>r0 [(.bool s),(.imm (m.take (j*1)) j 1 false false)] [(.bool t),(.imm (n.take (l*1)) l 1 false false)] true) (Ud b fun u=>Ud c fun v=>En N (!(u==v)) d g fun w=>En N false a h fun x=>r0 [(.bool w),(.imm (g.take (d*1)) d 1 false false)] [(.bool x),(.imm (h.take (a*1)) a 1 false false)] true))
def NT (r0:LA→LA→Bool→O R) (q0:Nat→Nat→LA→LA→Bool→O R) (b:LA) (f:Bool) (c:LA) (e:Bool):O R :=
 (Aw 1 (b.drop 1) fun y z=>Aw 1 (c.drop 1) fun aa ab=>E8 N y z false f aa ab false e fun d a ac g h=>cond (!ac) (r0 [(.bool false),.nsl] [(.bool false),.nsl] false) (Ud b fun ad=>cond (ad==true) (q0 d a g h (cond true (decide ((a:Int)>0)) false)) (q0 d a g h false)))
def Vv:=(Af fun N b f c e r0=>NT (R:=R) N r0 (fun d a g h=>H8 N r0 d a f b e c g h) b f c e).1
theorem ZW (b f c e r0):(@Vv R N b f c e r0)=(NT N r0 (fun d a g h=>H8 N r0 d a f b e c g h) b f c e):=by rw[Vv,(Af _).2]
def ft:Hints:={ H:=(hK 3 (hS (hJ [2,3,4,5,7,8,28] hL hL) hL)),modes:=[(3,0),(3,0),(0,0)] }
def nB:N0:=[TR N,Af1 N,si N,Nk N]
def Abo (F:KF R):=Hh Tryz.f252 ft (nB N) [] N F
def Abp (d a:Nat) (f:Bool) (b:LA) (e:Bool) (c g h:LA) (K:St→O R):=fun i=>K ⟨[(2,(op 0)),(3,(op 1)),(4,(op 2)),(5,(op 3)),(7,(.own 300004 0 d)),(8,(.own 300005 0 a)),(28,(.bool i))],(hq [(bP f 0 b),(bP e 0 c),(bN 0 [(.bool false),.nsl]),(bN 0 [(.bool false),.nsl]),(bQ 1 g),(bQ 1 h)])⟩
theorem ot (F:KF R) (d a f b e c g h):Abp d a f b e c g h (A0 (Abo N F (pz 1361) []))=(H8 N (Amb F) d a f b e c g h):=by kernel_rfl
def Af2:=Bj N 252 (nB N) ft (fun
 | [(.pagg b f),(.pagg c e)],[]=>some fun _ k=>Vv N b f c e (Amb k)
 | _,_=>none) fun _ _=>by split;intro R F;exact(Bn (NT N (Amb F) · _ _ _ _) (Ah5 fun d a g h=>(jW ..).trans (ot ..)):_).trans (ZW ..).symm;trivial
def X8 (N:Nat) (r0:Int→Bool→O R) (b:Int) (c:Bool) (a:LA) (d:Bool):O R :=
 (cond d (r0 (wrap .i64 (wrap .u64 ((0:Int) - b))) true) (Ud a fun e=>cond ((!e)==true) (cond (cond true (decide (b<9223372036854775808)) false) (r0 (wrap .i64 b) true) (r0 0 false)) (r0 0 false)))
def WX (r0:Int→Bool→O R) (q0:Int→Bool→O R) (a:LA) (c:Bool):O R :=
 (Aw 1 (a.drop 1) fun f g=>BF N f g false c fun b h=>cond (!h) (r0 0 false) (Ud a fun i=>cond (i==true) (q0 b (cond true (decide (b≤9223372036854775808)) false)) (q0 b false)))
def DN:=(Af fun N a c r0=>WX (R:=R) N r0 (fun b=>X8 N r0 b c a) a c).1
theorem fu (a c r0):(@DN R N a c r0)=(WX N r0 (fun b=>X8 N r0 b c a) a c):=by rw[DN,(Af _).2]
def nC:Hints:={ H:=(hK 2 (hS (hS (hK 2 (hJ [1,4,15] hL hL)) hL) hL)) }
def sv:N0:=[mt N]
def Af3 (F:KF R):=Hh Tryz.f253 nC (sv N) [] N F
def Af4 (b:Int) (c:Bool) (a:LA) (K:St→O R):=fun d=>K ⟨[(1,(op 0)),(4,(.int .u64 b)),(15,(.bool d))],(hq [(bP c 0 a)])⟩
theorem sw (F:KF R) (b c a):Af4 b c a (A0 (Af3 N F (pz 21525) []))=(X8 N (YV F) b c a):=by kernel_rfl
def Aj5:=Bj N 253 (sv N) nC (fun
 | [(.pagg a c)],[]=>some fun _ k=>DN N a c (YV k)
 | _,_=>none) fun _ _=>by split;intro R F;exact(Bn (WX N (YV F) · _ _) (Ai5 fun b=>(jW ..).trans (sw ..)):_).trans (fu ..).symm;trivial
def Abq (a:LA) (b:Bool) (r0:Bool→Nat→LA→O R):O R :=
 (Ud a fun e=>Aw 1 (a.drop 1) fun f g=>W5 N f g false b fun c d=>En N (!e) c d fun h=>r0 h c d)
def Abr:=(Af (@Abq R)).1
theorem sx:@Abr R=@Abq R:=(Af _).2
def Asc:=Bj N 242 [BH N,Nk N] Bg (fun
 | [(.pagg a b)],[]=>some fun _ k=>Abr N a b (vd k)
 | _,_=>none) fun _ _=>by split;intro R F;dsimp only;rw[sx];kernel_rfl;trivial
def fv (a:LA) (c:Bool) (b:LA) (d:Bool) (r0:Bool→Nat→LA→O R):O R :=
 (Ud a fun l=>Ud b fun m=>cond (l==m) (Ud a fun n=>Aw 1 (a.drop 1) fun o p=>Aw 1 (b.drop 1) fun q r=>kL N o p false c q r false d fun e f=>En N n e f fun s=>r0 s e f) (Aw 1 (a.drop 1) fun t u=>Aw 1 (b.drop 1) fun v w=>NO N t u false c v w false d fun g x h=>cond x (Ud a fun y=>En N y g h fun z=>r0 z g h) (Aw 1 (b.drop 1) fun aa ab=>Aw 1 (a.drop 1) fun ac ad=>NO N aa ab false d ac ad false c fun i ag j=>Ud b fun ae=>En N ae i j fun af=>r0 af i j)))
def Abs:=(Af (@fv R)).1
theorem NU:@Abs R=@fv R:=(Af _).2
def Asd:=Bj N 240 [Af1 N,Nk N,si N] Bg (fun
 | [(.pagg a c),(.pagg b d)],[]=>some fun _ k=>Abs N a c b d (vd k)
 | _,_=>none) fun _ _=>by split;intro R F;dsimp only;rw[NU];kernel_rfl;trivial
def qA (b:LA) (d:Bool) (c:LA) (a:Bool) (r0:LA→Bool→O R):O R :=
 (Ud b fun i=>Aw 1 (b.drop 1) fun j l=>cond (beq (b.length) 2) (Ud c fun f=>Aw 1 (c.drop 1) fun g h=>cond (beq (c.length) 2) (Qh N [(.bool f),(.imm g h 1 false a)] (a||false) fun m=>cond (m==0) (r0 [(.bool false),.nsl,.nsl] false) (WW N [(.bool (!(i==f))),(.imm j l 1 false d),(.imm g h 1 false a)] (d||(a||false)) fun e=>cond ((beq 0 0)&&((beq (e.length) 3)&&(beq 3 3))) (cond (ble 3 (e.length)) (r0 (e.take 3) true) none) none)) none) none)
def Abt:=(Af (@qA R)).1
theorem cZ:@Abt R=@qA R:=(Af _).2
def Ase:=Bj N 217 [JM N,kK N] { H:=hL,modes:=[(3,0),(0,0)],cob:=[2,3] } (fun
 | [(.pagg b d),(.pagg c a)],[]=>some fun _ k=>Abt N b d c a (Xq k)
 | _,_=>none) fun _ _=>by split;intro R F;dsimp only;rw[cZ];kernel_rfl;trivial
def kM (a:LA) (b:Bool) (r0:LA→O R):O R :=
 (cond (ble 2 (a.length)) (Aw 1 (a.drop 2) fun d e=>Tf N (a.take 2) b [(.bool false),(.imm d e 1 false b)] (b||false) fun c=>cond ((beq 0 0)&&((beq (c.length) 3)&&(beq 3 3))) (cond (ble 3 (c.length)) (r0 (c.take 3)) none) none) none)
def X9:=(Af (@kM R)).1
theorem fw:@X9 R=@kM R:=(Af _).2
def NV:=Bj N 182 [NH N] Uh (fun
 | [(.pagg a b)],[]=>some fun _ k=>X9 N a b (Da k)
 | _,_=>none) fun _ _=>by split;intro R F;dsimp only;rw[fw];kernel_rfl;trivial
def sy (a:LA) (b:Bool) (r0:LA→O R):O R :=
 (cond (ble 3 (a.length)) (X9 N (a.take 3) b fun c=>Aw 1 (c.drop 2) fun d e=>r0 [(.bool false),(.imm d e 1 false false)]) none)
def FU:=(Af (@sy R)).1
theorem nD:@FU R=@sy R:=(Af _).2
def yS:=Bj N 220 [NV N] Uh (fun
 | [(.pagg a b)],[]=>some fun _ k=>FU N a b (Da k)
 | _,_=>none) fun _ _=>by split;intro R F;dsimp only;rw[nD];kernel_rfl;trivial
def tA (a:LA) (b:Bool) (r0:LA→O R):O R :=
 (cond (ble 3 (a.length)) (X9 N (a.take 3) b fun d=>cond (ble 2 (d.length)) (FJ N (d.take 2) false fun e=>cond (ble 3 (a.length)) (FU N (a.take 3) b fun f=>Tf N e false f false fun c=>cond ((beq 0 0)&&((beq (c.length) 3)&&(beq 3 3))) (cond (ble 3 (c.length)) (r0 (c.take 3)) none) none) none) none) none)
def qB:=(Af (@tA R)).1
theorem nE:@qB R=@tA R:=(Af _).2
def Ao8:=Bj N 196 [NV N,jr N,yS N,NH N] Uh (fun
 | [(.pagg a b)],[]=>some fun _ k=>qB N a b (Da k)
 | _,_=>none) fun _ _=>by split;intro R F;dsimp only;rw[nE];kernel_rfl;trivial
def FV (N:Nat) (k0:Nat→Int→LA→O R) (r0:Nat→LA→O R) (c:LA) (b:Nat) (f g:Bool) (d:LA) (a:Nat) (h i:Bool) (j:Nat) (k1:Int→Int→Int→LA→O R) (l p m:Int) (o:LA):O R :=
 (cond (decide (m<(a:Int))) (cond (Ae (wrap .i64 (l+m)) j) (As .u32 (o.drop (0+(((wrap .i64 (l+m)).toNat)*1))) fun s=>cond (Ae l b) (As .u32 (c.drop ((l.toNat)*1)) fun t=>cond (Ae m a) (As .u32 (d.drop ((m.toNat)*1)) fun u=>cond (Ae (wrap .i64 (l+m)) j) (cond ((beq 1 1)&&((ble ((0+(((wrap .i64 (l+m)).toNat)*1))+1) (o.length))&&(!false))) (k1 l (Int.fdiv (wrap .u64 (p+(wrap .u64 ((wrap .u64 s)+(wrap .u64 ((wrap .u64 t)*(wrap .u64 u))))))) (2 ^ 32)) (wrap .i64 (m+1)) (o.set (0+(((wrap .i64 (l+m)).toNat)*1)) (.int .u32 (wrap .u32 (wrap .u64 (p+(wrap .u64 ((wrap .u64 s)+(wrap .u64 ((wrap .u64 t)*(wrap .u64 u))))))))))) none) none) none) none) none) (cond (Ae (wrap .i64 (l+(a:Int))) j) (cond ((beq 1 1)&&((ble ((0+(((wrap .i64 (l+(a:Int))).toNat)*1))+1) (o.length))&&(!false))) (k0 j (wrap .i64 (l+1)) (o.set (0+(((wrap .i64 (l+(a:Int))).toNat)*1)) (.int .u32 (wrap .u32 p)))) none) none))
def Q8 (k0:Nat→Int→LA→O R) (r0:Nat→LA→O R) (c:LA) (b:Nat) (f g:Bool) (d:LA) (a:Nat) (h i:Bool) (j:Nat):Nat→Int→Int→Int→LA→O R
 | 0,_,_,_,_=>none
 | n+1,l,p,m,o=>FV N k0 r0 c b f g d a h i j (Q8 k0 r0 c b f g d a h i j n) l p m o
def FW (r0:Nat→LA→O R) (c:LA) (b:Nat) (f g:Bool) (d:LA) (a:Nat) (h i:Bool) (k0:Nat→Int→LA→O R) (q1:Nat→Int→Int→Int→LA→O R) (j:Nat) (q:Int) (r:LA):O R :=
 (cond (decide (q<(b:Int))) (q1 j q 0 0 r) (Dz N (r.take (j*1)) j false true fun v w=>r0 v w))
def K5 (r0:Nat→LA→O R) (c:LA) (b:Nat) (f g:Bool) (d:LA) (a:Nat) (h i:Bool):Nat→Nat→Int→LA→O R
 | 0,_,_,_=>none
 | n+1,j,q,r=>FW N r0 c b f g d a h i (K5 r0 c b f g d a h i n) (fun j=>Q8 N (K5 r0 c b f g d a h i n) r0 c b f g d a h i j N) j q r
def fx (N:Nat) (r0:Nat→LA→O R) (q0:Nat→Int→LA→O R) (c:LA) (b:Nat) (f g:Bool) (d:LA) (a:Nat) (h i:Bool):O R :=
 (cond ((decide (0≤(wrap .i64 ((b:Int)+(a:Int)))))&&((decide ((wrap .i64 ((b:Int)+(a:Int)))≤(wrap .i64 ((b:Int)+(a:Int)))))&&((decide ((wrap .i64 ((b:Int)+(a:Int)))≤140737488355328))&&(decide (((wrap .i64 ((b:Int)+(a:Int)))*((4:Nat):Int))≤140737488355328))))) (q0 ((wrap .i64 ((b:Int)+(a:Int))).toNat) 0 (replicate ((wrap .i64 ((b:Int)+(a:Int))).toNat) (.int .u32 0))) none)
def fy:=(Af fun N c b f g d a h i r0=>fx (R:=R) N r0 (K5 N r0 c b f g d a h i N) c b f g d a h i).1
theorem nF (c b f g d a h i r0):(@fy R N c b f g d a h i r0)=(fx N r0 (K5 N r0 c b f g d a h i N) c b f g d a h i):=by rw[fy,(Af _).2]
def tB:Hints:={ H:=(hK 2 (hS (hK 1 (hS (hP [0,1,5,6] (hK 1 (hS (hS (hK 1 (hS (hK 1 (hS (hP [0,1,5,6,7,8] hL) hL)) hL)) hL) hL))) hL)) hL)),nils:=[(4,1)],modes:=[(2,1)] }
def yT:N0:=[It N]
def tC (F:KF R):=Hh Tryz.f243 tB (yT N) [] N F
def Aj6 (c:LA) (b:Nat) (f g:Bool) (d:LA) (a:Nat) (h i:Bool) (j:Nat) (K:St→O R):=fun l p m o=>K ⟨[(0,(.imm c b 1 f g)),(1,(.imm d a 1 h i)),(5,(.own 300000 0 j)),(6,(iv l)),(7,(.int .u64 p)),(8,(iv m))],(hq [(bQ 1 o)])⟩
def c_ (c:LA) (b:Nat) (f g:Bool) (d:LA) (a:Nat) (h i:Bool) (K:St→O R):=fun j q r=>K ⟨[(0,(.imm c b 1 f g)),(1,(.imm d a 1 h i)),(5,(.own 300000 0 j)),(6,(iv q))],(hq [(bQ 1 r)])⟩
theorem wc (Q0) (F:KF R) (c b f g d a h i j):∀ n,Aj6 c b f g d a h i j (Ao (tC N F (pz 88346692) [Q0]) n)=(Q8 N (c_ c b f g d a h i Q0) (Ca F) c b f g d a h i j n):=D3 fun n e=>(Bn (FV N (c_ c b f g d a h i Q0) (Ca F) c b f g d a h i j) e:_)
theorem wd (F:KF R) (c b f g d a h i):∀ n,c_ c b f g d a h i (Ao (tC N F (pz 1348) []) n)=(K5 N (Ca F) c b f g d a h i n):=D3 fun n e=>(Yq (FW N (Ca F) c b f g d a h i) e (Ai5 fun j=>(lW ..).trans ((wc ..).trans (vO (Q8 _ · _ _ _ _ _ _ _ _ _ _ _) e))):_)
def Ao9:=Bj N 243 (yT N) tB (fun
 | [(.imm c b 1 f g),(.imm d a 1 h i)],[]=>some fun _ k=>fy N c b f g d a h i (Ca k)
 | _,_=>none) fun _ _=>by split;intro R F;exact(Bn (fx N (Ca F) · _ _ _ _ _ _ _ _) ((lW ..).trans (wd ..)):_).trans (nF ..).symm;trivial
def tD (a:LA) (c:Bool) (b:LA) (d:Bool) (r0:LA→O R):O R :=
 (Ud a fun g=>Ud b fun h=>Aw 1 (a.drop 1) fun i j=>Aw 1 (b.drop 1) fun l m=>fy N i j false c l m false d fun f n=>G2 N (!(g==h)) (n.take (f*1)) f false true fun e=>cond ((beq 0 0)&&((beq (e.length) 2)&&(beq 2 2))) (cond (ble 2 (e.length)) (r0 (e.take 2)) none) none)
def NW:=(Af (@tD R)).1
theorem nG:@NW R=@tD R:=(Af _).2
def Apa:=Bj N 219 [Ao9 N,Ni N] Uh (fun
 | [(.pagg a c),(.pagg b d)],[]=>some fun _ k=>NW N a c b d (Da k)
 | _,_=>none) fun _ _=>by split;intro R F;dsimp only;rw[nG];kernel_rfl;trivial
def tE (a:LA) (c:Bool) (b:LA) (d:Bool) (r0:LA→O R):O R :=
 (cond (ble 3 (a.length)) (X9 N (a.take 3) c fun e=>cond (ble 3 (b.length)) (X9 N (b.take 3) d fun f=>cond ((beq 0 0)&&((beq (e.length) 3)&&(beq 3 3))) (cond ((beq 0 0)&&((beq (f.length) 3)&&(beq 3 3))) (cond (ble 2 (e.length)) (cond (ble 3 (b.length)) (FU N (b.take 3) d fun h=>NW N (e.take 2) false h false fun i=>cond (ble 2 (f.length)) (cond (ble 3 (a.length)) (FU N (a.take 3) c fun j=>NW N (f.take 2) false j false fun l=>FI N i false l false fun m=>cond (ble 3 (a.length)) (FU N (a.take 3) c fun n=>cond (ble 3 (b.length)) (FU N (b.take 3) d fun o=>NW N n false o false fun p=>Tf N m false p false fun g=>cond ((beq 0 0)&&((beq (g.length) 3)&&(beq 3 3))) (cond (ble 3 (g.length)) (r0 (g.take 3)) none) none) none) none) none) none) none) none) none) none) none) none)
def qC:=(Af (@tE R)).1
theorem nH:@qC R=@tE R:=(Af _).2
def Apb:=Bj N 195 [NV N,yS N,Apa N,jq N,NH N] Uh (fun
 | [(.pagg a c),(.pagg b d)],[]=>some fun _ k=>qC N a c b d (Da k)
 | _,_=>none) fun _ _=>by split;intro R F;dsimp only;rw[nH];kernel_rfl;trivial
def tF (a:LA) (c:Bool) (b:LA) (d:Bool) (r0:LA→O R):O R :=
 (cond (ble 3 (a.length)) (cond (ble 3 (b.length)) (qB N (b.take 3) d fun f=>qC N (a.take 3) c f false fun e=>cond ((beq 0 0)&&((beq (e.length) 3)&&(beq 3 3))) (cond (ble 3 (e.length)) (r0 (e.take 3)) none) none) none) none)
def qD:=(Af (@tF R)).1
theorem nI:@qD R=@tF R:=(Af _).2
def Apc:=Bj N 173 [Ao8 N,Apb N] Uh (fun
 | [(.pagg a c),(.pagg b d)],[]=>some fun _ k=>qD N a c b d (Da k)
 | _,_=>none) fun _ _=>by split;intro R F;dsimp only;rw[nI];kernel_rfl;trivial
def kN (a:LA) (b:Bool) (r0:Int→O R):O R :=
 (cond (ble 3 (a.length)) (X9 N (a.take 3) b fun c=>cond (ble 2 (c.length)) (JI N (c.take 2) false fun d=>r0 d) none) none)
def gA:=(Af (@kN R)).1
theorem gB:@gA R=@kN R:=(Af _).2
def Aj7:=Bj N 156 [NV N,sJ N] Bg (fun
 | [(.pagg a b)],[]=>some fun _ k=>gA N a b (Mw k)
 | _,_=>none) fun _ _=>by split;intro R F;dsimp only;rw[gB];kernel_rfl;trivial
def NX (a:LA) (c:Bool) (b:LA) (d:Bool) (r0:Int→O R):O R :=
 (cond (ble 3 (a.length)) (cond (ble 3 (b.length)) (qD N (a.take 3) c (b.take 3) d fun e=>gA N e false fun f=>r0 f) none) none)
def Ya:=(Af (@NX R)).1
theorem QG:@Ya R=@NX R:=(Af _).2
def wg:=Bj N 126 [Apc N,Aj7 N] Bg (fun
 | [(.pagg a c),(.pagg b d)],[]=>some fun _ k=>Ya N a c b d (Mw k)
 | _,_=>none) fun _ _=>by split;intro R F;dsimp only;rw[QG];kernel_rfl;trivial
end
end Gx
namespace Gx
open Go Go.Proofs
section
variable {R:Type}
theorem gC:∀ {S:List Nat} {d v:Nat} (h:d<S.length),val (S.set d v)+4294967296 ^ d*S[d]=val S+4294967296 ^ d*v
 | x::r,0,v,_=>by simp[val];omega
 | x::r,d+1,v,h=>by
  have e:=gC (S:=r) (d:=d) (v:=v) (by simpa using h)
  simp only[List.set_cons_succ,val,A39,A0i]
  have e1:∀ y,4294967296 ^ d*4294967296*y=4294967296*(4294967296 ^ d*y):=fun y=>by rw[Az8 (4294967296 ^ d),A0c]
  rw[e1,e1]
  omega
theorem Rs (b:List Nat) (d:Nat):val (b.take (d+1))=val (b.take d)+4294967296 ^ d*b.getD d 0:=by
 by_cases h:d<b.length
 ·rw[Av h,A0e,Az6 h];rfl
 ·rw[Az0 (by omega),Az0 (by omega),A0e,A1f (by omega)];simp
theorem Nn (P s:Nat):P*(s%4294967296)+P*4294967296*(s/4294967296)=P*s:=by
 rw[A0c,←A0h,A2v,A1e]
def Apd (S:List Nat) (d:Nat):Prop:=∀ j (h:j<S.length),d≤j→S[j]=0
theorem FX {S:List Nat} {d v:Nat} (h:Apd S d):Apd (S.set d v) (d+1):=fun j e k=>by
 rw[A31]
 rw[if_neg (by omega)]
 exact h j (by simpa using e) (by omega)
theorem L0 (n:Nat):Apd (replicate n 0) 0:=fun j e _=>by simp
theorem W8 {S:List Nat} {d v:Nat} (h:Apd S d) (e:d<S.length):val (S.set d v)=val S+4294967296 ^ d*v:=by
 have:=gC (v:=v) e
 rw[h d e (Az3 _)] at this;simpa using this
theorem Azg {a:Nat} (h:a≤1000000000000):wrap .i64 ((a:Int)+(1:Int))=((a+1:Nat):Int):=wS h
theorem Axu {x:Nat} {m:List Nat} (h:x<m.length):((beq 1 1)&&((ble ((0+(x*1))+1) (List.length (Ag m)))&&(!false)))=true:=by
 rw[Bo];simp;omega
theorem Avw {x v:Nat} {m:List Nat}:List.set (Ag m) (0+(x*1)) (.int .u32 (v:Int))=Ag (m.set x v):=by rw[A0b,A0g,fQ]
theorem tG {N:Nat} {a b:List Nat} {t u:Bool} (C:Ak a) (D:Ak b) (n:fit (a.length+1) N) (q:b.length≤a.length):∀ (m d fuel:Nat) (S:List Nat) (c:Nat),d+m=a.length→m<fuel→Ak S→S.length=a.length+1→Apd S d→c≤1 →
  val S+4294967296 ^ d*c=val (a.take d)+val (b.take d) →
  ∃ S',Ak S'∧S'.length=a.length+1∧val S'=val a+val b∧∀ K:Nat→LA→O R,Vu N K (Ag a) a.length t (Ag b) b.length u fuel (a.length+1) (c:Int) (a.length:Int) (d:Int) (Ag S)=K (Al (val a+val b)).length (Ag S')
 | 0,d,fuel+1,S,c,X,_,hS,v,z,Y,V=>by
  have h1:=n.1;have h2:=n.2
  have F:d=a.length:=by omega
  subst F
  have A:val (S.set a.length c)=val a+val b:=by
   rw[W8 z (by omega),V,A06,Az0 q]
  have B:=Co hS (show c<4294967296 by omega) a.length
  refine⟨S.set a.length c,B,by simpa using v,A,fun K=>?_⟩
  rw[Vu];unfold DM
  rw[H2 (Az3 _),cf,Aa (by omega),ct,Axu (by omega),ct,Amq (by omega),Avw,JO (by simp;omega) B (by simp only[List.length_set,v];exact n),A]
 | m+1,d,fuel+1,S,c,X,hfu,hS,v,z,Y,V=>by
  have h1:=n.1;have h2:=n.2
  have j:d<a.length:=by omega
  have ad:=Ay C j
  have step:∀ s:Nat,s<8589934592→s=c+a[d]+b.getD d 0→val (S.set d (s%4294967296))+4294967296 ^ (d+1)*(s/4294967296)=val (a.take (d+1))+val (b.take (d+1)):=by
   intro s _ hs
   rw[W8 z (by omega),Av j,Rs b d,A0i]
   have e:=Nn (4294967296 ^ d) s
   have e2:4294967296 ^ d*s=4294967296 ^ d*c+4294967296 ^ d*a[d]+4294967296 ^ d*b.getD d 0:=by rw[hs,A0h,A0h]
   omega
  by_cases k:d<b.length
  ·have bd:=Ay D k
   have G:b.getD d 0=b[d]:=by rw[A0e,Az6 k];rfl
   obtain⟨S',I,L,T,U⟩:=tG (t:=t) (u:=u) C D n q m (d+1) fuel (S.set d ((c+a[d]+b[d])%4294967296)) ((c+a[d]+b[d])/4294967296) (by omega) (by omega) (Co hS (by omega) d) (by simpa using v) (FX z) (by omega) (step _ (by omega) (by rw[G]))
   refine⟨S',I,L,T,fun K=>?_⟩
   rw[Vu];unfold DM
   rw[Gh j,ct,Aa j,ct,QA j,Gh k,ct,Aa k,ct,QA k,Aa (by omega),ct,xe (by omega),ct,In (by omega),In (by omega),HB,In (by omega),HB,In (by omega),jf,cD,TM,wS (by omega)]
   exact U K
  ·have G:b.getD d 0=0:=by rw[A0e,A1f (by omega)];rfl
   obtain⟨S',I,L,T,U⟩:=tG (t:=t) (u:=u) C D n q m (d+1) fuel (S.set d ((c+a[d])%4294967296)) ((c+a[d])/4294967296) (by omega) (by omega) (Co hS (by omega) d) (by simpa using v) (FX z) (by omega) (step _ (by omega) (by rw[G];rfl))
   refine⟨S',I,L,T,fun K=>?_⟩
   rw[Vu];unfold DM
   rw[Gh j,ct,Aa j,ct,QA j,H2 (by omega),cf,Aa (by omega),ct,xe (by omega),ct,In (by omega),HB,In (by omega),jf,cD,TM,wS (by omega)]
   exact U K
theorem Asf {N:Nat} {a b:List Nat} {t u:Bool} (k:Ak a) (n:Ak b) (e:fit (a.length+1) N) (j:b.length≤a.length) :
  ∃ S',Ak S'∧val S'=val a+val b∧∀ K:Nat→LA→O R,JW N K (Ag a) a.length t (Ag b) b.length u=K (Al (val a+val b)).length (Ag S'):=by
 have z:=e.1;have A:=e.2
 obtain⟨S',q,_,s,v⟩:=tG (R:=R) (t:=t) (u:=u) k n e j a.length 0 N (replicate (a.length+1) 0) 0 (by omega) (by omega) (Cl _) (by simp) (L0 _) (by omega) (by rw[D6];simp[val])
 refine⟨S',q,s,fun K=>?_⟩
 unfold JW cX
 rw[Azg (by omega),Aq0 (by omega),ct,Az1,C0]
 exact v K
theorem gD {N:Nat} {a b:List Nat} {n m:Nat} {t o t' o':Bool} (hn:n=a.length) (z:m=b.length) (k:Ak a) (q:Ak b) (e:fit (a.length+b.length+1) N) :
  ∃ S',Ak S'∧val S'=val a+val b∧∀ K:Nat→LA→O R,kL N (Ag a) n t o (Ag b) m t' o' K=K (Al (val a+val b)).length (Ag S'):=by
 subst hn z
 have la:=(Ba k).2
 have lb:=(Ba q).2
 by_cases A:(Al (val a)).length<(Al (val b)).length
 ·obtain⟨S',s,j,v⟩:=Asf (R:=R) (N:=N) (a:=Al (val b)) (b:=Al (val a)) (t:=o') (u:=o) (Ad _) (Ad _) (e.le (by omega)) (by omega)
  rw[Ah,Ah,A2v] at j
  refine⟨S',s,j,fun K=>?_⟩
  rw[cY];unfold fq
  rw[Bp rfl k (e.le (by omega)),Bp rfl q (e.le (by omega)),Gh A,ct,v,Ah,Ah,A2v (val b)]
 ·obtain⟨S',s,j,v⟩:=Asf (R:=R) (N:=N) (a:=Al (val a)) (b:=Al (val b)) (t:=o) (u:=o') (Ad _) (Ad _) (e.le (by omega)) (by omega)
  rw[Ah,Ah] at j
  refine⟨S',s,j,fun K=>?_⟩
  rw[cY];unfold fq
  rw[Bp rfl k (e.le (by omega)),Bp rfl q (e.le (by omega)),H2 (by omega),cf,v,Ah,Ah]
theorem WY {x y:Nat} (e:x<4294967296) (j:y≤4294967296):∃ d c:Nat,d<4294967296∧c≤1∧x+4294967296*c=d+y∧wrap .u32 (wrap .u64 ((x:Int) - (y:Int)))=(d:Int)∧Int.fdiv (wrap .u64 ((x:Int) - (y:Int))) (2 ^ 63)=(c:Int):=by
 by_cases h:y≤x
 ·refine⟨x - y,0,by omega,by omega,by omega,?_,?_⟩
  ·rw[je (by omega) h,Amq (by omega)]
  ·rw[je (by omega) h,Axt,A1m (by omega)]
 ·refine⟨x+4294967296 - y,1,by omega,by omega,by omega,?_,?_⟩
  ·rw[Ar9 (by omega) (by omega),cD];congr 1;omega
  ·rw[Ar9 (by omega) (by omega),Axt];congr 1;omega
theorem Auo {x c w:Nat} (e:x<4294967296) (j:c≤1) (k:w<4294967296):wrap .u64 ((wrap .u64 ((x:Int) - (c:Int))) - (w:Int))=wrap .u64 ((x:Int) - ((c+w:Nat):Int)):=by
 rw[YA,YA,YA];omega
theorem tH {N:Nat} {a b:List Nat} {t u:Bool} (C:Ak a) (D:Ak b) (s:fit a.length N) (n:b.length≤a.length) (v:val b≤val a):∀ (m d fuel:Nat) (S:List Nat) (c:Nat),d+m=a.length→m<fuel→Ak S→S.length=a.length→Apd S d→c≤1 →
  val S+val (b.take d)=val (a.take d)+4294967296 ^ d*c →
  ∃ S',Ak S'∧val S'=val a - val b∧∀ K:Nat→Bool→LA→O R,Rq N K (Ag b) b.length t a.length (Ag a) u fuel (c:Int) (a.length:Int) (d:Int) (Ag S)=K (Al (val a - val b)).length true (Ag S')
 | 0,d,fuel+1,S,c,hd,_,hS,q,B,hc,hv=>by
  have F:d=a.length:=by omega
  subst F
  rw[A06,Az0 n] at hv
  have G:=B6 hS
  rw[q] at G
  have I:c=0:=by
   rcases A3q 0 c with h | h
   ·exfalso
    have:c=1:=by omega
    subst this
    omega
   ·omega
  subst I
  have z:val S=val a - val b:=by omega
  refine⟨S,hS,z,fun K=>?_⟩
  rw[Rq];unfold DK
  rw[H2 (Az3 _),cf,JO q.symm hS (by rw[q];exact s),z]
 | m+1,d,fuel+1,S,c,hd,hfu,hS,q,B,hc,hv=>by
  have h1:=s.1;have h2:=s.2
  have j:d<a.length:=by omega
  have ad:=Ay C j
  have step:∀ y g c':Nat,y=c+b.getD d 0→a[d]+4294967296*c'=g+y→val (S.set d g)+val (b.take (d+1))=val (a.take (d+1))+4294967296 ^ (d+1)*c':=by
   intro y g c' hy A
   rw[W8 B (by omega),Av j,Rs b d,A0i,A0c]
   have e:4294967296 ^ d*(a[d]+4294967296*c')=4294967296 ^ d*(g+(c+b.getD d 0)):=by rw[A,hy]
   rw[A0h,A0h,A0h] at e
   omega
  by_cases k:d<b.length
  ·have bd:=Ay D k
   have A:b.getD d 0=b[d]:=by rw[A0e,Az6 k];rfl
   obtain⟨g,c',L,T,U,V,X⟩:=WY ad (show c+b[d]≤4294967296 by omega)
   obtain⟨S',Y,q3,q4⟩:=tH (t:=t) (u:=u) C D s n v m (d+1) fuel (S.set d g) c' (by omega) (by omega) (Co hS L d) (by simpa using q) (FX B) T (step _ _ _ (by rw[A]) U)
   refine⟨S',Y,q3,fun K=>?_⟩
   rw[Rq];unfold DK
   rw[Gh j,ct,Aa j,ct,QA j,Gh k,ct,Aa k,ct,QA k,ct,xe (by omega),ct,In (show a[d]<18446744073709551616 by omega),In (show b[d]<18446744073709551616 by omega),Auo ad hc bd,V,X,TM,wS (by omega)]
   exact q4 K
  ·have A:b.getD d 0=0:=by rw[A0e,A1f (by omega)];rfl
   obtain⟨g,c',L,T,U,V,X⟩:=WY ad (show c≤4294967296 by omega)
   obtain⟨S',Y,q3,q4⟩:=tH (t:=t) (u:=u) C D s n v m (d+1) fuel (S.set d g) c' (by omega) (by omega) (Co hS L d) (by simpa using q) (FX B) T (step _ _ _ (by rw[A];rfl) U)
   refine⟨S',Y,q3,fun K=>?_⟩
   rw[Rq];unfold DK
   rw[Gh j,ct,Aa j,ct,QA j,H2 (by omega),cf,ct,xe (by omega),ct,In (show a[d]<18446744073709551616 by omega),V,X,TM,wS (by omega)]
   exact q4 K
theorem gE {N:Nat} {a b:List Nat} {n m:Nat} {t o t' o':Bool} (hn:n=a.length) (z:m=b.length) (q:Ak a) (s:Ak b) (e:fit (a.length+b.length) N) (j:val b≤val a) :
  ∃ S',Ak S'∧val S'=val a - val b∧∀ K:Nat→Bool→LA→O R,NO N (Ag a) n t o (Ag b) m t' o' K=K (Al (val a - val b)).length true (Ag S'):=by
 subst hn z
 have C:=e.1;have D:=e.2
 have la:=(Ba q).2
 have lb:=(Ba s).2
 have k:=Bb j
 obtain⟨S',A,v,B⟩:=tH (R:=R) (N:=N) (a:=Al (val a)) (b:=Al (val b)) (t:=o') (u:=o) (Ad _) (Ad _) (e.le (by omega)) k (by rw[Ah,Ah];exact j) (Al (val a)).length 0 N (replicate (Al (val a)).length 0) 0 (by omega) (by omega) (Cl _) (by simp) (L0 _) (by omega) (by rw[D6];simp[val])
 rw[Ah,Ah] at v
 refine⟨S',A,v,fun K=>?_⟩
 rw[cT];unfold fl
 dsimp only
 rw[Bp rfl q (e.le (by omega)),Bp rfl s (e.le (by omega)),BI rfl rfl (Ad _) (Ad _) (e.le (by omega)),Ah,Ah]
 have:decide (H7 (val a) (val b)<0)=false:=by unfold H7;split<;>(try split)<;>simp<;>omega
 rw[this,cf,Aq0 (by omega),ct,C0]
 have:=B K
 rw[Ah,Ah] at this
 exact this
theorem Asg {N:Nat} {a b:List Nat} {n m:Nat} {t o t' o':Bool} {K:Nat→Bool→LA→O R} (hn:n=a.length) (s:m=b.length) (k:Ak a) (q:Ak b) (e:fit (a.length+b.length) N) (j:val a<val b) :
  NO N (Ag a) n t o (Ag b) m t' o' K=K 0 false []:=by
 subst hn s
 have la:=(Ba k).2
 have lb:=(Ba q).2
 rw[cT];unfold fl
 dsimp only
 rw[Bp rfl k (e.le (by omega)),Bp rfl q (e.le (by omega)),BI rfl rfl (Ad _) (Ad _) (e.le (by omega)),Ah,Ah]
 have:decide (H7 (val a) (val b)<0)=true:=by unfold H7;rw[if_pos j];rfl
 rw[this,ct]
theorem vR {n:Nat} (h:n≠0):((n:Int)==(0:Int))=false:=by rw[beq_eq_false_iff_ne];omega
theorem Azh {n:Nat} (h:n=0):((n:Int)==(0:Int))=true:=by subst h;rfl
theorem Aj8:∀ {S:List Nat} {j:Nat} (h:j<S.length),4294967296 ^ j*S[j]≤val S
 | x::r,0,_=>by simp[val]
 | x::r,j+1,h=>by
  have:=Aj8 (S:=r) (j:=j) (by simpa using h)
  simp only[A39,val,A0i]
  rw[Az8 (4294967296 ^ j),A0c]
  omega
theorem Ash {S:List Nat} {k:Nat} (h:val S<4294967296 ^ k):Apd S k:=fun j n q=>by
 have s:=Aj8 n
 have t:4294967296 ^ k≤4294967296 ^ j:=A0y (by omega) q
 rcases A0q S[j] with e | e
 ·exact e
 ·have:=A21 (4294967296 ^ j) e
  omega
theorem Af5 {p q y s:Nat} (e:p<4294967296) (hq:q<4294967296) (j:y<4294967296) (hs:s<4294967296):p+(q*y+s)<18446744073709551616:=by
 have:q*y≤4294967295*4294967295:=A27 (by omega) (by omega)
 omega
theorem Asi {N:Nat} {x y:List Nat} {c d:Bool} {f q J:Nat} (F:Ak y) (hq:q<4294967296) (I:f<x.length) (hs:x.length+y.length≤1000000000000):∀ (m l fuel:Nat) (S:List Nat) (p:Nat) (v:Nat),l+m=y.length→m<fuel→Ak S→S.length=x.length+y.length→Apd S (f+y.length)→p<4294967296 →
  val S+4294967296 ^ (f+l)*p=v+4294967296 ^ f*(q*val (y.take l)) →
  ∃ S',Ak S'∧S'.length=x.length+y.length∧val S'=v+4294967296 ^ f*(q*val y)∧∀ (t:Nat→Int→Int→LA→O R) (K:Nat→LA→O R),Vt N t K (Ag y) y.length d (x.length+y.length) (f:Int) (q:Int) (Ag x) x.length c (J:Int) fuel (p:Int) (y.length:Int) (l:Int) (Ag S)=t (x.length+y.length) J ((f+1:Nat):Int) (Ag S')
 | 0,l,fuel+1,S,p,v,L,_,hS,k,A,z,B=>by
  have C:l=y.length:=by omega
  subst C
  rw[A06] at B
  refine⟨S.set (f+y.length) p,Co hS z _,by simpa using k,by rw[W8 A (by omega),B],fun t K=>?_⟩
  rw[Vt];unfold NM
  rw[H2 (Az3 _),cf,wA (by omega),Aa (by omega),ct,xe (by omega),ct,Amq z,TM,wS (by omega)]
 | m+1,l,fuel+1,S,p,v,L,T,hS,k,A,z,B=>by
  have n:l<y.length:=by omega
  have yl:=Ay F n
  have hi:f+l<S.length:=by omega
  have sl:=Ay hS hi
  have U:=Af5 z hq yl sl
  have D:q*y[l]<18446744073709551616:=by omega
  generalize u:p+(q*y[l]+S[f+l])=s at *
  have G:=gC (v:=s%4294967296) hi
  have key:val (S.set (f+l) (s%4294967296))+4294967296 ^ (f+(l+1))*(s/4294967296)=v+4294967296 ^ f*(q*val (y.take (l+1))):=by
   rw[Av n,←A1x f l 1,A0i]
   have e:=Nn (4294967296 ^ (f+l)) s
   have e2:4294967296 ^ (f+l)*s=4294967296 ^ (f+l)*p+(4294967296 ^ (f+l)*(q*y[l])+4294967296 ^ (f+l)*S[f+l]):=by rw[←u,A0h,A0h]
   have e3:4294967296 ^ f*(q*(val (y.take l)+4294967296 ^ l*y[l]))=4294967296 ^ f*(q*val (y.take l))+4294967296 ^ (f+l)*(q*y[l]):=by
    rw[A0h,A0h,A09]
    congr 1
    rw[A0c];congr 1
    rw[←A0c,←A0c,Az8 q]
   omega
  obtain⟨S',V,X,Y,q4⟩:=Asi (N:=N) (x:=x) (c:=c) (d:=d) (J:=J) F hq I hs m (l+1) fuel (S.set (f+l) (s%4294967296)) (s/4294967296) v (by omega) (by omega) (Co hS (by omega) _) (by simpa using k) (fun j hj hk=>by
   rw[A31,if_neg (by omega)];exact A j (by simpa using hj) hk) (by omega) key
  refine⟨S',V,X,Y,fun t K=>?_⟩
  rw[Vt];unfold NM
  rw[Gh n,ct,Aa n,ct,QA n,wA (by omega),Aa (by omega),ct,fg hi,ct,xe hi,ct,In (show q<18446744073709551616 by omega),In (show y[l]<18446744073709551616 by omega),In (show S[f+l]<18446744073709551616 by omega),sG,In D,HB,In (by omega),HB,u,In U,jf,cD,TM,wS (by omega)]
  exact q4 t K
theorem Abu {N:Nat} {x y:List Nat} {c d:Bool} (u:Ak x) (v:Ak y) (j:fit (x.length+y.length) N):∀ (m f fuel:Nat) (S:List Nat),f+m=x.length→m<fuel→Ak S→S.length=x.length+y.length →
  val S=val (x.take f)*val y →
  ∃ S',Ak S'∧val S'=val x*val y∧∀ K:Nat→LA→O R,Om N K (Ag y) y.length d (Ag x) x.length c fuel (x.length+y.length) (x.length:Int) (f:Int) (Ag S)=K (Al (val x*val y)).length (Ag S')
 | 0,f,fuel+1,S,F,_,hS,k,t=>by
  have z:f=x.length:=by omega
  subst z
  rw[A06] at t
  refine⟨S,hS,t,fun K=>?_⟩
  rw[Om];unfold DJ
  rw[H2 (Az3 _),cf,JO k.symm hS (by rw[k];exact j),t]
 | m+1,f,fuel+1,S,F,G,hS,k,t=>by
  have X:=j.1;have Y:=j.2
  have e:f<x.length:=by omega
  have xf:=Ay u e
  have b1:=B6 (Ch u f)
  rw[A0o,A0x (by omega)] at b1
  have I:=B6 v
  have s:val S<4294967296 ^ (f+y.length):=by
   rw[t,A09];exact A1z b1 I
  have n:val (x.take (f+1))*val y=val S+4294967296 ^ f*(x[f]*val y):=by
   rw[Av e,A0m,t,A0c]
  by_cases A:x[f]=0
  ·obtain⟨S',B,C,D⟩:=Abu (c:=c) (d:=d) u v j m (f+1) fuel S (by omega) (by omega) hS k (by rw[n,A];simp)
   refine⟨S',B,C,fun K=>?_⟩
   rw[Om];unfold DJ
   rw[Gh e,ct,Aa e,ct,QA e,show(((x[f]:Nat):Int)==0)=true by simp[A],ct,wS (by omega)]
   exact D K
  ·obtain⟨S1,L,T,U,V⟩:=Asi (R:=R) (N:=N) (x:=x) (y:=y) (c:=c) (d:=d) (f:=f) (q:=x[f]) (J:=x.length) v xf e (by omega) y.length 0 N S 0 (val S) (by omega) (by omega) hS k (Ash s) (by omega) (by simp[val])
   obtain⟨S',B,C,D⟩:=Abu (c:=c) (d:=d) u v j m (f+1) fuel S1 (by omega) (by omega) L T (by rw[U,n])
   refine⟨S',B,C,fun K=>?_⟩
   rw[Om];unfold DJ
   rw[Gh e,ct,Aa e,ct,QA e,show(((x[f]:Nat):Int)==0)=false by simp;exact A,cf]
   have:=V (Om N K (Ag y) y.length d (Ag x) x.length c fuel) K
   simp only[A2u] at this
   dsimp only
   rw[this]
   exact D K
theorem tI {N:Nat} {a b:List Nat} {n m:Nat} {t o t' o':Bool} (hn:n=a.length) (v:m=b.length) (q:Ak a) (s:Ak b) (e:fit (a.length+b.length) N) :
  ∃ S',Ak S'∧val S'=val a*val b∧∀ K:Nat→LA→O R,cS N (Ag a) n t o (Ag b) m t' o' K=K (Al (val a*val b)).length (Ag S'):=by
 subst hn v
 have B:=e.1;have C:=e.2
 have la:=(Ba q).2
 have lb:=(Ba s).2
 by_cases j:val a=0
 ·refine⟨[],Vj,by rw[j];simp[val],fun K=>?_⟩
  rw[NN];unfold WU
  dsimp only
  rw[Bp rfl q (e.le (by omega)),Bp rfl s (e.le (by omega)),j,A26,Cz];rfl
 ·by_cases k:val b=0
  ·refine⟨[],Vj,by rw[k];simp[val],fun K=>?_⟩
   rw[NN];unfold WU
   dsimp only
   rw[Bp rfl q (e.le (by omega)),Bp rfl s (e.le (by omega)),k,A6g,Cz]
   cases ((((Al (val a)).length:Nat):Int)==0)<;>rfl
  ·obtain⟨S',z,u,A⟩:=Abu (R:=R) (N:=N) (x:=Al (val a)) (y:=Al (val b)) (c:=o) (d:=o') (Ad _) (Ad _) (e.le (by omega)) (Al (val a)).length 0 N (replicate ((Al (val a)).length+(Al (val b)).length) 0) (by omega) (by omega) (Cl _) (by simp) (by rw[D6];simp[val])
   rw[Ah,Ah] at u
   refine⟨S',z,u,fun K=>?_⟩
   rw[NN];unfold WU
   dsimp only
   have n1:(Al (val a)).length≠0:=fun h=>j (Bf.1 h)
   have n2:(Al (val b)).length≠0:=fun h=>k (Bf.1 h)
   rw[Bp rfl q (e.le (by omega)),Bp rfl s (e.le (by omega)),vR n1,show((false:Bool)==false)=true by rfl,ct,Azf,vR n2,cf]
   unfold WT cR
   rw[wA (by omega),Aq0 (by omega),ct,Az1,C0]
   have:=A K
   rw[Ah,Ah] at this
   exact this
theorem gF {v:Nat} (h:(Al v).length≤2):v<18446744073709551616:=by
 have:=B6 (Ad v)
 rw[Ah] at this
 have e:4294967296 ^ (Al v).length≤4294967296 ^ 2:=A0y (by omega) h
 omega
theorem NY {v:Nat} (h:v<18446744073709551616):(Al v).length≤2:=Dn (by simpa using h)
theorem JX {N:Nat} {l:List Nat} {n:Nat} {t o:Bool} {K:Int→O R} (hn:n=l.length) (j:Ak l) (k:l.length≤2) (hN:4≤N):Th N (Ag l) n t o K=K (val l:Int):=by
 subst hn
 obtain⟨M,rfl⟩:∃ M,N=M+4:=⟨N - 4,by omega⟩
 rw[mq];unfold fc
 match l,j,k with
 | [],_,_ =>
  rw[Iw];unfold Jy
  simp[val]
 | [x],j,_ =>
  have q:=(Dc.1 j).1
  rw[Iw];unfold Jy
  simp only[Az5,A2g,Int.toNat_zero,A26,A00,BE,Br]
  rw[show decide ((0:Int)<((0+1:Nat):Int))=true by decide,ct,show Ae 0 (0+1)=true by decide,ct,show wrap .i64 ((32:Int)*0)=0 by decide,show decide ((0:Int)<0)=false by decide,cf]
  rw[Iw];unfold Jy
  rw[show wrap .i64 ((0:Int)+1)=1 by decide,show decide ((1:Int)<((0+1:Nat):Int))=false by decide,cf]
  have e:wrap .u64 ((wrap .u64 (x:Int))*2 ^ (min (Int.toNat 0) 64))=(x:Int):=by rw[In (by omega)];simp;exact In (by omega)
  rw[e,show(0:Int)=((0:Nat):Int) by rfl,Aju (by omega) (by omega)]
  simp[val]
 | [x,y],j,_ =>
  have q:=(Dc.1 j).1
  have u:=(Dc.1 (Dc.1 j).2).1
  rw[Iw];unfold Jy
  simp only[Az5,A2g,Int.toNat_zero,A26,A00,BE,Br]
  rw[show decide ((0:Int)<((0+1+1:Nat):Int))=true by decide,ct,show Ae 0 (0+1+1)=true by decide,ct,show wrap .i64 ((32:Int)*0)=0 by decide,show decide ((0:Int)<0)=false by decide,cf]
  rw[Iw];unfold Jy
  rw[show wrap .i64 ((0:Int)+1)=1 by decide,show decide ((1:Int)<((0+1+1:Nat):Int))=true by decide,ct,show Ae 1 (0+1+1)=true by decide,ct,show wrap .i64 ((32:Int)*1)=32 by decide,show decide ((32:Int)<0)=false by decide]
  simp only[show Int.toNat 1*1=1 by rfl,A1b,A00,Br,cf]
  rw[Iw];unfold Jy
  rw[show wrap .i64 ((1:Int)+1)=2 by decide,show decide ((2:Int)<((0+1+1:Nat):Int))=false by decide,cf]
  have e:wrap .u64 ((wrap .u64 (x:Int))*2 ^ (min (Int.toNat 0) 64))=(x:Int):=by rw[In (by omega)];simp;exact In (by omega)
  have s:wrap .u64 ((wrap .u64 (y:Int))*2 ^ (min (Int.toNat 32) 64))=((y*2 ^ 32:Nat):Int):=by
   rw[In (by omega),show(2:Int) ^ (min (Int.toNat 32) 64)=((2 ^ 32:Nat):Int) by rfl,sG,In (by omega)]
  rw[e,s,show(0:Int)=((0:Nat):Int) by rfl,Aju (by omega) (by omega),Aju (by simp;omega) (by omega),Nat.zero_or,A6r,jg (by omega)]
  congr 1;simp only[val];omega
theorem K6 {N:Nat} {v:Nat} (k:v<18446744073709551616) (hN:4≤N):∃ S,Ak S∧val S=v∧∀ K:Nat→LA→O R,Bu N (v:Int) K=K (Al v).length (Ag S):=by
 have j:Ak [v%4294967296,v/4294967296]:=Dc.2 ⟨by omega,Dc.2 ⟨by omega,Vj⟩⟩
 have e:val [v%4294967296,v/4294967296]=v:=by simp[val];omega
 refine⟨_,j,e,fun K=>?_⟩
 rw[FM];unfold DD
 rw[cD,jf,Amq (show v/4294967296<4294967296 by omega)]
 have:=JN (R:=R) (N:=N) (l:=[v%4294967296,v/4294967296]) (K:=fun c=>K c (Ag [v%4294967296,v/4294967296])) j (by simp) 2 N (by simp) (by omega)
 rw[show [v%4294967296,v/4294967296].take 2=[v%4294967296,v/4294967296] by rfl,e] at this
 rw[cF];unfold fe
 exact this
theorem Jz {N:Nat} {l:List Nat} {n:Nat} {t o:Bool} {K:Int→Bool→O R} (hn:n=l.length) (j:Ak l) (e:fit l.length N):BF N (Ag l) n t o K=if val l<18446744073709551616 then K (val l:Int) true else K 0 false:=by
 have q:=e.1
 rw[ZM];unfold cE
 rw[Bp hn j e]
 by_cases h:val l<18446744073709551616
 ·have:=NY h
  rw[if_pos h,show decide ((((Al (val l)).length:Nat):Int)>2)=false by simp;omega,cf,JX rfl (Ad _) this (by omega),Ah]
 ·have:¬ (Al (val l)).length≤2:=fun k=>h (gF k)
  rw[if_neg h,show decide ((((Al (val l)).length:Nat):Int)>2)=true by simp;omega,ct]
theorem BJ {N:Nat} {l:List Nat} {n:Nat} {t o:Bool} {K:Nat→LA→O R} (hn:n=l.length) (j:Ak l) (e:fit l.length N):W5 N (Ag l) n t o K=K (Al (val l)).length (Ag (Al (val l))):=by
 have k:=e.1;have q:=e.2
 have:=(Ba j).2
 rw[mv];unfold se
 rw[Bp hn j e,Aq0 (by omega),ct,FD,A24,ct]
 congr 1
 unfold D9
 rw[A6d,A0b,A2q,A1o,Az0 (by rw[Bo];exact Az3 _),A0k (by simp[Bo]),A1y]
def Azr:Lu:=[0,1,2,2,3,3,3,3,4,4,4,4,4,4,4,4,5,5,5,5,5,5,5,5,5,5,5,5,5,5,5,5,6,6,6,6,6,6,6,6,6,6,6,6,6,6,6,6,6,6,6,6,6,6,6,6,6,6,6,6,6,6,6,6,7,7,7,7,7,7,7,7,7,7,7,7,7,7,7,7,7,7,7,7,7,7,7,7,7,7,7,7,7,7,7,7,7,7,7,7,7,7,7,7,7,7,7,7,7,7,7,7,7,7,7,7,7,7,7,7,7,7,7,7,7,7,7,7,8,8,8,8,8,8,8,8,8,8,8,8,8,8,8,8,8,8,8,8,8,8,8,8,8,8,8,8,8,8,8,8,8,8,8,8,8,8,8,8,8,8,8,8,8,8,8,8,8,8,8,8,8,8,8,8,8,8,8,8,8,8,8,8,8,8,8,8,8,8,8,8,8,8,8,8,8,8,8,8,8,8,8,8,8,8,8,8,8,8,8,8,8,8,8,8,8,8,8,8,8,8,8,8,8,8,8,8,8,8,8,8,8,8,8,8,8,8,8,8,8,8,8,8,8,8,8,8]
theorem Aup:∀ i:Fin 256,0<i.1→2 ^ (Azr.getD i.1 0).toNat≤2*i.1∧i.1<2 ^ (Azr.getD i.1 0).toNat:=by decide +kernel
theorem tJ {k y x m:Nat} (h:2 ^ k≤2*y∧y<2 ^ k) (e:y=x/2 ^ m):2 ^ (k+m)≤2*x∧x<2 ^ (k+m):=by
 have j:0<2 ^ m:=A1l (by omega)
 have n:x<2 ^ m*(y+1):=by rw[e];have:=A1e x (2 ^ m);have:=A1j x j;rw[A0h];omega
 have q:2 ^ m*y≤x:=by rw[e];exact Nat.mul_div_le x _
 have s:2 ^ m*(y+1)≤2 ^ m*2 ^ k:=A0w _ h.2
 have t:2 ^ m*2 ^ k≤2 ^ m*(2*y):=A0w _ h.1
 rw[A09,Az8 (2 ^ k)]
 have u:2 ^ m*(2*y)=2*(2 ^ m*y):=by rw[A2f]
 omega
theorem Avx {a:Nat} (h:a<256):wrap .u8 (a:Int)=(a:Int):=by rw[wrap_u8];congr 1;omega
theorem Avy {N:Nat} {a b:Nat} {K:Int→O R} (u:0<a) (v:a<65536) (z:b≤16):∃ k:Nat,2 ^ k≤2*a∧a<2 ^ k∧k≤16∧E7 N K (a:Int) (b:Int)=K ((b+k:Nat):Int):=by
 have small:∀ i:Nat,0<i→i<256→∃ k:Nat,(2 ^ k≤2*i∧i<2 ^ k)∧k≤8∧(Azr.getD i 0).toNat=k:=by
  intro i hi j
  have:=Aup ⟨i,j⟩ hi
  refine⟨_,this,?_,rfl⟩
  rcases A3q 8 (Azr.getD i 0).toNat with h | h
  ·have s:=this.1
   have A:2 ^ 9≤2 ^ (Azr.getD i 0).toNat:=A0y (by omega) h
   simp only at s
   omega
  ·exact h
 by_cases h:a≥256
 ·obtain⟨k,e,t,n⟩:=small (a/256) (by omega) (by omega)
  have q:=tJ (m:=8) e (show a/256=a/2 ^ 8 by rfl)
  refine⟨k+8,q.1,q.2,by omega,?_⟩
  unfold E7
  rw[show decide ((a:Int)≥256)=true by simp;omega,ct,Sg a 8,show a/2 ^ 8=a/256 by rfl,Avx (by omega),Aa (by omega),ct,Az1]
  change K (wrap .i64 (wrap .i64 ((b:Int)+8)+wrap .i64 (((Azr.getD (a/256) 0).toNat:Nat):Int)))=_
  rw[n,i64 (a:=(b:Int)+8) (by omega),i64 (a:=(k:Int)) (by omega),i64 (by omega)]
  congr 1;omega
 ·obtain⟨k,e,t,n⟩:=small a (by omega) (by omega)
  refine⟨k,e.1,e.2,by omega,?_⟩
  unfold E7
  rw[show decide ((a:Int)≥256)=false by simp;omega,cf,Avx (by omega),Aa (by omega),ct,Az1]
  change K (wrap .i64 ((b:Int)+wrap .i64 (((Azr.getD a 0).toNat:Nat):Int)))=_
  rw[n,i64 (a:=(k:Int)) (by omega),i64 (by omega)]
  congr 1
theorem tK {N:Nat} {c:Nat} {K:Int→O R} (t:0<c) (u:c<4294967296):∃ k:Nat,2 ^ k≤2*c∧c<2 ^ k∧k≤32∧Hq N (c:Int) K=K (k:Int):=by
 rw[Zi];unfold Oi
 by_cases h:c≥65536
 ·obtain⟨k,j,n,s,e⟩:=Avy (R:=R) (N:=N) (a:=c/65536) (b:=16) (K:=K) (by omega) (by omega) (by omega)
  have q:=tJ (m:=16) ⟨j,n⟩ (show c/65536=c/2 ^ 16 by rfl)
  refine⟨k+16,q.1,q.2,by omega,?_⟩
  rw[show decide ((c:Int)≥65536)=true by simp;omega,ct,Sg c 16,show c/2 ^ 16=c/65536 by rfl]
  rw[A2v k];exact e
 ·obtain⟨k,j,n,s,e⟩:=Avy (R:=R) (N:=N) (a:=c) (b:=0) (K:=K) (by omega) (by omega) (by omega)
  refine⟨k,j,n,by omega,?_⟩
  rw[show decide ((c:Int)≥65536)=false by simp;omega,cf]
  rw[A0g] at e;exact e
theorem Amr {N:Nat} {c:Nat} (u:0<c) (v:c<4294967296):∃ s:Nat,s≤31∧2147483648≤c*2 ^ s∧c*2 ^ s<4294967296∧∀ K:Int→O R,Cq N (c:Int) K=K (s:Int):=by
 have key:∀ K:Int→O R,∃ s:Nat,(s≤31∧2147483648≤c*2 ^ s∧c*2 ^ s<4294967296)∧Cq N (c:Int) K=K (s:Int):=by
  intro K
  rw[Ll];unfold Hk
  obtain⟨k,z,t,C,A⟩:=tK (R:=R) (N:=N) (K:=fun c=>K (wrap .i64 ((32:Int) - c))) u v
  have e:2 ^ k*2 ^ (32 - k)=4294967296:=by rw[←A09,show k+(32 - k)=32 by omega]
  have D:1≤k:=by
   rcases A0q k with h | h
   ·subst h;simp at t;omega
   ·exact h
  refine⟨32 - k,⟨by omega,?_,?_⟩,?_⟩
  ·have:=Az9 (2 ^ (32 - k)) z
   rw[e,A0c] at this;omega
  ·have:=(A2w (show 0<2 ^ (32 - k) from A1l (by omega))).2 t
   rw[e] at this;exact this
  ·rw[A,i64 (by omega)];congr 1;omega
 obtain⟨s,hs,_⟩:=key fun _=>none
 refine⟨s,hs.1,hs.2.1,hs.2.2,fun K=>?_⟩
 obtain⟨j,B,e⟩:=key K
 have:j=s:=by
  rcases Nat.lt_trichotomy s j with h | h | h
  ·exfalso
   have n:2 ^ (s+1)≤2 ^ j:=A0y (by omega) h
   have q:=A0w c n
   rw[A0i,←A0c] at q
   omega
  ·exact h.symm
  ·exfalso
   have n:2 ^ (j+1)≤2 ^ s:=A0y (by omega) h
   have q:=A0w c n
   rw[A0i,←A0c] at q
   omega
 rw[e,this]
theorem Abv {s:Nat} (h:s≤31):2 ^ s≤2147483648:=A0y (n:=2) (by omega) h
theorem Asj {x c s:Nat} (k:x<4294967296) (e:c<2 ^ s) (hs:s≤31):Rj .u64 (c:Int) (wrap .u64 ((wrap .u64 (x:Int))*2 ^ (min (Int.toNat (s:Int)) 64)))=((x*2 ^ s+c:Nat):Int)∧x*2 ^ s+c<4294967296*2 ^ s:=by
 have n:=Abv hs
 have q:x*2 ^ s≤4294967295*2 ^ s:=Az9 _ (by omega)
 have j:(x+1)*2 ^ s≤4294967296*2 ^ s:=Az9 _ (by omega)
 rw[A0m] at j
 refine⟨?_,by omega⟩
 rw[In (by omega),Az1,A0x (by omega),show(2:Int) ^ s=((2 ^ s:Nat):Int) by simp,sG,In (by omega),Aju (by omega) (by omega),A6r,jg e]
theorem gG {N:Nat} {a:List Nat} {t o:Bool} {s:Nat} (A:Ak a) (hs:s≤31) (n:a.length≤1000000000000):∀ (m d fuel:Nat) (S:List Nat) (c:Nat),d+m=a.length→m<fuel→Ak S→S.length=a.length+1→Apd S d→c<2 ^ s →
  val S+4294967296 ^ d*c=val (a.take d)*2 ^ s →
  ∃ S',Ak S'∧S'.length=a.length+1∧val S'=val a*2 ^ s∧∀ K:Nat→LA→O R,Ix N K (Ag a) a.length t o (s:Int) fuel (a.length+1) (c:Int) (a.length:Int) (d:Int) (Ag S)=K (a.length+1) (Ag S')
 | 0,d,fuel+1,S,c,D,_,hS,q,k,B,u=>by
  have v:d=a.length:=by omega
  subst v
  have X:=Abv hs
  rw[A06] at u
  refine⟨S.set a.length c,Co hS (by omega) _,by simpa using q,by rw[W8 k (by omega),u],fun K=>?_⟩
  rw[Ix];unfold Tk
  rw[H2 (Az3 _),cf,Aa (by omega),ct,Axu (by omega),ct,Amq (by omega),Avw]
 | m+1,d,fuel+1,S,c,D,F,hS,q,k,B,u=>by
  have j:d<a.length:=by omega
  have ad:=Ay A j
  obtain⟨G,I⟩:=Asj ad B hs
  generalize z:a[d]*2 ^ s+c=w at *
  have C:0<2 ^ s:=A1l (by omega)
  have key:val (S.set d (w%4294967296))+4294967296 ^ (d+1)*(w/4294967296)=val (a.take (d+1))*2 ^ s:=by
   rw[W8 k (by omega),Av j,A0i,A0m,A0c _ a[d]]
   have e:=Nn (4294967296 ^ d) w
   have Y:4294967296 ^ d*w=4294967296 ^ d*(a[d]*2 ^ s)+4294967296 ^ d*c:=by rw[←z,A0h]
   omega
  obtain⟨S',L,T,U,V⟩:=gG (t:=t) (o:=o) A hs n m (d+1) fuel (S.set d (w%4294967296)) (w/4294967296) (by omega) (by omega) (Co hS (by omega) d) (by simpa using q) (FX k) (A2y I) key
  refine⟨S',L,T,U,fun K=>?_⟩
  rw[Ix];unfold Tk
  rw[Gh j,ct,Aa j,ct,QA j,show decide ((s:Int)<0)=false by simp,cf,Aa (by omega),ct,xe (by omega),ct,G,jf,cD,TM,wS (by omega)]
  exact V K
theorem gH {N:Nat} {a:List Nat} {n:Nat} {t o:Bool} {s:Nat} (hn:n=a.length) (j:Ak a) (hs:s≤31) (e:fit a.length N) :
  ∃ S',Ak S'∧S'.length=a.length+1∧val S'=val a*2 ^ s∧∀ K:Nat→LA→O R,Vp N (Ag a) n t o (s:Int) K=K (a.length+1) (Ag S'):=by
 subst hn
 have z:=e.1;have A:=e.2
 obtain⟨S',k,q,u,v⟩:=gG (R:=R) (N:=N) (t:=t) (o:=o) j hs (by omega) a.length 0 N (replicate (a.length+1) 0) 0 (by omega) (by omega) (Cl _) (by simp) (L0 _) (A1l (by omega)) (by rw[D6];simp[val])
 refine⟨S',k,q,u,fun K=>?_⟩
 rw[TQ];unfold FS
 rw[Azg (by omega),Aq0 (by omega),ct,Az1,C0]
 exact v K
theorem Avz {P U Q:List Nat} {i:Nat} (h:i<U.length) {f:Int→O R}:As .u32 (drop (P.length+((Int.toNat (i:Int))*1)) (Ag (P++(U++Q)))) f=f (U[i]:Nat):=by
 rw[Az1,A0b,Afb (by simp;omega)]
 congr 2
 rw[List.getElem_append_right (by omega)]
 simp only[A38]
 rw[A5c h]
theorem Axv {P U Q:List Nat} {i:Nat} (h:i<U.length):((beq 1 1)&&((ble ((P.length+((Int.toNat (i:Int))*1))+1) (List.length (Ag (P++(U++Q)))))&&(!false)))=true:=by
 rw[Bo,Az1];simp;omega
theorem Ask {P U Q:List Nat} {i v:Nat} (h:i<U.length):List.set (Ag (P++(U++Q))) (P.length+((Int.toNat (i:Int))*1)) (.int .u32 (v:Int))=Ag (P++(U.set i v++Q)):=by
 rw[Az1,A0b,fQ,A4f _ _ (by omega),A38,List.set_append_left _ _ h]
theorem Ayw {P U Q:List Nat} {i:Nat} (h:i<U.length) {f:Int→O R}:As .u32 (drop (P.length+(i*1)) (Ag (P++(U++Q)))) f=f (U[i]:Nat):=by
 have:=Avz (R:=R) (P:=P) (Q:=Q) (f:=f) h;rw[Az1] at this;exact this
theorem gJ {X:List Nat} {p g:Nat} (h:p<X.length):val ((X.set p g).take (p+1))=val (X.take p)+4294967296 ^ p*g:=by
 rw[Av (by simpa using h),A5r,List.take_set_of_le (Az3 _)]
theorem JY {X:List Nat} {n:Nat} (h:X.length=n+1):val X=val (X.take n)+4294967296 ^ n*X[n]:=by
 have:=Av (l:=X) (c:=n) (by omega)
 rwa [Az0 (by omega)] at this
theorem Ams {D:Nat} (h:1≤D) (e:D<18446744073709551616):wrap .u64 ((D:Int) - 1)=((D - 1:Nat):Int):=by rw[YA];omega
theorem Auq {D y t:Nat} (hD:D<4294967296) (e:y<4294967296) (j:t≤4294967296):D*y+t<18446744073709551616∧(D*y+t)/4294967296+1≤4294967296:=by
 have:D*y≤4294967295*4294967295:=A27 (by omega) (by omega)
 omega
theorem Amt {N:Nat} {P Q X v:List Nat} {n D:Nat} {f g:Bool} (V:Ak v) (hn:v.length=n) (hX:Ak X) (hXl:X.length=n+1) (hs:n≤1000000000000) (hD:D<4294967296) (hD1:1≤D) {r:Nat} (hr:val X+val v=4294967296 ^ (n+1)+r) (A:r<4294967296 ^ n) :
  ∀ (m o fuel:Nat) (Y:List Nat) (c:Nat),o+m=n→m<fuel→Ak Y→Y.length=n+1→(∀ j (F:j<Y.length) (G:j<X.length),o≤j→Y[j]=X[j])→c≤1→val (Y.take o)+4294967296 ^ o*c=val (X.take o)+val (v.take o) →
  ∃ Y',Ak Y'∧Y'.length=n+1∧val Y'=r∧∀ K:Int→LA→O R,Hs N K P.length (n+1) (n:Int) (D:Int) (Ag v) n f g fuel (c:Int) (n:Int) (o:Int) (Ag (P++(Y++Q)))=K ((D - 1:Nat):Int) (Ag (P++(Y'++Q)))
 | 0,o,fuel+1,Y,c,ho,_,hY,hYl,q,hc,t=>by
  have I:o=n:=by omega
  subst I
  rw[show v.take o=v by rw[←hn];exact A06] at t
  have e1:=JY hXl
  have eq:val (Y.take o)+4294967296 ^ o*(X[o]+c)=4294967296 ^ o*4294967296+r:=by
   rw[A0h,←A0i];omega
  have yt:=B6 (Ch hY o)
  rw[A0o,A0x (by omega)] at yt
  have hP:0<4294967296 ^ o:=A1l (by omega)
  have hw:X[o]+c=4294967296:=by
   have F:(val (Y.take o)+4294967296 ^ o*(X[o]+c))/4294967296 ^ o=X[o]+c:=by rw[A2x _ _ hP,A1m yt,A0g]
   have G:(4294967296 ^ o*4294967296+r)/4294967296 ^ o=4294967296:=by rw[A34 hP,A1m A,A1i]
   rw[←F,eq,G]
  have L:val (Y.take o)=r:=by rw[hw] at eq;omega
  have u:Y[o]=X[o]:=q o (by omega) (by omega) (Az3 _)
  have S:(Y.set o 0).length=o+1:=by simpa using hYl
  refine⟨Y.set o 0,Co hY (by omega) o,S,?_,fun K=>?_⟩
  ·have:=gJ (X:=Y) (p:=o) (g:=0) (by omega)
   rw[Az0 (by omega),L] at this;simpa using this
  ·rw[Hs];unfold Ok
   have hXo:=Ay hX (show o<X.length by omega)
   rw[H2 (Az3 _),cf,Aa (by omega),ct,Avz (by omega),ct,Axv (by omega),ct,u,Amq (show c<4294967296 by omega),HB,hw,cD,Ask (by omega),Ams hD1 (by omega),Amq (by omega)]
 | m+1,o,fuel+1,Y,c,ho,hfu,hY,hYl,q,hc,t=>by
  have B:o<n:=by omega
  have z:o<v.length:=by omega
  have vo:=Ay V z
  have k:o<Y.length:=by omega
  have yo:=Ay hY k
  have u:Y[o]=X[o]:=q o (by omega) (by omega) (Az3 _)
  have T:c+(Y[o]+v[o])<18446744073709551616:=by omega
  have U:(c+(Y[o]+v[o]))/4294967296≤1:=by omega
  generalize C:c+(Y[o]+v[o])=s at *
  have key:val ((Y.set o (s%4294967296)).take (o+1))+4294967296 ^ (o+1)*(s/4294967296)=val (X.take (o+1))+val (v.take (o+1)):=by
   rw[gJ k,Av (l:=X) (by omega),Av z,A0i]
   have e:=Nn (4294967296 ^ o) s
   have e2:4294967296 ^ o*s=4294967296 ^ o*c+(4294967296 ^ o*X[o]+4294967296 ^ o*v[o]):=by rw[←C,A0h,A0h,u]
   omega
  obtain⟨Y',q1,q2,q3,q4⟩:=Amt (N:=N) (P:=P) (Q:=Q) (f:=f) (g:=g) V hn hX hXl hs hD hD1 hr A m (o+1) fuel (Y.set o (s%4294967296)) (s/4294967296) (by omega) (by omega) (Co hY (by omega) o) (by simpa using hYl) (fun j F G hj=>by rw[A31,if_neg (by omega)];exact q j (by simpa using F) G (by omega)) U key
  refine⟨Y',q1,q2,q3,fun K=>?_⟩
  rw[Hs];unfold Ok
  rw[Gh B,ct,Aa B,ct,QA z,Aa (by omega),ct,Avz k,ct,Axv k,ct,In (show v[o]<18446744073709551616 by omega),In (show Y[o]<18446744073709551616 by omega),HB,In (by omega),HB,C,In T,jf,cD,Ask k,wS (by omega)]
  exact q4 K
theorem Asl {N:Nat} {P Q U v:List Nat} {n D:Nat} {f g:Bool} (F:Ak v) (hn:v.length=n) (hU:Ak U) (hUl:U.length=n+1) (hs:n≤1000000000000) (hN:n+2<N) (hD:D<4294967296) (z:0<val v) (L:val U/val v≤D) (S:D≤val U/val v+1) :
  ∀ (m p fuel:Nat) (X:List Nat) (t:Nat),p+m=n→m<fuel→Ak X→X.length=n+1→(∀ j (h1:j<X.length) (h2:j<U.length),p≤j→X[j]=U[j])→t≤4294967296→val (X.take p)+D*val (v.take p)=val (U.take p)+4294967296 ^ p*t →
  ∃ X',Ak X'∧X'.length=n+1∧val X'=val U%val v∧∀ K:Int→LA→O R,F0 N K P.length (n+1) (Ag v) n f g (n:Int) (D:Int) fuel (t:Int) (n:Int) (p:Int) (Ag (P++(X++Q)))=K ((val U/val v:Nat):Int) (Ag (P++(X'++Q)))
 | 0,p,fuel+1,X,t,hp,_,hX,hXl,k,T,u=>by
  have V:p=n:=by omega
  subst V
  rw[show v.take p=v by rw[←hn];exact A06] at u
  have hXp:X[p]=U[p]:=k p (by omega) (by omega) (Az3 _)
  have up:=Ay hU (show p<U.length by omega)
  obtain⟨d,c,g1,g2,g3,G,I⟩:=WY up T
  have q:(X.set p d).length=p+1:=by simpa using hXl
  have hX2:=Co hX g1 p
  have hv2:val (X.set p d)=val (X.take p)+4294967296 ^ p*d:=by
   have:=gJ (X:=X) (p:=p) (g:=d) (by omega)
   rwa [Az0 (by omega)] at this
  have eU:=JY hUl
  have main:val (X.set p d)+D*val v=val U+4294967296 ^ (p+1)*c:=by
   have e:4294967296 ^ p*(U[p]+4294967296*c)=4294967296 ^ p*(d+t):=by rw[g3]
   rw[A0h,A0h,←A0c] at e
   rw[hv2,eU,A0i];omega
  have hlt:=B6 hX2
  rw[q] at hlt
  have hdm:=A1e (val U) (val v)
  have hmod:=A1j (val U) z
  have vlt:=B6 F
  rw[hn] at vlt
  by_cases hc:c=0
  ·subst hc
   have hDq:D=val U/val v:=by
    have:D≤val U/val v:=by rw[A3r z];omega
    omega
   refine⟨X.set p d,hX2,q,?_,fun K=>?_⟩
   ·rw[hDq,Az8] at main;omega
   ·rw[F0];unfold Jm
    rw[H2 (Az3 _),cf,Aa (by omega),ct,Avz (by omega),ct,Axv (by omega),ct,hXp,In (show U[p]<18446744073709551616 by omega),G,I,show(((0:Nat):Int)==0)=true by rfl,ct,Amq hD,Ask (by omega),hDq]
  ·have hc1:c=1:=by omega
   subst hc1
   have hDq:D=val U/val v+1:=by
    have:¬ D≤val U/val v:=fun h=>by
     have:=A0w (val v) h
     rw[Az8] at this
     omega
    omega
   have hr:val (X.set p d)+val v=4294967296 ^ (p+1)+val U%val v:=by
    rw[hDq,A0m,Az8 (val U/val v)] at main;omega
   obtain⟨Y',q1,q2,q3,q4⟩:=Amt (R:=R) (N:=N) (P:=P) (Q:=Q) (f:=f) (g:=g) (X:=X.set p d) F hn hX2 q hs hD (by rw[hDq];exact Nat.le_add_left 1 _) hr (by omega) p 0 N (X.set p d) 0 (by omega) (by omega) hX2 q (fun _ _ _ _=>rfl) (by omega) (by simp[val])
   refine⟨Y',q1,q2,q3,fun K=>?_⟩
   rw[F0];unfold Jm
   rw[H2 (Az3 _),cf,Aa (by omega),ct,Avz (by omega),ct,Axv (by omega),ct,hXp,In (show U[p]<18446744073709551616 by omega),G,I,show(((1:Nat):Int)==0)=false by rfl,cf,Ask (by omega)]
   have:=q4 K
   rw[show D - 1=val U/val v by rw[hDq];rfl] at this
   exact this
 | m+1,p,fuel+1,X,t,hp,hfu,hX,hXl,k,T,u=>by
  have B:p<n:=by omega
  have A:p<v.length:=by omega
  have vp:=Ay F A
  have s:p<X.length:=by omega
  have hXp:X[p]=U[p]:=k p (by omega) (by omega) (Az3 _)
  have up:=Ay hU (show p<U.length by omega)
  obtain⟨hw1,hw2⟩:=Auq hD vp T
  have hDv:D*v[p]<18446744073709551616:=by omega
  generalize C:D*v[p]+t=w at *
  obtain⟨d,c,g1,g2,g3,G,I⟩:=WY up (show w%4294967296≤4294967296 by omega)
  have key:val ((X.set p d).take (p+1))+D*val (v.take (p+1))=val (U.take (p+1))+4294967296 ^ (p+1)*(w/4294967296+c):=by
   rw[gJ s,Av A,Av (l:=U) (by omega),A0i]
   have e:=Nn (4294967296 ^ p) w
   have e2:4294967296 ^ p*w=4294967296 ^ p*(D*v[p])+4294967296 ^ p*t:=by rw[←C,A0h]
   have e3:4294967296 ^ p*(U[p]+4294967296*c)=4294967296 ^ p*(d+w%4294967296):=by rw[g3]
   rw[A0h,A0h,←A0c] at e3
   have e4:D*(val (v.take p)+4294967296 ^ p*v[p])=D*val (v.take p)+4294967296 ^ p*(D*v[p]):=by rw[A0h,A2f]
   rw[e4,A0h]
   omega
  obtain⟨X',q1,q2,q3,q4⟩:=Asl (N:=N) (P:=P) (Q:=Q) (f:=f) (g:=g) F hn hU hUl hs hN hD z L S m (p+1) fuel (X.set p d) (w/4294967296+c) (by omega) (by omega) (Co hX g1 p) (by simpa using hXl) (fun j h1 h2 hj=>by rw[A31,if_neg (by omega)];exact k j (by simpa using h1) h2 (by omega)) (by omega) key
  refine⟨X',q1,q2,q3,fun K=>?_⟩
  rw[F0];unfold Jm
  rw[Gh B,ct,Aa B,ct,QA A,Aa (by omega),ct,Avz s,ct,Axv s,ct,hXp,In (show v[p]<18446744073709551616 by omega),sG,In hDv,HB,C,In hw1,cD,In (show w%4294967296<18446744073709551616 by omega),In (show U[p]<18446744073709551616 by omega),G,I,jf,HB,In (by omega),Ask s,wS (by omega)]
  exact q4 K
theorem ZX (a b:Nat):Int.tdiv (a:Int) (b:Int)=((a/b:Nat):Int):=rfl
theorem T_ (a b:Nat):Int.tmod (a:Int) (b:Int)=((a%b:Nat):Int):=rfl
theorem Av0 {l:Nat} (h:l<4294967296):(((Int.fdiv (l:Int) (2 ^ 32)) != (0:Int)))=false:=by rw[jf,A1m h];rfl
theorem Av1 {l:Nat} (h:4294967296≤l):(((Int.fdiv (l:Int) (2 ^ 32)) != (0:Int)))=true:=by
 have e:l/4294967296≠0:=by omega
 rw[jf];rw[bne_iff_ne];omega
theorem Awr {a b:Nat} (e:a<4294967296) (j:b<4294967296):Rj .u64 (wrap .u64 ((a:Int)*2 ^ 32)) (b:Int)=((a*4294967296+b:Nat):Int):=by
 rw[show(2:Int) ^ 32=((2 ^ 32:Nat):Int) by rfl,sG,In (by omega),Aju (by omega) (by omega),jg (by omega)]
theorem Aws {B l v1 v2 m u2:Nat} (h:m*B+u2<l*v2):(l*v1+m)*B+u2<l*(v1*B+v2):=by rw[A0m,A0h,←A0c l v1];omega
theorem Awt {B l v1 v2 m u2:Nat} (h:l*v2≤m*B+u2):l*(v1*B+v2)≤(l*v1+m)*B+u2:=by rw[A0m,A0h,←A0c l v1];omega
theorem Awu {B u0 u1 u2 v1 v2:Nat} (e:v2<B) (h:(u0*B+u1)*B+u2<(v1*B+v2+1)*B):u0*B+u1<v1*B+B:=by
 have:u0*B+u1<v1*B+v2+1:=A3y (A0s (Nat.le_add_right _ u2) h)
 omega
theorem Axh (P x:Nat):P*4294967296*x=P*(x*4294967296):=by rw[A0c,Az8 4294967296]
theorem Asm {N:Nat} {P Q U v:List Nat} {n:Nat} {f g:Bool} {K:Int→LA→O R} (hn:v.length=n+2) (V:Ak v) (hU:Ak U) (hUl:U.length=n+3) (hs:n≤1000000000000) {v1 v2 u2 top:Nat}
  (e1:v[n+1]'(by omega)=v1) (X:v[n]'(by omega)=v2) (e3:U[n]'(by omega)=u2) (I:2147483648≤v1) (Y:top<v1*4294967296+4294967296)
  (hV:(v1*4294967296+v2)*4294967296 ^ n≤val v) (hV':val v<(v1*4294967296+v2+1)*4294967296 ^ n) (hUU:(top*4294967296+u2)*4294967296 ^ n≤val U) (hUU':val U<(top*4294967296+u2+1)*4294967296 ^ n) (hq:val U/val v<4294967296) :
  ∀ (k fuel l m:Nat),k<fuel→4294967296≤m+k*2147483648→m<4294967296→l*v1+m=top→val U/val v≤l→∃ D,D<4294967296∧val U/val v≤D∧D≤val U/val v+1 ∧
   Eu N K P.length (n+3) (Ag v) (n+2) f g (Ag (P++(U++Q))) fuel ((n+2:Nat):Int) (l:Int) (m:Int)=Et N K P.length (n+3) (Ag v) (n+2) f g ((n+2:Nat):Int) (Ag (P++(U++Q))) (D:Int):=by
 have b1:=Ay V (show n+1<v.length by omega)
 have b2:=Ay V (show n<v.length by omega)
 have b3:=Ay hU (show n<U.length by omega)
 rw[e1] at b1;rw[X] at b2;rw[e3] at b3
 have hP:0<4294967296 ^ n:=A1l (by omega)
 have u:0<val v:=A1g (A3w (by omega) hP) hV
 intro k
 induction k with
 | zero=>intro fuel l m _ h1 h2;omega
 | succ k ih =>
  intro fuel l m hf hm L A S
  obtain⟨fuel,rfl⟩:∃ F,fuel=F+1:=⟨fuel - 1,by omega⟩
  generalize z:val U/val v=q at *
  have wi1:wrap .i64 (((n+2:Nat):Int) - 1)=((n+1:Nat):Int):=by rw[i64 (by omega)];omega
  have wi2:wrap .i64 (((n+2:Nat):Int) - 2)=(n:Int):=by rw[i64 (by omega)];omega
  have lower:q<l→l<18446744073709551616→∃ D,D<4294967296∧q≤D∧D≤q+1 ∧
    Lm N (Eu N K P.length (n+3) (Ag v) (n+2) f g (Ag (P++(U++Q))) fuel) K P.length (n+3) (Ag v) (n+2) f g ((n+2:Nat):Int) (l:Int) (m:Int) (Ag (P++(U++Q)))=Et N K P.length (n+3) (Ag v) (n+2) f g ((n+2:Nat):Int) (Ag (P++(U++Q))) (D:Int):=by
   intro hlt e
   have t:(l - 1)*v1+(m+v1)=top:=by
    have:l*v1=(l - 1)*v1+v1:=by
     obtain⟨l',rfl⟩:∃ l',l=l'+1:=⟨l - 1,by omega⟩
     rw[A0m];simp
    omega
   unfold Lm Vr
   rw[wi1,Aa (by omega),ct,QA (show n+1<v.length by omega),e1,In (show v1<18446744073709551616 by omega),HB,In (show m+v1<18446744073709551616 by omega),Ams (by omega) e]
   by_cases B:4294967296≤m+v1
   ·have hDB:l - 1<4294967296:=by
     apply A5g;intro T
     have:=Az9 v1 T
     rw[Az8 4294967296] at this
     omega
    have j:(l - 1)*(v1*4294967296+v2)≤top*4294967296+u2:=by
     have x1:(l - 1)*v2≤4294967295*4294967295:=A27 (by omega) (by omega)
     rw[←t,A0m,A0h,←A0c]
     omega
    have s:=yE hV' hUU j (by omega) u
    rw[z] at s
    exact⟨l - 1,hDB,by omega,s,by rw[Av1 B,ct]⟩
   ·obtain⟨D,d1,d2,d3,d4⟩:=ih fuel (l - 1) (m+v1) (by omega) (by omega) (by omega) t (by omega)
    exact⟨D,d1,d2,d3,by rw[Av0 (by omega),cf,d4]⟩
  rw[Eu];unfold Vs
  by_cases hlB:l<4294967296
  ·rw[Av0 hlB,show((false:Bool)==false)=true by rfl,ct,wi2,Aa (by omega),ct,QA (show n<v.length by omega),Aa (by omega),ct,Avz (show n<U.length by omega),Azf,X,e3,In (show v2<18446744073709551616 by omega),In (show u2<18446744073709551616 by omega),sG]
   have x1:l*v2≤4294967295*4294967295:=A27 (by omega) (by omega)
   rw[In (show l*v2<18446744073709551616 by omega),Awr L b3]
   by_cases C:m*4294967296+u2<l*v2
   ·rw[show decide (((l*v2:Nat):Int)>((m*4294967296+u2:Nat):Int))=true by rw[decide_eq_true_eq];omega,ct]
    have G:val U/val v<l:=yD hV hUU' (by rw[←A];exact Aws C) u
    rw[z] at G
    exact lower G (by omega)
   ·rw[show decide (((l*v2:Nat):Int)>((m*4294967296+u2:Nat):Int))=false by rw[decide_eq_false_iff_not];omega,cf]
    have j:l*(v1*4294967296+v2)≤top*4294967296+u2:=by
     rw[←A];exact Awt (A2n C)
    have s:=yE hV' hUU j (by omega) u
    rw[z] at s
    exact⟨l,hlB,S,s,rfl⟩
  ·rw[Av1 (by omega),show((true:Bool)==false)=false by rfl,cf]
   have e:l<18446744073709551616:=by
    have:l*2147483648≤l*v1:=A0w _ I
    omega
   exact lower (by omega) e
theorem tL {N:Nat} {P Q U v:List Nat} {n:Nat} {f g:Bool} (hn:v.length=n+2) (t:Ak v) (hU:Ak U) (hUl:U.length=n+3) (hs:n≤1000000000) (hN:n+8<N) (F:2147483648≤v[n+1]'(by omega)) (G:val U<val v*4294967296) :
  ∃ U',Ak U'∧U'.length=n+3∧val U'=val U%val v∧∀ K:Int→LA→O R,Ol N P.length (n+3) (Ag v) (n+2) f g (Ag (P++(U++Q))) K=K ((val U/val v:Nat):Int) (Ag (P++(U'++Q))):=by
 have b1:=Ay t (show n+1<v.length by omega)
 have V:=Ay t (show n<v.length by omega)
 have b3:=Ay hU (show n<U.length by omega)
 have Y:=Ay hU (show n+1<U.length by omega)
 have b5:=Ay hU (show n+2<U.length by omega)
 have hP:0<4294967296 ^ n:=A1l (by omega)
 have vv:val v=val (v.take n)+4294967296 ^ n*(v[n+1]'(by omega)*4294967296+v[n]'(by omega)):=by
  have e:=Av (l:=v) (c:=n+1) (by omega)
  have j:=Av (l:=v) (c:=n) (by omega)
  rw[Az0 (by omega)] at e
  rw[e,j,A0i,A0h,A0c,Az8 4294967296 v[n+1]];omega
 have uu:val U=val (U.take n)+4294967296 ^ n*((U[n+2]'(by omega)*4294967296+U[n+1]'(by omega))*4294967296+U[n]'(by omega)):=by
  have S:=Av (l:=U) (c:=n+2) (by omega)
  have e:=Av (l:=U) (c:=n+1) (by omega)
  have j:=Av (l:=U) (c:=n) (by omega)
  rw[Az0 (by omega)] at S
  have x1:4294967296 ^ (n+2)*U[n+2]=4294967296 ^ n*(U[n+2]*4294967296*4294967296):=by rw[A0i (n:=4294967296) (m:=n+1),A0i,Axh,Axh]
  have x2:4294967296 ^ (n+1)*U[n+1]=4294967296 ^ n*(U[n+1]*4294967296):=by rw[A0i,Axh]
  rw[S,e,j,x1,x2,A0m,A0h,A0h];omega
 have tv:=B6 (Ch t n)
 have tu:=B6 (Ch hU n)
 rw[A0o,A0x (by omega)] at tv tu
 generalize e1:v[n+1]'(by omega)=v1 at *
 generalize e2:v[n]'(by omega)=v2 at *
 generalize e3:U[n]'(by omega)=u2 at *
 generalize e4:U[n+1]'(by omega)=u1 at *
 generalize e5:U[n+2]'(by omega)=u0 at *
 have u:0<val v:=by
  have:0<4294967296 ^ n*(v1*4294967296+v2):=A3w hP (by omega)
  omega
 have hV:(v1*4294967296+v2)*4294967296 ^ n≤val v:=by rw[Az8];omega
 have hV':val v<(v1*4294967296+v2+1)*4294967296 ^ n:=by rw[Az8,A0h];omega
 have hUU:((u0*4294967296+u1)*4294967296+u2)*4294967296 ^ n≤val U:=by rw[Az8];omega
 have hUU':val U<((u0*4294967296+u1)*4294967296+u2+1)*4294967296 ^ n:=by rw[Az8,A0h];omega
 have hq:val U/val v<4294967296:=A2y G
 have k:u0*4294967296+u1<v1*4294967296+4294967296:=by
  have e:((u0*4294967296+u1)*4294967296+u2)*4294967296 ^ n<(v1*4294967296+v2+1)*4294967296 ^ n*4294967296:=by
   have:=(A2w (show 0<4294967296 by omega)).2 hV'
   omega
  rw[A36] at e
  exact Awu V (A3y e)
 obtain⟨top,z⟩:∃ top,u0*4294967296+u1=top:=⟨_,rfl⟩
 rw[z] at hUU hUU' k
 have I:=A1e top v1
 have T:=A1j top (show 0<v1 by omega)
 have L:val U/val v≤top/v1:=by
  have e:val U/val v<top/v1+1:=by
   apply yD hV hUU' _ u
   have j:top<v1*(top/v1+1):=by rw[A0h];omega
   have h3:(top+1)*4294967296≤v1*(top/v1+1)*4294967296:=Az9 _ j
   rw[A0h,←A0c,Az8 _ v1]
   omega
  omega
 have key:∀ K:Int→LA→O R,∃ D,D<4294967296∧val U/val v≤D∧D≤val U/val v+1∧Ol N P.length (n+3) (Ag v) (n+2) f g (Ag (P++(U++Q))) K=Et N K P.length (n+3) (Ag v) (n+2) f g ((n+2:Nat):Int) (Ag (P++(U++Q))) (D:Int):=by
  intro K
  obtain⟨D,A,B,C,s⟩:=Asm (R:=R) (N:=N) (P:=P) (Q:=Q) (f:=f) (g:=g) (K:=K) hn t hU hUl (by omega) e1 e2 e3 F k hV hV' hUU hUU' hq 2 N (top/v1) (top%v1) (by omega) (by omega) (by omega) (by rw[Az8];exact I) L
  refine⟨D,A,B,C,?_⟩
  rw[←s,JQ];unfold W7
  have wi1:wrap .i64 (((n+2:Nat):Int) - 1)=((n+1:Nat):Int):=by rw[i64 (by omega)];omega
  rw[Aa (by omega),ct,Ayw (show n+2<U.length by omega),wi1,Aa (by omega),ct,Avz (show n+1<U.length by omega),Aa (by omega),ct,QA (show n+1<v.length by omega),e1,e4,e5,In (show v1<18446744073709551616 by omega),vR (by omega),cf,ct,QA (show n+1<v.length by omega),e1,In (show v1<18446744073709551616 by omega),vR (by omega),cf,In (show u0<18446744073709551616 by omega),In (show u1<18446744073709551616 by omega),Awr b5 Y,z,ZX,T_,In (show top/v1<18446744073709551616 from A0s (A1r _ _) (by omega))]
 have fin:∀ D,D<4294967296→val U/val v≤D→D≤val U/val v+1→∃ U',Ak U'∧U'.length=n+3∧val U'=val U%val v∧∀ K:Int→LA→O R,Et N K P.length (n+3) (Ag v) (n+2) f g ((n+2:Nat):Int) (Ag (P++(U++Q))) (D:Int)=K ((val U/val v:Nat):Int) (Ag (P++(U'++Q))):=by
  intro D A B C
  obtain⟨X',q1,q2,q3,q4⟩:=Asl (R:=R) (N:=N) (P:=P) (Q:=Q) (U:=U) (v:=v) (n:=n+2) (D:=D) (f:=f) (g:=g) t hn hU hUl (by omega) (by omega) A u B C (n+2) 0 N U 0 (by omega) (by omega) hU hUl (fun _ _ _ _=>rfl) (by omega) (by simp[val])
  exact⟨X',q1,q2,q3,fun K=>by unfold Et Vq;exact q4 K⟩
 by_cases hz:val U/val v+1<4294967296
 ·obtain⟨U1,a1,a2,a3,a4⟩:=fin (val U/val v) hq (Az3 _) (by omega)
  obtain⟨U2,c1,c2,c3,c4⟩:=fin (val U/val v+1) hz (by omega) (Az3 _)
  have:U1=U2:=by
   have e:=(Ba a1).1;have j:=(Ba c1).1
   rw[a3] at e;rw[c3] at j;rw[e,j,a2,c2]
  subst this
  refine⟨U1,a1,a2,a3,fun K=>?_⟩
  obtain⟨D,A,B,C,s⟩:=key K
  have:D=val U/val v∨D=val U/val v+1:=by
   generalize val U/val v=q at *;omega
  rcases this with rfl | rfl
  ·rw[s,a4 K]
  ·rw[s,c4 K]
 ·obtain⟨U1,a1,a2,a3,a4⟩:=fin (val U/val v) hq (Az3 _) (by omega)
  refine⟨U1,a1,a2,a3,fun K=>?_⟩
  obtain⟨D,A,B,C,s⟩:=key K
  have:D=val U/val v:=by
   generalize val U/val v=q at *;omega
  subst this
  rw[s,a4 K]
theorem T' {l:List Nat} {d:Nat} (h:d<l.length):val (l.drop d)=l[d]+4294967296*val (l.drop (d+1)):=by
 rw[A0d h,val]
theorem Af6 {S:List Nat} {d v:Nat} (h:d<S.length):(S.set d v).drop d=v::S.drop (d+1):=by
 rw[A0d (by simpa using h),A5r,List.drop_set_of_lt (by omega)]
theorem nK {N:Nat} {a:List Nat} {t o:Bool} {b:Nat} (z:Ak a) (j:0<b) (C:b<4294967296) (k:fit a.length N):∀ (c fuel:Nat) (S:List Nat) (r:Nat),c<fuel→c≤a.length→Ak S→S.length=a.length→r<b→val (S.drop c)*b+r=val (a.drop c) →
  ∃ S' S2,Ak S'∧val S'=val a/b∧Ak S2∧val S2=val a%b∧∀ K:Nat→Nat→LA→LA→O R,Ds N K (Ag a) a.length t o (b:Int) fuel (r:Int) ((c:Int) - 1) (Ag S)=K (Al (val a/b)).length (Al (val a%b)).length (Ag S') (Ag S2)
 | 0,fuel+1,S,r,_,_,hS,s,hr,n=>by
  have D:=k.1
  rw[A00,A00] at n
  have hq:val a/b=val S:=by
   rw[←n,Az8,A34 j,A1m hr,A1i]
  have A:val a%b=r:=by rw[←n,Az8,A4p,A07 hr]
  obtain⟨S2,s1,s2,F⟩:=K6 (R:=R) (N:=N) (v:=r) (by omega) (by omega)
  refine⟨S,S2,hS,hq.symm,s1,by rw[A,s2],fun K=>?_⟩
  rw[Ds];unfold Je
  rw[show decide ((((0:Nat):Int) - 1)≥0)=false by simp,cf,JO s.symm hS (by rw[s];exact k),F,hq,A]
 | c+1,fuel+1,S,r,G,hc,hS,s,hr,n=>by
  have D:=k.1;have h2:=k.2
  have e:c<a.length:=by omega
  have ac:=Ay z e
  have hrB:r<4294967296:=by omega
  have B:r*4294967296+a[c]<b*4294967296:=by
   have:(r+1)*4294967296≤b*4294967296:=Az9 _ hr
   rw[A0m] at this;omega
  have u:r*4294967296+a[c]<18446744073709551616:=by omega
  obtain⟨w,q⟩:∃ w,r*4294967296+a[c]=w:=⟨_,rfl⟩
  rw[q] at B u
  have hqB:w/b<4294967296:=A2y B
  have I:=A1e w b
  obtain⟨S',S2,L,U,V,X,Y⟩:=nK (t:=t) (o:=o) z j C k c fuel (S.set c (w/b)) (w%b) (by omega) (by omega) (Co hS hqB c) (by simpa using s) (A1j _ j) (by
   rw[Af6 (by omega),val,T' e,A0m,A0c,←n,A0h,Az8 (w/b)]
   omega)
  refine⟨S',S2,L,U,V,X,fun K=>?_⟩
  rw[Ds];unfold Je
  rw[show(((c+1:Nat):Int) - 1)=(c:Int) by omega,show decide ((c:Int)≥0)=true by simp,ct,Aa e,ct,QA e,In (show b<18446744073709551616 by omega),vR (by omega),cf,ct,xe (by omega),ct,cf,In (show a[c]<18446744073709551616 by omega),Awr hrB ac,q,ZX,T_,In (show w/b<18446744073709551616 by omega),Amq hqB,TM,i64 (by omega)]
  exact Y K
theorem Af7 {N:Nat} {a:List Nat} {n:Nat} {t o:Bool} {b:Nat} (hn:n=a.length) (k:Ak a) (e:0<b) (q:b<4294967296) (j:fit a.length N) :
  ∃ S' S2,Ak S'∧val S'=val a/b∧Ak S2∧val S2=val a%b∧∀ K:Nat→Nat→LA→LA→O R,Hr N (Ag a) n t o (b:Int) K=K (Al (val a/b)).length (Al (val a%b)).length (Ag S') (Ag S2):=by
 subst hn
 have B:=j.1;have C:=j.2
 obtain⟨S',S2,s,u,v,z,A⟩:=nK (R:=R) (t:=t) (o:=o) k e q j a.length N (replicate a.length 0) 0 (by omega) (Az3 _) (Cl _) (by simp) e (by rw[A0k (by simp),A0k (by simp)];simp[val])
 refine⟨S',S2,s,u,v,z,fun K=>?_⟩
 rw[Zj];unfold Oj
 rw[Aq0 (by omega),ct,i64 (by omega),C0]
 exact A K
theorem Asn {x V s:Nat} (q:x<4294967296) (hs:s≤31):(x+4294967296*V)/2 ^ s=(x+4294967296*(V%4294967296))/2 ^ s%4294967296+4294967296*(V/2 ^ s):=by
 have j:0<2 ^ s:=A1l (by omega)
 have n:2 ^ s∣4294967296:=⟨2 ^ (32 - s),by rw[←A09,show s+(32 - s)=32 by omega]⟩
 have key:∀ W,(x+4294967296*W)/2 ^ s=(x+4294967296*(W%2 ^ s))/2 ^ s+4294967296*(W/2 ^ s):=by
  intro W
  have e:x+4294967296*W=x+4294967296*(W%2 ^ s)+2 ^ s*(4294967296*(W/2 ^ s)):=by
   have h:=A1e W (2 ^ s)
   have:4294967296*W=4294967296*(2 ^ s*(W/2 ^ s)+W%2 ^ s):=by rw[h]
   rw[this,A0h,A2f];omega
  rw[e,A2x _ _ j]
 have k:(x+4294967296*(V%2 ^ s))/2 ^ s<4294967296:=by
  rw[A4e j]
  have:V%2 ^ s+1≤2 ^ s:=A1j _ j
  have:=A0w 4294967296 this
  rw[A0h] at this
  omega
 rw[key V,key (V%4294967296),Nat.mod_mod_of_dvd _ n,A41,A07 k]
theorem Aur:∀ {l:List Nat},Ak l→val l%4294967296=l.getD 0 0
 | [],_=>rfl
 | x::r,h=>by
  have:=(Dc.1 h).1
  simp[val];omega
theorem Af8 {N:Nat} {a:List Nat} {o:Bool} {s:Nat} (q:Ak a) (hs:s≤31) (t:fit a.length N):∀ (m d fuel:Nat) (S:List Nat),d+m=a.length→m<fuel→Ak S→S.length=a.length→Apd S d→val S+4294967296 ^ d*(val (a.drop d)/2 ^ s)=val a/2 ^ s →
  ∃ S',Ak S'∧val S'=val a/2 ^ s∧∀ K:Nat→Bool→LA→O R,C6 N K o fuel (Ag a) a.length (s:Int) a.length (Ag a) a.length (a.length:Int) (d:Int) (Ag S)=K (Al (val a/2 ^ s)).length true (Ag S')
 | 0,d,fuel+1,S,D,_,hS,u,v,n=>by
  have z:d=a.length:=by omega
  subst z
  rw[List.drop_length] at n
  simp[val] at n
  refine⟨S,hS,n,fun K=>?_⟩
  rw[C6];unfold H6
  rw[H2 (Az3 _),cf,JO u.symm hS (by rw[u];exact t),n]
 | m+1,d,fuel+1,S,D,F,hS,u,v,n=>by
  have L:=t.1;have U:=t.2
  have j:d<a.length:=by omega
  have ad:=Ay q j
  have step:=Asn (V:=val (a.drop (d+1))) ad hs
  rw[Aur (M_ q _),←T' j] at step
  have G:(a.drop (d+1)).getD 0 0=a.getD (d+1) 0:=by simp[A0e,A1t]
  rw[G] at step
  have go:∀ w,(a[d]+4294967296*a.getD (d+1) 0)/2 ^ s=w→∃ S',Ak S'∧val S'=val a/2 ^ s∧∀ K:Nat→Bool→LA→O R,C6 N K o fuel (Ag a) a.length (s:Int) a.length (Ag a) a.length (a.length:Int) ((d+1:Nat):Int) (Ag (S.set d (w%4294967296)))=K (Al (val a/2 ^ s)).length true (Ag S'):=by
   intro w I
   refine Af8 (o:=o) q hs t m (d+1) fuel (S.set d (w%4294967296)) (by omega) (by omega) (Co hS (by omega) d) (by simpa using u) (FX v) ?_
   rw[W8 v (by omega),←n,step,I,A0i,A0h,A0c];omega
  by_cases hn:d+1<a.length
  ·have an:=Ay q hn
   have k:a.getD (d+1) 0=a[d+1]:=by rw[A0e,Az6 hn];rfl
   rw[k] at go
   obtain⟨S',A,B,C⟩:=go _ rfl
   refine⟨S',A,B,fun K=>?_⟩
   rw[C6];unfold H6
   have e:Rj .u64 ((a[d]:Nat):Int) (wrap .u64 (((a[d+1]:Nat):Int)*2 ^ 32))=((a[d]+4294967296*a[d+1]:Nat):Int):=by
    rw[show(2:Int) ^ 32=((2 ^ 32:Nat):Int) by rfl,sG,In (by omega),Aju (by omega) (by omega),A6r,jg (by omega)]
    congr 1;omega
   rw[Gh j,ct,Aa j,ct,QA j,wS (by omega),Gh hn,ct,Aa hn,ct,QA hn,show decide ((s:Int)<0)=false by simp,cf,ct,xe (by omega),ct,In (show a[d]<18446744073709551616 by omega),In (show a[d+1]<18446744073709551616 by omega),e,Az1 s,A0x (by omega),Sg,cD,TM]
   exact C K
  ·have k:a.getD (d+1) 0=0:=by rw[A0e,A1f (by omega)];rfl
   rw[k,A6g,A1i] at go
   obtain⟨S',A,B,C⟩:=go _ rfl
   refine⟨S',A,B,fun K=>?_⟩
   rw[C6];unfold H6
   rw[Gh j,ct,Aa j,ct,QA j,wS (by omega),H2 (by omega),cf,show decide ((s:Int)<0)=false by simp,cf,ct,xe (by omega),ct,In (show a[d]<18446744073709551616 by omega),Az1 s,A0x (by omega),Sg,cD,TM]
   exact C K
theorem Aso {N:Nat} {a:List Nat} {n:Nat} {t o:Bool} {s:Nat} (hn:n=a.length) (j:Ak a) (hs:s≤31) (e:fit a.length N) :
  ∃ S',Ak S'∧val S'=val a/2 ^ s∧∀ K:Nat→Bool→LA→O R,Ps N (Ag a) n t o (s:Int) K=K (Al (val a/2 ^ s)).length true (Ag S'):=by
 have B:=e.1;have C:=e.2
 have la:=(Ba j).2
 have q:wrap .i64 (Int.tdiv (s:Int) 32)=((0:Nat):Int):=by
  rw[show(32:Int)=((32:Nat):Int) by rfl,ZX,A1m (by omega)];decide
 have e1:Int.tmod (s:Int) 32=(s:Int):=by rw[show(32:Int)=((32:Nat):Int) by rfl,T_,A07 (by omega)]
 by_cases k:val a=0
 ·refine⟨[],Vj,by rw[k];simp[val],fun K=>?_⟩
  rw[Tl];unfold Nm
  rw[show decide ((s:Int)<0)=false by simp,cf,Bp hn j e,k,q,Nat.zero_div,Cz];rfl
 ·obtain⟨S',v,u,z⟩:=Af8 (R:=R) (o:=o) (a:=Al (val a)) (Ad _) hs (e.le la) (Al (val a)).length 0 N (replicate (Al (val a)).length 0) (by omega) (by omega) (Cl _) (by simp) (L0 _) (by rw[D6];simp)
  rw[Ah] at u
  refine⟨S',v,u,fun K=>?_⟩
  rw[Tl];unfold Nm
  have A:(Al (val a)).length≠0:=fun h=>k (Bf.1 h)
  rw[show decide ((s:Int)<0)=false by simp,cf,Bp hn j e,q,e1,show decide (((0:Nat):Int)≥(((Al (val a)).length:Nat):Int))=false by rw[decide_eq_false_iff_not];omega,cf]
  have c1:((decide ((0:Int)≤((0:Nat):Int)))&&((decide (((0:Nat):Int)≤(((Al (val a)).length:Nat):Int)))&&((decide ((((Al (val a)).length:Nat):Int)≤(((Al (val a)).length:Nat):Int)))&&(decide ((((Al (val a)).length:Nat):Int)≤(((Al (val a)).length:Nat):Int))))))=true:=by simp
  rw[c1,ct,Az1,Nat.sub_zero,Aq0 (by omega),ct,A26,A00,A0b,Vk,A06,C0]
  have:=z K
  rw[Ah] at this
  exact this
theorem NZ {S:List Nat} {k:Nat} (h:val S<4294967296 ^ k):val (S.take k)=val S:=by
 by_cases n:k≤S.length
 ·have e:=Q6 (S.take k) (S.drop k)
  rw[A2e,A0o,A0x n] at e
  rcases A0q (val (S.drop k)) with j | j
  ·rw[j] at e;simpa using e.symm
  ·have:=A21 (4294967296 ^ k) j
   omega
 ·rw[Az0 (by omega)]
theorem N_ {S:List Nat} {n:Nat} (hS:Ak S) (h:S.length=n+1):val S<(S[n]+1)*4294967296 ^ n:=by
 have j:=JY h
 have e:=B6 (Ch hS n)
 rw[A0o,A0x (by omega)] at e
 rw[A0m,Az8 S[n]];omega
theorem Azs {a b c:Nat} (e:a≤b) (j:b≤c):((decide ((0:Int)≤(a:Int)))&&((decide ((a:Int)≤(b:Int)))&&((decide ((b:Int)≤(c:Int)))&&(decide ((c:Int)≤(c:Int))))))=true:=by simp;omega
theorem yU {N:Nat} {v u0 Sv:List Nat} {n D s:Nat} (hn:v.length=n+2) (X:Ak v) (G:2147483648≤v[n+1]'(by omega)) (hSv:take ((n+2)*1) (Ag Sv)=Ag v) (hu:Ak u0) (Y:u0.length=D+(n+2)) (hs:s≤31) (B:fit (D+n+4) N) :
  ∀ (j fuel c:Nat) (W q:List Nat),j<fuel→c+j=D→Ak W→W.length=u0.length→Ak q→q.length=D→W.take j=u0.take j→val (W.drop j)<val v→val (q.drop j)*val v+val (W.drop j)=val (u0.drop j) →
  ∃ Sq Sr,Ak Sq∧val Sq=val u0/val v∧Ak Sr∧val Sr=val u0%val v/2 ^ s∧∀ K:Nat→Nat→LA→LA→O R,D0 N K (s:Int) (n+2) u0.length (Ag Sv) fuel D ((n+2:Nat):Int) (D:Int) (D:Int) (c:Int) (Ag q) (Ag W)=K (Al (val u0/val v)).length (Al (val u0%val v/2 ^ s)).length (Ag Sq) (Ag Sr)
 | 0,fuel+1,c,W,q,_,hc,hW,hWl,hq,u,C,hr,k=>by
  have h1:=B.1;have h2:=B.2
  simp only[A00] at k hr
  have F:0<val v:=by omega
  have vlt:=B6 X
  rw[hn] at vlt
  have I:val u0/val v=val q:=by rw[←k,Az8,A34 F,A1m hr,A1i]
  have hm:val u0%val v=val W:=by rw[←k,Az8,A4p,A07 hr]
  have ht:val (W.take (n+2))=val W:=NZ (by omega)
  have L:(W.take (n+2)).length=n+2:=by rw[A0o];omega
  obtain⟨S',q1,q3,q4⟩:=Aso (R:=R) (N:=N) (a:=W.take (n+2)) (n:=n+2) (t:=false) (o:=true) (s:=s) L.symm (Ch hW _) hs (B.le (by rw[L];omega))
  rw[ht,←hm] at q3 q4
  refine⟨q,S',hq,I.symm,q1,q3,fun K=>?_⟩
  have hcD:c=D:=by omega
  subst hcD
  rw[D0];unfold Mo
  rw[H2 (Az3 _),cf,Avv (by omega),ct,Az1,A0b,Vk,q4,JO u.symm hq (by rw[u];exact B.le (by omega)),←I]
 | j+1,fuel+1,c,W,q,hfu,hc,hW,hWl,hq,u,C,hr,k=>by
  have h1:=B.1;have h2:=B.2
  have vlt:=B6 X
  rw[hn] at vlt
  have hjW:j<W.length:=by omega
  have V:j<u0.length:=by omega
  have hjq:j<q.length:=by omega
  have hWj:W[j]=u0[j]:=by
   have:=congrArg (fun l=>l[j]?) C
   simp only[A5a (show j<j+1 by omega),Az6 hjW,Az6 V] at this
   exact A5o this
  have wj:=Ay hW hjW
  have eW:=T' hjW
  have eu:=T' V
  have hUl:((W.drop j).take (n+3)).length=n+3:=by rw[A0o,A2d];omega
  have e:val (W.drop j)<val v*4294967296:=by rw[eW];omega
  have hB:val (W.drop j)<4294967296 ^ (n+3):=by
   have:=(A2w (show 0<4294967296 by omega)).2 vlt
   rw[←A0i] at this;exact Nat.lt_trans e this
  have hU:val ((W.drop j).take (n+3))=val (W.drop j):=NZ hB
  have A:W=W.take j++((W.drop j).take (n+3)++(W.drop j).drop (n+3)):=by rw[A2e,A2e]
  have hPl:(W.take j).length=j:=by rw[A0o];omega
  obtain⟨U',u1,u2,u3,u4⟩:=tL (R:=R) (N:=N) (P:=W.take j) (Q:=(W.drop j).drop (n+3)) (U:=(W.drop j).take (n+3)) (v:=v) (n:=n) (f:=false) (g:=true) hn X (Ch (M_ hW _) _) hUl (by omega) (by omega) G (by rw[hU];exact e)
  rw[hU] at u3 u4
  have hQ0:val ((W.drop j).drop (n+3))=0:=by
   have:=Q6 ((W.drop j).take (n+3)) ((W.drop j).drop (n+3))
   rw[A2e,hU,hUl] at this
   have hp:0<4294967296 ^ (n+3):=A1l (by omega)
   rcases A0q (val ((W.drop j).drop (n+3))) with h | h
   ·exact h
   ·have:=A21 (4294967296 ^ (n+3)) h;omega
  have F:0<val v:=by omega
  have hqd:val (W.drop j)/val v<4294967296:=A2y e
  have hdm:=A1e (val (W.drop j)) (val v)
  have hmd:=A1j (val (W.drop j)) F
  have hW':Ak (W.take j++(U'++(W.drop j).drop (n+3))):=fO.2 ⟨Ch hW _,fO.2 ⟨u1,M_ (M_ hW _) _⟩⟩
  have hWl':(W.take j++(U'++(W.drop j).drop (n+3))).length=u0.length:=by
   rw[Az2,Az2,hPl,u2,A2d,A2d];omega
  have hWd:(W.take j++(U'++(W.drop j).drop (n+3))).drop j=U'++(W.drop j).drop (n+3):=by
   rw[List.drop_append,hPl,A5l,A00,A0k (by omega),A1o]
  have hWt:(W.take j++(U'++(W.drop j).drop (n+3))).take j=u0.take j:=by
   rw[List.take_append,hPl,A5l,A2q,A1y,A4v,A6d]
   have:=congrArg (take j) C
   rwa [A4v,A4v,A0x (by omega)] at this
  have hWv:val (U'++(W.drop j).drop (n+3))=val (W.drop j)%val v:=by rw[Q6,hQ0,u3];simp
  obtain⟨Sq,Sr,a1,a2,a3,a4,a5⟩:=yU (N:=N) hn X G hSv hu Y hs B j fuel (c+1) (W.take j++(U'++(W.drop j).drop (n+3))) (q.set j (val (W.drop j)/val v)) (by omega) (by omega) hW' hWl' (Co hq hqd j) (by simpa using u) hWt (by rw[hWd,hWv];exact hmd) (by
   rw[hWd,hWv,Af6 hjq,val,eu,←k,←hWj,A0m,A0c,A0h,Az8 (val (W.drop j)/val v)]
   omega)
  refine⟨Sq,Sr,a1,a2,a3,a4,fun K=>?_⟩
  have w0:wrap .i64 (wrap .i64 ((D:Int) - 1) - (c:Int))=(j:Int):=by
   rw[i64 (a:=(D:Int) - 1) (by omega),i64 (by omega)];omega
  have w1:wrap .i64 (wrap .i64 ((j:Int)+((n+2:Nat):Int))+1)=((j+(n+3):Nat):Int):=by
   rw[i64 (a:=(j:Int)+((n+2:Nat):Int)) (by omega),i64 (by omega)];omega
  have:=u4 fun z aa=>cond (Ae (j:Int) D) (cond ((beq 1 1)&&((ble ((0+((Int.toNat (j:Int))*1))+1) (List.length (Ag q)))&&(!false))) (D0 N K (s:Int) (n+2) u0.length (Ag Sv) fuel D ((n+2:Nat):Int) (D:Int) (D:Int) (wrap .i64 ((c:Int)+1)) (List.set (Ag q) (0+((Int.toNat (j:Int))*1)) (.int .u32 z)) aa) none) none
  rw[←A,hPl] at this
  rw[D0];unfold Mo
  rw[Gh (by omega),ct,w0,w1,Azs (by omega) (by omega),ct,hSv,Az1,Az1,A0b,A0g,show j+(n+3) - j=n+3 by omega]
  rw[Az1,A0b,A0g] at this
  rw[this,Aa (by omega),ct,show((beq 1 1)&&((ble (j+1) (List.length (Ag q)))&&(!false)))=true by (rw[Bo];simp;omega),ct,fQ,wS (by omega)]
  exact a5 K
theorem Ape {N:Nat} {a b:List Nat} {n m:Nat} {t o t' o':Bool} (hn:n=a.length) (Y:m=b.length) (S:Ak a) (I:Ak b) (A:2≤b.length) (T:b.length≤a.length) (j:b.getLast (by intro h;rw[h] at A;simp at A)≠0) (B:fit (a.length+b.length+4) N) :
  ∃ Sq Sr,Ak Sq∧val Sq=val a/val b∧Ak Sr∧val Sr=val a%val b∧∀ K:Nat→Nat→LA→LA→O R,Lz N (Ag a) n t o (Ag b) m t' o' K=K (Al (val a/val b)).length (Al (val a%val b)).length (Ag Sq) (Ag Sr):=by
 subst hn Y
 have h1:=B.1;have h2:=B.2
 obtain⟨k,F⟩:∃ k,b.length=k+2:=⟨b.length - 2,by omega⟩
 have U:b[k+1]'(by omega)≠0:=by
  rw[A20] at j
  simp only[F] at j
  exact j
 have bk:=Ay I (show k+1<b.length by omega)
 obtain⟨s,s1,s2,V,s4⟩:=Amr (R:=R) (N:=N) (c:=b[k+1]'(by omega)) (by omega) bk
 obtain⟨Sv,v1,v2,v3,v4⟩:=gH (R:=R) (N:=N) (a:=b) (t:=false) (o:=o') (s:=s) rfl I s1 (B.le (by omega))
 obtain⟨Su,X,p2,L,p4⟩:=gH (R:=R) (N:=N) (a:=a) (t:=false) (o:=o) (s:=s) rfl S s1 (B.le (by omega))
 have G:0<2 ^ s:=A1l (by omega)
 have hP:0<4294967296 ^ (k+1):=A1l (by omega)
 have bt:=N_ I F
 have bf:=JY F
 have hVlt:val b*2 ^ s<4294967296 ^ (k+2):=by
  have x1:val b*2 ^ s<(b[k+1]+1)*4294967296 ^ (k+1)*2 ^ s:=(A2w G).2 bt
  have hd:2 ^ s∣4294967296:=⟨2 ^ (32 - s),by rw[←A09,show s+(32 - s)=32 by omega]⟩
  have x2:(b[k+1]+1)*2 ^ s≤4294967296:=by
   obtain⟨r,hr⟩:=hd
   have x3:b[k+1]<r:=by
    rw[hr,Az8] at V
    exact A2s V
   have x4:(b[k+1]+1)*2 ^ s≤r*2 ^ s:=Az9 _ x3
   have x5:r*2 ^ s=4294967296:=by rw[Az8];exact hr.symm
   omega
  have x6:=Az9 (4294967296 ^ (k+1)) x2
  rw[A36] at x1
  rw[A0i,Az8 _ 4294967296]
  exact A1g x1 x6
 have C:(Sv.take (k+2)).length=k+2:=by rw[A0o];omega
 have e:val (Sv.take (k+2))=val b*2 ^ s:=by rw[NZ (by rw[v3];exact hVlt),v3]
 have q:2147483648*4294967296 ^ (k+1)≤val b*2 ^ s:=by
  have x1:4294967296 ^ (k+1)*b[k+1]≤val b:=by omega
  have x2:=Az9 (2 ^ s) x1
  rw[A0c,Az8 (4294967296 ^ (k+1))] at x2
  have x3:=Az9 (4294967296 ^ (k+1)) s2
  omega
 have u:2147483648≤(Sv.take (k+2))[k+1]'(by omega):=by
  have x1:=N_ (Ch v1 (k+2)) C
  rw[e] at x1
  have x2:=A3y (A0s q x1)
  omega
 have hDl:Su.length=(a.length+1 - (k+2))+(k+2):=by omega
 have z:val (Su.drop (a.length+1 - (k+2)))<val (Sv.take (k+2)):=by
  have x1:=Q6 (Su.take (a.length+1 - (k+2))) (Su.drop (a.length+1 - (k+2)))
  rw[A2e,L,A0o,A0x (by omega)] at x1
  have x2:=B6 S
  have x3:val a*2 ^ s<4294967296 ^ a.length*2 ^ s:=(A2w G).2 x2
  have x4:a.length=(a.length+1 - (k+2))+(k+1):=by omega
  generalize hE:a.length+1 - (k+2)=E at *
  have x5:4294967296 ^ a.length=4294967296 ^ E*4294967296 ^ (k+1):=by rw[←A09];congr 1
  rw[x5,A0c] at x3
  have x6:4294967296 ^ E*val (Su.drop E)<4294967296 ^ E*(4294967296 ^ (k+1)*2 ^ s):=by omega
  have x7:=A2s x6
  have x8:4294967296 ^ (k+1)*2 ^ s≤2147483648*4294967296 ^ (k+1):=by rw[Az8];exact Az9 _ (Abv s1)
  rw[e];omega
 obtain⟨Sq,Sr,a1,a2,a3,a4,a5⟩:=yU (R:=R) (N:=N) (v:=Sv.take (k+2)) (u0:=Su) (Sv:=Sv) (n:=k) (D:=a.length+1 - (k+2)) (s:=s) C (Ch v1 _) u (by rw[A0b,Vk]) X hDl s1 (B.le (by omega)) (a.length+1 - (k+2)) N 0 Su (replicate (a.length+1 - (k+2)) 0) (by omega) (by omega) X rfl (Cl _) (by simp) rfl z (by
  rw[A0k (show(replicate (a.length+1 - (k+2)) 0).length≤a.length+1 - (k+2) by simp)];simp[val])
 have hq:val Su/val (Sv.take (k+2))=val a/val b:=by rw[L,e,Nat.mul_div_mul_right _ _ G]
 have hr:val Su%val (Sv.take (k+2))/2 ^ s=val a%val b:=by rw[L,e,Nat.mul_mod_mul_right,Nat.mul_div_cancel _ G]
 rw[hq] at a2;rw[hr] at a4
 refine⟨Sq,Sr,a1,a2,a3,a4,fun K=>?_⟩
 rw[FT];unfold Tm
 have w1:wrap .i64 ((b.length:Int) - 1)=((k+1:Nat):Int):=by rw[i64 (by omega)];omega
 have w2:wrap .i64 (((a.length+1:Nat):Int) - (b.length:Int))=((a.length+1 - (k+2):Nat):Int):=by rw[i64 (by omega)];omega
 rw[w1,Aa (by omega),ct,QA (by omega),s4,v4,Avv (by omega),ct,p4,w2,Aq0 (by omega),ct,Az1,C0]
 have:=a5 K
 rw[hq,hr,p2] at this
 rw[F]
 exact this
theorem FY {N:Nat} {a b:List Nat} {n m:Nat} {t o t' o':Bool} (hn:n=a.length) (U:m=b.length) (S:Ak a) (T:Ak b) (v:val b≠0) (k:fit (a.length+b.length+4) N) :
  ∃ Sq Sr,Ak Sq∧val Sq=val a/val b∧Ak Sr∧val Sr=val a%val b∧∀ K:Nat→Nat→Bool→LA→LA→O R,E8 N (Ag a) n t o (Ag b) m t' o' K=K (Al (val a/val b)).length (Al (val a%val b)).length true (Ag Sq) (Ag Sr):=by
 have Y:=k.1;have h2:=k.2
 have la:=(Ba S).2
 have lb:=(Ba T).2
 have F:(Al (val b)).length≠0:=fun h=>v (Bf.1 h)
 have start:∀ K:Nat→Nat→Bool→LA→LA→O R,E8 N (Ag a) n t o (Ag b) m t' o' K=cond (decide (H7 (val a) (val b)<0)) (W5 N (Ag (Al (val a))) (Al (val a)).length false o fun s t=>K 0 s true [] t) (cond (decide ((((Al (val a)).length:Nat):Int)≤(2:Int))) (Th N (Ag (Al (val a))) (Al (val a)).length false o fun p=>Th N (Ag (Al (val b))) (Al (val b)).length false o' fun o=>cond (o==(0:Int)) none (Bu N (wrap .u64 (Int.tdiv p o)) fun u w=>cond (o==(0:Int)) none (Bu N (Int.tmod p o) fun x y=>K u x true w y))) (cond ((((Al (val b)).length:Nat):Int)==(1:Int)) (cond (Ae (0:Int) (Al (val b)).length) (As .u32 (Ag (Al (val b))) fun z=>Hr N (Ag (Al (val a))) (Al (val a)).length false o z fun aa ab ac ad=>K aa ab true ac ad) none) (Lz N (Ag (Al (val a))) (Al (val a)).length false o (Ag (Al (val b))) (Al (val b)).length false o' fun ae af ag ah=>K ae af true ag ah))):=by
  intro K
  rw[ZU];unfold cQ
  rw[Bp hn S (k.le (by omega)),Bp U T (k.le (by omega)),vR F,cf,BI rfl rfl (Ad _) (Ad _) (k.le (by omega)),Ah,Ah]
 by_cases e:val a<val b
 ·refine⟨[],Al (val a),Vj,by rw[A1m e];rfl,Ad _,by rw[A07 e,Ah],fun K=>?_⟩
  rw[start,show decide (H7 (val a) (val b)<0)=true by (unfold H7;rw[if_pos e];rfl),ct,BJ rfl (Ad _) (k.le (by omega)),Ah,A1m e,A07 e,Cz];rfl
 ·have j:decide (H7 (val a) (val b)<0)=false:=by unfold H7;rw[if_neg e];split<;>rfl
  have A:=Bb (A2n e)
  by_cases q:(Al (val a)).length≤2
  ·have av:=gF q
   have bv:=gF (A1c A q)
   have B:val a/val b<18446744073709551616:=A0s (A1r _ _) av
   have G:val a%val b<18446744073709551616:=A0s (A5k _ _) av
   obtain⟨Sq,a1,a2,a3⟩:=K6 (R:=R) (N:=N) B (by omega)
   obtain⟨Sr,b1,V,X⟩:=K6 (R:=R) (N:=N) G (by omega)
   refine⟨Sq,Sr,a1,a2,b1,V,fun K=>?_⟩
   rw[start,j,cf,show decide ((((Al (val a)).length:Nat):Int)≤2)=true by simp;omega,ct,JX rfl (Ad _) q (by omega),JX rfl (Ad _) (by omega) (by omega),Ah,Ah,vR v,cf,ZX,In B,a3,cf,T_,X]
  ·have C:decide ((((Al (val a)).length:Nat):Int)≤2)=false:=by simp;omega
   by_cases I:(Al (val b)).length=1
   ·obtain⟨x,L⟩:∃ x,Al (val b)=[x]:=by
     match h:Al (val b),I with
     | [x],_=>exact⟨x,rfl⟩
    have D:x=val b:=by have:=Ah (val b);rw[L] at this;simpa[val] using this
    have xl:x<4294967296:=by have:=Ad (val b);rw[L] at this;exact(Dc.1 this).1
    obtain⟨Sq,Sr,a1,a2,a3,a4,a5⟩:=Af7 (R:=R) (N:=N) (a:=Al (val a)) (t:=false) (o:=o) (b:=x) rfl (Ad _) (by omega) xl (k.le (by omega))
    rw[Ah,D] at a2 a4 a5
    refine⟨Sq,Sr,a1,a2,a3,a4,fun K=>?_⟩
    rw[start,j,cf,C,cf,L]
    simp only[Az5,A2g,BE,Br]
    rw[show((((0+1:Nat)):Int)==1)=true by rfl,ct,show Ae 0 (0+1)=true by decide,ct,D,a5]
   ·obtain⟨Sq,Sr,a1,a2,a3,a4,a5⟩:=Ape (R:=R) (N:=N) (a:=Al (val a)) (b:=Al (val b)) (t:=false) (o:=o) (t':=false) (o':=o') rfl rfl (Ad _) (Ad _) (by omega) A (fP _ _) (k.le (by omega))
    rw[Ah,Ah] at a2 a4 a5
    refine⟨Sq,Sr,a1,a2,a3,a4,fun K=>?_⟩
    rw[start,j,cf,C,cf,show((((Al (val b)).length:Nat):Int)==1)=false by rw[beq_eq_false_iff_ne];omega,cf,a5]
def Ayh (A B u0 u1 v0 v1:Nat) (e:Bool):Prop:=v0=0∨(1≤u1∧1≤v1∧match e with
 | true=>v0*B≤u0*A∧u1*A≤v1*B∧(v0+v1)*B≤(u0+u1)*A∧u0*v1=v0*u1+1
 | false=>u0*A≤v0*B∧v1*B≤u1*A∧(u0+u1)*A≤(v0+v1)*B∧u1*v0=v1*u0+1)
structure Lead (X Y x y u1 u2 v1 v2:Nat) (e:Bool):Prop where
 le:y≤x
 idV:x*v2+y*v1=X
 idU:x*u2+y*u1=Y
 pos:1≤v2
 par:match e with
  | false=>x+v1*Y=u1*X∧y+u2*X=v2*Y∧u1*v2=v1*u2+1
  | true=>x+u1*X=v1*Y∧y+v2*Y=u2*X∧u2*v1=v2*u1+1
 small:(v1=0∧u1=1∧u2=0∧v2=1∧e=false)∨(1≤v1∧u1≤v1∧u2≤v2∧1≤u2)
theorem Lead.init {X Y:Nat} (h:Y≤X):Lead X Y X Y 1 0 0 1 false:=⟨h,by simp,by simp,by omega,by simp,.inl ⟨rfl,rfl,rfl,rfl,rfl⟩⟩
theorem Lead.step {X Y x y u1 u2 v1 v2:Nat} {e:Bool} (L:Lead X Y x y u1 u2 v1 v2 e) (A:1≤y):Lead X Y y (x%y) u2 (u1+x/y*u2) v2 (v1+x/y*v2) (!e):=by
 have j:=A1e x y
 have v:=A1j x (show 0<y by omega)
 have hq:1≤x/y:=by rw[A3r (by omega)];have:=L.le;omega
 generalize x/y=q at *
 generalize x%y=r at *
 have k:=L.pos
 refine⟨by omega,?_,?_,?_,?_,?_⟩
 ·rw[←L.idV,←j,A0h,A0m,A0c];omega
 ·rw[←L.idU,←j,A0h,A0m,A0c];omega
 ·have:=A27 hq k;omega
 ·have p:=L.par
  cases e with
  | false =>
   obtain⟨z,n,t⟩:=p
   refine⟨n,?_,?_⟩
   ·have e1:q*(y+u2*X)=q*(v2*Y):=by rw[n]
    rw[A0h,←A0c,←A0c] at e1
    rw[Az8 y q] at j
    rw[A0m,A0m];omega
   ·rw[A0m,A0m,A36 q u2,t];omega
  | true =>
   obtain⟨z,n,t⟩:=p
   refine⟨n,?_,?_⟩
   ·have e1:q*(y+v2*Y)=q*(u2*X):=by rw[n]
    rw[A0h,←A0c,←A0c] at e1
    rw[Az8 y q] at j
    rw[A0m,A0m];omega
   ·rw[A0h,A0h,t,A2f u2 q,A2f v2 q,Az8 u2 v2];omega
 ·right
  rcases L.small with⟨s1,s2,s,u,_⟩ | ⟨s1,s2,s,u⟩
  ·subst s1 s2 s u;exact⟨by omega,by omega,by omega,by omega⟩
  ·have B:q*u2≤q*v2:=A0w _ s
   exact⟨k,s,by omega,by have:=A27 hq u;omega⟩
theorem Lead.cof {X Y x y u1 u2 v1 v2 A B P:Nat} {e:Bool} (L:Lead X Y x y u1 u2 v1 v2 e) (hA:X*P≤A) (hA':A<(X+1)*P) (hB:Y*P≤B) (hB':B<(Y+1)*P) (c1:v2≤y) (k:v1+v2≤x - y):Ayh A B u1 u2 v1 v2 (!e):=by
 have p:=L.par
 have n:=L.le
 rcases L.small with⟨s1,_⟩ | ⟨s1,s2,u,q⟩
 ·exact .inl s1
 ·refine .inr ⟨q,L.pos,?_⟩
  cases e with
  | false =>
   obtain⟨s,t,j⟩:=p
   have n1:u2*A≤v2*B:=FC hB hA' (w:=y) (by omega) (by omega)
   have n2:(v1+v2)*B≤(u1+u2)*A:=FC hA hB' (w:=x - y) (by rw[A0m,A0m];omega) k
   refine⟨?_,n1,n2,j⟩
   rw[A0m,A0m] at n2;omega
  | true =>
   obtain⟨s,t,j⟩:=p
   have n1:v2*B≤u2*A:=FC hA hB' (w:=y) (by omega) (by omega)
   have n2:(u1+u2)*A≤(v1+v2)*B:=FC hB hA' (w:=x - y) (by rw[A0m,A0m];omega) (by omega)
   refine⟨?_,n1,n2,j⟩
   rw[A0m,A0m] at n2;omega
theorem UA {x y:Nat} (j:1≤y) (h:y≤x):2*(y*(x%y))≤x*y:=by
 have k:=A1e x y
 have n:=A1j x (show 0<y by omega)
 have hq:1≤x/y:=by rw[A3r (by omega)];omega
 have q:y*1≤y*(x/y):=A0w _ hq
 have e:2*(x%y)≤x:=by omega
 have:=A0w y e
 rw[Az8 x y,A2f];exact this
def Amu (u0 u1 v0 v1:Nat) (e:Bool):LA:=[.int .u64 (u0:Int),.int .u64 (u1:Int),.int .u64 (v0:Int),.int .u64 (v1:Int),.bool e]
theorem Apf {N:Nat} {X Y A B P:Nat} (hX:X<18446744073709551616) (hYX:Y≤X) (hA:X*P≤A) (hA':A<(X+1)*P) (hB:Y*P≤B) (hB':B<(Y+1)*P):∀ (k fuel x y u0 u1 u2 v0 v1 v2:Nat) (e:Bool),k<fuel→x*y<2 ^ k→Lead X Y x y u1 u2 v1 v2 e→Ayh A B u0 u1 v0 v1 e→u0<18446744073709551616→u1<18446744073709551616→v0<18446744073709551616→v1<18446744073709551616 →
  ∃ (a1 a2 b1 n:Nat) (D:Bool),Ayh A B a1 a2 b1 n D∧a1<18446744073709551616∧a2<18446744073709551616∧b1<18446744073709551616∧n<18446744073709551616∧∀ K:LA→O R,D8 N K fuel (x:Int) (y:Int) (u0:Int) (u1:Int) (u2:Int) (v0:Int) (v1:Int) (v2:Int) e=K (Amu a1 a2 b1 n D):=by
 intro k
 induction k with
 | zero =>
  intro fuel x y u0 u1 u2 v0 v1 v2 e V q L C b1 n G u
  obtain⟨fuel,rfl⟩:∃ F,fuel=F+1:=⟨fuel - 1,by omega⟩
  have t:y=0:=by
   rcases A0q y with h | h
   ·exact h
   ·have h3:=A0w x (show 1≤y by omega)
    have h4:=L.le
    rw[A3o] at q
    omega
  refine⟨u0,u1,v0,v1,e,C,b1,n,G,u,fun K=>?_⟩
  rw[D8];unfold Jl
  have:=L.pos
  rw[show decide ((y:Int)≥(v2:Int))=false by simp;omega];rfl
 | succ k ih =>
  intro fuel x y u0 u1 u2 v0 v1 v2 e V q L C b1 n G u
  obtain⟨fuel,rfl⟩:∃ F,fuel=F+1:=⟨fuel - 1,by omega⟩
  have I:=L.pos
  have s:=L.le
  by_cases c1:v2≤y
  ·have t:1≤y:=by omega
   have hxX:x≤X:=by
    have:=A0w x I
    have:=L.idV;omega
   have U:v1+v2≤X:=by
    have h1:=Az9 v2 (show 1≤x by omega)
    have h2:=Az9 v1 t
    have:=L.idV;omega
   by_cases c2:v1+v2≤x - y
   ·have L':=L.step t
    have C':=L.cof hA hA' hB hB' c1 c2
    have i1:=L'.idV
    have i2:=L'.idU
    have w1:v1+x/y*v2≤X:=by
     have:=Az9 (v1+x/y*v2) t;omega
    have w2:u1+x/y*u2≤Y:=by
     have:=Az9 (u1+x/y*u2) t;omega
    have S:u2<18446744073709551616:=by
     have h1:=Az9 u2 (show 1≤x by omega)
     have:=L.idU;omega
    have v:v2<18446744073709551616:=by omega
    have T:y*(x%y)<2 ^ k:=by
     have:=UA t s
     rw[A0i] at q;omega
    obtain⟨a1,a2,d1,d2,D,r1,r2,r3,r4,r5,r6⟩:=ih fuel y (x%y) u1 u2 (u1+x/y*u2) v1 v2 (v1+x/y*v2) (!e) (by omega) T L' C' n S u v
    refine⟨a1,a2,d1,d2,D,r1,r2,r3,r4,r5,fun K=>?_⟩
    rw[D8];unfold Jl
    have j:x<18446744073709551616:=by omega
    have z:x/y<18446744073709551616:=A0s (A1r _ _) j
    rw[show decide ((y:Int)≥(v2:Int))=true by simp;omega,show((true:Bool)==true)=true by rfl,ct,je j s,HB,In (show v1+v2<18446744073709551616 by omega),show decide (((x - y:Nat):Int)≥((v1+v2:Nat):Int))=true by rw[decide_eq_true_eq];omega,Aun,ct]
    unfold W6
    rw[vR (by omega),cf,cf,ZX,T_,In z,sG,sG,In (show x/y*u2<18446744073709551616 by omega),In (show x/y*v2<18446744073709551616 by omega),HB,HB,In (show u1+x/y*u2<18446744073709551616 by omega),In (show v1+x/y*v2<18446744073709551616 by omega)]
    exact r6 K
   ·refine⟨u0,u1,v0,v1,e,C,b1,n,G,u,fun K=>?_⟩
    rw[D8];unfold Jl
    rw[show decide ((y:Int)≥(v2:Int))=true by simp;omega,show((true:Bool)==true)=true by rfl,ct,je (by omega) s,HB,In (show v1+v2<18446744073709551616 by omega),show decide (((x - y:Nat):Int)≥((v1+v2:Nat):Int))=false by rw[decide_eq_false_iff_not];omega,Aun,cf]
    rfl
  ·refine⟨u0,u1,v0,v1,e,C,b1,n,G,u,fun K=>?_⟩
   rw[D8];unfold Jl
   rw[show decide ((y:Int)≥(v2:Int))=false by simp;omega];rfl
theorem kO {N:Nat} {a:List Nat} {n:Nat} {t o:Bool} {i:Nat} {K:Int→O R} (hn:n=a.length) (e:Ak a):Ly N (i:Int) (Ag a) n t o K=K ((a.getD i 0:Nat):Int):=by
 subst hn
 rw[FP];unfold DF
 by_cases h:i<a.length
 ·have:=Ay e h
  rw[Gh h,ct,Aa h,ct,QA h,In (by omega),A0e,Az6 h];rfl
 ·rw[H2 (by omega),cf,A0e,A1f (by omega)];rfl
theorem BK {a:List Nat} (e:Ak a) (i:Nat):a.getD i 0<4294967296:=by
 by_cases h:i<a.length
 ·rw[A0e,Az6 h];exact Ay e h
 ·rw[A0e,A1f (by omega)];simp
theorem Asp {a:List Nat} {n:Nat} (q:a.length≤n+3):val a=val (a.take n)+4294967296 ^ n*((a.getD (n+2) 0*4294967296+a.getD (n+1) 0)*4294967296+a.getD n 0):=by
 have e:=Rs a (n+2)
 have j:=Rs a (n+1)
 have k:=Rs a n
 rw[Az0 (by omega)] at e
 have x1:4294967296 ^ (n+2)*a.getD (n+2) 0=4294967296 ^ n*(a.getD (n+2) 0*4294967296*4294967296):=by rw[A0i (n:=4294967296) (m:=n+1),A0i,Axh,Axh]
 have x2:4294967296 ^ (n+1)*a.getD (n+1) 0=4294967296 ^ n*(a.getD (n+1) 0*4294967296):=by rw[A0i,Axh]
 rw[e,j,k,x1,x2,A0m,A0h,A0h];omega
theorem nL {N:Nat} {a:List Nat} {m n s:Nat} {t o:Bool} {K:Int→O R} (v:m=a.length) (k:Ak a) (G:a.length≤n+3) (hs:s≤31) (j:a.getD (n+2) 0*2 ^ s<4294967296) (hn:n≤1000000000000) :
  JP N (Ag a) m t o ((n+3:Nat):Int) (s:Int) K=K ((val a/(4294967296 ^ n*2 ^ (32 - s)):Nat):Int)∧val a/(4294967296 ^ n*2 ^ (32 - s))<18446744073709551616:=by
 have I:0<2 ^ s:=A1l (by omega)
 have q:0<2 ^ (32 - s):=A1l (by omega)
 have hP:0<4294967296 ^ n:=A1l (by omega)
 have e:2 ^ s*2 ^ (32 - s)=4294967296:=by rw[←A09,show s+(32 - s)=32 by omega]
 have L:=BK k (n+2)
 have b1:=BK k (n+1)
 have S:=BK k n
 have tk:=B6 (Ch k n)
 have yV:val (a.take n)<4294967296 ^ n:=by
  refine A1g tk (A0y (by omega) ?_)
  rw[A0o];omega
 have T:=Asp G
 generalize z:a.getD (n+2) 0=a0 at *
 generalize A:a.getD (n+1) 0=a1 at *
 generalize B:a.getD n 0=a2 at *
 have C:a0<2 ^ (32 - s):=by
  rw[←e,Az8] at j;exact A2s j
 have u:(a0*4294967296+a1)*2 ^ s<18446744073709551616:=by
  have x1:(a0+1)*4294967296≤2 ^ (32 - s)*4294967296:=Az9 _ C
  have x2:a0*4294967296+a1<2 ^ (32 - s)*4294967296:=by rw[A0m] at x1;omega
  have x3:=(A2w I).2 x2
  rw[A36,Az8 (2 ^ (32 - s)),e] at x3
  exact x3
 have D:a2/2 ^ (32 - s)<2 ^ s:=by
  rw[A4e q,e];exact S
 have hq:val a/(4294967296 ^ n*2 ^ (32 - s))=(a0*4294967296+a1)*2 ^ s+a2/2 ^ (32 - s):=by
  rw[←A4a,T,A2x _ _ hP,A1m yV,A0g]
  have:(a0*4294967296+a1)*4294967296+a2=a2+2 ^ (32 - s)*((a0*4294967296+a1)*2 ^ s):=by
   rw[A2f,Az8 (2 ^ (32 - s)),e];omega
  rw[this,A2x _ _ q];omega
 have U:(a0*4294967296+a1)*2 ^ s+a2/2 ^ (32 - s)<18446744073709551616:=by
  have F:2 ^ s*2 ^ (64 - s)=18446744073709551616:=by rw[←A09,show s+(64 - s)=64 by omega]
  obtain⟨r,hr⟩:∃ r,18446744073709551616=2 ^ s*r:=⟨2 ^ (64 - s),F.symm⟩
  rw[hr,Az8] at u
  have x1:=A2s u
  have x2:(a0*4294967296+a1+1)*2 ^ s≤r*2 ^ s:=Az9 _ x1
  rw[A0m,Az8 r,←hr] at x2
  omega
 rw[hq]
 refine⟨?_,U⟩
 rw[ZP];unfold cJ
 have V:wrap .i64 (((n+3:Nat):Int) - 1)=((n+2:Nat):Int):=by rw[i64 (by omega)];omega
 have X:wrap .i64 (((n+3:Nat):Int) - 2)=((n+1:Nat):Int):=by rw[i64 (by omega)];omega
 have w3:wrap .i64 (((n+3:Nat):Int) - 3)=(n:Int):=by rw[i64 (by omega)];omega
 have Y:wrap .i64 ((32:Int) - (s:Int))=((32 - s:Nat):Int):=by rw[i64 (by omega)];omega
 rw[V,X,w3,Y,kO v k,kO v k,show decide ((s:Int)<0)=false by simp,cf,kO v k,show decide (((32 - s:Nat):Int)<0)=false by simp,cf]
 rw[z,A,B,Awr L b1,Az1,Az1,A0x (by omega),A0x (by omega),Sg,show(2:Int) ^ s=((2 ^ s:Nat):Int) by simp,sG,In u,Aju u (by omega),jg D]
theorem Abw {N:Nat} {a b:List Nat} {n m:Nat} {t o t' o':Bool} (hn:n=a.length) (hm:m=b.length) (F:Ak a) (hb:Ak b) (v:3≤a.length) (q:a.getLast (by intro h;rw[h] at v;simp at v)≠0) (hlb:b.length≤a.length) (G:val b≤val a) (U:fit a.length N) :
  ∃ (a1 a2 b1 C:Nat) (e:Bool),Ayh (val a) (val b) a1 a2 b1 C e∧a1<18446744073709551616∧a2<18446744073709551616∧b1<18446744073709551616∧C<18446744073709551616∧∀ K:LA→O R,DG N (Ag a) n t o (Ag b) m t' o' K=K (Amu a1 a2 b1 C e):=by
 subst hn hm
 have h1:=U.1;have h2:=U.2
 obtain⟨k,V⟩:∃ k,a.length=k+3:=⟨a.length - 3,by omega⟩
 have hla2:a[k+2]'(by omega)≠0:=by
  rw[A20] at q
  simp only[V] at q
  exact q
 have ak:=Ay F (show k+2<a.length by omega)
 obtain⟨s,s1,s2,s3,s4⟩:=Amr (R:=R) (N:=N) (c:=a[k+2]'(by omega)) (by omega) ak
 have I:a.getD (k+2) 0=a[k+2]'(by omega):=by rw[A0e,Az6 (by omega)];rfl
 have u:b.getD (k+2) 0≤a[k+2]'(by omega):=by
  apply A2n;intro j
  have D:k+2<b.length:=by
   apply A5g;intro L
   rw[A0e,A1f L] at j;simp at j
  have S:b.getD (k+2) 0=b[k+2]:=by rw[A0e,Az6 D];rfl
  rw[S] at j
  have x1:=N_ F (n:=k+2) (by omega)
  have x2:=Aj8 D
  have x3:(a[k+2]+1)*4294967296 ^ (k+2)≤b[k+2]*4294967296 ^ (k+2):=Az9 _ j
  rw[Az8] at x2
  omega
 have T:b.getD (k+2) 0*2 ^ s<4294967296:=A0s (Az9 _ u) s3
 have hPP:0<4294967296 ^ k*2 ^ (32 - s):=A3w (A1l (by omega)) (A1l (by omega))
 have wa:=fun K=>nL (R:=R) (N:=N) (a:=a) (m:=a.length) (n:=k) (s:=s) (t:=false) (o:=o) (K:=K) rfl F (by omega) s1 (by rw[I];exact s3) (by omega)
 have wb:=fun K=>nL (R:=R) (N:=N) (a:=b) (m:=b.length) (n:=k) (s:=s) (t:=false) (o:=o') (K:=K) rfl hb (by omega) s1 T (by omega)
 have hX:=(wa fun _=>none).2
 generalize hP:4294967296 ^ k*2 ^ (32 - s)=P at *
 have hYX:val b/P≤val a/P:=Nat.div_le_div_right G
 have q1:∀ z,z/P*P≤z:=fun z=>Nat.div_mul_le_self z P
 have q2:∀ z,z<(z/P+1)*P:=fun z=>by
  have:=A1e z P;have:=A1j z hPP
  rw[A0m,Az8];omega
 obtain⟨a1,a2,b1,C,e,r1,r2,r3,r4,r5,r6⟩:=Apf (R:=R) (N:=N) (X:=val a/P) (Y:=val b/P) (A:=val a) (B:=val b) (P:=P) hX hYX (q1 _) (q2 _) (q1 _) (q2 _) 128 N (val a/P) (val b/P) 0 1 0 0 0 1 false (by omega) (by
  have:=A1z hX (A0s hYX hX)
  exact this) (Lead.init hYX) (.inl rfl) (by omega) (by omega) (by omega) (by omega)
 refine⟨a1,a2,b1,C,e,r1,r2,r3,r4,r5,fun K=>?_⟩
 rw[TP];unfold FQ
 have w1:wrap .i64 ((a.length:Int) - 1)=((k+2:Nat):Int):=by rw[i64 (by omega)];omega
 rw[w1,Aa (by omega),ct,QA (by omega),s4,show(a.length:Int)=((k+3:Nat):Int) by rw[V],(wa _).1,(wb _).1]
 exact r6 K
theorem AE {N:Nat} {a b:List Nat} {n m:Nat} {x y:Nat} {t o t' o':Bool} (hn:n=a.length) (D:m=b.length) (s:Ak a) (u:Ak b) (j:x<18446744073709551616) (k:y<18446744073709551616) (q:val b*y≤val a*x) (e:fit (a.length+b.length+4) N) :
  ∃ S,Ak S∧val S=val a*x - val b*y∧∀ K:Nat→LA→O R,G4 N (Ag a) n t o (x:Int) (Ag b) m t' o' (y:Int) K=K (Al (val a*x - val b*y)).length (Ag S):=by
 subst hn D
 have I:=e.1;have L:=e.2
 obtain⟨Sx,x1,x2,x3⟩:=K6 (R:=R) (N:=N) j (by omega)
 obtain⟨Sy,y1,y2,y3⟩:=K6 (R:=R) (N:=N) k (by omega)
 have lx:=NY j
 have ly:=NY k
 obtain⟨P1,F,v,z⟩:=tI (R:=R) (N:=N) (a:=a) (b:=Al x) (t:=false) (o:=o) (t':=false) (o':=true) rfl rfl s (Ad _) (e.le (by omega))
 obtain⟨P2,G,A,B⟩:=tI (R:=R) (N:=N) (a:=b) (b:=Al y) (t:=false) (o:=o') (t':=false) (o':=true) rfl rfl u (Ad _) (e.le (by omega))
 rw[Ah] at v z A B
 have l1:(Al (val a*x)).length≤a.length+2:=Dn (by
  have:=A1z (B6 s) j
  rw[A09];exact this)
 have l2:(Al (val b*y)).length≤b.length+2:=Dn (by
  have:=A1z (B6 u) k
  rw[A09];exact this)
 obtain⟨S,s1,s2,C⟩:=gE (R:=R) (N:=N) (a:=Al (val a*x)) (b:=Al (val b*y)) (t:=false) (o:=true) (t':=false) (o':=true) rfl rfl (Ad _) (Ad _) (e.le (by omega)) (by rw[Ah,Ah];exact q)
 rw[Ah,Ah] at s2 C
 refine⟨S,s1,s2,fun K=>?_⟩
 rw[TT];unfold TS
 have tx:take ((Al x).length*1) (Ag Sx)=Ag (Al x):=by rw[←x2,Lx x1]
 have ty:take ((Al y).length*1) (Ag Sy)=Ag (Al y):=by rw[←y2,Lx y1]
 have t1:take ((Al (val a*x)).length*1) (Ag P1)=Ag (Al (val a*x)):=by rw[←v,Lx F]
 have t2:take ((Al (val b*y)).length*1) (Ag P2)=Ag (Al (val b*y)):=by rw[←A,Lx G]
 rw[x3,tx,z,y3,ty,B,t1,t2,C]
theorem Apg {N:Nat} (hN:4≤N):∀ (k fuel x y:Nat),k<fuel→x*y<2 ^ k→y≤x→x<18446744073709551616→∃ S,Ak S∧val S=Nat.gcd x y∧∀ (j:LA→Nat→Bool→LA→Nat→Bool→O R) (K:Nat→LA→O R),Rr N j K fuel (x:Int) (y:Int)=K (Al (Nat.gcd x y)).length (Ag S):=by
 have base:∀ (fuel x:Nat),x<18446744073709551616→∃ S,Ak S∧val S=Nat.gcd x 0∧∀ (j:LA→Nat→Bool→LA→Nat→Bool→O R) (K:Nat→LA→O R),Rr N j K (fuel+1) (x:Int) ((0:Nat):Int)=K (Al (Nat.gcd x 0)).length (Ag S):=by
  intro fuel x n
  obtain⟨S,s1,s2,s⟩:=K6 (R:=R) (N:=N) n hN
  refine⟨S,s1,by rw[s2,A2m],fun j K=>?_⟩
  rw[Rr];unfold NQ
  rw[show(((0:Nat):Int) != 0)=false by rfl,cf,s,A2m]
 intro k
 induction k with
 | zero =>
  intro fuel x y t e q n
  obtain⟨fuel,rfl⟩:∃ F,fuel=F+1:=⟨fuel - 1,by omega⟩
  have u:y=0:=by
   rcases A0q y with h | h
   ·exact h
   ·have A:=A0w x (show 1≤y by omega)
    rw[A3o] at e;omega
  subst u
  exact base fuel x n
 | succ k v =>
  intro fuel x y t e q n
  obtain⟨fuel,rfl⟩:∃ F,fuel=F+1:=⟨fuel - 1,by omega⟩
  rcases A0q y with h | h
  ·subst h;exact base fuel x n
  ·have hh:=UA (show 1≤y by omega) q
   have B:=A1j x h
   obtain⟨S,s1,s2,s⟩:=v fuel y (x%y) (by omega) (by rw[A0i] at e;omega) (by omega) (by omega)
   have z:Nat.gcd y (x%y)=Nat.gcd x y:=by rw[A14,←A46,A14]
   rw[z] at s2 s
   refine⟨S,s1,s2,fun j K=>?_⟩
   rw[Rr];unfold NQ
   rw[show((y:Int) != 0)=true by rw[bne_iff_ne];omega,ct,vR (by omega),cf,T_]
   exact s j K
theorem yW {a b u v s t x y:Nat} (j:x+v*b=u*a) (k:y+s*a=t*b) (e:u*t=v*s+1):t*x+v*y=a∧s*x+u*y=b:=by
 constructor
 ·have n:t*x+t*v*b=t*u*a:=by rw[A0c,A0c,←A0h,j]
  have q:v*y+v*s*a=v*t*b:=by rw[A0c,A0c,←A0h,k]
  have z:t*u*a=v*s*a+a:=by rw[Az8 t u,e,A0m,A3t]
  have A:t*v*b=v*t*b:=by rw[Az8 t v]
  omega
 ·have n:s*x+s*v*b=s*u*a:=by rw[A0c,A0c,←A0h,j]
  have q:u*y+u*s*a=u*t*b:=by rw[A0c,A0c,←A0h,k]
  have z:u*t*b=v*s*b+b:=by rw[e,A0m,A3t]
  have A:s*u*a=u*s*a:=by rw[Az8 s u]
  have B:s*v*b=v*s*b:=by rw[Az8 s v]
  omega
theorem yX {A B a b p q r s:Nat} (hA:p*a+q*b=A) (hB:r*a+s*b=B) (e:1≤p) (hq:1≤q) (hr:1≤r) (j:b≤a):2*(a*b)≤A*B∧a≤A:=by
 have t:=Az9 a e
 have u:=Az9 b hq
 have v:=Az9 a hr
 have k:2*b≤A:=by omega
 have n:a≤B:=by omega
 have:=A27 k n
 refine⟨?_,by omega⟩
 rw[Az8 a b,←A0c];exact this
theorem Awv {u0 u1 v0 v1:Nat} {e:Bool}:setCells [(.int .u64 0),(.int .u64 0),(.int .u64 0),(.int .u64 0),(.bool false)] 0 (Amu u0 u1 v0 v1 e)=Amu u0 u1 v0 v1 e:=rfl
theorem Af9 {N:Nat}:∀ (k fuel A B:Nat) (d f:Bool),k<fuel→A*B<2 ^ k→B≤A→fit (2*(Al A).length+4) N→∃ S,Ak S∧val S=Nat.gcd A B∧∀ K:Nat→LA→O R,E9 N K fuel (Ag (Al A)) (Al A).length d (Ag (Al B)) (Al B).length f=K (Al (Nat.gcd A B)).length (Ag S):=by
 have base:∀ (fuel A:Nat) (d f:Bool),fit (2*(Al A).length+4) N→∃ S,Ak S∧val S=Nat.gcd A 0∧∀ K:Nat→LA→O R,E9 N K (fuel+1) (Ag (Al A)) (Al A).length d (Ag (Al 0)) (Al 0).length f=K (Al (Nat.gcd A 0)).length (Ag S):=by
  intro fuel A d f j
  refine⟨Al A,Ad _,by rw[Ah,A2m],fun K=>?_⟩
  rw[E9];unfold DL
  rw[Cz,show decide ((((([]:List Nat).length:Nat)):Int)>0)=false by decide,cf,BJ rfl (Ad _) (j.le (by omega)),Ah,A2m]
 intro k
 induction k with
 | zero =>
  intro fuel A B d f X s q j
  obtain⟨fuel,rfl⟩:∃ F,fuel=F+1:=⟨fuel - 1,by omega⟩
  have hy:B=0:=by
   rcases A0q B with h | h
   ·exact h
   ·have h3:=A0w A (show 1≤B by omega)
    rw[A3o] at s;omega
  subst hy
  exact base fuel A d f j
 | succ k Y =>
  intro fuel A B d f X s q j
  have h1:=j.1;have h2:=j.2
  obtain⟨fuel,rfl⟩:∃ F,fuel=F+1:=⟨fuel - 1,by omega⟩
  rcases A0q B with h | h
  ·subst h;exact base fuel A d f j
  have hll:=Bb q
  have hbl:(Al B).length≠0:=fun h0=>by have:=Bf.1 h0;omega
  have G:decide ((((Al B).length:Nat):Int)>0)=true:=by rw[decide_eq_true_eq];omega
  by_cases I:(Al A).length≤2
  ·have av:=gF I
   obtain⟨S,s1,s2,v⟩:=Apg (R:=R) (N:=N) (by omega) 128 N A B (by omega) (by have:=A1z av (A0s q av);exact this) q av
   refine⟨S,s1,s2,fun K=>?_⟩
   rw[E9];unfold DL
   rw[G,ct,show decide ((((Al A).length:Nat):Int)≤2)=true by rw[decide_eq_true_eq];omega,ct,JX rfl (Ad _) I (by omega),JX rfl (Ad _) (by omega) (by omega),Ah,Ah]
   exact v _ K
  ·have hd2:decide ((((Al A).length:Nat):Int)≤2)=false:=by rw[decide_eq_false_iff_not];omega
   obtain⟨a1,a2,b1,n,e,C,r2,r3,r4,r5,r6⟩:=Abw (R:=R) (N:=N) (a:=Al A) (b:=Al B) (t:=false) (o:=d) (t':=false) (o':=f) rfl rfl (Ad _) (Ad _) (by omega) (fP _ _) hll (by rw[Ah,Ah];exact q) (j.le (by omega))
   rw[Ah,Ah] at C
   have start:∀ K:Nat→LA→O R,E9 N K (fuel+1) (Ag (Al A)) (Al A).length d (Ag (Al B)) (Al B).length f=cond ((b1:Int)==0) (E8 N (Ag (Al A)) (Al A).length false d (Ag (Al B)) (Al B).length false f fun bm ag bn bo ar=>E9 N K fuel (Ag (Al B)) (Al B).length f (take (ag*1) ar) ag false) (cond e (G4 N (Ag (Al A)) (Al A).length false d (a1:Int) (Ag (Al B)) (Al B).length false f (b1:Int) fun ah ax=>G4 N (Ag (Al B)) (Al B).length false f (n:Int) (Ag (Al A)) (Al A).length false d (a2:Int) fun ai ba=>E9 N K fuel (take (ah*1) ax) ah false (take (ai*1) ba) ai false) (G4 N (Ag (Al B)) (Al B).length false f (b1:Int) (Ag (Al A)) (Al A).length false d (a1:Int) fun aj bd=>G4 N (Ag (Al A)) (Al A).length false d (a2:Int) (Ag (Al B)) (Al B).length false f (n:Int) fun ak bg=>E9 N K fuel (take (aj*1) bd) aj false (take (ak*1) bg) ak false)):=by
    intro K
    rw[E9];unfold DL
    rw[G,ct,hd2,cf,r6,Awv]
    rfl
   by_cases z:b1=0
   ·obtain⟨Sq,Sr,q1,q2,q3,q4,q5⟩:=FY (R:=R) (N:=N) (a:=Al A) (b:=Al B) (t:=false) (o:=d) (t':=false) (o':=f) rfl rfl (Ad _) (Ad _) (by rw[Ah];omega) (j.le (by omega))
    rw[Ah,Ah] at q2 q4 q5
    have hm:=A1j A h
    have hh:=UA (show 1≤B by omega) q
    obtain⟨S,s1,s2,v⟩:=Y fuel B (A%B) f false (by omega) (by rw[A0i] at s;omega) (by omega) (j.le (by omega))
    have D:Nat.gcd B (A%B)=Nat.gcd A B:=by rw[A14,←A46,A14]
    rw[D] at s2 v
    refine⟨S,s1,s2,fun K=>?_⟩
    have tk:take ((Al (A%B)).length*1) (Ag Sr)=Ag (Al (A%B)):=by rw[←q4,Lx q3]
    rw[start,Azh z,ct,q5,tk,v]
   ·rcases C with C | ⟨p1,p2,C⟩
    ·exact absurd C z
    cases e with
    | true =>
     obtain⟨c1,c2,c3,L⟩:=C
     obtain⟨S1,t1,t2,t3⟩:=AE (R:=R) (N:=N) (a:=Al A) (b:=Al B) (x:=a1) (y:=b1) (t:=false) (o:=d) (t':=false) (o':=f) rfl rfl (Ad _) (Ad _) r2 r4 (by rw[Ah,Ah,Az8,Az8 A];exact c1) (j.le (by omega))
     obtain⟨S2,w1,T,w3⟩:=AE (R:=R) (N:=N) (a:=Al B) (b:=Al A) (x:=n) (y:=a2) (t:=false) (o:=f) (t':=false) (o':=d) rfl rfl (Ad _) (Ad _) r5 r3 (by rw[Ah,Ah,Az8,Az8 B];exact c2) (j.le (by omega))
     rw[Ah,Ah] at t2 t3 T w3
     have U:(A*a1 - B*b1)+b1*B=a1*A:=by rw[Az8 A,Az8 B];omega
     have V:(B*n - A*a2)+a2*A=n*B:=by rw[Az8 A,Az8 B];omega
     have u:B*n - A*a2≤A*a1 - B*b1:=by rw[A0m,A0m] at c3;omega
     obtain⟨i1,i2⟩:=yW U V L
     have D:=Afa U V L
     obtain⟨i3,i4⟩:=yX i1 i2 p2 (by omega) p1 u
     have hl:=Bb i4
     obtain⟨S,s1,s2,v⟩:=Y fuel (A*a1 - B*b1) (B*n - A*a2) false false (by omega) (by rw[A0i] at s;omega) u (j.le (by omega))
     rw[D] at s2 v
     refine⟨S,s1,s2,fun K=>?_⟩
     have tk1:take ((Al (A*a1 - B*b1)).length*1) (Ag S1)=Ag (Al (A*a1 - B*b1)):=by rw[←t2,Lx t1]
     have yV:take ((Al (B*n - A*a2)).length*1) (Ag S2)=Ag (Al (B*n - A*a2)):=by rw[←T,Lx w1]
     rw[start,vR z,cf,ct,t3,w3,tk1,yV,v]
    | false =>
     obtain⟨c1,c2,c3,L⟩:=C
     obtain⟨S1,t1,t2,t3⟩:=AE (R:=R) (N:=N) (a:=Al B) (b:=Al A) (x:=b1) (y:=a1) (t:=false) (o:=f) (t':=false) (o':=d) rfl rfl (Ad _) (Ad _) r4 r2 (by rw[Ah,Ah,Az8,Az8 B];exact c1) (j.le (by omega))
     obtain⟨S2,w1,T,w3⟩:=AE (R:=R) (N:=N) (a:=Al A) (b:=Al B) (x:=a2) (y:=n) (t:=false) (o:=d) (t':=false) (o':=f) rfl rfl (Ad _) (Ad _) r3 r5 (by rw[Ah,Ah,Az8,Az8 A];exact c2) (j.le (by omega))
     rw[Ah,Ah] at t2 t3 T w3
     have U:(B*b1 - A*a1)+a1*A=b1*B:=by rw[Az8 A,Az8 B];omega
     have V:(A*a2 - B*n)+n*B=a2*A:=by rw[Az8 A,Az8 B];omega
     have u:A*a2 - B*n≤B*b1 - A*a1:=by rw[A0m,A0m] at c3;omega
     obtain⟨i1,i2⟩:=yW V U L
     have D:=Afa V U L
     rw[A14] at D
     rw[A2v] at i1 i2
     obtain⟨i3,i4⟩:=yX i1 i2 p2 (by omega) p1 u
     have hl:=Bb i4
     obtain⟨S,s1,s2,v⟩:=Y fuel (B*b1 - A*a1) (A*a2 - B*n) false false (by omega) (by rw[A0i] at s;omega) u (j.le (by omega))
     rw[D] at s2 v
     refine⟨S,s1,s2,fun K=>?_⟩
     have tk1:take ((Al (B*b1 - A*a1)).length*1) (Ag S1)=Ag (Al (B*b1 - A*a1)):=by rw[←t2,Lx t1]
     have yV:take ((Al (A*a2 - B*n)).length*1) (Ag S2)=Ag (Al (A*a2 - B*n)):=by rw[←T,Lx w1]
     rw[start,vR z,cf,cf,t3,w3,tk1,yV,v]
theorem UB (n m:Nat):4294967296 ^ n*4294967296 ^ m=2 ^ (32*(n+m)):=by
 rw[←A09,show(4294967296:Nat)=2 ^ 32 by rfl,←A3x]
theorem Asq {N:Nat} {a b:List Nat} {n m:Nat} {t o t' o':Bool} (hn:n=a.length) (v:m=b.length) (q:Ak a) (s:Ak b) (j:fit (2*(a.length+b.length)+4) N) :
  ∃ S,Ak S∧val S=Nat.gcd (val a) (val b)∧∀ K:Nat→LA→O R,cV N (Ag a) n t o (Ag b) m t' o' K=K (Al (Nat.gcd (val a) (val b))).length (Ag S):=by
 have z:=j.1;have A:=j.2
 have la:=(Ba q).2
 have lb:=(Ba s).2
 have e:val a*val b<2 ^ (32*(a.length+b.length)):=by rw[←UB];exact A1z (B6 q) (B6 s)
 have start:∀ K:Nat→LA→O R,cV N (Ag a) n t o (Ag b) m t' o' K=cond (decide (H7 (val a) (val b)<0)) (E9 N K N (Ag (Al (val b))) (Al (val b)).length o' (Ag (Al (val a))) (Al (val a)).length o) (E9 N K N (Ag (Al (val a))) (Al (val a)).length o (Ag (Al (val b))) (Al (val b)).length o'):=by
  intro K
  rw[sk];unfold pv WV cU
  rw[Bp hn q (j.le (by omega)),Bp v s (j.le (by omega)),BI rfl rfl (Ad _) (Ad _) (j.le (by omega)),Ah,Ah]
 by_cases k:val a<val b
 ·obtain⟨S,s1,s2,u⟩:=Af9 (R:=R) (N:=N) (32*(a.length+b.length)) N (val b) (val a) o' o (by omega) (by rw[Az8];exact e) (by omega) (j.le (by omega))
  rw[A14] at s2
  refine⟨S,s1,s2,fun K=>?_⟩
  rw[start,show decide (H7 (val a) (val b)<0)=true by (unfold H7;rw[if_pos k];rfl),ct,u,A14]
 ·obtain⟨S,s1,s2,u⟩:=Af9 (R:=R) (N:=N) (32*(a.length+b.length)) N (val a) (val b) o o' (by omega) e (by omega) (j.le (by omega))
  refine⟨S,s1,s2,fun K=>?_⟩
  rw[start,show decide (H7 (val a) (val b)<0)=false by (unfold H7;rw[if_neg k];split<;>rfl),cf,u]
theorem Axw {c:Nat} (h:c≤1000000000000):((ble (0+c) 140737488355328)&&(ble ((0+c)*4) 140737488355328))=true:=by simp;omega
theorem dA {N:Nat} {l:List Nat} {t o:Bool} {K:Nat→LA→O R} (j:Ak l) (hs:l.length≤1000000000000):∀ (c fuel:Nat),c≤l.length→c<fuel →
  Nh N K (Ag l) l.length t o fuel (c:Int)=K (Al (val (l.take c))).length (Ag (Al (val (l.take c))))
 | 0,fuel+1,k,_=>by
  rw[Nh];unfold Z7
  rw[show decide (((0:Nat):Int)>0)=false by simp]
  rw[show((false:Bool)==true)=false by rfl,cf,Avv (by omega),ct,Az1,A0b,Vk,FD,A24,ct,Axw (by omega),ct];rfl
 | c+1,fuel+1,k,n=>by
  rw[Nh];unfold Z7
  rw[Awq,ct,wP (by omega),Aa (by omega),ct,QA (by omega),Aun,Avv (by omega),ct,dA j hs c fuel (by omega) (by omega),Az1,A0b,Vk,FD,A24,ct,Axw (by omega),ct,A0g]
  by_cases e:l[c]=0
  ·rw[Av (by omega),e];simp
  ·rw[Aa6 j (by omega) e,A0o,A0x k]
   rw[vR e,cf]
theorem Dd {N:Nat} {l:List Nat} {n:Nat} {t o:Bool} {K:Nat→LA→O R} (hn:n=l.length) (j:Ak l) (e:fit l.length N):Dz N (Ag l) n t o K=K (Al (val l)).length (Ag (Al (val l))):=by
 subst hn
 have k:=e.1;have q:=e.2
 rw[NB];unfold JF
 rw[dA j (by omega) l.length N (Az3 _) (by omega),A06]
theorem Aga {N:Nat} {a b:List Nat} {t o t' o':Bool} {K:Bool→O R} (hs:a.length≤1000000000000) (n:a.length=b.length):∀ (m j fuel:Nat),j+m=a.length→m<fuel →
  K3 N K (Ag a) a.length t o (Ag b) b.length t' o' fuel (j:Int)=K (decide (a.drop j=b.drop j))
 | 0,j,fuel+1,q,_=>by
  rw[K3];unfold W3
  rw[H2 (by omega),cf,A0k (by omega),A0k (by omega)];simp
 | m+1,j,fuel+1,q,s=>by
  have e:j<a.length:=by omega
  have k:j<b.length:=by omega
  rw[K3];unfold W3
  rw[Gh e,ct,Aa e,ct,QA e,Aa k,ct,QA k,wS (by omega),Aga hs n m (j+1) fuel (by omega) (by omega),A0d e,A0d k]
  by_cases h:a[j]=b[j]
  ·rw[show((((a[j]:Nat):Int) != ((b[j]:Nat):Int)))=false by simp[h],cf];congr 1;rw[decide_eq_decide,A2l];exact⟨fun hh=>⟨h,hh⟩,fun hh=>hh.2⟩
  ·rw[show((((a[j]:Nat):Int) != ((b[j]:Nat):Int)))=true by rw[bne_iff_ne];omega,ct];congr 1;symm;rw[decide_eq_false_iff_not,A2l];exact fun hh=>h hh.1
theorem Asr {N:Nat} {a b:List Nat} {n m:Nat} {t o t' o':Bool} {K:Bool→O R} (hn:n=a.length) (k:m=b.length) (j:fit a.length N):JJ N (Ag a) n t o (Ag b) m t' o' K=K (decide (a=b)):=by
 subst hn k
 have q:=j.1;have s:=j.2
 rw[ZE];unfold ND
 by_cases e:a.length=b.length
 ·rw[show((a.length:Int) != (b.length:Int))=false by simp[e],cf]
  have:=Aga (R:=R) (N:=N) (t:=t) (o:=o) (t':=t') (o':=o') (K:=K) (by omega) e a.length 0 N (by omega) (by omega)
  simpa using this
 ·rw[show((a.length:Int) != (b.length:Int))=true by rw[bne_iff_ne];omega,ct]
  congr 1;symm;rw[decide_eq_false_iff_not];intro h;exact e (by rw[h])
theorem FZ {N:Nat} {v:Nat} {K:Nat→LA→O R} (k:v<18446744073709551616) (hN:4≤N):G1 N (v:Int) K=K (Al v).length (Ag (Al v)):=by
 have j:Ak [v%4294967296,v/4294967296]:=Dc.2 ⟨by omega,Dc.2 ⟨by omega,Vj⟩⟩
 have e:val [v%4294967296,v/4294967296]=v:=by simp[val];omega
 rw[CW];unfold Yv
 rw[cD,jf,Amq (show v/4294967296<4294967296 by omega)]
 have:=dA (R:=R) (N:=N) (l:=[v%4294967296,v/4294967296]) (t:=false) (o:=true) (K:=K) j (by simp) 2 N (by simp) (by omega)
 rw[show [v%4294967296,v/4294967296].take 2=[v%4294967296,v/4294967296] by rfl,e] at this
 rw[NB];unfold JF
 exact this
theorem N' {N:Nat} {l:List Nat} {n:Nat} {t o:Bool} {K:Int→Bool→O R} (hn:n=l.length) (v:Ak l) (s:fit l.length N):Vl N (Ag l) n t o K=if val l<18446744073709551616 then K (val l:Int) true else K 0 false:=by
 have B:=s.1
 rw[TE];unfold FE
 rw[Dd hn v s]
 by_cases h:val l<18446744073709551616
 ·have z:=NY h
  rw[if_pos h,show decide ((((Al (val l)).length:Nat):Int)>2)=false by simp;omega,cf]
  have e:=Ah (val l)
  have k:=Ad (val l)
  obtain⟨M,hM⟩:∃ M,N=M+4:=⟨N - 4,by omega⟩
  rw[hM]
  generalize Al (val l)=d at *
  match d,z,e,k with
  | [],_,e,_ =>
   dsimp only
   rw[D7];unfold Fo
   rw[←e,i64 (by simp)];rfl
  | [x],_,e,k =>
   have q:=(Dc.1 k).1
   have j:val l=x:=by rw[←e];simp[val]
   dsimp only
   rw[D7];unfold Fo
   rw[i64 (by simp),show((([x]:List Nat).length:Nat):Int) - 1=((0:Nat):Int) by rfl,show decide (((0:Nat):Int)≥0)=true by rfl,ct,Aa (by simp),ct,fg (by simp)]
   rw[D7];unfold Fo
   rw[i64 (by simp),show decide ((((0:Nat):Int) - 1)≥0)=false by rfl,cf]
   have:=Awr (a:=0) (b:=x) (by omega) q
   simp only[A4c]
   rw[In (show x<18446744073709551616 by omega),show(0:Int)=((0:Nat):Int) by rfl,this,j];simp
  | [x,y],_,e,k =>
   have q:=(Dc.1 k).1
   have u:=(Dc.1 (Dc.1 k).2).1
   have j:val l=y*4294967296+x:=by rw[←e];simp[val];omega
   dsimp only
   rw[D7];unfold Fo
   rw[i64 (by simp),show((([x,y]:List Nat).length:Nat):Int) - 1=((1:Nat):Int) by rfl,show decide (((1:Nat):Int)≥0)=true by rfl,ct,Aa (by simp),ct,fg (by simp)]
   rw[D7];unfold Fo
   rw[i64 (by simp),show(((1:Nat):Int) - 1)=((0:Nat):Int) by rfl,show decide (((0:Nat):Int)≥0)=true by rfl,ct,Aa (by simp),ct,fg (by simp)]
   rw[D7];unfold Fo
   rw[i64 (by simp),show decide ((((0:Nat):Int) - 1)≥0)=false by rfl,cf]
   have o1:=Awr (a:=0) (b:=y) (by omega) u
   have o2:=Awr (a:=y) (b:=x) u q
   simp only[A4c,A39]
   rw[In (show y<18446744073709551616 by omega),In (show x<18446744073709551616 by omega),show(0:Int)=((0:Nat):Int) by rfl,o1,A26,A0g,o2,j]
 ·have:¬ (Al (val l)).length≤2:=fun A=>h (gF A)
  rw[if_neg h,show decide ((((Al (val l)).length:Nat):Int)>2)=true by simp;omega,ct]
theorem yY {N:Nat} {x y:List Nat} {K:Int→O R} (k:Ak x) (n:Ak y) (hs:x.length≤1000000000000) (s:x.length=y.length):∀ (i fuel:Nat),i≤x.length→i<fuel →
  G3 N K x.length y.length (Ag x) (Ag y) fuel ((i:Int) - 1)=K (H7 (val (x.take i)) (val (y.take i)))
 | 0,fuel+1,_,_=>by
  rw[G3];unfold Qg
  rw[show decide ((((0:Nat):Int) - 1)≥0)=false by simp,cf]
  simp[JU]
 | i+1,fuel+1,hi,t=>by
  rw[G3];unfold Qg
  rw[show(((i+1:Nat):Int) - 1)=(i:Int) by omega,show decide ((i:Int)≥0)=true by simp,ct,Aa (by omega),ct,fg (by omega),Aa (by omega),ct,fg (by omega),ct,fg (by omega),ct,fg (by omega),i64 (by omega),
   yY k n hs s i fuel (by omega) (by omega),Av (by omega),Av (by omega)]
  have e:=B6 (Ch k i)
  have j:=B6 (Ch n i)
  rw[A0o,A0x (by omega)] at e j
  by_cases c1:x[i]<y[i]
  ·have:=pu e j c1
   rw[show decide (((x[i]:Nat):Int)<((y[i]:Nat):Int))=true by simp;exact c1,ct]
   unfold H7;rw[if_pos this]
  ·by_cases q:y[i]<x[i]
   ·have:=pu j e q
    rw[show decide (((x[i]:Nat):Int)<((y[i]:Nat):Int))=false by simp;omega,cf,show decide (((x[i]:Nat):Int)>((y[i]:Nat):Int))=true by simp;exact q,ct]
    unfold H7;rw[if_neg (by omega),if_pos this]
   ·have:x[i]=y[i]:=by omega
    rw[show decide (((x[i]:Nat):Int)<((y[i]:Nat):Int))=false by simp;omega,cf,show decide (((x[i]:Nat):Int)>((y[i]:Nat):Int))=false by simp;omega,cf,this]
    unfold H7
    congr 1
    by_cases a1:val (x.take i)<val (y.take i)
    ·rw[if_pos a1,if_pos (by omega)]
    ·by_cases a2:val (y.take i)<val (x.take i)
     ·rw[if_neg a1,if_pos a2,if_neg (by omega),if_pos (by omega)]
     ·rw[if_neg a1,if_neg a2,if_neg (by omega),if_neg (by omega)]
theorem Aph {N:Nat} {a b:List Nat} {n m:Nat} {t o t' o':Bool} {K:Int→O R} (hn:n=a.length) (u:m=b.length) (j:Ak a) (k:Ak b) (e:fit (a.length+b.length) N) :
  X7 N (Ag a) n t o (Ag b) m t' o' K=K (H7 (val a) (val b)):=by
 subst hn u
 have v:=e.1;have z:=e.2
 rw[P_];unfold Z8
 dsimp only
 rw[Dd rfl j (e.le (by omega)),Dd rfl k (e.le (by omega))]
 have la:=(Ba j).2
 have lb:=(Ba k).2
 by_cases q:(Al (val a)).length=(Al (val b)).length
 ·rw[show((((Al (val a)).length:Nat):Int) != (((Al (val b)).length:Nat):Int))=false by simp;omega,cf,i64 (by omega),yY (Ad _) (Ad _) (by omega) q _ N (Az3 _) (by omega),A06,q,A06,Ah,Ah]
 ·rw[show((((Al (val a)).length:Nat):Int) != (((Al (val b)).length:Nat):Int))=true by simp;omega,ct]
  by_cases s:(Al (val a)).length<(Al (val b)).length
  ·have:=NP s
   rw[Gh s,ct]
   unfold H7;rw[if_pos this]
  ·have:=NP (show(Al (val b)).length<(Al (val a)).length by omega)
   rw[H2 (by omega),cf]
   unfold H7;rw[if_neg (by omega),if_pos this]
theorem Axx (a b:Nat):bC (a:Int) (b:Int)=((max a b:Nat):Int):=by
 unfold bC
 by_cases h:(b:Int)>(a:Int)
 ·rw[decide_eq_true h];show(b:Int)=_;omega
 ·rw[decide_eq_false h];show(a:Int)=_;omega
theorem yZ {N:Nat} {a b:List Nat} {t o t' o':Bool} {n:Nat} (z:Ak a) (A:Ak b) (B:a.length<n) (C:b.length<n) (hn:n≤max a.length b.length+1) (u:fit n N):∀ (m d fuel:Nat) (S:List Nat) (c:Nat),d+m=n→m<fuel→Ak S→S.length=n→Apd S d→c≤1 →
  val S+4294967296 ^ d*c=val (a.take d)+val (b.take d) →
  ∀ K:Nat→LA→O R,Iu N K (Ag a) a.length t o (Ag b) b.length t' o' fuel n (c:Int) (d:Int) (Ag S)=K (Al (val a+val b)).length (Ag (Al (val a+val b)))
 | 0,d,fuel+1,S,c,V,_,hS,v,D,X,F=>by
  intro K
  have G:d=n:=by omega
  subst G
  rw[Az0 (by omega),Az0 (by omega)] at F
  have I:c=0:=by
   rcases A0q c with h | h
   ·exact h
   ·exfalso
    have L:c=1:=by omega
    subst L
    obtain⟨e,rfl⟩:∃ e,d=e+1:=⟨d - 1,by omega⟩
    have x1:=B6 z
    have x2:=B6 A
    have y1:4294967296 ^ a.length≤4294967296 ^ e:=A0y (by omega) (by omega)
    have y2:4294967296 ^ b.length≤4294967296 ^ e:=A0y (by omega) (by omega)
    rw[A0i] at F
    omega
  subst I
  have T:val S=val a+val b:=by omega
  rw[Iu];unfold FF
  rw[H2 (Az3 _),cf,A0b,Az0 (by rw[Bo];omega),Dd v.symm hS (by rw[v];exact u),T]
 | m+1,d,fuel+1,S,c,V,Y,hS,v,D,X,F=>by
  intro K
  have h1:=u.1;have h2:=u.2
  have ga:=BK z d
  have gb:=BK A d
  have step:∀ s:Nat,s=c+a.getD d 0+b.getD d 0→val (S.set d (s%4294967296))+4294967296 ^ (d+1)*(s/4294967296)=val (a.take (d+1))+val (b.take (d+1)):=by
   intro s hs
   rw[W8 D (by omega),Rs a d,Rs b d,A0i]
   have e:=Nn (4294967296 ^ d) s
   have e2:4294967296 ^ d*s=4294967296 ^ d*c+4294967296 ^ d*a.getD d 0+4294967296 ^ d*b.getD d 0:=by rw[hs,A0h,A0h]
   omega
  have next:∀ s:Nat,s=c+a.getD d 0+b.getD d 0→Iu N K (Ag a) a.length t o (Ag b) b.length t' o' fuel n ((s/4294967296:Nat):Int) ((d+1:Nat):Int) (Ag (S.set d (s%4294967296)))=K (Al (val a+val b)).length (Ag (Al (val a+val b))):=by
   intro s hs
   exact yZ z A B C hn u m (d+1) fuel (S.set d (s%4294967296)) (s/4294967296) (by omega) (by omega) (Co hS (by omega) d) (by simpa using v) (FX D) (by omega) (step s hs) K
  have second:∀ w:Nat,w=c+a.getD d 0→CX N (Iu N K (Ag a) a.length t o (Ag b) b.length t' o' fuel) K (Ag a) a.length t o (Ag b) b.length t' o' n (Ag S) (w:Int) (d:Int)=K (Al (val a+val b)).length (Ag (Al (val a+val b))):=by
   intro w U
   unfold CX
   by_cases j:d<b.length
   ·have q:b.getD d 0=b[d]:=by rw[A0e,Az6 j];rfl
    rw[Gh j,ct,Aa j,ct,QA j,Aa (by omega),ct,xe (by omega),ct,In (show b[d]<18446744073709551616 by omega),HB,In (show w+b[d]<18446744073709551616 by omega),jf,cD,TM,wS (by omega)]
    exact next _ (by rw[U,q])
   ·have q:b.getD d 0=0:=by rw[A0e,A1f (by omega)];rfl
    rw[H2 (by omega),cf,Aa (by omega),ct,xe (by omega),ct,jf,cD,TM,wS (by omega)]
    exact next _ (by rw[U,q];rfl)
  rw[Iu];unfold FF
  rw[Gh (by omega),ct]
  by_cases k:d<a.length
  ·have q:a.getD d 0=a[d]:=by rw[A0e,Az6 k];rfl
   rw[Gh k,ct,Aa k,ct,QA k,In (show a[d]<18446744073709551616 by omega),HB,In (show c+a[d]<18446744073709551616 by omega)]
   exact second _ (by rw[q])
  ·have q:a.getD d 0=0:=by rw[A0e,A1f (by omega)];rfl
   rw[H2 (by omega),cf]
   exact second _ (by rw[q];rfl)
theorem kP {N:Nat} {a b:List Nat} {n m:Nat} {t o t' o':Bool} {K:Nat→LA→O R} (hn:n=a.length) (j:m=b.length) (k:Ak a) (q:Ak b) (e:fit (a.length+b.length+1) N) :
  NF N (Ag a) n t o (Ag b) m t' o' K=K (Al (val a+val b)).length (Ag (Al (val a+val b))):=by
 subst hn j
 have s:=e.1;have u:=e.2
 rw[m9];unfold fX
 rw[Axx,wS (by omega),Aq0 (by omega),ct,Az1,C0]
 exact yZ k q (n:=max a.length b.length+1) (by omega) (by omega) (Az3 _) (e.le (by omega)) (max a.length b.length+1) 0 N (replicate (max a.length b.length+1) 0) 0 (by omega) (by omega) (Cl _) (by simp) (L0 _) (by omega) (by rw[D6];simp[val]) K
theorem y5 {N:Nat} {a b:List Nat} (G:Ak a) (I:Ak b) (v:fit a.length N) (t:b.length≤a.length) (z:val b≤val a):∀ (m d fuel:Nat) (S:List Nat) (c:Nat),d+m=a.length→m<fuel→Ak S→S.length=a.length→Apd S d→c≤1 →
  val S+val (b.take d)=val (a.take d)+4294967296 ^ d*c →
  ∀ K:Nat→Bool→LA→O R,Iv N K a.length b.length (Ag a) (Ag b) fuel (c:Int) (d:Int) (Ag S)=K (Al (val a - val b)).length true (Ag (Al (val a - val b)))
 | 0,d,fuel+1,S,c,T,_,hS,u,A,U,L=>by
  intro K
  have B:d=a.length:=by omega
  subst B
  rw[A06,Az0 t] at L
  have n:=B6 hS
  rw[u] at n
  have C:c=0:=by
   rcases A3q 0 c with h | h
   ·exfalso
    have:c=1:=by omega
    subst this
    omega
   ·omega
  subst C
  have D:val S=val a - val b:=by omega
  rw[Iv];unfold FG
  rw[H2 (Az3 _),cf,A0b,Az0 (by rw[Bo];omega),Dd u.symm hS (by rw[u];exact v),D]
 | m+1,d,fuel+1,S,c,T,V,hS,u,A,U,L=>by
  intro K
  have Y:=v.1;have h2:=v.2
  have j:d<a.length:=by omega
  have ad:=Ay G j
  have gb:=BK I d
  have step:∀ y g c':Nat,y=c+b.getD d 0→a[d]+4294967296*c'=g+y→val (S.set d g)+val (b.take (d+1))=val (a.take (d+1))+4294967296 ^ (d+1)*c':=by
   intro y g c' s q
   rw[W8 A (by omega),Av j,Rs b d,A0i,A0c]
   have e:4294967296 ^ d*(a[d]+4294967296*c')=4294967296 ^ d*(g+(c+b.getD d 0)):=by rw[q,s]
   rw[A0h,A0h,A0h] at e
   omega
  have next:∀ y g c':Nat,g<4294967296→c'≤1→y=c+b.getD d 0→a[d]+4294967296*c'=g+y→Iv N K a.length b.length (Ag a) (Ag b) fuel (c':Int) ((d+1:Nat):Int) (Ag (S.set d g))=K (Al (val a - val b)).length true (Ag (Al (val a - val b))):=by
   intro y g c' q F s X
   exact y5 G I v t z m (d+1) fuel (S.set d g) c' (by omega) (by omega) (Co hS q d) (by simpa using u) (FX A) F (step y g c' s X) K
  have second:∀ y:Nat,y=c+b.getD d 0→CY N (Iv N K a.length b.length (Ag a) (Ag b) fuel) K a.length b.length (Ag a) (Ag b) (Ag S) (d:Int) (y:Int)=K (Al (val a - val b)).length true (Ag (Al (val a - val b))):=by
   intro y s
   unfold CY
   rw[Aa j,ct,fg j,In (show a[d]<18446744073709551616 by omega)]
   by_cases n:a[d]<y
   ·rw[Gh n,ct,ct,xe (by omega),ct,show((a[d]:Nat):Int)+4294967296=((a[d]+4294967296:Nat):Int) by omega,In (show a[d]+4294967296<18446744073709551616 by omega),je (by omega) (by omega),Amq (by omega),TM,wS (by omega)]
    exact next y (a[d]+4294967296 - y) 1 (by omega) (by omega) s (by omega)
   ·rw[H2 (by omega),cf,ct,xe (by omega),ct,je (by omega) (by omega),Amq (by omega),TM,wS (by omega)]
    exact next y (a[d] - y) 0 (by omega) (by omega) s (by omega)
  rw[Iv];unfold FG
  rw[Gh j,ct]
  by_cases k:d<b.length
  ·have q:b.getD d 0=b[d]:=by rw[A0e,Az6 k];rfl
   rw[Gh k,ct,Aa k,ct,fg k,In (show b[d]<18446744073709551616 by omega),HB,In (show c+b[d]<18446744073709551616 by omega)]
   exact second _ (by rw[q])
  ·have q:b.getD d 0=0:=by rw[A0e,A1f (by omega)];rfl
   rw[H2 (by omega),cf]
   exact second _ (by rw[q];rfl)
theorem kQ {N:Nat} {a b:List Nat} {n m:Nat} {t o t' o':Bool} {K:Nat→Bool→LA→O R} (hn:n=a.length) (u:m=b.length) (k:Ak a) (q:Ak b) (j:fit (a.length+b.length) N) :
  NG N (Ag a) n t o (Ag b) m t' o' K=if val b≤val a then K (Al (val a - val b)).length true (Ag (Al (val a - val b))) else K 0 false []:=by
 subst hn u
 have v:=j.1;have z:=j.2
 have la:=(Ba k).2
 have lb:=(Ba q).2
 rw[mb];unfold fZ
 dsimp only
 rw[Aph rfl rfl k q j]
 by_cases e:val b≤val a
 ·have s:=Bb e
  rw[if_pos e,show decide (H7 (val a) (val b)<0)=false by (unfold H7;rw[if_neg (by omega)];split<;>rfl),cf,Dd rfl k (j.le (by omega)),Dd rfl q (j.le (by omega)),Aq0 (by omega),ct,C0]
  have:=y5 (R:=R) (N:=N) (a:=Al (val a)) (b:=Al (val b)) (Ad _) (Ad _) (j.le (by omega)) s (by rw[Ah,Ah];exact e) (Al (val a)).length 0 N (replicate (Al (val a)).length 0) 0 (by omega) (by omega) (Cl _) (by simp) (L0 _) (by omega) (by rw[D6];simp[val]) K
  rw[Ah,Ah] at this
  exact this
 ·rw[if_neg e,show decide (H7 (val a) (val b)<0)=true by (unfold H7;rw[if_pos (by omega)];rfl),ct]
theorem Amv {N:Nat} {x y:List Nat} {c d c' d':Bool} {f:Nat} (F:Ak x) (G:Ak y) (u:f<x.length) (hs:x.length+y.length≤1000000000000):∀ (m l fuel:Nat) (S:List Nat) (p:Nat) (v:Nat),l+m=y.length→m<fuel→Ak S→S.length=x.length+y.length→Apd S (f+y.length)→p<4294967296 →
  val S+4294967296 ^ (f+l)*p=v+4294967296 ^ f*(x[f]*val (y.take l)) →
  ∃ S',Ak S'∧S'.length=x.length+y.length∧val S'=v+4294967296 ^ f*(x[f]*val y)∧∀ (q:Nat→Int→LA→O R) (K:Nat→LA→O R),Q8 N q K (Ag x) x.length c d (Ag y) y.length c' d' (x.length+y.length) fuel (f:Int) (p:Int) (l:Int) (Ag S)=q (x.length+y.length) ((f+1:Nat):Int) (Ag S')
 | 0,l,fuel+1,S,p,v,L,_,hS,k,A,z,B=>by
  have C:l=y.length:=by omega
  subst C
  rw[A06] at B
  refine⟨S.set (f+y.length) p,Co hS z _,by simpa using k,by rw[W8 A (by omega),B],fun q K=>?_⟩
  rw[Q8];unfold FV
  rw[H2 (Az3 _),cf,wA (by omega),Aa (by omega),ct,xe (by omega),ct,Amq z,TM,wS (by omega)]
 | m+1,l,fuel+1,S,p,v,L,T,hS,k,A,z,B=>by
  have n:l<y.length:=by omega
  have yl:=Ay G n
  have hq:=Ay F u
  have hi:f+l<S.length:=by omega
  have sl:=Ay hS hi
  have U:=Af5 z hq yl sl
  have D:x[f]*y[l]<18446744073709551616:=by omega
  generalize t:p+(x[f]*y[l]+S[f+l])=s at *
  have I:=gC (v:=s%4294967296) hi
  have key:val (S.set (f+l) (s%4294967296))+4294967296 ^ (f+(l+1))*(s/4294967296)=v+4294967296 ^ f*(x[f]*val (y.take (l+1))):=by
   rw[Av n,←A1x f l 1,A0i]
   have e:=Nn (4294967296 ^ (f+l)) s
   have e2:4294967296 ^ (f+l)*s=4294967296 ^ (f+l)*p+(4294967296 ^ (f+l)*(x[f]*y[l])+4294967296 ^ (f+l)*S[f+l]):=by rw[←t,A0h,A0h]
   have e3:4294967296 ^ f*(x[f]*(val (y.take l)+4294967296 ^ l*y[l]))=4294967296 ^ f*(x[f]*val (y.take l))+4294967296 ^ (f+l)*(x[f]*y[l]):=by
    rw[A0h,A0h,A09]
    congr 1
    rw[A0c];congr 1
    rw[←A0c,←A0c,Az8 x[f]]
   omega
  obtain⟨S',V,X,Y,q4⟩:=Amv (N:=N) (c:=c) (d:=d) (c':=c') (d':=d') F G u hs m (l+1) fuel (S.set (f+l) (s%4294967296)) (s/4294967296) v (by omega) (by omega) (Co hS (by omega) _) (by simpa using k) (fun j hj hk=>by
   rw[A31,if_neg (by omega)];exact A j (by simpa using hj) hk) (by omega) key
  refine⟨S',V,X,Y,fun q K=>?_⟩
  rw[Q8];unfold FV
  rw[Gh n,ct,wA (by omega),Aa (by omega),ct,fg hi,Aa u,ct,QA u,Aa n,ct,QA n,ct,xe hi,ct,In (show x[f]<18446744073709551616 by omega),In (show y[l]<18446744073709551616 by omega),In (show S[f+l]<18446744073709551616 by omega),sG,In D,HB,A2v S[f+l],In (by omega),HB,t,In U,jf,cD,TM,wS (by omega)]
  exact q4 q K
theorem Agb {N:Nat} {x y:List Nat} {c d c' d':Bool} (t:Ak x) (u:Ak y) (e:fit (x.length+y.length) N):∀ (m f fuel:Nat) (S:List Nat),f+m=x.length→m<fuel→Ak S→S.length=x.length+y.length →
  val S=val (x.take f)*val y →
  ∀ K:Nat→LA→O R,K5 N K (Ag x) x.length c d (Ag y) y.length c' d' fuel (x.length+y.length) (f:Int) (Ag S)=K (Al (val x*val y)).length (Ag (Al (val x*val y)))
 | 0,f,fuel+1,S,z,_,hS,j,s=>by
  intro K
  have v:f=x.length:=by omega
  subst v
  rw[A06] at s
  rw[K5];unfold FW
  rw[H2 (Az3 _),cf,A0b,Az0 (by rw[Bo];omega),Dd j.symm hS (by rw[j];exact e),s]
 | m+1,f,fuel+1,S,z,A,hS,j,s=>by
  intro K
  have I:=e.1;have L:=e.2
  have n:f<x.length:=by omega
  have b1:=B6 (Ch t f)
  rw[A0o,A0x (by omega)] at b1
  have B:=B6 u
  have k:val S<4294967296 ^ (f+y.length):=by
   rw[s,A09];exact A1z b1 B
  have q:val (x.take (f+1))*val y=val S+4294967296 ^ f*(x[f]*val y):=by
   rw[Av n,A0m,s,A0c]
  obtain⟨S1,C,D,F,G⟩:=Amv (R:=R) (N:=N) (x:=x) (y:=y) (c:=c) (d:=d) (c':=c') (d':=d') (f:=f) t u n (by omega) y.length 0 N S 0 (val S) (by omega) (by omega) hS j (Ash k) (by omega) (by simp[val])
  rw[K5];unfold FW
  rw[Gh n,ct]
  have:=G (K5 N K (Ag x) x.length c d (Ag y) y.length c' d' fuel) K
  simp only[A2u] at this
  dsimp only
  rw[this]
  exact Agb t u e m (f+1) fuel S1 (by omega) (by omega) C D (by rw[F,q]) K
theorem Api {N:Nat} {a b:List Nat} {n m:Nat} {t o t' o':Bool} {K:Nat→LA→O R} (hn:n=a.length) (j:m=b.length) (k:Ak a) (q:Ak b) (e:fit (a.length+b.length) N) :
  fy N (Ag a) n t o (Ag b) m t' o' K=K (Al (val a*val b)).length (Ag (Al (val a*val b))):=by
 subst hn j
 have s:=e.1;have u:=e.2
 rw[nF];unfold fx
 rw[wA (by omega),Aq0 (by omega),ct,Az1,C0]
 exact Agb k q e a.length 0 N (replicate (a.length+b.length) 0) (by omega) (by omega) (Cl _) (by simp) (by rw[D6];simp[val]) K
theorem tM {N:Nat}:∀ (k fuel n v:Nat),v<2 ^ k→k<fuel→n+k≤1000000000000→∃ b:Nat,b≤k∧v<2 ^ b∧(v≠0→2 ^ b≤2*v)∧(v=0→b=0)∧∀ K:Int→O R,Jw N K fuel (n:Int) (v:Int)=K ((n+b:Nat):Int)
 | 0,fuel+1,n,v,j,_,_=>by
  have e:v=0:=by simpa using j
  subst e
  refine⟨0,by omega,by simp,fun h=>absurd rfl h,fun _=>rfl,fun K=>?_⟩
  rw[Jw];unfold Td
  rw[show decide (((0:Nat):Int)>0)=false by rfl,cf];rfl
 | k+1,fuel+1,n,v,j,z,hn=>by
  by_cases e:v=0
  ·subst e
   refine⟨0,by omega,by simp,fun h=>absurd rfl h,fun _=>rfl,fun K=>?_⟩
   rw[Jw];unfold Td
   rw[show decide (((0:Nat):Int)>0)=false by rfl,cf];rfl
  ·obtain⟨b,b1,A,s,t,u⟩:=tM (N:=N) k fuel (n+1) (v/2) (by rw[A0i] at j;omega) (by omega) (by omega)
   refine⟨b+1,by omega,by rw[A0i];omega,fun _=>?_,fun h=>absurd h e,fun K=>?_⟩
   ·by_cases q:v/2=0
    ·rw[t q];simp;omega
    ·have:=s q;rw[A0i];omega
   ·rw[Jw];unfold Td
    rw[show decide ((v:Int)>0)=true by rw[decide_eq_true_eq];omega,ct,wS (by omega),Sg v 1,show v/2 ^ 1=v/2 by rfl,u]
    congr 2;omega
theorem Aj9 {N:Nat} {a:List Nat} {n:Nat} {t o:Bool} (hn:n=a.length) (s:Ak a) (q:fit a.length N):∃ nb:Nat,nb≤32*a.length∧val a<2 ^ nb∧(val a≠0→2 ^ nb≤2*val a)∧(val a=0→nb=0)∧∀ K:Int→O R,TF N (Ag a) n t o K=K (nb:Int):=by
 have G:=q.1;have I:=q.2
 have la:=(Ba s).2
 by_cases j:val a=0
 ·refine⟨0,by omega,by rw[j];simp,fun h=>absurd j h,fun _=>rfl,fun K=>?_⟩
  rw[NE];unfold JK
  rw[Dd hn s q,j,Cz];rfl
 ·have z:(Al (val a)).length≠0:=fun h=>j (Bf.1 h)
  obtain⟨k,u⟩:∃ k,(Al (val a)).length=k+1:=⟨(Al (val a)).length - 1,by omega⟩
  have top:=Ay (Ad (val a)) (show k<(Al (val a)).length by omega)
  have e:(Al (val a))[k]'(by omega)≠0:=by
   have:=fP (val a) (NA j)
   rw[A20] at this
   simp only[u,A28] at this
   exact this
  have tf:=JY u
  have tl:=N_ (Ad (val a)) u
  rw[Ah] at tf tl
  obtain⟨b,b1,A,B,L,C⟩:=tM (R:=R) (N:=N) 32 N (32*k) ((Al (val a))[k]'(by omega)) (by exact top) (by omega) (by omega)
  have v:(2:Nat) ^ (32*k+b)=4294967296 ^ k*2 ^ b:=by rw[A09,A3x]
  refine⟨32*k+b,by omega,?_,fun _=>?_,fun h=>absurd h j,fun K=>?_⟩
  ·rw[v]
   have:((Al (val a))[k]'(by omega)+1)*4294967296 ^ k≤2 ^ b*4294967296 ^ k:=Az9 _ A
   rw[Az8 (2 ^ b)] at this;omega
  ·rw[v]
   have:=A0w (4294967296 ^ k) (B e)
   rw[A2f] at this
   omega
  ·rw[NE];unfold JK
   have D:wrap .i64 ((((Al (val a)).length:Nat):Int) - 1)=(k:Int):=by rw[i64 (by omega)];omega
   have F:wrap .i64 ((32:Int)*(k:Int))=((32*k:Nat):Int):=by rw[i64 (by omega)];omega
   rw[Dd hn s q,vR z,cf,D,Aa (by omega),ct,fg (by omega),F]
   exact C K
theorem Agc {a:List Nat} {j:Nat} (h:j<a.length):val a=val (a.take j)+4294967296 ^ j*(a[j]+4294967296*val (a.drop (j+1))):=by
 have:=Q6 (a.take j) (a.drop j)
 rw[A2e,A0o,A0x (by omega),T' h] at this
 exact this
theorem kR (j k:Nat):(2:Nat) ^ (32*j+k)=4294967296 ^ j*2 ^ k:=by rw[A09,A3x]
theorem Aus {a:List Nat} {j k:Nat} (n:Ak a) (h:j<a.length) (t:k<32):val a/2 ^ (32*j+k)%2=a[j]/2 ^ k%2:=by
 have tl:=B6 (Ch n j)
 rw[A0o,A0x (by omega)] at tl
 have hP:0<4294967296 ^ j:=A1l (by omega)
 have q:0<2 ^ k:=A1l (by omega)
 rw[kR,←A4a,Agc h,A2x _ _ hP,A1m tl,A0g]
 have e:4294967296=2 ^ k*(2*2 ^ (31 - k)):=by rw[←Nat.pow_succ',←A09,show k+(31 - k+1)=32 by omega]
 have s:4294967296*val (a.drop (j+1))=2 ^ k*(2*(2 ^ (31 - k)*val (a.drop (j+1)))):=by
  rw[←A0c 2,←A0c,←e]
 rw[s,A2x _ _ q,A41]
theorem Apj {N:Nat} {a:List Nat} {n:Nat} {t o:Bool} {i:Nat} {K:Int→O R} (hn:n=a.length) (s:Ak a) (hi:i<32*a.length) (hs:a.length≤1000000000):po N (Ag a) n t o (i:Int) K=K ((val a/2 ^ i%2:Nat):Int):=by
 subst hn
 have j:i/32<a.length:=by omega
 have aj:=Ay s j
 rw[m_];unfold sP
 have u:wrap .i64 (Int.tdiv (i:Int) 32)=((i/32:Nat):Int):=by rw[show(32:Int)=((32:Nat):Int) by rfl,ZX,i64 (by omega)]
 have v:wrap .u64 (Int.tmod (i:Int) 32)=((i%32:Nat):Int):=by rw[show(32:Int)=((32:Nat):Int) by rfl,T_,In (by omega)]
 rw[u,v,show decide (((i/32:Nat):Int)≥(a.length:Int))=false by rw[decide_eq_false_iff_not];omega,cf,Aa j,ct,QA j,show decide (((i%32:Nat):Int)<0)=false by rw[decide_eq_false_iff_not];omega,cf,Az1,A0x (by omega),Sg]
 have q:a[i/32]/2 ^ (i%32)<4294967296:=A0s (A1r _ _) aj
 have e:=Ai6 (k:=.u32) rfl (a:=a[i/32]/2 ^ (i%32)) (b:=1) q (by decide)
 rw[show(1:Int)=((1:Nat):Int) by rfl,e,Nat.and_one_is_mod]
 have:=Aus s j (k:=i%32) (by omega)
 rw[A1e] at this
 rw[this]
theorem Ass {Q:List Nat} {j k:Nat} (hQ:Ak Q) (h:j<Q.length) (q:k<32) (e:2 ^ (32*j+k+1)∣val Q):2 ^ (k+1)∣Q[j]:=by
 have tl:=B6 (Ch hQ j)
 rw[A0o,A0x (by omega)] at tl
 have hP:0<4294967296 ^ j:=A1l (by omega)
 rw[A1x,kR,Agc h] at e
 have n:val (Q.take j)=0:=by
  have x1:4294967296 ^ j∣val (Q.take j):=(A4j (A43 _ _)).1 (Nat.dvd_trans (A43 _ _) e)
  exact Nat.eq_zero_of_dvd_of_lt x1 tl
 rw[n,A0g] at e
 have x2:=Nat.dvd_of_mul_dvd_mul_left hP e
 have x3:2 ^ (k+1)∣4294967296*val (Q.drop (j+1)):=Nat.dvd_trans ⟨2 ^ (31 - k),by rw[←A09,show k+1+(31 - k)=32 by omega]⟩ (A43 _ _)
 exact(A4j x3).1 x2
theorem kS {N:Nat} {a b:List Nat} {t o:Bool} {B:Nat} (V:Ak a) (u:b=Al B) (hB:0<B) (s:fit (a.length+2*b.length+4) N):∀ (i fuel:Nat) (Q:List Nat) (r:Nat),i<fuel→i≤32*a.length→Ak Q→Q.length=a.length→r=val a/2 ^ i%B→val Q=val a/2 ^ i/B*2 ^ i →
  ∀ K:Nat→Nat→Bool→LA→LA→O R,Fj N K (Ag a) a.length t o b.length (Ag b) fuel (Al r).length ((i:Int) - 1) (Ag Q) (Ag (Al r))=K (Al (val a/B)).length (Al (val a%B)).length true (Ag (Al (val a/B))) (Ag (Al (val a%B)))
 | 0,fuel+1,Q,r,_,_,hQ,F,hr,z=>by
  intro K
  rw[A3o,A6s] at hr z
  rw[A0b] at z
  have lr:(Al r).length≤b.length:=by
   rw[u];apply Bb;rw[hr];exact A5h (A1j _ hB)
  rw[Fj];unfold Te
  rw[show decide ((((0:Nat):Int) - 1)≥0)=false by rfl,cf,A0b,Az0 (by rw[Bo];omega),Dd F.symm hQ (by rw[F];exact s.le (by omega)),A0b,Az0 (by rw[Bo];omega),Dd rfl (Ad _) (s.le (by omega)),Ah,z,hr]
 | i+1,fuel+1,Q,r,hfu,hi,hQ,F,hr,z=>by
  intro K
  have h1:=s.1;have h2:=s.2
  have hrB:r<B:=by rw[hr];exact A1j _ hB
  have lr:(Al r).length≤b.length:=by rw[u];exact Bb (A5h hrB)
  have q:val a/2 ^ i=2*(val a/2 ^ (i+1))+val a/2 ^ i%2:=by
   have:=A1e (val a/2 ^ i) 2
   rw[A4a,←A0i] at this
   exact this.symm
  have X:=A1e (val a/2 ^ (i+1)) B
  have hb2:val a/2 ^ i%2<2:=A1j _ (by omega)
  generalize hH:val a/2 ^ (i+1)=H at *
  generalize G:val a/2 ^ i%2=bt at *
  have j:val a/2 ^ i=B*(2*(H/B))+(2*r+bt):=by
   rw[q,hr,A2f];omega
  clear hr X q
  have I:i/32<Q.length:=by omega
  have qj:=Ay hQ I
  have L:2 ^ (32*(i/32)+i%32+1)∣val Q:=by rw[A1e,z];exact Nat.dvd_mul_left _ _
  have A:=Ass hQ I (A1j _ (by omega)) L
  have Y:2 ^ i=4294967296 ^ (i/32)*2 ^ (i%32):=by rw[←kR,A1e]
  have S:2 ^ (i%32+1)≤4294967296:=(A0y (by omega) (show i%32+1≤32 by omega):2 ^ (i%32+1)≤2 ^ 32)
  have T:Rj .u32 ((Q[i/32]:Nat):Int) (wrap .u32 ((1:Int)*2 ^ (min (Int.toNat ((i%32:Nat):Int)) 32)))=((Q[i/32]+2 ^ (i%32):Nat):Int)∧Q[i/32]+2 ^ (i%32)<4294967296:=by
   obtain⟨c,hc⟩:=A
   have hpos:0<2 ^ (i%32):=A1l (by omega)
   have hlt:Q[i/32]+2 ^ (i%32)<4294967296:=by
    obtain⟨w,hw⟩:∃ w,4294967296=2 ^ (i%32+1)*w:=⟨2 ^ (31 - i%32),by rw[←A09,show i%32+1+(31 - i%32)=32 by omega]⟩
    have x1:c<w:=by rw[hc,hw] at qj;exact A2s qj
    have x2:=A0w (2 ^ (i%32+1)) (show c+1≤w from x1)
    rw[A0h,←hw,←hc,A0b,A0i] at x2
    omega
   refine⟨?_,hlt⟩
   rw[Az1,A0x (by omega),Int.one_mul,show(2:Int) ^ (i%32)=((2 ^ (i%32):Nat):Int) by simp,Amq (by rw[A0i] at S;omega),xp (k:=.u32) rfl qj (by show 2 ^ (i%32)<4294967296;rw[A0i] at S;omega)]
   congr 1
   have e:Q[i/32]=c*2 ^ (i%32+1):=by rw[hc,Az8]
   rw[e];exact jg (by rw[A0i];omega)
  have w1:wrap .i64 (Int.tdiv (i:Int) 32)=((i/32:Nat):Int):=by rw[show(32:Int)=((32:Nat):Int) by rfl,ZX,i64 (by omega)]
  have w2:wrap .u64 (Int.tmod (i:Int) 32)=((i%32:Nat):Int):=by rw[show(32:Int)=((32:Nat):Int) by rfl,T_,In (by omega)]
  have l2:(Al (2*r+bt)).length≤b.length+1:=by
   apply Dn
   have x1:=B6 (Ad B)
   rw[Ah,←u] at x1
   rw[A0i];omega
  have second:Lw N (Fj N K (Ag a) a.length t o b.length (Ag b) fuel) K (Ag a) a.length t o b.length (i:Int) (Ag b) (Ag Q) (Al (2*r+bt)).length (Ag (Al (2*r+bt)))=K (Al (val a/B)).length (Al (val a%B)).length true (Ag (Al (val a/B))) (Ag (Al (val a%B))):=by
   unfold Lw
   have lb:Ak b:=by rw[u];exact Ad _
   have vb:val b=B:=by rw[u,Ah]
   rw[A0b,A0b,Az0 (by rw[Bo];omega),Az0 (by rw[Bo];omega),kQ rfl rfl (Ad _) lb (s.le (by omega)),Ah,vb]
   by_cases U:B≤2*r+bt
   ·have C:val a/2 ^ i/B=2*(H/B)+1:=by
     rw[j,show B*(2*(H/B))+(2*r+bt)=B*(2*(H/B)+1)+(2*r+bt - B) by rw[A0h];omega,A34 hB,A1m (show 2*r+bt - B<B by omega),A1i]
    have D:val a/2 ^ i%B=2*r+bt - B:=by
     rw[j,show B*(2*(H/B))+(2*r+bt)=B*(2*(H/B)+1)+(2*r+bt - B) by rw[A0h];omega,A4p,A07 (by omega)]
    rw[if_pos U,ct,w1,w2,Aa (by omega),ct,fg I,show decide (((i%32:Nat):Int)<0)=false by rw[decide_eq_false_iff_not];omega,cf,ct,xe I,ct,T.1,TM,i64 (by omega)]
    refine kS V u hB s i fuel (Q.set (i/32) (Q[i/32]+2 ^ (i%32))) (2*r+bt - B) (by omega) (by omega) (Co hQ T.2 _) (by simpa using F) D.symm ?_ K
    have x1:=gC (v:=Q[i/32]+2 ^ (i%32)) I
    rw[A0h,←Y] at x1
    rw[C,A0m,A3t,Az8 2,A0c,Az8 2,←A0i,←z]
    omega
   ·have C:val a/2 ^ i/B=2*(H/B):=by rw[j,A34 hB,A1m (show 2*r+bt<B by omega),A1i]
    have D:val a/2 ^ i%B=2*r+bt:=by rw[j,A4p,A07 (by omega)]
    rw[if_neg U,cf,i64 (by omega)]
    refine kS V u hB s i fuel Q (2*r+bt) (by omega) (by omega) hQ F D.symm ?_ K
    rw[C,Az8 2,A0c,Az8 2,←A0i,←z]
  rw[Fj];unfold Te
  rw[show(((i+1:Nat):Int) - 1)=(i:Int) by omega,show decide ((i:Int)≥0)=true by rw[decide_eq_true_eq];omega,ct,A0b,Az0 (by rw[Bo];omega),kP rfl rfl (Ad _) (Ad _) (s.le (by omega)),Ah,Apj rfl V (by omega) (by omega),G]
  have l3:(Al (r+r)).length≤b.length+1:=by
   apply Dn
   have x1:=B6 (Ad B)
   rw[Ah,←u] at x1
   rw[A0i];omega
  rcases(show bt=0∨bt=1 by omega) with rfl | rfl
  ·rw[show(((0:Nat):Int)==1)=false by rfl,cf]
   rw[show 2*r+0=r+r by omega] at second
   exact second
  ·rw[show(((1:Nat):Int)==1)=true by rfl,ct,A0b,Az0 (by rw[Bo];omega)]
   have:=kP (R:=R) (N:=N) (a:=Al (r+r)) (b:=[1]) (n:=(Al (r+r)).length) (m:=1) (t:=false) (o:=true) (t':=false) (o':=true) (K:=fun af ag=>Lw N (Fj N K (Ag a) a.length t o b.length (Ag b) fuel) K (Ag a) a.length t o b.length (i:Int) (Ag b) (Ag Q) af ag) rfl rfl (Ad _) (by intro x hx;simp at hx;omega) (s.le (by simp;omega))
   rw[Ah,show val [1]=1 by rfl,show r+r+1=2*r+1 by omega] at this
   exact this.trans second
theorem OA {N:Nat} {a b:List Nat} {n m:Nat} {t o t' o':Bool} {K:Nat→Nat→Bool→LA→LA→O R} (hn:n=a.length) (D:m=b.length) (u:Ak a) (A:Ak b) (q:val b≠0) (k:fit (a.length+2*b.length+4) N) :
  Vm N (Ag a) n t o (Ag b) m t' o' K=K (Al (val a/val b)).length (Al (val a%val b)).length true (Ag (Al (val a/val b))) (Ag (Al (val a%val b))):=by
 have F:=k.1;have G:=k.2
 have lb:=(Ba A).2
 have v:(Al (val b)).length≠0:=fun h=>q (Bf.1 h)
 rw[TG];unfold FH
 dsimp only
 have long:Pq N K (Ag a) n t o (Al (val b)).length (Ag (Al (val b)))=K (Al (val a/val b)).length (Al (val a%val b)).length true (Ag (Al (val a/val b))) (Ag (Al (val a%val b))):=by
  obtain⟨nb,n1,n2,n3,n4,n5⟩:=Aj9 (R:=R) (N:=N) (a:=a) (n:=n) (t:=false) (o:=o) hn u (k.le (by omega))
  unfold Pq CZ
  rw[n5,hn,Aq0 (by omega),ct,C0,i64 (by omega)]
  have C:val a/2 ^ nb=0:=A1m n2
  have:=kS (R:=R) (N:=N) (a:=a) (b:=Al (val b)) (t:=t) (o:=o) (B:=val b) u rfl (by omega) (k.le (by omega)) nb N (replicate a.length 0) 0 (by omega) n1 (Cl _) (by simp) (by rw[C];simp) (by rw[C,D6];simp) K
  exact this
 rw[Dd D A (k.le (by omega)),vR v,cf,N' hn u (k.le (by omega)),A0b,Az0 (by rw[Bo];exact Az3 _)]
 by_cases j:val a<18446744073709551616
 ·rw[if_pos j,N' rfl (Ad _) (k.le (by omega)),Ah]
  by_cases e:val b<18446744073709551616
  ·have s:val a/val b<18446744073709551616:=A0s (A1r _ _) j
   have z:val a%val b<18446744073709551616:=A0s (A5k _ _) j
   rw[if_pos e,show((true:Bool)==true)=true by rfl,ct,Aun,ct,vR q,cf,ZX,In s,FZ s (by omega),cf,T_,FZ z (by omega)]
  ·rw[if_neg e,show((true:Bool)==true)=true by rfl,ct,Aun,cf,long]
 ·rw[if_neg j,N' rfl (Ad _) (k.le (by omega)),Ah]
  by_cases e:val b<18446744073709551616
  ·rw[if_pos e,show((false:Bool)==true)=false by rfl,cf,long]
  ·rw[if_neg e,show((false:Bool)==true)=false by rfl,cf,long]
theorem Apk {N:Nat}:∀ (k fuel A B:Nat),k<fuel→A*B<2 ^ k→B<A→fit (3*(Al A).length+4) N→∀ K:Nat→LA→O R,Ei N K fuel (Al A).length (Al B).length (Ag (Al A)) (Ag (Al B))=K (Al (Nat.gcd A B)).length (Ag (Al (Nat.gcd A B))):=by
 have base:∀ (fuel A:Nat) (K:Nat→LA→O R),Ei N K (fuel+1) (Al A).length (Al 0).length (Ag (Al A)) (Ag (Al 0))=K (Al (Nat.gcd A 0)).length (Ag (Al (Nat.gcd A 0))):=by
  intro fuel A K
  rw[Ei];unfold Ro
  rw[Cz,show decide ((((([]:List Nat).length:Nat)):Int)>0)=false by decide,cf,A2m]
 intro k
 induction k with
 | zero =>
  intro fuel A B q e j n K
  obtain⟨fuel,rfl⟩:∃ F,fuel=F+1:=⟨fuel - 1,by omega⟩
  have s:B=0:=by
   rcases A0q B with h | h
   ·exact h
   ·have G:=A0w A (show 1≤B by omega)
    rw[A3o] at e;omega
  subst s
  exact base fuel A K
 | succ k t =>
  intro fuel A B q e j n K
  have I:=n.1;have L:=n.2
  obtain⟨fuel,rfl⟩:∃ F,fuel=F+1:=⟨fuel - 1,by omega⟩
  rcases A0q B with h | h
  ·subst h;exact base fuel A K
  have u:=Bb (A5h j)
  have v:(Al B).length≠0:=fun z=>by have:=Bf.1 z;omega
  have C:=A1j A h
  have hh:=UA (show 1≤B by omega) (A5h j)
  have:=t fuel B (A%B) (by omega) (by rw[A0i] at e;omega) C (n.le (by omega)) K
  have D:Nat.gcd B (A%B)=Nat.gcd A B:=by rw[A14,←A46,A14]
  rw[D] at this
  rw[Ei];unfold Ro
  rw[show decide ((((Al B).length:Nat):Int)>0)=true by rw[decide_eq_true_eq];omega,ct,A0b,A0b,Az0 (by rw[Bo];exact Az3 _),Az0 (by rw[Bo];exact Az3 _),OA rfl rfl (Ad _) (Ad _) (by rw[Ah];omega) (n.le (by omega)),Ah,Ah]
  exact this
theorem Apl {N:Nat} {a b:List Nat} {n m:Nat} {t o t' o':Bool} {K:Nat→LA→O R} (hn:n=a.length) (z:m=b.length) (q:Ak a) (s:Ak b) (k:fit (3*(a.length+b.length)+4) N) :
  f7 N (Ag a) n t o (Ag b) m t' o' K=K (Al (Nat.gcd (val a) (val b))).length (Ag (Al (Nat.gcd (val a) (val b)))):=by
 have D:=k.1;have G:=k.2
 have la:=(Ba q).2
 have lb:=(Ba s).2
 have u:val a*val b<2 ^ (32*(a.length+b.length)):=by rw[←UB];exact A1z (B6 q) (B6 s)
 rw[md];unfold f6
 rw[Dd hn q (k.le (by omega)),Dd z s (k.le (by omega))]
 obtain⟨F,hF⟩:∃ F,N=F+1:=⟨N - 1,by omega⟩
 rcases A0q (val b) with h | h
 ·rw[h,Cz,A2m,hF,Ei];unfold Ro
  rw[show decide ((((([]:List Nat).length:Nat)):Int)>0)=false by decide,cf]
 ·have v:=A1j (val a) h
  have A:(Al (val b)).length≠0:=fun B=>by have:=Bf.1 B;omega
  have j:val b*(val a%val b)<2 ^ (32*(a.length+b.length)):=by
   have:val b*(val a%val b)≤val b*val a:=A0w _ (A5k _ _)
   rw[Az8 (val b) (val a)] at this;omega
  have:=Apk (R:=R) (N:=N) (32*(a.length+b.length)) F (val b) (val a%val b) (by omega) j v (k.le (by omega)) K
  have C:Nat.gcd (val b) (val a%val b)=Nat.gcd (val a) (val b):=by rw[A14,←A46,A14]
  rw[C] at this
  have e:Ei N K (F+1) (Al (val a)).length (Al (val b)).length (Ag (Al (val a))) (Ag (Al (val b)))=Ei N K F (Al (val b)).length (Al (val a%val b)).length (Ag (Al (val b))) (Ag (Al (val a%val b))):=by
   rw[Ei];unfold Ro
   rw[show decide ((((Al (val b)).length:Nat):Int)>0)=true by rw[decide_eq_true_eq];omega,ct,A0b,A0b,Az0 (by rw[Bo];exact Az3 _),Az0 (by rw[Bo];exact Az3 _),OA rfl rfl (Ad _) (Ad _) (by rw[Ah];omega) (k.le (by omega)),Ah,Ah]
  conv=>lhs;rw[show(Ei N K N)=Ei N K (F+1) by rw[←hF]]
  rw[e];exact this
inductive LS where
 | nil
 | of (l:List Nat) (t o:Bool)
def LS.l:LS→List Nat
 | .nil=>[]
 | .of l _ _=>l
def LS.av:LS→AV
 | .nil=>.nsl
 | .of l t o=>.imm (Ag l) l.length 1 t o
theorem Aka {s:LS} {r:LA} {f:LA→Nat→O R}:Aw 1 (s.av::r) f=f (Ag s.l) s.l.length:=by
 cases s<;>simp[Aw,LS.av,LS.l,Aq1,Ag]
theorem y7 {b:Bool} {r:LA} {f:Bool→O R}:Ud (.bool b::r) f=f b:=by simp[Ud,asBool]
def Do (neg:Bool) (s:LS):LA:=[.bool neg,s.av]
def Au (neg:Bool) (s:LS):Int:=if neg then -(val s.l:Int) else (val s.l:Int)
theorem C2 (neg:Bool) (s:LS):(Au neg s).natAbs=val s.l:=by unfold Au;cases neg<;>simp
theorem Lo {neg:Bool} {s:LS} {f:Bool→O R}:Ud (Do neg s) f=f neg:=y7
theorem Jt {neg:Bool} {s:LS} {f:LA→Nat→O R}:Aw 1 (drop 1 (Do neg s)) f=f (Ag s.l) s.l.length:=by rw[Do,A1b,A00,Aka]
theorem D1 {N:Nat} {c:Bool} {a:Nat} {b:LA} {K:Bool→O R}:En N c a b K=K (c&&decide (0<a)):=by
 rw[ZO];unfold cG
 cases c<;>simp
theorem On {z:Int} {c:Bool} {m:Nat} (h:z=if c then -(m:Int) else (m:Int)):(c&&decide (0<(Al m).length))=decide (z<0)∧z.natAbs=m:=by
 have k:z.natAbs=m:=by rw[h];cases c<;>simp
 refine⟨?_,k⟩
 by_cases j:m=0
 ·subst j;rw[h,Cz];cases c<;>simp
 ·have:0<(Al m).length:=by
   rcases A0q (Al m).length with e | e
   ·exact absurd (Bf.1 e) j
   ·exact e
  rw[h];cases c<;>simp[this]<;>omega
theorem Pt {N:Nat} {v:Int} (s:-9223372036854775808≤v∧v≤9223372036854775807) (hN:4≤N):∃ S,Ak S∧val S=v.natAbs∧∀ K:Bool→Nat→LA→O R,Iy N v K=K (decide (v<0)) (Al v.natAbs).length (Ag S):=by
 have n:v.natAbs<18446744073709551616:=by omega
 obtain⟨S,s1,s2,k⟩:=K6 (R:=R) (N:=N) n hN
 refine⟨S,s1,s2,fun K=>?_⟩
 rw[TW];unfold TV
 by_cases h:v<0
 ·have e:wrap .u64 ((0:Int) - wrap .u64 v)=(v.natAbs:Int):=by rw[YA,YA];omega
  rw[decide_eq_true h,ct,e,k,D1]
  have q:v.natAbs≠0:=by omega
  have:0<(Al v.natAbs).length:=by
   rcases A0q (Al v.natAbs).length with j | j
   ·exact absurd (Bf.1 j) q
   ·exact j
  simp[this]
 ·have e:wrap .u64 v=(v.natAbs:Int):=by rw[YA];omega
  rw[decide_eq_false h,cf,e,k,D1];rfl
theorem Ra {N:Nat} {neg:Bool} {s:LS} {o:Bool} {K:Int→O R} (hs:Ak s.l) (e:fit s.l.length N):Qh N (Do neg s) o K=K (Au neg s).sign:=by
 rw[mm];unfold s8
 rw[Jt,sj rfl hs e]
 unfold Au
 by_cases h:val s.l=0
 ·rw[h,JU,show((0:Int)==0)=true by rfl,ct];cases neg<;>rfl
 ·have:H7 (val s.l) 0=1:=by unfold H7;rw[if_neg (by omega),if_pos (by omega)]
  rw[this,show((1:Int)==0)=false by rfl,cf,Lo]
  cases neg
  ·rw[cf];simp only[A3p,if_false]
   congr 1
   rw[A2h];omega
  ·rw[ct];simp only[if_true]
   congr 1
   rw[A1u];omega
theorem Apm {N:Nat} {n1 n2:Bool} {s1 s2:LS} {o1 o2:Bool} (j:Ak s1.l) (k:Ak s2.l) (n:fit (s1.l.length+s2.l.length) N):∃ S,Ak S∧val S=(Au n1 s1*Au n2 s2).natAbs∧∀ K:Bool→Nat→LA→O R,TZ N (Do n1 s1) o1 (Do n2 s2) o2 K=K (decide (Au n1 s1*Au n2 s2<0)) (Al (Au n1 s1*Au n2 s2).natAbs).length (Ag S):=by
 obtain⟨S,a1,a2,a3⟩:=tI (R:=R) (N:=N) (a:=s1.l) (b:=s2.l) (t:=false) (o:=o1) (t':=false) (o':=o2) rfl rfl j k n
 have q:Au n1 s1*Au n2 s2=if (!(n1==n2)) then -((val s1.l*val s2.l:Nat):Int) else ((val s1.l*val s2.l:Nat):Int):=by
  unfold Au;cases n1<;>cases n2<;>simp[A42,Int.neg_mul]
 obtain⟨c1,e⟩:=On q
 refine⟨S,a1,by rw[a2,e],fun K=>?_⟩
 rw[sr];unfold Abj
 rw[Lo,Lo,Jt,Jt,a3,D1,c1,e]
theorem Apn {N:Nat} {n1 n2:Bool} {s1 s2:LS} {o1 o2:Bool} (n:Ak s1.l) (q:Ak s2.l) (s:fit (s1.l.length+s2.l.length+1) N):∃ S,Ak S∧val S=(Au n1 s1+Au n2 s2).natAbs∧∀ K:Bool→Nat→LA→O R,Abs N (Do n1 s1) o1 (Do n2 s2) o2 K=K (decide (Au n1 s1+Au n2 s2<0)) (Al (Au n1 s1+Au n2 s2).natAbs).length (Ag S):=by
 by_cases hn:n1=n2
 ·subst hn
  obtain⟨S,a1,a2,a3⟩:=gD (R:=R) (N:=N) (a:=s1.l) (b:=s2.l) (t:=false) (o:=o1) (t':=false) (o':=o2) rfl rfl n q s
  have j:Au n1 s1+Au n1 s2=if n1 then -((val s1.l+val s2.l:Nat):Int) else ((val s1.l+val s2.l:Nat):Int):=by
   unfold Au;cases n1<;>simp;omega
  obtain⟨c1,e⟩:=On j
  refine⟨S,a1,by rw[a2,e],fun K=>?_⟩
  rw[NU];unfold fv
  rw[Lo,Lo,show(n1==n1)=true by simp,ct,Lo,Jt,Jt,a3,D1,c1,e]
 ·have k:(n1==n2)=false:=by simp[hn]
  by_cases u:val s2.l≤val s1.l
  ·obtain⟨S,a1,a2,a3⟩:=gE (R:=R) (N:=N) (a:=s1.l) (b:=s2.l) (t:=false) (o:=o1) (t':=false) (o':=o2) rfl rfl n q (s.le (by omega)) u
   have j:Au n1 s1+Au n2 s2=if n1 then -((val s1.l - val s2.l:Nat):Int) else ((val s1.l - val s2.l:Nat):Int):=by
    unfold Au;cases n1<;>cases n2<;>simp at hn ⊢<;>omega
   obtain⟨c1,e⟩:=On j
   refine⟨S,a1,by rw[a2,e],fun K=>?_⟩
   rw[NU];unfold fv
   rw[Lo,Lo,k,cf,Jt,Jt,a3,ct,Lo,D1,c1,e]
  ·obtain⟨S,a1,a2,a3⟩:=gE (R:=R) (N:=N) (a:=s2.l) (b:=s1.l) (t:=false) (o:=o2) (t':=false) (o':=o1) rfl rfl q n (s.le (by omega)) (by omega)
   have j:Au n1 s1+Au n2 s2=if n2 then -((val s2.l - val s1.l:Nat):Int) else ((val s2.l - val s1.l:Nat):Int):=by
    unfold Au;cases n1<;>cases n2<;>simp at hn ⊢<;>omega
   obtain⟨c1,e⟩:=On j
   refine⟨S,a1,by rw[a2,e],fun K=>?_⟩
   rw[NU];unfold fv
   rw[Lo,Lo,k,cf,Jt,Jt,Asg rfl rfl n q (s.le (by omega)) (by omega),cf,Jt,Jt,a3,Lo,D1,c1,e]
theorem Akb {N:Nat} {n1:Bool} {s1:LS} {o1:Bool} {K:Bool→Nat→LA→O R} (e:Ak s1.l) (j:fit s1.l.length N):pq N (Do n1 s1) o1 K=K (decide (Au n1 s1<0)) (Al (Au n1 s1).natAbs).length (Ag (Al (Au n1 s1).natAbs)):=by
 obtain⟨c1,k⟩:=On (z:=Au n1 s1) (c:=n1) (m:=val s1.l) (by unfold Au;cases n1<;>simp)
 rw[mw];unfold sf
 rw[Lo,Jt,BJ rfl e j,D1,c1,k]
def tN (x y:Int):Int:=if x<y then -1 else if y<x then 1 else 0
theorem Ast (x y:Nat):tN (x:Int) (y:Int)=H7 x y:=by unfold tN H7;simp
theorem Asu (x y:Nat):tN (-(x:Int)) (-(y:Int))=H7 y x:=by
 unfold tN H7
 by_cases h:y<x
 ·rw[if_pos (by omega),if_pos h]
 ·rw[if_neg (by omega),if_neg h]
  by_cases e:x<y
  ·rw[if_pos (by omega),if_pos e]
  ·rw[if_neg (by omega),if_neg e]
theorem wh {N:Nat} {n1 n2:Bool} {s1 s2:LS} {o1 o2:Bool} {K:Int→O R} (q:Ak s1.l) (t:Ak s2.l) (k:fit (s1.l.length+s2.l.length) N):NS N (Do n1 s1) o1 (Do n2 s2) o2 K=K (tN (Au n1 s1) (Au n2 s2)):=by
 rw[TY];unfold TX
 have l2:∀ n s,take 2 (Do n s)=Do n s:=fun n s=>rfl
 have l3:∀ n s,ble 2 (List.length (Do n s))=true:=fun n s=>rfl
 rw[l2,l2,l3,l3,ct,Ra q (k.le (by omega)),ct,Ra t (k.le (by omega))]
 have sg:∀ z:Int,z.sign=if z<0 then -1 else if 0<z then 1 else 0:=by
  intro z
  rcases A45 z 0 with h | h | h
  ·rw[A1u h,if_pos h]
  ·subst h;rfl
  ·rw[A2h h,if_neg (by omega),if_pos h]
 by_cases c1:(Au n1 s1).sign<(Au n2 s2).sign
 ·rw[decide_eq_true c1,ct]
  rw[sg,sg] at c1
  unfold tN;rw[if_pos]
  split at c1<;>split at c1<;>(try split at c1)<;>(try split at c1)<;>omega
 ·rw[decide_eq_false c1,cf]
  by_cases e:(Au n1 s1).sign>(Au n2 s2).sign
  ·rw[decide_eq_true e,ct]
   rw[sg,sg] at e
   unfold tN;rw[if_neg,if_pos]
   ·split at e<;>split at e<;>(try split at e)<;>(try split at e)<;>omega
   ·split at e<;>split at e<;>(try split at e)<;>(try split at e)<;>omega
  ·rw[decide_eq_false e,cf]
   have B:(Au n1 s1).sign=(Au n2 s2).sign:=by omega
   by_cases j:(Au n1 s1).sign<0
   ·rw[decide_eq_true j,ct,Jt,Jt,BI rfl rfl t q (k.le (by omega))]
    have u:Au n1 s1<0:=by rw[sg] at j;split at j;assumption;split at j<;>omega
    have v:Au n2 s2<0:=by rw[B,sg] at j;split at j;assumption;split at j<;>omega
    have e1:Au n1 s1=-(val s1.l:Int):=by unfold Au at u ⊢;cases n1<;>simp at u ⊢;omega
    have A:Au n2 s2=-(val s2.l:Int):=by unfold Au at v ⊢;cases n2<;>simp at v ⊢;omega
    rw[e1,A,Asu]
   ·rw[decide_eq_false j,cf,Jt,Jt,BI rfl rfl q t (k.le (by omega))]
    have u:0≤Au n1 s1:=by
     apply Int.not_lt.1;intro h;rw[A1u h] at j;omega
    have v:0≤Au n2 s2:=by
     apply Int.not_lt.1;intro h;rw[B,A1u h] at j;omega
    have e1:Au n1 s1=(val s1.l:Int):=by have:=C2 n1 s1;omega
    have A:Au n2 s2=(val s2.l:Int):=by have:=C2 n2 s2;omega
    rw[e1,A,Ast]
theorem tO (z:Int) (d:Nat) (k:d≠0):(mkRat z d).num.natAbs=z.natAbs/Nat.gcd z.natAbs d∧((mkRat z d).num<0↔z<0)∧(mkRat z d).den=d/Nat.gcd z.natAbs d:=by
 have q:0<Nat.gcd z.natAbs d:=A3g _ (by omega)
 rw[A56,A55,if_neg k,if_neg k,A14 d]
 have e:((Nat.gcd z.natAbs d:Nat):Int)∣z:=Int.dvd_natAbs.1 (Int.natCast_dvd_natCast.2 (A2t _ _))
 obtain⟨c,n⟩:=e
 have s:z.natAbs.gcd d=Nat.gcd z.natAbs d:=rfl
 generalize Nat.gcd z.natAbs d=g at *
 refine⟨?_,?_,rfl⟩
 ·rw[n,A3e _ (by omega),A5z,A0v,A5e _ q]
 ·rw[n,A3e _ (by omega)]
  constructor
  ·intro h;exact Int.mul_neg_of_pos_of_neg (by omega) h
  ·intro h;rcases Int.lt_or_le c 0 with j | j
   ·exact j
   ·have:=Int.mul_nonneg (show(0:Int)≤g by omega) j;omega
structure RatD where
 neg:Bool
 ns:LS
 ds:LS
def RatD.av (x:RatD):LA:=[.bool x.neg,x.ns.av,x.ds.av]
def RatD.ok (x:RatD):Prop:=Ak x.ns.l∧Ak x.ds.l
def RatD.m (x:RatD):Nat:=max x.ns.l.length x.ds.l.length
def RatD.q (x:RatD):Rat:=mkRat (Au x.neg x.ns) (val x.ds.l)
def RatD.can (x:RatD) (q:Rat):Prop:=x.neg=decide (q.num<0)∧x.ns.l=Al q.num.natAbs∧x.ds.l=Al q.den
def qm (q:Rat):Nat:=max (Al q.num.natAbs).length (Al q.den).length
theorem RatD.can.ok {x:RatD} {q:Rat} (h:x.can q):x.ok:=⟨by rw[h.2.1];exact Ad _,by rw[h.2.2];exact Ad _⟩
theorem RatD.can.m {x:RatD} {q:Rat} (h:x.can q):x.m=qm q:=by unfold RatD.m qm;rw[h.2.1,h.2.2]
theorem RatD.can.q {x:RatD} {q:Rat} (h:x.can q):x.q=q:=by
 unfold RatD.q Au
 rw[h.1,h.2.1,h.2.2,Ah,Ah]
 have:(if decide (q.num<0)=true then -(q.num.natAbs:Int) else (q.num.natAbs:Int))=q.num:=by
  by_cases e:q.num<0
  ·rw[if_pos (by simpa using e)];omega
  ·rw[if_neg (by simpa using e)];omega
 rw[this,A4t]
theorem Ayx {x:RatD} {f:Bool→O R}:Ud x.av f=f x.neg:=y7
theorem Aww {x:RatD} {f:LA→Nat→O R}:Aw 1 (drop 1 x.av) f=f (Ag x.ns.l) x.ns.l.length:=by rw[RatD.av,A1b,A00,Aka]
theorem wi {x:RatD} {f:LA→Nat→O R}:Aw 1 (drop 2 x.av) f=f (Ag x.ds.l) x.ds.l.length:=by rw[RatD.av,A1b,A1b,A00,Aka]
theorem OB (x:RatD):ble 3 (List.length x.av)=true:=rfl
theorem Tn (x:RatD):take 3 x.av=x.av:=rfl
theorem Av2 (x:RatD):take 2 x.av=Do x.neg x.ns:=rfl
theorem Av3 (n:Bool) (s:LS):((beq 0 0)&&((beq (List.length (Do n s)) 2)&&(beq 2 2)))=true:=rfl
theorem gK (n:Bool) (s:LS):ble 2 (List.length (Do n s))=true:=rfl
theorem yV (n:Bool) (s:LS):take 2 (Do n s)=Do n s:=rfl
theorem Agd:([.int .u32 1]:LA)=Ag [1]:=rfl
theorem y9:Ak [1]:=by intro x e;simp at e;omega
theorem WZ:Al 1=[1]:=by rw[FB (by omega)];simp[Cz]
theorem Bs {v:Nat} {S:List Nat} (e:Ak S) (j:val S=v):take ((Al v).length*1) (Ag S)=Ag (Al v):=by rw[←j,Lx e]
theorem Amw (neg:Bool) (l:List Nat) (t o:Bool):([.bool neg,.imm (Ag l) l.length 1 t o]:LA)=Do neg (.of l t o):=rfl
theorem Qj {z:Int} {t o:Bool}:Au (decide (z<0)) (.of (Al z.natAbs) t o)=z:=by
 unfold Au LS.l;rw[Ah]
 by_cases h:z<0
 ·rw[if_pos (by simpa using h)];omega
 ·rw[if_neg (by simpa using h)];omega
theorem tP {N:Nat} {x:RatD} {o:Bool} (j:x.ok) (t:fit x.m N):∃ (neg:Bool) (s:LS) (l:List Nat) (o1 o2:Bool),Ak s.l∧Ak l∧val l≠0∧s.l.length≤x.m∧l.length≤max x.m 1∧mkRat (Au neg s) (val l)=x.q∧∀ K:LA→Bool→LA→Nat→Bool→O R,TK N x.av o K=K (Do neg s) o1 (Ag l) l.length o2:=by
 have k:x.ns.l.length≤x.m:=A2j _ _
 have e:x.ds.l.length≤x.m:=A2o _ _
 by_cases n:val x.ds.l=0
 ·refine⟨false,.nil,[1],false,false,Vj,y9,by decide,by simp[LS.l],by simp;omega,?_,fun K=>?_⟩
  ·unfold RatD.q;rw[n];simp[Au,LS.l,val]
  ·rw[NK];unfold WQ
   rw[wi,sj rfl j.2 (t.le e),n,JU];rfl
 ·refine⟨x.neg,x.ns,x.ds.l,o,o,j.1,j.2,n,k,by omega,rfl,fun K=>?_⟩
  have:H7 (val x.ds.l) 0=1:=by unfold H7;rw[if_neg (by omega),if_pos (by omega)]
  rw[NK];unfold WQ
  rw[wi,sj rfl j.2 (t.le e),this,show((1:Int)==0)=false by rfl,cf,show ble 2 (List.length x.av)=true by rfl,ct,wi,Av2,Av3,ct,gK,ct,yV]
theorem Axy (z:Int) (d:Nat) (e:d≠0):(mkRat z d).num.sign=z.sign:=by
 obtain⟨k,j,_⟩:=tO z d e
 rcases A45 z 0 with h | h | h
 ·rw[A1u h,A1u (j.2 h)]
 ·subst h;simp
 ·have hn:¬ (mkRat z d).num<0:=fun hh=>by have:=j.1 hh;omega
  have n:(mkRat z d).num≠0:=fun hh=>by
   have:mkRat z d=0:=A5n.1 hh
   rw[Rat.mkRat_eq_zero e] at this;omega
  rw[A2h h,A2h (by omega)]
theorem tQ {N:Nat} {x:RatD} {o:Bool} {K:Int→O R} (j:x.ok) (e:fit x.m N):WR N x.av o K=K x.q.num.sign:=by
 obtain⟨neg,s,l,o1,o2,k,z,n,t,A,u,v⟩:=tP (R:=R) (o:=o) j e
 rw[mo];unfold s9
 rw[OB,ct,Tn,v,Av3,ct,gK,ct,yV,Ra k (e.le t),←u,Axy _ _ n]
theorem Akc {N:Nat} {x:RatD} {o:Bool} (k:x.ok) (s:fit x.m N):(∃ (n:Int) (d:Nat),-2147483648<n∧n<2147483648∧0<d∧d<2147483648∧mkRat n d=x.q∧∀ K:Int→Int→Bool→O R,DB N x.av o K=K n (d:Int) true)∨(∀ K:Int→Int→Bool→O R,DB N x.av o K=K 0 0 false):=by
 have t:x.ns.l.length≤x.m:=A2j _ _
 have j:x.ds.l.length≤x.m:=A2o _ _
 by_cases B:val x.ns.l<2147483648
 ·by_cases A:val x.ds.l<2147483648
  ·left
   have e:∀ K:Int→Int→Bool→O R,DB N x.av o K=Fp N K (val x.ns.l:Int) (val x.ds.l:Int) o x.av false:=by
    intro K
    rw[AB];unfold BG
    rw[Aww,Jz rfl k.1 (s.le t),if_pos (by omega),wi,Jz rfl k.2 (s.le j),if_pos (by omega)]
    rw[show((!true)==false)=true by rfl,ct,show((cond false true (!true))==false)=true by rfl,ct,show decide (((val x.ns.l:Nat):Int)≥2147483648)=false by rw[decide_eq_false_iff_not];omega,show((cond false true false)==false)=true by rfl,ct,show decide (((val x.ds.l:Nat):Int)≥2147483648)=false by rw[decide_eq_false_iff_not];omega]
    rfl
   by_cases v:val x.ds.l=0
   ·refine⟨0,1,by omega,by omega,by omega,by omega,by unfold RatD.q;rw[v];simp,fun K=>?_⟩
    rw[e];unfold Fp
    rw[cf,Azh v,ct];rfl
   ·have hn:=C2 x.neg x.ns
    refine⟨Au x.neg x.ns,val x.ds.l,by omega,by omega,by omega,A,rfl,fun K=>?_⟩
    rw[e];unfold Fp
    rw[cf,vR v,cf,Ayx,i64 (a:=((val x.ns.l:Nat):Int)) (by omega),i64 (a:=((val x.ds.l:Nat):Int)) (by omega)]
    unfold Au
    cases x.neg
    ·rfl
    ·rw[ct,i64 (by omega),Int.zero_sub];rfl
  ·right
   intro K
   rw[AB];unfold BG
   rw[Aww,Jz rfl k.1 (s.le t),if_pos (by omega),wi,Jz rfl k.2 (s.le j),show((!true)==false)=true by rfl]
   by_cases u:val x.ds.l<18446744073709551616
   ·rw[if_pos u,ct,show((cond false true (!true))==false)=true by rfl,ct,show decide (((val x.ns.l:Nat):Int)≥2147483648)=false by rw[decide_eq_false_iff_not];omega,show((cond false true false)==false)=true by rfl,ct,show decide (((val x.ds.l:Nat):Int)≥2147483648)=true by rw[decide_eq_true_eq];omega]
    unfold Fp;rfl
   ·rw[if_neg u,ct,show((cond false true (!false))==false)=false by rfl,cf]
    unfold Fp;rfl
 ·right
  intro K
  rw[AB];unfold BG
  rw[Aww,Jz rfl k.1 (s.le t)]
  by_cases u:val x.ns.l<18446744073709551616
  ·rw[if_pos u,wi,Jz rfl k.2 (s.le j),show((!true)==false)=true by rfl,show decide (((val x.ns.l:Nat):Int)≥2147483648)=true by rw[decide_eq_true_eq];omega]
   by_cases z:val x.ds.l<18446744073709551616
   ·rw[if_pos z,ct,show((cond false true (!true))==false)=true by rfl,ct]
    unfold Fp;rfl
   ·rw[if_neg z,ct,show((cond false true (!false))==false)=false by rfl,cf]
    unfold Fp;rfl
  ·rw[if_neg u,wi,Jz rfl k.2 (s.le j),show((!false)==false)=false by rfl]
   split<;>(rw[cf];unfold Fp;rfl)
theorem y_ {N:Nat} {a b c:Nat} {s:Int} (hN:4≤N) (v:a<18446744073709551616) (U:b<9223372036854775808) (z:0<c) (A:c∣a):∀ (k fuel x y:Nat),k<fuel→x*y<2 ^ k→y≤x→Nat.gcd x y=c→∃ d:RatD,d.neg=decide (s<0)∧d.ns.l=Al (a/c)∧d.ds.l=Al (b/c)∧∀ K:LA→O R,C1 N K s (b:Int) (a:Int) fuel (x:Int) (y:Int)=K d.av:=by
 have base:∀ (fuel:Nat),∃ d:RatD,d.neg=decide (s<0)∧d.ns.l=Al (a/c)∧d.ds.l=Al (b/c)∧∀ K:LA→O R,C1 N K s (b:Int) (a:Int) (fuel+1) (c:Int) ((0:Nat):Int)=K d.av:=by
  intro fuel
  have t:a/c<18446744073709551616:=A0s (A1r _ _) v
  have u:b/c<18446744073709551616:=A0s (A1r _ _) (by omega)
  obtain⟨S1,s1,s2,B⟩:=K6 (R:=R) (N:=N) t hN
  obtain⟨S2,t1,t2,t3⟩:=K6 (R:=R) (N:=N) u hN
  refine⟨⟨decide (s<0),.of (Al (a/c)) false false,.of (Al (b/c)) false false⟩,rfl,rfl,rfl,fun K=>?_⟩
  rw[C1];unfold Lk
  rw[show(((0:Nat):Int) != 0)=false by rfl,cf,vR (by omega),cf,ZX,In t,B,cf,In (show b<18446744073709551616 by omega),ZX,In u,t3,Bs s1 s2,Bs t1 t2];rfl
 intro k
 induction k with
 | zero =>
  intro fuel x y C e n j
  obtain⟨fuel,rfl⟩:∃ F,fuel=F+1:=⟨fuel - 1,by omega⟩
  have D:y=0:=by
   rcases A0q y with h | h
   ·exact h
   ·have V:=A0w x (show 1≤y by omega)
    rw[A3o] at e;omega
  subst D
  rw[A2m] at j;subst j
  exact base fuel
 | succ k G =>
  intro fuel x y C e n j
  obtain⟨fuel,rfl⟩:∃ F,fuel=F+1:=⟨fuel - 1,by omega⟩
  rcases A0q y with h | h
  ·subst h;rw[A2m] at j;subst j;exact base fuel
  ·have hh:=UA (show 1≤y by omega) n
   have X:=A1j x h
   have q:Nat.gcd y (x%y)=Nat.gcd x y:=by rw[A14,←A46,A14]
   obtain⟨d,I,L,S,T⟩:=G fuel y (x%y) (by omega) (by rw[A0i] at e;omega) (by omega) (by rw[q,j])
   refine⟨d,I,L,S,fun K=>?_⟩
   rw[C1];unfold Lk
   rw[show((y:Int) != 0)=true by rw[bne_iff_ne];omega,ct,vR (by omega),cf,T_]
   exact T K
theorem wk {N:Nat} {s:Int} {b:Nat} (hs:-9223372036854775808≤s∧s≤9223372036854775807) (q:0<b) (B:b<9223372036854775808) (hN:1000≤N):∃ d:RatD,d.can (mkRat s b)∧∀ K:LA→O R,Rp N s (b:Int) K=K d.av:=by
 obtain⟨m1,m2,m3⟩:=tO s b (by omega)
 have j:∀ d:RatD,d.neg=decide (s<0)→d.ns.l=Al (s.natAbs/Nat.gcd s.natAbs b)→d.ds.l=Al (b/Nat.gcd s.natAbs b)→d.can (mkRat s b):=by
  intro d C D G
  exact⟨by rw[C];congr 1;exact propext m2.symm,by rw[D,m1],by rw[G,m3]⟩
 have n:s.natAbs<18446744073709551616:=by omega
 have start:∀ K:LA→O R,Rp N s (b:Int) K=C1 N K s (b:Int) (s.natAbs:Int) N (b:Int) (s.natAbs:Int):=by
  intro K
  rw[QB];unfold AC Ti Yw
  dsimp only
  by_cases h:s<0
  ·have e:wrap .u64 ((0:Int) - wrap .u64 s)=(s.natAbs:Int):=by rw[YA,YA];omega
   rw[decide_eq_true h,ct,e,In (by omega)]
  ·have e:wrap .u64 s=(s.natAbs:Int):=by rw[YA];omega
   rw[decide_eq_false h,cf,e,In (by omega)]
 have k:0<Nat.gcd s.natAbs b:=A3g _ q
 by_cases t:s.natAbs≤b
 ·obtain⟨d,u,v,z,A⟩:=y_ (R:=R) (N:=N) (a:=s.natAbs) (b:=b) (c:=Nat.gcd s.natAbs b) (s:=s) (by omega) n B k (A2t _ _) 128 N b s.natAbs (by omega) (by
   have:=A1z (show b<18446744073709551616 by omega) n;exact this) t (A14 _ _)
  exact⟨d,j d u v z,fun K=>by rw[start,A]⟩
 ·obtain⟨F,hF⟩:∃ F,N=F+1:=⟨N - 1,by omega⟩
  obtain⟨d,u,v,z,A⟩:=y_ (R:=R) (N:=N) (a:=s.natAbs) (b:=b) (c:=Nat.gcd s.natAbs b) (s:=s) (by omega) n B k (A2t _ _) 128 F s.natAbs (b%s.natAbs) (by omega) (by
   rw[A07 (by omega)]
   have:=A1z n (show b<18446744073709551616 by omega);exact this) (by rw[A07 (by omega)];omega) (by rw[A07 (by omega)])
  refine⟨d,j d u v z,fun K=>?_⟩
  rw[start,←A K]
  conv=>lhs;rw[show(C1 N K s (b:Int) (s.natAbs:Int) N)=C1 N K s (b:Int) (s.natAbs:Int) (F+1) by rw[←hF]]
  rw[C1];unfold Lk
  rw[show((s.natAbs:Int) != 0)=true by rw[bne_iff_ne];omega,ct,vR (by omega),cf,T_]
theorem Aut {S:List Nat} {g:Nat} (k:Ak S) (n:val S=g) (j:(Al g).length=1) {f:Int→O R}:As .u32 (Ag S) f=f (g:Int):=by
 have q:=(Ba k).2
 rw[n,j] at q
 have e:=Afs k
 rw[n,j] at e
 obtain⟨a,s⟩:∃ a,Al g=[a]:=by
  match h:Al g,j with
  | [a],_=>exact⟨a,rfl⟩
 have t:a=g:=by have:=Ah g;rw[s] at this;simpa[val] using this
 rw[s,t] at e
 match S,q,e with
 | x::r,_,e =>
  simp at e;subst e
  rw[BE,Br]
theorem Age {N:Nat} {neg:Bool} {s:LS} {l:List Nat} {n:Nat} {o t o':Bool} (hn:n=l.length) (hs:Ak s.l) (L:Ak l) (u:val l≠0) (j:fit (2*(s.l.length+l.length)+8) N) :
  ∃ d:RatD,d.can (mkRat (Au neg s) (val l))∧∀ K:LA→O R,JV N (Do neg s) o (Ag l) n t o' K=K d.av:=by
 obtain⟨m1,m2,m3⟩:=tO (Au neg s) (val l) u
 have A:=C2 neg s
 have ls:=(Ba hs).2
 have ll:=(Ba L).2
 generalize V:Au neg s=z at *
 have start:∀ K:LA→O R,JV N (Do neg s) o (Ag l) n t o' K=cond ((((Al z.natAbs).length:Nat):Int)==(0:Int)) (K [(.bool false),.nsl,(.imm [(.int .u32 1)] 1 1 false false)]) (cV N (Ag (Al z.natAbs)) (Al z.natAbs).length false true (Ag (Al (val l))) (Al (val l)).length false true fun f g=>cond (((f:Int) != (1:Int))==false) (cond (Ae (0:Int) f) (As .u32 g fun y=>cond (cond false true (y != (1:Int))) (E8 N (Ag (Al z.natAbs)) (Al z.natAbs).length false true (take (f*1) g) f false true fun p ae af z2 ag=>E8 N (Ag (Al (val l))) (Al (val l)).length false true (take (f*1) g) f false true fun q ah ai aa aj=>K [(.bool (decide (z<0))),(.imm (take (p*1) z2) p 1 false false),(.imm (take (q*1) aa) q 1 false false)]) (K [(.bool (decide (z<0))),(.imm (Ag (Al z.natAbs)) (Al z.natAbs).length 1 false false),(.imm (Ag (Al (val l))) (Al (val l)).length 1 false false)])) none) (E8 N (Ag (Al z.natAbs)) (Al z.natAbs).length false true (take (f*1) g) f false true fun r ak al ab am=>E8 N (Ag (Al (val l))) (Al (val l)).length false true (take (f*1) g) f false true fun s an ao ac ap=>K [(.bool (decide (z<0))),(.imm (take (r*1) ab) r 1 false false),(.imm (take (s*1) ac) s 1 false false)])):=by
  intro K
  rw[ZV];unfold cW
  have tk:∀ v:Nat,take ((Al v).length*1) (Ag (Al v))=Ag (Al v):=fun v=>Bs (Ad _) (Ah v)
  rw[Lo,Jt,show beq (List.length (Do neg s)) 2=true by rfl,ct,Amw,Akb (s1:=.of s.l false o) hs (j.le (by simp[LS.l];omega)),show Au neg (.of s.l false o)=z by rw[←V];rfl,BJ hn L (j.le (by omega)),tk,tk]
 by_cases S:z=0
 ·refine⟨⟨false,.nil,.of [1] false false⟩,?_,fun K=>?_⟩
  ·rw[S];simp only[Rat.zero_mkRat]
   exact⟨rfl,rfl,WZ.symm⟩
  ·rw[start,S];rfl
 ·have B:z.natAbs≠0:=by omega
  have k:(Al z.natAbs).length≠0:=fun h=>B (Bf.1 h)
  have X:0<Nat.gcd z.natAbs (val l):=A3g _ (by omega)
  have lz:(Al z.natAbs).length≤s.l.length:=by rw[A];exact ls
  obtain⟨G,T,C,U⟩:=Asq (R:=R) (N:=N) (a:=Al z.natAbs) (b:=Al (val l)) (t:=false) (o:=true) (t':=false) (o':=true) rfl rfl (Ad _) (Ad _) (j.le (by omega))
  rw[Ah,Ah] at C U
  have lg:(Al (Nat.gcd z.natAbs (val l))).length≤l.length:=A1c (Bb (Nat.gcd_le_right _ (by omega))) ll
  obtain⟨Q1,R1,a1,a2,a3,a4,a5⟩:=FY (R:=R) (N:=N) (a:=Al z.natAbs) (b:=Al (Nat.gcd z.natAbs (val l))) (t:=false) (o:=true) (t':=false) (o':=true) rfl rfl (Ad _) (Ad _) (by rw[Ah];omega) (j.le (by omega))
  obtain⟨Q2,R2,b1,D,b3,b4,F⟩:=FY (R:=R) (N:=N) (a:=Al (val l)) (b:=Al (Nat.gcd z.natAbs (val l))) (t:=false) (o:=true) (t':=false) (o':=true) rfl rfl (Ad _) (Ad _) (by rw[Ah];omega) (j.le (by omega))
  rw[Ah,Ah] at a2 a5 D F
  have I:decide (z<0)=decide ((mkRat z (val l)).num<0):=by congr 1;exact propext m2.symm
  refine⟨⟨decide (z<0),.of (Al (z.natAbs/Nat.gcd z.natAbs (val l))) false false,.of (Al (val l/Nat.gcd z.natAbs (val l))) false false⟩,⟨I,by rw[m1];rfl,by rw[m3];rfl⟩,fun K=>?_⟩
  rw[start,vR k,cf,U,Bs T C]
  by_cases e:(Al (Nat.gcd z.natAbs (val l))).length=1
  ·rw[show((((((Al (Nat.gcd z.natAbs (val l))).length:Nat):Int) != (1:Int))==false))=true by rw[e];rfl,ct,show Ae 0 (Al (Nat.gcd z.natAbs (val l))).length=true by rw[e];rfl,ct,Aut T C e]
   by_cases Y:Nat.gcd z.natAbs (val l)=1
   ·rw[Y,show(cond false true (((1:Nat):Int) != 1))=false by rfl,cf,A6s,A6s];rfl
   ·rw[show(cond false true (((Nat.gcd z.natAbs (val l):Nat):Int) != 1))=true by (show(((Nat.gcd z.natAbs (val l):Nat):Int) != 1)=true;rw[bne_iff_ne];omega),ct,a5,F,Bs a1 a2,Bs b1 D];rfl
  ·rw[show((((((Al (Nat.gcd z.natAbs (val l))).length:Nat):Int) != (1:Int))==false))=false by (rw[show((((Al (Nat.gcd z.natAbs (val l))).length:Nat):Int) != (1:Int))=true by rw[bne_iff_ne];omega];rfl),cf,a5,F,Bs a1 a2,Bs b1 D];rfl
theorem dB {N:Nat} {x:RatD} {o:Bool} (u:x.ok) (j:fit (4*x.m+10) N):∃ d:RatD,d.can x.q∧∀ K:LA→O R,WW N x.av o K=K d.av:=by
 have F:=j.1
 rcases Akc (R:=R) (N:=N) (o:=o) u (j.le (by omega)) with⟨n,d,n1,n2,v,G,e,hK⟩ | hK
 ·obtain⟨c,c1,k⟩:=wk (R:=R) (N:=N) (s:=n) (b:=d) (by omega) v (by omega) (by omega)
  rw[e] at c1
  refine⟨c,c1,fun K=>?_⟩
  rw[TU];unfold fm
  rw[OB,ct,Tn,hK,ct,k];rfl
 ·obtain⟨neg,s,l,o1,o2,z,A,B,I,L,C,D⟩:=tP (R:=R) (N:=N) (o:=o) u (j.le (by omega))
  obtain⟨c,c1,k⟩:=Age (R:=R) (N:=N) (neg:=neg) (s:=s) (l:=l) (n:=l.length) (o:=o1) (t:=false) (o':=o2) rfl z A B (j.le (by omega))
  rw[C] at c1
  refine⟨c,c1,fun K=>?_⟩
  rw[TU];unfold fm
  rw[OB,ct,Tn,hK,cf,ct,D,k];rfl
def Asv (x y:Rat):Int:=if x<y then -1 else if y<x then 1 else 0
theorem UC {a b:Int} {k l:Nat} (e:a.natAbs<4294967296 ^ k) (j:b.natAbs<4294967296 ^ l):(a*b).natAbs<4294967296 ^ (k+l):=by
 rw[A5z,A09];exact A1z e j
theorem Agf {a b:Int} {k:Nat} (e:a.natAbs<4294967296 ^ k) (j:b.natAbs<4294967296 ^ k):(a+b).natAbs<4294967296 ^ (k+1):=by
 rw[A0i];omega
theorem tR {k l:Nat} (h:k≤l):4294967296 ^ k≤4294967296 ^ l:=A0y (by omega) h
theorem Akd {v k:Nat} (h:(Al v).length≤k):v<4294967296 ^ k:=by
 have:=B6 (Ad v);rw[Ah] at this
 exact A1g this (tR h)
theorem Asw (n:Bool) (s:LS):Au (!n) s=-Au n s:=by unfold Au;cases n<;>simp
def Cb (z:Int):LA:=Do (decide (z<0)) (.of (Al z.natAbs) false false)
theorem gL (z:Int) (K:LA→O R):(cond ((beq 0 0)&&((beq (List.length (Cb z)) 2)&&(beq 2 2))) (cond (ble 2 (List.length (Cb z))) (K (take 2 (Cb z))) none) none)=K (Cb z):=rfl
theorem Ayy (z w:Int):setCells (Cb z) 0 (Cb w)=Cb w:=rfl
theorem Axi (z:Int):take 2 (Cb z)=Cb z:=rfl
theorem Asx (z:Int):ble 2 (List.length (Cb z))=true:=rfl
theorem Asy (z:Int):beq (List.length (Cb z)) 2=true:=rfl
theorem Asz (v:Nat):take ((Al v).length*1) (Ag (Al v))=Ag (Al v):=Bs (Ad _) (Ah v)
theorem G5 {N:Nat} {neg:Bool} {l:List Nat} {n:Nat} {t o:Bool} {K:LA→O R} (hn:n=l.length) (e:Ak l) (j:fit l.length N):G2 N neg (Ag l) n t o K=K (Cb (if neg then -(val l:Int) else (val l:Int))):=by
 obtain⟨c1,k⟩:=On (z:=if neg then -(val l:Int) else (val l:Int)) (c:=neg) (m:=val l) rfl
 rw[fR];unfold jh
 rw[Dd hn e j,Asz]
 unfold Cb
 rw[←c1,k]
 cases neg
 ·rfl
 ·rw[show((true:Bool)==true)=true by rfl,ct,Aun];simp[Do,LS.av]
theorem ZY {N:Nat} {v:Int} {K:LA→O R} (k:-9223372036854775808≤v∧v≤9223372036854775807) (hN:2000≤N):Nj N v K=K (Cb v):=by
 have j:v.natAbs<18446744073709551616:=by omega
 have n:=NY j
 rw[PZ];unfold NC
 by_cases h:v<0
 ·have e:wrap .u64 (wrap .u64 (wrap .i64 ((0:Int) - wrap .i64 (v+1)))+1)=(v.natAbs:Int):=by
   rw[i64 (a:=v+1) (by omega),i64 (by omega),YA,YA];omega
  rw[decide_eq_true h,ct,e,FZ j (by omega),Asz,G5 rfl (Ad _) ⟨by omega,by omega⟩,Ah]
  have:(if true=true then -(v.natAbs:Int) else (v.natAbs:Int))=v:=by rw[if_pos rfl];omega
  rw[this];exact gL _ _
 ·have e:wrap .u64 v=(v.natAbs:Int):=by rw[YA];omega
  rw[decide_eq_false h,cf,e,FZ j (by omega),Asz,G5 rfl (Ad _) ⟨by omega,by omega⟩,Ah]
  have:(if false=true then -(v.natAbs:Int) else (v.natAbs:Int))=v:=by rw[if_neg (by decide)];omega
  rw[this];exact gL _ _
theorem dC {N:Nat} {n:Bool} {s:LS} {o:Bool} {K:LA→O R} (hs:Ak s.l) (e:fit s.l.length N):JH N (Do n s) o K=K (Cb (Au n s)):=by
 rw[fS];unfold ji
 rw[Lo,Jt,G5 rfl hs e];exact gL _ _
theorem tS {N:Nat} {n:Bool} {s:LS} {o:Bool} {K:Int→O R} (hs:Ak s.l) (j:fit s.l.length N):JI N (Do n s) o K=K (Au n s).sign:=by
 rw[fT];unfold jj
 rw[gK,ct,yV,dC hs j,Asy,show((true&&(true&&(!false))))=true by rfl,ct]
 have e:setCells (Do n s) 0 (Cb (Au n s))=Cb (Au n s):=rfl
 rw[e]
 generalize Au n s=z
 unfold Cb
 rw[Lo]
 rcases A45 z 0 with h | h | h
 ·rw[decide_eq_true h,ct,A1u h]
 ·subst h;rfl
 ·rw[decide_eq_false (by omega),cf,Jt]
  have:(Al z.natAbs).length≠0:=fun hh=>by have:=Bf.1 hh;omega
  simp only[LS.l]
  rw[vR this,cf,A2h h]
theorem Apo {N:Nat} {n:Bool} {s:LS} {o:Bool} {K:LA→O R} (hs:Ak s.l) (e:fit s.l.length N):FJ N (Do n s) o K=K (Cb (-Au n s)):=by
 rw[mh];unfold sY
 rw[Lo,Jt,G5 rfl hs e,←Asw];exact gL _ _
theorem Ake {N:Nat} {n1 n2:Bool} {s1 s2:LS} {o1 o2:Bool} {K:LA→O R} (e:Ak s1.l) (j:Ak s2.l) (k:fit (s1.l.length+s2.l.length) N):NW N (Do n1 s1) o1 (Do n2 s2) o2 K=K (Cb (Au n1 s1*Au n2 s2)):=by
 have n:(Al (val s1.l*val s2.l)).length≤s1.l.length+s2.l.length:=Dn (by rw[A09];exact A1z (B6 e) (B6 j))
 rw[nG];unfold tD
 rw[Lo,Lo,Jt,Jt,Api rfl rfl e j k,Asz,G5 rfl (Ad _) (k.le n),Ah]
 have q:Au n1 s1*Au n2 s2=if (!(n1==n2)) then -((val s1.l*val s2.l:Nat):Int) else ((val s1.l*val s2.l:Nat):Int):=by
  unfold Au;cases n1<;>cases n2<;>simp[A42,Int.neg_mul]
 rw[←q];exact gL _ _
theorem Akf {N:Nat} {n1 n2:Bool} {s1 s2:LS} {o1 o2:Bool} {K:LA→O R} (q:Ak s1.l) (s:Ak s2.l) (e:fit (s1.l.length+s2.l.length+1) N):FI N (Do n1 s1) o1 (Do n2 s2) o2 K=K (Cb (Au n1 s1+Au n2 s2)):=by
 have v1:=B6 q
 have v2:=B6 s
 have t:=tR (show s1.l.length≤s1.l.length+s2.l.length by omega)
 have u:=tR (show s2.l.length≤s1.l.length+s2.l.length by omega)
 rw[mg];unfold sX
 rw[Lo,Lo]
 by_cases hn:n1=n2
 ·subst hn
  have j:(Al (val s1.l+val s2.l)).length≤s1.l.length+s2.l.length+1:=Dn (by rw[A0i];omega)
  have k:Au n1 s1+Au n1 s2=if n1 then -((val s1.l+val s2.l:Nat):Int) else ((val s1.l+val s2.l:Nat):Int):=by
   unfold Au;cases n1<;>simp;omega
  rw[show(n1==n1)=true by simp,ct,Lo,Jt,Jt,kP rfl rfl q s e,Asz,G5 rfl (Ad _) (e.le j),Ah,←k];exact gL _ _
 ·rw[show(n1==n2)=false by simp[hn],cf,Jt,Jt,kQ rfl rfl q s (e.le (by omega))]
  by_cases n:val s2.l≤val s1.l
  ·have j:(Al (val s1.l - val s2.l)).length≤s1.l.length+s2.l.length+1:=Dn (by rw[A0i];omega)
   have k:Au n1 s1+Au n2 s2=if n1 then -((val s1.l - val s2.l:Nat):Int) else ((val s1.l - val s2.l:Nat):Int):=by
    unfold Au;cases n1<;>cases n2<;>simp at hn ⊢<;>omega
   rw[if_pos n,ct,Lo,Asz,G5 rfl (Ad _) (e.le j),Ah,←k];exact gL _ _
  ·have j:(Al (val s2.l - val s1.l)).length≤s1.l.length+s2.l.length+1:=Dn (by rw[A0i];omega)
   have k:Au n1 s1+Au n2 s2=if n2 then -((val s2.l - val s1.l:Nat):Int) else ((val s2.l - val s1.l:Nat):Int):=by
    unfold Au;cases n1<;>cases n2<;>simp at hn ⊢<;>omega
   rw[if_neg n,cf,Jt,Jt,kQ rfl rfl s q (e.le (by omega)),if_pos (by omega),Lo,Asz,G5 rfl (Ad _) (e.le j),Ah,←k];exact gL _ _
theorem App {N:Nat} {n1 n2:Bool} {s1 s2:LS} {o1 o2:Bool} {K:LA→O R} (e:Ak s1.l) (j:Ak s2.l) (k:fit (3*(s1.l.length+s2.l.length)+4) N):pp N (Do n1 s1) o1 (Do n2 s2) o2 K=K (Cb ((Nat.gcd (Au n1 s1).natAbs (Au n2 s2).natAbs:Nat):Int)):=by
 have n:(Al (Nat.gcd (val s1.l) (val s2.l))).length≤s1.l.length+s2.l.length:=by
  rcases A0q (val s1.l) with h | h
  ·rw[h,Nat.gcd_zero_left];have:=(Ba j).2;omega
  ·have:=Bb (Nat.gcd_le_left (val s2.l) h);have:=(Ba e).2;omega
 rw[mf];unfold sW
 rw[Jt,Jt,Apl rfl rfl e j k,Asz,G5 rfl (Ad _) (k.le (by omega)),Ah,C2,C2];exact gL _ _
theorem UD {N:Nat} {n1:Bool} {s1:LS} {g:Nat} {o1 o2:Bool} {K:LA→LA→Bool→O R} (k:Ak s1.l) (s:0<g) (n:g∣val s1.l) (j:fit (s1.l.length+2*(Al g).length+4) N):C_ N (Do n1 s1) o1 (Cb (g:Int)) o2 K=K (Cb (Au n1 s1/(g:Int))) (Cb 0) true:=by
 have e:Cb (g:Int)=Do false (.of (Al g) false false):=by
  unfold Cb;rw[decide_eq_false (by omega),A0v]
 have hq:(Al (val s1.l/g)).length≤s1.l.length:=A1c (Bb (A1r _ _)) (Ba k).2
 rw[e,TI];unfold TH
 rw[Jt,Jt,show(LS.of (Al g) false false).l=Al g by rfl]
 rw[OA rfl rfl k (Ad _) (by rw[Ah];omega) j,Ah,Nat.mod_eq_zero_of_dvd n,show(!true)=false by rfl,cf,Lo,Lo,Asz,G5 rfl (Ad _) (j.le (by omega)),Lo,Asz,G5 rfl (Ad _) (j.le (by simp[Cz])),Ah,Ah]
 have t:(if n1=true then -((0:Nat):Int) else ((0:Nat):Int))=0:=by cases n1<;>rfl
 have e1:(if (!(n1==false))=true then -((val s1.l/g:Nat):Int) else ((val s1.l/g:Nat):Int))=Au n1 s1/(g:Int):=by
  obtain⟨c,e⟩:=n
  have u:val s1.l/g=c:=by rw[e,A5e _ s]
  rw[u];unfold Au;rw[e]
  cases n1
  ·simp;rw[A3e _ (by omega)]
  ·simp only[Bool.true_beq,A2c,if_true]
   rw[show -((g*c:Nat):Int)=(g:Int)*(-(c:Int)) by rw[A42];simp,A3e _ (by omega)]
 rw[t,e1]
 generalize Au n1 s1/(g:Int)=q
 have v:∀ (f:Bool→O R),Ud (Cb 0) f=f false:=fun f=>Lo
 rw[show((beq 0 0)&&((beq (List.length (Cb q)) 2)&&(beq 2 2)))=true by rfl,ct,show((beq 0 0)&&((beq (List.length (Cb 0)) 2)&&(beq 2 2)))=true by rfl,ct,v,cf]
 rfl
def Abx (q:Rat):RatD:=⟨decide (q.num<0),.of (Al q.num.natAbs) false false,.of (Al q.den) false false⟩
def cq (q:Rat):LA:=(Abx q).av
theorem Aby (q:Rat):(Abx q).can q:=⟨rfl,rfl,rfl⟩
theorem Amx (q:Rat):(Abx q).q=q:=(Aby q).q
theorem Abz (q:Rat):(Abx q).ok:=(Aby q).ok
theorem Amy (q:Rat):(Abx q).m=qm q:=(Aby q).m
theorem ya (q:Rat) (K:LA→O R):(cond ((beq 0 0)&&((beq (List.length (cq q)) 3)&&(beq 3 3))) (cond (ble 3 (List.length (cq q))) (K (take 3 (cq q))) none) none)=K (cq q):=rfl
theorem Amz (q:Rat):ble 2 (List.length (cq q))=true:=rfl
theorem Ab0 (q:Rat):take 2 (cq q)=Cb q.num:=rfl
theorem Auu:cq 0=[(.bool false),(.imm [] 0 1 false false),(.imm [(.int .u32 1)] 1 1 false false)]:=by
 have e:cq 0=[.bool false,.imm (Ag (Al 0)) (Al 0).length 1 false false,.imm (Ag (Al 1)) (Al 1).length 1 false false]:=rfl
 rw[e,WZ];rfl
theorem Akg {N:Nat} {K:LA→O R}:fU N K=K (cq 0):=by
 rw[fV];unfold jk
 rw[Auu]
theorem Ayz {N:Nat} {z:Int} {o:Bool} {K:LA→O R} (e:fit (Al z.natAbs).length N):FJ N (Cb z) o K=K (Cb (-z)):=by
 have:=Apo (R:=R) (N:=N) (n:=decide (z<0)) (s:=.of (Al z.natAbs) false false) (o:=o) (K:=K) (Ad _) e
 rw[Qj] at this;exact this
theorem Axz {N:Nat} {z:Int} {o:Bool} {K:Int→O R} (e:fit (Al z.natAbs).length N):JI N (Cb z) o K=K z.sign:=by
 have:=tS (R:=R) (N:=N) (n:=decide (z<0)) (s:=.of (Al z.natAbs) false false) (o:=o) (K:=K) (Ad _) e
 rw[Qj] at this;exact this
theorem Awx {N:Nat} {z w:Int} {o o':Bool} {K:LA→O R} (e:fit ((Al z.natAbs).length+(Al w.natAbs).length) N):NW N (Cb z) o (Cb w) o' K=K (Cb (z*w)):=by
 have:=Ake (R:=R) (N:=N) (n1:=decide (z<0)) (s1:=.of (Al z.natAbs) false false) (n2:=decide (w<0)) (s2:=.of (Al w.natAbs) false false) (o1:=o) (o2:=o') (K:=K) (Ad _) (Ad _) e
 rw[Qj,Qj] at this;exact this
theorem Ay0 {N:Nat} {z w:Int} {o o':Bool} {K:LA→O R} (e:fit ((Al z.natAbs).length+(Al w.natAbs).length+1) N):FI N (Cb z) o (Cb w) o' K=K (Cb (z+w)):=by
 have:=Akf (R:=R) (N:=N) (n1:=decide (z<0)) (s1:=.of (Al z.natAbs) false false) (n2:=decide (w<0)) (s2:=.of (Al w.natAbs) false false) (o1:=o) (o2:=o') (K:=K) (Ad _) (Ad _) e
 rw[Qj,Qj] at this;exact this
theorem Awy (z:Int):mkRat z 1=(z:Rat):=by
 apply Rat.ext
 ·rw[A56,if_neg (by decide),Nat.gcd_one_left];simp
 ·rw[A55,if_neg (by decide),Nat.gcd_one_left];simp
theorem Auv (z:Int) (w:Nat) (e:w≠0):(mkRat z w).num=z/((Nat.gcd z.natAbs w:Nat):Int)∧(mkRat z w).den=w/Nat.gcd z.natAbs w:=by
 refine⟨?_,?_⟩
 ·rw[A56,if_neg e,A14 w]
 ·rw[A55,if_neg e,A14 w]
theorem nM {N:Nat} {n1 n2:Bool} {s1 s2:LS} {o1 o2:Bool} {K:LA→O R} (t:Ak s1.l) (n:Ak s2.l) (D:0≤Au n2 s2) (j:fit (4*(s1.l.length+s2.l.length)+10) N):Tf N (Do n1 s1) o1 (Do n2 s2) o2 K=K (cq (mkRat (Au n1 s1) (Au n2 s2).natAbs)):=by
 have k:=C2 n2 s2
 have q:=C2 n1 s1
 rw[f_];unfold WP
 rw[gK,ct,yV,tS n (j.le (by omega))]
 by_cases F:Au n2 s2=0
 ·rw[F,show((0:Int).sign==0)=true by rfl,ct,Akg]
  rw[show(0:Int).natAbs=0 by rfl,Rat.mkRat_zero];exact ya _ _
 ·have G:(Au n2 s2).natAbs≠0:=by omega
  have u:((Au n2 s2).sign==0)=false:=by rw[A2h (by omega)];rfl
  rw[u,cf,ct,dC n (j.le (by omega)),show((beq 0 0)&&((beq (List.length (Cb (Au n2 s2))) 2)&&(beq 2 2)))=true by rfl,ct]
  have rb:∀ (z:Int) (f:Bool→O R),Ud (Cb z) f=f (decide (z<0)):=fun z f=>Lo
  have rl:∀ (z:Int) (f:LA→Nat→O R),Aw 1 (drop 1 (Cb z)) f=f (Ag (Al z.natAbs)) (Al z.natAbs).length:=fun z f=>Jt
  have l2:=(Ba n).2
  have l1:=(Ba t).2
  rw[rb,decide_eq_false (by omega),show((!false)==true)=true by rfl,ct,rl,Agd,Asr (a:=Al (Au n2 s2).natAbs) (b:=[1]) (m:=1) rfl rfl (j.le (by rw[k];omega)),Aun]
  by_cases e:(Au n2 s2).natAbs=1
  ·rw[e,WZ,show decide (([1]:List Nat)=[1])=true by decide,ct,gK,ct,yV,dC t (j.le (by omega)),rl,e,WZ]
   rw[Awy]
   have I:cq ((Au n1 s1:Int):Rat)=[.bool (decide (Au n1 s1<0)),.imm (Ag (Al (Au n1 s1).natAbs)) (Al (Au n1 s1).natAbs).length 1 false false,.imm (Ag [1]) 1 1 false false]:=by
    unfold cq Abx RatD.av LS.av
    rw[Rat.num_intCast,Rat.den_intCast,WZ];rfl
   rw[I];rfl
  ·have v:decide (Al (Au n2 s2).natAbs=[1])=false:=by
    rw[decide_eq_false_iff_not];intro hh
    have:=congrArg val hh
    rw[Ah] at this;simp[val] at this;omega
   rw[v,cf]
   unfold FK
   have s:0<Nat.gcd (Au n1 s1).natAbs (Au n2 s2).natAbs:=A3g _ (by omega)
   have L:(Al (Nat.gcd (Au n1 s1).natAbs (Au n2 s2).natAbs)).length≤s2.l.length:=A1c (Bb (Nat.gcd_le_right _ (by omega))) (by rw[k];exact l2)
   have A:Nat.gcd (Au n1 s1).natAbs (Au n2 s2).natAbs∣val s1.l:=by rw[←q];exact A2t _ _
   have B:Nat.gcd (Au n1 s1).natAbs (Au n2 s2).natAbs∣val s2.l:=by rw[←k];exact A3s _ _
   obtain⟨S,T⟩:=Auv (Au n1 s1) (Au n2 s2).natAbs G
   rw[gK,ct,gK,ct,yV,yV,App t n (j.le (by omega))]
   generalize U:Nat.gcd (Au n1 s1).natAbs (Au n2 s2).natAbs=g at *
   rw[show((beq 0 0)&&((beq (List.length (Cb (g:Int))) 2)&&(beq 2 2)))=true by rfl,ct,ct,show ble 2 (List.length (Cb (g:Int)))=true by rfl,ct,Axi,UD t s A (j.le (by omega))]
   rw[show ∀ z:Int,((beq 0 0)&&((beq (List.length (Cb z)) 2)&&(beq 2 2)))=true from fun z=>rfl,ct,show((beq 0 0)&&((beq (List.length (Cb 0)) 2)&&(beq 2 2)))=true by rfl,ct,ct,UD n s B (j.le (by omega))]
   have C:Au n2 s2/(g:Int)=(((Au n2 s2).natAbs/g:Nat):Int):=by
    rw[show Au n2 s2=(((Au n2 s2).natAbs:Nat):Int) by omega];rfl
   rw[show ∀ z:Int,((beq 0 0)&&((beq (List.length (Cb z)) 2)&&(beq 2 2)))=true from fun z=>rfl,ct,ct,rb,C,decide_eq_false (by omega),cf,show ∀ z:Int,ble 2 (List.length (Cb z))=true from fun z=>rfl,ct,rl,A0v,←T]
   rw[←S];rfl
theorem As0 {N:Nat} {z w:Int} {o o':Bool} {K:LA→O R} (e:0≤w) (j:fit (4*((Al z.natAbs).length+(Al w.natAbs).length)+10) N):Tf N (Cb z) o (Cb w) o' K=K (cq (mkRat z w.natAbs)):=by
 have:=nM (R:=R) (N:=N) (n1:=decide (z<0)) (s1:=.of (Al z.natAbs) false false) (n2:=decide (w<0)) (s2:=.of (Al w.natAbs) false false) (o1:=o) (o2:=o') (K:=K) (Ad _) (Ad _) (by rw[Qj];exact e) j
 rw[Qj,Qj] at this;exact this
theorem Yb {N:Nat} {x:RatD} {o:Bool} {K:LA→O R} (e:x.ok) (j:fit (8*x.m+10) N):X9 N x.av o K=K (cq x.q):=by
 have m1:x.ns.l.length≤x.m:=A2j _ _
 have m2:x.ds.l.length≤x.m:=A2o _ _
 rw[fw];unfold kM
 rw[show ble 2 (List.length x.av)=true by rfl,ct,wi,Av2,Amw,nM (s2:=.of x.ds.l false o) e.1 e.2 (by unfold Au;simp) (j.le (show 4*(x.ns.l.length+x.ds.l.length)+10≤_ by omega))]
 have:mkRat (Au x.neg x.ns) (Au false (.of x.ds.l false o)).natAbs=x.q:=by rw[C2];rfl
 rw[this];exact ya _ _
theorem JZ {N:Nat} {x:RatD} {o:Bool} {K:LA→O R} (j:x.ok) (k:fit (8*x.m+10) N):FU N x.av o K=K (Cb (x.q.den:Int)):=by
 rw[nD];unfold sy
 rw[OB,ct,Tn,Yb j k]
 have:=wi (R:=R) (x:=Abx x.q) (f:=fun e f=>K [(.bool false),(.imm e f 1 false false)])
 refine this.trans ?_
 unfold Cb;rw[decide_eq_false (by omega),A0v];rfl
theorem UE (x:RatD) (e:x.ok):qm x.q≤x.m+1:=by
 have m1:x.ns.l.length≤x.m:=A2j _ _
 have m2:x.ds.l.length≤x.m:=A2o _ _
 unfold qm
 by_cases h:val x.ds.l=0
 ·have:x.q=0:=by unfold RatD.q;rw[h,Rat.mkRat_zero]
  rw[this,Rat.zero_num,Rat.zero_den,WZ];simp[Cz]
 ·obtain⟨a1,_,a3⟩:=tO (Au x.neg x.ns) (val x.ds.l) h
  have b1:x.q.num.natAbs≤val x.ns.l:=by show(mkRat _ _).num.natAbs≤_;rw[a1,C2];exact A1r _ _
  have j:x.q.den≤val x.ds.l:=by show(mkRat _ _).den≤_;rw[a3];exact A1r _ _
  have c1:=A1c (Bb b1) (Ba e.1).2
  have k:=A1c (Bb j) (Ba e.2).2
  omega
theorem Ax0 (z:Int) (d:Nat) (k:Nat) (e:z.natAbs<4294967296 ^ k) (j:d<4294967296 ^ k) (n:d≠0):qm (mkRat z d)≤k:=by
 obtain⟨a1,_,a3⟩:=tO z d n
 unfold qm
 have b1:(mkRat z d).num.natAbs≤z.natAbs:=by rw[a1];exact A1r _ _
 have q:(mkRat z d).den≤d:=by rw[a3];exact A1r _ _
 have c1:=Dn (A0s b1 e)
 have s:=Dn (A0s q j)
 omega
theorem Ab1 (q:Rat):q.num.natAbs<4294967296 ^ qm q:=Akd (A2j _ _)
theorem kT (q:Rat):q.den<4294967296 ^ qm q:=Akd (A2o _ _)
theorem Awz (a b:Rat):qm (a+b)≤qm a+qm b+1:=by
 rw[Rat.add_def']
 have da:(a.den:Int).natAbs<4294967296 ^ qm a:=by rw[A0v];exact kT a
 have db:(b.den:Int).natAbs<4294967296 ^ qm b:=by rw[A0v];exact kT b
 refine Ax0 _ _ _ ?_ ?_ (Nat.mul_ne_zero a.den_nz b.den_nz)
 ·refine Agf (UC (Ab1 a) db) ?_
  have:=UC (Ab1 b) da
  rwa [A2v (qm b)] at this
 ·rw[A0i,A09]
  have:=A1z (kT a) (kT b)
  omega
theorem As1 (a:Rat):qm (-a)=qm a:=by unfold qm;rw[Rat.neg_num,Rat.neg_den,A4b]
theorem Aw0 (a b:Rat):qm (a - b)≤qm a+qm b+1:=by rw[A59,←As1 b];exact Awz _ _
theorem Azt {a:Int} {b:Nat}:mkRat a ((b:Int)).natAbs=mkRat a b:=by rw[A0v]
theorem Akh {N:Nat} {x:RatD} {o:Bool} {K:LA→O R} (j:x.ok) (e:fit (16*x.m+40) N):qB N x.av o K=K (cq (-x.q)):=by
 have hq:=UE x j
 have k:(Al x.q.num.natAbs).length≤qm x.q:=A2j _ _
 have n:(Al x.q.den).length≤qm x.q:=A2o _ _
 rw[nE];unfold tA
 rw[OB,ct,Tn,Yb j (e.le (by omega)),Amz,ct,Ab0,Ayz (e.le (show(Al x.q.num.natAbs).length≤_ by omega)),ct,JZ j (e.le (by omega)),As0 (by omega) (e.le (show 4*((Al (-x.q.num).natAbs).length+(Al (x.q.den:Int).natAbs).length)+10≤_ by rw[A4b,A0v];omega)),Azt]
 have:mkRat (-x.q.num) x.q.den=-x.q:=by rw[←Rat.neg_mkRat,A4t]
 rw[this];exact ya _ _
theorem Aki {N:Nat} {x y:RatD} {o o':Bool} {K:LA→O R} (j:x.ok) (n:y.ok) (e:fit (16*(x.m+y.m)+80) N):qC N x.av o y.av o' K=K (cq (x.q+y.q)):=by
 have s:=UE x j
 have t:=UE y n
 have x1:=Ab1 x.q
 have x2:(x.q.den:Int).natAbs<4294967296 ^ qm x.q:=by rw[A0v];exact kT _
 have y1:=Ab1 y.q
 have y2:(y.q.den:Int).natAbs<4294967296 ^ qm y.q:=by rw[A0v];exact kT _
 have L1:=Dn x1
 have L2:=Dn x2
 have L3:=Dn y1
 have L4:=Dn y2
 have z1:=UC x1 y2
 have z2:=UC y1 x2
 have z3:=Agf (k:=qm x.q+qm y.q) z1 (by rwa [A2v])
 have z4:=UC x2 y2
 have M1:=Dn z1
 have M2:=Dn z2
 have M3:=Dn z3
 have M4:=Dn z4
 rw[nH];unfold tE
 rw[OB,ct,Tn,Yb j (e.le (by omega)),OB,ct,Tn,Yb n (e.le (by omega)),show ∀ q,((beq 0 0)&&((beq (List.length (cq q)) 3)&&(beq 3 3)))=true from fun q=>rfl,ct,show ∀ q,((beq 0 0)&&((beq (List.length (cq q)) 3)&&(beq 3 3)))=true from fun q=>rfl,ct,Amz,ct,ct,JZ n (e.le (by omega)),Ab0,Awx (e.le (show(Al x.q.num.natAbs).length+(Al (y.q.den:Int).natAbs).length≤_ by omega)),Amz,ct,ct,JZ j (e.le (by omega)),Ab0,Awx (e.le (show(Al y.q.num.natAbs).length+(Al (x.q.den:Int).natAbs).length≤_ by omega)),Ay0 (e.le (show(Al (x.q.num*(y.q.den:Int)).natAbs).length+(Al (y.q.num*(x.q.den:Int)).natAbs).length+1≤_ by omega)),ct,JZ j (e.le (by omega)),ct,JZ n (e.le (by omega)),Awx (e.le (show(Al (x.q.den:Int).natAbs).length+(Al (y.q.den:Int).natAbs).length≤_ by omega)),As0 (Int.mul_nonneg (by omega) (by omega)) (e.le (show 4*((Al (x.q.num*(y.q.den:Int)+y.q.num*(x.q.den:Int)).natAbs).length+(Al ((x.q.den:Int)*(y.q.den:Int)).natAbs).length)+10≤_ by omega))]
 have:mkRat (x.q.num*(y.q.den:Int)+y.q.num*(x.q.den:Int)) ((x.q.den:Int)*(y.q.den:Int)).natAbs=x.q+y.q:=by
  rw[Rat.add_def',A5z,A0v,A0v]
 rw[this];exact ya _ _
theorem Akj {N:Nat} {x y:RatD} {o o':Bool} {K:LA→O R} (n:x.ok) (j:y.ok) (k:fit (16*(x.m+y.m)+100) N):qD N x.av o y.av o' K=K (cq (x.q - y.q)):=by
 have s:=UE y j
 rw[nI];unfold tF
 rw[OB,ct,OB,ct,Tn,Tn,Akh j (k.le (by omega))]
 have:=Aki (R:=R) (N:=N) (x:=x) (y:=Abx (-y.q)) (o:=o) (o':=false) (K:=fun e=>cond ((beq 0 0)&&((beq (List.length e) 3)&&(beq 3 3))) (cond (ble 3 (List.length e)) (K (take 3 e)) none) none) n (Abz _) (k.le (by rw[Amy,As1];omega))
 rw[Amx,←A59] at this
 exact this.trans (ya _ _)
theorem Agg {N:Nat} {x:RatD} {o:Bool} {K:Int→O R} (e:x.ok) (j:fit (8*x.m+10) N):gA N x.av o K=K x.q.num.sign:=by
 have hq:=UE x e
 have k:(Al x.q.num.natAbs).length≤qm x.q:=A2j _ _
 rw[gB];unfold kN
 rw[OB,ct,Tn,Yb e j,Amz,ct,Ab0,Axz (j.le (show(Al x.q.num.natAbs).length≤_ by omega))]
theorem As2 (a b:Rat):(a - b).num.sign=Asv a b:=by
 unfold Asv
 by_cases h:a<b
 ·rw[if_pos h]
  have e:a - b<0:=by grind
  have:(a - b).num<0:=by
   apply Int.not_le.1;intro j
   exact absurd (Rat.num_nonneg.1 j) (Rat.not_le.2 e)
  exact A1u this
 ·rw[if_neg h]
  by_cases j:b<a
  ·rw[if_pos j]
   have e:0<a - b:=by grind
   have k:0≤(a - b).num:=Rat.num_nonneg.2 (Rat.le_of_lt e)
   have n:(a - b).num≠0:=fun hh=>by
    have:=A5n.1 hh
    rw[this] at e;exact absurd e Rat.lt_irrefl
   exact A2h (by omega)
  ·rw[if_neg j]
   have:a=b:=Rat.le_antisymm (Rat.not_lt.1 j) (Rat.not_lt.1 h)
   rw[this,Rat.sub_self];rfl
theorem tT {N:Nat} {x y:RatD} {o o':Bool} {K:Int→O R} (e:x.ok) (j:y.ok) (k:fit (16*(x.m+y.m)+100) N):Ya N x.av o y.av o' K=K (Asv x.q y.q):=by
 have n:=UE x e
 have s:=UE y j
 have hs:=Aw0 x.q y.q
 rw[QG];unfold NX
 rw[OB,ct,OB,ct,Tn,Tn,Akj e j k]
 have:=Agg (R:=R) (N:=N) (x:=Abx (x.q - y.q)) (o:=false) (K:=fun g=>K g) (Abz _) (k.le (by rw[Amy];omega))
 rw[Amx,As2] at this
 exact this
theorem tU {N:Nat} {v w:Int} {K:LA→O R} (e:-9223372036854775808≤v∧v≤9223372036854775807) (k:0≤w∧w≤9223372036854775807) (hN:4000≤N):js N v w K=K (cq (mkRat v w.natAbs)):=by
 have n:=NY (show v.natAbs<18446744073709551616 by omega)
 have j:=NY (show w.natAbs<18446744073709551616 by omega)
 rw[s6];unfold Aa0
 rw[ZY e (by omega),ZY (by omega) (by omega),As0 (by omega) ⟨show 100*(4*((Al v.natAbs).length+(Al w.natAbs).length)+10)+1000≤N by omega,show 4*((Al v.natAbs).length+(Al w.natAbs).length)+10≤1000000000 by omega⟩]
 exact ya _ _
theorem Apq {N:Nat} {n1:Bool} {s1:LS} {o1:Bool} {K:Bool→Nat→LA→O R} (e:Ak s1.l) (j:fit s1.l.length N):Abl N (Do n1 s1) o1 K=K false (Al (Au n1 s1).natAbs).length (Ag (Al (Au n1 s1).natAbs)):=by
 rw[su];unfold Abk
 rw[Jt,BJ rfl e j,D1,C2];rfl
theorem Apr {N:Nat} {n1:Bool} {s1:LS} {o1:Bool} {K:Bool→Nat→LA→O R} (e:Ak s1.l) (j:fit s1.l.length N):Abr N (Do n1 s1) o1 K=K (decide (-Au n1 s1<0)) (Al (Au n1 s1).natAbs).length (Ag (Al (Au n1 s1).natAbs)):=by
 obtain⟨c1,k⟩:=On (z:=-Au n1 s1) (c:=!n1) (m:=val s1.l) (by unfold Au;cases n1<;>simp)
 rw[sx];unfold Abq
 rw[Lo,Jt,BJ rfl e j,D1,c1,C2]
theorem Ax1 {A:Nat} (h:A≤9223372036854775808):cond true (decide ((A:Int)≤9223372036854775808)) false=true:=by
 rw[cond_true];exact decide_eq_true (by omega)
theorem Ax2 {A:Nat} (h:A<9223372036854775808):cond true (decide ((A:Int)<9223372036854775808)) false=true:=by
 rw[cond_true];exact decide_eq_true (by omega)
theorem Aw1 {A:Nat} (h:A≤9223372036854775808):wrap .i64 (wrap .u64 ((0:Int) - (A:Int)))=-(A:Int):=by
 rw[YA,IntKind.wrap_i64];omega
theorem Agh {N:Nat} {n1:Bool} {s1:LS} {o1:Bool} {K:Int→Bool→O R} (k:Ak s1.l) (n:fit s1.l.length N) (j:-9223372036854775808≤Au n1 s1∧Au n1 s1≤9223372036854775807):DN N (Do n1 s1) o1 K=K (Au n1 s1) true:=by
 have hn:=C2 n1 s1
 rw[fu];unfold WX
 rw[Jt,Jz rfl k n,if_pos (by omega),show(!true)=false by rfl,cf,Lo]
 cases n1
 ·have e:Au false s1=(val s1.l:Int):=rfl
  rw[e] at j ⊢
  rw[show(false==true)=false by rfl,cf]
  dsimp only
  unfold X8
  rw[cf,Lo,show((!false)==true)=true by rfl,ct,Ax2 (by omega),ct,i64 (by omega)]
 ·have e:Au true s1=-(val s1.l:Int):=rfl
  rw[e] at j ⊢
  rw[show(true==true)=true by rfl,ct,Ax1 (by omega)]
  dsimp only
  unfold X8
  rw[ct,Aw1 (by omega)]
theorem Agi {A B:Nat} (hB:0<B):(-(A:Int))/(B:Int)=(if A%B=0 then -((A/B:Nat):Int) else -((A/B+1:Nat):Int))∧(-(A:Int))%(B:Int)=(if A%B=0 then 0 else ((B - A%B:Nat):Int)):=by
 have t:=A1e A B
 have u:=A1j A hB
 have key:∀ q r:Int,r+(B:Int)*q=-(A:Int)→0≤r→r<(B:Int)→(-(A:Int))/(B:Int)=q∧(-(A:Int))%(B:Int)=r:=fun q r e k n =>
  (Int.ediv_emod_unique (by omega)).2 ⟨e,k,n⟩
 have s:((B*(A/B):Nat):Int)=(B:Int)*((A/B:Nat):Int):=A5m ..
 by_cases j:A%B=0
 ·rw[if_pos j,if_pos j]
  refine key _ _ ?_ (by omega) (by omega)
  rw[A42,←s];omega
 ·rw[if_neg j,if_neg j]
  refine key _ _ ?_ (by omega) (by omega)
  rw[A42,Int.natCast_add,Int.mul_add,←s];omega
theorem Ab2 {N:Nat} {n1 n2:Bool} {s1 s2:LS} {o1 o2:Bool} {K:LA→LA→Bool→O R} (I:Ak s1.l) (n:Ak s2.l) (q:0<Au n2 s2) (s:fit (s1.l.length+s2.l.length+4) N) :
  Vv N (Do n1 s1) o1 (Do n2 s2) o2 K=K (Cb (Au n1 s1/Au n2 s2)) (Cb (Au n1 s1%Au n2 s2)) true:=by
 have u:n2=false:=by
  cases n2
  ·rfl
  ·unfold Au at q;simp at q;omega
 subst u
 have V:Au false s2=(val s2.l:Int):=rfl
 rw[V] at q ⊢
 have v:val s2.l≠0:=by omega
 obtain⟨Sq,Sr,a1,a2,a3,a4,a5⟩:=FY (R:=R) (N:=N) (a:=s1.l) (b:=s2.l) (t:=false) (o:=o1) (t':=false) (o':=o2) rfl rfl I n v s
 have hr:val s1.l%val s2.l<val s2.l:=A1j _ (by omega)
 have e:=(Ba I).2
 have X:=(Ba n).2
 rw[ZW];unfold NT
 rw[Jt,Jt,a5,show(!true)=false by rfl,cf,Lo]
 by_cases C:(n1==true)=true∧0<val s1.l%val s2.l
 ·obtain⟨hn,L⟩:=C
  have hn:n1=true:=by simpa using hn
  subst hn
  have hd:0<(Al (val s1.l%val s2.l)).length:=by
   rcases A0q (Al (val s1.l%val s2.l)).length with h | h
   ·have:=Bf.1 h;omega
   ·exact h
  rw[show(true==true)=true by rfl,ct,show(cond true (decide ((((Al (val s1.l%val s2.l)).length:Nat):Int)>0)) false)=true by simp;omega]
  dsimp only
  unfold H8
  have lq:(Al (val s1.l/val s2.l)).length≤s1.l.length:=A1c (Bb (A1r _ _)) e
  have lr:(Al (val s1.l%val s2.l)).length≤s1.l.length:=A1c (Bb (A5k _ _)) e
  obtain⟨S2,b1,S,Y⟩:=gD (R:=R) (N:=N) (a:=Al (val s1.l/val s2.l)) (m:=1) (b:=[1]) (t:=false) (o:=true) (t':=false) (o':=true) rfl rfl (Ad _) y9 (s.le (by simp;omega))
  obtain⟨S3,d1,T,d3⟩:=gE (R:=R) (N:=N) (a:=s2.l) (b:=Al (val s1.l%val s2.l)) (t:=false) (o:=o2) (t':=false) (o':=true) rfl rfl n (Ad _) (s.le (by omega)) (by rw[Ah];omega)
  rw[ct,Bs a1 a2,Agd,Y,Jt,Bs a3 a4,d3,Lo,Lo]
  have e1:val (Al (val s1.l/val s2.l))+val [1]=val s1.l/val s2.l+1:=by rw[Ah];simp[val]
  have e3:val s2.l - val (Al (val s1.l%val s2.l))=val s2.l - val s1.l%val s2.l:=by rw[Ah]
  rw[e1] at S ⊢;rw[e3] at T ⊢
  rw[D1,D1,Bs b1 S,Bs d1 T]
  obtain⟨j,k⟩:=Agi (A:=val s1.l) (B:=val s2.l) (by omega)
  rw[if_neg (by omega)] at j k
  have ei:Au true s1=-(val s1.l:Int):=rfl
  rw[ei,j,k]
  obtain⟨c1,D⟩:=On (z:=-((val s1.l/val s2.l+1:Nat):Int)) (c:=!(true==false)) (m:=val s1.l/val s2.l+1) rfl
  rw[c1]
  have F:Cb (-((val s1.l/val s2.l+1:Nat):Int))=[.bool (decide (-((val s1.l/val s2.l+1:Nat):Int)<0)),.imm (Ag (Al (val s1.l/val s2.l+1))) (Al (val s1.l/val s2.l+1)).length 1 false false]:=by unfold Cb;rw[D];rfl
  have G:Cb ((val s2.l - val s1.l%val s2.l:Nat):Int)=[.bool false,.imm (Ag (Al (val s2.l - val s1.l%val s2.l))) (Al (val s2.l - val s1.l%val s2.l)).length 1 false false]:=by unfold Cb;rw[A0v,decide_eq_false (by omega)];rfl
  rw[F,G];rfl
 ·have U:n1=false∨val s1.l%val s2.l=0:=by
   cases n1
   ·exact .inl rfl
   ·right;simp at C;exact C
  have hc:(cond (n1==true) (H8 N K (Al (val s1.l/val s2.l)).length (Al (val s1.l%val s2.l)).length o1 (Do n1 s1) o2 (Do false s2) (Ag Sq) (Ag Sr) (cond true (decide ((((Al (val s1.l%val s2.l)).length:Nat):Int)>0)) false)) (H8 N K (Al (val s1.l/val s2.l)).length (Al (val s1.l%val s2.l)).length o1 (Do n1 s1) o2 (Do false s2) (Ag Sq) (Ag Sr) false))=H8 N K (Al (val s1.l/val s2.l)).length (Al (val s1.l%val s2.l)).length o1 (Do n1 s1) o2 (Do false s2) (Ag Sq) (Ag Sr) false:=by
   rcases U with h | h
   ·subst h;rfl
   ·rw[h,Cz];cases n1<;>rfl
  refine A12 hc ?_
  unfold H8
  rw[cf,Lo,Lo]
  rw[D1,D1,Bs a1 a2,Bs a3 a4]
  have hq:Au n1 s1/(val s2.l:Int)=(if (!(n1==false)) then -((val s1.l/val s2.l:Nat):Int) else ((val s1.l/val s2.l:Nat):Int))∧Au n1 s1%(val s2.l:Int)=((val s1.l%val s2.l:Nat):Int):=by
   rcases U with h | h
   ·subst h;exact⟨rfl,rfl⟩
   ·cases n1
    ·exact⟨rfl,rfl⟩
    ·obtain⟨j,k⟩:=Agi (A:=val s1.l) (B:=val s2.l) (by omega)
     rw[if_pos h] at j k
     exact⟨j,by rw[h];exact k⟩
  obtain⟨c1,D⟩:=On hq.1
  rw[c1,hq.2]
  have F:Cb (Au n1 s1/(val s2.l:Int))=[.bool (decide (Au n1 s1/(val s2.l:Int)<0)),.imm (Ag (Al (val s1.l/val s2.l))) (Al (val s1.l/val s2.l)).length 1 false false]:=by unfold Cb;rw[D];rfl
  have G:Cb ((val s1.l%val s2.l:Nat):Int)=[.bool false,.imm (Ag (Al (val s1.l%val s2.l))) (Al (val s1.l%val s2.l)).length 1 false false]:=by unfold Cb;rw[A0v,decide_eq_false (by omega)];rfl
  rw[F,G];rfl
theorem Ax3 (z:Int):((beq 0 0)&&((beq (List.length (Cb z)) 2)&&(beq 2 2)))=true:=rfl
theorem Ay1 (z:Int):((beq (List.length (Cb z)) 2)&&(true&&(!false)))=true:=rfl
theorem Ayi (z:Int) (f:Bool→O R):Ud (Cb z) f=f (decide (z<0)):=Lo
theorem Ayj (z:Int) (f:LA→Nat→O R):Aw 1 (drop 1 (Cb z)) f=f (Ag (Al z.natAbs)) (Al z.natAbs).length:=Jt
theorem gM (v:Nat):Cb (v:Int)=Do false (.of (Al v) false false):=by unfold Cb;rw[decide_eq_false (by omega),A0v]
theorem Akk (q:Rat):(Al q.num.natAbs).length≤qm q:=A2j _ _
theorem Akl (q:Rat):(Al q.den).length≤qm q:=A2o _ _
end
end Gx
namespace Gx
open Go Go.Proofs Go.RowKit
noncomputable section
variable {R:Type} (N:Nat)
def HD (s t:Lu):List Lu:=(Lib.splitB ⟨⟨t⟩⟩ 0 (Lib.countB ⟨⟨s⟩⟩ ⟨⟨t⟩⟩) ⟨⟨s⟩⟩).map fun b=>b.data.toList
def Ab3 (l:List Lu):LA:=l.map .str
def No (_N:Nat) (s t:Lu) (r0:Nat→LA→O R):O R:=cond (ble s.length 4294967280&&ble 1 t.length) (r0 (HD s t).length (Ab3 (HD s t))) none
def strings_Split:=(Af (@No R)).1
theorem Mp:@strings_Split R=@No R:=(Af _).2
def Mq (a:LA) (h:Az) (k:KF R):O R :=
 match a,h with
 | [.str s,.str t],[]=>strings_Split N s t fun n c=>k (.own 300000 0 n) [(300000,bQ 1 c)]
 | _,_=>none
def J_:Tw:=⟨fun {R} a h k=>@Mq R N a h k,fun {R} a h k=>by
 unfold Mq
 split
 ·rw[Mp,Mp];unfold No;cases (ble _ 4294967280&&ble 1 _)<;>rfl
 ·rfl⟩
end
theorem kU (N:Nat):qx Tryz.prog 43 (J_ N):=by
 intro k h z h' A
 have hh:Mq N k h (fun v h'=>some (v,h'))=some (z,h'):=A
 unfold Mq at hh
 split at hh
 ·rename_i s t
  rw[Mp,No] at hh
  obtain⟨B,C⟩:=uc hh
  simp only[A0a,A58] at B
  simp only[A2z,A33] at C
  obtain⟨rfl,rfl⟩:=C
  have q:=Lib.splitB_all ⟨⟨t⟩⟩ (show 1≤t.length from B.2) 0 _ ⟨⟨s⟩⟩ rfl
  refine Aub (n:=(HD s t).length) (sz:=1) (c:=Ab3 (HD s t)) (by simp[Ab3]) fun J β w vs G hr=>?_
  obtain⟨u,v,rfl,e1,D⟩:=rF hr
  simp only[Rep] at e1 D;subst e1 D
  obtain⟨m,I⟩:=G.int (g:=0) (by decide)
  refine(Any.strings_Split Tryz.lays146 (by kernel_rfl) ⟨⟨s⟩⟩ ⟨⟨t⟩⟩ m w (show s.length<4294967281 by omega) I (show 1≤t.length from B.2)).mono ?_
  rintro e w' ⟨rfl,rfl⟩
  refine⟨_,_,?_,rfl,?_,?_⟩
  ·rw[show(HD s t).length=Lib.countB ⟨⟨s⟩⟩ ⟨⟨t⟩⟩+1 by unfold HD;rw[A03,q]]
  ·simp[HD]
  ·rw[Bv]
   intro j x F
   simp only[Ab3,HD,A25,A3c,A2a] at F
   obtain⟨b,L,rfl⟩:=F
   exact⟨.string b,by simp[L],by rw[Function.comp,RepC]⟩
 ·cases hh
noncomputable def ou (N:Nat):=Arr (J_ N) (kU N)
end Gx
namespace Gx
open Go Go.Proofs
set_option maxRecDepth 100000
noncomputable section
variable {R:Type} (N:Nat)
def OC (a:LA) (b:Bool) (c d:Int) (r0:Bool→O R):O R :=
 (cond (ble 8 (a.length)) (E' N (a.take 8) b d c fun e f=>r0 (decide ((e:Int)>0))) none)
def F_:=(Af (@OC R)).1
theorem QH:@F_ R=@OC R:=(Af _).2
def wl:=Bj N 58 [wI N] Bg (fun
 | [(.pagg a b),(.int .i64 c),(.int .i64 d)],[]=>some fun _ k=>F_ N a b c d (A8 k)
 | _,_=>none) fun _ _=>by split;intro R F;dsimp only;rw[QH];kernel_rfl;trivial
def GA (k0:Nat→Int→Int→LA→O R) (r0:Nat→LA→O R) (c:LA) (b:Nat) (f g d:Bool) (a:LA) (k1:Nat→Int→Int→Int→LA→O R) (h:Nat) (i j l:Int) (m:LA):O R :=
 (Aw 4 (a.drop 7) fun y s=>cond (decide (l<(s:Int))) (cond (ble 8 (a.length)) (F_ N (a.take 8) d j l fun t=>cond (t==true) (cond ((cond true (decide (i<(b:Int))) false)==true) (cond (Ae i b) (As .i64 (c.drop ((i.toNat)*1)) fun u=>cond (cond true ((Int.tmod u 2)==0) false) (cond ((ble (h+1) 140737488355328)&&(ble ((h+1)*16) 140737488355328)) (k1 (h+1) (wrap .i64 (i+1)) j (wrap .i64 (l+1)) ((m.take (h*2))++[(.int .i64 j),(.int .i64 l)])) none) (k1 h (wrap .i64 (i+1)) j (wrap .i64 (l+1)) m)) none) (k1 h (wrap .i64 (i+1)) j (wrap .i64 (l+1)) m)) (k1 h (wrap .i64 (i+1)) j (wrap .i64 (l+1)) m)) none) (k0 h i (wrap .i64 (j+1)) m))
def Dt (k0:Nat→Int→Int→LA→O R) (r0:Nat→LA→O R) (c:LA) (b:Nat) (f g d:Bool) (a:LA):Nat→Nat→Int→Int→Int→LA→O R
 | 0,_,_,_,_,_=>none
 | n+1,h,i,j,l,m=>GA N k0 r0 c b f g d a (Dt k0 r0 c b f g d a n) h i j l m
def GB (N:Nat) (r0:Nat→LA→O R) (c:LA) (b:Nat) (f g d:Bool) (a:LA) (k0:Nat→Int→Int→LA→O R) (q1:Nat→Int→Int→Int→LA→O R) (o:Nat) (r p:Int) (q:LA):O R :=
 (As .i64 a fun v=>cond (decide (p<v)) (q1 o r p 0 q) (r0 o q))
def K8 (r0:Nat→LA→O R) (c:LA) (b:Nat) (f g d:Bool) (a:LA):Nat→Nat→Int→Int→LA→O R
 | 0,_,_,_,_=>none
 | n+1,o,r,p,q=>GB N r0 c b f g d a (K8 r0 c b f g d a n) (Dt N (K8 r0 c b f g d a n) r0 c b f g d a N) o r p q
def gN (N:Nat) (r0:Nat→LA→O R) (q0:Nat→Int→Int→LA→O R) (a:LA) (d:Bool) (c:LA) (b:Nat) (f g:Bool):O R :=
 (q0 0 0 0 [])
def gO:=(Af fun N a d c b f g r0=>gN (R:=R) N r0 (K8 N r0 c b f g d a N) a d c b f g).1
theorem nN (a d c b f g r0):(@gO R N a d c b f g r0)=(gN N r0 (K8 N r0 c b f g d a N) a d c b f g):=by rw[gO,(Af _).2]
def tV:Hints:={ H:=(hK 3 (hS (hK 1 (hS (hP [1,2,5,6,7] (hK 1 (hS (hS (hK 1 (hS (hP [1,2,5,6,7,8] hL) hL)) hL) hL))) hL)) hL)),nils:=[(4,2),(5,2)],modes:=[(2,2)] }
def yb:N0:=[wl N]
def tW (F:KF R):=Hh Tryz.f26 tV (yb N) [] N F
def Vw (F:KF R):Nat→LA→O R:=(fun w x=>F (.own 300000 0 w) (hq [(bQ 2 x)]))
def Akm (c:LA) (b:Nat) (f g d:Bool) (a:LA) (K:St→O R):=fun h i j l m=>K ⟨[(1,(.imm c b 1 f g)),(2,(op 0)),(5,(.own 300001 0 h)),(6,(iv i)),(7,(iv j)),(8,(iv l))],(hq [(bP d 0 a),(bQ 2 m)])⟩
def dD (c:LA) (b:Nat) (f g d:Bool) (a:LA) (K:St→O R):=fun o r p q=>K ⟨[(1,(.imm c b 1 f g)),(2,(op 0)),(5,(.own 300001 0 o)),(6,(iv r)),(7,(iv p))],(hq [(bP d 0 a),(bQ 2 q)])⟩
theorem wm (Q0) (F:KF R) (c b f g d a):∀ n,Akm c b f g d a (Ao (tW N F (pz 22298884) [Q0]) n)=(Dt N (dD c b f g d a Q0) (Vw F) c b f g d a n):=D3 fun n e=>(Bn (GA N (dD c b f g d a Q0) (Vw F) c b f g d a) e:_)
theorem wo (F:KF R) (c b f g d a):∀ n,dD c b f g d a (Ao (tW N F (pz 5444) []) n)=(K8 N (Vw F) c b f g d a n):=D3 fun n e=>(Yq (GB N (Vw F) c b f g d a) e ((lW ..).trans ((wm ..).trans (vO (Dt _ · _ _ _ _ _ _ _ _) e))):_)
def Aps:=Bj N 26 (yb N) tV (fun
 | [(.pagg a d),(.imm c b 1 f g)],[]=>some fun _ k=>gO N a d c b f g (Vw k)
 | _,_=>none) fun _ _=>by split;intro R F;exact(Bn (gN N (Vw F) · _ _ _ _ _ _) ((lW ..).trans (wo ..)):_).trans (nN ..).symm;trivial
def Np (k0:Nat→Int→LA→Int→O R) (r0:Nat→LA→O R) (g:Nat) (h:Int) (f:Bool) (d i a:LA) (b:Nat) (c:Bool) (l:Int) (k1:Int→Int→Nat→LA→O R) (m q:Int) (j:Nat) (o:LA):O R :=
 (Aw 22 (d.drop 4) fun al u=>cond (decide (m<(u:Int))) (Ac N 2 a b false c q fun v s=>cond ((v==1)==false) (cond (((j:Int)==0)==true) (Aw 22 (d.drop 4) fun am w=>cond (cond false true (cond true (m==(wrap .i64 ((w:Int) - 1))) false)) (cond ((ble (j+1) 140737488355328)&&(ble ((j+1)*8) 140737488355328)) (k1 (wrap .i64 (m+1)) s (j+1) ((o.take (j*1))++[(.int .i64 m)])) none) (k1 (wrap .i64 (m+1)) s j o)) (k1 (wrap .i64 (m+1)) s j o)) (cond ((ble (j+1) 140737488355328)&&(ble ((j+1)*8) 140737488355328)) (k1 (wrap .i64 (m+1)) s (j+1) ((o.take (j*1))++[(.int .i64 m)])) none)) (Ac N (j:Int) a b false c q fun x y=>cond ((ble (g+1) 140737488355328)&&(ble ((g+1)*64) 140737488355328)) (k0 (g+1) (wrap .i64 (h - 1)) ((i.take (g*6))++[(.int .i64 0),(.int .i64 l),(.imm (o.take (j*1)) j 1 false false),(.int .i64 (wrap .i64 (1+x))),(.int .i64 0),(.int .i64 0)]) y) none))
def Fa (k0:Nat→Int→LA→Int→O R) (r0:Nat→LA→O R) (g:Nat) (h:Int) (f:Bool) (d i a:LA) (b:Nat) (c:Bool) (l:Int):Nat→Int→Int→Nat→LA→O R
 | 0,_,_,_,_=>none
 | n+1,m,q,j,o=>Np N k0 r0 g h f d i a b c l (Fa k0 r0 g h f d i a b c l n) m q j o
def Yc (r0:Nat→LA→O R) (f:Bool) (d a:LA) (b:Nat) (c:Bool) (k0:Nat→Int→LA→Int→O R) (q1:Nat→Int→LA→Int→Int→Int→Nat→LA→O R) (g:Nat) (h:Int) (i:LA) (r:Int):O R :=
 (cond (decide (h>0)) (As .i64 d fun z=>Ac N z a b false c r fun l aa=>Ac N 2 a b false c aa fun ab t=>cond (ab==0) (Aw 22 (d.drop 4) fun an ac=>Ac N (ac:Int) a b false c t fun ad ae=>Ac N (wrap .i64 (l+1)) a b false c ae fun af ag=>cond ((ble (g+1) 140737488355328)&&(ble ((g+1)*64) 140737488355328)) (k0 (g+1) (wrap .i64 (h - 1)) ((i.take (g*6))++[(.int .i64 1),(.int .i64 l),(.imm [] 0 1 false false),(.int .i64 0),(.int .i64 ad),(.int .i64 af)]) ag) none) (q1 g h i l 0 t 0 [])) (r0 g i))
def Fb (r0:Nat→LA→O R) (f:Bool) (d a:LA) (b:Nat) (c:Bool):Nat→Nat→Int→LA→Int→O R
 | 0,_,_,_,_=>none
 | n+1,g,h,i,r=>Yc N r0 f d a b c (Fb r0 f d a b c n) (fun g h i l=>Fa N (Fb r0 f d a b c n) r0 g h f d i a b c l N) g h i r
def gP (r0:Nat→LA→O R) (q0:Nat→Int→LA→Int→O R) (d:LA) (f:Bool) (a:LA) (b:Nat) (p c:Bool):O R :=
 (rL N a b false c (Ac N 4 a b false c 0 fun ah ai=>q0 0 ah [] ai))
def gQ:=(Af fun N d f a b p c r0=>gP (R:=R) N r0 (Fb N r0 f d a b c N) d f a b p c).1
theorem nO (d f a b p c r0):(@gQ R N d f a b p c r0)=(gP N r0 (Fb N r0 f d a b c N) d f a b p c):=by rw[gQ,(Af _).2]
def tX:Hints:={ H:=(hK 3 (hS (hK 1 (hS (hP [2,5,6,7] (hK 1 (hS (hS (hK 3 (hS (hK 1 (hS (hP [2,5,6,7,9,10] hL) hL)) hL)) hL) hL))) hL)) hL)),nils:=[(4,6),(5,6)],modes:=[(2,6)],cob:=[37,41] }
def yc:N0:=[rM N,Ec N]
def tY (F:KF R):=Hh Tryz.f27 tX (yc N) [] N F
def Vx (F:KF R):Nat→LA→O R:=(fun aj ak=>F (.own 300000 0 aj) (hq [(bQ 6 ak)]))
def Akn (g:Nat) (h:Int) (f:Bool) (d i a:LA) (b:Nat) (c:Bool) (l:Int) (K:St→O R):=fun m q j o=>K ⟨[(2,(op 0)),(5,(.own 300001 0 g)),(6,(op 2)),(7,(iv h)),(9,(op 3)),(10,(iv m))],(hq [(bP f 0 d),(bQ 6 i),(bN 0 [(.imm a b 1 false c),(iv q)]),(bN 0 [(iv 0),(iv l),(.own 300004 0 j),(iv 0),(iv 0),(iv 0)]),(bQ 1 o)])⟩
def dE (f:Bool) (d a:LA) (b:Nat) (c:Bool) (K:St→O R):=fun g h i r=>K ⟨[(2,(op 0)),(5,(.own 300001 0 g)),(6,(op 2)),(7,(iv h))],(hq [(bP f 0 d),(bQ 6 i),(bN 0 [(.imm a b 1 false c),(iv r)])])⟩
theorem wq (Q0) (F:KF R) (g h f d i a b c l):∀ n,Akn g h f d i a b c l (Ao (tY N F (pz 5708514628) [Q0]) n)=(Fa N (dE f d a b c Q0) (Vx F) g h f d i a b c l n):=D3 fun n e=>(Bn (Np N (dE f d a b c Q0) (Vx F) g h f d i a b c l) e:_)
theorem wt (F:KF R) (f d a b c):∀ n,dE f d a b c (Ao (tY N F (pz 5444) []) n)=(Fb N (Vx F) f d a b c n):=D3 fun n e=>(Yq (Yc N (Vx F) f d a b c) e (Ah5 fun g h i l=>(lW ..).trans ((wq ..).trans (vO (Fa _ · _ _ _ _ _ _ _ _ _ _ _) e))):_)
def Apt:=Bj N 27 (yc N) tX (fun
 | [(.pagg d f),(.imm a b 1 p c)],[]=>some fun _ k=>gQ N d f a b p c (Vx k)
 | _,_=>none) fun _ _=>by split;intro R F;exact(Bn (gP N (Vx F) · _ _ _ _ _ _) ((lW ..).trans (wt ..)):_).trans (nO ..).symm;trivial
def Oo (a:LA) (b:Nat) (c d:Bool) (e:Int) (r0:LA→Int→O R):O R :=
 (Ac N 12 a b c d e fun f i=>cond (decide ((wrap .i64 (f - 6))≥0)) (Ac N 3 a b c d i fun j l=>js N (wrap .i64 ((wrap .i64 (f - 6))+1)) (wrap .i64 (1+j)) fun g=>cond ((beq 0 0)&&((beq (g.length) 3)&&(beq 3 3))) (cond (ble 3 (g.length)) (r0 (g.take 3) l) none) none) (Ac N 3 a b c d i fun m n=>js N (wrap .i64 (f - 6)) (wrap .i64 (1+m)) fun h=>cond ((beq 0 0)&&((beq (h.length) 3)&&(beq 3 3))) (cond (ble 3 (h.length)) (r0 (h.take 3) n) none) none))
def Qk:=(Af (@Oo R)).1
theorem Pc:@Qk R=@Oo R:=(Af _).2
def gR:=Bj N 29 [Ec N,Afn N] Uh (fun
 | [(.optr 100000 0)],[(100000,⟨false,false,false,false,0,[(.imm a b 1 c d),(.int .i64 e)],false,none⟩)]=>some fun _ k=>Qk N a b c d e (IH a b c d k)
 | _,_=>none) fun _ _=>by split;intro R F;dsimp only;rw[Pc];kernel_rfl;trivial
def Rb (N:Nat) (k0:Int→Int→Nat→LA→O R) (r0:LA→O R) (f:Bool) (d a:LA) (b:Nat) (c:Bool) (g h:Nat) (i j:LA) (ar au:Int) (p:Nat) (an av aw ax:Int) (ae:Nat) (ay az:LA):O R :=
 (cond (an==0) (cond ((ble (p+1) 140737488355328)&&(ble ((p+1)*56) 140737488355328)) (k0 (wrap .i64 ((wrap .i64 (ar - 1))+3)) au (p+1) ((ay.take (p*5))++[(.int .i64 an),(.int .i64 av),(.int .i64 aw),(.int .i64 ax),(.imm (az.take (ae*4)) ae 4 false false)])) none) (cond ((ble (p+1) 140737488355328)&&(ble ((p+1)*56) 140737488355328)) (k0 (wrap .i64 (ar - 1)) au (p+1) ((ay.take (p*5))++[(.int .i64 an),(.int .i64 av),(.int .i64 aw),(.int .i64 ax),(.imm (az.take (ae*4)) ae 4 false false)])) none))
def GC (k0:Int→Int→Nat→LA→O R) (r0:LA→O R) (f:Bool) (d a:LA) (b:Nat) (c:Bool) (g h:Nat) (i j:LA) (k5:Int→Int→Int→Int→Nat→Int→Nat→LA→LA→O R) (q4:Int→Int→Nat→Int→Int→Int→Int→Nat→LA→LA→O R) (af w ag ah:Int) (ai:Nat) (aj:Int) (r:Nat) (ak al:LA):O R :=
 (cond (decide (ag>0)) (Ac N 9 a b false c ah fun bb bi=>Qk N a b false c bi fun bc bj=>cond ((beq (bc.length) 3)&&(ble 4 4)) (cond ((beq ((setCells [(.int .i64 (wrap .i64 (w+(wrap .i64 (1+bb))))),(.bool false),.nsl,.nsl] 1 bc).length) 4)&&(ble 4 4)) (cond ((ble (r+1) 140737488355328)&&(ble ((r+1)*64) 140737488355328)) (k5 af (wrap .i64 (w+(wrap .i64 (1+bb)))) (wrap .i64 (ag - 1)) bj ai aj (r+1) ak ((al.take (r*4))++((setCells [(.int .i64 0),(.bool false),.nsl,.nsl] 0 (setCells [(.int .i64 (wrap .i64 (w+(wrap .i64 (1+bb))))),(.bool false),.nsl,.nsl] 1 bc)).take 4))) none) none) none) (q4 af ah ai aj 0 0 0 r ak al))
def Vy (k0:Int→Int→Nat→LA→O R) (r0:LA→O R) (f:Bool) (d a:LA) (b:Nat) (c:Bool) (g h:Nat) (i j:LA):Nat→Int→Int→Int→Int→Nat→Int→Nat→LA→LA→O R
 | 0,_,_,_,_,_,_,_,_,_=>none
 | n+1,af,w,ag,ah,ai,aj,r,ak,al=>GC N k0 r0 f d a b c g h i j (Vy k0 r0 f d a b c g h i j n) (Rb N k0 r0 f d a b c g h i j) af w ag ah ai aj r ak al
def Rt (k0:Int→Int→Nat→LA→O R) (r0:LA→O R) (f:Bool) (d a:LA) (b:Nat) (c:Bool) (l:Int) (g h:Nat) (i j:LA) (q4:Int→Int→Nat→Int→Int→Int→Int→Nat→LA→LA→O R) (q5:Int→Int→Int→Int→Nat→Int→Nat→LA→LA→O R) (s:Int) (ao:Bool) (t:Nat) (m:Int) (u:LA):O R :=
 (cond ao (Aw 22 (d.drop 4) fun bu bk=>Ac N (bk:Int) a b false c l fun ba bd=>cond (m != 3) (As .i64 d fun bl=>Ac N bl a b false c bd fun bf bg=>cond (m==4) (Aw 22 (d.drop 4) fun bv bm=>Ac N (bm:Int) a b false c bg fun bn bo=>q4 s bo t m ba bf bn 0 u []) (q4 s bg t m ba bf 0 0 u [])) (cond (m==4) (Aw 22 (d.drop 4) fun bw bp=>Ac N (bp:Int) a b false c bd fun bq br=>q4 s br t m ba 0 bq 0 u []) (q4 s bd t m ba 0 0 0 u []))) (Ac N 4 a b false c l fun bs bt=>q5 s (-1) bs bt t m 0 u []))
def Nq (k0:Int→Int→Nat→LA→O R) (r0:LA→O R) (f:Bool) (d a:LA) (b:Nat) (c:Bool) (l:Int) (g h:Nat) (i j:LA) (s:Int) (ao:Bool) (t:Nat) (m:Int) (u:LA):O R:=(Rt N k0 r0 f d a b c l g h i j (Rb N k0 r0 f d a b c g h i j) (Vy N k0 r0 f d a b c g h i j N) s ao t m u)
def UF (N:Nat) (k0:Int→Int→Nat→LA→O R) (r0:LA→O R) (f:Bool) (d a:LA) (b:Nat) (c:Bool) (l:Int) (g h:Nat) (i j:LA) (q3:Int→Bool→Nat→Int→LA→O R) (x:Int) (y:Nat) (o:Int) (z:LA):O R :=
 (cond (o==0) (q3 x (o==0) y o z) (cond (o==3) (q3 x (o==3) y o z) (q3 x (o==4) y o z)))
def Vz (k0:Int→Int→Nat→LA→O R) (r0:LA→O R) (f:Bool) (d a:LA) (b:Nat) (c:Bool) (l:Int) (g h:Nat) (i j:LA) (x:Int) (y:Nat) (o:Int) (z:LA):O R:=(UF N k0 r0 f d a b c l g h i j (Nq N k0 r0 f d a b c l g h i j) x y o z)
def Yd (k0:Int→Int→Nat→LA→O R) (r0:LA→O R) (f:Bool) (d a:LA) (b:Nat) (c:Bool) (g h:Nat) (i j:LA) (q2:Int→Int→Nat→Int→LA→O R) (aa ap:Int) (v:Nat) (ab:LA):O R :=
 (Ac N 7 a b false c ap fun bh l=>cond (Ae bh 7) (As .i64 (drop (0+((bh.toNat)*1)) [(.int .i64 1),(.int .i64 0),(.int .i64 2),(.int .i64 0),(.int .i64 3),(.int .i64 4),(.int .i64 1)]) fun be=>cond ((decide ((v:Int)>15))==true) (cond (cond true (be==0) false) (q2 l aa v 1 ab) (q2 l aa v be ab)) (q2 l aa v be ab)) none)
def Nr (k0:Int→Int→Nat→LA→O R) (r0:LA→O R) (f:Bool) (d a:LA) (b:Nat) (c:Bool) (g h:Nat) (i j:LA) (aa ap:Int) (v:Nat) (ab:LA):O R:=(Yd N k0 r0 f d a b c g h i j (fun l=>Vz N k0 r0 f d a b c l g h i j) aa ap v ab)
def Ye (N:Nat) (r0:LA→O R) (f:Bool) (d a:LA) (b:Nat) (c:Bool) (g h:Nat) (i j:LA) (k0:Int→Int→Nat→LA→O R) (q1:Int→Int→Nat→LA→O R) (am aq:Int) (q:Nat) (ac:LA):O R :=
 (cond ((decide (am>0))==true) (cond (cond true (decide ((q:Int)<30)) false) (q1 am aq q ac) (r0 [(.imm (i.take (g*2)) g 2 false false),(.imm (j.take (h*6)) h 6 false false),(.imm (ac.take (q*5)) q 5 false false)])) (r0 [(.imm (i.take (g*2)) g 2 false false),(.imm (j.take (h*6)) h 6 false false),(.imm (ac.take (q*5)) q 5 false false)]))
def Iz (r0:LA→O R) (f:Bool) (d a:LA) (b:Nat) (c:Bool) (g h:Nat) (i j:LA):Nat→Int→Int→Nat→LA→O R
 | 0,_,_,_,_=>none
 | n+1,am,aq,q,ac=>Ye N r0 f d a b c g h i j (Iz r0 f d a b c g h i j n) (Nr N (Iz r0 f d a b c g h i j n) r0 f d a b c g h i j) am aq q ac
def gS (r0:LA→O R) (q0:Nat→Nat→LA→LA→Int→Int→Nat→LA→O R) (d:LA) (f:Bool) (a:LA) (b:Nat) (ad c:Bool):O R :=
 (rL N a b false c (cond (ble 8 (d.length)) (gO N (d.take 8) f a b false c fun g i=>cond (ble 8 (d.length)) (gQ N (d.take 8) f a b false c fun h j=>q0 g h i j 1 0 0 []) none) none))
def gT:=(Af fun N d f a b ad c r0=>gS (R:=R) N r0 (fun g h i j=>Iz N r0 f d a b c g h i j N) d f a b ad c).1
theorem nP (d f a b ad c r0):(@gT R N d f a b ad c r0)=(gS N r0 (fun g h i j=>Iz N r0 f d a b c g h i j N) d f a b ad c):=by rw[gT,(Af _).2]
def tZ:Hints:={ H:=(hK 4 (hS (hS (hP [2,4,5,6,7] (hJ [2,4,5,6,7] hL (hS (hK 1 (hJ [2,4,5,6,7,8] hL (hJ [2,4,5,6,7,8] (hK 1 (hS (hJ [2,4,5,6,7,8,66] hL (hK 3 (hS (hP [2,4,5,6,7,8,9,10] hL) hL))) hL)) hL))) hL))) hL) hL)),modes:=[(3,0)],cob:=[19,33] }
def yd:N0:=[rM N,Aps N,Apt N,Ec N,gR N]
def V0 (F:KF R):=Hh Tryz.f9 tZ (yd N) [] N F
def Ako (f:Bool) (d a:LA) (b:Nat) (c:Bool) (g h:Nat) (i j:LA) (K:St→O R):=fun ar au p an av aw ax ae ay az=>K ⟨[(2,(op 0)),(4,(op 1)),(5,(op 2)),(6,(op 3)),(7,(iv ar)),(8,(op 4))],(hq [(bP f 0 d),(bN 0 [.nsl,.nsl,.nsl]),(bN 0 [(.imm a b 1 false c),(iv au)]),(bN 0 [(.own 300005 0 g),(.own 300006 0 h),(.own 300007 0 p)]),(bN 0 [(iv an),(iv av),(iv aw),(iv ax),(.own 300008 0 ae)]),(bQ 2 i),(bQ 6 j),(bQ 5 ay),(bQ 4 az)])⟩
def Akp (f:Bool) (d a:LA) (b:Nat) (c:Bool) (g h:Nat) (i j:LA) (K:St→O R):=fun af w ag ah ai aj r ak al=>K ⟨[(2,(op 0)),(4,(op 1)),(5,(op 2)),(6,(op 3)),(7,(iv af)),(8,(op 4)),(9,(iv w)),(10,(iv ag))],(hq [(bP f 0 d),(bN 0 [.nsl,.nsl,.nsl]),(bN 0 [(.imm a b 1 false c),(iv ah)]),(bN 0 [(.own 300005 0 g),(.own 300006 0 h),(.own 300007 0 ai)]),(bN 0 [(iv aj),(iv 0),(iv 0),(iv 0),(.own 300008 0 r)]),(bQ 2 i),(bQ 6 j),(bQ 5 ak),(bQ 4 al)])⟩
def Akq (f:Bool) (d a:LA) (b:Nat) (c:Bool) (l:Int) (g h:Nat) (i j:LA) (K:St→O R):=fun s ao t m u=>K ⟨[(2,(op 0)),(4,(op 1)),(5,(op 2)),(6,(op 3)),(7,(iv s)),(8,(op 4)),(66,(.bool ao))],(hq [(bP f 0 d),(bN 0 [.nsl,.nsl,.nsl]),(bN 0 [(.imm a b 1 false c),(iv l)]),(bN 0 [(.own 300005 0 g),(.own 300006 0 h),(.own 300007 0 t)]),(bN 0 [(iv m),(iv 0),(iv 0),(iv 0),(.own 300008 0 0)]),(bQ 2 i),(bQ 6 j),(bQ 5 u),(bQ 4 [])])⟩
def Akr (f:Bool) (d a:LA) (b:Nat) (c:Bool) (l:Int) (g h:Nat) (i j:LA) (K:St→O R):=fun x y o z=>K ⟨[(2,(op 0)),(4,(op 1)),(5,(op 2)),(6,(op 3)),(7,(iv x)),(8,(op 4))],(hq [(bP f 0 d),(bN 0 [.nsl,.nsl,.nsl]),(bN 0 [(.imm a b 1 false c),(iv l)]),(bN 0 [(.own 300005 0 g),(.own 300006 0 h),(.own 300007 0 y)]),(bN 0 [(iv o),(iv 0),(iv 0),(iv 0),(.own 300008 0 0)]),(bQ 2 i),(bQ 6 j),(bQ 5 z),(bQ 4 [])])⟩
def Aks (f:Bool) (d a:LA) (b:Nat) (c:Bool) (g h:Nat) (i j:LA) (K:St→O R):=fun aa ap v ab=>K ⟨[(2,(op 0)),(4,(op 1)),(5,(op 2)),(6,(op 3)),(7,(iv aa))],(hq [(bP f 0 d),(bN 0 [.nsl,.nsl,.nsl]),(bN 0 [(.imm a b 1 false c),(iv ap)]),(bN 0 [(.own 300004 0 g),(.own 300005 0 h),(.own 300006 0 v)]),(bQ 2 i),(bQ 6 j),(bQ 5 ab)])⟩
def I0 (f:Bool) (d a:LA) (b:Nat) (c:Bool) (g h:Nat) (i j:LA) (K:St→O R):=fun am aq q ac=>K ⟨[(2,(op 0)),(4,(op 1)),(5,(op 2)),(6,(op 3)),(7,(iv am))],(hq [(bP f 0 d),(bN 0 [.nsl,.nsl,.nsl]),(bN 0 [(.imm a b 1 false c),(iv aq)]),(bN 0 [(.own 300004 0 g),(.own 300005 0 h),(.own 300006 0 q)]),(bQ 2 i),(bQ 6 j),(bQ 5 ac)])⟩
theorem ZZ (Q0) (F:KF R) (f d a b c g h i j):Ako f d a b c g h i j (A0 (V0 N F (pz 22348053) [Q0]))=(Rb N (I0 f d a b c g h i j Q0) (Da F) f d a b c g h i j):=by kernel_rfl
theorem wu (Q0) (F:KF R) (f d a b c g h i j):∀ n,Akp f d a b c g h i j (Ao (V0 N F (pz 366150488404) [Q0]) n)=(Vy N (I0 f d a b c g h i j Q0) (Da F) f d a b c g h i j n):=D3 fun n e=>(Yq (GC N (I0 f d a b c g h i j Q0) (Da F) f d a b c g h i j) e ((jW ..).trans (ZZ ..)):_)
theorem wv (Q0) (F:KF R) (f d a b c l g h i j):Akq f d a b c l g h i j (A0 (V0 N F (pz 1430275345) [Q0]))=(Nq N (I0 f d a b c g h i j Q0) (Da F) f d a b c l g h i j):=(Yq (Rt N (I0 f d a b c g h i j Q0) (Da F) f d a b c l g h i j) ((jW ..).trans (ZZ ..)) ((lW ..).trans (wu ..)):_)
theorem ww (Q0) (F:KF R) (f d a b c l g h i j):Akr f d a b c l g h i j (A0 (V0 N F (pz 5587013) [Q0]))=(Vz N (I0 f d a b c g h i j Q0) (Da F) f d a b c l g h i j):=(Bn (UF N (I0 f d a b c g h i j Q0) (Da F) f d a b c l g h i j) ((jW ..).trans (wv ..)):_)
theorem wx (Q0) (F:KF R) (f d a b c g h i j):Aks f d a b c g h i j (A0 (V0 N F (pz 87297) [Q0]))=(Nr N (I0 f d a b c g h i j Q0) (Da F) f d a b c g h i j):=(Bn (Yd N (I0 f d a b c g h i j Q0) (Da F) f d a b c g h i j) (Ai5 fun l=>(jW ..).trans (ww ..)):_)
theorem wy (F:KF R) (f d a b c g h i j):∀ n,I0 f d a b c g h i j (Ao (V0 N F (pz 5456) []) n)=(Iz N (Da F) f d a b c g h i j n):=D3 fun n e=>(Yq (Ye N (Da F) f d a b c g h i j) e ((jW ..).trans ((wx ..).trans (vO (Nr _ · _ _ _ _ _ _ _ _ _ _) e))):_)
def Apu:=Bj N 9 (yd N) tZ (fun
 | [(.pagg d f),(.imm a b 1 ad c)],[]=>some fun _ k=>gT N d f a b ad c (Da k)
 | _,_=>none) fun _ _=>by split;intro R F;exact(Bn (gS N (Da F) · _ _ _ _ _ _) (Ah5 fun g h i j=>(lW ..).trans (wy ..)):_).trans (nP ..).symm;trivial
def dF (N:Nat) (a:Int) (r0:Bool→O R):O R :=
 (cond ((decide (a≥0))==true) (r0 (cond true (decide (a≤1048576)) false)) (r0 false))
def L5:=(Af (@dF R)).1
theorem Z_:@L5 R=@dF R:=(Af _).2
def Yf:=Bj N 73 [] Bg (fun
 | [(.int .i64 a)],[]=>some fun _ k=>L5 N a (A8 k)
 | _,_=>none) fun _ _=>by split;intro R F;dsimp only;rw[Z_];kernel_rfl;trivial
def kV (b:Bool) (a:Int) (r0:Bool→O R):O R :=
 (cond (!b) (r0 (a==0)) (L5 N a fun c=>r0 c))
def To:=(Af (@kV R)).1
theorem gU:@To R=@kV R:=(Af _).2
def t6:=Bj N 114 [Yf N] Bg (fun
 | [(.bool b),(.int .i64 a)],[]=>some fun _ k=>To N b a (A8 k)
 | _,_=>none) fun _ _=>by split;intro R F;dsimp only;rw[gU];kernel_rfl;trivial
def Ql (r0:Bool→O R) (c:Bool) (f:LA) (d:Nat) (b:Bool) (a:LA) (k2:Int→Int→O R) (h g:Int):O R :=
 (cond (decide (g<h)) (cond (Ae g d) (As .i64 (f.drop ((g.toNat)*1)) fun j=>L5 N j fun l=>cond (!l) (r0 false) (k2 h (wrap .i64 (g+1)))) none) (As .i64 (a.drop 1) fun m=>L5 N m fun o=>cond (o==true) (As .i64 (a.drop 3) fun p=>To N c p fun q=>cond ((cond true q false)==true) (As .i64 (a.drop 4) fun r=>To N (!c) r fun s=>cond ((cond true s false)==true) (As .i64 (a.drop 5) fun t=>To N (!c) t fun u=>r0 (cond true u false)) (r0 false)) (r0 false)) (r0 false)))
def Jn (r0:Bool→O R) (c:Bool) (f:LA) (d:Nat) (b:Bool) (a:LA):Nat→Int→Int→O R
 | 0,_,_=>none
 | n+1,h,g=>Ql N r0 c f d b a (Jn r0 c f d b a n) h g
def Yy (N:Nat) (r0:Bool→O R) (b:Bool) (a:LA) (q2:Bool→LA→Nat→Int→Int→O R) (c:Bool):O R :=
 (Aw 1 (a.drop 2) fun f d=>q2 c f d (d:Int) 0)
def Tp (r0:Bool→O R) (b:Bool) (a:LA) (c:Bool):O R:=(Yy N r0 b a (fun c f d=>Jn N r0 c f d b a N) c)
def Qm (N:Nat) (r0:Bool→O R) (b:Bool) (a:LA) (q1:Bool→O R):O R :=
 (As .i64 a fun i=>cond ((!(i==0))==true) (Aw 1 (a.drop 2) fun y v=>cond (cond true (decide ((v:Int)>0)) false) (r0 false) (q1 (i==0))) (q1 (i==0)))
def Ns (r0:Bool→O R) (b:Bool) (a:LA):O R:=(Qm N r0 b a (Tp N r0 b a))
def Oq (N:Nat) (r0:Bool→O R) (q0:O R) (a:LA) (b:Bool):O R :=
 (As .i64 a fun w=>cond ((w != 0)==true) (As .i64 a fun x=>cond (cond true (x != 1) false) (r0 false) q0) q0)
def Ru:=(Af fun N a b r0=>Oq (R:=R) N r0 (Ns N r0 b a) a b).1
theorem Qn (a b r0):(@Ru R N a b r0)=(Oq N r0 (Ns N r0 b a) a b):=by rw[Ru,(Af _).2]
def UG:Hints:={ H:=(hK 1 (hJ [1] hL (hK 1 (hJ [1,3] hL (hS (hK 1 (hS (hP [1,3,26,27,28] hL) hL)) hL))))) }
def Z':N0:=[Yf N,t6 N]
def DO (F:KF R):=Hh Tryz.f74 UG (Z' N) [] N F
def t7 (c:Bool) (f:LA) (d:Nat) (b:Bool) (a:LA) (K:St→O R):=fun h g=>K ⟨[(1,(op 0)),(3,(.bool c)),(26,(.imm f d 1 false b)),(27,(iv h)),(28,(iv g))],(hq [(bP b 0 a)])⟩
def t8 (b:Bool) (a:LA) (K:St→O R):=fun c=>K ⟨[(1,(op 0)),(3,(.bool c))],(hq [(bP b 0 a)])⟩
def t_ (b:Bool) (a:LA) (K:St→O R):=K ⟨[(1,(op 0))],(hq [(bP b 0 a)])⟩
theorem gV (F:KF R) (c f d b a):∀ n,t7 c f d b a (Ao (DO N F (pz 21828) []) n)=(Jn N (A8 F) c f d b a n):=D3 fun n e=>(Bn (Ql N (A8 F) c f d b a) e:_)
theorem gW (F:KF R) (b a):t8 b a (A0 (DO N F (pz 341) []))=(Tp N (A8 F) b a):=(Bn (Yy N (A8 F) b a) (Avo fun c f d=>(lW ..).trans (gV ..)):_)
theorem gX (F:KF R) (b a):t_ b a (A0 (DO N F (pz 21) []))=(Ns N (A8 F) b a):=(Bn (Qm N (A8 F) b a) ((jW ..).trans (gW ..)):_)
def wz:=Bj N 74 (Z' N) UG (fun
 | [(.pagg a b)],[]=>some fun _ k=>Ru N a b (A8 k)
 | _,_=>none) fun _ _=>by split;intro R F;exact(Bn (Oq N (A8 F) · _ _) ((jW ..).trans (gX ..)):_).trans (Qn ..).symm;trivial
def AF (N:Nat) (r0:LA→Bool→O R) (a:Int) (b:Bool):O R :=
 (cond b (r0 [(.bool false),(.bool false),(.bool false),(.bool true)] true) (cond (a==3) (r0 [(.bool true),(.bool false),(.bool false),(.bool false)] true) (cond (a==4) (r0 [(.bool true),(.bool true),(.bool true),(.bool false)] true) (r0 [(.bool false),(.bool false),(.bool false),(.bool false)] false))))
def OD (N:Nat) (r0:LA→Bool→O R) (q0:Bool→O R) (a:Int):O R :=
 (cond (a==0) (r0 [(.bool true),(.bool true),(.bool false),(.bool false)] true) (cond (a==1) (q0 (a==1)) (q0 (a==2))))
def KA:=(Af fun N a r0=>OD (R:=R) N r0 (AF N r0 a) a).1
theorem aA (a r0):(@KA R N a r0)=(OD N r0 (AF N r0 a) a):=by rw[KA,(Af _).2]
def gY:Hints:={ H:=(hK 1 (hS (hK 1 (hS (hK 2 (hJ [2,4,8] hL hL)) hL)) hL)),modes:=[(3,0),(0,0)] }
def Ab4 (F:KF R):=Hh Tryz.f98 gY [] [] N F
def Ab5 (a:Int) (K:St→O R):=fun b=>K ⟨[(2,(op 0)),(4,(iv a)),(8,(.bool b))],(hq [(bQ 0 [(.bool false),(.bool false),(.bool false),(.bool false)])])⟩
theorem ov (F:KF R) (a):Ab5 a (A0 (Ab4 N F (pz 20757) []))=(AF N (Xq F) a):=by kernel_rfl
def Agj:=Bj N 98 [] gY (fun
 | [(.int .i64 a)],[]=>some fun _ k=>KA N a (Xq k)
 | _,_=>none) fun _ _=>by split;intro R F;exact(Bn (OD N (Xq F) · _) ((jW ..).trans (ov ..)):_).trans (aA ..).symm;trivial
def Ot (r0:Bool→O R) (d:LA) (f:Nat) (b:Bool) (a c:LA) (k1:Int→Int→O R) (h g:Int):O R :=
 (cond (decide (g<h)) (cond (Ae g f) (cond (ble 4 ((d.drop ((g.toNat)*4)).length)) (cond ((beq 0 0)&&((beq (((d.drop ((g.toNat)*4)).take 4).length) 4)&&(beq 4 4))) (As .i64 ((d.drop ((g.toNat)*4)).take 4) fun j=>L5 N j fun l=>cond ((!l)==false) (cond (ble 3 ((((d.drop ((g.toNat)*4)).take 4).drop 1).length)) (WR N ((((d.drop ((g.toNat)*4)).take 4).drop 1).take 3) b fun m=>cond (cond false true (m==0)) (r0 false) (k1 h (wrap .i64 (g+1)))) none) (r0 false)) none) none) none) (Ud c fun o=>As .i64 (a.drop 1) fun p=>To N o p fun q=>cond (q==true) (Ud (c.drop 1) fun r=>As .i64 (a.drop 2) fun s=>To N r s fun t=>cond ((cond true t false)==true) (Ud (c.drop 2) fun u=>As .i64 (a.drop 3) fun v=>To N u v fun w=>r0 (cond true w false)) (r0 false)) (r0 false)))
def Ht (r0:Bool→O R) (d:LA) (f:Nat) (b:Bool) (a c:LA):Nat→Int→Int→O R
 | 0,_,_=>none
 | n+1,h,g=>Ot N r0 d f b a c (Ht r0 d f b a c n) h g
def V1 (N:Nat) (r0:Bool→O R) (b:Bool) (a:LA) (q1:LA→Nat→LA→Int→Int→O R) (c:LA):O R :=
 (Aw 4 (a.drop 4) fun d f=>q1 d f c (f:Int) 0)
def F1 (r0:Bool→O R) (b:Bool) (a c:LA):O R:=(V1 N r0 b a (fun d f c=>Ht N r0 d f b a c N) c)
def W9 (r0:Bool→O R) (q0:LA→O R) (a:LA) (b:Bool):O R :=
 (As .i64 a fun x=>KA N x fun i y=>cond ((beq (i.length) 4)&&((ble 4 4)&&(!false))) (cond ((!y)==false) (Ud ((setCells [(.bool false),(.bool false),(.bool false),(.bool false)] 0 i).drop 3) fun z=>cond ((!z)==true) (Aw 4 (a.drop 4) fun ab aa=>cond (cond false true (cond true (decide ((aa:Int)>0)) false)) (r0 false) (q0 (setCells [(.bool false),(.bool false),(.bool false),(.bool false)] 0 i))) (q0 (setCells [(.bool false),(.bool false),(.bool false),(.bool false)] 0 i))) (r0 false)) none)
def Ou:=(Af fun N a b r0=>W9 (R:=R) N r0 (F1 N r0 b a) a b).1
theorem KB (a b r0):(@Ou R N a b r0)=(W9 N r0 (F1 N r0 b a) a b):=by rw[Ou,(Af _).2]
def QI:Hints:={ H:=(hK 2 (hJ [1,3] hL (hS (hK 1 (hS (hP [1,3,27,28,29] hL) hL)) hL))) }
def UH:N0:=[Agj N,Yf N,yK N,t6 N]
def QJ (F:KF R):=Hh Tryz.f75 QI (UH N) [] N F
def ow (d:LA) (f:Nat) (b:Bool) (a c:LA) (K:St→O R):=fun h g=>K ⟨[(1,(op 0)),(3,(op 1)),(27,(.imm d f 4 false b)),(28,(iv h)),(29,(iv g))],(hq [(bP b 0 a),(bQ 0 c)])⟩
def pA (b:Bool) (a:LA) (K:St→O R):=fun c=>K ⟨[(1,(op 0)),(3,(op 1))],(hq [(bP b 0 a),(bQ 0 c)])⟩
theorem dG (F:KF R) (d f b a c):∀ n,ow d f b a c (Ao (QJ N F (pz 5444) []) n)=(Ht N (A8 F) d f b a c n):=D3 fun n e=>(Bn (Ot N (A8 F) d f b a c) e:_)
theorem dH (F:KF R) (b a):pA b a (A0 (QJ N F (pz 85) []))=(F1 N (A8 F) b a):=(Bn (V1 N (A8 F) b a) (Avo fun d f c=>(lW ..).trans (dG ..)):_)
def ta:=Bj N 75 (UH N) QI (fun
 | [(.pagg a b)],[]=>some fun _ k=>Ou N a b (A8 k)
 | _,_=>none) fun _ _=>by split;intro R F;exact(Bn (W9 N (A8 F) · _ _) ((jW ..).trans (dH ..)):_).trans (KB ..).symm;trivial
def Qo (r0:Bool→O R) (d:LA) (h:Nat) (a:Bool) (k2:Int→Int→O R) (o l:Int):O R :=
 (cond (decide (l<o)) (cond (Ae l h) (cond (ble 5 ((d.drop ((l.toNat)*5)).length)) (cond ((beq 0 0)&&((beq (((d.drop ((l.toNat)*5)).take 5).length) 5)&&(beq 5 5))) (cond (ble 5 (((d.drop ((l.toNat)*5)).take 5).length)) (Ou N (((d.drop ((l.toNat)*5)).take 5).take 5) a fun r=>cond (!r) (r0 false) (k2 o (wrap .i64 (l+1)))) none) none) none) none) (r0 true))
def Jo (r0:Bool→O R) (d:LA) (h:Nat) (a:Bool):Nat→Int→Int→O R
 | 0,_,_=>none
 | n+1,o,l=>Qo N r0 d h a (Jo r0 d h a n) o l
def Qp (r0:Bool→O R) (f:LA) (i:Nat) (a:Bool) (b:LA) (k1:Int→Int→O R) (q2:LA→Nat→Int→Int→O R) (p m:Int):O R :=
 (cond (decide (m<p)) (cond (Ae m i) (cond (ble 6 ((f.drop ((m.toNat)*6)).length)) (cond ((beq 0 0)&&((beq (((f.drop ((m.toNat)*6)).take 6).length) 6)&&(beq 6 6))) (cond (ble 6 (((f.drop ((m.toNat)*6)).take 6).length)) (Ru N (((f.drop ((m.toNat)*6)).take 6).take 6) a fun s=>cond (!s) (r0 false) (k1 p (wrap .i64 (m+1)))) none) none) none) none) (Aw 5 (b.drop 2) fun d h=>q2 d h (h:Int) 0))
def Jp (r0:Bool→O R) (f:LA) (i:Nat) (a:Bool) (b:LA):Nat→Int→Int→O R
 | 0,_,_=>none
 | n+1,p,m=>Qp N r0 f i a b (Jp r0 f i a b n) (fun d h=>Jo N r0 d h a N) p m
def Qq (r0:Bool→O R) (c:LA) (g:Nat) (a:Bool) (b:LA) (k0:Int→Int→O R) (q1:LA→Nat→Int→Int→O R) (q j:Int):O R :=
 (cond (decide (j<q)) (cond (Ae j g) (cond (ble 2 ((c.drop ((j.toNat)*2)).length)) (cond ((!a)||(A6 ((c.drop ((j.toNat)*2)).take 2))) (cond ((beq (((c.drop ((j.toNat)*2)).take 2).length) 2)&&((ble 2 2)&&(!false))) (As .i64 (setCells [(.int .i64 0),(.int .i64 0)] 0 ((c.drop ((j.toNat)*2)).take 2)) fun t=>L5 N t fun u=>cond ((!u)==false) (As .i64 ((setCells [(.int .i64 0),(.int .i64 0)] 0 ((c.drop ((j.toNat)*2)).take 2)).drop 1) fun v=>L5 N v fun w=>cond (cond false true (!w)) (r0 false) (k0 q (wrap .i64 (j+1)))) (r0 false)) none) none) none) none) (Aw 6 (b.drop 1) fun f i=>q1 f i (i:Int) 0))
def G6 (r0:Bool→O R) (c:LA) (g:Nat) (a:Bool) (b:LA):Nat→Int→Int→O R
 | 0,_,_=>none
 | n+1,q,j=>Qq N r0 c g a b (G6 r0 c g a b n) (fun f i=>Jp N r0 f i a b N) q j
def AG (N:Nat) (r0:Bool→O R) (q0:LA→Nat→Int→Int→O R) (b:LA) (a:Bool):O R :=
 (Aw 2 b fun c g=>q0 c g (g:Int) 0)
def Yg:=(Af fun N b a r0=>AG (R:=R) N r0 (fun c g=>G6 N r0 c g a b N) b a).1
theorem QK (b a r0):(@Yg R N b a r0)=(AG N r0 (fun c g=>G6 N r0 c g a b N) b a):=by rw[Yg,(Af _).2]
def UI:Hints:={ H:=(hK 1 (hS (hK 1 (hS (hP [1,10,11,12] hL) hL)) (hS (hK 1 (hS (hP [1,28,29,30] hL) hL)) (hS (hK 1 (hS (hP [39,40,41] hL) hL)) hL)))) }
def aB:N0:=[Yf N,wz N,ta N]
def DP (F:KF R):=Hh Tryz.f36 UI (aB N) [] N F
def tb (d:LA) (h:Nat) (a:Bool) (K:St→O R):=fun o l=>K ⟨[(39,(.imm d h 5 false a)),(40,(iv o)),(41,(iv l))],[]⟩
def tc (f:LA) (i:Nat) (a:Bool) (b:LA) (K:St→O R):=fun p m=>K ⟨[(1,(op 0)),(28,(.imm f i 6 false a)),(29,(iv p)),(30,(iv m))],(hq [(bP a 0 b)])⟩
def td (c:LA) (g:Nat) (a:Bool) (b:LA) (K:St→O R):=fun q j=>K ⟨[(1,(op 0)),(10,(.imm c g 2 false a)),(11,(iv q)),(12,(iv j))],(hq [(bP a 0 b)])⟩
theorem gZ (F:KF R) (d h a):∀ n,tb d h a (Ao (DP N F (pz 5444) []) n)=(Jo N (A8 F) d h a n):=D3 fun n e=>(Bn (Qo N (A8 F) d h a) e:_)
theorem g8 (F:KF R) (f i a b):∀ n,tc f i a b (Ao (DP N F (pz 1348) []) n)=(Jp N (A8 F) f i a b n):=D3 fun n e=>(Yq (Qp N (A8 F) f i a b) e (vP fun d h=>(lW ..).trans (gZ ..)):_)
theorem g9 (F:KF R) (c g a b):∀ n,td c g a b (Ao (DP N F (pz 324) []) n)=(G6 N (A8 F) c g a b n):=D3 fun n e=>(Yq (Qq N (A8 F) c g a b) e (vP fun f i=>(lW ..).trans (g8 ..)):_)
def xA:=Bj N 36 (aB N) UI (fun
 | [(.pagg b a)],[]=>some fun _ k=>Yg N b a (A8 k)
 | _,_=>none) fun _ _=>by split;intro R F;exact(Bn (AG N (A8 F) · _ _) (vP fun c g=>(lW ..).trans (g9 ..)):_).trans (QK ..).symm;trivial
def Ab6 (N:Nat) (a:Bool) (r0:O R):O R :=
 r0
def Akt:=(Af (@Ab6 R)).1
theorem te:@Akt R=@Ab6 R:=(Af _).2
def Apv (a:Bool) (F:KF R):O R:=F (iv 0) [(100000,⟨false,false,false,false,0,[.nilptr,.nsl,(.bool a)],false,(some (113,3))⟩)]
def As3:=Bj N 117 [] Bg (fun
 | [(.optr 100000 0)],[(100000,⟨false,false,false,false,0,[.nilptr,.nsl,(.bool a)],false,(some (113,3))⟩)]=>some fun _ k=>Akt N a (Apv a k)
 | _,_=>none) fun _ _=>by split;intro R F;dsimp only;rw[te];kernel_rfl;trivial
def V3 (N:Nat) (a:Bool) (r0:O R):O R :=
 r0
def Yz:=(Af (@V3 R)).1
theorem Zk:@Yz R=@V3 R:=(Af _).2
def dI (a:Bool) (F:KF R):O R:=F (.tup []) [(100000,⟨false,false,false,false,0,[(.optr 100000 0),.nsl,(.bool a)],false,(some (113,3))⟩)]
def g_:=Bj N 161 [] Bg (fun
 | [(.optr 100000 0)],[(100000,⟨false,false,false,false,0,[.nilptr,.nsl,(.bool a)],false,(some (113,3))⟩)]=>some fun _ k=>Yz N a (dI a k)
 | _,_=>none) fun _ _=>by split;intro R F;dsimp only;rw[Zk];kernel_rfl;trivial
def Rc (a:Lu) (b:Bool) (r0:Int→Nat→LA→O R):O R :=
 (Yz N b (cond ((ble (0+(a.length)) 140737488355328)&&(ble ((0+(a.length))*1) 140737488355328)) (r0 (((a.length):Nat):Int) (0+(a.length)) (At a)) none))
def Tq:=(Af (@Rc R)).1
theorem Up:@Tq R=@Rc R:=(Af _).2
def YE:=Bj N 118 [g_ N] Bg (fun
 | [(.optr 100000 0),(.str a)],[(100000,⟨false,false,false,false,0,[.nilptr,.nsl,(.bool b)],false,(some (113,3))⟩)]=>some fun _ k=>Tq N a b (Avp b k)
 | _,_=>none) fun _ _=>by split;intro R F;dsimp only;rw[Up];kernel_rfl;trivial
def kW (b:Lu) (a:Bool) (r0:O R) (r1:Nat→LA→O R):O R :=
 (cond (a==false) (Akt N a (cond (cond false true (decide ((wrap .i64 (0+(((b.length):Nat):Int)))>1048576))) r0 (Tq N b a fun e c d=>r1 c d))) r0)
def Tr:=(Af (@kW R)).1
theorem gc:@Tr R=@kW R:=(Af _).2
def Aku:=Bj N 77 [As3 N,YE N] Bg (fun
 | [(.optr 100000 0),(.str b)],[(100000,⟨false,false,false,false,0,[.nilptr,.nsl,(.bool a)],false,(some (113,3))⟩)]=>some fun _ k=>Tr N b a (CC k) (Avq a k)
 | _,_=>none) fun _ _=>by split;intro R F;dsimp only;rw[gc];kernel_rfl;trivial
def dJ (N a:Nat) (b:Bool) (c:LA) (r0:Int→O R):O R :=
 (r0 (a:Int))
def kX:=(Af (@dJ R)).1
theorem aC:@kX R=@dJ R:=(Af _).2
def Ab7 (a:Nat) (b:Bool) (c:LA) (F:KF R):Int→O R:=(fun d=>F (iv d) [(100000,⟨false,false,false,false,0,[(.optr 100000 0),(.own 100001 0 a),(.bool b)],false,(some (113,3))⟩),(100001,⟨false,false,true,false,1,c,false,(some (5,0))⟩)])
def Agk:=Bj N 117 [] Bg (fun
 | [(.optr 100000 0)],[(100000,⟨false,false,false,false,0,[(.optr 100000 0),(.own 100001 0 a),(.bool b)],false,(some (113,3))⟩),(100001,⟨false,false,true,false,1,c,false,(some (5,0))⟩)]=>some fun _ k=>kX N a b c (Ab7 a b c k)
 | _,_=>none) fun _ _=>by split;intro R F;dsimp only;rw[aC];kernel_rfl;trivial
def V4 (N a:Nat) (b:Bool) (c:LA) (r0:O R):O R :=
 r0
def Y0:=(Af (@V4 R)).1
theorem Zl:@Y0 R=@V4 R:=(Af _).2
def gd:=Bj N 161 [] Bg (fun
 | [(.optr 100000 0)],[(100000,⟨false,false,false,false,0,[(.optr 100000 0),(.own 100001 0 a),(.bool b)],false,(some (113,3))⟩),(100001,⟨false,false,true,false,1,c,false,(some (5,0))⟩)]=>some fun _ k=>Y0 N a b c (Avr a b c k)
 | _,_=>none) fun _ _=>by split;intro R F;dsimp only;rw[Zl];kernel_rfl;trivial
def Rd (a:Lu) (b:Nat) (c:Bool) (d:LA) (r0:Int→Nat→LA→O R):O R :=
 (Y0 N b c d (cond ((ble (b+(a.length)) 140737488355328)&&(ble ((b+(a.length))*1) 140737488355328)) (r0 (((a.length):Nat):Int) (b+(a.length)) ((d.take (b*1))++(At a))) none))
def Ts:=(Af (@Rd R)).1
theorem Uq:@Ts R=@Rd R:=(Af _).2
def YF:=Bj N 118 [gd N] Bg (fun
 | [(.optr 100000 0),(.str a)],[(100000,⟨false,false,false,false,0,[(.optr 100000 0),(.own 100001 0 b),(.bool c)],false,(some (113,3))⟩),(100001,⟨false,false,true,false,1,d,false,(some (5,0))⟩)]=>some fun _ k=>Ts N a b c d (Avp c k)
 | _,_=>none) fun _ _=>by split;intro R F;dsimp only;rw[Uq];kernel_rfl;trivial
def OE (d:Lu) (a:Nat) (c:Bool) (b:LA) (r0:O R) (r1:Nat→LA→O R):O R :=
 (cond (c==false) (kX N a c b fun e=>cond (cond false true (decide ((wrap .i64 (e+(((d.length):Nat):Int)))>1048576))) r0 (Ts N d a c b fun h f g=>r1 f g)) r0)
def Cg:=(Af (@OE R)).1
theorem QL:@Cg R=@OE R:=(Af _).2
def th (a:Nat) (b:LA) (F:KF R):O R:=F (.tup []) [(100000,⟨false,false,false,false,0,[(.optr 100000 0),(.own 100001 0 a),(.bool true)],false,(some (113,3))⟩),(100001,⟨false,false,true,false,1,b,false,(some (5,0))⟩)]
def Pu:=Bj N 77 [Agk N,YF N] Bg (fun
 | [(.optr 100000 0),(.str d)],[(100000,⟨false,false,false,false,0,[(.optr 100000 0),(.own 100001 0 a),(.bool c)],false,(some (113,3))⟩),(100001,⟨false,false,true,false,1,b,false,(some (5,0))⟩)]=>some fun _ k=>Cg N d a c b (th a b k) (Avq c k)
 | _,_=>none) fun _ _=>by split;intro R F;dsimp only;rw[QL];kernel_rfl;trivial
def ge (N:Nat) (r0:O R) (r1:Nat→Bool→LA→O R) (b:LA) (a:Nat) (c d:Bool) (k0:Int→O R) (o:Int):O R :=
 (cond (decide (0<o)) (cond (Ae 0 a) (As .i64 b fun v=>r0) none) r0)
def GD (r0:O R) (r1:Nat→Bool→LA→O R) (b:LA) (a:Nat) (c d:Bool):Nat→Int→O R
 | 0,_=>none
 | n+1,o=>ge N r0 r1 b a c d (GD r0 r1 b a c d n) o
def AH (r0:O R) (r1:Nat→Bool→LA→O R) (b:LA) (a:Nat) (c d:Bool) (k1:Int→Int→Nat→Bool→LA→O R) (m f:Int) (i:Nat) (g:Bool) (j:LA):O R :=
 (cond (decide (f<m)) (cond (Ae f a) (As .i64 (b.drop ((f.toNat)*1)) fun q=>cond g (r1 i g j) (strconv_Itoa N q fun p=>cond (ble (1+(p.length)) 140737488355328) (Cg N (([32]:Lu)++p) i g j (k1 m (wrap .i64 (f+1)) i true j) fun r s=>k1 m (wrap .i64 (f+1)) r g s) none)) none) (r1 i g j))
def J3 (r0:O R) (r1:Nat→Bool→LA→O R) (b:LA) (a:Nat) (c d:Bool):Nat→Int→Int→Nat→Bool→LA→O R
 | 0,_,_,_,_,_=>none
 | n+1,m,f,i,g,j=>AH N r0 r1 b a c d (J3 r0 r1 b a c d n) m f i g j
def W_ (r0:O R) (r1:Nat→Bool→LA→O R) (q0:Int→O R) (q1:Int→Int→Nat→Bool→LA→O R) (l:Lu) (b:LA) (a:Nat) (c d h:Bool):O R :=
 (Tr N l h (q0 (a:Int)) fun t u=>q1 (a:Int) 0 t h u)
def KC:=(Af fun N l b a c d h r0 r1=>W_ (R:=R) N r0 r1 (GD N r0 r1 b a c d N) (J3 N r0 r1 b a c d N) l b a c d h).1
theorem gf (l b a c d h r0 r1):(@KC R N l b a c d h r0 r1)=(W_ N r0 r1 (GD N r0 r1 b a c d N) (J3 N r0 r1 b a c d N) l b a c d h):=by rw[KC,(Af _).2]
def nQ:Hints:={ H:=(hK 2 (hS (hP [0,11,12,13] hL) hL)) }
def Ej:=At6 (Aku N) (Pu N) (Eq.refl 77)
def ti:N0:=[Ej N,Ng N]
def nR (F:KF R):=Hh Tryz.f76 nQ (ti N) [100000] N F
def Agl (b:LA) (a:Nat) (c d:Bool) (K:St→O R):=fun o=>K ⟨[(0,(.optr 100000 0)),(11,(.imm b a 1 c d)),(12,(iv o)),(13,(iv 0))],[(100000,⟨false,false,false,false,0,[.nilptr,.nsl,(.bool true)],false,(some (113,3))⟩)]⟩
def Agm (b:LA) (a:Nat) (c d:Bool) (K:St→O R):=fun m f i g j=>K ⟨[(0,(.optr 100000 0)),(11,(.imm b a 1 c d)),(12,(iv m)),(13,(iv f))],[(100000,⟨false,false,false,false,0,[(.optr 100000 0),(.own 300000 0 i),(.bool g)],false,(some (113,3))⟩),(300000,⟨false,false,true,false,1,j,false,(some (5,0))⟩)]⟩
theorem tj (F:KF R) (b a c d):∀ n,Agl b a c d (Ao (nR N F (pz 84) []) n)=(GD N (CC F) (Xp F) b a c d n):=D3 fun n e=>(Bn (ge N (CC F) (Xp F) b a c d) e:_)
theorem tn (F:KF R) (b a c d):∀ n,Agm b a c d (Ao (nR N F (pz 84) []) n)=(J3 N (CC F) (Xp F) b a c d n):=D3 fun n e=>(Bn (AH N (CC F) (Xp F) b a c d) e:_)
def tp:=Bj N 76 (ti N) nQ (fun
 | [(.optr 100000 0),(.str l),(.imm b a 1 c d)],[(100000,⟨false,false,false,false,0,[.nilptr,.nsl,(.bool h)],false,(some (113,3))⟩)]=>some fun _ k=>KC N l b a c d h (CC k) (Xp k)
 | _,_=>none) fun _ _=>by split;intro R F;exact(Yq (W_ N (CC F) (Xp F) · · _ _ _ _ _ _) ((lW ..).trans (tj ..)) ((lW ..).trans (tn ..)):_).trans (gf ..).symm;trivial
def tq (a:Lu) (b:LA) (c:Nat) (f d e:Bool) (r0:O R) (r1:Nat→Bool→LA→O R):O R :=
 (KC N a b c false d e (Tr N ([10]:Lu) true r0 fun j l=>r1 j true l) fun g h i=>Cg N ([10]:Lu) g h i (r1 g true i) fun m n=>r1 m h n)
def AI:=(Af (@tq R)).1
theorem nS:@AI R=@tq R:=(Af _).2
def kY:=Bj N 37 [tp N,Ej N] Bg (fun
 | [(.optr 100000 0),(.str a),(.imm b c 1 f d)],[(100000,⟨false,false,false,false,0,[.nilptr,.nsl,(.bool e)],false,(some (113,3))⟩)]=>some fun _ k=>AI N a b c f d e (CC k) (Xp k)
 | _,_=>none) fun _ _=>by split;intro R F;dsimp only;rw[nS];kernel_rfl;trivial
def Qr (r0:Nat→Bool→LA→O R) (b:LA) (a:Nat) (c d:Bool) (k0:Int→Int→Nat→Bool→LA→O R) (p f:Int) (l:Nat) (g:Bool) (m:LA):O R :=
 (cond (decide (f<p)) (cond (Ae f a) (As .i64 (b.drop ((f.toNat)*1)) fun r=>cond g (r0 l g m) (strconv_Itoa N r fun q=>cond (ble (1+(q.length)) 140737488355328) (Cg N (([32]:Lu)++q) l g m (k0 p (wrap .i64 (f+1)) l true m) fun s t=>k0 p (wrap .i64 (f+1)) s g t) none)) none) (r0 l g m))
def Ek (r0:Nat→Bool→LA→O R) (b:LA) (a:Nat) (c d:Bool):Nat→Int→Int→Nat→Bool→LA→O R
 | 0,_,_,_,_,_=>none
 | n+1,p,f,l,g,m=>Qr N r0 b a c d (Ek r0 b a c d n) p f l g m
def AJ (r0:Nat→Bool→LA→O R) (q0:Int→Int→Nat→Bool→LA→O R) (o:Lu) (b:LA) (a:Nat) (c d:Bool) (h:Nat) (i:Bool) (j:LA):O R :=
 (Cg N o h i j (q0 (a:Int) 0 h true j) fun u v=>q0 (a:Int) 0 u i v)
def J4:=(Af fun N o b a c d h i j r0=>AJ (R:=R) N r0 (Ek N r0 b a c d N) o b a c d h i j).1
theorem QM (o b a c d h i j r0):(@J4 R N o b a c d h i j r0)=(AJ N r0 (Ek N r0 b a c d N) o b a c d h i j):=by rw[J4,(Af _).2]
def UJ:Hints:={ H:=(hK 2 (hS (hP [0,11,12,13] hL) hL)),free:=[100001] }
def aD:N0:=[Pu N,Ng N]
def tt (F:KF R):=Hh Tryz.f76 UJ (aD N) [100000,100001] N F
def tz (b:LA) (a:Nat) (c d:Bool) (K:St→O R):=fun p f l g m=>K ⟨[(0,(.optr 100000 0)),(11,(.imm b a 1 c d)),(12,(iv p)),(13,(iv f))],[(100000,⟨false,false,false,false,0,[(.optr 100000 0),(.own 300000 0 l),(.bool g)],false,(some (113,3))⟩),(300000,⟨false,false,true,false,1,m,false,(some (5,0))⟩)]⟩
theorem gh (F:KF R) (b a c d):∀ n,tz b a c d (Ao (tt N F (pz 84) []) n)=(Ek N (Xp F) b a c d n):=D3 fun n e=>(Bn (Qr N (Xp F) b a c d) e:_)
def HE:=Bj N 76 (aD N) UJ (fun
 | [(.optr 100000 0),(.str o),(.imm b a 1 c d)],[(100000,⟨false,false,false,false,0,[(.optr 100000 0),(.own 100001 0 h),(.bool i)],false,(some (113,3))⟩),(100001,⟨false,false,true,false,1,j,false,(some (5,0))⟩)]=>some fun _ k=>J4 N o b a c d h i j (Xp k)
 | _,_=>none) fun _ _=>by split;intro R F;exact(Bn (AJ N (Xp F) · _ _ _ _ _ _ _ _) ((lW ..).trans (gh ..)):_).trans (QM ..).symm;trivial
def UK (a:Lu) (b:LA) (c:Nat) (h d:Bool) (e:Nat) (f:Bool) (g:LA) (r0:Nat→Bool→LA→O R):O R :=
 (J4 N a b c false d e f g fun i j l=>Cg N ([10]:Lu) i j l (r0 i true l) fun m n=>r0 m j n)
def Nt:=(Af (@UK R)).1
theorem UL:@Nt R=@UK R:=(Af _).2
def OF:=Bj N 37 [HE N,Pu N] Bg (fun
 | [(.optr 100000 0),(.str a),(.imm b c 1 h d)],[(100000,⟨false,false,false,false,0,[(.optr 100000 0),(.own 100001 0 e),(.bool f)],false,(some (113,3))⟩),(100001,⟨false,false,true,false,1,g,false,(some (5,0))⟩)]=>some fun _ k=>Nt N a b c h d e f g (Xp k)
 | _,_=>none) fun _ _=>by split;intro R F;dsimp only;rw[UL];kernel_rfl;trivial
def Am0 (a:LA) (b c:Bool) (r0:O R) (r1:Nat→Bool→LA→O R):O R :=
 (As .i64 a fun j=>cond (j==1) (As .i64 (a.drop 1) fun l=>As .i64 (a.drop 4) fun m=>As .i64 (a.drop 5) fun n=>AI N ([114,97,109,112]:Lu) [(.int .i64 l),(.int .i64 m),(.int .i64 n)] 3 false true c r0 fun o p q=>r1 o p q) (As .i64 (a.drop 1) fun r=>As .i64 (a.drop 3) fun s=>KC N ([99,111,118,101,114]:Lu) [(.int .i64 r),(.int .i64 s)] 2 false true c (Aw 1 (a.drop 2) fun t u=>KC N ([]:Lu) t u false b true (Tr N ([10]:Lu) true r0 fun v w=>r1 v true w) fun d e f=>Cg N ([10]:Lu) d e f (r1 d true f) fun x y=>r1 x e y) fun z aa ab=>Aw 1 (a.drop 2) fun ac ad=>J4 N ([]:Lu) ac ad false b z aa ab fun g h i=>Cg N ([10]:Lu) g h i (r1 g true i) fun ae af=>r1 ae h af))
def Akv:=(Af (@Am0 R)).1
theorem Akw:@Akv R=@Am0 R:=(Af _).2
def DQ:=At6 (tp N) (HE N) (Eq.refl 76)
def As4:=Bj N 38 [kY N,DQ N,Ej N] Bg (fun
 | [(.optr 100000 0),(.pagg a b)],[(100000,⟨false,false,false,false,0,[.nilptr,.nsl,(.bool c)],false,(some (113,3))⟩)]=>some fun _ k=>Akv N a b c (CC k) (Xp k)
 | _,_=>none) fun _ _=>by split;intro R F;dsimp only;rw[Akw];kernel_rfl;trivial
def dK (a:LA) (e:Bool) (b:Nat) (c:Bool) (d:LA) (r0:Nat→Bool→LA→O R):O R :=
 (As .i64 a fun i=>cond (i==1) (As .i64 (a.drop 1) fun j=>As .i64 (a.drop 4) fun l=>As .i64 (a.drop 5) fun m=>Nt N ([114,97,109,112]:Lu) [(.int .i64 j),(.int .i64 l),(.int .i64 m)] 3 false true b c d fun n o p=>r0 n o p) (As .i64 (a.drop 1) fun q=>As .i64 (a.drop 3) fun r=>J4 N ([99,111,118,101,114]:Lu) [(.int .i64 q),(.int .i64 r)] 2 false true b c d fun s t u=>Aw 1 (a.drop 2) fun v w=>J4 N ([]:Lu) v w false e s t u fun f g h=>Cg N ([10]:Lu) f g h (r0 f true h) fun x y=>r0 x g y))
def XA:=(Af (@dK R)).1
theorem aE:@XA R=@dK R:=(Af _).2
def Agn:=Bj N 38 [OF N,HE N,Pu N] Bg (fun
 | [(.optr 100000 0),(.pagg a e)],[(100000,⟨false,false,false,false,0,[(.optr 100000 0),(.own 100001 0 b),(.bool c)],false,(some (113,3))⟩),(100001,⟨false,false,true,false,1,d,false,(some (5,0))⟩)]=>some fun _ k=>XA N a e b c d (Xp k)
 | _,_=>none) fun _ _=>by split;intro R F;dsimp only;rw[aE];kernel_rfl;trivial
def Ov (r0:Bool→Nat→LA→O R) (k0:Int→Bool→LA→Bool→Nat→LA→O R) (c:Int) (b:Bool) (a:LA) (f:Bool) (d:Nat) (g:LA):O R :=
 (cond (decide (c>0)) (cond ((Int.tmod c 2)==1) (cond (ble 2 (a.length)) (TZ N [(.bool f),(.imm (g.take (d*1)) d 1 false true)] true (a.take 2) b fun l m o=>cond (decide (c>1)) (cond (ble 2 (a.length)) (cond (ble 2 (a.length)) (TZ N (a.take 2) b (a.take 2) b fun r p s=>cond ((beq 2 2)&&((ble 2 (a.length))&&(!false))) (k0 (wrap .i64 (Int.tdiv c 2)) (b||false) (D9 a 0 [(.bool r),(.imm (s.take (p*1)) p 1 false false)]) l m o) none) none) none) (k0 (wrap .i64 (Int.tdiv c 2)) b a l m o)) none) (cond (decide (c>1)) (cond (ble 2 (a.length)) (cond (ble 2 (a.length)) (TZ N (a.take 2) b (a.take 2) b fun t q u=>cond ((beq 2 2)&&((ble 2 (a.length))&&(!false))) (k0 (wrap .i64 (Int.tdiv c 2)) (b||false) (D9 a 0 [(.bool t),(.imm (u.take (q*1)) q 1 false false)]) f d g) none) none) none) (k0 (wrap .i64 (Int.tdiv c 2)) b a f d g))) (r0 f d g))
def H9 (r0:Bool→Nat→LA→O R):Nat→Int→Bool→LA→Bool→Nat→LA→O R
 | 0,_,_,_,_,_,_=>none
 | n+1,c,b,a,f,d,g=>Ov N r0 (H9 r0 n) c b a f d g
def XB (r0:Bool→Nat→LA→O R) (q0:Int→Bool→LA→Bool→Nat→LA→O R) (h:LA) (i:Bool) (j:Int):O R :=
 (Iy N 1 fun v w x=>q0 j i h v w x)
def KD:=(Af fun N h i j r0=>XB (R:=R) N r0 (H9 N r0 N) h i j).1
theorem gi (h i j r0):(@KD R N h i j r0)=(XB N r0 (H9 N r0 N) h i j):=by rw[KD,(Af _).2]
def nT:Hints:={ H:=(hK 2 (hS (hS (hP [1,2,4,5] hL) hL) hL)) }
def uA:N0:=[AD N,Afz N]
def Ago (F:KF R):=Hh Tryz.f238 nT (uA N) [] N F
def Agp (K:St→O R):=fun c b a f d g=>K ⟨[(1,(iv c)),(2,(op 0)),(4,(op 1)),(5,(op 2))],(hq [(bP b 0 a),(bN 0 [(.bool false),.nsl]),(bN 0 [(.bool f),(.own 300003 0 d)]),(bQ 1 g)])⟩
theorem uB (F:KF R):∀ n,Agp (Ao (Ago N F (pz 336) []) n)=(H9 N (vd F) n):=D3 fun n e=>(Bn (Ov N (vd F)) e:_)
def uC:=Bj N 238 (uA N) nT (fun
 | [(.pagg h i),(.int .i64 j)],[]=>some fun _ k=>KD N h i j (vd k)
 | _,_=>none) fun _ _=>by split;intro R F;exact(Bn (XB N (vd F) · _ _ _) ((lW ..).trans (uB ..)):_).trans (gi ..).symm;trivial
def V5 (N:Nat) (r0:O R):O R :=
 r0
def Y1:=(Af (@V5 R)).1
theorem Zm:@Y1 R=@V5 R:=(Af _).2
def dL (F:KF R):O R:=F (.tup []) [(100000,⟨false,false,false,false,0,[(.optr 100000 0),.nsl],false,(some (111,2))⟩)]
def gj:=Bj N 161 [] Bg (fun
 | [(.optr 100000 0)],[(100000,⟨false,false,false,false,0,[.nilptr,.nsl],false,(some (111,2))⟩)]=>some fun _ k=>Y1 N (dL k)
 | _,_=>none) fun _ _=>by split;intro R F;dsimp only;rw[Zm];kernel_rfl;trivial
def Re (a:Lu) (r0:Int→Nat→LA→O R):O R :=
 (Y1 N (cond ((ble (0+(a.length)) 140737488355328)&&(ble ((0+(a.length))*1) 140737488355328)) (r0 (((a.length):Nat):Int) (0+(a.length)) (At a)) none))
def Mr:=(Af (@Re R)).1
theorem Ur:@Mr R=@Re R:=(Af _).2
def YG:=Bj N 118 [gj N] Bg (fun
 | [(.optr 100000 0),(.str a)],[(100000,⟨false,false,false,false,0,[.nilptr,.nsl],false,(some (111,2))⟩)]=>some fun _ k=>Mr N a (Avs k)
 | _,_=>none) fun _ _=>by split;intro R F;dsimp only;rw[Ur];kernel_rfl;trivial
def aF (N:Nat) (r0:O R):O R :=
 r0
def OG:=(Af (@aF R)).1
theorem kZ:@OG R=@aF R:=(Af _).2
def pB (F:KF R):O R:=F (.str ([]:Lu)) [(100000,⟨false,false,false,false,0,[.nilptr,.nsl],false,(some (111,2))⟩)]
def uD:=Bj N 40 [] Bg (fun
 | [(.optr 100000 0)],[(100000,⟨false,false,false,false,0,[.nilptr,.nsl],false,(some (111,2))⟩)]=>some fun _ k=>OG N (pB k)
 | _,_=>none) fun _ _=>by split;intro R F;dsimp only;rw[kZ];kernel_rfl;trivial
def V6 (N a:Nat) (b:LA) (r0:O R):O R :=
 r0
def Y2:=(Af (@V6 R)).1
theorem Zn:@Y2 R=@V6 R:=(Af _).2
def dM (a:Nat) (b:LA) (F:KF R):O R:=F (.tup []) [(100000,⟨false,false,false,false,0,[(.optr 100000 0),(.own 100001 0 a)],false,(some (111,2))⟩),(100001,⟨false,false,true,false,1,b,false,(some (5,0))⟩)]
def gk:=Bj N 161 [] Bg (fun
 | [(.optr 100000 0)],[(100000,⟨false,false,false,false,0,[(.optr 100000 0),(.own 100001 0 a)],false,(some (111,2))⟩),(100001,⟨false,false,true,false,1,b,false,(some (5,0))⟩)]=>some fun _ k=>Y2 N a b (dM a b k)
 | _,_=>none) fun _ _=>by split;intro R F;dsimp only;rw[Zn];kernel_rfl;trivial
def Rf (a:Lu) (b:Nat) (c:LA) (r0:Int→Nat→LA→O R):O R :=
 (Y2 N b c (cond ((ble (b+(a.length)) 140737488355328)&&(ble ((b+(a.length))*1) 140737488355328)) (r0 (((a.length):Nat):Int) (b+(a.length)) ((c.take (b*1))++(At a))) none))
def Fu:=(Af (@Rf R)).1
theorem Us:@Fu R=@Rf R:=(Af _).2
def YH:=Bj N 118 [gk N] Bg (fun
 | [(.optr 100000 0),(.str a)],[(100000,⟨false,false,false,false,0,[(.optr 100000 0),(.own 100001 0 b)],false,(some (111,2))⟩),(100001,⟨false,false,true,false,1,c,false,(some (5,0))⟩)]=>some fun _ k=>Fu N a b c (Avs k)
 | _,_=>none) fun _ _=>by split;intro R F;dsimp only;rw[Us];kernel_rfl;trivial
def HF (N a:Nat) (b:LA) (r0:Lu→O R):O R :=
 (cond (Nat.blt 0 a) (cond ((beq 5 5)&&((beq 1 1)&&(true&&((!false)&&((beq 0 0)&&((decide (0<(a:Int)))&&((decide ((a:Int)≤(((b.length):Nat):Int)))&&(decide ((a:Int)≤9223372036854775807))))))))) (Option.bind (Sc (b.take a)) fun c=>r0 c) none) none)
def AK:=(Af (@HF R)).1
theorem KG:@AK R=@HF R:=(Af _).2
def pC (F:KF R):Lu→O R:=(fun d=>F (.str d) [(100000,⟨false,false,false,false,0,[(.optr 100000 0),.undef],false,(some (111,2))⟩)])
def uE:=Bj N 40 [] Bg (fun
 | [(.optr 100000 0)],[(100000,⟨false,false,false,false,0,[(.optr 100000 0),(.own 100001 0 a)],false,(some (111,2))⟩),(100001,⟨false,false,true,false,1,b,false,(some (5,0))⟩)]=>some fun _ k=>AK N a b (pC k)
 | _,_=>none) fun _ _=>by split;intro R F;dsimp only;rw[KG];kernel_rfl;trivial
def HG (r0:Lu→O R) (a:Nat) (b:LA) (k3:Int→Int→Nat→LA→O R) (p j:Int) (q:Nat) (r:LA):O R :=
 (cond (decide (j<p)) (cond (Ae (wrap .i64 ((wrap .i64 ((a:Int) - 1)) - j)) a) (As .i64 (b.drop (0+(((wrap .i64 ((wrap .i64 ((a:Int) - 1)) - j)).toNat)*1))) fun z=>strconv_Itoa N z fun v=>cond (decide (j>0)) (strings_Repeat N ([48]:Lu) (wrap .i64 (9 - (((v.length):Nat):Int))) fun aa=>Fu N aa q r fun au ab ac=>Fu N v ab ac fun av ad ae=>k3 p (wrap .i64 (j+1)) ad ae) (Fu N v q r fun aw af ag=>k3 p (wrap .i64 (j+1)) af ag)) none) (AK N q r fun ah=>r0 ah))
def Tt (r0:Lu→O R) (a:Nat) (b:LA):Nat→Int→Int→Nat→LA→O R
 | 0,_,_,_,_=>none
 | n+1,p,j,q,r=>HG N r0 a b (Tt r0 a b n) p j q r
def HH (r0:Lu→O R) (a:Nat) (b:LA) (k2:Int→O R) (k3:Int→Int→Nat→LA→O R) (s:Int):O R :=
 (cond (decide (0<s)) (cond (Ae (wrap .i64 ((wrap .i64 ((a:Int) - 1)) - 0)) a) (As .i64 (b.drop (0+(((wrap .i64 ((wrap .i64 ((a:Int) - 1)) - 0)).toNat)*1))) fun ai=>strconv_Itoa N ai fun aj=>Mr N aj fun ax ak al=>k3 s 1 ak al) none) (OG N (r0 ([]:Lu))))
def Tu (r0:Lu→O R) (a:Nat) (b:LA):Nat→Int→O R
 | 0,_=>none
 | n+1,s=>HH N r0 a b (Tu r0 a b n) (Tt N r0 a b n) s
def HI (r0:Lu→O R) (f:Bool) (c:Nat) (g:LA) (h:Bool) (d:Nat) (i:LA) (k1:Nat→LA→LA→O R) (q2:Nat→LA→Int→O R) (a:Nat) (l b:LA):O R :=
 (cond (ble 2 (l.length)) (Qh N (l.take 2) false fun am=>cond (decide (am>0)) (cond (ble 2 (l.length)) (Vv N (l.take 2) false [(.bool f),(.imm (g.take (c*1)) c 1 false true)] true fun t w ay=>cond ((beq 0 0)&&((beq (t.length) 2)&&(beq 2 2))) (cond ((beq 0 0)&&((beq (w.length) 2)&&(beq 2 2))) (cond (ble 2 (w.length)) (DN N (w.take 2) false fun an az=>cond ((ble (a+1) 140737488355328)&&(ble ((a+1)*8) 140737488355328)) (cond (ble 2 (t.length)) (cond ((beq ((t.take 2).length) 2)&&((ble 2 (l.length))&&(!false))) (k1 (a+1) (setCells l 0 (t.take 2)) ((b.take (a*1))++[(.int .i64 an)])) none) none) none) none) none) none) none) (cond ((a:Int)==0) (r0 ([48]:Lu)) (q2 a b (a:Int)))) none)
def Tv (r0:Lu→O R) (f:Bool) (c:Nat) (g:LA) (h:Bool) (d:Nat) (i:LA):Nat→Nat→LA→LA→O R
 | 0,_,_,_=>none
 | n+1,a,l,b=>HI N r0 f c g h d i (Tv r0 f c g h d i n) (fun a b=>Tu N r0 a b N) a l b
def HJ (r0:Lu→O R) (f:Bool) (c:Nat) (h:Bool) (d:Nat) (g i:LA) (k0:O R) (k1:Nat→LA→LA→O R):O R :=
 (Qh N [(.bool h),(.imm (i.take (d*1)) d 1 false true)] true fun ao=>cond (decide (ao>0)) (Vv N [(.bool h),(.imm (i.take (d*1)) d 1 false true)] true [(.bool f),(.imm (g.take (c*1)) c 1 false true)] true fun u x ba=>cond ((beq 0 0)&&((beq (u.length) 2)&&(beq 2 2))) (cond ((beq 0 0)&&((beq (x.length) 2)&&(beq 2 2))) (cond (ble 2 (x.length)) (DN N (x.take 2) false fun ap bb=>cond (ble 2 (u.length)) (cond ((beq 0 0)&&((beq ((u.take 2).length) 2)&&(beq 2 2))) (k1 1 (u.take 2) [(.int .i64 ap)]) none) none) none) none) none) (r0 ([48]:Lu)))
def Ow (r0:Lu→O R) (f:Bool) (c:Nat) (h:Bool) (d:Nat) (g i:LA):Nat→O R
 | 0=>none
 | n+1=>HJ N r0 f c h d g i (Ow r0 f c h d g i n) (Tv N r0 f c g h d i n)
def OH (r0:Lu→O R) (q0:Bool→Nat→Bool→Nat→LA→LA→O R) (m:LA) (o:Bool):O R :=
 (Iy N 10 fun aq y ar=>KD N [(.bool aq),(.imm (ar.take (y*1)) y 1 false true)] true 9 fun f c g=>cond (ble 2 (m.length)) (Abl N (m.take 2) o fun h d i=>q0 f c h d g i) none)
def KH:=(Af fun N m o r0=>OH (R:=R) N r0 (fun f c h d g i=>Ow N r0 f c h d g i N) m o).1
theorem aG (m o r0):(@KH R N m o r0)=(OH N r0 (fun f c h d g i=>Ow N r0 f c h d g i N) m o):=by rw[KH,(Af _).2]
def gn:Hints:={ H:=(hK 4 (hS (hS (hP [3,4,5] hL) hL) (hK 2 (hS (hK 1 (hS (hP [5,11,42,43] hL) hL)) hL)))),nils:=[(5,1)] }
def Lp:=At6 (YG N) (YH N) (Eq.refl 118)
def Ue:=At6 (uD N) (uE N) (Eq.refl 40)
def nU:N0:=[AD N,uC N,Asb N,JM N,Af2 N,Aj5 N,Ng N,Lp N,Ue N,Vi N]
def AL (F:KF R):=Hh Tryz.f232 gn (nU N) [] N F
def Ab8 (a:Nat) (b:LA) (K:St→O R):=fun p j q r=>K ⟨[(5,(.own 300000 0 a)),(11,(op 1)),(42,(iv p)),(43,(iv j))],(hq [(bQ 1 b),⟨false,false,false,false,0,[(op 1),(.own 300002 0 q)],false,(some (111,2))⟩,⟨false,false,true,false,1,r,false,(some (5,0))⟩])⟩
def Ab9 (a:Nat) (b:LA) (K:St→O R):=fun s=>K ⟨[(5,(.own 300000 0 a)),(11,(op 1)),(42,(iv s)),(43,(iv 0))],(hq [(bQ 1 b),⟨false,false,false,false,0,[.nilptr,.nsl],false,(some (111,2))⟩])⟩
def Aca (f:Bool) (c:Nat) (g:LA) (h:Bool) (d:Nat) (i:LA) (K:St→O R):=fun a l b=>K ⟨[(3,(op 0)),(4,(op 1)),(5,(.own 300002 0 a))],(hq [(bN 0 [(.bool f),(.own 300003 0 c)]),(bQ 0 l),(bQ 1 b),(bQ 1 g)])⟩
def Acb (f:Bool) (c:Nat) (h:Bool) (d:Nat) (g i:LA) (K:St→O R):=K ⟨[(3,(op 0)),(4,(op 1)),(5,(.own 300002 0 0))],(hq [(bN 0 [(.bool f),(.own 300003 0 c)]),(bN 0 [(.bool h),(.own 300004 0 d)]),(bQ 1 []),(bQ 1 g),(bQ 1 i)])⟩
theorem pD (F:KF R) (a b):∀ n,Ab8 a b (Ao (AL N F (pz 1398084) []) n)=(Tt N (GU F) a b n):=D3 fun n e=>(Bn (HG N (GU F) a b) e:_)
theorem pE (F:KF R) (a b):∀ n,Ab9 a b (Ao (AL N F (pz 1398084) []) n)=(Tu N (GU F) a b n):=D3 fun n e=>(Yq (HH N (GU F) a b) e (pD ..):_)
theorem pF (F:KF R) (f c g h d i):∀ n,Aca f c g h d i (Ao (AL N F (pz 5456) []) n)=(Tv N (GU F) f c g h d i n):=D3 fun n e=>(Yq (HI N (GU F) f c g h d i) e (vP fun a b=>(lW ..).trans (pE ..)):_)
theorem pG (F:KF R) (f c h d g i):∀ n,Acb f c h d g i (Ao (AL N F (pz 5456) []) n)=(Ow N (GU F) f c h d g i n):=D3 fun n e=>(Yq (HJ N (GU F) f c h d g i) e (pF ..):_)
def Agq:=Bj N 232 (nU N) gn (fun
 | [(.pagg m o)],[]=>some fun _ k=>KH N m o (GU k)
 | _,_=>none) fun _ _=>by split;intro R F;exact(Bn (OH N (GU F) · _ _) (Ayg fun f c h d g i=>(lW ..).trans (pG ..)):_).trans (aG ..).symm;trivial
def Lq (r0:Lu→O R) (b:Int) (d:Bool) (c:LA) (a:Lu):O R :=
 (cond ((decide ((0:Int)≤(0:Int)))&&((decide (0≤(wrap .i64 ((((a.length):Nat):Int) - b))))&&((decide ((wrap .i64 ((((a.length):Nat):Int) - b))≤(((a.length):Nat):Int)))&&(decide ((((a.length):Nat):Int)≤(((a.length):Nat):Int)))))) (cond (ble ((List.length (take ((wrap .i64 ((((a.length):Nat):Int) - b)).toNat) a))+1) 140737488355328) (cond ((decide (0≤(wrap .i64 ((((a.length):Nat):Int) - b))))&&((decide ((wrap .i64 ((((a.length):Nat):Int) - b))≤(((a.length):Nat):Int)))&&((decide ((((a.length):Nat):Int)≤(((a.length):Nat):Int)))&&(decide ((((a.length):Nat):Int)≤(((a.length):Nat):Int)))))) (cond (ble ((List.length ((take ((wrap .i64 ((((a.length):Nat):Int) - b)).toNat) a)++([46]:Lu)))+(List.length (take ((a.length) - ((wrap .i64 ((((a.length):Nat):Int) - b)).toNat)) (drop ((wrap .i64 ((((a.length):Nat):Int) - b)).toNat) a)))) 140737488355328) (cond (ble 2 (c.length)) (Qh N (c.take 2) d fun g=>cond (decide (g<0)) (cond (ble (1+(List.length (((take ((wrap .i64 ((((a.length):Nat):Int) - b)).toNat) a)++([46]:Lu))++(take ((a.length) - ((wrap .i64 ((((a.length):Nat):Int) - b)).toNat)) (drop ((wrap .i64 ((((a.length):Nat):Int) - b)).toNat) a))))) 140737488355328) (r0 (([45]:Lu)++(((take ((wrap .i64 ((((a.length):Nat):Int) - b)).toNat) a)++([46]:Lu))++(take ((a.length) - ((wrap .i64 ((((a.length):Nat):Int) - b)).toNat)) (drop ((wrap .i64 ((((a.length):Nat):Int) - b)).toNat) a))))) none) (r0 (((take ((wrap .i64 ((((a.length):Nat):Int) - b)).toNat) a)++([46]:Lu))++(take ((a.length) - ((wrap .i64 ((((a.length):Nat):Int) - b)).toNat)) (drop ((wrap .i64 ((((a.length):Nat):Int) - b)).toNat) a))))) none) none) none) none) none)
def Xa (r0:Lu→O R) (q0:Lu→O R) (c:LA) (d:Bool) (b:Int):O R :=
 (cond (ble 2 (c.length)) (KH N (c.take 2) d fun e=>cond (decide (b>0)) (cond (decide ((((e.length):Nat):Int)≤b)) (strings_Repeat N ([48]:Lu) (wrap .i64 ((wrap .i64 (b+1)) - (((e.length):Nat):Int))) fun f=>cond (ble ((f.length)+(e.length)) 140737488355328) (q0 (f++e)) none) (q0 e)) (cond (ble 2 (c.length)) (Qh N (c.take 2) d fun h=>cond (decide (h<0)) (cond (ble (1+(e.length)) 140737488355328) (r0 (([45]:Lu)++e)) none) (r0 e)) none)) none)
def Tx:=(Af fun N c d b r0=>Xa (R:=R) N r0 (Lq N r0 b d c) c d b).1
theorem KI (c d b r0):(@Tx R N c d b r0)=(Xa N r0 (Lq N r0 b d c) c d b):=by rw[Tx,(Af _).2]
def QN:Hints:={ H:=(hK 2 (hS (hK 1 (hS (hJ [1,2,5] hL hL) hL)) hL)) }
def UM:N0:=[Agq N,Vi N,JM N]
def pH (F:KF R):=Hh Tryz.f214 QN (UM N) [] N F
def pI (b:Int) (d:Bool) (c:LA) (K:St→O R):=fun a=>K ⟨[(1,(iv b)),(2,(op 0)),(5,(.str a))],(hq [(bP d 0 c)])⟩
theorem dN (F:KF R) (b d c):pI b d c (A0 (pH N F (pz 5393) []))=(Lq N (GU F) b d c):=by kernel_rfl
def uF:=Bj N 214 (UM N) QN (fun
 | [(.pagg c d),(.int .i64 b)],[]=>some fun _ k=>Tx N c d b (GU k)
 | _,_=>none) fun _ _=>by split;intro R F;exact(Bn (Xa N (GU F) · _ _ _) ((jW ..).trans (dN ..)):_).trans (KI ..).symm;trivial
def HK (a:LA) (b:Bool) (r0:Lu→O R):O R :=
 (cond (ble 2 (a.length)) (Tx N (a.take 2) b 0 fun c=>r0 c) none)
def Ia:=(Af (@HK R)).1
theorem KJ:@Ia R=@HK R:=(Af _).2
def uG:=Bj N 190 [uF N] Bg (fun
 | [(.pagg a b)],[]=>some fun _ k=>Ia N a b (GU k)
 | _,_=>none) fun _ _=>by split;intro R F;dsimp only;rw[KJ];kernel_rfl;trivial
def HL (a:LA) (b:Bool) (r0:Lu→O R):O R :=
 (cond (ble 3 (a.length)) (WW N (a.take 3) b fun c=>cond ((beq (c.length) 3)&&((ble 3 (a.length))&&(!false))) (Aw 1 ((setCells a 0 c).drop 2) fun e f=>Iy N 1 fun i g j=>NS N [(.bool false),(.imm e f 1 false (b||false))] ((b||false)||false) [(.bool i),(.imm (j.take (g*1)) g 1 false true)] true fun l=>cond (l==0) (cond (ble 2 ((setCells a 0 c).length)) (Ia N ((setCells a 0 c).take 2) (b||false) fun m=>r0 m) none) (cond (ble 2 ((setCells a 0 c).length)) (Ia N ((setCells a 0 c).take 2) (b||false) fun d=>cond (ble ((d.length)+1) 140737488355328) (Ia N [(.bool false),(.imm e f 1 false (b||false))] ((b||false)||false) fun h=>cond (ble ((List.length (d++([47]:Lu)))+(h.length)) 140737488355328) (r0 ((d++([47]:Lu))++h)) none) none) none)) none) none)
def La:=(Af (@HL R)).1
theorem KK:@La R=@HL R:=(Af _).2
def UN:=Bj N 163 [kK N,AD N,Abi N,uG N] Bg (fun
 | [(.pagg a b)],[]=>some fun _ k=>La N a b (GU k)
 | _,_=>none) fun _ _=>by split;intro R F;dsimp only;rw[KK];kernel_rfl;trivial
end
end Gx
