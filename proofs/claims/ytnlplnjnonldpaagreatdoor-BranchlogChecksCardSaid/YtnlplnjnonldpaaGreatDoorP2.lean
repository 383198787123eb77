/- A part of the proof; each theorem says what it holds. -/
import Derived.Shelf.Strings.Repeat
import Derived.Shelf.Strings.Split
import Derived.Shelf.Strings.Cut
import Derived.Shelf.Strconv.AtoiAll
import Derived.Shelf.Strconv.Itoa3
import Derived.Shelf.LaysM
import Derived.Shelf.LaysC
import Derived.Lib.RepeatB
import Derived.Test.YtnlplnjnonldpaaGreatDoorP1
set_option linter.unusedVariables false
set_option linter.defProp false
set_option linter.unusedSimpArgs false
open Nat (ble beq)
open List (take drop replicate)
open Go.IntKind (wrap)
namespace Gx
open Go Go.Proofs
set_option maxRecDepth 100000
noncomputable section
variable {R:Type} (N:Nat)
def EM (k0:Int→Int→Bool→LA→O R) (r0:Bool→LA→O R) (a:LA) (c:Nat) (b:Bool) (f:Int) (g d:LA) (s:Int) (t:Bool) (u:LA):O R :=
 (An .i64 (g.drop 9) fun x=>A0 N 6 x 0 1048576 t u fun y z=>An .i64 (g.drop 10) fun aa=>An .i64 (g.drop 9) fun ab=>A0 N 7 aa ab 1048576 y z fun ac ad=>Az 1 (g.drop 11) fun ae af=>GT N 8 ae af false b ac ad fun ag ah=>k0 f (wrap .i64 (s+1)) ag ah)
def Zu (k0:Int→Int→Bool→LA→O R) (r0:Bool→LA→O R) (a:LA) (c:Nat) (b:Bool) (f:Int) (g d:LA) (q3:Int→Bool→LA→O R) (i:Int) (j:Bool) (l:LA):O R :=
 (cond (ble 2 ((g.drop 7).length)) (cond ((!b)||(Aw ((g.drop 7).take 2))) (Ud N ((g.drop 7).take 2) false fun ai=>cond (ai==true) (An .i64 (g.drop 7) fun aj=>Aq N (cond true (decide (aj≥0)) false) 5 3 j l fun ak al=>q3 i ak al) (Aq N false 5 3 j l fun am an=>q3 i am an)) none) none)
def EN (k0:Int→Int→Bool→LA→O R) (r0:Bool→LA→O R) (a:LA) (c:Nat) (b:Bool) (f:Int) (g d:LA) (i:Int) (j:Bool) (l:LA):O R:=(Zu N k0 r0 a c b f g d (EM N k0 r0 a c b f g d) i j l)
def Zv (k0:Int→Int→Bool→LA→O R) (r0:Bool→LA→O R) (a:LA) (c:Nat) (b:Bool) (f:Int) (d:LA) (q2:LA→Int→Bool→LA→O R) (m:Int) (o:Bool) (p g:LA):O R :=
 (cond (ble 2 ((g.drop 5).length)) (cond ((!b)||(Aw ((g.drop 5).take 2))) (Ud N ((g.drop 5).take 2) false fun ao=>cond (ao==true) (An .i64 (g.drop 5) fun ap=>Aq N (cond true (decide (ap≤0)) false) 4 3 o p fun aq ar=>q2 g m aq ar) (Aq N false 4 3 o p fun au av=>q2 g m au av)) none) none)
def Vs (k0:Int→Int→Bool→LA→O R) (r0:Bool→LA→O R) (a:LA) (c:Nat) (b:Bool) (f:Int) (d:LA) (m:Int) (o:Bool) (p g:LA):O R:=(Zv N k0 r0 a c b f d (fun g=>EN N k0 r0 a c b f g d) m o p g)
def So (r0:Bool→LA→O R) (a:LA) (c:Nat) (b:Bool) (d:LA) (k0:Int→Int→Bool→LA→O R) (q1:Int→Int→Bool→LA→LA→O R) (f h:Int) (q:Bool) (r:LA):O R :=
 (cond (decide (h<f)) (cond (Af h c) (cond (ble 12 ((a.drop ((h.toNat)*12)).length)) (cond ((beq 0 0)&&((beq (((a.drop ((h.toNat)*12)).take 12).length) 12)&&(beq 12 12))) (EG N 2 h q r fun aw ax=>IP ((a.drop ((h.toNat)*12)).take 12) fun ay=>Uc N ay aw ax fun az ba=>An .i64 (((a.drop ((h.toNat)*12)).take 12).drop 1) fun bb=>EL N 1 bb az ba fun bc bd=>An .i64 (((a.drop ((h.toNat)*12)).take 12).drop 2) fun be=>EL N 2 be bc bd fun bf bg=>An .i64 (((a.drop ((h.toNat)*12)).take 12).drop 2) fun bh=>An .i64 (((a.drop ((h.toNat)*12)).take 12).drop 1) fun bi=>Aq N (bh != bi) 2 1 bf bg fun v w=>cond (ble 2 ((((a.drop ((h.toNat)*12)).take 12).drop 3).length)) (cond ((!b)||(Aw ((((a.drop ((h.toNat)*12)).take 12).drop 3).take 2))) (Ud N ((((a.drop ((h.toNat)*12)).take 12).drop 3).take 2) false fun bj=>cond (bj==true) (An .i64 (((a.drop ((h.toNat)*12)).take 12).drop 3) fun bk=>Aq N (cond true (decide (bk>0)) false) 3 3 v w fun bl bm=>q1 f h bl bm ((a.drop ((h.toNat)*12)).take 12)) (Aq N false 3 3 v w fun bn bo=>q1 f h bn bo ((a.drop ((h.toNat)*12)).take 12))) none) none) none) none) none) (r0 q r))
def Hk (r0:Bool→LA→O R) (a:LA) (c:Nat) (b:Bool) (d:LA):Nat→Int→Int→Bool→LA→O R
 | 0,_,_,_,_=>none
 | n+1,f,h,q,r=>(So N r0 a c b d (Hk r0 a c b d n) (fun f=>Vs N (Hk r0 a c b d n) r0 a c b f d) f h q r)
def GU (N:Nat) (r0:Bool→LA→O R) (q0:LA→Nat→Int→Int→Bool→LA→O R) (b:Bool) (d:LA):O R :=
 (Az 12 (d.drop 3) fun a c=>q0 a c (c:Int) 0 b d)
def X6:=(Ai fun N b d r0=>GU (R:=R) N r0 (fun a c=>Hk N r0 a c b d N) b d).1
theorem OF (b d e):(@X6 R N b d e)=(GU N e (fun a c=>Hk N e a c b d N) b d):=by rw[X6,(Ai _).2]
def WF:Hints:={ H:=(hK 2 (hS (hP [1,8,9,10] (hK 2 (hS (hS (hK 6 (hJ [1,3,8,9,10] hL (hJ [1,3,8,9,10] hL (hJ [1,3,8,9,10] hL hL)))) hL) hL))) hL)) }
def dQ:Qr:=[Vm N,kK N,OC N,Cp N,dO N,Gb N,i_ N]
def Vt (F:KF R):=Jd Tryz.f92 WF (dQ N) [100000] N F
def nD (a:LA) (c:Nat) (b:Bool) (f:Int) (g d:LA) (K:St→O R):=fun s t u=>K ⟨[(1,(op 0)),(3,(op 1)),(8,(.imm a c 12 false b)),(9,(iv f)),(10,(iv s))],[(100000,(bP t 0 u)),(300000,(bN 0 [(.optr 100000 0)])),(300001,(bP b 0 g))]⟩
def nE (a:LA) (c:Nat) (b:Bool) (f:Int) (g d:LA) (K:St→O R):=fun i j l=>K ⟨[(1,(op 0)),(3,(op 1)),(8,(.imm a c 12 false b)),(9,(iv f)),(10,(iv i))],[(100000,(bP j 0 l)),(300000,(bN 0 [(.optr 100000 0)])),(300001,(bP b 0 g))]⟩
def nF (a:LA) (c:Nat) (b:Bool) (f:Int) (d:LA) (K:St→O R):=fun m o p g=>K ⟨[(1,(op 0)),(3,(op 1)),(8,(.imm a c 12 false b)),(9,(iv f)),(10,(iv m))],[(100000,(bP o 0 p)),(300000,(bN 0 [(.optr 100000 0)])),(300001,(bP b 0 g))]⟩
def My (a:LA) (c:Nat) (b:Bool) (d:LA) (K:St→O R):=fun f h q r=>K ⟨[(1,(op 0)),(8,(.imm a c 12 false b)),(9,(iv f)),(10,(iv h))],[(100000,(bP q 0 r)),(300000,(bN 0 [(.optr 100000 0)]))]⟩
theorem dR (Q0) (F:KF R) (a c b f g d):nD a c b f g d (Bv (Vt N F (pz 22569637205) [Q0]))=(EM N (My a c b d Q0) (Ca F) a c b f g d):=by kernel_rfl
theorem dS (Q0) (F:KF R) (a c b f g d):nE a c b f g d (Bv (Vt N F (pz 5642409301) [Q0]))=(EN N (My a c b d Q0) (Ca F) a c b f g d):=(By (Zu N (My a c b d Q0) (Ca F) a c b f g d) ((jW ..).trans (dR ..)):_)
theorem dT (Q0) (F:KF R) (a c b f d):nF a c b f d (Bv (Vt N F (pz 1410602325) [Q0]))=(Vs N (My a c b d Q0) (Ca F) a c b f d):=(By (Zv N (My a c b d Q0) (Ca F) a c b f d) (fi fun g=>(jW ..).trans (dS ..)):_)
theorem dU (F:KF R) (a c b d):∀ n,My a c b d (Am (Vt N F (pz 84) []) n)=(Hk N (Ca F) a c b d n):=Fc fun n e=>(MW (So N (Ca F) a c b d) e (fi fun f=>(jW ..).trans ((dT ..).trans (oY (Vs _ · _ _ _ _ _ _) e))):_)
def pp:=Dq N 92 (dQ N) WF (fun
 | [(.optr 100000 0)],[(100000,⟨false,false,true,b,0,d,false,none⟩)]=>some fun _ k=>(X6 N b d (Ca k))
 | _,_=>none) fun _ _=>by split;intro R F;exact(By (GU N (Ca F) · _ _) (fj fun a c=>(lW ..).trans (dU ..)):_).trans (OF ..).symm;trivial
def Wu (N:Nat) (a:Int) (c:Bool) (b:LA) (r0:Lu→O R):O R :=
 (Az 22 (b.drop 4) fun d e=>cond (Af a e) (IP (d.drop ((a.toNat)*22)) fun f=>r0 f) none)
def Sp:=(Ai (@Wu R)).1
theorem X7:@Sp R=@Wu R:=(Ai _).2
def dV:=Dq N 146 [] G2 (fun
 | [(.int .i64 a),(.optr 100000 0)],[(100000,⟨false,false,false,false,0,[(.optr 100001 0)],false,none⟩),(100001,⟨false,false,true,c,0,b,false,none⟩)]=>some fun _ k=>(Sp N a c b (sJ c b k))
 | _,_=>none) fun _ _=>by split;intro R F;dsimp only;rw[X7];kernel_rfl;trivial
def Jx (r0:Bool→LA→O R) (a:Lu) (b:Int) (k0:Int→Bool→LA→O R) (h:Int) (d:Bool) (c:LA):O R :=
 (cond (decide (h<b)) (An .i64 (c.drop 11) fun j=>cond (j != 0) (r0 d c) (Sp N h d c fun l=>Aq N (!(l==a)) 0 10 d c fun m o=>k0 (wrap .i64 (h+1)) m o)) (r0 d c))
def E4 (r0:Bool→LA→O R) (a:Lu) (b:Int):Nat→Int→Bool→LA→O R
 | 0,_,_,_=>none
 | n+1,h,d,c=>(Jx N r0 a b (E4 r0 a b n) h d c)
def Vu (r0:Bool→LA→O R) (q0:Int→Int→Bool→LA→O R) (a:Lu) (f:Bool) (g:LA):O R :=
 (Pz N a fun p=>Aq N p 0 9 f g fun q i=>An .i64 (i.drop 9) fun b=>q0 b 0 q i)
def Uf:=(Ai fun N a f g r0=>Vu (R:=R) N r0 (fun b=>E4 N r0 a b N) a f g).1
theorem EO (a f g d):(@Uf R N a f g d)=(Vu N d (fun b=>E4 N d a b N) a f g):=by rw[Uf,(Ai _).2]
def OG:Qr:=[Tl N,Cp N,dV N]
def gR (F:KF R):=Jd Tryz.f140 BP (OG N) [100000,100001] N F
def gS (a:Lu) (b:Int) (K:St→O R):=fun h d c=>K ⟨[(0,(.optr 100000 0)),(1,(.str a)),(2,(.fn 146 [(.optr 100001 0)])),(15,(iv b)),(16,(iv h))],[(100000,(bP d 0 c)),(100001,(bN 0 [(.optr 100000 0)]))]⟩
theorem SZ (F:KF R) (a b):∀ n,gS a b (Am (gR N F (pz 84) []) n)=(E4 N (Se F) a b n):=Fc fun n e=>(By (Jx N (Se F) a b) e:_)
def kM:=Dq N 140 (OG N) BP (fun
 | [(.optr 100000 0),(.str a),(.fn 146 [(.optr 100001 0)])],[(100000,⟨false,false,true,f,0,g,false,none⟩),(100001,⟨false,false,false,false,0,[(.optr 100000 0)],false,none⟩)]=>some fun _ k=>(Uf N a f g (Se k))
 | _,_=>none) fun _ _=>by split;intro R F;exact(By (Vu N (Se F) · _ _ _) (fi fun b=>(lW ..).trans (SZ ..)):_).trans (EO ..).symm;trivial
def Iu (r0:Bool→LA→O R) (d:Int) (b:Bool) (a:LA) (k1:Int→Bool→LA→O R) (h:Int) (l:Bool) (m:LA):O R :=
 (Az 2 (a.drop 4) fun ap t=>cond (decide (h<(t:Int))) (Az 2 (a.drop 4) fun u v=>cond (Af h v) (An .i64 ((u.drop ((h.toNat)*2)).drop 1) fun w=>Az 2 (a.drop 4) fun x y=>cond (Af (wrap .i64 (h - 1)) y) (An .i64 ((x.drop (((wrap .i64 (h - 1)).toNat)*2)).drop 1) fun z=>Aq N (decide (w≥z)) 4 11 l m fun aa ab=>k1 (wrap .i64 (h+1)) aa ab) none) none) (An .i64 (a.drop 3) fun ac=>An .i64 (a.drop 2) fun ad=>Aq N (d==(wrap .i64 (ac - ad))) 4 4 l m fun ae af=>r0 ae af))
def Fk (r0:Bool→LA→O R) (d:Int) (b:Bool) (a:LA):Nat→Int→Bool→LA→O R
 | 0,_,_,_=>none
 | n+1,h,l,m=>(Iu N r0 d b a (Fk r0 d b a n) h l m)
def L9 (r0:Bool→LA→O R) (c:LA) (f:Nat) (b:Bool) (a:LA) (k0:Int→Int→Int→Bool→LA→O R) (q1:Int→Int→Bool→LA→O R) (d o g:Int) (p:Bool) (q:LA):O R :=
 (cond (decide (g<o)) (cond (Af g f) (cond (ble 2 ((c.drop ((g.toNat)*2)).length)) (cond ((!b)||(Aw ((c.drop ((g.toNat)*2)).take 2))) (cond ((beq (((c.drop ((g.toNat)*2)).take 2).length) 2)&&((ble 2 2)&&(!false))) (An .i64 (setCells [(.int .i64 0),(.int .i64 0)] 0 ((c.drop ((g.toNat)*2)).take 2)) fun ag=>A0 N 4 ag 1 1048576 p q fun ah ai=>An .i64 ((setCells [(.int .i64 0),(.int .i64 0)] 0 ((c.drop ((g.toNat)*2)).take 2)).drop 1) fun aj=>A0 N 4 aj (-1048576) 1048576 ah ai fun ak al=>An .i64 (setCells [(.int .i64 0),(.int .i64 0)] 0 ((c.drop ((g.toNat)*2)).take 2)) fun am=>k0 (wrap .i64 (d+am)) o (wrap .i64 (g+1)) ak al) none) none) none) none) (q1 d 1 p q))
def Fl (r0:Bool→LA→O R) (c:LA) (f:Nat) (b:Bool) (a:LA):Nat→Int→Int→Int→Bool→LA→O R
 | 0,_,_,_,_,_=>none
 | n+1,d,o,g,p,q=>(L9 N r0 c f b a (Fl r0 c f b a n) (fun d=>Fk N r0 d b a N) d o g p q)
def Sq (r0:Bool→LA→O R) (q0:LA→Nat→Int→Int→Int→Bool→LA→O R) (a:LA) (b i:Bool) (j:LA):O R :=
 (Az 2 (a.drop 4) fun aq an=>Aq N (decide ((an:Int)≤8)) 4 8 i j fun s r=>An .i64 (r.drop 11) fun ao=>cond (ao != 0) (r0 s r) (Az 2 (a.drop 4) fun c f=>q0 c f 0 (f:Int) 0 s r))
def Mz:=(Ai fun N a b i j r0=>Sq (R:=R) N r0 (fun c f=>Fl N r0 c f b a N) a b i j).1
theorem BR (a b i j d):(@Mz R N a b i j d)=(Sq N d (fun c f=>Fl N d c f b a N) a b i j):=by rw[Mz,(Ai _).2]
def EP:Hints:={ H:=(hK 4 (hS (hK 1 (hS (hP [0,3,4,20,21,22] hL) hL)) (hS (hK 1 (hS (hP [0,3,4,7] hL) hL)) hL))) }
def JE:Qr:=[Cp N,Gb N]
def EQ (F:KF R):=Jd Tryz.f147 EP (JE N) [100000] N F
def dW (d:Int) (b:Bool) (a:LA) (K:St→O R):=fun h l m=>K ⟨[(0,(.optr 100000 0)),(3,(op 0)),(4,(iv d)),(7,(iv h))],[(100000,(bP l 0 m)),(300000,(bP b 0 a))]⟩
def dX (c:LA) (f:Nat) (b:Bool) (a:LA) (K:St→O R):=fun d o g p q=>K ⟨[(0,(.optr 100000 0)),(3,(op 0)),(4,(iv d)),(20,(.imm c f 2 false b)),(21,(iv o)),(22,(iv g))],[(100000,(bP p 0 q)),(300000,(bP b 0 a))]⟩
theorem OH (F:KF R) (d b a):∀ n,dW d b a (Am (EQ N F (pz 87364) []) n)=(Fk N (Ca F) d b a n):=Fc fun n e=>(By (Iu N (Ca F) d b a) e:_)
theorem OI (F:KF R) (c f b a):∀ n,dX c f b a (Am (EQ N F (pz 21828) []) n)=(Fl N (Ca F) c f b a n):=Fc fun n e=>(MW (L9 N (Ca F) c f b a) e (fi fun d=>(lW ..).trans (OH ..)):_)
def gT:=Dq N 147 (JE N) EP (fun
 | [(.optr 100000 0),(.pagg a b)],[(100000,⟨false,false,true,i,0,j,false,none⟩)]=>some fun _ k=>(Mz N a b i j (Ca k))
 | _,_=>none) fun _ _=>by split;intro R F;exact(By (Sq N (Ca F) · _ _ _ _) (fj fun c f=>(lW ..).trans (OI ..)):_).trans (BR ..).symm;trivial
def ER (k0:Int→Int→Bool→LA→O R) (r0:Bool→LA→O R) (a:LA) (c:Nat) (b:Bool) (g:Int) (h d:LA) (s:Int) (t:Bool) (u:LA):O R :=
 (An .i64 (h.drop 19) fun z=>cond (z==2) (An .i64 (h.drop 21) fun aa=>An .i64 (h.drop 2) fun ab=>An .i64 (h.drop 3) fun ac=>A0 N 21 aa ab ac t u fun ad ae=>k0 g (wrap .i64 (s+1)) ad ae) (An .i64 (h.drop 21) fun af=>A0 N 21 af 0 0 t u fun ag ah=>k0 g (wrap .i64 (s+1)) ag ah))
def Zw (k0:Int→Int→Bool→LA→O R) (r0:Bool→LA→O R) (a:LA) (c:Nat) (b:Bool) (g:Int) (h d:LA) (q3:Int→Bool→LA→O R) (i:Int) (q:Bool) (r:LA):O R :=
 (An .i64 (h.drop 20) fun ai=>A0 N 20 ai 1 48 q r fun x y=>An .i64 (h.drop 19) fun aj=>cond ((aj != 1)==false) (An .i64 (h.drop 20) fun ak=>An .i64 (h.drop 12) fun al=>Aq N (cond false true (decide (ak≤al))) 20 3 x y fun am an=>q3 i am an) (Aq N true 20 3 x y fun ao ap=>q3 i ao ap))
def ES (k0:Int→Int→Bool→LA→O R) (r0:Bool→LA→O R) (a:LA) (c:Nat) (b:Bool) (g:Int) (h d:LA) (i:Int) (q:Bool) (r:LA):O R:=(Zw N k0 r0 a c b g h d (ER N k0 r0 a c b g h d) i q r)
def Zx (k0:Int→Int→Bool→LA→O R) (r0:Bool→LA→O R) (a:LA) (c:Nat) (b:Bool) (g:Int) (d:LA) (q2:LA→Int→Bool→LA→O R) (j:Int) (l:Bool) (m h:LA):O R :=
 (An .i64 (h.drop 19) fun aq=>cond ((aq != 1)==false) (An .i64 (h.drop 12) fun ar=>Aq N (cond false true (ar != 0)) 19 16 l m fun au av=>q2 h j au av) (Aq N true 19 16 l m fun aw ax=>q2 h j aw ax))
def Vv (k0:Int→Int→Bool→LA→O R) (r0:Bool→LA→O R) (a:LA) (c:Nat) (b:Bool) (g:Int) (d:LA) (j:Int) (l:Bool) (m h:LA):O R:=(Zx N k0 r0 a c b g d (fun h=>ES N k0 r0 a c b g h d) j l m h)
def Sr (r0:Bool→LA→O R) (a:LA) (c:Nat) (b:Bool) (d:LA) (k0:Int→Int→Bool→LA→O R) (q1:Int→Int→Bool→LA→LA→O R) (g f:Int) (o:Bool) (p:LA):O R :=
 (cond (decide (f<g)) (cond (Af f c) (cond (ble 22 ((a.drop ((f.toNat)*22)).length)) (cond ((beq 0 0)&&((beq (((a.drop ((f.toNat)*22)).take 22).length) 22)&&(beq 22 22))) (EG N 3 f o p fun ay az=>IP ((a.drop ((f.toNat)*22)).take 22) fun ba=>Uf N ba ay az fun bb bc=>An .i64 (((a.drop ((f.toNat)*22)).take 22).drop 1) fun bd=>EL N 1 bd bb bc fun be bf=>An .i64 (((a.drop ((f.toNat)*22)).take 22).drop 2) fun bg=>A0 N 2 bg 0 1048576 be bf fun bh bi=>An .i64 (((a.drop ((f.toNat)*22)).take 22).drop 3) fun bj=>An .i64 (((a.drop ((f.toNat)*22)).take 22).drop 2) fun bk=>A0 N 3 bj bk 1048576 bh bi fun bl bm=>cond (ble 22 (((a.drop ((f.toNat)*22)).take 22).length)) (Mz N (((a.drop ((f.toNat)*22)).take 22).take 22) b bl bm fun bn bo=>An .i64 (((a.drop ((f.toNat)*22)).take 22).drop 5) fun bp=>A0 N 5 bp 0 1048576 bn bo fun bq br=>An .i64 (((a.drop ((f.toNat)*22)).take 22).drop 6) fun bs=>A0 N 6 bs 0 1048576 bq br fun bt bu=>An .i64 (((a.drop ((f.toNat)*22)).take 22).drop 7) fun bv=>A0 N 7 bv 0 1048576 bt bu fun bw bx=>An .i64 (((a.drop ((f.toNat)*22)).take 22).drop 8) fun bz=>An .i64 (((a.drop ((f.toNat)*22)).take 22).drop 2) fun ca=>An .i64 (((a.drop ((f.toNat)*22)).take 22).drop 3) fun cb=>A0 N 8 bz ca cb bw bx fun cc cd=>An .i64 (((a.drop ((f.toNat)*22)).take 22).drop 9) fun ce=>An .i64 (((a.drop ((f.toNat)*22)).take 22).drop 2) fun cf=>An .i64 (((a.drop ((f.toNat)*22)).take 22).drop 3) fun cg=>A0 N 9 ce cf cg cc cd fun ch ci=>An .i64 (((a.drop ((f.toNat)*22)).take 22).drop 10) fun cj=>A0 N 10 cj 0 24 ch ci fun ck cl=>An .i64 (((a.drop ((f.toNat)*22)).take 22).drop 11) fun cm=>A0 N 11 cm 0 24 ck cl fun cn co=>An .i64 (((a.drop ((f.toNat)*22)).take 22).drop 12) fun cp=>A0 N 12 cp 0 24 cn co fun cq cr=>An .i64 (((a.drop ((f.toNat)*22)).take 22).drop 13) fun cs=>A0 N 13 cs 0 1048576 cq cr fun ct cu=>An .i64 (((a.drop ((f.toNat)*22)).take 22).drop 14) fun cv=>A0 N 14 cv 0 1048576 ct cu fun cw cx=>An .i64 (((a.drop ((f.toNat)*22)).take 22).drop 15) fun cy=>A0 N 15 cy 0 24 cw cx fun cz da=>An .i64 (((a.drop ((f.toNat)*22)).take 22).drop 16) fun db=>A0 N 16 db 0 1048576 cz da fun dc dd=>An .i64 (((a.drop ((f.toNat)*22)).take 22).drop 17) fun de=>A0 N 17 de 0 1048576 dc dd fun df dg=>Az 1 (((a.drop ((f.toNat)*22)).take 22).drop 18) fun dh di=>GT N 18 dh di false b df dg fun v w=>An .i64 (((a.drop ((f.toNat)*22)).take 22).drop 19) fun dj=>cond ((dj==0)==false) (An .i64 (((a.drop ((f.toNat)*22)).take 22).drop 19) fun dk=>cond ((cond false true (dk==1))==false) (An .i64 (((a.drop ((f.toNat)*22)).take 22).drop 19) fun dl=>Aq N (cond false true (dl==2)) 19 12 v w fun dm dn=>q1 g f dm dn ((a.drop ((f.toNat)*22)).take 22)) (Aq N true 19 12 v w fun dp dq=>q1 g f dp dq ((a.drop ((f.toNat)*22)).take 22))) (Aq N true 19 12 v w fun dr ds=>q1 g f dr ds ((a.drop ((f.toNat)*22)).take 22))) none) none) none) none) (r0 o p))
def Hl (r0:Bool→LA→O R) (a:LA) (c:Nat) (b:Bool) (d:LA):Nat→Int→Int→Bool→LA→O R
 | 0,_,_,_,_=>none
 | n+1,g,f,o,p=>(Sr N r0 a c b d (Hl r0 a c b d n) (fun g=>Vv N (Hl r0 a c b d n) r0 a c b g d) g f o p)
def GV (N:Nat) (r0:Bool→LA→O R) (q0:LA→Nat→Int→Int→Bool→LA→O R) (b:Bool) (d:LA):O R :=
 (Az 22 (d.drop 4) fun a c=>q0 a c (c:Int) 0 b d)
def X8:=(Ai fun N b d r0=>GV (R:=R) N r0 (fun a c=>Hl N r0 a c b d N) b d).1
theorem OJ (b d e):(@X8 R N b d e)=(GV N e (fun a c=>Hl N e a c b d N) b d):=by rw[X8,(Ai _).2]
def WG:Hints:={ H:=(hK 2 (hS (hP [1,8,9,10] (hK 2 (hS (hS (hK 21 (hJ [1,3,8,9,10] hL (hJ [1,3,8,9,10] hL (hK 1 (hJ [1,3,8,9,10] hL hL))))) hL) hL))) hL)) }
def dY:Qr:=[Vm N,kM N,OC N,Gb N,gT N,i_ N,Cp N]
def Vw (F:KF R):=Jd Tryz.f93 WG (dY N) [100000] N F
def nG (a:LA) (c:Nat) (b:Bool) (g:Int) (h d:LA) (K:St→O R):=fun s t u=>K ⟨[(1,(op 0)),(3,(op 1)),(8,(.imm a c 22 false b)),(9,(iv g)),(10,(iv s))],[(100000,(bP t 0 u)),(300000,(bN 0 [(.optr 100000 0)])),(300001,(bP b 0 h))]⟩
def nH (a:LA) (c:Nat) (b:Bool) (g:Int) (h d:LA) (K:St→O R):=fun i q r=>K ⟨[(1,(op 0)),(3,(op 1)),(8,(.imm a c 22 false b)),(9,(iv g)),(10,(iv i))],[(100000,(bP q 0 r)),(300000,(bN 0 [(.optr 100000 0)])),(300001,(bP b 0 h))]⟩
def nI (a:LA) (c:Nat) (b:Bool) (g:Int) (d:LA) (K:St→O R):=fun j l m h=>K ⟨[(1,(op 0)),(3,(op 1)),(8,(.imm a c 22 false b)),(9,(iv g)),(10,(iv j))],[(100000,(bP l 0 m)),(300000,(bN 0 [(.optr 100000 0)])),(300001,(bP b 0 h))]⟩
def M0 (a:LA) (c:Nat) (b:Bool) (d:LA) (K:St→O R):=fun g f o p=>K ⟨[(1,(op 0)),(8,(.imm a c 22 false b)),(9,(iv g)),(10,(iv f))],[(100000,(bP o 0 p)),(300000,(bN 0 [(.optr 100000 0)]))]⟩
theorem dZ (Q0) (F:KF R) (a c b g h d):nG a c b g h d (Bv (Vw N F (pz 96935853679491503445) [Q0]))=(ER N (M0 a c b d Q0) (Ca F) a c b g h d):=by kernel_rfl
theorem d3 (Q0) (F:KF R) (a c b g h d):nH a c b g h d (Bv (Vw N F (pz 6058490854968218965) [Q0]))=(ES N (M0 a c b d Q0) (Ca F) a c b g h d):=(By (Zw N (M0 a c b d Q0) (Ca F) a c b g h d) ((jW ..).trans (dZ ..)):_)
theorem d4 (Q0) (F:KF R) (a c b g d):nI a c b g d (Bv (Vw N F (pz 1514622713742054741) [Q0]))=(Vv N (M0 a c b d Q0) (Ca F) a c b g d):=(By (Zx N (M0 a c b d Q0) (Ca F) a c b g d) (fi fun h=>(jW ..).trans (d3 ..)):_)
theorem d5 (F:KF R) (a c b d):∀ n,M0 a c b d (Am (Vw N F (pz 84) []) n)=(Hl N (Ca F) a c b d n):=Fc fun n e=>(MW (Sr N (Ca F) a c b d) e (fi fun g=>(jW ..).trans ((d4 ..).trans (oY (Vv _ · _ _ _ _ _ _) e))):_)
def pq:=Dq N 93 (dY N) WG (fun
 | [(.optr 100000 0)],[(100000,⟨false,false,true,b,0,d,false,none⟩)]=>some fun _ k=>(X8 N b d (Ca k))
 | _,_=>none) fun _ _=>by split;intro R F;exact(By (GV N (Ca F) · _ _) (fj fun a c=>(lW ..).trans (d5 ..)):_).trans (OJ ..).symm;trivial
def Ug (N:Nat) (a:Int) (c:Bool) (b:LA) (r0:Lu→O R):O R :=
 (Az 9 (b.drop 5) fun d e=>cond (Af a e) (IP (d.drop ((a.toNat)*9)) fun f=>r0 f) none)
def P2:=(Ai (@Ug R)).1
theorem Vx:@P2 R=@Ug R:=(Ai _).2
def YI:=Dq N 148 [] G2 (fun
 | [(.int .i64 a),(.optr 100000 0)],[(100000,⟨false,false,false,false,0,[(.optr 100001 0)],false,none⟩),(100001,⟨false,false,true,c,0,b,false,none⟩)]=>some fun _ k=>(P2 N a c b (sJ c b k))
 | _,_=>none) fun _ _=>by split;intro R F;dsimp only;rw[Vx];kernel_rfl;trivial
def Iv (r0:Bool→LA→O R) (a:Lu) (b:Int) (k0:Int→Bool→LA→O R) (h:Int) (d:Bool) (c:LA):O R :=
 (cond (decide (h<b)) (An .i64 (c.drop 11) fun j=>cond (j != 0) (r0 d c) (P2 N h d c fun l=>Aq N (!(l==a)) 0 10 d c fun m o=>k0 (wrap .i64 (h+1)) m o)) (r0 d c))
def Ef (r0:Bool→LA→O R) (a:Lu) (b:Int):Nat→Int→Bool→LA→O R
 | 0,_,_,_=>none
 | n+1,h,d,c=>(Iv N r0 a b (Ef r0 a b n) h d c)
def Ss (r0:Bool→LA→O R) (q0:Int→Int→Bool→LA→O R) (a:Lu) (f:Bool) (g:LA):O R :=
 (Pz N a fun p=>Aq N p 0 9 f g fun q i=>An .i64 (i.drop 9) fun b=>q0 b 0 q i)
def Qu:=(Ai fun N a f g r0=>Ss (R:=R) N r0 (fun b=>Ef N r0 a b N) a f g).1
theorem BS (a f g d):(@Qu R N a f g d)=(Ss N d (fun b=>Ef N d a b N) a f g):=by rw[Qu,(Ai _).2]
def JF:Qr:=[Tl N,Cp N,YI N]
def d6 (F:KF R):=Jd Tryz.f140 BP (JF N) [100000,100001] N F
def d7 (a:Lu) (b:Int) (K:St→O R):=fun h d c=>K ⟨[(0,(.optr 100000 0)),(1,(.str a)),(2,(.fn 148 [(.optr 100001 0)])),(15,(iv b)),(16,(iv h))],[(100000,(bP d 0 c)),(100001,(bN 0 [(.optr 100000 0)]))]⟩
theorem OK (F:KF R) (a b):∀ n,d7 a b (Am (d6 N F (pz 84) []) n)=(Ef N (Se F) a b n):=Fc fun n e=>(By (Iv N (Se F) a b) e:_)
def gU:=Dq N 140 (JF N) BP (fun
 | [(.optr 100000 0),(.str a),(.fn 148 [(.optr 100001 0)])],[(100000,⟨false,false,true,f,0,g,false,none⟩),(100001,⟨false,false,false,false,0,[(.optr 100000 0)],false,none⟩)]=>some fun _ k=>(Qu N a f g (Se k))
 | _,_=>none) fun _ _=>by split;intro R F;exact(By (Ss N (Se F) · _ _ _) (fi fun b=>(lW ..).trans (OK ..)):_).trans (BS ..).symm;trivial
def P3 (r0:Bool→LA→O R) (a:LA) (d:Nat) (c:Bool) (k0:Int→Int→Bool→LA→O R) (g b:Int) (h:Bool) (i:LA):O R :=
 (cond (decide (b<g)) (cond (Af b d) (cond (ble 9 ((a.drop ((b.toNat)*9)).length)) (cond ((beq 0 0)&&((beq (((a.drop ((b.toNat)*9)).take 9).length) 9)&&(beq 9 9))) (EG N 4 b h i fun m o=>IP ((a.drop ((b.toNat)*9)).take 9) fun p=>Qu N p m o fun q r=>An .i64 (((a.drop ((b.toNat)*9)).take 9).drop 1) fun s=>EL N 1 s q r fun t u=>An .i64 (((a.drop ((b.toNat)*9)).take 9).drop 2) fun v=>A0 N 2 v 0 1048576 t u fun w x=>An .i64 (((a.drop ((b.toNat)*9)).take 9).drop 3) fun y=>An .i64 (((a.drop ((b.toNat)*9)).take 9).drop 2) fun z=>A0 N 3 y 0 z w x fun aa ab=>An .i64 (((a.drop ((b.toNat)*9)).take 9).drop 4) fun ac=>An .i64 (((a.drop ((b.toNat)*9)).take 9).drop 2) fun ad=>A0 N 4 ac 0 ad aa ab fun ae af=>An .i64 (((a.drop ((b.toNat)*9)).take 9).drop 5) fun ag=>A0 N 5 ag 0 1048576 ae af fun ah ai=>An .i64 (((a.drop ((b.toNat)*9)).take 9).drop 6) fun aj=>A0 N 6 aj 0 1048576 ah ai fun j l=>cond (ble 2 ((((a.drop ((b.toNat)*9)).take 9).drop 7).length)) (cond ((!c)||(Aw ((((a.drop ((b.toNat)*9)).take 9).drop 7).take 2))) (cond ((beq (((((a.drop ((b.toNat)*9)).take 9).drop 7).take 2).length) 2)&&((ble 2 2)&&(!false))) (cond (ble 2 ((setCells [(.int .i64 0),(.int .i64 0)] 0 ((((a.drop ((b.toNat)*9)).take 9).drop 7).take 2)).length)) (Ud N ((setCells [(.int .i64 0),(.int .i64 0)] 0 ((((a.drop ((b.toNat)*9)).take 9).drop 7).take 2)).take 2) false fun ak=>cond (ak==true) (An .i64 (setCells [(.int .i64 0),(.int .i64 0)] 0 ((((a.drop ((b.toNat)*9)).take 9).drop 7).take 2)) fun al=>cond ((cond true (decide (al>0)) false)==true) (An .i64 (setCells [(.int .i64 0),(.int .i64 0)] 0 ((((a.drop ((b.toNat)*9)).take 9).drop 7).take 2)) fun am=>An .i64 ((setCells [(.int .i64 0),(.int .i64 0)] 0 ((((a.drop ((b.toNat)*9)).take 9).drop 7).take 2)).drop 1) fun an=>Aq N (cond true (decide (am≤an)) false) 7 3 j l fun ao ap=>k0 g (wrap .i64 (b+1)) ao ap) (Aq N false 7 3 j l fun aq ar=>k0 g (wrap .i64 (b+1)) aq ar)) (Aq N false 7 3 j l fun au av=>k0 g (wrap .i64 (b+1)) au av)) none) none) none) none) none) none) none) (r0 h i))
def Hz (r0:Bool→LA→O R) (a:LA) (d:Nat) (c:Bool):Nat→Int→Int→Bool→LA→O R
 | 0,_,_,_,_=>none
 | n+1,g,b,h,i=>(P3 N r0 a d c (Hz r0 a d c n) g b h i)
def Zy (N:Nat) (r0:Bool→LA→O R) (q0:LA→Nat→Int→Int→Bool→LA→O R) (c:Bool) (f:LA):O R :=
 (Az 9 (f.drop 5) fun a d=>q0 a d (d:Int) 0 c f)
def Tm:=(Ai fun N c f r0=>Zy (R:=R) N r0 (fun a d=>Hz N r0 a d c N) c f).1
theorem JG (c f b):(@Tm R N c f b)=(Zy N b (fun a d=>Hz N b a d c N) c f):=by rw[Tm,(Ai _).2]
def OL:Hints:={ H:=(hK 2 (hS (hP [1,9,10,11] hL) hL)) }
def WH:Qr:=[Vm N,gU N,OC N,Gb N,dO N,Cp N]
def kN (F:KF R):=Jd Tryz.f94 OL (WH N) [100000] N F
def kO (a:LA) (d:Nat) (c:Bool) (K:St→O R):=fun g b h i=>K ⟨[(1,(op 0)),(9,(.imm a d 9 false c)),(10,(iv g)),(11,(iv b))],[(100000,(bP h 0 i)),(300000,(bN 0 [(.optr 100000 0)]))]⟩
theorem YJ (F:KF R) (a d c):∀ n,kO a d c (Am (kN N F (pz 84) []) n)=(Hz N (Ca F) a d c n):=Fc fun n e=>(By (P3 N (Ca F) a d c) e:_)
def nK:=Dq N 94 (WH N) OL (fun
 | [(.optr 100000 0)],[(100000,⟨false,false,true,c,0,f,false,none⟩)]=>some fun _ k=>(Tm N c f (Ca k))
 | _,_=>none) fun _ _=>by split;intro R F;exact(By (Zy N (Ca F) · _ _) (fj fun a d=>(lW ..).trans (YJ ..)):_).trans (JG ..).symm;trivial
def Zz (N:Nat) (a:Int) (c:Bool) (b:LA) (r0:Lu→O R):O R :=
 (Az 5 (b.drop 6) fun d e=>cond (Af a e) (IP (d.drop ((a.toNat)*5)) fun f=>r0 f) none)
def Vy:=(Ai (@Zz R)).1
theorem BT:@Vy R=@Zz R:=(Ai _).2
def gV:=Dq N 149 [] G2 (fun
 | [(.int .i64 a),(.optr 100000 0)],[(100000,⟨false,false,false,false,0,[(.optr 100001 0)],false,none⟩),(100001,⟨false,false,true,c,0,b,false,none⟩)]=>some fun _ k=>(Vy N a c b (sJ c b k))
 | _,_=>none) fun _ _=>by split;intro R F;dsimp only;rw[BT];kernel_rfl;trivial
def Iw (r0:Bool→LA→O R) (a:Lu) (b:Int) (k0:Int→Bool→LA→O R) (h:Int) (d:Bool) (c:LA):O R :=
 (cond (decide (h<b)) (An .i64 (c.drop 11) fun j=>cond (j != 0) (r0 d c) (Vy N h d c fun l=>Aq N (!(l==a)) 0 10 d c fun m o=>k0 (wrap .i64 (h+1)) m o)) (r0 d c))
def Eg (r0:Bool→LA→O R) (a:Lu) (b:Int):Nat→Int→Bool→LA→O R
 | 0,_,_,_=>none
 | n+1,h,d,c=>(Iw N r0 a b (Eg r0 a b n) h d c)
def Su (r0:Bool→LA→O R) (q0:Int→Int→Bool→LA→O R) (a:Lu) (f:Bool) (g:LA):O R :=
 (Pz N a fun p=>Aq N p 0 9 f g fun q i=>An .i64 (i.drop 9) fun b=>q0 b 0 q i)
def Qv:=(Ai fun N a f g r0=>Su (R:=R) N r0 (fun b=>Eg N r0 a b N) a f g).1
theorem BU (a f g d):(@Qv R N a f g d)=(Su N d (fun b=>Eg N d a b N) a f g):=by rw[Qv,(Ai _).2]
def JH:Qr:=[Tl N,Cp N,gV N]
def d8 (F:KF R):=Jd Tryz.f140 BP (JH N) [100000,100001] N F
def d9 (a:Lu) (b:Int) (K:St→O R):=fun h d c=>K ⟨[(0,(.optr 100000 0)),(1,(.str a)),(2,(.fn 149 [(.optr 100001 0)])),(15,(iv b)),(16,(iv h))],[(100000,(bP d 0 c)),(100001,(bN 0 [(.optr 100000 0)]))]⟩
theorem OM (F:KF R) (a b):∀ n,d9 a b (Am (d8 N F (pz 84) []) n)=(Eg N (Se F) a b n):=Fc fun n e=>(By (Iw N (Se F) a b) e:_)
def gW:=Dq N 140 (JH N) BP (fun
 | [(.optr 100000 0),(.str a),(.fn 149 [(.optr 100001 0)])],[(100000,⟨false,false,true,f,0,g,false,none⟩),(100001,⟨false,false,false,false,0,[(.optr 100000 0)],false,none⟩)]=>some fun _ k=>(Qv N a f g (Se k))
 | _,_=>none) fun _ _=>by split;intro R F;exact(By (Su N (Se F) · _ _ _) (fi fun b=>(lW ..).trans (OM ..)):_).trans (BU ..).symm;trivial
def Vz (r0:Bool→LA→O R) (a:LA) (c:Nat) (b:Bool) (k0:Int→Int→Bool→LA→O R) (g d:Int) (h:Bool) (i:LA):O R :=
 (cond (decide (d<g)) (cond (Af d c) (cond (ble 5 ((a.drop ((d.toNat)*5)).length)) (cond ((beq 0 0)&&((beq (((a.drop ((d.toNat)*5)).take 5).length) 5)&&(beq 5 5))) (EG N 5 d h i fun j l=>IP ((a.drop ((d.toNat)*5)).take 5) fun m=>Qv N m j l fun o p=>An .i64 (((a.drop ((d.toNat)*5)).take 5).drop 1) fun q=>EL N 1 q o p fun r s=>Az 1 (((a.drop ((d.toNat)*5)).take 5).drop 2) fun t u=>Kr N 2 t u false b 0 1048576 r s fun v w=>Az 1 (((a.drop ((d.toNat)*5)).take 5).drop 3) fun x y=>Kr N 3 x y false b 0 1048576 v w fun z aa=>Az 1 (((a.drop ((d.toNat)*5)).take 5).drop 4) fun ab ac=>Kr N 4 ab ac false b (-1048576) 1048576 z aa fun ad ae=>k0 g (wrap .i64 (d+1)) ad ae) none) none) none) (r0 h i))
def Mo (r0:Bool→LA→O R) (a:LA) (c:Nat) (b:Bool):Nat→Int→Int→Bool→LA→O R
 | 0,_,_,_,_=>none
 | n+1,g,d,h,i=>(Vz N r0 a c b (Mo r0 a c b n) g d h i)
def ON (N:Nat) (r0:Bool→LA→O R) (q0:LA→Nat→Int→Int→Bool→LA→O R) (b:Bool) (f:LA):O R :=
 (Az 5 (f.drop 6) fun a c=>q0 a c (c:Int) 0 b f)
def GW:=(Ai fun N b f r0=>ON (R:=R) N r0 (fun a c=>Mo N r0 a c b N) b f).1
theorem WI (b f d):(@GW R N b f d)=(ON N d (fun a c=>Mo N d a c b N) b f):=by rw[GW,(Ai _).2]
def d_:Hints:={ H:=(hK 2 (hS (hP [1,8,9,10] hL) hL)) }
def ia:Qr:=[Vm N,gW N,OC N,EH N]
def pt (F:KF R):=Jd Tryz.f95 d_ (ia N) [100000] N F
def pu (a:LA) (c:Nat) (b:Bool) (K:St→O R):=fun g d h i=>K ⟨[(1,(op 0)),(8,(.imm a c 5 false b)),(9,(iv g)),(10,(iv d))],[(100000,(bP h 0 i)),(300000,(bN 0 [(.optr 100000 0)]))]⟩
theorem gX (F:KF R) (a c b):∀ n,pu a c b (Am (pt N F (pz 84) []) n)=(Mo N (Ca F) a c b n):=Fc fun n e=>(By (Vz N (Ca F) a c b) e:_)
def s8:=Dq N 95 (ia N) d_ (fun
 | [(.optr 100000 0)],[(100000,⟨false,false,true,b,0,f,false,none⟩)]=>some fun _ k=>(GW N b f (Ca k))
 | _,_=>none) fun _ _=>by split;intro R F;exact(By (ON N (Ca F) · _ _) (fj fun a c=>(lW ..).trans (gX ..)):_).trans (WI ..).symm;trivial
def Rn (N:Nat) (a:Int) (c:Bool) (b:LA) (r0:Lu→O R):O R :=
 (Az 4 (b.drop 7) fun d e=>cond (Af a e) (IP (d.drop ((a.toNat)*4)) fun f=>r0 f) none)
def Np:=(Ai (@Rn R)).1
theorem Uh:@Np R=@Rn R:=(Ai _).2
def S_:=Dq N 150 [] G2 (fun
 | [(.int .i64 a),(.optr 100000 0)],[(100000,⟨false,false,false,false,0,[(.optr 100001 0)],false,none⟩),(100001,⟨false,false,true,c,0,b,false,none⟩)]=>some fun _ k=>(Np N a c b (sJ c b k))
 | _,_=>none) fun _ _=>by split;intro R F;dsimp only;rw[Uh];kernel_rfl;trivial
def Ix (r0:Bool→LA→O R) (a:Lu) (b:Int) (k0:Int→Bool→LA→O R) (h:Int) (d:Bool) (c:LA):O R :=
 (cond (decide (h<b)) (An .i64 (c.drop 11) fun j=>cond (j != 0) (r0 d c) (Np N h d c fun l=>Aq N (!(l==a)) 0 10 d c fun m o=>k0 (wrap .i64 (h+1)) m o)) (r0 d c))
def Eh (r0:Bool→LA→O R) (a:Lu) (b:Int):Nat→Int→Bool→LA→O R
 | 0,_,_,_=>none
 | n+1,h,d,c=>(Ix N r0 a b (Eh r0 a b n) h d c)
def Sv (r0:Bool→LA→O R) (q0:Int→Int→Bool→LA→O R) (a:Lu) (f:Bool) (g:LA):O R :=
 (Pz N a fun p=>Aq N p 0 9 f g fun q i=>An .i64 (i.drop 9) fun b=>q0 b 0 q i)
def Qw:=(Ai fun N a f g r0=>Sv (R:=R) N r0 (fun b=>Eh N r0 a b N) a f g).1
theorem BV (a f g d):(@Qw R N a f g d)=(Sv N d (fun b=>Eh N d a b N) a f g):=by rw[Qw,(Ai _).2]
def JI:Qr:=[Tl N,Cp N,S_ N]
def dt (F:KF R):=Jd Tryz.f140 BP (JI N) [100000,100001] N F
def du (a:Lu) (b:Int) (K:St→O R):=fun h d c=>K ⟨[(0,(.optr 100000 0)),(1,(.str a)),(2,(.fn 150 [(.optr 100001 0)])),(15,(iv b)),(16,(iv h))],[(100000,(bP d 0 c)),(100001,(bN 0 [(.optr 100000 0)]))]⟩
theorem OO (F:KF R) (a b):∀ n,du a b (Am (dt N F (pz 84) []) n)=(Eh N (Se F) a b n):=Fc fun n e=>(By (Ix N (Se F) a b) e:_)
def gY:=Dq N 140 (JI N) BP (fun
 | [(.optr 100000 0),(.str a),(.fn 150 [(.optr 100001 0)])],[(100000,⟨false,false,true,f,0,g,false,none⟩),(100001,⟨false,false,false,false,0,[(.optr 100000 0)],false,none⟩)]=>some fun _ k=>(Qw N a f g (Se k))
 | _,_=>none) fun _ _=>by split;intro R F;exact(By (Sv N (Se F) · _ _ _) (fi fun b=>(lW ..).trans (OO ..)):_).trans (BV ..).symm;trivial
def Sw (r0:Bool→LA→O R) (d:LA) (f:Nat) (a:Bool) (k2:Int→Int→Bool→LA→O R) (s j:Int) (t:Bool) (u:LA):O R :=
 (cond (decide (j<s)) (cond (Af j f) (cond (ble 3 ((d.drop ((j.toNat)*3)).length)) (cond ((!a)||(Aw ((d.drop ((j.toNat)*3)).take 3))) (cond ((beq (((d.drop ((j.toNat)*3)).take 3).length) 3)&&((ble 3 3)&&(!false))) (An .i64 ((setCells [(.int .i64 0),(.int .i64 0),(.int .i64 0)] 0 ((d.drop ((j.toNat)*3)).take 3)).drop 1) fun z=>A0 N 3 z 0 1048576 t u fun aa ab=>An .i64 ((setCells [(.int .i64 0),(.int .i64 0),(.int .i64 0)] 0 ((d.drop ((j.toNat)*3)).take 3)).drop 2) fun ac=>A0 N 3 ac 0 1048576 aa ab fun ad ae=>k2 s (wrap .i64 (j+1)) ad ae) none) none) none) none) (r0 t u))
def M1 (r0:Bool→LA→O R) (d:LA) (f:Nat) (a:Bool):Nat→Int→Int→Bool→LA→O R
 | 0,_,_,_,_=>none
 | n+1,s,j,t,u=>(Sw N r0 d f a (M1 r0 d f a n) s j t u)
def Sx (r0:Bool→LA→O R) (c:LA) (g:Nat) (a:Bool) (b:LA) (k1:Nat→Int→Int→Bool→LA→LA→O R) (q2:LA→Nat→Int→Int→Bool→LA→O R) (i:Nat) (p h:Int) (q:Bool) (o r:LA):O R :=
 (cond (decide (h<p)) (cond (Af h g) (cond (ble 3 ((c.drop ((h.toNat)*3)).length)) (cond ((!a)||(Aw ((c.drop ((h.toNat)*3)).take 3))) (cond ((beq (((c.drop ((h.toNat)*3)).take 3).length) 3)&&((ble 3 3)&&(!false))) (An .i64 (setCells [(.int .i64 0),(.int .i64 0),(.int .i64 0)] 0 ((c.drop ((h.toNat)*3)).take 3)) fun af=>cond ((decide (af≥0))==true) (An .i64 (setCells [(.int .i64 0),(.int .i64 0),(.int .i64 0)] 0 ((c.drop ((h.toNat)*3)).take 3)) fun ag=>Az 22 (o.drop 4) fun bb ah=>Aq N (cond true (decide (ag<(ah:Int))) false) 3 12 q o fun ai aj=>An .i64 (setCells [(.int .i64 0),(.int .i64 0),(.int .i64 0)] 0 ((c.drop ((h.toNat)*3)).take 3)) fun ak=>cond ((ble (i+1) 140737488355328)&&(ble ((i+1)*8) 140737488355328)) (k1 (i+1) p (wrap .i64 (h+1)) ai aj ((r.take (i*1))++[(.int .i64 ak)])) none) (Aq N false 3 12 q o fun al am=>An .i64 (setCells [(.int .i64 0),(.int .i64 0),(.int .i64 0)] 0 ((c.drop ((h.toNat)*3)).take 3)) fun an=>cond ((ble (i+1) 140737488355328)&&(ble ((i+1)*8) 140737488355328)) (k1 (i+1) p (wrap .i64 (h+1)) al am ((r.take (i*1))++[(.int .i64 an)])) none)) none) none) none) none) (Hy N (r.take (i*1)) i false true fun ao=>Aq N ao 3 11 q o fun ap aq=>Az 3 (b.drop 3) fun d f=>q2 d f (f:Int) 0 ap aq))
def Jy (r0:Bool→LA→O R) (c:LA) (g:Nat) (a:Bool) (b:LA):Nat→Nat→Int→Int→Bool→LA→LA→O R
 | 0,_,_,_,_,_,_=>none
 | n+1,i,p,h,q,o,r=>(Sx N r0 c g a b (Jy r0 c g a b n) (fun d f=>M1 N r0 d f a N) i p h q o r)
def Z0 (r0:Bool→LA→O R) (a:Bool) (b:LA) (q1:LA→Nat→Nat→Int→Int→Bool→LA→LA→O R) (v:Bool) (w:LA):O R :=
 (Az 3 (b.drop 3) fun bc ar=>Aq N (decide ((ar:Int)≤16)) 3 8 v w fun y x=>An .i64 (x.drop 11) fun au=>cond (au != 0) (r0 y x) (Az 3 (b.drop 3) fun c g=>q1 c g 0 (g:Int) 0 y x []))
def V0 (r0:Bool→LA→O R) (a:Bool) (b:LA) (v:Bool) (w:LA):O R:=(Z0 N r0 a b (fun c g=>Jy N r0 c g a b N) v w)
def GX (r0:Bool→LA→O R) (q0:Bool→LA→O R) (b:LA) (a l:Bool) (m:LA):O R :=
 (Az 3 (b.drop 3) fun bd av=>cond (((av:Int)==0)==false) (L_ (b.drop 2) fun aw=>Aq N (cond false true aw) 3 16 l m fun ax ay=>q0 ax ay) (Aq N true 3 16 l m fun az ba=>q0 az ba))
def ET:=(Ai fun N b a l m r0=>GX (R:=R) N r0 (V0 N r0 a b) b a l m).1
theorem OP (b a l m d):(@ET R N b a l m d)=(GX N d (V0 N d a b) b a l m):=by rw[ET,(Ai _).2]
def WJ:Hints:={ H:=(hK 1 (hJ [0,3] hL (hK 3 (hS (hK 1 (hS (hP [0,3,4,31,32,33] hL) hL)) (hK 2 (hS (hP [0,64,65,66] hL) hL)))))),nils:=[(4,1)] }
def dv:Qr:=[Cp N,Ue N,Gb N]
def EU (F:KF R):=Jd Tryz.f152 WJ (dv N) [100000] N F
def nL (d:LA) (f:Nat) (a:Bool) (K:St→O R):=fun s j t u=>K ⟨[(0,(.optr 100000 0)),(64,(.imm d f 3 false a)),(65,(iv s)),(66,(iv j))],[(100000,(bP t 0 u))]⟩
def nM (c:LA) (g:Nat) (a:Bool) (b:LA) (K:St→O R):=fun i p h q o r=>K ⟨[(0,(.optr 100000 0)),(3,(op 0)),(4,(.own 300001 0 i)),(31,(.imm c g 3 false a)),(32,(iv p)),(33,(iv h))],[(100000,(bP q 0 o)),(300000,(bP a 0 b)),(300001,(bQ 1 r))]⟩
def nN (a:Bool) (b:LA) (K:St→O R):=fun v w=>K ⟨[(0,(.optr 100000 0)),(3,(op 0))],[(100000,(bP v 0 w)),(300000,(bP a 0 b))]⟩
theorem dw (F:KF R) (d f a):∀ n,nL d f a (Am (EU N F (pz 349524) []) n)=(M1 N (Ca F) d f a n):=Fc fun n e=>(By (Sw N (Ca F) d f a) e:_)
theorem dx (F:KF R) (c g a b):∀ n,nM c g a b (Am (EU N F (pz 87364) []) n)=(Jy N (Ca F) c g a b n):=Fc fun n e=>(MW (Sx N (Ca F) c g a b) e (fj fun d f=>(lW ..).trans (dw ..)):_)
theorem dy (F:KF R) (a b):nN a b (Bv (EU N F (pz 21) []))=(V0 N (Ca F) a b):=(By (Z0 N (Ca F) a b) (fj fun c g=>(lW ..).trans (dx ..)):_)
def pv:=Dq N 152 (dv N) WJ (fun
 | [(.optr 100000 0),(.pagg b a)],[(100000,⟨false,false,true,l,0,m,false,none⟩)]=>some fun _ k=>(ET N b a l m (Ca k))
 | _,_=>none) fun _ _=>by split;intro R F;exact(By (GX N (Ca F) · _ _ _ _) ((jW ..).trans (dy ..)):_).trans (OP ..).symm;trivial
def Nq (k0:Int→Int→Bool→LA→O R) (r0:Bool→LA→O R) (b:LA) (c:Nat) (a:Bool) (f:Int) (j:LA) (h:Nat) (g d:LA) (k2:Int→Int→Int→Bool→LA→O R) (o p l:Int) (q:Bool) (m:LA):O R :=
 (cond (decide (l<p)) (cond (Af l h) (An .i64 (j.drop ((l.toNat)*1)) fun w=>cond ((decide (w≥0))==true) (Az 12 (m.drop 3) fun ax z=>Aq N (cond true (decide (w<(z:Int))) false) 1 12 q m fun aa ab=>k2 o p (wrap .i64 (l+1)) aa ab) (Aq N false 1 12 q m fun ac ad=>k2 o p (wrap .i64 (l+1)) ac ad)) none) (Az 1 (g.drop 1) fun ae af=>Hy N ae af false a fun ag=>Aq N ag 1 11 q m fun ah ai=>cond (ble 4 (g.length)) (ET N (g.take 4) a ah ai fun aj ak=>k0 f (wrap .i64 (o+1)) aj ak) none))
def I6 (k0:Int→Int→Bool→LA→O R) (r0:Bool→LA→O R) (b:LA) (c:Nat) (a:Bool) (f:Int) (j:LA) (h:Nat) (g d:LA):Nat→Int→Int→Int→Bool→LA→O R
 | 0,_,_,_,_,_=>none
 | n+1,o,p,l,q,m=>(Nq N k0 r0 b c a f j h g d (I6 k0 r0 b c a f j h g d n) o p l q m)
def Nr (N:Nat) (k0:Int→Int→Bool→LA→O R) (r0:Bool→LA→O R) (b:LA) (c:Nat) (a:Bool) (f:Int) (d:LA) (q2:LA→Nat→LA→Int→Int→Int→Bool→LA→O R) (v:Int) (s:Bool) (r g:LA):O R :=
 (An .i64 (r.drop 11) fun al=>cond (al != 0) (r0 s r) (Az 1 (g.drop 1) fun j h=>q2 j h g v (h:Int) 0 s r))
def Ln (k0:Int→Int→Bool→LA→O R) (r0:Bool→LA→O R) (b:LA) (c:Nat) (a:Bool) (f:Int) (d:LA) (v:Int) (s:Bool) (r g:LA):O R:=(Nr N k0 r0 b c a f d (fun j h g=>I6 N k0 r0 b c a f j h g d N) v s r g)
def Jz (r0:Bool→LA→O R) (b:LA) (c:Nat) (a:Bool) (d:LA) (k0:Int→Int→Bool→LA→O R) (q1:Int→Int→Bool→LA→LA→O R) (f i:Int) (t:Bool) (u:LA):O R :=
 (cond (decide (i<f)) (cond (Af i c) (cond (ble 4 ((b.drop ((i.toNat)*4)).length)) (cond ((beq 0 0)&&((beq (((b.drop ((i.toNat)*4)).take 4).length) 4)&&(beq 4 4))) (EG N 6 i t u fun am an=>IP ((b.drop ((i.toNat)*4)).take 4) fun ao=>Qw N ao am an fun x y=>Az 1 (((b.drop ((i.toNat)*4)).take 4).drop 1) fun ay ap=>cond (((ap:Int)==1)==false) (Az 1 (((b.drop ((i.toNat)*4)).take 4).drop 1) fun az aq=>Aq N (cond false true ((aq:Int)==2)) 1 4 x y fun ar au=>q1 f i ar au ((b.drop ((i.toNat)*4)).take 4)) (Aq N true 1 4 x y fun av aw=>q1 f i av aw ((b.drop ((i.toNat)*4)).take 4))) none) none) none) (r0 t u))
def Db (r0:Bool→LA→O R) (b:LA) (c:Nat) (a:Bool) (d:LA):Nat→Int→Int→Bool→LA→O R
 | 0,_,_,_,_=>none
 | n+1,f,i,t,u=>(Jz N r0 b c a d (Db r0 b c a d n) (fun f=>Ln N (Db r0 b c a d n) r0 b c a f d) f i t u)
def V1 (N:Nat) (r0:Bool→LA→O R) (q0:LA→Nat→Int→Int→Bool→LA→O R) (a:Bool) (d:LA):O R :=
 (Az 4 (d.drop 7) fun b c=>q0 b c (c:Int) 0 a d)
def O6:=(Ai fun N a d r0=>V1 (R:=R) N r0 (fun b c=>Db N r0 b c a d N) a d).1
theorem EV (a d e):(@O6 R N a d e)=(V1 N e (fun b c=>Db N e b c a d N) a d):=by rw[O6,(Ai _).2]
def JJ:Hints:={ H:=(hK 2 (hS (hP [1,10,11,12] (hK 2 (hS (hS (hK 3 (hJ [1,3,10,11,12] hL (hK 1 (hS (hK 1 (hS (hP [1,3,10,11,12,43,44,45] hL) hL)) hL)))) hL) hL))) hL)) }
def OQ:Qr:=[Vm N,gY N,Cp N,Ue N,pv N]
def Wv (F:KF R):=Jd Tryz.f96 JJ (OQ N) [100000] N F
def gZ (b:LA) (c:Nat) (a:Bool) (f:Int) (j:LA) (h:Nat) (g d:LA) (K:St→O R):=fun o p l q m=>K ⟨[(1,(op 0)),(3,(op 1)),(10,(.imm b c 4 false a)),(11,(iv f)),(12,(iv o)),(43,(.imm j h 1 false a)),(44,(iv p)),(45,(iv l))],[(100000,(bP q 0 m)),(300000,(bN 0 [(.optr 100000 0)])),(300001,(bP a 0 g))]⟩
def g8 (b:LA) (c:Nat) (a:Bool) (f:Int) (d:LA) (K:St→O R):=fun v s r g=>K ⟨[(1,(op 0)),(3,(op 1)),(10,(.imm b c 4 false a)),(11,(iv f)),(12,(iv v))],[(100000,(bP s 0 r)),(300000,(bN 0 [(.optr 100000 0)])),(300001,(bP a 0 g))]⟩
def Lo (b:LA) (c:Nat) (a:Bool) (d:LA) (K:St→O R):=fun f i t u=>K ⟨[(1,(op 0)),(10,(.imm b c 4 false a)),(11,(iv f)),(12,(iv i))],[(100000,(bP t 0 u)),(300000,(bN 0 [(.optr 100000 0)]))]⟩
theorem TA (Q0) (F:KF R) (b c a f j h g d):∀ n,gZ b c a f j h g d (Am (Wv N F (pz 5642409284) [Q0]) n)=(I6 N (Lo b c a d Q0) (Ca F) b c a f j h g d n):=Fc fun n e=>(By (Nq N (Lo b c a d Q0) (Ca F) b c a f j h g d) e:_)
theorem TB (Q0) (F:KF R) (b c a f d):g8 b c a f d (Bv (Wv N F (pz 22040661) [Q0]))=(Ln N (Lo b c a d Q0) (Ca F) b c a f d):=(By (Nr N (Lo b c a d Q0) (Ca F) b c a f d) (zL fun j h g=>(lW ..).trans (TA ..)):_)
theorem TC (F:KF R) (b c a d):∀ n,Lo b c a d (Am (Wv N F (pz 84) []) n)=(Db N (Ca F) b c a d n):=Fc fun n e=>(MW (Jz N (Ca F) b c a d) e (fi fun f=>(jW ..).trans ((TB ..).trans (oY (Ln _ · _ _ _ _ _ _) e))):_)
def kP:=Dq N 96 (OQ N) JJ (fun
 | [(.optr 100000 0)],[(100000,⟨false,false,true,a,0,d,false,none⟩)]=>some fun _ k=>(O6 N a d (Ca k))
 | _,_=>none) fun _ _=>by split;intro R F;exact(By (V1 N (Ca F) · _ _) (fj fun b c=>(lW ..).trans (TC ..)):_).trans (EV ..).symm;trivial
def Dw (N:Nat) (r0:Int→O R) (b:LA) (a:Nat) (d f:Bool) (c:Int) (k0:Int→Int→O R) (h g:Int):O R :=
 (cond (decide (g<h)) (cond (Af g a) (An .i64 (b.drop ((g.toNat)*1)) fun i=>cond (c==i) (r0 g) (k0 h (wrap .i64 (g+1)))) none) (r0 (-1)))
def Bp (r0:Int→O R) (b:LA) (a:Nat) (d f:Bool) (c:Int):Nat→Int→Int→O R
 | 0,_,_=>none
 | n+1,h,g=>(Dw N r0 b a d f c (Bp r0 b a d f c n) h g)
def Ex (N:Nat) (r0:Int→O R) (q0:Int→Int→O R) (b:LA) (a:Nat) (d f:Bool) (c:Int):O R :=
 (q0 (a:Int) 0)
def Fw:=(Ai fun N b a d f c r0=>Ex (R:=R) N r0 (Bp N r0 b a d f c N) b a d f c).1
theorem K5 (b a d f c e):(@Fw R N b a d f c e)=(Ex N e (Bp N e b a d f c N) b a d f c):=by rw[Fw,(Ai _).2]
def Lp:Hints:={ H:=(hK 1 (hS (hK 1 (hS (hP [0,1,7,8] hL) hL)) hL)) }
def Ww (F:KF R):=Jd Tryz.f202 Lp [] [] N F
def Wx (b:LA) (a:Nat) (d f:Bool) (c:Int) (K:St→O R):=fun h g=>K ⟨[(0,(.imm b a 1 d f)),(1,(iv c)),(7,(iv h)),(8,(iv g))],[]⟩
theorem Sy (F:KF R) (b a d f c):∀ n,Wx b a d f c (Am (Ww N F (pz 324) []) n)=(Bp N (Dp F) b a d f c n):=Fc fun n e=>(By (Dw N (Dp F) b a d f c) e:_)
def X9:=Dq N 202 [] Lp (fun
 | [(.imm b a 1 d f),(.int .i64 c)],[]=>some fun _ k=>(Fw N b a d f c (Dp k))
 | _,_=>none) fun _ _=>by split;intro R F;exact(By (Ex N (Dp F) · _ _ _ _ _) ((lW ..).trans (Sy ..)):_).trans (K5 ..).symm;trivial
def F1 (a:LA) (b:Nat) (e c:Bool) (d:Int) (r0:Bool→O R):O R :=
 (Fw N a b false c d fun f=>r0 (decide (f≥0)))
def Ct:=(Ai (@F1 R)).1
theorem Iy:@Ct R=@F1 R:=(Ai _).2
def J3:=Dq N 181 [X9 N] G2 (fun
 | [(.imm a b 1 e c),(.int .i64 d)],[]=>some fun _ k=>(Ct N a b e c d (Bi k))
 | _,_=>none) fun _ _=>by split;intro R F;dsimp only;rw[Iy];kernel_rfl;trivial
def P4 (r0:Nat→LA→O R) (a:Int) (c:LA) (d:Nat) (b:Bool) (k0:Nat→Int→Int→LA→O R) (g:Nat) (i f:Int) (j:LA):O R :=
 (cond (decide (f<i)) (cond (Af f d) (cond (ble 12 ((c.drop ((f.toNat)*12)).length)) (cond ((beq 0 0)&&((beq (((c.drop ((f.toNat)*12)).take 12).length) 12)&&(beq 12 12))) (Az 1 (((c.drop ((f.toNat)*12)).take 12).drop 11) fun l m=>Ct N l m false b a fun o=>cond (!o) (cond ((ble (g+1) 140737488355328)&&(ble ((g+1)*8) 140737488355328)) (k0 (g+1) i (wrap .i64 (f+1)) ((j.take (g*1))++[(.int .i64 f)])) none) (k0 g i (wrap .i64 (f+1)) j)) none) none) none) (r0 g j))
def H1 (r0:Nat→LA→O R) (a:Int) (c:LA) (d:Nat) (b:Bool):Nat→Nat→Int→Int→LA→O R
 | 0,_,_,_,_=>none
 | n+1,g,i,f,j=>(P4 N r0 a c d b (H1 r0 a c d b n) g i f j)
def Z1 (N:Nat) (r0:Nat→LA→O R) (q0:LA→Nat→Nat→Int→Int→LA→O R) (h:LA) (b:Bool) (a:Int):O R :=
 (Az 12 (h.drop 3) fun c d=>q0 c d 0 (d:Int) 0 [])
def Ya:=(Ai fun N h b a r0=>Z1 (R:=R) N r0 (fun c d=>H1 N r0 a c d b N) h b a).1
theorem JK (h b a e):(@Ya R N h b a e)=(Z1 N e (fun c d=>H1 N e a c d b N) h b a):=by rw[Ya,(Ai _).2]
def OR:Hints:={ H:=(hK 2 (hS (hK 1 (hS (hP [1,5,9,10,11] hL) hL)) hL)),nils:=[(4,1),(5,1)],modes:=[(2,1)] }
def WK:Qr:=[J3 N]
def kQ (F:KF R):=Jd Tryz.f153 OR (WK N) [] N F
def kR (a:Int) (c:LA) (d:Nat) (b:Bool) (K:St→O R):=fun g i f j=>K ⟨[(1,(iv a)),(5,(.own 300000 0 g)),(9,(.imm c d 12 false b)),(10,(iv i)),(11,(iv f))],(hq [(bQ 1 j)])⟩
theorem YK (F:KF R) (a c d b):∀ n,kR a c d b (Am (kQ N F (pz 1348) []) n)=(H1 N (F8 F) a c d b n):=Fc fun n e=>(By (P4 N (F8 F) a c d b) e:_)
def nO:=Dq N 153 (WK N) OR (fun
 | [(.pagg h b),(.int .i64 a)],[]=>some fun _ k=>(Ya N h b a (F8 k))
 | _,_=>none) fun _ _=>by split;intro R F;exact(By (Z1 N (F8 F) · _ _ _) (fj fun c d=>(lW ..).trans (YK ..)):_).trans (JK ..).symm;trivial
def Eo (N:Nat) (r0:O R) (a:Int) (k0:O R):O R :=
 r0
def B9 (r0:O R) (a:Int):Nat→O R
 | 0=>none
 | n+1=>(Eo N r0 a (B9 r0 a n))
def Dx (N:Nat) (r0:O R) (q0:O R) (a:Int):O R :=
 q0
def D7:=(Ai fun N a r0=>Dx (R:=R) N r0 (B9 N r0 a N) a).1
theorem Iz (a b):(@D7 R N a b)=(Dx N b (B9 N b a N) a):=by rw[D7,(Ai _).2]
def Je:Hints:={ H:=(hK 1 (hS (hK 1 (hS (hP [0,1,7,8] hL) hL)) hL)) }
def Sz (F:KF R):=Jd Tryz.f202 Je [] [] N F
def C7 (F:KF R):O R:=F (iv (-1)) []
def S2 (a:Int) (K:St→O R):=K ⟨[(0,.nsl),(1,(iv a)),(7,(iv 0)),(8,(iv 0))],[]⟩
theorem O7 (F:KF R) (a):∀ n,S2 a (Am (Sz N F (pz 324) []) n)=(B9 N (C7 F) a n):=Fc fun n e=>(By (Eo N (C7 F) a) e:_)
def Ui:=Dq N 202 [] Je (fun
 | [.nsl,(.int .i64 a)],[]=>some fun _ k=>(D7 N a (C7 k))
 | _,_=>none) fun _ _=>by split;intro R F;exact(By (Dx N (C7 F) · _) ((lW ..).trans (O7 ..)):_).trans (Iz ..).symm;trivial
def Ep (a:Int) (r0:O R):O R :=
 (D7 N a r0)
def C8:=(Ai (@Ep R)).1
theorem G3:@C8 R=@Ep R:=(Ai _).2
def O8 (F:KF R):O R:=F (.bool false) []
def Qx:=Dq N 181 [Ui N] G2 (fun
 | [.nsl,(.int .i64 a)],[]=>some fun _ k=>(C8 N a (O8 k))
 | _,_=>none) fun _ _=>by split;intro R F;dsimp only;rw[G3];kernel_rfl;trivial
def S3 (N:Nat) (k1:Int→Int→Int→LA→O R) (r0:Int→O R) (a:Nat) (j l:Int) (d:LA) (c:Nat) (f g:Bool) (i o:Int) (h:Bool) (b:LA) (k3:Int→Int→Int→LA→O R) (u v p:Int) (r:LA):O R :=
 (cond (decide (p<v)) (cond (Af p a) (An .i64 (r.drop (0+((p.toNat)*1))) fun ac=>cond (ac==l) (cond (Af p a) (cond ((beq 1 1)&&((ble ((0+((p.toNat)*1))+1) (r.length))&&(!false))) (k3 u v (wrap .i64 (p+1)) (r.set (0+((p.toNat)*1)) (.int .i64 j))) none) none) (k3 u v (wrap .i64 (p+1)) r)) none) (k1 u i (wrap .i64 (o+1)) r))
def M2 (k1:Int→Int→Int→LA→O R) (r0:Int→O R) (a:Nat) (j l:Int) (d:LA) (c:Nat) (f g:Bool) (i o:Int) (h:Bool) (b:LA):Nat→Int→Int→Int→LA→O R
 | 0,_,_,_,_=>none
 | n+1,u,v,p,r=>(S3 N k1 r0 a j l d c f g i o h b (M2 k1 r0 a j l d c f g i o h b n) u v p r)
def Z2 (N:Nat) (k1:Int→Int→Int→LA→O R) (r0:Int→O R) (a:Nat) (m j l:Int) (d:LA) (c:Nat) (f g:Bool) (i:Int) (h:Bool) (b:LA) (q3:Int→Int→Int→Int→LA→O R) (o:Int) (y:LA):O R :=
 (q3 o (wrap .i64 (m - 1)) (a:Int) 0 y)
def V2 (k1:Int→Int→Int→LA→O R) (r0:Int→O R) (a:Nat) (m j l:Int) (d:LA) (c:Nat) (f g:Bool) (i:Int) (h:Bool) (b:LA) (o:Int) (y:LA):O R:=(Z2 N k1 r0 a m j l d c f g i h b (fun o=>M2 N k1 r0 a j l d c f g i o h b N) o y)
def S4 (r0:Int→O R) (a:Nat) (d:LA) (c:Nat) (f g h:Bool) (b:LA) (k1:Int→Int→Int→LA→O R) (q2:Int→Int→Int→Int→Int→LA→O R) (m i s:Int) (t:LA):O R :=
 (cond (decide (s<i)) (cond (Af s c) (An .i64 (d.drop ((s.toNat)*1)) fun z=>Az 12 (b.drop 3) fun ad ae=>cond (Af z ae) (An .i64 ((ad.drop ((z.toNat)*12)).drop 1) fun aa=>cond (Af aa a) (An .i64 (t.drop (0+((aa.toNat)*1))) fun j=>Az 12 (b.drop 3) fun af ag=>cond (Af z ag) (An .i64 ((af.drop ((z.toNat)*12)).drop 2) fun ab=>cond (Af ab a) (An .i64 (t.drop (0+((ab.toNat)*1))) fun l=>cond ((j==l)==false) (C8 N z (q2 m j l i s t)) (k1 m i (wrap .i64 (s+1)) t)) none) none) none) none) none) (r0 m))
def Hm (r0:Int→O R) (a:Nat) (d:LA) (c:Nat) (f g h:Bool) (b:LA):Nat→Int→Int→Int→LA→O R
 | 0,_,_,_,_=>none
 | n+1,m,i,s,t=>(S4 N r0 a d c f g h b (Hm r0 a d c f g h b n) (fun m j l i=>V2 N (Hm r0 a d c f g h b n) r0 a m j l d c f g i h b) m i s t)
def S5 (N:Nat) (r0:Int→O R) (d:LA) (c:Nat) (f g:Bool) (a:Nat) (h:Bool) (b:LA) (k0:Int→Int→LA→O R) (q1:Int→Int→Int→LA→O R) (x q:Int) (w:LA):O R :=
 (cond (decide (q<x)) (cond (Af q a) (cond ((beq 1 1)&&((ble ((0+((q.toNat)*1))+1) (w.length))&&(!false))) (k0 x (wrap .i64 (q+1)) (w.set (0+((q.toNat)*1)) (.int .i64 q))) none) none) (q1 (a:Int) (c:Int) 0 w))
def J4 (r0:Int→O R) (d:LA) (c:Nat) (f g:Bool) (a:Nat) (h:Bool) (b:LA):Nat→Int→Int→LA→O R
 | 0,_,_,_=>none
 | n+1,x,q,w=>(S5 N r0 d c f g a h b (J4 r0 d c f g a h b n) (Hm N r0 a d c f g h b N) x q w)
def GY (N:Nat) (r0:Int→O R) (q0:Nat→Int→Int→LA→O R) (b:LA) (h:Bool) (d:LA) (c:Nat) (f g:Bool):O R :=
 (Az 3 (b.drop 2) fun ah a=>cond ((decide (0≤(a:Int)))&&((decide ((a:Int)≤(a:Int)))&&((decide ((a:Int)≤140737488355328))&&(decide (((a:Int)*((8:Nat):Int))≤140737488355328))))) (q0 a (a:Int) 0 (replicate a (.int .i64 0))) none)
def EW:=(Ai fun N b h d c f g r0=>GY (R:=R) N r0 (fun a=>J4 N r0 d c f g a h b N) b h d c f g).1
theorem OS (b h d c f g e):(@EW R N b h d c f g e)=(GY N e (fun a=>J4 N e d c f g a h b N) b h d c f g):=by rw[EW,(Ai _).2]
def WL:Hints:={ H:=(hK 2 (hS (hK 1 (hS (hP [1,2,3,7,20,21] hL) hL)) (hK 1 (hS (hK 1 (hS (hP [2,3,7,9,31,32,33] (hK 2 (hS (hS (hK 2 (hJ [2,3,7,9,12,13,31,32,33] hL (hK 2 (hS (hP [2,3,7,9,12,13,31,32,33,66,67] hL) hL)))) hL) hL))) hL)) hL)))) }
def dz:Qr:=[Qx N]
def V3 (F:KF R):=Jd Tryz.f154 WL (dz N) [] N F
def nP (a:Nat) (j l:Int) (d:LA) (c:Nat) (f g:Bool) (i o:Int) (h:Bool) (b:LA) (K:St→O R):=fun u v p r=>K ⟨[(2,.nsl),(3,(op 0)),(7,(.own 300001 0 a)),(9,(iv u)),(12,(iv j)),(13,(iv l)),(31,(.imm d c 1 f g)),(32,(iv i)),(33,(iv o)),(66,(iv v)),(67,(iv p))],(hq [(bP h 0 b),(bQ 1 r)])⟩
def nQ (a:Nat) (m j l:Int) (d:LA) (c:Nat) (f g:Bool) (i:Int) (h:Bool) (b:LA) (K:St→O R):=fun o y=>K ⟨[(2,.nsl),(3,(op 0)),(7,(.own 300001 0 a)),(9,(iv m)),(12,(iv j)),(13,(iv l)),(31,(.imm d c 1 f g)),(32,(iv i)),(33,(iv o))],(hq [(bP h 0 b),(bQ 1 y)])⟩
def Qy (a:Nat) (d:LA) (c:Nat) (f g h:Bool) (b:LA) (K:St→O R):=fun m i s t=>K ⟨[(2,.nsl),(3,(op 0)),(7,(.own 300001 0 a)),(9,(iv m)),(31,(.imm d c 1 f g)),(32,(iv i)),(33,(iv s))],(hq [(bP h 0 b),(bQ 1 t)])⟩
def nR (d:LA) (c:Nat) (f g:Bool) (a:Nat) (h:Bool) (b:LA) (K:St→O R):=fun x q w=>K ⟨[(1,(.imm d c 1 f g)),(2,.nsl),(3,(op 0)),(7,(.own 300001 0 a)),(20,(iv x)),(21,(iv q))],(hq [(bP h 0 b),(bQ 1 w)])⟩
theorem eA (Q1) (F:KF R) (a j l d c f g i o h b):∀ n,nP a j l d c f g i o h b (Am (V3 N F (pz 91553596756) [Q1]) n)=(M2 N (Qy a d c f g h b Q1) (Dp F) a j l d c f g i o h b n):=Fc fun n e=>(By (S3 N (Qy a d c f g h b Q1) (Dp F) a j l d c f g i o h b) e:_)
theorem eC (Q1) (F:KF R) (a m j l d c f g i h b):nQ a m j l d c f g i h b (Bv (V3 N F (pz 1430524949) [Q1]))=(V2 N (Qy a d c f g h b Q1) (Dp F) a m j l d c f g i h b):=(By (Z2 N (Qy a d c f g h b Q1) (Dp F) a m j l d c f g i h b) (fi fun o=>(lW ..).trans (eA ..)):_)
theorem eD (F:KF R) (a d c f g h b):∀ n,Qy a d c f g h b (Am (V3 N F (pz 21828) []) n)=(Hm N (Dp F) a d c f g h b n):=Fc fun n e=>(MW (S4 N (Dp F) a d c f g h b) e (wu fun m j l i=>(jW ..).trans ((eC ..).trans (oY (V2 _ · _ _ _ _ _ _ _ _ _ _ _ _) e))):_)
theorem eE (F:KF R) (d c f g a h b):∀ n,nR d c f g a h b (Am (V3 N F (pz 1348) []) n)=(J4 N (Dp F) d c f g a h b n):=Fc fun n e=>(MW (S5 N (Dp F) d c f g a h b) e ((lW ..).trans (eD ..)):_)
def pw:=Dq N 154 (dz N) WL (fun
 | [(.pagg b h),(.imm d c 1 f g),.nsl],[]=>some fun _ k=>(EW N b h d c f g (Dp k))
 | _,_=>none) fun _ _=>by split;intro R F;exact(By (GY N (Dp F) · _ _ _ _ _ _) (fi fun a=>(lW ..).trans (eE ..)):_).trans (OS ..).symm;trivial
def Ma (N:Nat) (k1:Int→Int→Int→LA→O R) (r0:Int→O R) (d:LA) (f:Nat) (i g:Bool) (a:Nat) (q r:Int) (h:LA) (c:Nat) (j l:Bool) (p o:Int) (m:Bool) (b:LA) (k3:Int→Int→Int→LA→O R) (x y t:Int) (v:LA):O R :=
 (cond (decide (t<y)) (cond (Af t a) (An .i64 (v.drop (0+((t.toNat)*1))) fun af=>cond (af==r) (cond (Af t a) (cond ((beq 1 1)&&((ble ((0+((t.toNat)*1))+1) (v.length))&&(!false))) (k3 x y (wrap .i64 (t+1)) (v.set (0+((t.toNat)*1)) (.int .i64 q))) none) none) (k3 x y (wrap .i64 (t+1)) v)) none) (k1 x p (wrap .i64 (o+1)) v))
def Hb (k1:Int→Int→Int→LA→O R) (r0:Int→O R) (d:LA) (f:Nat) (i g:Bool) (a:Nat) (q r:Int) (h:LA) (c:Nat) (j l:Bool) (p o:Int) (m:Bool) (b:LA):Nat→Int→Int→Int→LA→O R
 | 0,_,_,_,_=>none
 | n+1,x,y,t,v=>(Ma N k1 r0 d f i g a q r h c j l p o m b (Hb k1 r0 d f i g a q r h c j l p o m b n) x y t v)
def Ro (N:Nat) (k1:Int→Int→Int→LA→O R) (r0:Int→O R) (d:LA) (f:Nat) (i g:Bool) (a:Nat) (s q r:Int) (h:LA) (c:Nat) (j l:Bool) (p o:Int) (m:Bool) (b:LA) (q3:Int→Int→Int→LA→O R) (ab:LA):O R :=
 (q3 (wrap .i64 (s - 1)) (a:Int) 0 ab)
def Ns (k1:Int→Int→Int→LA→O R) (r0:Int→O R) (d:LA) (f:Nat) (i g:Bool) (a:Nat) (s q r:Int) (h:LA) (c:Nat) (j l:Bool) (p o:Int) (m:Bool) (b:LA) (ab:LA):O R:=(Ro N k1 r0 d f i g a s q r h c j l p o m b (Hb N k1 r0 d f i g a q r h c j l p o m b N) ab)
def Mb (r0:Int→O R) (d:LA) (f:Nat) (i g:Bool) (a:Nat) (h:LA) (c:Nat) (j l m:Bool) (b:LA) (k1:Int→Int→Int→LA→O R) (q2:Int→Int→Int→Int→Int→LA→O R) (s p o:Int) (w:LA):O R :=
 (cond (decide (o<p)) (cond (Af o c) (An .i64 (h.drop ((o.toNat)*1)) fun ac=>Az 12 (b.drop 3) fun ag ah=>cond (Af ac ah) (An .i64 ((ag.drop ((ac.toNat)*12)).drop 1) fun ad=>cond (Af ad a) (An .i64 (w.drop (0+((ad.toNat)*1))) fun q=>Az 12 (b.drop 3) fun ai aj=>cond (Af ac aj) (An .i64 ((ai.drop ((ac.toNat)*12)).drop 2) fun ae=>cond (Af ae a) (An .i64 (w.drop (0+((ae.toNat)*1))) fun r=>cond ((q==r)==false) (Ct N d f false g ac fun ak=>cond (cond false true ak) (k1 s p (wrap .i64 (o+1)) w) (q2 s q r p o w)) (k1 s p (wrap .i64 (o+1)) w)) none) none) none) none) none) (r0 s))
def Ei (r0:Int→O R) (d:LA) (f:Nat) (i g:Bool) (a:Nat) (h:LA) (c:Nat) (j l m:Bool) (b:LA):Nat→Int→Int→Int→LA→O R
 | 0,_,_,_,_=>none
 | n+1,s,p,o,w=>(Mb N r0 d f i g a h c j l m b (Ei r0 d f i g a h c j l m b n) (fun s q r p o=>Ns N (Ei r0 d f i g a h c j l m b n) r0 d f i g a s q r h c j l p o m b) s p o w)
def Mc (N:Nat) (r0:Int→O R) (h:LA) (c:Nat) (j l:Bool) (d:LA) (f:Nat) (i g:Bool) (a:Nat) (m:Bool) (b:LA) (k0:Int→Int→LA→O R) (q1:Int→Int→Int→LA→O R) (aa u:Int) (z:LA):O R :=
 (cond (decide (u<aa)) (cond (Af u a) (cond ((beq 1 1)&&((ble ((0+((u.toNat)*1))+1) (z.length))&&(!false))) (k0 aa (wrap .i64 (u+1)) (z.set (0+((u.toNat)*1)) (.int .i64 u))) none) none) (q1 (a:Int) (c:Int) 0 z))
def Fm (r0:Int→O R) (h:LA) (c:Nat) (j l:Bool) (d:LA) (f:Nat) (i g:Bool) (a:Nat) (m:Bool) (b:LA):Nat→Int→Int→LA→O R
 | 0,_,_,_=>none
 | n+1,aa,u,z=>(Mc N r0 h c j l d f i g a m b (Fm r0 h c j l d f i g a m b n) (Ei N r0 d f i g a h c j l m b N) aa u z)
def S6 (N:Nat) (r0:Int→O R) (q0:Nat→Int→Int→LA→O R) (b:LA) (m:Bool) (h:LA) (c:Nat) (j l:Bool) (d:LA) (f:Nat) (i g:Bool):O R :=
 (Az 3 (b.drop 2) fun al a=>cond ((decide (0≤(a:Int)))&&((decide ((a:Int)≤(a:Int)))&&((decide ((a:Int)≤140737488355328))&&(decide (((a:Int)*((8:Nat):Int))≤140737488355328))))) (q0 a (a:Int) 0 (replicate a (.int .i64 0))) none)
def Qz:=(Ai fun N b m h c j l d f i g r0=>S6 (R:=R) N r0 (fun a=>Fm N r0 h c j l d f i g a m b N) b m h c j l d f i g).1
theorem BW (b m h c j l d f i g e):(@Qz R N b m h c j l d f i g e)=(S6 N e (fun a=>Fm N e h c j l d f i g a m b N) b m h c j l d f i g):=by rw[Qz,(Ai _).2]
def EX:Hints:={ H:=(hK 2 (hS (hK 1 (hS (hP [1,2,3,7,20,21] hL) hL)) (hK 1 (hS (hK 1 (hS (hP [2,3,7,9,31,32,33] (hK 2 (hS (hS (hK 2 (hJ [2,3,7,9,12,13,31,32,33] hL (hK 2 (hS (hP [2,3,7,9,12,13,31,32,33,66,67] hL) hL)))) hL) hL))) hL)) hL)))) }
def JL:Qr:=[J3 N]
def Nt (F:KF R):=Jd Tryz.f154 EX (JL N) [] N F
def eF (d:LA) (f:Nat) (i g:Bool) (a:Nat) (q r:Int) (h:LA) (c:Nat) (j l:Bool) (p o:Int) (m:Bool) (b:LA) (K:St→O R):=fun x y t v=>K ⟨[(2,(.imm d f 1 i g)),(3,(op 0)),(7,(.own 300001 0 a)),(9,(iv x)),(12,(iv q)),(13,(iv r)),(31,(.imm h c 1 j l)),(32,(iv p)),(33,(iv o)),(66,(iv y)),(67,(iv t))],(hq [(bP m 0 b),(bQ 1 v)])⟩
def eG (d:LA) (f:Nat) (i g:Bool) (a:Nat) (s q r:Int) (h:LA) (c:Nat) (j l:Bool) (p o:Int) (m:Bool) (b:LA) (K:St→O R):=fun ab=>K ⟨[(2,(.imm d f 1 i g)),(3,(op 0)),(7,(.own 300001 0 a)),(9,(iv s)),(12,(iv q)),(13,(iv r)),(31,(.imm h c 1 j l)),(32,(iv p)),(33,(iv o))],(hq [(bP m 0 b),(bQ 1 ab)])⟩
def J5 (d:LA) (f:Nat) (i g:Bool) (a:Nat) (h:LA) (c:Nat) (j l m:Bool) (b:LA) (K:St→O R):=fun s p o w=>K ⟨[(2,(.imm d f 1 i g)),(3,(op 0)),(7,(.own 300001 0 a)),(9,(iv s)),(31,(.imm h c 1 j l)),(32,(iv p)),(33,(iv o))],(hq [(bP m 0 b),(bQ 1 w)])⟩
def eH (h:LA) (c:Nat) (j l:Bool) (d:LA) (f:Nat) (i g:Bool) (a:Nat) (m:Bool) (b:LA) (K:St→O R):=fun aa u z=>K ⟨[(1,(.imm h c 1 j l)),(2,(.imm d f 1 i g)),(3,(op 0)),(7,(.own 300001 0 a)),(20,(iv aa)),(21,(iv u))],(hq [(bP m 0 b),(bQ 1 z)])⟩
theorem OT (Q1) (F:KF R) (d f i g a q r h c j l p o m b):∀ n,eF d f i g a q r h c j l p o m b (Am (Nt N F (pz 91553596756) [Q1]) n)=(Hb N (J5 d f i g a h c j l m b Q1) (Dp F) d f i g a q r h c j l p o m b n):=Fc fun n e=>(By (Ma N (J5 d f i g a h c j l m b Q1) (Dp F) d f i g a q r h c j l p o m b) e:_)
theorem OU (Q1) (F:KF R) (d f i g a s q r h c j l p o m b):eG d f i g a s q r h c j l p o m b (Bv (Nt N F (pz 1430524949) [Q1]))=(Ns N (J5 d f i g a h c j l m b Q1) (Dp F) d f i g a s q r h c j l p o m b):=(By (Ro N (J5 d f i g a h c j l m b Q1) (Dp F) d f i g a s q r h c j l p o m b) ((lW ..).trans (OT ..)):_)
theorem OV (F:KF R) (d f i g a h c j l m b):∀ n,J5 d f i g a h c j l m b (Am (Nt N F (pz 21828) []) n)=(Ei N (Dp F) d f i g a h c j l m b n):=Fc fun n e=>(MW (Mb N (Dp F) d f i g a h c j l m b) e (Aay fun s q r p o=>(jW ..).trans ((OU ..).trans (oY (Ns _ · _ _ _ _ _ _ _ _ _ _ _ _ _ _ _ _ _) e))):_)
theorem OW (F:KF R) (h c j l d f i g a m b):∀ n,eH h c j l d f i g a m b (Am (Nt N F (pz 1348) []) n)=(Fm N (Dp F) h c j l d f i g a m b n):=Fc fun n e=>(MW (Mc N (Dp F) h c j l d f i g a m b) e ((lW ..).trans (OV ..)):_)
def g9:=Dq N 154 (JL N) EX (fun
 | [(.pagg b m),(.imm h c 1 j l),(.imm d f 1 i g)],[]=>some fun _ k=>(Qz N b m h c j l d f i g (Dp k))
 | _,_=>none) fun _ _=>by split;intro R F;exact(By (S6 N (Dp F) · _ _ _ _ _ _ _ _ _ _) (fi fun a=>(lW ..).trans (OW ..)):_).trans (BW ..).symm;trivial
def Nu (k0:Int→Bool→LA→O R) (r0:Bool→LA→O R) (d:Nat) (i c:Int) (f:LA) (g:Nat) (h:LA) (b:Bool) (a:LA) (k1:Int→Int→Bool→Int→Int→Bool→LA→O R) (p q:Int) (r:Bool) (s j:Int) (t:Bool) (u:LA):O R :=
 (cond (decide (j<s)) (cond (Af j g) (cond (ble 4 ((f.drop ((j.toNat)*4)).length)) (cond ((beq 0 0)&&((beq (((f.drop ((j.toNat)*4)).take 4).length) 4)&&(beq 4 4))) (EG N 6 j t u fun w v=>cond (ble 8 (v.length)) (Az 1 (((f.drop ((j.toNat)*4)).take 4).drop 1) fun x y=>Qz N (v.take 8) w (h.take (d*1)) d false true x y false r fun z=>Aq N (z==i) p 13 w v fun aa ab=>k1 p q r s (wrap .i64 (j+1)) aa ab) none) none) none) none) (k0 (wrap .i64 (q+1)) t u))
def Gr (k0:Int→Bool→LA→O R) (r0:Bool→LA→O R) (d:Nat) (i c:Int) (f:LA) (g:Nat) (h:LA) (b:Bool) (a:LA):Nat→Int→Int→Bool→Int→Int→Bool→LA→O R
 | 0,_,_,_,_,_,_,_=>none
 | n+1,p,q,r,s,j,t,u=>(Nu N k0 r0 d i c f g h b a (Gr k0 r0 d i c f g h b a n) p q r s j t u)
def Nv (r0:Bool→LA→O R) (c:Int) (b:Bool) (a:LA) (k0:Int→Bool→LA→O R) (q1:Nat→Int→LA→Nat→LA→Int→Int→Bool→Int→Int→Bool→LA→O R) (o:Int) (m:Bool) (l:LA):O R :=
 (cond (decide (o<c)) (cond (ble 8 (l.length)) (Ya N (l.take 8) m o fun d h=>cond (ble 8 (l.length)) (EW N (l.take 8) m (h.take (d*1)) d false true fun i=>Az 4 (l.drop 7) fun f g=>q1 d i f g h o o m (g:Int) 0 m l) none) none) (r0 m l))
def E5 (r0:Bool→LA→O R) (c:Int) (b:Bool) (a:LA):Nat→Int→Bool→LA→O R
 | 0,_,_,_=>none
 | n+1,o,m,l=>(Nv N r0 c b a (E5 r0 c b a n) (fun d i f g h=>Gr N (E5 r0 c b a n) r0 d i c f g h b a N) o m l)
def V4 (N:Nat) (r0:Bool→LA→O R) (q0:Int→Int→Bool→LA→O R) (b:Bool) (a:LA):O R :=
 (An .i64 a fun c=>q0 c 0 b a)
def O9:=(Ai fun N b a r0=>V4 (R:=R) N r0 (fun c=>E5 N r0 c b a N) b a).1
theorem EY (b a d):(@O9 R N b a d)=(V4 N d (fun c=>E5 N d c b a N) b a):=by rw[O9,(Ai _).2]
def JM:Hints:={ H:=(hK 1 (hS (hP [0,11,12] (hK 2 (hS (hS (hK 4 (hS (hP [0,2,3,4,11,12,31,32,33] hL) hL)) hL) hL))) hL)) }
def Uj:=Aax (pw N) (g9 N) (Eq.refl 154)
def OX:Qr:=[nO N,Uj N,Vm N,Cp N]
def JN (F:KF R):=Jd Tryz.f97 JM (OX N) [100000] N F
def g_ (d:Nat) (i c:Int) (f:LA) (g:Nat) (h:LA) (b:Bool) (a:LA) (K:St→O R):=fun p q r s j t u=>K ⟨[(0,(.optr 100000 0)),(2,(iv p)),(3,(.own 300000 0 d)),(4,(iv i)),(11,(iv c)),(12,(iv q)),(31,(.imm f g 4 false r)),(32,(iv s)),(33,(iv j))],[(100000,(bP t 0 u)),(300000,(bQ 1 h))]⟩
def Wy (c:Int) (b:Bool) (a:LA) (K:St→O R):=fun o m l=>K ⟨[(0,(.optr 100000 0)),(11,(iv c)),(12,(iv o))],[(100000,(bP m 0 l))]⟩
theorem TD (Q0) (F:KF R) (d i c f g h b a):∀ n,g_ d i c f g h b a (Am (JN N F (pz 21053780) [Q0]) n)=(Gr N (Wy c b a Q0) (Ca F) d i c f g h b a n):=Fc fun n e=>(By (Nu N (Wy c b a Q0) (Ca F) d i c f g h b a) e:_)
theorem TE (F:KF R) (c b a):∀ n,Wy c b a (Am (JN N F (pz 20) []) n)=(E5 N (Ca F) c b a n):=Fc fun n e=>(MW (Nv N (Ca F) c b a) e (Aay fun d i f g h=>(lW ..).trans ((TD ..).trans (oY (Gr _ · _ _ _ _ _ _ _ _ _ _) e))):_)
def kS:=Dq N 97 (OX N) JM (fun
 | [(.optr 100000 0)],[(100000,⟨false,false,true,b,0,a,false,none⟩)]=>some fun _ k=>(O9 N b a (Ca k))
 | _,_=>none) fun _ _=>by split;intro R F;exact(By (V4 N (Ca F) · _ _) (fi fun c=>(lW ..).trans (TE ..)):_).trans (EY ..).symm;trivial
def Di (r0:LA→Int→O R) (k0:Int→Bool→LA→O R) (a:Int) (b:Bool) (c:LA):O R :=
 (cond (decide (a<8)) (cond (Af a 8) (cond (beq (0+((a.toNat)*1)) 0) (X1 N b c fun q f=>An .i64 (f.drop 11) fun y=>cond (y != 0) (cond (ble 3 ((f.drop 8).length)) (cond ((!q)||(Aw ((f.drop 8).take 3))) (An .i64 (f.drop 11) fun z=>cond ((beq (((f.drop 8).take 3).length) 3)&&((ble 3 3)&&(!false))) (cond (ble 3 ((setCells [(.int .i64 0),(.int .i64 0),(.int .i64 0)] 0 ((f.drop 8).take 3)).length)) (r0 ((setCells [(.int .i64 0),(.int .i64 0),(.int .i64 0)] 0 ((f.drop 8).take 3)).take 3) z) none) none) none) none) (k0 (wrap .i64 (a+1)) q f)) (cond (beq (0+((a.toNat)*1)) 1) (X3 N b c fun r g=>An .i64 (g.drop 11) fun aa=>cond (aa != 0) (cond (ble 3 ((g.drop 8).length)) (cond ((!r)||(Aw ((g.drop 8).take 3))) (An .i64 (g.drop 11) fun ab=>cond ((beq (((g.drop 8).take 3).length) 3)&&((ble 3 3)&&(!false))) (cond (ble 3 ((setCells [(.int .i64 0),(.int .i64 0),(.int .i64 0)] 0 ((g.drop 8).take 3)).length)) (r0 ((setCells [(.int .i64 0),(.int .i64 0),(.int .i64 0)] 0 ((g.drop 8).take 3)).take 3) ab) none) none) none) none) (k0 (wrap .i64 (a+1)) r g)) (cond (beq (0+((a.toNat)*1)) 2) (X6 N b c fun s h=>An .i64 (h.drop 11) fun ac=>cond (ac != 0) (cond (ble 3 ((h.drop 8).length)) (cond ((!s)||(Aw ((h.drop 8).take 3))) (An .i64 (h.drop 11) fun ad=>cond ((beq (((h.drop 8).take 3).length) 3)&&((ble 3 3)&&(!false))) (cond (ble 3 ((setCells [(.int .i64 0),(.int .i64 0),(.int .i64 0)] 0 ((h.drop 8).take 3)).length)) (r0 ((setCells [(.int .i64 0),(.int .i64 0),(.int .i64 0)] 0 ((h.drop 8).take 3)).take 3) ad) none) none) none) none) (k0 (wrap .i64 (a+1)) s h)) (cond (beq (0+((a.toNat)*1)) 3) (X8 N b c fun t i=>An .i64 (i.drop 11) fun ae=>cond (ae != 0) (cond (ble 3 ((i.drop 8).length)) (cond ((!t)||(Aw ((i.drop 8).take 3))) (An .i64 (i.drop 11) fun af=>cond ((beq (((i.drop 8).take 3).length) 3)&&((ble 3 3)&&(!false))) (cond (ble 3 ((setCells [(.int .i64 0),(.int .i64 0),(.int .i64 0)] 0 ((i.drop 8).take 3)).length)) (r0 ((setCells [(.int .i64 0),(.int .i64 0),(.int .i64 0)] 0 ((i.drop 8).take 3)).take 3) af) none) none) none) none) (k0 (wrap .i64 (a+1)) t i)) (cond (beq (0+((a.toNat)*1)) 4) (Tm N b c fun u j=>An .i64 (j.drop 11) fun ag=>cond (ag != 0) (cond (ble 3 ((j.drop 8).length)) (cond ((!u)||(Aw ((j.drop 8).take 3))) (An .i64 (j.drop 11) fun ah=>cond ((beq (((j.drop 8).take 3).length) 3)&&((ble 3 3)&&(!false))) (cond (ble 3 ((setCells [(.int .i64 0),(.int .i64 0),(.int .i64 0)] 0 ((j.drop 8).take 3)).length)) (r0 ((setCells [(.int .i64 0),(.int .i64 0),(.int .i64 0)] 0 ((j.drop 8).take 3)).take 3) ah) none) none) none) none) (k0 (wrap .i64 (a+1)) u j)) (cond (beq (0+((a.toNat)*1)) 5) (GW N b c fun v l=>An .i64 (l.drop 11) fun ai=>cond (ai != 0) (cond (ble 3 ((l.drop 8).length)) (cond ((!v)||(Aw ((l.drop 8).take 3))) (An .i64 (l.drop 11) fun aj=>cond ((beq (((l.drop 8).take 3).length) 3)&&((ble 3 3)&&(!false))) (cond (ble 3 ((setCells [(.int .i64 0),(.int .i64 0),(.int .i64 0)] 0 ((l.drop 8).take 3)).length)) (r0 ((setCells [(.int .i64 0),(.int .i64 0),(.int .i64 0)] 0 ((l.drop 8).take 3)).take 3) aj) none) none) none) none) (k0 (wrap .i64 (a+1)) v l)) (cond (beq (0+((a.toNat)*1)) 6) (O6 N b c fun w m=>An .i64 (m.drop 11) fun ak=>cond (ak != 0) (cond (ble 3 ((m.drop 8).length)) (cond ((!w)||(Aw ((m.drop 8).take 3))) (An .i64 (m.drop 11) fun al=>cond ((beq (((m.drop 8).take 3).length) 3)&&((ble 3 3)&&(!false))) (cond (ble 3 ((setCells [(.int .i64 0),(.int .i64 0),(.int .i64 0)] 0 ((m.drop 8).take 3)).length)) (r0 ((setCells [(.int .i64 0),(.int .i64 0),(.int .i64 0)] 0 ((m.drop 8).take 3)).take 3) al) none) none) none) none) (k0 (wrap .i64 (a+1)) w m)) (cond (beq (0+((a.toNat)*1)) 7) (O9 N b c fun x o=>An .i64 (o.drop 11) fun am=>cond (am != 0) (cond (ble 3 ((o.drop 8).length)) (cond ((!x)||(Aw ((o.drop 8).take 3))) (An .i64 (o.drop 11) fun an=>cond ((beq (((o.drop 8).take 3).length) 3)&&((ble 3 3)&&(!false))) (cond (ble 3 ((setCells [(.int .i64 0),(.int .i64 0),(.int .i64 0)] 0 ((o.drop 8).take 3)).length)) (r0 ((setCells [(.int .i64 0),(.int .i64 0),(.int .i64 0)] 0 ((o.drop 8).take 3)).take 3) an) none) none) none) none) (k0 (wrap .i64 (a+1)) x o)) none)))))))) none) (r0 [(.int .i64 0),(.int .i64 0),(.int .i64 0)] 0))
def Au (r0:LA→Int→O R):Nat→Int→Bool→LA→O R
 | 0,_,_,_=>none
 | n+1,a,b,c=>(Di N r0 (Au r0 n) a b c)
def GZ (N:Nat) (r0:LA→Int→O R) (q0:Int→Bool→LA→O R) (d:LA) (p:Bool):O R :=
 (cond (ble 8 (d.length)) (cond ((beq ((d.take 8).length) 8)&&(ble 8 12)) (q0 0 (p||false) (setCells [(.int .i64 0),.nsl,.nsl,.nsl,.nsl,.nsl,.nsl,.nsl,(.int .i64 0),(.int .i64 0),(.int .i64 0),(.int .i64 0)] 0 (d.take 8))) none) none)
def EZ:=(Ai fun N d p r0=>GZ (R:=R) N r0 (Au N r0 N) d p).1
theorem OY (d p b):(@EZ R N d p b)=(GZ N b (Au N b N) d p):=by rw[EZ,(Ai _).2]
def WM:Hints:={ H:=(hK 2 (hS (hK 1 (hS (hP [2,4,26,27,28] hL) hL)) hL)),modes:=[(3,0),(0,0)] }
def eI:Qr:=[pi N,pm N,pp N,pq N,nK N,s8 N,kP N,kS N]
def nS (F:KF R):=Jd Tryz.f51 WM (eI N) [] N F
def nT (K:St→O R):=fun a b c=>K ⟨[(2,(op 0)),(4,(op 1)),(26,(.own 300002 0 8)),(27,(iv 8)),(28,(iv a))],(hq [(bQ 0 [(iv 0),(iv 0),(iv 0)]),(bP b 0 c),(bN 1 [(.fn 1000090 [(op 1)]),(.fn 1000091 [(op 1)]),(.fn 1000092 [(op 1)]),(.fn 1000093 [(op 1)]),(.fn 1000094 [(op 1)]),(.fn 1000095 [(op 1)]),(.fn 1000096 [(op 1)]),(.fn 1000097 [(op 1)])])])⟩
theorem eJ (F:KF R):∀ n,nT (Am (nS N F (pz 1348) []) n)=(Au N (O1 F) n):=Fc fun n e=>(By (Di N (O1 F)) e:_)
def qA:=Dq N 51 (eI N) WM (fun
 | [(.pagg d p)],[]=>some fun _ k=>(EZ N d p (O1 k))
 | _,_=>none) fun _ _=>by split;intro R F;exact(By (GZ N (O1 F) · _ _) ((lW ..).trans (eJ ..)):_).trans (OY ..).symm;trivial
def S7 (N:Nat) (r0:LA→Bool→O R) (a:Int) (b:Bool):O R :=
 (cond b (r0 [(.bool false),(.bool false),(.bool false),(.bool true)] true) (cond (a==3) (r0 [(.bool true),(.bool false),(.bool false),(.bool false)] true) (cond (a==4) (r0 [(.bool true),(.bool true),(.bool true),(.bool false)] true) (r0 [(.bool false),(.bool false),(.bool false),(.bool false)] false))))
def Z3 (N:Nat) (r0:LA→Bool→O R) (q0:Bool→O R) (a:Int):O R :=
 (cond (a==0) (r0 [(.bool true),(.bool true),(.bool false),(.bool false)] true) (cond (a==1) (q0 (a==1)) (q0 (a==2))))
def Tn:=(Ai fun N a r0=>Z3 (R:=R) N r0 (S7 N r0 a) a).1
theorem JO (a b):(@Tn R N a b)=(Z3 N b (S7 N b a) a):=by rw[Tn,(Ai _).2]
def OZ:Hints:={ H:=(hK 1 (hS (hK 1 (hS (hK 2 (hJ [2,4,8] hL hL)) hL)) hL)),modes:=[(3,0),(0,0)] }
def kT (F:KF R):=Jd Tryz.f98 OZ [] [] N F
def Z4 (F:KF R):LA→Bool→O R:=(fun c d=>F (.tup [(.pagg c false),(.bool d)]) [])
def kU (a:Int) (K:St→O R):=fun b=>K ⟨[(2,(op 0)),(4,(iv a)),(8,(.bool b))],(hq [(bQ 0 [(.bool false),(.bool false),(.bool false),(.bool false)])])⟩
theorem YL (F:KF R) (a):kU a (Bv (kT N F (pz 20757) []))=(S7 N (Z4 F) a):=by kernel_rfl
def nU:=Dq N 98 [] OZ (fun
 | [(.int .i64 a)],[]=>some fun _ k=>(Tn N a (Z4 k))
 | _,_=>none) fun _ _=>by split;intro R F;exact(By (Z3 N (Z4 F) · _) ((jW ..).trans (YL ..)):_).trans (JO ..).symm;trivial
def TF (N:Nat) (b:Bool) (a c:Int) (r0:Bool→O R):O R :=
 (cond (!b) (r0 (a==0)) (cond ((decide (a≥0))==true) (r0 (cond true (decide (a<c)) false)) (r0 false)))
def Nw:=(Ai (@TF R)).1
theorem O_:@Nw R=@TF R:=(Ai _).2
def qB:=Dq N 99 [] G2 (fun
 | [(.bool b),(.int .i64 a),(.int .i64 c)],[]=>some fun _ k=>(Nw N b a c (Bi k))
 | _,_=>none) fun _ _=>by split;intro R F;dsimp only;rw[O_];kernel_rfl;trivial
def Ej (N:Nat) (r0:Bool→O R) (b:LA) (a:Nat) (c d:Bool) (k0:Int→O R) (f:Int):O R :=
 (cond (decide (f<(a:Int))) (cond (Af (wrap .i64 (f - 1)) a) (An .i64 (b.drop (((wrap .i64 (f - 1)).toNat)*4)) fun g=>cond (Af f a) (An .i64 (b.drop ((f.toNat)*4)) fun h=>cond (decide (g≥h)) (r0 false) (k0 (wrap .i64 (f+1)))) none) none) (r0 true))
def B7 (r0:Bool→O R) (b:LA) (a:Nat) (c d:Bool):Nat→Int→O R
 | 0,_=>none
 | n+1,f=>(Ej N r0 b a c d (B7 r0 b a c d n) f)
def Jf (N:Nat) (r0:Bool→O R) (q0:Int→O R) (b:LA) (a:Nat) (c d:Bool):O R :=
 (q0 1)
def Hc:=(Ai fun N b a c d r0=>Jf (R:=R) N r0 (B7 N r0 b a c d N) b a c d).1
theorem Q3 (b a c d e):(@Hc R N b a c d e)=(Jf N e (B7 N e b a c d N) b a c d):=by rw[Hc,(Ai _).2]
def HP (F:KF R):=Jd Tryz.f155 VO [] [] N F
def HQ (b:LA) (a:Nat) (c d:Bool) (K:St→O R):=fun f=>K ⟨[(0,(.imm b a 4 c d)),(3,(iv f))],[]⟩
theorem Z5 (F:KF R) (b a c d):∀ n,HQ b a c d (Am (HP N F (pz 324) []) n)=(B7 N (Bi F) b a c d n):=Fc fun n e=>(By (Ej N (Bi F) b a c d) e:_)
def LD:=Dq N 155 [] VO (fun
 | [(.imm b a 4 c d)],[]=>some fun _ k=>(Hc N b a c d (Bi k))
 | _,_=>none) fun _ _=>by split;intro R F;exact(By (Jf N (Bi F) · _ _ _ _) ((lW ..).trans (Z5 ..)):_).trans (Q3 ..).symm;trivial
def Ks (r0:Bool→O R) (d:Int) (a:LA) (b:Nat) (f c:Bool) (k0:Int→Int→O R) (h g:Int):O R :=
 (cond (decide (g<h)) (cond (Af g b) (cond (ble 4 ((a.drop ((g.toNat)*4)).length)) (cond ((beq 0 0)&&((beq (((a.drop ((g.toNat)*4)).take 4).length) 4)&&(beq 4 4))) (An .i64 ((a.drop ((g.toNat)*4)).take 4) fun i=>cond ((decide (i<0))==false) (An .i64 ((a.drop ((g.toNat)*4)).take 4) fun j=>cond ((cond false true (decide (j≥d)))==false) (cond (ble 3 ((((a.drop ((g.toNat)*4)).take 4).drop 1).length)) (Z' N ((((a.drop ((g.toNat)*4)).take 4).drop 1).take 3) c fun l=>cond (cond false true (l==0)) (r0 false) (k0 h (wrap .i64 (g+1)))) none) (r0 false)) (r0 false)) none) none) none) (r0 true))
def Er (r0:Bool→O R) (d:Int) (a:LA) (b:Nat) (f c:Bool):Nat→Int→Int→O R
 | 0,_,_=>none
 | n+1,h,g=>(Ks N r0 d a b f c (Er r0 d a b f c n) h g)
def P5 (r0:Bool→O R) (q0:Int→Int→O R) (a:LA) (b:Nat) (f c:Bool) (d:Int):O R :=
 (Hc N a b false c fun m=>cond (!m) (r0 false) (q0 (b:Int) 0))
def Nx:=(Ai fun N a b f c d r0=>P5 (R:=R) N r0 (Er N r0 d a b f c N) a b f c d).1
theorem Yb (a b f c d e):(@Nx R N a b f c d e)=(P5 N e (Er N e d a b f c N) a b f c d):=by rw[Nx,(Ai _).2]
def BX:Hints:={ H:=(hK 2 (hS (hK 1 (hS (hP [1,10,11,12] hL) hL)) hL)) }
def E_:Qr:=[LD N,sO N]
def YM (F:KF R):=Jd Tryz.f100 BX (E_ N) [] N F
def YN (d:Int) (a:LA) (b:Nat) (f c:Bool) (K:St→O R):=fun h g=>K ⟨[(1,(iv d)),(10,(.imm a b 4 f c)),(11,(iv h)),(12,(iv g))],[]⟩
theorem LE (F:KF R) (d a b f c):∀ n,YN d a b f c (Am (YM N F (pz 1348) []) n)=(Er N (Bi F) d a b f c n):=Fc fun n e=>(By (Ks N (Bi F) d a b f c) e:_)
def eK:=Dq N 100 (E_ N) BX (fun
 | [(.imm a b 4 f c),(.int .i64 d)],[]=>some fun _ k=>(Nx N a b f c d (Bi k))
 | _,_=>none) fun _ _=>by split;intro R F;exact(By (P5 N (Bi F) · _ _ _ _ _) ((lW ..).trans (LE ..)):_).trans (Yb ..).symm;trivial
def Cj (r0:Bool→O R) (d:Bool) (b:LA) (c:Bool) (a:LA) (e:LA):O R :=
 (Az 22 (b.drop 4) fun z g=>L_ e fun h=>An .i64 (a.drop 1) fun i=>Nw N h i (g:Int) fun j=>cond (j==true) (L_ (e.drop 1) fun l=>An .i64 (a.drop 2) fun m=>An .i64 b fun n=>Nw N l m n fun o=>cond ((cond true o false)==true) (L_ (e.drop 2) fun p=>An .i64 (a.drop 3) fun q=>Nw N p q (g:Int) fun r=>cond ((cond true r false)==true) (Az 4 (a.drop 4) fun s t=>Nx N s t false c 16384 fun u=>r0 (cond true u false)) (r0 false)) (r0 false)) (r0 false))
def Ny (r0:Bool→O R) (q0:LA→O R) (b:LA) (d:Bool) (a:LA) (c:Bool):O R :=
 (An .i64 a fun v=>Tn N v fun f w=>cond ((beq (f.length) 4)&&((ble 4 4)&&(!false))) (cond ((!w)==false) (L_ ((setCells [(.bool false),(.bool false),(.bool false),(.bool false)] 0 f).drop 3) fun x=>cond ((!x)==true) (Az 4 (a.drop 4) fun aa y=>cond (cond false true (cond true (decide ((y:Int)>0)) false)) (r0 false) (q0 (setCells [(.bool false),(.bool false),(.bool false),(.bool false)] 0 f))) (q0 (setCells [(.bool false),(.bool false),(.bool false),(.bool false)] 0 f))) (r0 false)) none)
def Lq:=(Ai fun N b d a c r0=>Ny (R:=R) N r0 (Cj N r0 d b c a) b d a c).1
theorem V5 (b d a c e):(@Lq R N b d a c e)=(Ny N e (Cj N e d b c a) b d a c):=by rw[Lq,(Ai _).2]
def Yc:Hints:={ H:=(hK 2 (hJ [2,3,5] hL hL)) }
def BY:Qr:=[nU N,qB N,eK N]
def TG (F:KF R):=Jd Tryz.f52 Yc (BY N) [] N F
def TH (d:Bool) (b:LA) (c:Bool) (a:LA) (K:St→O R):=fun e=>K ⟨[(2,(op 0)),(3,(op 1)),(5,(op 2))],(hq [(bP d 0 b),(bP c 0 a),(bQ 0 e)])⟩
theorem HR (F:KF R) (d b c a):TH d b c a (Bv (TG N F (pz 85) []))=(Cj N (Bi F) d b c a):=by kernel_rfl
def YO:=Dq N 52 (BY N) Yc (fun
 | [(.pagg b d),(.pagg a c)],[]=>some fun _ k=>(Lq N b d a c (Bi k))
 | _,_=>none) fun _ _=>by split;intro R F;exact(By (Ny N (Bi F) · _ _ _ _) ((jW ..).trans (HR ..)):_).trans (V5 ..).symm;trivial
def S8 (r0:Int→O R) (f:LA) (g:Nat) (c b:Bool) (a:LA) (k1:Int→Int→Int→O R) (i j h:Int):O R :=
 (cond (decide (h<j)) (cond (Af h g) (cond (ble 5 ((f.drop ((h.toNat)*5)).length)) (cond ((beq 0 0)&&((beq (((f.drop ((h.toNat)*5)).take 5).length) 5)&&(beq 5 5))) (cond ((i==0)==false) (cond (ble 8 (a.length)) (cond (ble 5 (((f.drop ((h.toNat)*5)).take 5).length)) (Lq N (a.take 8) b (((f.drop ((h.toNat)*5)).take 5).take 5) c fun m=>cond (cond false true (!m)) (r0 73) (An .i64 ((f.drop ((h.toNat)*5)).take 5) fun o=>cond (o==0) (k1 (wrap .i64 ((wrap .i64 (i - 1))+3)) j (wrap .i64 (h+1))) (k1 (wrap .i64 (i - 1)) j (wrap .i64 (h+1))))) none) none) (r0 73)) none) none) none) (cond (i != 0) (r0 73) (r0 0)))
def M3 (r0:Int→O R) (f:LA) (g:Nat) (c b:Bool) (a:LA):Nat→Int→Int→Int→O R
 | 0,_,_,_=>none
 | n+1,i,j,h=>(S8 N r0 f g c b a (M3 r0 f g c b a n) i j h)
def Z6 (N:Nat) (r0:Int→O R) (b:Bool) (a:LA) (c:Bool) (d:LA) (q1:LA→Nat→Int→Int→Int→O R):O R :=
 (Az 5 (d.drop 2) fun f g=>q1 f g 1 (g:Int) 0)
def Q4 (r0:Int→O R) (b:Bool) (a:LA) (c:Bool) (d:LA):O R:=(Z6 N r0 b a c d fun f g=>M3 N r0 f g c b a N)
def G_ (r0:Int→O R) (q0:O R) (a:LA) (b:Bool) (d:LA) (c:Bool):O R :=
 (cond (ble 8 (a.length)) (EZ N (a.take 8) b fun p l=>cond ((beq (p.length) 3)&&((ble 3 3)&&(!false))) (cond (l != 0) (r0 l) (Az 6 (d.drop 1) fun s q=>cond ((decide ((q:Int)>256))==false) (Az 5 (d.drop 2) fun t r=>cond (cond false true (decide ((r:Int)>4096))) (r0 8) q0) (r0 8))) none) none)
def Uk:=(Ai fun N a b d c r0=>G_ (R:=R) N r0 (Q4 N r0 b a c d) a b d c).1
theorem O' (a b d c e):(@Uk R N a b d c e)=(G_ N e (Q4 N e b a c d) a b d c):=by rw[Uk,(Ai _).2]
def WN:Hints:={ H:=(hK 2 (hJ [2,3] hL (hK 1 (hS (hK 1 (hS (hP [2,7,29,30,31] hL) hL)) hL)))) }
def eL:Qr:=[qA N,YO N]
def WO (F:KF R):=Jd Tryz.f20 WN (eL N) [] N F
def nV (f:LA) (g:Nat) (c b:Bool) (a:LA) (K:St→O R):=fun i j h=>K ⟨[(2,(op 0)),(7,(iv i)),(29,(.imm f g 5 false c)),(30,(iv j)),(31,(iv h))],(hq [(bP b 0 a)])⟩
def nW (b:Bool) (a:LA) (c:Bool) (d:LA) (K:St→O R):=K ⟨[(2,(op 0)),(3,(op 1))],(hq [(bP b 0 a),(bP c 0 d)])⟩
theorem eM (F:KF R) (f g c b a):∀ n,nV f g c b a (Am (WO N F (pz 21828) []) n)=(M3 N (Dp F) f g c b a n):=Fc fun n e=>(By (S8 N (Dp F) f g c b a) e:_)
theorem eN (F:KF R) (b a c d):nW b a c d (Bv (WO N F (pz 85) []))=(Q4 N (Dp F) b a c d):=(By (Z6 N (Dp F) b a c d) (fj fun f g=>(lW ..).trans (eM ..)):_)
def LF:=Dq N 20 (eL N) WN (fun
 | [(.pagg a b),(.pagg d c)],[]=>some fun _ k=>(Uk N a b d c (Dp k))
 | _,_=>none) fun _ _=>by split;intro R F;exact(By (G_ N (Dp F) · _ _ _ _) ((jW ..).trans (eN ..)):_).trans (O' ..).symm;trivial
def TI (c:LA) (e:Bool) (a:LA) (d:Bool) (b:Int) (r0:Nat→Int→LA→O R):O R :=
 (cond (ble 8 (c.length)) (cond (ble 3 (a.length)) (Uk N (c.take 8) e (a.take 3) d fun f=>cond (f != 0) (r0 0 f []) (cond ((decide (b<0))==false) (Az 5 (a.drop 2) fun m g=>cond (cond false true (decide (b≥(g:Int)))) (r0 0 12 []) (Az 5 (a.drop 2) fun h i=>kF N h i false d 0 b 0 [] fun n o j p l=>r0 j 0 l)) (r0 0 12 []))) none) none)
def PA:=(Ai (@TI R)).1
theorem PB:@PA R=@TI R:=(Ai _).2
def qC:=Dq N 22 [LF N,s4 N] { H:=hL,nils:=[(6,3)],modes:=[(2,3),(0,0)] } (fun
 | [(.pagg c e),(.pagg a d),(.int .i64 b)],[]=>some fun _ k=>(PA N c e a d b (wK k))
 | _,_=>none) fun _ _=>by split;intro R F;dsimp only;rw[PB];kernel_rfl;trivial
def Md (N:Nat) (r0:Bool→O R) (c d:Int) (b:LA) (a:Nat) (f g:Bool) (k0:Int→O R) (h:Int):O R :=
 (cond (decide (h<(a:Int))) (cond (Af h a) (An .i64 (b.drop ((h.toNat)*1)) fun i=>cond ((decide (i<c))==false) (cond (Af h a) (An .i64 (b.drop ((h.toNat)*1)) fun j=>cond (cond false true (decide (j>d))) (r0 false) (k0 (wrap .i64 (h+1)))) none) (r0 false)) none) (r0 true))
def Fn (r0:Bool→O R) (c d:Int) (b:LA) (a:Nat) (f g:Bool):Nat→Int→O R
 | 0,_=>none
 | n+1,h=>(Md N r0 c d b a f g (Fn r0 c d b a f g n) h)
def S9 (N:Nat) (r0:Bool→O R) (q0:Int→O R) (c d:Int) (b:LA) (a:Nat) (f g:Bool):O R :=
 (q0 0)
def Ak:=(Ai fun N c d b a f g r0=>S9 (R:=R) N r0 (Fn N r0 c d b a f g N) c d b a f g).1
theorem BZ (c d b a f g e):(@Ak R N c d b a f g e)=(S9 N e (Fn N e c d b a f g N) c d b a f g):=by rw[Ak,(Ai _).2]
def E':Hints:={ H:=(hK 1 (hS (hK 1 (hS (hP [0,1,2,7] hL) hL)) hL)) }
def eO (F:KF R):=Jd Tryz.f64 E' [] [] N F
def eP (c d:Int) (b:LA) (a:Nat) (f g:Bool) (K:St→O R):=fun h=>K ⟨[(0,(iv c)),(1,(iv d)),(2,(.imm b a 1 f g)),(7,(iv h))],[]⟩
theorem PC (F:KF R) (c d b a f g):∀ n,eP c d b a f g (Am (eO N F (pz 324) []) n)=(Fn N (Bi F) c d b a f g n):=Fc fun n e=>(By (Md N (Bi F) c d b a f g) e:_)
def Cu:=Dq N 64 [] E' (fun
 | [(.int .i64 c),(.int .i64 d),(.imm b a 1 f g)],[]=>some fun _ k=>(Ak N c d b a f g (Bi k))
 | _,_=>none) fun _ _=>by split;intro R F;exact(By (S9 N (Bi F) · _ _ _ _ _ _) ((lW ..).trans (PC ..)):_).trans (BZ ..).symm;trivial
def G5 (N:Nat) (r0:LA→O R) (b c d e:Int) (a:LA) (g:Bool):O R :=
 (cond g (cond ((beq 3 3)&&((ble 3 (a.length))&&(!false))) (cond ((beq 1 1)&&((ble 4 ((Cy a 0 [(.int .i64 b),(.int .i64 c),(.int .i64 d)]).length))&&(!false))) (r0 ((Cy a 0 [(.int .i64 b),(.int .i64 c),(.int .i64 d)]).set 3 (.int .i64 e))) none) none) (r0 a))
def Jg (N:Nat) (r0:LA→O R) (q0:Bool→O R) (f:Bool) (b c d e:Int) (a:LA):O R :=
 (An .i64 (a.drop 3) fun h=>cond ((h==0)==true) (q0 (cond true (!f) false)) (q0 false))
def Aa:=(Ai fun N f b c d e a r0=>Jg (R:=R) N r0 (G5 N r0 b c d e a) f b c d e a).1
theorem Q5 (f b c d e a i):(@Aa R N f b c d e a i)=(Jg N i (G5 N i b c d e a) f b c d e a):=by rw[Aa,(Ai _).2]
def Rv:Hints:={ H:=(hJ [0,2,3,4,5,20] hL hL) }
def HS (F:KF R):=Jd Tryz.f63 Rv [] [100000] N F
def HT (b c d e:Int) (a:LA) (K:St→O R):=fun g=>K ⟨[(0,(.optr 100000 0)),(2,(iv b)),(3,(iv c)),(4,(iv d)),(5,(iv e)),(20,(.bool g))],[(100000,(bQ 0 a))]⟩
theorem Z7 (F:KF R) (b c d e a):HT b c d e a (Bv (HS N F (pz 5) []))=(G5 N (F7 F) b c d e a):=by kernel_rfl
def Bk:=Dq N 63 [] Rv (fun
 | [(.optr 100000 0),(.bool f),(.int .i64 b),(.int .i64 c),(.int .i64 d),(.int .i64 e)],[(100000,⟨false,false,true,false,0,a,false,none⟩)]=>some fun _ k=>(Aa N f b c d e a (F7 k))
 | _,_=>none) fun _ _=>by split;intro R F;exact(By (Jg N (F7 F) · _ _ _ _ _ _) ((jW ..).trans (Z7 ..)):_).trans (Q5 ..).symm;trivial
def Lb (e:LA) (l:Bool) (f:LA) (a:Nat) (m g:Bool) (h i b c d:Int) (j:LA) (r0:LA→O R):O R :=
 (An .i64 e fun n=>Aa N ((a:Int)==n) b c d 4 j fun o=>Ak N h i f a false g fun p=>Aa N p b c d 3 o fun q=>r0 q)
def Cg:=(Ai (@Lb R)).1
theorem Nz:@Cg R=@Lb R:=(Ai _).2
def J6:=Dq N 62 [Bk N,Cu N] G2 (fun
 | [(.optr 100000 0),(.pagg e l),(.imm f a 1 m g),(.int .i64 h),(.int .i64 i),(.int .i64 b),(.int .i64 c),(.int .i64 d)],[(100000,⟨false,false,true,false,0,j,false,none⟩)]=>some fun _ k=>(Cg N e l f a m g h i b c d j (F7 k))
 | _,_=>none) fun _ _=>by split;intro R F;dsimp only;rw[Nz];kernel_rfl;trivial
def P6 (N:Nat) (r0:Nat→LA→O R) (b:Bool) (a:LA) (k0:Nat→Int→LA→O R) (d:Nat) (l:Int) (s:LA):O R :=
 (Az 3 (a.drop 2) fun ay y=>cond (decide (l<(y:Int))) (Az 3 (a.drop 2) fun z aa=>cond (Af l aa) (IP (z.drop ((l.toNat)*3)) fun ab=>cond ((ble (d+1) 140737488355328)&&(ble ((d+1)*16) 140737488355328)) (k0 (d+1) (wrap .i64 (l+1)) ((s.take (d*1))++[(.str ab)])) none) none) (r0 d s))
def H2 (r0:Nat→LA→O R) (b:Bool) (a:LA):Nat→Nat→Int→LA→O R
 | 0,_,_,_=>none
 | n+1,d,l,s=>(P6 N r0 b a (H2 r0 b a n) d l s)
def P7 (N:Nat) (r0:Nat→LA→O R) (b:Bool) (a:LA) (k1:Nat→Int→LA→O R) (f:Nat) (m:Int) (t:LA):O R :=
 (Az 12 (a.drop 3) fun az ac=>cond (decide (m<(ac:Int))) (Az 12 (a.drop 3) fun ad ae=>cond (Af m ae) (IP (ad.drop ((m.toNat)*12)) fun af=>cond ((ble (f+1) 140737488355328)&&(ble ((f+1)*16) 140737488355328)) (k1 (f+1) (wrap .i64 (m+1)) ((t.take (f*1))++[(.str af)])) none) none) (r0 f t))
def H3 (r0:Nat→LA→O R) (b:Bool) (a:LA):Nat→Nat→Int→LA→O R
 | 0,_,_,_=>none
 | n+1,f,m,t=>(P7 N r0 b a (H3 r0 b a n) f m t)
def P8 (N:Nat) (r0:Nat→LA→O R) (b:Bool) (a:LA) (k2:Nat→Int→LA→O R) (g:Nat) (o:Int) (u:LA):O R :=
 (Az 22 (a.drop 4) fun ba ag=>cond (decide (o<(ag:Int))) (Az 22 (a.drop 4) fun ah ai=>cond (Af o ai) (IP (ah.drop ((o.toNat)*22)) fun aj=>cond ((ble (g+1) 140737488355328)&&(ble ((g+1)*16) 140737488355328)) (k2 (g+1) (wrap .i64 (o+1)) ((u.take (g*1))++[(.str aj)])) none) none) (r0 g u))
def H4 (r0:Nat→LA→O R) (b:Bool) (a:LA):Nat→Nat→Int→LA→O R
 | 0,_,_,_=>none
 | n+1,g,o,u=>(P8 N r0 b a (H4 r0 b a n) g o u)
def P9 (N:Nat) (r0:Nat→LA→O R) (b:Bool) (a:LA) (k3:Nat→Int→LA→O R) (h:Nat) (p:Int) (v:LA):O R :=
 (Az 9 (a.drop 5) fun bb ak=>cond (decide (p<(ak:Int))) (Az 9 (a.drop 5) fun al am=>cond (Af p am) (IP (al.drop ((p.toNat)*9)) fun an=>cond ((ble (h+1) 140737488355328)&&(ble ((h+1)*16) 140737488355328)) (k3 (h+1) (wrap .i64 (p+1)) ((v.take (h*1))++[(.str an)])) none) none) (r0 h v))
def H5 (r0:Nat→LA→O R) (b:Bool) (a:LA):Nat→Nat→Int→LA→O R
 | 0,_,_,_=>none
 | n+1,h,p,v=>(P9 N r0 b a (H5 r0 b a n) h p v)
def Qa (N:Nat) (r0:Nat→LA→O R) (b:Bool) (a:LA) (k4:Nat→Int→LA→O R) (i:Nat) (q:Int) (w:LA):O R :=
 (Az 5 (a.drop 6) fun bc ao=>cond (decide (q<(ao:Int))) (Az 5 (a.drop 6) fun ap aq=>cond (Af q aq) (IP (ap.drop ((q.toNat)*5)) fun ar=>cond ((ble (i+1) 140737488355328)&&(ble ((i+1)*16) 140737488355328)) (k4 (i+1) (wrap .i64 (q+1)) ((w.take (i*1))++[(.str ar)])) none) none) (r0 i w))
def H6 (r0:Nat→LA→O R) (b:Bool) (a:LA):Nat→Nat→Int→LA→O R
 | 0,_,_,_=>none
 | n+1,i,q,w=>(Qa N r0 b a (H6 r0 b a n) i q w)
def Qb (N:Nat) (r0:Nat→LA→O R) (b:Bool) (a:LA) (k5:Nat→Int→LA→O R) (j:Nat) (r:Int) (x:LA):O R :=
 (Az 4 (a.drop 7) fun bd au=>cond (decide (r<(au:Int))) (Az 4 (a.drop 7) fun av aw=>cond (Af r aw) (IP (av.drop ((r.toNat)*4)) fun ax=>cond ((ble (j+1) 140737488355328)&&(ble ((j+1)*16) 140737488355328)) (k5 (j+1) (wrap .i64 (r+1)) ((x.take (j*1))++[(.str ax)])) none) none) (r0 j x))
def H7 (r0:Nat→LA→O R) (b:Bool) (a:LA):Nat→Nat→Int→LA→O R
 | 0,_,_,_=>none
 | n+1,j,r,x=>(Qb N r0 b a (H7 r0 b a n) j r x)
def H8 (N:Nat) (r0:Nat→LA→O R) (q0:Nat→Int→LA→O R) (q1:Nat→Int→LA→O R) (q2:Nat→Int→LA→O R) (q3:Nat→Int→LA→O R) (q4:Nat→Int→LA→O R) (q5:Nat→Int→LA→O R) (a:LA) (b:Bool) (c:Int):O R :=
 (cond (c==1) (q0 0 0 []) (cond (c==2) (q1 0 0 []) (cond (c==3) (q2 0 0 []) (cond (c==4) (q3 0 0 []) (cond (c==5) (q4 0 0 []) (cond (c==6) (q5 0 0 []) (r0 0 [])))))))
def F2:=(Ai fun N a b c r0=>H8 (R:=R) N r0 (H2 N r0 b a N) (H3 N r0 b a N) (H4 N r0 b a N) (H5 N r0 b a N) (H6 N r0 b a N) (H7 N r0 b a N) a b c).1
theorem Gs (a b c d):(@F2 R N a b c d)=(H8 N d (H2 N d b a N) (H3 N d b a N) (H4 N d b a N) (H5 N d b a N) (H6 N d b a N) (H7 N d b a N) a b c):=by rw[F2,(Ai _).2]
def PD:Hints:={ H:=(hK 2 (hS (hK 1 (hS (hK 1 (hS (hK 1 (hS (hP [2,5,6] hL) hL)) (hK 1 (hS (hK 1 (hS (hP [2,5,7] hL) hL)) (hK 1 (hS (hK 1 (hS (hP [2,5,8] hL) hL)) (hK 1 (hS (hK 1 (hS (hP [2,5,9] hL) hL)) (hK 1 (hS (hK 1 (hS (hP [2,5,10] hL) hL)) (hK 1 (hS (hK 1 (hS (hP [2,5,11] hL) hL)) hL)))))))))))) hL)) hL)),nils:=[(4,1),(5,1)],modes:=[(2,1)] }
def Kt (F:KF R):=Jd Tryz.f103 PD [] [] N F
def kV (b:Bool) (a:LA) (K:St→O R):=fun d l s=>K ⟨[(2,(op 0)),(5,(.own 300001 0 d)),(6,(iv l))],(hq [(bP b 0 a),(bQ 1 s)])⟩
def kW (b:Bool) (a:LA) (K:St→O R):=fun f m t=>K ⟨[(2,(op 0)),(5,(.own 300001 0 f)),(7,(iv m))],(hq [(bP b 0 a),(bQ 1 t)])⟩
def kX (b:Bool) (a:LA) (K:St→O R):=fun g o u=>K ⟨[(2,(op 0)),(5,(.own 300001 0 g)),(8,(iv o))],(hq [(bP b 0 a),(bQ 1 u)])⟩
def kY (b:Bool) (a:LA) (K:St→O R):=fun h p v=>K ⟨[(2,(op 0)),(5,(.own 300001 0 h)),(9,(iv p))],(hq [(bP b 0 a),(bQ 1 v)])⟩
def kZ (b:Bool) (a:LA) (K:St→O R):=fun i q w=>K ⟨[(2,(op 0)),(5,(.own 300001 0 i)),(10,(iv q))],(hq [(bP b 0 a),(bQ 1 w)])⟩
def k8 (b:Bool) (a:LA) (K:St→O R):=fun j r x=>K ⟨[(2,(op 0)),(5,(.own 300001 0 j)),(11,(iv r))],(hq [(bP b 0 a),(bQ 1 x)])⟩
theorem YP (F:KF R) (b a):∀ n,kV b a (Am (Kt N F (pz 345156) []) n)=(H2 N (F8 F) b a n):=Fc fun n e=>(By (P6 N (F8 F) b a) e:_)
theorem YQ (F:KF R) (b a):∀ n,kW b a (Am (Kt N F (pz 5522756) []) n)=(H3 N (F8 F) b a n):=Fc fun n e=>(By (P7 N (F8 F) b a) e:_)
theorem YR (F:KF R) (b a):∀ n,kX b a (Am (Kt N F (pz 88364356) []) n)=(H4 N (F8 F) b a n):=Fc fun n e=>(By (P8 N (F8 F) b a) e:_)
theorem YS (F:KF R) (b a):∀ n,kY b a (Am (Kt N F (pz 1413829956) []) n)=(H5 N (F8 F) b a n):=Fc fun n e=>(By (P9 N (F8 F) b a) e:_)
theorem YT (F:KF R) (b a):∀ n,kZ b a (Am (Kt N F (pz 22621279556) []) n)=(H6 N (F8 F) b a n):=Fc fun n e=>(By (Qa N (F8 F) b a) e:_)
theorem YU (F:KF R) (b a):∀ n,k8 b a (Am (Kt N F (pz 361940473156) []) n)=(H7 N (F8 F) b a n):=Fc fun n e=>(By (Qb N (F8 F) b a) e:_)
def WP:=Dq N 103 [] PD (fun
 | [(.pagg a b),(.int .i64 c)],[]=>some fun _ k=>(F2 N a b c (F8 k))
 | _,_=>none) fun _ _=>by split;intro R F;exact(Abg (H8 N (F8 F) · · · · · · _ _ _) ((lW ..).trans (YP ..)) ((lW ..).trans (YQ ..)) ((lW ..).trans (YR ..)) ((lW ..).trans (YS ..)) ((lW ..).trans (YT ..)) ((lW ..).trans (YU ..)):_).trans (Gs ..).symm;trivial
def TJ (N:Nat) (a:Int) (r0:Int→O R):O R :=
 (cond (Af a 7) (An .i64 (drop (0+((a.toNat)*1)) [(.int .i64 0),(.int .i64 32),(.int .i64 64),(.int .i64 16),(.int .i64 8),(.int .i64 8),(.int .i64 64)]) fun b=>r0 b) none)
def N0:=(Ai (@TJ R)).1
theorem PE:@N0 R=@TJ R:=(Ai _).2
def qD:=Dq N 104 [] G2 (fun
 | [(.int .i64 a)],[]=>some fun _ k=>(N0 N a (Dp k))
 | _,_=>none) fun _ _=>by split;intro R F;dsimp only;rw[PE];kernel_rfl;trivial
def Bq (r0:LA→O R) (b:Bool) (a:LA) (k0:Int→LA→O R) (c:Int) (f:LA):O R :=
 (cond (decide (c≤6)) (cond (ble 8 (a.length)) (F2 N (a.take 8) b c fun g u=>N0 N c fun h=>Aa N (decide ((g:Int)≤h)) 0 0 (wrap .i64 (c+1)) 8 f fun i=>k0 (wrap .i64 (c+1)) i) none) (r0 f))
def A7 (r0:LA→O R) (b:Bool) (a:LA):Nat→Int→LA→O R
 | 0,_,_=>none
 | n+1,c,f=>(Bq N r0 b a (A7 r0 b a n) c f)
def H9 (r0:LA→O R) (q0:Int→LA→O R) (a:LA) (b:Bool) (d:LA):O R :=
 (An .i64 a fun j=>Ak N 1 24 [(.int .i64 j)] 1 false true fun l=>Aa N l 0 0 0 3 d fun m=>cond (ble 8 (a.length)) (Az 1 (a.drop 1) fun o p=>Cg N (a.take 8) b o p false b 0 1048576 0 0 1 m fun q=>Az 3 (a.drop 2) fun v r=>Ak N 1 32 [(.int .i64 (r:Int))] 1 false true fun s=>Aa N s 0 0 2 8 q fun t=>q0 2 t) none)
def Gc:=(Ai fun N a b d r0=>H9 (R:=R) N r0 (A7 N r0 b a N) a b d).1
theorem Of (a b d e):(@Gc R N a b d e)=(H9 N e (A7 N e b a N) a b d):=by rw[Gc,(Ai _).2]
def Q6:Hints:={ H:=(hK 5 (hS (hP [0,3,4] hL) hL)) }
def Rw:Qr:=[Cu N,Bk N,J6 N,WP N,qD N]
def FA (F:KF R):=Jd Tryz.f60 Q6 (Rw N) [100000] N F
def FB (b:Bool) (a:LA) (K:St→O R):=fun c f=>K ⟨[(0,(.optr 100000 0)),(3,(op 0)),(4,(iv c))],[(100000,(bQ 0 f)),(300000,(bP b 0 a))]⟩
theorem Yd (F:KF R) (b a):∀ n,FB b a (Am (FA N F (pz 5460) []) n)=(A7 N (F7 F) b a n):=Fc fun n e=>(By (Bq N (F7 F) b a) e:_)
def HU:=Dq N 60 (Rw N) Q6 (fun
 | [(.optr 100000 0),(.pagg a b)],[(100000,⟨false,false,true,false,0,d,false,none⟩)]=>some fun _ k=>(Gc N a b d (F7 k))
 | _,_=>none) fun _ _=>by split;intro R F;exact(By (H9 N (F7 F) · _ _ _) ((lW ..).trans (Yd ..)):_).trans (Of ..).symm;trivial
def V6 (N:Nat) (k1:Int→O R) (r0:Bool→O R) (a:Lu) (b:Int) (d:Bool):O R :=
 (cond ((!d)==true) (cond ((b==0)==false) (cond (Af b (a.length)) (cond ((((UInt8.toNat (List.getD a (b.toNat) 0):Nat):Int) != 95)==true) (cond (Af b (a.length)) (cond ((decide (((UInt8.toNat (List.getD a (b.toNat) 0):Nat):Int)<48))==false) (cond (Af b (a.length)) (cond (cond true (cond false true (cond true (cond false true (decide (((UInt8.toNat (List.getD a (b.toNat) 0):Nat):Int)>57))) false)) false) (r0 false) (k1 (wrap .i64 (b+1)))) none) (r0 false)) none) (k1 (wrap .i64 (b+1)))) none) (r0 false)) (k1 (wrap .i64 (b+1))))
def Ta (N:Nat) (r0:Bool→O R) (a:Lu) (k1:Int→O R) (q2:Int→Bool→O R) (c:Int):O R :=
 (cond (decide (c<(((a.length):Nat):Int))) (cond (Af c (a.length)) (cond ((decide (((UInt8.toNat (List.getD a (c.toNat) 0):Nat):Int)≥97))==true) (cond (Af c (a.length)) (q2 c (cond true (decide (((UInt8.toNat (List.getD a (c.toNat) 0):Nat):Int)≤122)) false)) none) (q2 c false)) none) (r0 true))
def J7 (r0:Bool→O R) (a:Lu):Nat→Int→O R
 | 0,_=>none
 | n+1,c=>(Ta N r0 a (J7 r0 a n) (V6 N (J7 r0 a n) r0 a) c)
def Z8 (N:Nat) (r0:Bool→O R) (a:Lu) (q1:Int→O R):O R :=
 (q1 0)
def V7 (r0:Bool→O R) (a:Lu):O R:=(Z8 N r0 a (J7 N r0 a N))
def G' (N:Nat) (r0:Bool→O R) (q0:O R) (a:Lu):O R :=
 (cond ((decide ((((a.length):Nat):Int)<1))==false) (cond ((cond false true (decide ((((a.length):Nat):Int)>16)))==false) (cond (cond false true (a==([99,111,114,114,101,99,116,105,118,101]:Lu))) (r0 false) q0) (r0 false)) (r0 false))
def FC:=(Ai fun N a r0=>G' (R:=R) N r0 (V7 N r0 a) a).1
theorem PF (a b):(@FC R N a b)=(G' N b (V7 N b a) a):=by rw[FC,(Ai _).2]
def WQ:Hints:={ H:=(hK 1 (hJ [0] hL (hS (hK 1 (hS (hP [0,3] (hK 1 (hS (hS (hJ [0,3,4] hL hL) hL) hL))) hL)) hL))) }
def FD (F:KF R):=Jd Tryz.f105 WQ [] [] N F
def nX (a:Lu) (K:St→O R):=fun b d=>K ⟨[(0,(.str a)),(3,(iv b)),(4,(.bool d))],[]⟩
def WR (a:Lu) (K:St→O R):=fun c=>K ⟨[(0,(.str a)),(3,(iv c))],[]⟩
def nY (a:Lu) (K:St→O R):=K ⟨[(0,(.str a))],[]⟩
theorem eQ (Q1) (F:KF R) (a):nX a (Bv (FD N F (pz 1380417) [Q1]))=(V6 N (WR a Q1) (Bi F) a):=by kernel_rfl
theorem eS (F:KF R) (a):∀ n,WR a (Am (FD N F (pz 1348) []) n)=(J7 N (Bi F) a n):=Fc fun n e=>(MW (Ta N (Bi F) a) e ((jW ..).trans ((eQ ..).trans (oY (V6 _ · _ _) e))):_)
theorem eT (F:KF R) (a):nY a (Bv (FD N F (pz 21) []))=(V7 N (Bi F) a):=(By (Z8 N (Bi F) a) ((lW ..).trans (eS ..)):_)
def qE:=Dq N 105 [] WQ (fun
 | [(.str a)],[]=>some fun _ k=>(FC N a (Bi k))
 | _,_=>none) fun _ _=>by split;intro R F;exact(By (G' N (Bi F) · _) ((jW ..).trans (eT ..)):_).trans (PF ..).symm;trivial
def Gd (r0:LA→O R) (b a:Int) (c:Nat) (d:LA) (k0:Int→LA→O R) (g:Int) (j:LA):O R :=
 (cond (decide (g<a)) (cond (Af g c) (IP (d.drop (0+((g.toNat)*1))) fun l=>cond (Af a c) (IP (d.drop (0+((a.toNat)*1))) fun m=>Aa N (!(l==m)) b a 0 10 j fun o=>k0 (wrap .i64 (g+1)) o) none) none) (r0 j))
def Cl (r0:LA→O R) (b a:Int) (c:Nat) (d:LA):Nat→Int→LA→O R
 | 0,_,_=>none
 | n+1,g,j=>(Gd N r0 b a c d (Cl r0 b a c d n) g j)
def Jh (r0:LA→O R) (q0:Nat→LA→Int→LA→O R) (f:LA) (h:Bool) (b a:Int) (i:LA):O R :=
 (cond (ble 8 (f.length)) (F2 N (f.take 8) h b fun c d=>cond (Af a c) (IP (d.drop (0+((a.toNat)*1))) fun p=>FC N p fun q=>Aa N q b a 0 9 i fun r=>q0 c d 0 r) none) none)
def B6:=(Ai fun N f h b a i r0=>Jh (R:=R) N r0 (fun c d=>Cl N r0 b a c d N) f h b a i).1
theorem Q8 (f h b a i e):(@B6 R N f h b a i e)=(Jh N e (fun c d=>Cl N e b a c d N) f h b a i):=by rw[B6,(Ai _).2]
def Rx:Hints:={ H:=(hK 4 (hS (hP [0,2,3,8,9] hL) hL)) }
def Ul:Qr:=[WP N,qE N,Bk N]
def HV (F:KF R):=Jd Tryz.f61 Rx (Ul N) [100000] N F
def HW (b a:Int) (c:Nat) (d:LA) (K:St→O R):=fun g j=>K ⟨[(0,(.optr 100000 0)),(2,(iv b)),(3,(iv a)),(8,(.own 300000 0 c)),(9,(iv g))],[(100000,(bQ 0 j)),(300000,(bQ 1 d))]⟩
theorem Z9 (F:KF R) (b a c d):∀ n,HW b a c d (Am (HV N F (pz 1364) []) n)=(Cl N (F7 F) b a c d n):=Fc fun n e=>(By (Gd N (F7 F) b a c d) e:_)
def D0:=Dq N 61 (Ul N) Rx (fun
 | [(.optr 100000 0),(.pagg f h),(.int .i64 b),(.int .i64 a)],[(100000,⟨false,false,true,false,0,i,false,none⟩)]=>some fun _ k=>(B6 N f h b a i (F7 k))
 | _,_=>none) fun _ _=>by split;intro R F;exact(By (Jh N (F7 F) · _ _ _ _ _) (fj fun c d=>(lW ..).trans (Z9 ..)):_).trans (Q8 ..).symm;trivial
def Pa (a:LA) (g:Bool) (b c d e:Int) (f:LA) (r0:LA→O R):O R :=
 (Az 3 (a.drop 2) fun l h=>Ak N 0 (wrap .i64 ((h:Int) - 1)) [(.int .i64 b)] 1 false true fun i=>Aa N i c d e 12 f fun j=>r0 j)
def Dt:=(Ai (@Pa R)).1
theorem Ry:@Dt R=@Pa R:=(Ai _).2
def Ji:=Dq N 106 [Cu N,Bk N] G2 (fun
 | [(.optr 100000 0),(.pagg a g),(.int .i64 b),(.int .i64 c),(.int .i64 d),(.int .i64 e)],[(100000,⟨false,false,true,false,0,f,false,none⟩)]=>some fun _ k=>(Dt N a g b c d e f (F7 k))
 | _,_=>none) fun _ _=>by split;intro R F;dsimp only;rw[Ry];kernel_rfl;trivial
def Wz (a:LA) (b:Bool) (r0:Bool→O R):O R :=
 (An .i64 (a.drop 1) fun c=>Ak N 1 1048576 [(.int .i64 c)] 1 false true fun d=>cond (d==true) (An .i64 a fun e=>Ak N (-1048576) 1048576 [(.int .i64 e)] 1 false true fun f=>r0 (cond true f false)) (r0 false))
def Ia:=(Ai (@Wz R)).1
theorem Ye:@Ia R=@Wz R:=(Ai _).2
def FE:=Dq N 107 [Cu N] G2 (fun
 | [(.pagg a b)],[]=>some fun _ k=>(Ia N a b (Bi k))
 | _,_=>none) fun _ _=>by split;intro R F;dsimp only;rw[Ye];kernel_rfl;trivial
def J8 (N:Nat) (r0:Bool→O R) (b:LA) (a:Nat) (c d:Bool) (k0:Int→O R) (f:Int):O R :=
 (cond (decide (f<(a:Int))) (cond (Af f a) (An .i64 (b.drop ((f.toNat)*1)) fun g=>cond (Af (wrap .i64 (f - 1)) a) (An .i64 (b.drop (((wrap .i64 (f - 1)).toNat)*1)) fun h=>cond (decide (g≤h)) (r0 false) (k0 (wrap .i64 (f+1)))) none) none) (r0 true))
def E6 (r0:Bool→O R) (b:LA) (a:Nat) (c d:Bool):Nat→Int→O R
 | 0,_=>none
 | n+1,f=>(J8 N r0 b a c d (E6 r0 b a c d n) f)
def V8 (N:Nat) (r0:Bool→O R) (q0:Int→O R) (b:LA) (a:Nat) (c d:Bool):O R :=
 (q0 1)
def Mp:=(Ai fun N b a c d r0=>V8 (R:=R) N r0 (E6 N r0 b a c d N) b a c d).1
theorem FF (b a c d e):(@Mp R N b a c d e)=(V8 N e (E6 N e b a c d N) b a c d):=by rw[Mp,(Ai _).2]
def gc (F:KF R):=Jd Tryz.f110 VO [] [] N F
def gd (b:LA) (a:Nat) (c d:Bool) (K:St→O R):=fun f=>K ⟨[(0,(.imm b a 1 c d)),(3,(iv f))],[]⟩
theorem TK (F:KF R) (b a c d):∀ n,gd b a c d (Am (gc N F (pz 324) []) n)=(E6 N (Bi F) b a c d n):=Fc fun n e=>(By (J8 N (Bi F) b a c d) e:_)
def PG:=Dq N 110 [] VO (fun
 | [(.imm b a 1 c d)],[]=>some fun _ k=>(Mp N b a c d (Bi k))
 | _,_=>none) fun _ _=>by split;intro R F;exact(By (V8 N (Bi F) · _ _ _ _) ((lW ..).trans (TK ..)):_).trans (FF ..).symm;trivial
def N1 (g:LA) (i:Bool) (a:LA) (b:Nat) (j c:Bool) (d e f:Int) (h:LA) (r0:LA→O R):O R :=
 (An .i64 g fun l=>Ak N 0 (wrap .i64 (l - 1)) a b false c fun m=>Aa N m d e f 3 h fun n=>Mp N a b false c fun o=>Aa N o d e f 11 n fun p=>r0 p)
def Hd:=(Ai (@N1 R)).1
theorem Ra:@Hd R=@N1 R:=(Ai _).2
def Um:=Dq N 108 [Cu N,Bk N,PG N] G2 (fun
 | [(.optr 100000 0),(.pagg g i),(.imm a b 1 j c),(.int .i64 d),(.int .i64 e),(.int .i64 f)],[(100000,⟨false,false,true,false,0,h,false,none⟩)]=>some fun _ k=>(Hd N g i a b j c d e f h (F7 k))
 | _,_=>none) fun _ _=>by split;intro R F;dsimp only;rw[Ra];kernel_rfl;trivial
def Lc (r0:LA→O R) (a:Int) (b:Bool) (c d:LA) (i:LA):O R :=
 (An .i64 (d.drop 9) fun l=>Ak N 0 1048576 [(.int .i64 l)] 1 false true fun m=>Aa N m 2 a 6 3 i fun n=>An .i64 (d.drop 9) fun o=>An .i64 (d.drop 10) fun p=>Ak N o 1048576 [(.int .i64 p)] 1 false true fun q=>Aa N q 2 a 7 3 n fun r=>cond (ble 8 (c.length)) (Az 1 (d.drop 11) fun s t=>Hd N (c.take 8) b s t false b 2 a 8 r fun u=>r0 u) none)
def J9 (r0:LA→O R) (a:Int) (b:Bool) (c d:LA) (q2:LA→O R) (g:LA):O R :=
 (cond (ble 2 ((d.drop 7).length)) (cond ((!b)||(Aw ((d.drop 7).take 2))) (Ia N ((d.drop 7).take 2) false fun v=>cond (v==true) (An .i64 (d.drop 7) fun w=>Aa N (cond true (decide (w≥0)) false) 2 a 5 3 g fun x=>q2 x) (Aa N false 2 a 5 3 g fun y=>q2 y)) none) none)
def Ld (r0:LA→O R) (a:Int) (b:Bool) (c d:LA) (g:LA):O R:=(J9 N r0 a b c d (Lc N r0 a b c d) g)
def Ka (r0:LA→O R) (a:Int) (b:Bool) (c:LA) (q1:LA→LA→O R) (h d:LA):O R :=
 (cond (ble 2 ((d.drop 5).length)) (cond ((!b)||(Aw ((d.drop 5).take 2))) (Ia N ((d.drop 5).take 2) false fun z=>cond (z==true) (An .i64 (d.drop 5) fun aa=>Aa N (cond true (decide (aa≤0)) false) 2 a 4 3 h fun ab=>q1 d ab) (Aa N false 2 a 4 3 h fun ac=>q1 d ac)) none) none)
def G6 (r0:LA→O R) (a:Int) (b:Bool) (c:LA) (h d:LA):O R:=(Ka N r0 a b c (fun d=>Ld N r0 a b c d) h d)
def Jj (r0:LA→O R) (q0:LA→LA→O R) (c:LA) (b:Bool) (a:Int) (f:LA):O R :=
 (Az 12 (c.drop 3) fun e ad=>cond (Af a ad) (cond (ble 12 ((e.drop ((a.toNat)*12)).length)) (cond ((beq 0 0)&&((beq (((e.drop ((a.toNat)*12)).take 12).length) 12)&&(beq 12 12))) (cond (ble 8 (c.length)) (B6 N (c.take 8) b 2 a f fun ae=>cond (ble 8 (c.length)) (An .i64 (((e.drop ((a.toNat)*12)).take 12).drop 1) fun af=>Dt N (c.take 8) b af 2 a 1 ae fun ag=>cond (ble 8 (c.length)) (An .i64 (((e.drop ((a.toNat)*12)).take 12).drop 2) fun ah=>Dt N (c.take 8) b ah 2 a 2 ag fun ai=>An .i64 (((e.drop ((a.toNat)*12)).take 12).drop 1) fun aj=>An .i64 (((e.drop ((a.toNat)*12)).take 12).drop 2) fun ak=>Aa N (aj != ak) 2 a 2 1 ai fun j=>cond (ble 2 ((((e.drop ((a.toNat)*12)).take 12).drop 3).length)) (cond ((!b)||(Aw ((((e.drop ((a.toNat)*12)).take 12).drop 3).take 2))) (Ia N ((((e.drop ((a.toNat)*12)).take 12).drop 3).take 2) false fun al=>cond (al==true) (An .i64 (((e.drop ((a.toNat)*12)).take 12).drop 3) fun am=>Aa N (cond true (decide (am>0)) false) 2 a 3 3 j fun an=>q0 an ((e.drop ((a.toNat)*12)).take 12)) (Aa N false 2 a 3 3 j fun ao=>q0 ao ((e.drop ((a.toNat)*12)).take 12))) none) none) none) none) none) none) none) none)
def He:=(Ai fun N c b a f r0=>Jj (R:=R) N r0 (G6 N r0 a b c) c b a f).1
theorem Rb (c b a f d):(@He R N c b a f d)=(Jj N d (G6 N d a b c) c b a f):=by rw[He,(Ai _).2]
def Rz:Hints:={ H:=(hK 6 (hJ [0,2,4,6,7] hL (hJ [0,2,4,6,7] hL (hJ [0,2,4,6,7] hL hL)))) }
def Un:Qr:=[D0 N,Ji N,Bk N,FE N,Cu N,Um N]
def Le (F:KF R):=Jd Tryz.f65 Rz (Un N) [100000] N F
def HX (a:Int) (b:Bool) (c d:LA) (K:St→O R):=fun i=>K ⟨[(0,(.optr 100000 0)),(2,(iv a)),(4,(op 0)),(6,(op 1)),(7,(iv 2))],[(100000,(bQ 0 i)),(300000,(bP b 0 c)),(300001,(bP b 0 d))]⟩
def HY (a:Int) (b:Bool) (c d:LA) (K:St→O R):=fun g=>K ⟨[(0,(.optr 100000 0)),(2,(iv a)),(4,(op 0)),(6,(op 1)),(7,(iv 2))],[(100000,(bQ 0 g)),(300000,(bP b 0 c)),(300001,(bP b 0 d))]⟩
def HZ (a:Int) (b:Bool) (c:LA) (K:St→O R):=fun h d=>K ⟨[(0,(.optr 100000 0)),(2,(iv a)),(4,(op 0)),(6,(op 1)),(7,(iv 2))],[(100000,(bQ 0 h)),(300000,(bP b 0 c)),(300001,(bP b 0 d))]⟩
theorem AA (F:KF R) (a b c d):HX a b c d (Bv (Le N F (pz 349525) []))=(Lc N (F7 F) a b c d):=by kernel_rfl
theorem AB (F:KF R) (a b c d):HY a b c d (Bv (Le N F (pz 87381) []))=(Ld N (F7 F) a b c d):=(By (J9 N (F7 F) a b c d) ((jW ..).trans (AA ..)):_)
theorem AC (F:KF R) (a b c):HZ a b c (Bv (Le N F (pz 21845) []))=(G6 N (F7 F) a b c):=(By (Ka N (F7 F) a b c) (fi fun d=>(jW ..).trans (AB ..)):_)
def LG:=Dq N 65 (Un N) Rz (fun
 | [(.optr 100000 0),(.pagg c b),(.int .i64 a)],[(100000,⟨false,false,true,false,0,f,false,none⟩)]=>some fun _ k=>(He N c b a f (F7 k))
 | _,_=>none) fun _ _=>by split;intro R F;exact(By (Jj N (F7 F) · _ _ _ _) ((jW ..).trans (AC ..)):_).trans (Rb ..).symm;trivial
def D8 (r0:LA→O R) (b:Int) (d:LA) (c:Bool) (a:LA) (k2:Int→Int→O R) (m j:Int):O R :=
 (Az 2 (a.drop 4) fun ax q=>cond ((decide (j<(q:Int)))==true) (An .i64 (d.drop 3) fun r=>cond (cond true (r==0) false) (Az 2 (a.drop 4) fun s t=>cond (Af j t) (An .i64 (s.drop ((j.toNat)*2)) fun u=>k2 (wrap .i64 (m+u)) (wrap .i64 (j+1))) none) (An .i64 (d.drop 3) fun v=>cond ((v != 0)==false) (An .i64 (a.drop 3) fun w=>An .i64 (a.drop 2) fun x=>Aa N (cond false true (m==(wrap .i64 (w - x)))) 3 b 4 4 d fun y=>r0 y) (Aa N true 3 b 4 4 d fun z=>r0 z))) (An .i64 (d.drop 3) fun aa=>cond ((aa != 0)==false) (An .i64 (a.drop 3) fun ab=>An .i64 (a.drop 2) fun ac=>Aa N (cond false true (m==(wrap .i64 (ab - ac)))) 3 b 4 4 d fun ad=>r0 ad) (Aa N true 3 b 4 4 d fun ae=>r0 ae)))
def Cb (r0:LA→O R) (b:Int) (d:LA) (c:Bool) (a:LA):Nat→Int→Int→O R
 | 0,_,_=>none
 | n+1,m,j=>(D8 N r0 b d c a (Cb r0 b d c a n) m j)
def Cv (r0:LA→O R) (b:Int) (c:Bool) (a:LA) (k1:Int→LA→O R) (q2:LA→Int→Int→O R) (i:Int) (d:LA):O R :=
 (Az 2 (a.drop 4) fun ay af=>cond (decide (i<(af:Int))) (Az 2 (a.drop 4) fun ag ah=>cond (Af i ah) (An .i64 ((ag.drop ((i.toNat)*2)).drop 1) fun ai=>Az 2 (a.drop 4) fun aj ak=>cond (Af (wrap .i64 (i - 1)) ak) (An .i64 ((aj.drop (((wrap .i64 (i - 1)).toNat)*2)).drop 1) fun al=>Aa N (decide (ai≥al)) 3 b 4 11 d fun am=>k1 (wrap .i64 (i+1)) am) none) none) (q2 d 0 0))
def Bs (r0:LA→O R) (b:Int) (c:Bool) (a:LA):Nat→Int→LA→O R
 | 0,_,_=>none
 | n+1,i,d=>(Cv N r0 b c a (Bs r0 b c a n) (fun d=>Cb N r0 b d c a N) i d)
def D9 (r0:LA→O R) (b:Int) (f:LA) (g:Nat) (c:Bool) (a:LA) (k0:Int→Int→LA→O R) (q1:Int→LA→O R) (o h:Int) (p:LA):O R :=
 (cond (decide (h<o)) (cond (Af h g) (cond (ble 2 ((f.drop ((h.toNat)*2)).length)) (cond ((!c)||(Aw ((f.drop ((h.toNat)*2)).take 2))) (cond ((beq (((f.drop ((h.toNat)*2)).take 2).length) 2)&&((ble 2 2)&&(!false))) (An .i64 (setCells [(.int .i64 0),(.int .i64 0)] 0 ((f.drop ((h.toNat)*2)).take 2)) fun an=>Ak N 1 1048576 [(.int .i64 an)] 1 false true fun ao=>cond (ao==true) (An .i64 ((setCells [(.int .i64 0),(.int .i64 0)] 0 ((f.drop ((h.toNat)*2)).take 2)).drop 1) fun ap=>Ak N (-1048576) 1048576 [(.int .i64 ap)] 1 false true fun aq=>Aa N (cond true aq false) 3 b 4 3 p fun ar=>k0 o (wrap .i64 (h+1)) ar) (Aa N false 3 b 4 3 p fun au=>k0 o (wrap .i64 (h+1)) au)) none) none) none) none) (q1 1 p))
def Bt (r0:LA→O R) (b:Int) (f:LA) (g:Nat) (c:Bool) (a:LA):Nat→Int→Int→LA→O R
 | 0,_,_,_=>none
 | n+1,o,h,p=>(D9 N r0 b f g c a (Bt r0 b f g c a n) (Bs N r0 b c a N) o h p)
def Fx (r0:LA→O R) (q0:LA→Nat→Int→Int→LA→O R) (a:LA) (c:Bool) (b:Int) (l:LA):O R :=
 (Az 2 (a.drop 4) fun az av=>Aa N (decide ((av:Int)≤8)) 3 b 4 8 l fun aw=>Az 2 (a.drop 4) fun f g=>q0 f g (g:Int) 0 aw)
def C3:=(Ai fun N a c b l r0=>Fx (R:=R) N r0 (fun f g=>Bt N r0 b f g c a N) a c b l).1
theorem Lr (a c b l d):(@C3 R N a c b l d)=(Fx N d (fun f g=>Bt N d b f g c a N) a c b l):=by rw[C3,(Ai _).2]
def M4:Hints:={ H:=(hK 3 (hS (hK 1 (hS (hP [0,2,4,6,21,22,23] hL) hL)) (hS (hK 1 (hS (hP [0,2,4,6,9] hL) hL)) (hK 1 (hS (hK 1 (hS (hP [0,2,4,6,10,11] hL) hL)) hL))))) }
def N2:Qr:=[Bk N,Cu N]
def Hf (F:KF R):=Jd Tryz.f109 M4 (N2 N) [100000] N F
def Yf (b:Int) (d:LA) (c:Bool) (a:LA) (K:St→O R):=fun m j=>K ⟨[(0,(.optr 100000 0)),(2,(iv b)),(4,(op 0)),(6,(iv 3)),(10,(iv m)),(11,(iv j))],[(100000,(bQ 0 d)),(300000,(bP c 0 a))]⟩
def Yg (b:Int) (c:Bool) (a:LA) (K:St→O R):=fun i d=>K ⟨[(0,(.optr 100000 0)),(2,(iv b)),(4,(op 0)),(6,(iv 3)),(9,(iv i))],[(100000,(bQ 0 d)),(300000,(bP c 0 a))]⟩
def Yh (b:Int) (f:LA) (g:Nat) (c:Bool) (a:LA) (K:St→O R):=fun o h p=>K ⟨[(0,(.optr 100000 0)),(2,(iv b)),(4,(op 0)),(6,(iv 3)),(21,(.imm f g 2 false c)),(22,(iv o)),(23,(iv h))],[(100000,(bQ 0 p)),(300000,(bP c 0 a))]⟩
theorem Uo (F:KF R) (b d c a):∀ n,Yf b d c a (Am (Hf N F (pz 349508) []) n)=(Cb N (F7 F) b d c a n):=Fc fun n e=>(By (D8 N (F7 F) b d c a) e:_)
theorem Up (F:KF R) (b c a):∀ n,Yg b c a (Am (Hf N F (pz 21828) []) n)=(Bs N (F7 F) b c a n):=Fc fun n e=>(MW (Cv N (F7 F) b c a) e (fi fun d=>(lW ..).trans (Uo ..)):_)
theorem Uq (F:KF R) (b f g c a):∀ n,Yh b f g c a (Am (Hf N F (pz 5444) []) n)=(Bt N (F7 F) b f g c a n):=Fc fun n e=>(MW (D9 N (F7 F) b f g c a) e ((lW ..).trans (Up ..)):_)
def AD:=Dq N 109 (N2 N) M4 (fun
 | [(.optr 100000 0),(.pagg a c),(.int .i64 b)],[(100000,⟨false,false,true,false,0,l,false,none⟩)]=>some fun _ k=>(C3 N a c b l (F7 k))
 | _,_=>none) fun _ _=>by split;intro R F;exact(By (Fx N (F7 F) · _ _ _ _) (fj fun f g=>(lW ..).trans (Uq ..)):_).trans (Lr ..).symm;trivial
def Lf (r0:LA→O R) (a:Int) (c:Bool) (d:LA) (h:LA):O R :=
 (An .i64 (d.drop 19) fun l=>cond (l==2) (An .i64 (d.drop 2) fun m=>An .i64 (d.drop 3) fun n=>An .i64 (d.drop 21) fun o=>Ak N m n [(.int .i64 o)] 1 false true fun p=>Aa N p 3 a 21 3 h fun q=>r0 q) (An .i64 (d.drop 21) fun r=>Aa N (r==0) 3 a 21 3 h fun s=>r0 s))
def Kb (r0:LA→O R) (a:Int) (c:Bool) (q1:LA→LA→O R) (g d:LA):O R :=
 (An .i64 (d.drop 20) fun t=>Ak N 1 48 [(.int .i64 t)] 1 false true fun u=>Aa N u 3 a 20 3 g fun i=>An .i64 (d.drop 19) fun v=>cond ((v != 1)==false) (An .i64 (d.drop 20) fun w=>An .i64 (d.drop 12) fun x=>Aa N (cond false true (decide (w≤x))) 3 a 20 3 i fun y=>q1 d y) (Aa N true 3 a 20 3 i fun z=>q1 d z))
def G7 (r0:LA→O R) (a:Int) (c:Bool) (g d:LA):O R:=(Kb N r0 a c (fun d=>Lf N r0 a c d) g d)
def Jk (r0:LA→O R) (q0:LA→LA→O R) (e:LA) (c:Bool) (a:Int) (f:LA):O R :=
 (Az 22 (e.drop 4) fun b aa=>cond (Af a aa) (cond (ble 22 ((b.drop ((a.toNat)*22)).length)) (cond ((beq 0 0)&&((beq (((b.drop ((a.toNat)*22)).take 22).length) 22)&&(beq 22 22))) (cond (ble 8 (e.length)) (B6 N (e.take 8) c 3 a f fun ab=>cond (ble 8 (e.length)) (An .i64 (((b.drop ((a.toNat)*22)).take 22).drop 1) fun ac=>Dt N (e.take 8) c ac 3 a 1 ab fun ad=>An .i64 (((b.drop ((a.toNat)*22)).take 22).drop 2) fun ae=>Ak N 0 1048576 [(.int .i64 ae)] 1 false true fun af=>Aa N af 3 a 2 3 ad fun ag=>An .i64 (((b.drop ((a.toNat)*22)).take 22).drop 2) fun ah=>An .i64 (((b.drop ((a.toNat)*22)).take 22).drop 3) fun ai=>Ak N ah 1048576 [(.int .i64 ai)] 1 false true fun aj=>Aa N aj 3 a 3 3 ag fun ak=>cond (ble 22 (((b.drop ((a.toNat)*22)).take 22).length)) (C3 N (((b.drop ((a.toNat)*22)).take 22).take 22) c a ak fun al=>An .i64 (((b.drop ((a.toNat)*22)).take 22).drop 5) fun am=>Ak N 0 1048576 [(.int .i64 am)] 1 false true fun an=>Aa N an 3 a 5 3 al fun ao=>An .i64 (((b.drop ((a.toNat)*22)).take 22).drop 6) fun ap=>Ak N 0 1048576 [(.int .i64 ap)] 1 false true fun aq=>Aa N aq 3 a 6 3 ao fun ar=>An .i64 (((b.drop ((a.toNat)*22)).take 22).drop 7) fun au=>Ak N 0 1048576 [(.int .i64 au)] 1 false true fun av=>Aa N av 3 a 7 3 ar fun aw=>An .i64 (((b.drop ((a.toNat)*22)).take 22).drop 2) fun ax=>An .i64 (((b.drop ((a.toNat)*22)).take 22).drop 3) fun ay=>An .i64 (((b.drop ((a.toNat)*22)).take 22).drop 8) fun az=>Ak N ax ay [(.int .i64 az)] 1 false true fun ba=>Aa N ba 3 a 8 3 aw fun bb=>An .i64 (((b.drop ((a.toNat)*22)).take 22).drop 2) fun bc=>An .i64 (((b.drop ((a.toNat)*22)).take 22).drop 3) fun bd=>An .i64 (((b.drop ((a.toNat)*22)).take 22).drop 9) fun be=>Ak N bc bd [(.int .i64 be)] 1 false true fun bf=>Aa N bf 3 a 9 3 bb fun bg=>An .i64 (((b.drop ((a.toNat)*22)).take 22).drop 10) fun bh=>Ak N 0 24 [(.int .i64 bh)] 1 false true fun bi=>Aa N bi 3 a 10 3 bg fun bj=>An .i64 (((b.drop ((a.toNat)*22)).take 22).drop 11) fun bk=>Ak N 0 24 [(.int .i64 bk)] 1 false true fun bl=>Aa N bl 3 a 11 3 bj fun bm=>An .i64 (((b.drop ((a.toNat)*22)).take 22).drop 12) fun bn=>Ak N 0 24 [(.int .i64 bn)] 1 false true fun bo=>Aa N bo 3 a 12 3 bm fun bp=>An .i64 (((b.drop ((a.toNat)*22)).take 22).drop 13) fun bq=>Ak N 0 1048576 [(.int .i64 bq)] 1 false true fun br=>Aa N br 3 a 13 3 bp fun bs=>An .i64 (((b.drop ((a.toNat)*22)).take 22).drop 14) fun bt=>Ak N 0 1048576 [(.int .i64 bt)] 1 false true fun bu=>Aa N bu 3 a 14 3 bs fun bv=>An .i64 (((b.drop ((a.toNat)*22)).take 22).drop 15) fun bw=>Ak N 0 24 [(.int .i64 bw)] 1 false true fun bx=>Aa N bx 3 a 15 3 bv fun bz=>An .i64 (((b.drop ((a.toNat)*22)).take 22).drop 16) fun ca=>Ak N 0 1048576 [(.int .i64 ca)] 1 false true fun cb=>Aa N cb 3 a 16 3 bz fun cc=>An .i64 (((b.drop ((a.toNat)*22)).take 22).drop 17) fun cd=>Ak N 0 1048576 [(.int .i64 cd)] 1 false true fun ce=>Aa N ce 3 a 17 3 cc fun cf=>cond (ble 8 (e.length)) (Az 1 (((b.drop ((a.toNat)*22)).take 22).drop 18) fun cg ch=>Hd N (e.take 8) c cg ch false c 3 a 18 cf fun ci=>An .i64 (((b.drop ((a.toNat)*22)).take 22).drop 19) fun cj=>Ak N 0 2 [(.int .i64 cj)] 1 false true fun ck=>Aa N ck 3 a 19 12 ci fun j=>An .i64 (((b.drop ((a.toNat)*22)).take 22).drop 19) fun cl=>cond ((cl != 1)==false) (An .i64 (((b.drop ((a.toNat)*22)).take 22).drop 12) fun cm=>Aa N (cond false true (decide (cm>0))) 3 a 19 16 j fun cn=>q0 cn ((b.drop ((a.toNat)*22)).take 22)) (Aa N true 3 a 19 16 j fun co=>q0 co ((b.drop ((a.toNat)*22)).take 22))) none) none) none) none) none) none) none)
def Hg:=(Ai fun N e c a f r0=>Jk (R:=R) N r0 (G7 N r0 a c) e c a f).1
theorem Rc (e c a f b):(@Hg R N e c a f b)=(Jk N b (G7 N b a c) e c a f):=by rw[Hg,(Ai _).2]
def R2:Hints:={ H:=(hK 22 (hJ [0,2,6,7] hL (hK 1 (hJ [0,2,6,7] hL hL)))) }
def Ur:Qr:=[D0 N,Ji N,Cu N,Bk N,AD N,Um N]
def R3 (F:KF R):=Jd Tryz.f66 R2 (Ur N) [100000] N F
def H_ (a:Int) (c:Bool) (d:LA) (K:St→O R):=fun h=>K ⟨[(0,(.optr 100000 0)),(2,(iv a)),(6,(op 0)),(7,(iv 3))],[(100000,(bQ 0 h)),(300000,(bP c 0 d))]⟩
def H' (a:Int) (c:Bool) (K:St→O R):=fun g d=>K ⟨[(0,(.optr 100000 0)),(2,(iv a)),(6,(op 0)),(7,(iv 3))],[(100000,(bQ 0 g)),(300000,(bP c 0 d))]⟩
theorem AE (F:KF R) (a c d):H_ a c d (Bv (R3 N F (pz 1501199875790165) []))=(Lf N (F7 F) a c d):=by kernel_rfl
theorem AF (F:KF R) (a c):H' a c (Bv (R3 N F (pz 93824992236885) []))=(G7 N (F7 F) a c):=(By (Kb N (F7 F) a c) (fi fun d=>(jW ..).trans (AE ..)):_)
def LH:=Dq N 66 (Ur N) R2 (fun
 | [(.optr 100000 0),(.pagg e c),(.int .i64 a)],[(100000,⟨false,false,true,false,0,f,false,none⟩)]=>some fun _ k=>(Hg N e c a f (F7 k))
 | _,_=>none) fun _ _=>by split;intro R F;exact(By (Jk N (F7 F) · _ _ _ _) ((jW ..).trans (AF ..)):_).trans (Rc ..).symm;trivial
def Mq (c:LA) (d:Bool) (a:Int) (e:LA) (r0:LA→O R):O R :=
 (Az 9 (c.drop 5) fun b g=>cond (Af a g) (cond (ble 9 ((b.drop ((a.toNat)*9)).length)) (cond ((beq 0 0)&&((beq (((b.drop ((a.toNat)*9)).take 9).length) 9)&&(beq 9 9))) (cond (ble 8 (c.length)) (B6 N (c.take 8) d 4 a e fun h=>cond (ble 8 (c.length)) (An .i64 (((b.drop ((a.toNat)*9)).take 9).drop 1) fun i=>Dt N (c.take 8) d i 4 a 1 h fun j=>An .i64 (((b.drop ((a.toNat)*9)).take 9).drop 2) fun l=>Ak N 0 1048576 [(.int .i64 l)] 1 false true fun m=>Aa N m 4 a 2 3 j fun n=>An .i64 (((b.drop ((a.toNat)*9)).take 9).drop 2) fun o=>An .i64 (((b.drop ((a.toNat)*9)).take 9).drop 3) fun p=>Ak N 0 o [(.int .i64 p)] 1 false true fun q=>Aa N q 4 a 3 3 n fun r=>An .i64 (((b.drop ((a.toNat)*9)).take 9).drop 2) fun s=>An .i64 (((b.drop ((a.toNat)*9)).take 9).drop 4) fun t=>Ak N 0 s [(.int .i64 t)] 1 false true fun u=>Aa N u 4 a 4 3 r fun v=>An .i64 (((b.drop ((a.toNat)*9)).take 9).drop 5) fun w=>Ak N 0 1048576 [(.int .i64 w)] 1 false true fun x=>Aa N x 4 a 5 3 v fun y=>An .i64 (((b.drop ((a.toNat)*9)).take 9).drop 6) fun z=>Ak N 0 1048576 [(.int .i64 z)] 1 false true fun aa=>Aa N aa 4 a 6 3 y fun f=>cond (ble 2 ((((b.drop ((a.toNat)*9)).take 9).drop 7).length)) (cond ((!d)||(Aw ((((b.drop ((a.toNat)*9)).take 9).drop 7).take 2))) (Ia N ((((b.drop ((a.toNat)*9)).take 9).drop 7).take 2) false fun ab=>cond (ab==true) (An .i64 (((b.drop ((a.toNat)*9)).take 9).drop 7) fun ac=>cond ((cond true (decide (ac>0)) false)==true) (An .i64 (((b.drop ((a.toNat)*9)).take 9).drop 7) fun ad=>An .i64 (((b.drop ((a.toNat)*9)).take 9).drop 8) fun ae=>Aa N (cond true (decide (ad≤ae)) false) 4 a 7 3 f fun af=>r0 af) (Aa N false 4 a 7 3 f fun ag=>r0 ag)) (Aa N false 4 a 7 3 f fun ah=>r0 ah)) none) none) none) none) none) none) none)
def Jl:=(Ai (@Mq R)).1
theorem Og:@Jl R=@Mq R:=(Ai _).2
def IA:=Dq N 67 [D0 N,Ji N,Cu N,Bk N,FE N] G2 (fun
 | [(.optr 100000 0),(.pagg c d),(.int .i64 a)],[(100000,⟨false,false,true,false,0,e,false,none⟩)]=>some fun _ k=>(Jl N c d a e (F7 k))
 | _,_=>none) fun _ _=>by split;intro R F;dsimp only;rw[Og];kernel_rfl;trivial
def Pb (b:LA) (c:Bool) (a:Int) (e:LA) (r0:LA→O R):O R :=
 (Az 5 (b.drop 6) fun d f=>cond (Af a f) (cond (ble 5 ((d.drop ((a.toNat)*5)).length)) (cond ((beq 0 0)&&((beq (((d.drop ((a.toNat)*5)).take 5).length) 5)&&(beq 5 5))) (cond (ble 8 (b.length)) (B6 N (b.take 8) c 5 a e fun g=>cond (ble 8 (b.length)) (An .i64 (((d.drop ((a.toNat)*5)).take 5).drop 1) fun h=>Dt N (b.take 8) c h 5 a 1 g fun i=>cond (ble 8 (b.length)) (Az 1 (((d.drop ((a.toNat)*5)).take 5).drop 2) fun j l=>Cg N (b.take 8) c j l false c 0 1048576 5 a 2 i fun m=>cond (ble 8 (b.length)) (Az 1 (((d.drop ((a.toNat)*5)).take 5).drop 3) fun n o=>Cg N (b.take 8) c n o false c 0 1048576 5 a 3 m fun p=>cond (ble 8 (b.length)) (Az 1 (((d.drop ((a.toNat)*5)).take 5).drop 4) fun q r=>Cg N (b.take 8) c q r false c (-1048576) 1048576 5 a 4 p fun s=>r0 s) none) none) none) none) none) none) none) none)
def Me:=(Ai (@Pb R)).1
theorem R4:@Me R=@Pb R:=(Ai _).2
def PH:=Dq N 68 [D0 N,Ji N,J6 N] G2 (fun
 | [(.optr 100000 0),(.pagg b c),(.int .i64 a)],[(100000,⟨false,false,true,false,0,e,false,none⟩)]=>some fun _ k=>(Me N b c a e (F7 k))
 | _,_=>none) fun _ _=>by split;intro R F;dsimp only;rw[R4];kernel_rfl;trivial
def Ey (r0:LA→O R) (a:Int) (f:LA) (h:Nat) (b:Bool) (k2:Int→Int→LA→O R) (s l:Int) (t:LA):O R :=
 (cond (decide (l<s)) (cond (Af l h) (cond (ble 3 ((f.drop ((l.toNat)*3)).length)) (cond ((!b)||(Aw ((f.drop ((l.toNat)*3)).take 3))) (cond ((beq (((f.drop ((l.toNat)*3)).take 3).length) 3)&&((ble 3 3)&&(!false))) (An .i64 ((setCells [(.int .i64 0),(.int .i64 0),(.int .i64 0)] 0 ((f.drop ((l.toNat)*3)).take 3)).drop 1) fun x=>An .i64 ((setCells [(.int .i64 0),(.int .i64 0),(.int .i64 0)] 0 ((f.drop ((l.toNat)*3)).take 3)).drop 2) fun y=>Ak N 0 1048576 [(.int .i64 x),(.int .i64 y)] 2 false true fun z=>Aa N z 6 a 3 3 t fun aa=>k2 s (wrap .i64 (l+1)) aa) none) none) none) none) (r0 t))
def Cq (r0:LA→O R) (a:Int) (f:LA) (h:Nat) (b:Bool):Nat→Int→Int→LA→O R
 | 0,_,_,_=>none
 | n+1,s,l,t=>(Ey N r0 a f h b (Cq r0 a f h b n) s l t)
def Ez (r0:LA→O R) (a:Int) (g:LA) (i:Nat) (b:Bool) (j c d:LA) (k1:Nat→Int→Int→LA→O R) (q2:LA→Nat→Int→Int→LA→O R) (m:Nat) (u o:Int) (r:LA):O R :=
 (cond (decide (o<u)) (cond (Af o i) (cond (ble 3 ((g.drop ((o.toNat)*3)).length)) (cond ((!b)||(Aw ((g.drop ((o.toNat)*3)).take 3))) (cond ((beq (((g.drop ((o.toNat)*3)).take 3).length) 3)&&((ble 3 3)&&(!false))) (An .i64 (setCells [(.int .i64 0),(.int .i64 0),(.int .i64 0)] 0 ((g.drop ((o.toNat)*3)).take 3)) fun ab=>cond ((ble (m+1) 140737488355328)&&(ble ((m+1)*8) 140737488355328)) (k1 (m+1) u (wrap .i64 (o+1)) ((r.take (m*1))++[(.int .i64 ab)])) none) none) none) none) none) (Az 22 (c.drop 4) fun bb ac=>Ak N 0 (wrap .i64 ((ac:Int) - 1)) (r.take (m*1)) m false true fun ad=>Aa N ad 6 a 3 12 j fun ae=>Mp N (r.take (m*1)) m false true fun af=>Aa N af 6 a 3 11 ae fun ag=>Az 3 (d.drop 3) fun f h=>q2 f h (h:Int) 0 ag))
def Cr (r0:LA→O R) (a:Int) (g:LA) (i:Nat) (b:Bool) (j c d:LA):Nat→Nat→Int→Int→LA→O R
 | 0,_,_,_,_=>none
 | n+1,m,u,o,r=>(Ez N r0 a g i b j c d (Cr r0 a g i b j c d n) (fun f h=>Cq N r0 a f h b N) m u o r)
def Ib (r0:LA→O R) (a:Int) (b:Bool) (c:LA) (q1:LA→Nat→LA→LA→Nat→Int→Int→LA→O R) (v d:LA):O R :=
 (Az 3 (d.drop 3) fun bc ah=>Aa N (decide ((ah:Int)≤16)) 6 a 3 8 v fun j=>Az 3 (d.drop 3) fun g i=>q1 g i j d 0 (i:Int) 0 [])
def Fy (r0:LA→O R) (a:Int) (b:Bool) (c:LA) (v d:LA):O R:=(Ib N r0 a b c (fun g i j d=>Cr N r0 a g i b j c d N) v d)
def G8 (r0:LA→O R) (q0:LA→LA→O R) (c:LA) (b:Bool) (a:Int) (q:LA):O R :=
 (Az 4 (c.drop 7) fun p ai=>cond (Af a ai) (cond (ble 4 ((p.drop ((a.toNat)*4)).length)) (cond ((beq 0 0)&&((beq (((p.drop ((a.toNat)*4)).take 4).length) 4)&&(beq 4 4))) (cond (ble 8 (c.length)) (B6 N (c.take 8) b 6 a q fun aj=>Az 1 (((p.drop ((a.toNat)*4)).take 4).drop 1) fun bd ak=>Ak N 1 2 [(.int .i64 (ak:Int))] 1 false true fun al=>Aa N al 6 a 1 4 aj fun am=>Az 12 (c.drop 3) fun be an=>Az 1 (((p.drop ((a.toNat)*4)).take 4).drop 1) fun ao ap=>Ak N 0 (wrap .i64 ((an:Int) - 1)) ao ap false b fun aq=>Aa N aq 6 a 1 12 am fun ar=>Az 1 (((p.drop ((a.toNat)*4)).take 4).drop 1) fun au av=>Mp N au av false b fun aw=>Aa N aw 6 a 1 11 ar fun w=>L_ (((p.drop ((a.toNat)*4)).take 4).drop 2) fun ax=>cond (ax==false) (Az 3 (((p.drop ((a.toNat)*4)).take 4).drop 3) fun bf ay=>Aa N (cond false true ((ay:Int)==0)) 6 a 3 16 w fun az=>q0 az ((p.drop ((a.toNat)*4)).take 4)) (Aa N true 6 a 3 16 w fun ba=>q0 ba ((p.drop ((a.toNat)*4)).take 4))) none) none) none) none)
def Fo:=(Ai fun N c b a q r0=>G8 (R:=R) N r0 (Fy N r0 a b c) c b a q).1
theorem N3 (c b a q d):(@Fo R N c b a q d)=(G8 N d (Fy N d a b c) c b a q):=by rw[Fo,(Ai _).2]
def Oh:Hints:={ H:=(hK 6 (hJ [0,2,4,6,7] hL (hK 2 (hS (hK 1 (hS (hP [0,2,4,6,7,8,71,72,73] hL) hL)) (hK 3 (hS (hP [0,2,7,100,101,102] hL) hL)))))),nils:=[(8,1)] }
def Rd:Qr:=[D0 N,Cu N,Bk N,PG N]
def I9 (F:KF R):=Jd Tryz.f69 Oh (Rd N) [100000] N F
def CO (a:Int) (f:LA) (h:Nat) (b:Bool) (K:St→O R):=fun s l t=>K ⟨[(0,(.optr 100000 0)),(2,(iv a)),(7,(iv 6)),(100,(.imm f h 3 false b)),(101,(iv s)),(102,(iv l))],[(100000,(bQ 0 t))]⟩
def CP (a:Int) (g:LA) (i:Nat) (b:Bool) (j c d:LA) (K:St→O R):=fun m u o r=>K ⟨[(0,(.optr 100000 0)),(2,(iv a)),(4,(op 0)),(6,(op 1)),(7,(iv 6)),(8,(.own 300002 0 m)),(71,(.imm g i 3 false b)),(72,(iv u)),(73,(iv o))],[(100000,(bQ 0 j)),(300000,(bP b 0 c)),(300001,(bP b 0 d)),(300002,(bQ 1 r))]⟩
def CQ (a:Int) (b:Bool) (c:LA) (K:St→O R):=fun v d=>K ⟨[(0,(.optr 100000 0)),(2,(iv a)),(4,(op 0)),(6,(op 1)),(7,(iv 6))],[(100000,(bQ 0 v)),(300000,(bP b 0 c)),(300001,(bP b 0 d))]⟩
theorem W0 (F:KF R) (a f h b):∀ n,CO a f h b (Am (I9 N F (pz 357913940) []) n)=(Cq N (F7 F) a f h b n):=Fc fun n e=>(By (Ey N (F7 F) a f h b) e:_)
theorem W1 (F:KF R) (a g i b j c d):∀ n,CP a g i b j c d (Am (I9 N F (pz 22369604) []) n)=(Cr N (F7 F) a g i b j c d n):=Fc fun n e=>(MW (Ez N (F7 F) a g i b j c d) e (fj fun f h=>(lW ..).trans (W0 ..)):_)
theorem W2 (F:KF R) (a b c):CQ a b c (Bv (I9 N F (pz 21845) []))=(Fy N (F7 F) a b c):=(By (Ib N (F7 F) a b c) (wu fun g i j d=>(lW ..).trans (W1 ..)):_)
def FG:=Dq N 69 (Rd N) Oh (fun
 | [(.optr 100000 0),(.pagg c b),(.int .i64 a)],[(100000,⟨false,false,true,false,0,q,false,none⟩)]=>some fun _ k=>(Fo N c b a q (F7 k))
 | _,_=>none) fun _ _=>by split;intro R F;exact(By (G8 N (F7 F) · _ _ _ _) ((jW ..).trans (W2 ..)):_).trans (N3 ..).symm;trivial
def V9 (N:Nat) (r0:Bool→O R) (b:LA) (a:Nat) (d f:Bool) (c:Int) (k0:Int→O R) (g:Int):O R :=
 (cond (decide (g<(a:Int))) (cond (Af g a) (An .i64 (b.drop ((g.toNat)*1)) fun h=>cond (h==c) (r0 true) (k0 (wrap .i64 (g+1)))) none) (r0 false))
def Mr (r0:Bool→O R) (b:LA) (a:Nat) (d f:Bool) (c:Int):Nat→Int→O R
 | 0,_=>none
 | n+1,g=>(V9 N r0 b a d f c (Mr r0 b a d f c n) g)
def PI (N:Nat) (r0:Bool→O R) (q0:Int→O R) (b:LA) (a:Nat) (d f:Bool) (c:Int):O R :=
 (q0 0)
def AG:=(Ai fun N b a d f c r0=>PI (R:=R) N r0 (Mr N r0 b a d f c N) b a d f c).1
theorem WS (b a d f c e):(@AG R N b a d f c e)=(PI N e (Mr N e b a d f c N) b a d f c):=by rw[AG,(Ai _).2]
def eU:Hints:={ H:=(hK 1 (hS (hK 1 (hS (hP [0,1,5] hL) hL)) hL)) }
def qF (F:KF R):=Jd Tryz.f71 eU [] [] N F
def qG (b:LA) (a:Nat) (d f:Bool) (c:Int) (K:St→O R):=fun g=>K ⟨[(0,(.imm b a 1 d f)),(1,(iv c)),(5,(iv g))],[]⟩
theorem ge (F:KF R) (b a d f c):∀ n,qG b a d f c (Am (qF N F (pz 324) []) n)=(Mr N (Bi F) b a d f c n):=Fc fun n e=>(By (V9 N (Bi F) b a d f c) e:_)
def TL:=Dq N 71 [] eU (fun
 | [(.imm b a 1 d f),(.int .i64 c)],[]=>some fun _ k=>(AG N b a d f c (Bi k))
 | _,_=>none) fun _ _=>by split;intro R F;exact(By (PI N (Bi F) · _ _ _ _ _) ((lW ..).trans (ge ..)):_).trans (WS ..).symm;trivial
def Jm (r0:Nat→LA→O R) (b:Int) (c:Bool) (a:LA) (k0:Nat→Int→LA→O R) (d:Nat) (f:Int) (g:LA):O R :=
 (Az 12 (a.drop 3) fun p h=>cond (decide (f<(h:Int))) (Az 12 (a.drop 3) fun i j=>cond (Af f j) (Az 1 ((i.drop ((f.toNat)*12)).drop 11) fun l m=>AG N l m false c b fun o=>cond (!o) (cond ((ble (d+1) 140737488355328)&&(ble ((d+1)*8) 140737488355328)) (k0 (d+1) (wrap .i64 (f+1)) ((g.take (d*1))++[(.int .i64 f)])) none) (k0 d (wrap .i64 (f+1)) g)) none) (r0 d g))
def D1 (r0:Nat→LA→O R) (b:Int) (c:Bool) (a:LA):Nat→Nat→Int→LA→O R
 | 0,_,_,_=>none
 | n+1,d,f,g=>(Jm N r0 b c a (D1 r0 b c a n) d f g)
def N4 (N:Nat) (r0:Nat→LA→O R) (q0:Nat→Int→LA→O R) (a:LA) (c:Bool) (b:Int):O R :=
 (q0 0 0 [])
def Ls:=(Ai fun N a c b r0=>N4 (R:=R) N r0 (D1 N r0 b c a N) a c b).1
theorem Wa (a c b d):(@Ls R N a c b d)=(N4 N d (D1 N d b c a N) a c b):=by rw[Ls,(Ai _).2]
def Yi:Hints:={ H:=(hK 2 (hS (hK 1 (hS (hP [1,2,5,6] hL) hL)) hL)),nils:=[(4,1),(5,1)],modes:=[(2,1)] }
def B_:Qr:=[TL N]
def TM (F:KF R):=Jd Tryz.f111 Yi (B_ N) [] N F
def TN (b:Int) (c:Bool) (a:LA) (K:St→O R):=fun d f g=>K ⟨[(1,(iv b)),(2,(op 0)),(5,(.own 300001 0 d)),(6,(iv f))],(hq [(bP c 0 a),(bQ 1 g)])⟩
theorem IB (F:KF R) (b c a):∀ n,TN b c a (Am (TM N F (pz 1348) []) n)=(D1 N (F8 F) b c a n):=Fc fun n e=>(By (Jm N (F8 F) b c a) e:_)
def YV:=Dq N 111 (B_ N) Yi (fun
 | [(.pagg a c),(.int .i64 b)],[]=>some fun _ k=>(Ls N a c b (F8 k))
 | _,_=>none) fun _ _=>by split;intro R F;exact(By (N4 N (F8 F) · _ _ _) ((lW ..).trans (IB ..)):_).trans (Wa ..).symm;trivial
def Qc (N:Nat) (r0:Nat→Nat→LA→LA→O R) (b:Nat) (c:Bool) (a d:LA) (k0:Nat→Int→Int→LA→O R) (f:Nat) (i g:Int) (j:LA):O R :=
 (cond (decide (g<i)) (cond (Af g b) (An .i64 (d.drop (0+((g.toNat)*1))) fun l=>Az 12 (a.drop 3) fun m o=>cond (Af l o) (An .i64 ((m.drop ((l.toNat)*12)).drop 1) fun p=>Az 12 (a.drop 3) fun q r=>cond (Af l r) (An .i64 ((q.drop ((l.toNat)*12)).drop 2) fun s=>cond ((ble (f+1) 140737488355328)&&(ble ((f+1)*16) 140737488355328)) (k0 (f+1) i (wrap .i64 (g+1)) ((j.take (f*2))++[(.int .i64 p),(.int .i64 s)])) none) none) none) none) (r0 f b j d))
def Ic (r0:Nat→Nat→LA→LA→O R) (b:Nat) (c:Bool) (a d:LA):Nat→Nat→Int→Int→LA→O R
 | 0,_,_,_,_=>none
 | n+1,f,i,g,j=>(Qc N r0 b c a d (Ic r0 b c a d n) f i g j)
def AH (r0:Nat→Nat→LA→LA→O R) (q0:Nat→LA→Nat→Int→Int→LA→O R) (a:LA) (c:Bool) (h:Int):O R :=
 (cond (ble 8 (a.length)) (Ls N (a.take 8) c h fun b d=>q0 b d 0 (b:Int) 0 []) none)
def Yj:=(Ai fun N a c h r0=>AH (R:=R) N r0 (fun b d=>Ic N r0 b c a d N) a c h).1
theorem JP (a c h e):(@Yj R N a c h e)=(AH N e (fun b d=>Ic N e b c a d N) a c h):=by rw[Yj,(Ai _).2]
def PJ:Hints:={ H:=(hK 3 (hS (hK 1 (hS (hP [2,6,7,13,14,15] hL) hL)) hL)),nils:=[(4,2),(5,1),(7,2)],modes:=[(2,2),(2,1)] }
def WT:Qr:=[YV N]
def k_ (F:KF R):=Jd Tryz.f70 PJ (WT N) [] N F
def Tb (F:KF R):Nat→Nat→LA→LA→O R:=(fun t u v w=>F (.tup [(.own 300000 0 t),(.own 300001 0 u)]) (hq [(bQ 2 v),(bQ 1 w)]))
def kc (b:Nat) (c:Bool) (a d:LA) (K:St→O R):=fun f i g j=>K ⟨[(2,(op 0)),(6,(.own 300001 0 b)),(7,(.own 300002 0 f)),(13,(.own 300001 0 b)),(14,(iv i)),(15,(iv g))],(hq [(bP c 0 a),(bQ 1 d),(bQ 2 j)])⟩
theorem YW (F:KF R) (b c a d):∀ n,kc b c a d (Am (k_ N F (pz 5444) []) n)=(Ic N (Tb F) b c a d n):=Fc fun n e=>(By (Qc N (Tb F) b c a d) e:_)
def nZ:=Dq N 70 (WT N) PJ (fun
 | [(.pagg a c),(.int .i64 h)],[]=>some fun _ k=>(Yj N a c h (Tb k))
 | _,_=>none) fun _ _=>by split;intro R F;exact(By (AH N (Tb F) · _ _ _) (fj fun b d=>(lW ..).trans (YW ..)):_).trans (JP ..).symm;trivial
def Mf (N:Nat) (k1:Bool→LA→O R) (r0:Nat→LA→O R) (a:LA) (b:Nat) (d c:Bool) (f:Nat) (k2:Bool→Int→Int→LA→O R) (q:Bool) (o h:Int) (i:LA):O R :=
 (cond (decide (h<o)) (cond (Af h b) (cond (ble 2 ((a.drop ((h.toNat)*2)).length)) (cond ((!c)||(Aw ((a.drop ((h.toNat)*2)).take 2))) (cond ((beq (((a.drop ((h.toNat)*2)).take 2).length) 2)&&((ble 2 2)&&(!false))) (An .i64 (setCells [(.int .i64 0),(.int .i64 0)] 0 ((a.drop ((h.toNat)*2)).take 2)) fun z=>cond (Af z f) (An .i64 (i.drop (0+((z.toNat)*1))) fun j=>An .i64 ((setCells [(.int .i64 0),(.int .i64 0)] 0 ((a.drop ((h.toNat)*2)).take 2)).drop 1) fun aa=>cond (Af aa f) (An .i64 (i.drop (0+((aa.toNat)*1))) fun l=>cond (q==false) (An .i64 (setCells [(.int .i64 0),(.int .i64 0)] 0 ((a.drop ((h.toNat)*2)).take 2)) fun ab=>cond (Af ab f) (An .i64 (i.drop (0+((ab.toNat)*1))) fun ad=>cond ((cond false true (ad != (Hi j l)))==false) (An .i64 ((setCells [(.int .i64 0),(.int .i64 0)] 0 ((a.drop ((h.toNat)*2)).take 2)).drop 1) fun ac=>cond (Af ac f) (An .i64 (i.drop (0+((ac.toNat)*1))) fun ae=>An .i64 (setCells [(.int .i64 0),(.int .i64 0)] 0 ((a.drop ((h.toNat)*2)).take 2)) fun t=>An .i64 ((setCells [(.int .i64 0),(.int .i64 0)] 0 ((a.drop ((h.toNat)*2)).take 2)).drop 1) fun w=>cond (Af t f) (cond ((beq 1 1)&&((ble ((0+((t.toNat)*1))+1) (i.length))&&(!false))) (cond (Af w f) (cond ((beq 1 1)&&((ble ((0+((w.toNat)*1))+1) ((i.set (0+((t.toNat)*1)) (.int .i64 (Hi j l))).length))&&(!false))) (k2 (cond false true (ae != (Hi j l))) o (wrap .i64 (h+1)) ((i.set (0+((t.toNat)*1)) (.int .i64 (Hi j l))).set (0+((w.toNat)*1)) (.int .i64 (Hi j l)))) none) none) none) none) none) (An .i64 (setCells [(.int .i64 0),(.int .i64 0)] 0 ((a.drop ((h.toNat)*2)).take 2)) fun u=>An .i64 ((setCells [(.int .i64 0),(.int .i64 0)] 0 ((a.drop ((h.toNat)*2)).take 2)).drop 1) fun x=>cond (Af u f) (cond ((beq 1 1)&&((ble ((0+((u.toNat)*1))+1) (i.length))&&(!false))) (cond (Af x f) (cond ((beq 1 1)&&((ble ((0+((x.toNat)*1))+1) ((i.set (0+((u.toNat)*1)) (.int .i64 (Hi j l))).length))&&(!false))) (k2 true o (wrap .i64 (h+1)) ((i.set (0+((u.toNat)*1)) (.int .i64 (Hi j l))).set (0+((x.toNat)*1)) (.int .i64 (Hi j l)))) none) none) none) none)) none) (An .i64 (setCells [(.int .i64 0),(.int .i64 0)] 0 ((a.drop ((h.toNat)*2)).take 2)) fun v=>An .i64 ((setCells [(.int .i64 0),(.int .i64 0)] 0 ((a.drop ((h.toNat)*2)).take 2)).drop 1) fun y=>cond (Af v f) (cond ((beq 1 1)&&((ble ((0+((v.toNat)*1))+1) (i.length))&&(!false))) (cond (Af y f) (cond ((beq 1 1)&&((ble ((0+((y.toNat)*1))+1) ((i.set (0+((v.toNat)*1)) (.int .i64 (Hi j l))).length))&&(!false))) (k2 true o (wrap .i64 (h+1)) ((i.set (0+((v.toNat)*1)) (.int .i64 (Hi j l))).set (0+((y.toNat)*1)) (.int .i64 (Hi j l)))) none) none) none) none)) none) none) none) none) none) none) (k1 q i))
def Fp (k1:Bool→LA→O R) (r0:Nat→LA→O R) (a:LA) (b:Nat) (d c:Bool) (f:Nat):Nat→Bool→Int→Int→LA→O R
 | 0,_,_,_,_=>none
 | n+1,q,o,h,i=>(Mf N k1 r0 a b d c f (Fp k1 r0 a b d c f n) q o h i)
def Mg (N:Nat) (r0:Nat→LA→O R) (a:LA) (b:Nat) (d c:Bool) (f:Nat) (k1:Bool→LA→O R) (q2:Bool→Int→Int→LA→O R) (s:Bool) (r:LA):O R :=
 (cond s (q2 false (b:Int) 0 r) (r0 f r))
def Ch (r0:Nat→LA→O R) (a:LA) (b:Nat) (d c:Bool) (f:Nat):Nat→Bool→LA→O R
 | 0,_,_=>none
 | n+1,s,r=>(Mg N r0 a b d c f (Ch r0 a b d c f n) (Fp N (Ch r0 a b d c f n) r0 a b d c f N) s r)
def Mh (N:Nat) (r0:Nat→LA→O R) (g:Int) (a:LA) (b:Nat) (d c:Bool) (k0:Nat→Int→LA→O R) (q1:Nat→Bool→LA→O R) (f:Nat) (m:Int) (p:LA):O R :=
 (cond (decide (m<g)) (cond (Af m f) (cond ((beq 1 1)&&((ble ((0+((m.toNat)*1))+1) (p.length))&&(!false))) (k0 f (wrap .i64 (m+1)) (p.set (0+((m.toNat)*1)) (.int .i64 m))) none) none) (q1 f true p))
def Fq (r0:Nat→LA→O R) (g:Int) (a:LA) (b:Nat) (d c:Bool):Nat→Nat→Int→LA→O R
 | 0,_,_,_=>none
 | n+1,f,m,p=>(Mh N r0 g a b d c (Fq r0 g a b d c n) (fun f=>Ch N r0 a b d c f N) f m p)
def Tc (N:Nat) (r0:Nat→LA→O R) (q0:Nat→Int→LA→O R) (g:Int) (a:LA) (b:Nat) (d c:Bool):O R :=
 (cond ((decide (0≤g))&&((decide (g≤g))&&((decide (g≤140737488355328))&&(decide ((g*((8:Nat):Int))≤140737488355328))))) (q0 (g.toNat) 0 (replicate (g.toNat) (.int .i64 0))) none)
def M5:=(Ai fun N g a b d c r0=>Tc (R:=R) N r0 (Fq N r0 g a b d c N) g a b d c).1
theorem B' (g a b d c e):(@M5 R N g a b d c e)=(Tc N e (Fq N e g a b d c N) g a b d c):=by rw[M5,(Ai _).2]
def FH:Hints:={ H:=(hK 2 (hS (hK 1 (hS (hP [0,1,5,6] hL) hL)) (hS (hK 1 (hS (hP [1,5,7] (hK 1 (hS (hK 2 (hS (hP [1,5,7,23,24,25] hL) hL)) hL))) hL)) hL))),nils:=[(4,1)],modes:=[(2,1)] }
def Us (F:KF R):=Jd Tryz.f113 FH [] [] N F
def eV (a:LA) (b:Nat) (d c:Bool) (f:Nat) (K:St→O R):=fun q o h i=>K ⟨[(1,(.imm a b 2 d c)),(5,(.own 300000 0 f)),(7,(.bool q)),(23,(.imm a b 2 d c)),(24,(iv o)),(25,(iv h))],(hq [(bQ 1 i)])⟩
def Ut (a:LA) (b:Nat) (d c:Bool) (f:Nat) (K:St→O R):=fun s r=>K ⟨[(1,(.imm a b 2 d c)),(5,(.own 300000 0 f)),(7,(.bool s))],(hq [(bQ 1 r)])⟩
def eW (g:Int) (a:LA) (b:Nat) (d c:Bool) (K:St→O R):=fun f m p=>K ⟨[(0,(iv g)),(1,(.imm a b 2 d c)),(5,(.own 300000 0 f)),(6,(iv m))],(hq [(bQ 1 p)])⟩
theorem PK (Q1) (F:KF R) (a b d c f):∀ n,eV a b d c f (Am (Us N F (pz 22298900) [Q1]) n)=(Fp N (Ut a b d c f Q1) (F8 F) a b d c f n):=Fc fun n e=>(By (Mf N (Ut a b d c f Q1) (F8 F) a b d c f) e:_)
theorem PL (F:KF R) (a b d c f):∀ n,Ut a b d c f (Am (Us N F (pz 5444) []) n)=(Ch N (F8 F) a b d c f n):=Fc fun n e=>(MW (Mg N (F8 F) a b d c f) e ((lW ..).trans ((PK ..).trans (oY (Fp _ · _ _ _ _ _ _ _) e))):_)
theorem PM (F:KF R) (g a b d c):∀ n,eW g a b d c (Am (Us N F (pz 1348) []) n)=(Fq N (F8 F) g a b d c n):=Fc fun n e=>(MW (Mh N (F8 F) g a b d c) e (fi fun f=>(lW ..).trans (PL ..)):_)
def gf:=Dq N 113 [] FH (fun
 | [(.int .i64 g),(.imm a b 2 d c)],[]=>some fun _ k=>(M5 N g a b d c (F8 k))
 | _,_=>none) fun _ _=>by split;intro R F;exact(By (Tc N (F8 F) · _ _ _ _ _) ((lW ..).trans (PM ..)):_).trans (B' ..).symm;trivial
def Qd (N:Nat) (r0:Int→O R) (b:LA) (a:Nat) (c d:Bool) (k0:Int→Int→O R) (g f:Int):O R :=
 (cond (decide (f<(a:Int))) (cond (Af f a) (An .i64 (b.drop ((f.toNat)*1)) fun h=>cond (h==f) (k0 (wrap .i64 (g+1)) (wrap .i64 (f+1))) (k0 g (wrap .i64 (f+1)))) none) (r0 g))
def If (r0:Int→O R) (b:LA) (a:Nat) (c d:Bool):Nat→Int→Int→O R
 | 0,_,_=>none
 | n+1,g,f=>(Qd N r0 b a c d (If r0 b a c d n) g f)
def AI (N:Nat) (r0:Int→O R) (q0:Int→Int→O R) (b:LA) (a:Nat) (c d:Bool):O R :=
 (q0 0 0)
def To:=(Ai fun N b a c d r0=>AI (R:=R) N r0 (If N r0 b a c d N) b a c d).1
theorem JQ (b a c d e):(@To R N b a c d e)=(AI N e (If N e b a c d N) b a c d):=by rw[To,(Ai _).2]
def PN:Hints:={ H:=(hK 2 (hS (hK 1 (hS (hP [0,3,4] hL) hL)) hL)) }
def ke (F:KF R):=Jd Tryz.f112 PN [] [] N F
def kg (b:LA) (a:Nat) (c d:Bool) (K:St→O R):=fun g f=>K ⟨[(0,(.imm b a 1 c d)),(3,(iv g)),(4,(iv f))],[]⟩
theorem YX (F:KF R) (b a c d):∀ n,kg b a c d (Am (ke N F (pz 1348) []) n)=(If N (Dp F) b a c d n):=Fc fun n e=>(By (Qd N (Dp F) b a c d) e:_)
def n6:=Dq N 112 [] PN (fun
 | [(.imm b a 1 c d)],[]=>some fun _ k=>(To N b a c d (Dp k))
 | _,_=>none) fun _ _=>by split;intro R F;exact(By (AI N (Dp F) · _ _ _ _) ((lW ..).trans (YX ..)):_).trans (JQ ..).symm;trivial
def Jn (r0:Bool→O R) (c:Int) (a:LA) (b:Nat) (i d:Bool) (f:LA) (g:Nat) (j h:Bool) (k0:Nat→Int→LA→O R) (m:Nat) (l:Int) (o:LA):O R :=
 (cond (decide (l<(b:Int))) (AG N f g false h l fun r=>cond (!r) (cond (Af l b) (cond (ble 2 ((a.drop ((l.toNat)*2)).length)) (cond ((!d)||(Aw ((a.drop ((l.toNat)*2)).take 2))) (cond ((beq (((a.drop ((l.toNat)*2)).take 2).length) 2)&&(ble 2 2)) (cond ((ble (m+1) 140737488355328)&&(ble ((m+1)*16) 140737488355328)) (k0 (m+1) (wrap .i64 (l+1)) ((o.take (m*2))++((setCells [(.int .i64 0),(.int .i64 0)] 0 ((a.drop ((l.toNat)*2)).take 2)).take 2))) none) none) none) none) none) (k0 m (wrap .i64 (l+1)) o)) (M5 N c (o.take (m*2)) m false true fun p s=>To N (s.take (p*1)) p false true fun t=>M5 N c a b false d fun q u=>To N (u.take (q*1)) q false true fun v=>r0 (decide (t>v))))
def D2 (r0:Bool→O R) (c:Int) (a:LA) (b:Nat) (i d:Bool) (f:LA) (g:Nat) (j h:Bool):Nat→Nat→Int→LA→O R
 | 0,_,_,_=>none
 | n+1,m,l,o=>(Jn N r0 c a b i d f g j h (D2 r0 c a b i d f g j h n) m l o)
def N5 (N:Nat) (r0:Bool→O R) (q0:Nat→Int→LA→O R) (c:Int) (a:LA) (b:Nat) (i d:Bool) (f:LA) (g:Nat) (j h:Bool):O R :=
 (q0 0 0 [])
def Lt:=(Ai fun N c a b i d f g j h r0=>N5 (R:=R) N r0 (D2 N r0 c a b i d f g j h N) c a b i d f g j h).1
theorem Wb (c a b i d f g j h e):(@Lt R N c a b i d f g j h e)=(N5 N e (D2 N e c a b i d f g j h N) c a b i d f g j h):=by rw[Lt,(Ai _).2]
def Yk:Hints:={ H:=(hK 2 (hS (hK 1 (hS (hP [0,1,2,7,8] hL) hL)) hL)),nils:=[(7,2)] }
def CA:Qr:=[TL N,gf N,n6 N]
def TO (F:KF R):=Jd Tryz.f72 Yk (CA N) [] N F
def TP (c:Int) (a:LA) (b:Nat) (i d:Bool) (f:LA) (g:Nat) (j h:Bool) (K:St→O R):=fun m l o=>K ⟨[(0,(iv c)),(1,(.imm a b 2 i d)),(2,(.imm f g 1 j h)),(7,(.own 300000 0 m)),(8,(iv l))],(hq [(bQ 2 o)])⟩
theorem IC (F:KF R) (c a b i d f g j h):∀ n,TP c a b i d f g j h (Am (TO N F (pz 1348) []) n)=(D2 N (Bi F) c a b i d f g j h n):=Fc fun n e=>(By (Jn N (Bi F) c a b i d f g j h) e:_)
def YY:=Dq N 72 (CA N) Yk (fun
 | [(.int .i64 c),(.imm a b 2 i d),(.imm f g 1 j h)],[]=>some fun _ k=>(Lt N c a b i d f g j h (Bi k))
 | _,_=>none) fun _ _=>by split;intro R F;exact(By (N5 N (Bi F) · _ _ _ _ _ _ _ _ _) ((lW ..).trans (IC ..)):_).trans (Wb ..).symm;trivial
end
end Gx
namespace Gx.Cf
open Go Go.Proofs
section
variable {R:Type}
def Dr (n N:Nat):Prop:=n<N∧n<4611686018427387904
theorem Bf {j:Nat} (h:j<4611686018427387904):wrap .i64 ((j:Int)+1)=((j+1:Nat):Int):=by rw[Xq _ (by omega)];omega
theorem R5 {l:List Int} {j:Nat} (h:j<l.length) {f:Int→O R}:An .i64 (drop ((Int.toNat (j:Int))*1) (Ax l)) f=f l[j]:=by
 rw[Ab2,Acf,cA h]
theorem G4 {j n:Nat} (h:j<n):decide ((j:Int)<(n:Int))=true:=by simp;omega
theorem G9 {j n:Nat} (h:n≤j):decide ((j:Int)<(n:Int))=false:=by simp;omega
theorem Bc {α:Type} {l:List α} {j:Nat} (h:j<l.length):l.drop j=l[j]::l.drop (j+1):=Ack h
theorem Bo {α:Type} {l:List α} {j:Nat} (h:l.length≤j):l.drop j=[]:=Ac8 h
theorem Yl {N:Nat} {lo hi:Int} {l:List Int} {t o:Bool} {K:Bool→O R} (hs:l.length<4611686018427387904):∀ (m j fuel:Nat),j+m=l.length→m<fuel →
  Fn N K lo hi (Ax l) l.length t o fuel (j:Int)=K ((l.drop j).all (Fv lo hi))
 | 0,j,fuel+1,e,_=>by
  rw[Fn];unfold Md
  rw[G9 (by omega),cf,Bo (by omega)];rfl
 | m+1,j,fuel+1,e,k=>by
  rw[Fn];unfold Md
  have h:j<l.length:=by omega
  rw[G4 h,ct,Ab h,ct,R5 h,ct,R5 h,Bf (by omega),Yl hs m (j+1) fuel (by omega) (by omega),Bc h,Acl]
  unfold Fv
  by_cases b:l[j]<lo
  ·have:¬ lo≤l[j]:=by omega
   simp[b,this]
  ·have:lo≤l[j]:=by omega
   by_cases d:l[j]>hi
   ·have:¬ l[j]≤hi:=by omega
    simp[b,d,this]
   ·have i:l[j]≤hi:=by omega
    simp[b,d,this,i]
theorem E8 {N:Nat} {lo hi:Int} {l:List Int} {n:Nat} {t o:Bool} {K:Bool→O R} (hn:n=l.length) (hs:Dr l.length N):Ak N lo hi (Ax l) n t o K=K (l.all (Fv lo hi)):=by
 subst hn
 rw[BZ];unfold S9
 have:=Yl (R:=R) (N:=N) (lo:=lo) (hi:=hi) (t:=t) (o:=o) (K:=K) hs.2 l.length 0 N (by omega) hs.1
 simpa using this
theorem Cw {N:Nat} {lo hi a:Int} {t o:Bool} {K:Bool→O R} (hN:8≤N):Ak N lo hi [.int .i64 a] 1 t o K=K (Fv lo hi a):=by
 have:=E8 (R:=R) (N:=N) (lo:=lo) (hi:=hi) (l:=[a]) (t:=t) (o:=o) (K:=K) rfl ⟨by simp;omega,by simp⟩
 simpa[Ax] using this
theorem YZ {N:Nat} {lo hi a b:Int} {t o:Bool} {K:Bool→O R} (hN:8≤N):Ak N lo hi [.int .i64 a,.int .i64 b] 2 t o K=K (Fv lo hi a&&Fv lo hi b):=by
 have:=E8 (R:=R) (N:=N) (lo:=lo) (hi:=hi) (l:=[a,b]) (t:=t) (o:=o) (K:=K) rfl ⟨by simp;omega,by simp⟩
 simpa[Ax] using this
def JR:List Int→Bool
 | a::b::r=>decide (a<b)&&JR (b::r)
 | _=>true
theorem HA (a b:Int) (r:List Int):JR (a::b::r)=(decide (a<b)&&JR (b::r)):=by rw[JR]
theorem aD (a:Int):JR [a]=true:=by rw[JR];intros;simp_all
theorem ki:JR []=true:=by rw[JR];intros;simp_all
theorem ib {j:Nat} (h:j+1<4611686018427387904):wrap .i64 (((j+1:Nat):Int) - 1)=(j:Int):=by rw[Xq _ (by omega)];omega
theorem CB {N:Nat} {l:List Int} {t o:Bool} {K:Bool→O R} (hs:l.length<4611686018427387904):∀ (m j fuel:Nat),j+1+m=l.length→m<fuel →
  E6 N K (Ax l) l.length t o fuel ((j+1:Nat):Int)=K (JR (l.drop j))
 | 0,j,fuel+1,d,_=>by
  rw[E6];unfold J8
  rw[G9 (by omega),cf,Bc (by omega),Bo (by omega),aD]
 | m+1,j,fuel+1,d,e=>by
  rw[E6];unfold J8
  have h:j+1<l.length:=by omega
  have h':j<l.length:=by omega
  rw[G4 h,ct,Ab h,ct,R5 h,ib (by omega),Ab h',ct,R5 h',Bf (by omega),CB hs m (j+1) fuel (by omega) (by omega),Bc h',Bc h,HA]
  by_cases b:l[j+1]≤l[j]
  ·have:¬ l[j]<l[j+1]:=by omega
   simp[b,this]
  ·have:l[j]<l[j+1]:=by omega
   simp[b,this]
theorem Rp {N:Nat} {l:List Int} {n:Nat} {t o:Bool} {K:Bool→O R} (hn:n=l.length) (hs:Dr l.length N):Mp N (Ax l) n t o K=K (JR l):=by
 subst hn
 rw[FF];unfold V8
 rcases l with _ | ⟨a,r⟩
 ·have hN:=hs.1
  rcases N with _ | N
  ·simp at hN
  ·rw[E6];unfold J8;simp[ki]
 ·have:=CB (R:=R) (N:=N) (t:=t) (o:=o) (K:=K) hs.2 r.length 0 N (by simp;omega) (by have:=hs.1;simp at this;omega)
  simpa using this
theorem PO {N:Nat} {v:Int} {l:List Int} {t o:Bool} {K:Bool→O R} (hs:l.length<4611686018427387904):∀ (m j fuel:Nat),j+m=l.length→m<fuel →
  Mr N K (Ax l) l.length t o v fuel (j:Int)=K ((l.drop j).contains v)
 | 0,j,fuel+1,b,_=>by
  rw[Mr];unfold V9
  rw[G9 (by omega),cf,Bo (by omega)];rfl
 | m+1,j,fuel+1,b,d=>by
  rw[Mr];unfold V9
  have h:j<l.length:=by omega
  rw[G4 h,ct,Ab h,ct,R5 h,Bf (by omega),PO hs m (j+1) fuel (by omega) (by omega),Bc h,Agd,BEq.comm]
  cases e:v==l[j]<;>simp
theorem AJ {N:Nat} {v:Int} {l:List Int} {n:Nat} {t o:Bool} {K:Bool→O R} (hn:n=l.length) (hs:Dr l.length N):AG N (Ax l) n t o v K=K (l.contains v):=by
 subst hn
 rw[WS];unfold PI
 have:=PO (R:=R) (N:=N) (v:=v) (t:=t) (o:=o) (K:=K) hs.2 l.length 0 N (by omega) hs.1
 simpa using this
def A8:B8→Int
 | none=>0
 | some x=>x.2.1
theorem Lv {c:CaseD} {f:Int→O R}:An .i64 c.av f=f c.hours:=by simp[CaseD.av,Ay]
theorem qH {c:CaseD} {f:LA→Nat→O R}:Az 1 (drop 1 c.av) f=f (Ax c.reserve.l) c.reserve.l.length:=by simp[CaseD.av,Bj,C0]
theorem I0 {c:CaseD} {f:LA→Nat→O R}:Az 3 (drop 2 c.av) f=f (c.buses.l.flatMap BusD.av) c.buses.l.length:=by simp[CaseD.av,Bj]
theorem Ge {c:CaseD} {f:LA→Nat→O R}:Az 12 (drop 3 c.av) f=f (c.lines.l.flatMap LineD.av) c.lines.l.length:=by simp[CaseD.av,Bj]
theorem Fs {c:CaseD} {f:LA→Nat→O R}:Az 22 (drop 4 c.av) f=f (c.units.l.flatMap UnitD.av) c.units.l.length:=by simp[CaseD.av,Bj]
theorem Pc {c:CaseD} {f:LA→Nat→O R}:Az 9 (drop 5 c.av) f=f (c.stores.l.flatMap StoreD.av) c.stores.l.length:=by simp[CaseD.av,Bj]
theorem AK {c:CaseD} {f:LA→Nat→O R}:Az 5 (drop 6 c.av) f=f (c.ties.l.flatMap TieD.av) c.ties.l.length:=by simp[CaseD.av,Bj]
theorem Qe {c:CaseD} {f:LA→Nat→O R}:Az 4 (drop 7 c.av) f=f (c.outs.l.flatMap OutD.av) c.outs.l.length:=by simp[CaseD.av,Bj]
def Cc (p:B8):LA:=Xr p 0 0
theorem Ad {N:Nat} {p:B8} {k i f e:Int} {ok:Bool} {K:LA→O R} (j:e≠0) :
  Aa N ok k i f e (Cc p) K=K (Cc (nd p ok (k,i,f) ⟨e,j⟩)):=by
 rw[Q5];unfold Jg G5
 rcases p with _ | ⟨⟨a,b,q⟩,m,d⟩
 ·cases ok<;>simp[Cc,Xr,Ay,nd,Cn,Cy]
 ·have:(m==0)=false:=by simpa using d
  simp[Cc,Xr,Ay,nd,this]
def WU (h:Int) (l:List Int) (lo hi:Int) (w:Int×Int×Int) (p:B8):B8:=nd (nd p ((l.length:Int)==h) w ⟨4,by decide⟩) (l.all (Fv lo hi)) w ⟨3,by decide⟩
def PP (h:Int) (l:List Int) (w:Int×Int×Int) (p:B8):B8:=nd (nd p (l.all (Fv 0 (wrap .i64 (h - 1)))) w ⟨3,by decide⟩) (JR l) w ⟨11,by decide⟩
theorem C4 {N:Nat} {c:CaseD} {p:B8} {k i f lo hi:Int} {l:List Int} {n:Nat} {t o o1:Bool} {K:LA→O R} (hn:n=l.length) (hs:Dr l.length N) :
  Cg N c.av o1 (Ax l) n t o lo hi k i f (Cc p) K=K (Cc (WU c.hours l lo hi (k,i,f) p)):=by
 rw[Nz];unfold Lb
 rw[Lv,Ad (by decide),E8 hn hs,Ad (by decide),hn];rfl
theorem Oi {N:Nat} {c:CaseD} {p:B8} {k i f:Int} {l:List Int} {n:Nat} {t o o1:Bool} {K:LA→O R} (hn:n=l.length) (hs:Dr l.length N) :
  Hd N c.av o1 (Ax l) n t o k i f (Cc p) K=K (Cc (PP c.hours l (k,i,f) p)):=by
 rw[Ra];unfold N1
 rw[Lv,E8 hn hs,Ad (by decide),Rp hn hs,Ad (by decide)];rfl
def JT (c:CaseD) (b:Int):Bool:=decide (0≤b)&&decide (b<(c.buses.l.length:Int))
theorem qI (n:Nat) (b:Int) (h:n<4611686018427387904):Fv 0 (wrap .i64 ((n:Int) - 1)) b=(decide (0≤b)&&decide (b<(n:Int))):=by
 rw[Xq _ (by omega),Fv]
 congr 1
 simp;omega
theorem Gf {N:Nat} {c:CaseD} {p:B8} {k i f b:Int} {o1:Bool} {K:LA→O R} (hN:8≤N) (d:c.buses.l.length<4611686018427387904) :
  Dt N c.av o1 b k i f (Cc p) K=K (Cc (nd p (JT c b) (k,i,f) ⟨12,by decide⟩)):=by
 rw[Ry];unfold Pa
 rw[I0,Cw hN,qI _ _ d,Ad (by decide)];rfl
def Lg (f:FracD):Bool:=Fv 1 1048576 f.den&&Fv (-1048576) 1048576 f.num
theorem Wc {N:Nat} {f:FracD} {o:Bool} {K:Bool→O R} (hN:8≤N):Ia N [.int .i64 f.num,.int .i64 f.den] o K=K (Lg f):=by
 rw[Ye];unfold Wz
 simp only[Aci,Acb,Ay,Cw hN]
 unfold Lg
 cases Fv 1 1048576 f.den<;>simp
def TQ (c:UInt8):Bool:=decide (97≤c.toNat)&&decide (c.toNat≤122)
def uJ (c:UInt8):Bool:=TQ c||(decide (48≤c.toNat)&&decide (c.toNat≤57))||decide (c.toNat=95)
def Rq (s:Lu):Bool:=decide (1≤s.length)&&(decide (s.length≤16)&&(!(s==[99,111,114,114,101,99,116,105,118,101])&&(TQ (s.getD 0 0)&&s.all uJ)))
theorem kj {s:Lu} {j:Nat} (h:j<s.length):List.getD s (Int.toNat (j:Int)) 0=s[j]:=by
 rw[Ab2,Ab9,Ab1 h];rfl
theorem JU {N:Nat} {s:Lu} {K:Bool→O R} (hs:s.length<4611686018427387904):∀ (m j fuel:Nat),j+m=s.length→m<fuel →
  J7 N K s fuel (j:Int)=K ((decide (j≠0)||(decide (s.length=0)||TQ (s.getD 0 0)))&&(s.drop j).all uJ)
 | 0,j,fuel+1,q,_=>by
  rw[J7];unfold Ta
  rw[G9 (by omega),cf,Bo (by omega)]
  by_cases h:j=0
  ·have:s.length=0:=by omega
   simp[this]
  ·simp[h]
 | m+1,j,fuel+1,q,C=>by
  rw[J7];unfold Ta V6
  have h:j<s.length:=by omega
  rw[G4 h,ct,Ab h,ct,Bf (by omega),JU hs m (j+1) fuel (by omega) (by omega),Bc h,Acl,kj h]
  have u:j=0→s.getD 0 0=s[j]:=fun e=>by
   have:=kj h;rw[←this,e];rfl
  unfold uJ TQ
  by_cases b:j=0
  ·rw[u b]
   have d:decide (s.length=0)=false:=decide_eq_false (by omega)
   have e:((j:Int)==0)=true:=by simp;omega
   simp only[ct,b,ne_eq,not_true_eq_false,decide_false,Ad6,d,Ab8,show decide (¬ (1=0))=true by decide,Adv,Aej]
   simp only[b] at *
   generalize s[0].toNat=v
   by_cases i:97≤v<;>by_cases k:v≤122<;>simp[i,k,show((97:Int)≤v)↔97≤v by omega,show((v:Int)≤122)↔v≤122 by omega]
  ·have e:((j:Int)==0)=false:=by simp;omega
   simp only[ct,e,b,ne_eq,not_false_eq_true,decide_true,Adv,Aej,show decide (¬ (j+1=0))=true by simp]
   generalize s[j].toNat=v
   generalize (s.drop (j+1)).all _=r
   by_cases i:97≤v<;>by_cases k:v≤122<;>by_cases y:48≤v<;>by_cases z:v≤57<;>by_cases A:v=95 <;>
    simp[i,k,y,z,show((97:Int)≤v)↔97≤v by omega,show((v:Int)≤122)↔v≤122 by omega,show((v:Int)<48)↔¬ 48≤v by omega,show((57:Int)<v)↔¬ v≤57 by omega,show((v:Int) != 95)=!decide (v=95) by (by_cases v=95<;>simp_all<;>omega),A]
theorem gg {N:Nat} {s:Lu} {K:Bool→O R} (hN:64≤N):FC N s K=K (Rq s):=by
 rw[PF];unfold G' V7 Z8
 unfold Rq
 by_cases b:1≤s.length
 ·by_cases d:s.length≤16
  ·have e:=JU (R:=R) (N:=N) (s:=s) (K:=K) (by omega) s.length 0 N (by omega) (by omega)
   simp only[Acb,Acz] at e
   rw[e]
   simp only[b,d,show(decide ((s.length:Int)<1))=false by simp;omega,show(decide ((s.length:Int)>16))=false by simp;omega,decide_true,cond_true,cond_false,beq_self_eq_true]
   have:s.length≠0:=by omega
   cases s==[99,111,114,114,101,99,116,105,118,101]<;>simp[this]
  ·simp[b,d,show((s.length:Int)<1)↔¬ 1≤s.length by omega,show((16:Int)<s.length)↔¬ s.length≤16 by omega]
 ·simp[b,show((s.length:Int)<1)↔¬ 1≤s.length by omega]
def K6 (names:List Lu) (k i:Int) (s:Lu) (p:B8):B8:=nd (nd p (Rq s) (k,i,0) ⟨9,by decide⟩) (names.all fun x=>!(x==s)) (k,i,0) ⟨10,by decide⟩
theorem Uu (a:BusD):a.av.length=3:=rfl
theorem C5 (a:LineD):a.av.length=12:=rfl
theorem F3 (a:UnitD):a.av.length=22:=rfl
theorem Gt (a:StoreD):a.av.length=9:=rfl
theorem Lw (a:TieD):a.av.length=5:=rfl
theorem Dj (a:OutD):a.av.length=4:=rfl
structure Small (c:CaseD) (N:Nat):Prop where
 n64:64≤N
 res:Dr c.reserve.l.length N
 bus:Dr c.buses.l.length N
 lin:Dr c.lines.l.length N
 uni:Dr c.units.l.length N
 sto:Dr c.stores.l.length N
 tie:Dr c.ties.l.length N
 out:Dr c.outs.l.length N
 dem:∀ b ∈ c.buses.l,Dr b.demand.l.length N
 law:∀ b ∈ c.lines.l,Dr b.away.l.length N
 seg:∀ b ∈ c.units.l,Dr b.segs.l.length N
 uaw:∀ b ∈ c.units.l,Dr b.away.l.length N
 tim:∀ b ∈ c.ties.l,Dr b.imp.l.length N
 tex:∀ b ∈ c.ties.l,Dr b.exp.l.length N
 tpr:∀ b ∈ c.ties.l,Dr b.price.l.length N
 oli:∀ b ∈ c.outs.l,Dr b.lines.l.length N
 omo:∀ b ∈ c.outs.l,Dr b.moves.l.length N
 omb:∀ b ∈ c.outs.l,b.moves.l.length<8796093022208
 top:c.buses.l.length≤1000000∧c.lines.l.length≤1000000∧c.units.l.length≤1000000∧c.stores.l.length≤1000000∧c.ties.l.length≤1000000∧c.outs.l.length≤1000000
def A9 {α:Type} (f:Nat→α→B8→B8):List α→Nat→B8→B8
 | [],_,p=>p
 | a::r,j,p=>A9 f r (j+1) (f j a p)
theorem A4 {α:Type} {f:Nat→α→B8→B8} {x:(Int×Int×Int)×{ e:Int // e≠0 }} (b:∀ j a,f j a (some x)=some x):∀ (l:List α) (j:Nat),A9 f l j (some x)=some x
 | [],_=>rfl
 | a::r,j=>by rw[A9,b];exact A4 b r (j+1)
abbrev e1:{ e:Int // e≠0 }:=⟨1,by decide⟩
abbrev e3:{ e:Int // e≠0 }:=⟨3,by decide⟩
abbrev e4:{ e:Int // e≠0 }:=⟨4,by decide⟩
abbrev e8:{ e:Int // e≠0 }:=⟨8,by decide⟩
abbrev s9:{ e:Int // e≠0 }:=⟨11,by decide⟩
abbrev oZ:{ e:Int // e≠0 }:=⟨12,by decide⟩
abbrev Abj:{ e:Int // e≠0 }:=⟨13,by decide⟩
abbrev zM:{ e:Int // e≠0 }:=⟨16,by decide⟩
def TR (c:CaseD) (p:B8):B8 :=
 let p:=nd p (Fv 1 24 c.hours) (0,0,0) e3
 let p:=WU c.hours c.reserve.l 0 1048576 (0,0,1) p
 let p:=nd p (Fv 1 32 (c.buses.l.length:Int)) (0,0,2) e8
 let p:=nd p (decide ((c.lines.l.length:Int)≤64)) (0,0,3) e8
 let p:=nd p (decide ((c.units.l.length:Int)≤16)) (0,0,4) e8
 let p:=nd p (decide ((c.stores.l.length:Int)≤8)) (0,0,5) e8
 let p:=nd p (decide ((c.ties.l.length:Int)≤8)) (0,0,6) e8
 nd p (decide ((c.outs.l.length:Int)≤64)) (0,0,7) e8
def n7 (c:CaseD) (j:Nat) (b:BusD) (p:B8):B8 :=
 let p:=K6 ((c.buses.l.map (·.name)).take j) 1 j b.name p
 let p:=WU c.hours b.demand.l 0 1048576 (1,j,1) p
 nd p (Fv 0 1048576 b.shed) (1,j,2) e3
def FI (c:CaseD) (j:Nat) (x:LineD) (p:B8):B8 :=
 let p:=K6 ((c.lines.l.map (·.name)).take j) 2 j x.name p
 let p:=nd p (JT c x.fr) (2,j,1) oZ
 let p:=nd p (JT c x.tl) (2,j,2) oZ
 let p:=nd p (x.tl != x.fr) (2,j,2) e1
 let p:=nd p (Lg x.re&&decide (x.re.num>0)) (2,j,3) e3
 let p:=nd p (Lg x.smin&&decide (x.smin.num≤0)) (2,j,4) e3
 let p:=nd p (Lg x.smax&&decide (x.smax.num≥0)) (2,j,5) e3
 let p:=nd p (Fv 0 1048576 x.limit) (2,j,6) e3
 let p:=nd p (Fv x.limit 1048576 x.emer) (2,j,7) e3
 PP c.hours x.away.l (2,j,8) p
def W3 (c:CaseD) (j:Nat) (x:StoreD) (p:B8):B8 :=
 let p:=K6 ((c.stores.l.map (·.name)).take j) 4 j x.name p
 let p:=nd p (JT c x.bus) (4,j,1) oZ
 let p:=nd p (Fv 0 1048576 x.capacity) (4,j,2) e3
 let p:=nd p (Fv 0 x.capacity x.initial) (4,j,3) e3
 let p:=nd p (Fv 0 x.capacity x.final) (4,j,4) e3
 let p:=nd p (Fv 0 1048576 x.charge) (4,j,5) e3
 let p:=nd p (Fv 0 1048576 x.discharge) (4,j,6) e3
 nd p (Lg x.eff&&(decide (x.eff.num>0)&&decide (x.eff.num≤x.eff.den))) (4,j,7) e3
def n8 (c:CaseD) (j:Nat) (x:TieD) (p:B8):B8 :=
 let p:=K6 ((c.ties.l.map (·.name)).take j) 5 j x.name p
 let p:=nd p (JT c x.bus) (5,j,1) oZ
 let p:=WU c.hours x.imp.l 0 1048576 (5,j,2) p
 let p:=WU c.hours x.exp.l 0 1048576 (5,j,3) p
 WU c.hours x.price.l (-1048576) 1048576 (5,j,4) p
theorem Lx (a:SegD):a.av.length=2:=rfl
theorem Dn (a:MoveD):a.av.length=3:=rfl
def rF (s:SegD):Bool:=Fv 1 1048576 s.width&&Fv (-1048576) 1048576 s.price
def gh (a:Int):List SegD→Int
 | []=>a
 | s::r=>gh (wrap .i64 (a+s.width)) r
def TS:List SegD→Bool
 | a::b::r=>decide (b.price≥a.price)&&TS (b::r)
 | _=>true
theorem eX (a b:SegD) (r:List SegD):TS (a::b::r)=(decide (b.price≥a.price)&&TS (b::r)):=by rw[TS]
theorem n9 (a:SegD):TS [a]=true:=by rw[TS];intros;simp_all
theorem n_:TS []=true:=by rw[TS];intros;simp_all
def na (u:UnitD) (j:Nat) (p:B8):B8 :=
 let p:=nd p (decide ((u.segs.l.length:Int)≤8)) (3,j,4) e8
 let p:=nd p (u.segs.l.all rF) (3,j,4) e3
 let p:=nd p (TS u.segs.l) (3,j,4) s9
 nd p (gh 0 u.segs.l==wrap .i64 (u.max - u.min)) (3,j,4) e4
theorem W4 {u:UnitD} {f:LA→Nat→O R}:Az 2 (drop 4 u.av) f=f (u.segs.l.flatMap SegD.av) u.segs.l.length:=by simp[UnitD.av,Bj]
theorem rG {u:UnitD} {f:Int→O R}:An .i64 (drop 3 u.av) f=f u.max:=by simp[UnitD.av,Ay]
theorem rH {u:UnitD} {f:Int→O R}:An .i64 (drop 2 u.av) f=f u.min:=by simp[UnitD.av,Ay]
theorem HB {l:List SegD} {j:Nat} (h:j<l.length) {f:Int→O R}:An .i64 (drop 1 (drop ((Int.toNat (j:Int))*2) (l.flatMap SegD.av))) f=f l[j].price:=by
 rw[Ab2,Ap Lx _ _ h];simp[SegD.av,Ay]
theorem s_ {l:List SegD} {j:Nat} (h:j<l.length) {f:Int→O R}:An .i64 (drop ((Int.toNat (j:Int))*2) (l.flatMap SegD.av)) f=f l[j].width:=by
 rw[Ab2,Ap Lx _ _ h];simp[SegD.av,Ay]
def JV (c:CaseD) (j:Nat) (u:UnitD) (p:B8):B8 :=
 let p:=K6 ((c.units.l.map (·.name)).take j) 3 j u.name p
 let p:=nd p (JT c u.bus) (3,j,1) oZ
 let p:=nd p (Fv 0 1048576 u.min) (3,j,2) e3
 let p:=nd p (Fv u.min 1048576 u.max) (3,j,3) e3
 let p:=na u j p
 let p:=nd p (Fv 0 1048576 u.noLoad) (3,j,5) e3
 let p:=nd p (Fv 0 1048576 u.rampUp) (3,j,6) e3
 let p:=nd p (Fv 0 1048576 u.rampDown) (3,j,7) e3
 let p:=nd p (Fv u.min u.max u.startRamp) (3,j,8) e3
 let p:=nd p (Fv u.min u.max u.stopRamp) (3,j,9) e3
 let p:=nd p (Fv 0 24 u.upTime) (3,j,10) e3
 let p:=nd p (Fv 0 24 u.downTime) (3,j,11) e3
 let p:=nd p (Fv 0 24 u.startTime) (3,j,12) e3
 let p:=nd p (Fv 0 1048576 u.hotCost) (3,j,13) e3
 let p:=nd p (Fv 0 1048576 u.coldCost) (3,j,14) e3
 let p:=nd p (Fv 0 24 u.hotHours) (3,j,15) e3
 let p:=nd p (Fv 0 1048576 u.reserve) (3,j,16) e3
 let p:=nd p (Fv 0 1048576 u.reservePrice) (3,j,17) e3
 let p:=PP c.hours u.away.l (3,j,18) p
 let p:=nd p (Fv 0 2 u.state) (3,j,19) oZ
 let p:=nd p (u.state != 1||u.startTime != 0) (3,j,19) zM
 let p:=nd p (Fv 1 48 u.hours) (3,j,20) e3
 let p:=nd p (u.state != 1||decide (u.hours≤u.startTime)) (3,j,20) e3
 cond (u.state==2) (nd p (Fv u.min u.max u.output) (3,j,21) e3) (nd p (Fv 0 0 u.output) (3,j,21) e3)
def qJ (c:CaseD) (m:MoveD):Bool:=decide (0≤m.unit)&&decide (m.unit<(c.units.l.length:Int))
def sa (m:MoveD):Bool:=Fv 0 1048576 m.up&&Fv 0 1048576 m.down
def TT (c:CaseD) (o:OutD) (j:Nat) (p:B8):B8 :=
 let p:=nd p ((o.moves.l.length:Int)==0||o.corr) (6,j,3) zM
 let p:=nd p (decide ((o.moves.l.length:Int)≤16)) (6,j,3) e8
 let p:=nd p (o.moves.l.all (qJ c)) (6,j,3) oZ
 let p:=nd p (JR (o.moves.l.map (·.unit))) (6,j,3) s9
 nd p (o.moves.l.all sa) (6,j,3) e3
theorem aE {u:OutD} {f:LA→Nat→O R}:Az 3 (drop 3 u.av) f=f (u.moves.l.flatMap MoveD.av) u.moves.l.length:=by simp[OutD.av,Bj]
theorem uK {u:OutD} {f:Bool→O R}:L_ (drop 2 u.av) f=f u.corr:=by simp[OutD.av,tv]
def TU (c:CaseD) (j:Nat) (x:OutD) (p:B8):B8 :=
 let p:=K6 ((c.outs.l.map (·.name)).take j) 6 j x.name p
 let p:=nd p ((x.lines.l.length:Int)==1||(x.lines.l.length:Int)==2) (6,j,1) e4
 let p:=nd p (x.lines.l.all fun n=>decide (0≤n)&&decide (n<(c.lines.l.length:Int))) (6,j,1) oZ
 let p:=nd p (JR x.lines.l) (6,j,1) s9
 TT c x j p
theorem I7 {c:CaseD} {j:Nat} {x:OutD} {y:(Int×Int×Int)×{ e:Int // e≠0 }}:TU c j x (some y)=some y:=rfl
theorem PQ {u:OutD} {f:LA→Nat→O R}:Az 1 (drop 1 u.av) f=f (Ax u.lines.l) u.lines.l.length:=by simp[OutD.av,Bj,C0]
def E9 (l:List Lu):LA:=l.map fun s=>.str s
theorem M6 (l:List Lu):(E9 l).length=l.length:=by simp[E9]
theorem eY {l:List Lu} {i:Nat} (h:i<l.length) {f:Lu→O R}:IP (drop i (E9 l)) f=f l[i]:=by
 rw[E9,Ack (by simpa using h)];simp[C2]
theorem Bz {c:CaseD}:take 8 c.av=c.av:=rfl
theorem D3 {c:CaseD}:ble 8 (List.length c.av)=true:=rfl
theorem Ym {N:Nat} {c:CaseD} {o:Bool} {K:Nat→LA→O R} (d:c.buses.l.length≤1000000):∀ (m j fuel:Nat),j+m=c.buses.l.length→m<fuel →
  H2 N K o c.av fuel j (j:Int) (E9 ((c.buses.l.take j).map (·.name)))=K c.buses.l.length (E9 (c.buses.l.map (·.name)))
 | 0,j,fuel+1,e,_=>by
  rw[H2];unfold P6
  have b:j=c.buses.l.length:=by omega
  rw[I0,G9 (by omega),cf,Ab0 (by omega),b]
 | m+1,j,fuel+1,e,s=>by
  rw[H2];unfold P6
  have h:j<c.buses.l.length:=by omega
  have i:(ble (j+1) 140737488355328&&ble ((j+1)*16) 140737488355328)=true:=by rw[Cn,Cn];simp;omega
  have k:take (j*1) (E9 ((c.buses.l.take j).map (·.name)))++[.str c.buses.l[j].name]=E9 ((c.buses.l.take (j+1)).map (·.name)):=by
   rw[Ab0 (by simp[M6];omega),Ace h,Ade];simp[E9]
  have q:∀ f:Lu→O R,IP (drop (j*3) (List.flatMap BusD.av c.buses.l)) f=f c.buses.l[j].name:=fun f=>by rw[Ap Uu _ _ h];simp[BusD.av,C2]
  rw[I0,G4 h,ct,I0,Ab h,ct,Ab2,q,i,ct,k,Bf (by omega),Ym d m (j+1) fuel (by omega) (by omega)]
theorem nc {N:Nat} {c:CaseD} {o:Bool} {K:Nat→LA→O R} (hs:Small c N):F2 N c.av o 1 K=K (c.buses.l.map (·.name)).length (E9 (c.buses.l.map (·.name))):=by
 rw[Gs];unfold H8
 have:=Ym (R:=R) (N:=N) (c:=c) (o:=o) (K:=K) hs.top.1 c.buses.l.length 0 N (by omega) hs.bus.1
 simpa[E9] using this
theorem Yn {N:Nat} {c:CaseD} {o:Bool} {K:Nat→LA→O R} (d:c.lines.l.length≤1000000):∀ (m j fuel:Nat),j+m=c.lines.l.length→m<fuel →
  H3 N K o c.av fuel j (j:Int) (E9 ((c.lines.l.take j).map (·.name)))=K c.lines.l.length (E9 (c.lines.l.map (·.name)))
 | 0,j,fuel+1,e,_=>by
  rw[H3];unfold P7
  have b:j=c.lines.l.length:=by omega
  rw[Ge,G9 (by omega),cf,Ab0 (by omega),b]
 | m+1,j,fuel+1,e,s=>by
  rw[H3];unfold P7
  have h:j<c.lines.l.length:=by omega
  have i:(ble (j+1) 140737488355328&&ble ((j+1)*16) 140737488355328)=true:=by rw[Cn,Cn];simp;omega
  have k:take (j*1) (E9 ((c.lines.l.take j).map (·.name)))++[.str c.lines.l[j].name]=E9 ((c.lines.l.take (j+1)).map (·.name)):=by
   rw[Ab0 (by simp[M6];omega),Ace h,Ade];simp[E9]
  have q:∀ f:Lu→O R,IP (drop (j*12) (List.flatMap LineD.av c.lines.l)) f=f c.lines.l[j].name:=fun f=>by rw[Ap C5 _ _ h];simp[LineD.av,C2]
  rw[Ge,G4 h,ct,Ge,Ab h,ct,Ab2,q,i,ct,k,Bf (by omega),Yn d m (j+1) fuel (by omega) (by omega)]
theorem WV {N:Nat} {c:CaseD} {o:Bool} {K:Nat→LA→O R} (hs:Small c N):F2 N c.av o 2 K=K (c.lines.l.map (·.name)).length (E9 (c.lines.l.map (·.name))):=by
 rw[Gs];unfold H8
 have:=Yn (R:=R) (N:=N) (c:=c) (o:=o) (K:=K) hs.top.2.1 c.lines.l.length 0 N (by omega) hs.lin.1
 simpa[E9] using this
theorem Yo {N:Nat} {c:CaseD} {o:Bool} {K:Nat→LA→O R} (d:c.units.l.length≤1000000):∀ (m j fuel:Nat),j+m=c.units.l.length→m<fuel →
  H4 N K o c.av fuel j (j:Int) (E9 ((c.units.l.take j).map (·.name)))=K c.units.l.length (E9 (c.units.l.map (·.name)))
 | 0,j,fuel+1,e,_=>by
  rw[H4];unfold P8
  have b:j=c.units.l.length:=by omega
  rw[Fs,G9 (by omega),cf,Ab0 (by omega),b]
 | m+1,j,fuel+1,e,s=>by
  rw[H4];unfold P8
  have h:j<c.units.l.length:=by omega
  have i:(ble (j+1) 140737488355328&&ble ((j+1)*16) 140737488355328)=true:=by rw[Cn,Cn];simp;omega
  have k:take (j*1) (E9 ((c.units.l.take j).map (·.name)))++[.str c.units.l[j].name]=E9 ((c.units.l.take (j+1)).map (·.name)):=by
   rw[Ab0 (by simp[M6];omega),Ace h,Ade];simp[E9]
  have q:∀ f:Lu→O R,IP (drop (j*22) (List.flatMap UnitD.av c.units.l)) f=f c.units.l[j].name:=fun f=>by rw[Ap F3 _ _ h];simp[UnitD.av,C2]
  rw[Fs,G4 h,ct,Fs,Ab h,ct,Ab2,q,i,ct,k,Bf (by omega),Yo d m (j+1) fuel (by omega) (by omega)]
theorem WW {N:Nat} {c:CaseD} {o:Bool} {K:Nat→LA→O R} (hs:Small c N):F2 N c.av o 3 K=K (c.units.l.map (·.name)).length (E9 (c.units.l.map (·.name))):=by
 rw[Gs];unfold H8
 have:=Yo (R:=R) (N:=N) (c:=c) (o:=o) (K:=K) hs.top.2.2.1 c.units.l.length 0 N (by omega) hs.uni.1
 simpa[E9] using this
theorem Wd {N:Nat} {c:CaseD} {o:Bool} {K:Nat→LA→O R} (d:c.stores.l.length≤1000000):∀ (m j fuel:Nat),j+m=c.stores.l.length→m<fuel →
  H5 N K o c.av fuel j (j:Int) (E9 ((c.stores.l.take j).map (·.name)))=K c.stores.l.length (E9 (c.stores.l.map (·.name)))
 | 0,j,fuel+1,e,_=>by
  rw[H5];unfold P9
  have b:j=c.stores.l.length:=by omega
  rw[Pc,G9 (by omega),cf,Ab0 (by omega),b]
 | m+1,j,fuel+1,e,s=>by
  rw[H5];unfold P9
  have h:j<c.stores.l.length:=by omega
  have i:(ble (j+1) 140737488355328&&ble ((j+1)*16) 140737488355328)=true:=by rw[Cn,Cn];simp;omega
  have k:take (j*1) (E9 ((c.stores.l.take j).map (·.name)))++[.str c.stores.l[j].name]=E9 ((c.stores.l.take (j+1)).map (·.name)):=by
   rw[Ab0 (by simp[M6];omega),Ace h,Ade];simp[E9]
  have q:∀ f:Lu→O R,IP (drop (j*9) (List.flatMap StoreD.av c.stores.l)) f=f c.stores.l[j].name:=fun f=>by rw[Ap Gt _ _ h];simp[StoreD.av,C2]
  rw[Pc,G4 h,ct,Pc,Ab h,ct,Ab2,q,i,ct,k,Bf (by omega),Wd d m (j+1) fuel (by omega) (by omega)]
theorem PR {N:Nat} {c:CaseD} {o:Bool} {K:Nat→LA→O R} (hs:Small c N):F2 N c.av o 4 K=K (c.stores.l.map (·.name)).length (E9 (c.stores.l.map (·.name))):=by
 rw[Gs];unfold H8
 have:=Wd (R:=R) (N:=N) (c:=c) (o:=o) (K:=K) hs.top.2.2.2.1 c.stores.l.length 0 N (by omega) hs.sto.1
 simpa[E9] using this
theorem CC {N:Nat} {c:CaseD} {o:Bool} {K:Nat→LA→O R} (d:c.ties.l.length≤1000000):∀ (m j fuel:Nat),j+m=c.ties.l.length→m<fuel →
  H6 N K o c.av fuel j (j:Int) (E9 ((c.ties.l.take j).map (·.name)))=K c.ties.l.length (E9 (c.ties.l.map (·.name)))
 | 0,j,fuel+1,e,_=>by
  rw[H6];unfold Qa
  have b:j=c.ties.l.length:=by omega
  rw[AK,G9 (by omega),cf,Ab0 (by omega),b]
 | m+1,j,fuel+1,e,s=>by
  rw[H6];unfold Qa
  have h:j<c.ties.l.length:=by omega
  have i:(ble (j+1) 140737488355328&&ble ((j+1)*16) 140737488355328)=true:=by rw[Cn,Cn];simp;omega
  have k:take (j*1) (E9 ((c.ties.l.take j).map (·.name)))++[.str c.ties.l[j].name]=E9 ((c.ties.l.take (j+1)).map (·.name)):=by
   rw[Ab0 (by simp[M6];omega),Ace h,Ade];simp[E9]
  have q:∀ f:Lu→O R,IP (drop (j*5) (List.flatMap TieD.av c.ties.l)) f=f c.ties.l[j].name:=fun f=>by rw[Ap Lw _ _ h];simp[TieD.av,C2]
  rw[AK,G4 h,ct,AK,Ab h,ct,Ab2,q,i,ct,k,Bf (by omega),CC d m (j+1) fuel (by omega) (by omega)]
theorem e9 {N:Nat} {c:CaseD} {o:Bool} {K:Nat→LA→O R} (hs:Small c N):F2 N c.av o 5 K=K (c.ties.l.map (·.name)).length (E9 (c.ties.l.map (·.name))):=by
 rw[Gs];unfold H8
 have:=CC (R:=R) (N:=N) (c:=c) (o:=o) (K:=K) hs.top.2.2.2.2.1 c.ties.l.length 0 N (by omega) hs.tie.1
 simpa[E9] using this
theorem CD {N:Nat} {c:CaseD} {o:Bool} {K:Nat→LA→O R} (d:c.outs.l.length≤1000000):∀ (m j fuel:Nat),j+m=c.outs.l.length→m<fuel →
  H7 N K o c.av fuel j (j:Int) (E9 ((c.outs.l.take j).map (·.name)))=K c.outs.l.length (E9 (c.outs.l.map (·.name)))
 | 0,j,fuel+1,e,_=>by
  rw[H7];unfold Qb
  have b:j=c.outs.l.length:=by omega
  rw[Qe,G9 (by omega),cf,Ab0 (by omega),b]
 | m+1,j,fuel+1,e,s=>by
  rw[H7];unfold Qb
  have h:j<c.outs.l.length:=by omega
  have i:(ble (j+1) 140737488355328&&ble ((j+1)*16) 140737488355328)=true:=by rw[Cn,Cn];simp;omega
  have k:take (j*1) (E9 ((c.outs.l.take j).map (·.name)))++[.str c.outs.l[j].name]=E9 ((c.outs.l.take (j+1)).map (·.name)):=by
   rw[Ab0 (by simp[M6];omega),Ace h,Ade];simp[E9]
  have q:∀ f:Lu→O R,IP (drop (j*4) (List.flatMap OutD.av c.outs.l)) f=f c.outs.l[j].name:=fun f=>by rw[Ap Dj _ _ h];simp[OutD.av,C2]
  rw[Qe,G4 h,ct,Qe,Ab h,ct,Ab2,q,i,ct,k,Bf (by omega),CD d m (j+1) fuel (by omega) (by omega)]
theorem e_ {N:Nat} {c:CaseD} {o:Bool} {K:Nat→LA→O R} (hs:Small c N):F2 N c.av o 6 K=K (c.outs.l.map (·.name)).length (E9 (c.outs.l.map (·.name))):=by
 rw[Gs];unfold H8
 have:=CD (R:=R) (N:=N) (c:=c) (o:=o) (K:=K) hs.top.2.2.2.2.2 c.outs.l.length 0 N (by omega) hs.out.1
 simpa[E9] using this
theorem Oj {N:Nat} {L:List Lu} {k:Int} {n:Nat} {K:LA→O R} (hn:n<L.length) (hs:n<4611686018427387904):∀ (m j fuel:Nat) (p:B8),j+m=n→m<fuel →
  Cl N K k (n:Int) L.length (E9 L) fuel (j:Int) (Cc p)=K (Cc (nd p (((L.take n).drop j).all fun x=>!(x==L[n])) (k,n,0) ⟨10,by decide⟩))
 | 0,j,fuel+1,p,b,_=>by
  rw[Cl];unfold Gd
  rw[G9 (by omega),cf,Bo (l:=L.take n) (by simp;omega),Adh,D5]
 | m+1,j,fuel+1,p,b,i=>by
  rw[Cl];unfold Gd
  have h:j<L.length:=by omega
  have d:j<(L.take n).length:=by simp;omega
  rw[G4 (by omega),ct,Ab h,ct,Ab2,Ab8,Acf,eY h,Ab hn,ct,Ab2,Ab8,Acf,eY hn,Ad (by decide),Bf (by omega),Oj hn hs m (j+1) fuel _ (by omega) (by omega),Bc d,Acl,K4]
  have e:(L.take n)[j]=L[j]:=by simp
  rw[e]
theorem Cs {N:Nat} {c:CaseD} {L:List Lu} {o:Bool} {p:B8} {k:Int} {n:Nat} {K:LA→O R} (hN:64≤N) (hL:∀ K:Nat→LA→O R,F2 N c.av o k K=K L.length (E9 L)) (hn:n<L.length) (hs:Dr n N) :
  B6 N c.av o k (n:Int) (Cc p) K=K (Cc (K6 (L.take n) k n L[n] p)):=by
 rw[Q8];unfold Jh
 rw[Bz,D3,ct,hL,Ab hn,ct,Ab2,Ab8,Acf,eY hn,gg hN,Ad (by decide)]
 have:=Oj (R:=R) (N:=N) (L:=L) (k:=k) (n:=n) (K:=K) hn hs.2 n 0 N (nd p (Rq L[n]) (k,n,0) ⟨9,by decide⟩) (by omega) hs.1
 simpa[K6] using this
theorem AL {N fuel:Nat} {c:CaseD} {o:Bool} {p:B8} {K:LA→O R} (hs:Small c N):A7 N K o c.av (fuel+6) 2 (Cc p)=K (Cc
  (nd (nd (nd (nd (nd p (decide ((c.lines.l.length:Int)≤64)) (0,0,3) e8) (decide ((c.units.l.length:Int)≤16)) (0,0,4) e8) (decide ((c.stores.l.length:Int)≤8)) (0,0,5) e8) (decide ((c.ties.l.length:Int)≤8)) (0,0,6) e8) (decide ((c.outs.l.length:Int)≤64)) (0,0,7) e8)):=by
 have most:∀ (k:Nat) (n:Int) (K:Int→O R),k<7→([0,32,64,16,8,8,64]:List Int)[k]?=some n→N0 N (k:Int) K=K n:=by
  intro k n K b d
  rw[PE];unfold TJ
  rw[Ab b,ct]
  have e:[(.int .i64 (0:Int)),(.int .i64 (32:Int)),(.int .i64 (64:Int)),(.int .i64 (16:Int)),(.int .i64 (8:Int)),(.int .i64 (8:Int)),(.int .i64 (64:Int))]=Ax [0,32,64,16,8,8,64]:=rfl
  rw[e,Ab2,Ab8,Acf,cA (by simpa using b)]
  rw[Ab1 (by simpa using b)] at d
  simp only[Ac0] at d
  rw[d]
 have m2:∀ K:Int→O R,N0 N 2 K=K 64:=fun K=>most 2 64 K (by omega) rfl
 have m3:∀ K:Int→O R,N0 N 3 K=K 16:=fun K=>most 3 16 K (by omega) rfl
 have m4:∀ K:Int→O R,N0 N 4 K=K 8:=fun K=>most 4 8 K (by omega) rfl
 have m5:∀ K:Int→O R,N0 N 5 K=K 8:=fun K=>most 5 8 K (by omega) rfl
 have m6:∀ K:Int→O R,N0 N 6 K=K 64:=fun K=>most 6 64 K (by omega) rfl
 have i:wrap .i64 (2+1)=3:=rfl
 have w3:wrap .i64 (3+1)=4:=rfl
 have j:wrap .i64 (4+1)=5:=rfl
 have m:wrap .i64 (5+1)=6:=rfl
 have q:wrap .i64 (6+1)=7:=rfl
 rw[A7];unfold Bq
 rw[show decide ((2:Int)≤6)=true from rfl,ct,D3,ct,Bz,WV hs,m2,Ad (by decide),i]
 rw[A7];unfold Bq
 rw[show decide ((3:Int)≤6)=true from rfl,ct,D3,ct,Bz,WW hs,m3,Ad (by decide),w3]
 rw[A7];unfold Bq
 rw[show decide ((4:Int)≤6)=true from rfl,ct,D3,ct,Bz,PR hs,m4,Ad (by decide),j]
 rw[A7];unfold Bq
 rw[show decide ((5:Int)≤6)=true from rfl,ct,D3,ct,Bz,e9 hs,m5,Ad (by decide),m]
 rw[A7];unfold Bq
 rw[show decide ((6:Int)≤6)=true from rfl,ct,D3,ct,Bz,e_ hs,m6,Ad (by decide),q]
 rw[A7];unfold Bq
 rw[show decide ((7:Int)≤6)=false from rfl,cf]
 simp only[Adl]
theorem AM {N:Nat} {c:CaseD} {o:Bool} {p:B8} {K:LA→O R} (hs:Small c N):Gc N c.av o (Cc p) K=K (Cc (TR c p)):=by
 have hN:=hs.n64
 rw[Of];unfold H9
 have:=fun p=>AL (fuel:=N - 6) (o:=o) (p:=p) (K:=K) hs
 rw[show N - 6+6=N by omega] at this
 simp only[Lv,Cw (show 8≤N by omega),Ad (show(3:Int)≠0 by decide),Ad (show(8:Int)≠0 by decide),D3,ct,Bz,qH,I0,C4 rfl hs.res,this]
 rfl
theorem W5 {p:B8} {f:Int→O R}:An .i64 (drop 3 (Cc p)) f=f (A8 p):=by
 rcases p with _ | ⟨⟨a,b,d⟩,e,i⟩<;>simp[Cc,Xr,Ay,A8]
theorem Ja {N:Nat} {i:Int} {u:UnitD} {o:Bool} {p:B8} {K:LA→O R} (hs:u.segs.l.length<4611686018427387904):∀ (m j fuel:Nat) (a:Int),j+m=u.segs.l.length→m<fuel →
  Cb N K i (Cc p) o u.av fuel a (j:Int)=K (Cc (nd p (gh a (u.segs.l.drop j)==wrap .i64 (u.max - u.min)) (3,i,4) e4))
 | 0,j,fuel+1,a,d,_=>by
  rw[Cb];unfold D8
  simp only[W4,rG,rH,W5,Ad (show(4:Int)≠0 by decide)]
  rw[G9 (by omega),Bo (l:=u.segs.l) (by omega),gh,D5]
  rcases p with _ | ⟨x,e,b⟩
  ·simp[A8]
  ·have:(e != 0)=true:=by simpa using b
   simp[A8,this,nd]
 | m+1,j,fuel+1,a,d,s=>by
  rw[Cb];unfold D8
  have h:j<u.segs.l.length:=by omega
  simp only[W4,rG,rH,W5,Ad (show(4:Int)≠0 by decide),s_ h,Ab h]
  rw[G4 h,Bf (by omega),Ja hs m (j+1) fuel _ (by omega) (by omega),Bc h,gh,D5]
  rcases p with _ | ⟨x,e,b⟩
  ·simp[A8]
  ·have k:(e != 0)=true:=by simpa using b
   have q:(e==0)=false:=by simpa using b
   simp[A8,k,q,nd]
theorem Ok {N:Nat} {i:Int} {u:UnitD} {o:Bool} {K:LA→O R} (hs:Dr u.segs.l.length N):∀ (m j fuel:Nat) (p:B8),j+1+m=u.segs.l.length→m<fuel →
  Bs N K i o u.av fuel ((j+1:Nat):Int) (Cc p)=K (Cc (nd (nd p (TS (u.segs.l.drop j)) (3,i,4) s9) (gh 0 u.segs.l==wrap .i64 (u.max - u.min)) (3,i,4) e4))
 | 0,j,fuel+1,p,b,_=>by
  rw[Bs];unfold Cv
  rw[W4,G9 (by omega),cf,Bc (l:=u.segs.l) (j:=j) (by omega),Bo (l:=u.segs.l) (j:=j+1) (by omega),n9,D5]
  have:=Ja (R:=R) (N:=N) (i:=i) (u:=u) (o:=o) (p:=p) (K:=K) hs.2 u.segs.l.length 0 N 0 (by omega) hs.1
  simpa using this
 | m+1,j,fuel+1,p,b,e=>by
  rw[Bs];unfold Cv
  have h:j+1<u.segs.l.length:=by omega
  have h':j<u.segs.l.length:=by omega
  have d:=hs.2
  simp only[W4]
  rw[G4 h,ct,Ab h,ct,HB h,ib (by omega),Ab h',ct,HB h',Bf (by omega),Ad (by decide),Ok hs m (j+1) fuel _ (by omega) (by omega),Bc h',Bc h,eX,K4]
theorem Ol {N:Nat} {i:Int} {u:UnitD} {o:Bool} {K:LA→O R} (hN:8≤N) (hs:Dr u.segs.l.length N):∀ (m j fuel:Nat) (p:B8),j+m=u.segs.l.length→m<fuel →
  Bt N K i (u.segs.l.flatMap SegD.av) u.segs.l.length o u.av fuel (u.segs.l.length:Int) (j:Int) (Cc p) =
   K (Cc (nd (nd (nd p ((u.segs.l.drop j).all rF) (3,i,4) e3) (TS u.segs.l) (3,i,4) s9) (gh 0 u.segs.l==wrap .i64 (u.max - u.min)) (3,i,4) e4))
 | 0,j,fuel+1,p,e,_=>by
  rw[Bt];unfold D9
  rw[G9 (by omega),cf,Bo (l:=u.segs.l) (by omega),Adh,D5]
  rcases d:u.segs.l with _ | ⟨b,r⟩
  ·rw[n_,D5]
   have l2:=Ja (R:=R) (N:=N) (i:=i) (u:=u) (o:=o) (p:=p) (K:=K) hs.2 u.segs.l.length 0 N 0 (by omega) hs.1
   rcases N with _ | N
   ·omega
   ·rw[Bs];unfold Cv
    rw[W4,d]
    simp only[Ac5,Acz]
    rw[show decide ((1:Int)<0)=false by decide,cf]
    rw[d] at l2
    simpa using l2
  ·have:=Ok (R:=R) (N:=N) (i:=i) (u:=u) (o:=o) (K:=K) hs r.length 0 N p (by rw[d];simp;omega) (by have:=hs.1;rw[d] at this;simp at this;omega)
   rw[d] at this
   simpa using this
 | m+1,j,fuel+1,p,e,v=>by
  rw[Bt];unfold D9
  have h:j<u.segs.l.length:=by omega
  have k:=hs.2
  rw[G4 h,ct,Ab h,ct,Ab2,Ap Lx _ _ h,Bc h,Acl,Bf (by omega)]
  have q:ble 2 (List.length (u.segs.l[j].av++List.flatMap SegD.av (drop (j+1) u.segs.l)))=true:=by rw[Cn,Ab4,Lx];simp
  have s:take 2 (u.segs.l[j].av++List.flatMap SegD.av (drop (j+1) u.segs.l))=u.segs.l[j].av:=Acj (Lx _)
  rw[q,ct,s,Lx]
  simp only[SegD.av,setCells,Cy,Adf,Acp,Aek,Aci,Acb,Ac1,Acd,Ac5,Ay,Cn,U4,Aw,Nat.reduceAdd,decide_true,Acy,Adi,Acv,cond_true,Ab8,Ab3,Cw hN,Ad (show(3:Int)≠0 by decide),Ol hN hs m (j+1) fuel _ (show j+1+m=_ by omega) (show m<fuel by omega)]
  unfold rF
  rw[K4,K4]
  cases Fv 1 1048576 u.segs.l[j].width<;>rfl
theorem U6 {N:Nat} {p:B8} {j:Nat} {u:UnitD} {o:Bool} {K:LA→O R} (hN:8≤N) (hs:Dr u.segs.l.length N) :
  C3 N u.av o (j:Int) (Cc p) K=K (Cc (na u j p)):=by
 rw[Lr];unfold Fx
 simp only[W4,Ad (show(8:Int)≠0 by decide)]
 have:=Ol (R:=R) (N:=N) (i:=j) (u:=u) (o:=o) (K:=K) hN hs u.segs.l.length 0 N (nd p (decide ((u.segs.l.length:Int)≤8)) (3,j,4) e8) (by omega) hs.1
 simpa[na] using this
theorem Re {N:Nat} {i:Int} {l:List MoveD} {o:Bool} {K:LA→O R} (hN:8≤N) (hs:l.length<4611686018427387904):∀ (m j fuel:Nat) (p:B8),j+m=l.length→m<fuel →
  Cq N K i (l.flatMap MoveD.av) l.length o fuel (l.length:Int) (j:Int) (Cc p)=K (Cc (nd p ((l.drop j).all sa) (6,i,3) e3))
 | 0,j,fuel+1,p,b,_=>by
  rw[Cq];unfold Ey
  rw[G9 (by omega),cf,Bo (by omega),Adh,D5]
 | m+1,j,fuel+1,p,b,k=>by
  rw[Cq];unfold Ey
  have h:j<l.length:=by omega
  rw[G4 h,ct,Ab h,ct,Ab2,Ap Dn _ _ h,Bc h,Acl,Bf (by omega)]
  have d:ble 3 (List.length (l[j].av++List.flatMap MoveD.av (drop (j+1) l)))=true:=by rw[Cn,Ab4,Dn];simp
  have e:take 3 (l[j].av++List.flatMap MoveD.av (drop (j+1) l))=l[j].av:=Acj (Dn _)
  rw[d,ct,e,Dn]
  simp only[MoveD.av,setCells,Cy,Adf,Acp,Aek,Aci,Acb,Ac1,Acd,Ac5,Ay,Cn,U4,Aw,Nat.reduceAdd,decide_true,Acy,Adi,Acv,cond_true,Ab8,Ab3,YZ hN,Ad (show(3:Int)≠0 by decide),Re hN hs m (j+1) fuel _ (show j+1+m=_ by omega) (show m<fuel by omega)]
  rw[K4];rfl
theorem Rf {N:Nat} {c:CaseD} {i:Int} {u:OutD} {o:Bool} {p:B8} {K:LA→O R} (hN:8≤N) (b:c.units.l.length≤1000000) (hs:Dr u.moves.l.length N) (d:u.moves.l.length<8796093022208):∀ (m j fuel:Nat),j+m=u.moves.l.length→m<fuel →
  Cr N K i (u.moves.l.flatMap MoveD.av) u.moves.l.length o (Cc p) c.av u.av fuel j (u.moves.l.length:Int) (j:Int) (Ax ((u.moves.l.take j).map (·.unit))) =
   K (Cc (nd (nd (nd p (u.moves.l.all (qJ c)) (6,i,3) oZ) (JR (u.moves.l.map (·.unit))) (6,i,3) s9) (u.moves.l.all sa) (6,i,3) e3))
 | 0,j,fuel+1,k,_=>by
  rw[Cr];unfold Ez
  have q:j=u.moves.l.length:=by omega
  rw[G9 (by omega),cf,Acf,Ab0 (by simp[Eb];omega),Ab0 (show u.moves.l.length≤j by omega)]
  rw[Fs,E8 (by simp;omega) (by simpa using hs),Ad (by decide),Rp (by simp;omega) (by simpa using hs),Ad (by decide),aE]
  have:=Re (R:=R) (N:=N) (i:=i) (l:=u.moves.l) (o:=o) (K:=K) hN hs.2 u.moves.l.length 0 N (nd (nd p (u.moves.l.all (qJ c)) (6,i,3) oZ) (JR (u.moves.l.map (·.unit))) (6,i,3) s9) (by omega) hs.1
  have e:(u.moves.l.map (·.unit)).all (Fv 0 (wrap .i64 ((c.units.l.length:Int) - 1)))=u.moves.l.all (qJ c):=by
   rw[List.all_map];congr 1;funext m;exact qI _ _ (by omega)
  rw[e]
  simpa using this
 | m+1,j,fuel+1,k,A=>by
  rw[Cr];unfold Ez
  have h:j<u.moves.l.length:=by omega
  have s:ble 3 (List.length (u.moves.l[j].av++List.flatMap MoveD.av (drop (j+1) u.moves.l)))=true:=by rw[Cn,Ab4,Dn];simp
  have v:take 3 (u.moves.l[j].av++List.flatMap MoveD.av (drop (j+1) u.moves.l))=u.moves.l[j].av:=Acj (Dn _)
  have y:(decide (j≤140737488355327)&&decide ((j+1)*8≤140737488355328))=true:=by simp;omega
  have z:take (j*1) (Ax ((u.moves.l.take j).map (·.unit)))++[.int .i64 u.moves.l[j].unit]=Ax ((u.moves.l.take (j+1)).map (·.unit)):=by
   rw[Ab0 (by simp[Eb];omega),Ace h,Ade,←DS];rfl
  rw[G4 h,ct,Ab h,ct,Ab2,Ap Dn _ _ h,Bf (by omega),s,ct,v,Dn]
  simp only[MoveD.av,setCells,Cy,Adf,Acp,Aek,Aci,Ac1,Acd,Ac5,Ay,Cn,U4,Aw,Nat.reduceAdd,Nat.reduceLeDiff,decide_true,Acy,Adi,Acv,cond_true,Ab8,Ab3,y,z,Rf hN b hs d m (j+1) fuel (show j+1+m=_ by omega) (show m<fuel by omega)]
theorem FJ {N:Nat} {c:CaseD} {p:B8} {o:Bool} {j:Nat} {K:LA→O R} (hs:Small c N) (h:j<c.ties.l.length) :
  Me N c.av o (j:Int) (Cc p) K=K (Cc (n8 c j c.ties.l[j] p)):=by
 have hN:=hs.n64
 have hN8:8≤N:=by omega
 have d:=hs.tie
 have u:=hs.top
 have i:c.ties.l[j] ∈ c.ties.l:=Acg h
 have v:=hs.tim _ i;have m:=hs.tex _ i;have q:=hs.tpr _ i
 have e:=@Cs R N c (c.ties.l.map (·.name)) o (k:=5) (n:=j) (hN:=hN) (hL:=fun K=>e9 hs) (hn:=by simpa using h) (hs:=⟨by have:=d.1;omega,by have:=d.2;omega⟩)
 have s:(c.ties.l.map (·.name))[j]'(by simpa using h)=c.ties.l[j].name:=by simp
 rw[s] at e
 rw[R4];unfold Pb 
 rw[AK,Ab h,ct,Ab2,Ap Lw _ _ h]
 generalize c.ties.l[j]=b at *
 have y:ble 5 (List.length (b.av++List.flatMap TieD.av (drop (j+1) c.ties.l)))=true:=by rw[Cn,Ab4,Lw];simp
 have z:take 5 (b.av++List.flatMap TieD.av (drop (j+1) c.ties.l))=b.av:=Acj (Lw b)
 rw[y,ct,z,Lw]
 simp only[Bz,e,TieD.av,Aci,Acb,Ay,Bj,C0,Cn,U4,decide_true,Acy,cond_true]
 simp only[Gf hN8 (show c.buses.l.length<4611686018427387904 by omega),C4 rfl v,C4 rfl m,C4 rfl q]
 rfl
theorem AN {N:Nat} {c:CaseD} {p:B8} {o:Bool} {j:Nat} {K:LA→O R} (hs:Small c N) (h:j<c.stores.l.length) :
  Jl N c.av o (j:Int) (Cc p) K=K (Cc (W3 c j c.stores.l[j] p)):=by
 have hN:=hs.n64
 have hN8:8≤N:=by omega
 have d:=hs.sto
 have m:=hs.top
 have u:c.stores.l[j] ∈ c.stores.l:=Acg h
 skip
 have e:=@Cs R N c (c.stores.l.map (·.name)) o (k:=4) (n:=j) (hN:=hN) (hL:=fun K=>PR hs) (hn:=by simpa using h) (hs:=⟨by have:=d.1;omega,by have:=d.2;omega⟩)
 have i:(c.stores.l.map (·.name))[j]'(by simpa using h)=c.stores.l[j].name:=by simp
 rw[i] at e
 rw[Og];unfold Mq 
 rw[Pc,Ab h,ct,Ab2,Ap Gt _ _ h]
 generalize c.stores.l[j]=b at *
 have q:ble 9 (List.length (b.av++List.flatMap StoreD.av (drop (j+1) c.stores.l)))=true:=by rw[Cn,Ab4,Gt];simp
 have s:take 9 (b.av++List.flatMap StoreD.av (drop (j+1) c.stores.l))=b.av:=Acj (Gt b)
 rw[q,ct,s,Gt]
 simp only[Bz,e,StoreD.av,Aci,Acb,Ad1,Ac1,Acd,Ac5,Ay,Cn,U4,Aw,Nat.reduceAdd,decide_true,Acy,Adi,cond_true,Ab8,Ab3]
 simp only[Gf hN8 (show c.buses.l.length<4611686018427387904 by omega),Cw hN8,Ad (show(3:Int)≠0 by decide),Wc hN8]
 unfold W3;cases Lg b.eff<;>cases decide (b.eff.num>0)<;>rfl
theorem CS {N:Nat} {c:CaseD} {p:B8} {o:Bool} {j:Nat} {K:LA→O R} (hs:Small c N) (h:j<c.lines.l.length) :
  He N c.av o (j:Int) (Cc p) K=K (Cc (FI c j c.lines.l[j] p)):=by
 have hN:=hs.n64
 have hN8:8≤N:=by omega
 have d:=hs.lin
 have m:=hs.top
 have q:c.lines.l[j] ∈ c.lines.l:=Acg h
 have s:=hs.law _ q
 have e:=@Cs R N c (c.lines.l.map (·.name)) o (k:=2) (n:=j) (hN:=hN) (hL:=fun K=>WV hs) (hn:=by simpa using h) (hs:=⟨by have:=d.1;omega,by have:=d.2;omega⟩)
 have i:(c.lines.l.map (·.name))[j]'(by simpa using h)=c.lines.l[j].name:=by simp
 rw[i] at e
 rw[Rb];unfold Jj G6 Ka Ld J9 Lc
 rw[Ge,Ab h,ct,Ab2,Ap C5 _ _ h]
 generalize c.lines.l[j]=b at *
 have u:ble 12 (List.length (b.av++List.flatMap LineD.av (drop (j+1) c.lines.l)))=true:=by rw[Cn,Ab4,C5];simp
 have v:take 12 (b.av++List.flatMap LineD.av (drop (j+1) c.lines.l))=b.av:=Acj (C5 b)
 rw[u,ct,v,C5]
 simp only[Bz,e,LineD.av,Aci,Acb,Ad1,Ac1,Acd,Ac5,Ay,Bj,C0,Cn,U4,Aw,Nat.reduceAdd,Nat.reduceLeDiff,decide_true,Acy,Adi,cond_true,Ab8]
 simp only[Gf hN8 (show c.buses.l.length<4611686018427387904 by omega),Cw hN8,Ad (show(1:Int)≠0 by decide),Ad (show(3:Int)≠0 by decide),Wc hN8,Oi rfl s]
 unfold FI;rw[show(b.fr != b.tl)=(b.tl != b.fr) by simp[bne,BEq.comm (a:=b.fr)]];cases Lg b.re<;>cases Lg b.smin<;>cases Lg b.smax<;>rfl
def rI (c:CaseD) (j:Nat) (u:UnitD) (p:B8):B8 :=
 let p:=K6 ((c.units.l.map (·.name)).take j) 3 j u.name p
 let p:=nd p (JT c u.bus) (3,j,1) oZ
 let p:=nd p (Fv 0 1048576 u.min) (3,j,2) e3
 let p:=nd p (Fv u.min 1048576 u.max) (3,j,3) e3
 let p:=na u j p
 let p:=nd p (Fv 0 1048576 u.noLoad) (3,j,5) e3
 let p:=nd p (Fv 0 1048576 u.rampUp) (3,j,6) e3
 let p:=nd p (Fv 0 1048576 u.rampDown) (3,j,7) e3
 let p:=nd p (Fv u.min u.max u.startRamp) (3,j,8) e3
 let p:=nd p (Fv u.min u.max u.stopRamp) (3,j,9) e3
 let p:=nd p (Fv 0 24 u.upTime) (3,j,10) e3
 nd p (Fv 0 24 u.downTime) (3,j,11) e3
def uL (c:CaseD) (j:Nat) (u:UnitD) (p:B8):B8 :=
 let p:=nd p (Fv 0 24 u.startTime) (3,j,12) e3
 let p:=nd p (Fv 0 1048576 u.hotCost) (3,j,13) e3
 let p:=nd p (Fv 0 1048576 u.coldCost) (3,j,14) e3
 let p:=nd p (Fv 0 24 u.hotHours) (3,j,15) e3
 let p:=nd p (Fv 0 1048576 u.reserve) (3,j,16) e3
 let p:=nd p (Fv 0 1048576 u.reservePrice) (3,j,17) e3
 let p:=PP c.hours u.away.l (3,j,18) p
 let p:=nd p (Fv 0 2 u.state) (3,j,19) oZ
 let p:=nd p (u.state != 1||decide (u.startTime>0)) (3,j,19) zM
 let p:=nd p (Fv 1 48 u.hours) (3,j,20) e3
 let p:=nd p (u.state != 1||decide (u.hours≤u.startTime)) (3,j,20) e3
 cond (u.state==2) (nd p (Fv u.min u.max u.output) (3,j,21) e3) (nd p (u.output==0) (3,j,21) e3)
theorem xr (n:Int):Fv 0 0 n=(n==0):=by
 unfold Fv
 by_cases h:n=0
 ·simp[h]
 ·have:(n==0)=false:=by simpa using h
  rw[this];simp;omega
theorem vV {c:CaseD} {j:Nat} {u:UnitD} {p:B8}:uL c j u (rI c j u p)=JV c j u p:=by
 show _=(let p:=nd (rI c j u p) (Fv 0 24 u.startTime) (3,j,12) e3
  let p:=nd p (Fv 0 1048576 u.hotCost) (3,j,13) e3
  let p:=nd p (Fv 0 1048576 u.coldCost) (3,j,14) e3
  let p:=nd p (Fv 0 24 u.hotHours) (3,j,15) e3
  let p:=nd p (Fv 0 1048576 u.reserve) (3,j,16) e3
  let p:=nd p (Fv 0 1048576 u.reservePrice) (3,j,17) e3
  let p:=PP c.hours u.away.l (3,j,18) p
  let p:=nd p (Fv 0 2 u.state) (3,j,19) oZ
  let p:=nd p (u.state != 1||u.startTime != 0) (3,j,19) zM
  let p:=nd p (Fv 1 48 u.hours) (3,j,20) e3
  let p:=nd p (u.state != 1||decide (u.hours≤u.startTime)) (3,j,20) e3
  cond (u.state==2) (nd p (Fv u.min u.max u.output) (3,j,21) e3) (nd p (Fv 0 0 u.output) (3,j,21) e3))
 unfold uL
 rw[xr]
 cases hq:nd (rI c j u p) (Fv 0 24 u.startTime) (3,(j:Int),12) e3 with
 | some x=>simp only[Zi,PP]
 | none =>
  have b:Fv 0 24 u.startTime=true:=by
   cases d:Fv 0 24 u.startTime with
   | true=>rfl
   | false =>
    rw[d] at hq
    cases e:rI c j u p<;>rw[e] at hq<;>simp[nd] at hq
  have:decide (u.startTime>0)=(u.startTime != 0):=by
   unfold Fv at b
   simp at b
   by_cases h:u.startTime=0
   ·simp[h]
   ·have i:(u.startTime != 0)=true:=by simpa using h
    rw[i];simp;omega
  rw[this]
theorem CT {N:Nat} {c:CaseD} {p:B8} {o:Bool} {j:Nat} {K:LA→O R} (hs:Small c N) (h:j<c.units.l.length) :
  Hg N c.av o (j:Int) (Cc p) K=K (Cc (JV c j c.units.l[j] p)):=by
 have hN:=hs.n64
 have hN8:8≤N:=by omega
 have d:=hs.uni
 have s:=hs.top
 have u:c.units.l[j] ∈ c.units.l:=Acg h
 have y:=hs.seg _ u;have i:=hs.uaw _ u
 have e:=@Cs R N c (c.units.l.map (·.name)) o (k:=3) (n:=j) (hN:=hN) (hL:=fun K=>WW hs) (hn:=by simpa using h) (hs:=⟨by have:=d.1;omega,by have:=d.2;omega⟩)
 have m:(c.units.l.map (·.name))[j]'(by simpa using h)=c.units.l[j].name:=by simp
 rw[m] at e
 rw[Rc];unfold Jk G7 Kb Lf
 rw[Fs,Ab h,ct,Ab2,Ap F3 _ _ h]
 generalize c.units.l[j]=b at *
 have z:ble 22 (List.length (b.av++List.flatMap UnitD.av (drop (j+1) c.units.l)))=true:=by rw[Cn,Ab4,F3];simp
 have A:take 22 (b.av++List.flatMap UnitD.av (drop (j+1) c.units.l))=b.av:=Acj (F3 b)
 rw[z,ct,A,F3]
 have q:∀ (p:B8) (K:LA→O R),C3 N [.str b.name,.int .i64 b.bus,.int .i64 b.min,.int .i64 b.max,b.segs.av 2 SegD.av,.int .i64 b.noLoad,.int .i64 b.rampUp,.int .i64 b.rampDown,.int .i64 b.startRamp,.int .i64 b.stopRamp,.int .i64 b.upTime,.int .i64 b.downTime,.int .i64 b.startTime,.int .i64 b.hotCost,.int .i64 b.coldCost,.int .i64 b.hotHours,.int .i64 b.reserve,.int .i64 b.reservePrice,b.away.av 1 Wq,.int .i64 b.state,.int .i64 b.hours,.int .i64 b.output] o j (Cc p) K=K (Cc (na b j p)):=fun p K=>U6 hN8 y
 simp only[Bz,e,UnitD.av,Aci,Acb,Ad1,Ac1,Ay,Bj,C0,Cn,U4,decide_true,Acy,cond_true,cond_false,Ab3]
 simp only[Gf hN8 (show c.buses.l.length<4611686018427387904 by omega),Cw hN8,Ad (show(3:Int)≠0 by decide),Ad (show(12:Int)≠0 by decide),Ad (show(16:Int)≠0 by decide),q,Oi rfl i]
 rw[←vV]
 unfold uL
 by_cases v:b.state=1
 ·simp[v];rfl
 ·have a4:(b.state != 1)=true:=by simpa using v
  rw[a4]
  cases b.state==2<;>rfl
theorem Yp {N:Nat} {c:CaseD} {p:B8} {o:Bool} {j:Nat} {K:LA→O R} (hs:Small c N) (h:j<c.outs.l.length) :
  Fo N c.av o (j:Int) (Cc p) K=K (Cc (TU c j c.outs.l[j] p)):=by
 have hN:=hs.n64
 have hN8:8≤N:=by omega
 have d:=hs.out
 have e:=hs.top
 have s:c.outs.l[j] ∈ c.outs.l:=Acg h
 have z:=hs.oli _ s;have m:=hs.omo _ s;have v:=hs.omb _ s
 have q:=@Cs R N c (c.outs.l.map (·.name)) o (k:=6) (n:=j) (hN:=hN) (hL:=fun K=>e_ hs) (hn:=by simpa using h) (hs:=⟨by have:=d.1;omega,by have:=d.2;omega⟩)
 have y:(c.outs.l.map (·.name))[j]'(by simpa using h)=c.outs.l[j].name:=by simp
 rw[y] at q
 rw[N3];unfold G8 Fy Ib
 rw[Qe,Ab h,ct,Ab2,Ap Dj _ _ h]
 generalize c.outs.l[j]=b at *
 have A:ble 4 (List.length (b.av++List.flatMap OutD.av (drop (j+1) c.outs.l)))=true:=by rw[Cn,Ab4,Dj];simp
 have C:take 4 (b.av++List.flatMap OutD.av (drop (j+1) c.outs.l))=b.av:=Acj (Dj b)
 rw[A,ct,C,Dj]
 have l1:=fun p=>Rf (R:=R) (N:=N) (c:=c) (i:=j) (u:=b) (o:=o) (p:=p) (K:=K) hN8 e.2.2.1 m v b.moves.l.length 0 N (by omega) m.1
 simp only[Ac1,Aei,Acz,Ax] at l1
 simp only[U4,decide_true,Acy,cond_true,D3,Bz,q,PQ,aE,uK,Cw hN8,E8 rfl z,Rp rfl z,Ge,Ad (show(4:Int)≠0 by decide),Ad (show(8:Int)≠0 by decide),Ad (show(11:Int)≠0 by decide),Ad (show(12:Int)≠0 by decide),Ad (show(16:Int)≠0 by decide),l1]
 have a1:Fv 1 2 (b.lines.l.length:Int)=((b.lines.l.length:Int)==1||(b.lines.l.length:Int)==2):=by
  unfold Fv
  by_cases x1:b.lines.l.length=1
  ·simp[x1]
  ·by_cases x2:b.lines.l.length=2
   ·simp[x2]
   ·have y1:((b.lines.l.length:Int)==1)=false:=by simp;omega
    have y2:((b.lines.l.length:Int)==2)=false:=by simp;omega
    rw[y1,y2];simp;omega
 have a2:b.lines.l.all (Fv 0 (wrap .i64 ((c.lines.l.length:Int) - 1)))=b.lines.l.all fun n=>decide (0≤n)&&decide (n<(c.lines.l.length:Int)):=by
  congr 1;funext n;exact qI _ _ (by omega)
 rw[a1,a2]
 unfold TU TT
 cases b.corr
 ·simp
 ·simp
end
end Gx.Cf
namespace Gx.Cf
inductive Conn (es:List (Nat×Nat)):Nat→Nat→Prop
 | refl (a:Nat):Conn es a a
 | fwd {u v b:Nat}:(u,v) ∈ es→Conn es v b→Conn es u b
 | bwd {u v b:Nat}:(u,v) ∈ es→Conn es u b→Conn es v b
theorem Conn.trans {es:List (Nat×Nat)} {a b c:Nat} (j:Conn es a b) (d:Conn es b c):Conn es a c:=by
 induction j with
 | refl=>exact d
 | fwd e _ i=>exact .fwd e (i d)
 | bwd e _ i=>exact .bwd e (i d)
theorem Conn.symm {es:List (Nat×Nat)} {a b:Nat} (h:Conn es a b):Conn es b a:=by
 induction h with
 | refl=>exact .refl _
 | fwd d _ e=>exact e.trans (.bwd d (.refl _))
 | bwd d _ e=>exact e.trans (.fwd d (.refl _))
theorem Conn.mono {es fs:List (Nat×Nat)} (hs:∀ e ∈ es,e ∈ fs) {a b:Nat} (h:Conn es a b):Conn fs a b:=by
 induction h with
 | refl=>exact .refl _
 | fwd d _ i=>exact .fwd (hs _ d) i
 | bwd d _ i=>exact .bwd (hs _ d) i
def Ly (es:List (Nat×Nat)) (b:Nat):Prop:=∀ a,a<b→¬ Conn es a b
open Classical in
noncomputable def F0 (n:Nat) (es:List (Nat×Nat)):Nat:=((List.range n).filter fun b=>decide (Ly es b)).length
theorem qK {n:Nat} {es fs:List (Nat×Nat)} (h:∀ e ∈ es,e ∈ fs):F0 n fs≤F0 n es:=by
 unfold F0
 have:∀ (l:List Nat),(l.filter fun b=>@decide (Ly fs b) (Classical.propDecidable _)).length≤(l.filter fun b=>@decide (Ly es b) (Classical.propDecidable _)).length:=by
  intro l
  induction l with
  | nil=>simp
  | cons a r d =>
   rw[Adn,Adn]
   by_cases x:Ly fs a
   ·have:Ly es a:=fun b i j=>x b i (j.mono h)
    simp[x,this,d]
   ·by_cases y:Ly es a<;>simp[x,y]<;>omega
 exact this _
def Du (n:Nat):List Int:=(List.range n).map fun b:Nat=>(b:Int)
structure UfOk (n:Nat) (es:List (Nat×Nat)) (st:List Int×Int):Prop where
 len:st.1.length=n
 iff:∀ a b,a<n→b<n→(st.1.getD a 0=st.1.getD b 0↔Conn es a b)
 cnt:st.2=(F0 n es:Int)
theorem HC {n a:Nat} (h:a<n):(Du n).getD a 0=(a:Int):=by
 rw[Ab9,Du,Adr,List.getElem?_range h];rfl
structure LeastOk (n:Nat) (es:List (Nat×Nat)) (L:List Int):Prop where
 len:L.length=n
 low:∀ b,b<n→0≤L.getD b 0∧L.getD b 0≤b
 con:∀ b,b<n→Conn es (L.getD b 0).toNat b
def rJ (es:List (Nat×Nat)) (L:List Int):Prop:=∀ e ∈ es,L.getD e.1 0=L.getD e.2 0
def vW (L:List Int):Nat:=((List.range L.length).filter fun b=>L.getD b 0==(b:Int)).length
theorem WX {n:Nat} {es:List (Nat×Nat)} {L:List Int} (h:LeastOk n es L) (m:rJ es L) (q:∀ e ∈ es,e.1<n∧e.2<n):vW L=F0 n es:=by
 unfold vW F0
 rw[h.len]
 congr 1
 apply Afa
 intro b i
 have i:b<n:=by simpa using i
 have conn_eq:∀ a b,Conn es a b→L.getD a 0=L.getD b 0:=by
  intro a b j
  induction j with
  | refl=>rfl
  | fwd d _ k=>exact(m _ d).trans k
  | bwd d _ k=>exact(m _ d).symm.trans k
 have s:=h.low b i
 by_cases x:L.getD b 0=(b:Int)
 ·have:Ly es b:=fun a u j=>by
   have e:=conn_eq a b j
   have:=(h.low a (by omega)).2
   omega
  have x':(L.getD b 0==(b:Int))=true:=by simpa using x
  rw[x'];simp[this]
 ·have x':(L.getD b 0==(b:Int))=false:=by simpa using x
  have:¬ Ly es b:=fun d=>d (L.getD b 0).toNat (by omega) (h.con b i)
  rw[x'];simp[this]
end Gx.Cf
namespace Gx.Cf
open Go Go.Proofs
section
variable {R:Type}
theorem AO {l:List Int} {j:Nat} (h:j<l.length):l.getD j 0=l[j]:=by rw[Ab9,Ab1 h];rfl
theorem Pd {x:Int} {n:Nat} (h0:0≤x) (b:x.toNat<n):Af x n=true:=by simp[Af];omega
theorem gi {l:List Int} {x:Int} (h:x.toNat<l.length) {f:Int→O R}:An .i64 (drop (0+((Int.toNat x)*1)) (Ax l)) f=f (l.getD x.toNat 0):=by
 rw[Ab8,Acf,cA h,AO h]
theorem Rg (l:List Int) (j:Nat) (v:Int):List.set (Ax l) j (.int .i64 v)=Ax (l.set j v):=by simp[Ax,List.map_set]
theorem AP {l:List Int} {x:Nat} (h:x<l.length):((beq 1 1)&&((ble ((0+(x*1))+1) (List.length (Ax l)))&&(!false)))=true:=by
 rw[U4,Cn,Eb];simp;omega
def Dk (c:CaseD) (l:Int):Nat×Nat:=match c.lines.l[l.toNat]? with
 | some x=>(x.fr.toNat,x.tl.toNat)
 | none=>(0,0)
structure LnV (c:CaseD) (l:Int) (x:LineD):Prop where
 l0:0≤l
 lt:l.toNat<c.lines.l.length
 at':c.lines.l[l.toNat]?=some x
 f0:0≤x.fr
 f1:x.fr.toNat<c.buses.l.length
 t0:0≤x.tl
 t1:x.tl.toNat<c.buses.l.length
theorem HD {c:CaseD} {l:Int} {x:LineD} (h:LnV c l x):Dk c l=(x.fr.toNat,x.tl.toNat):=by unfold Dk;rw[h.at']
theorem uM {c:CaseD} {l:Int} {x:LineD} (h:LnV c l x) {f:Int→O R}:An .i64 (drop 1 (drop ((Int.toNat l)*12) (c.lines.l.flatMap LineD.av))) f=f x.fr:=by
 have e:c.lines.l[l.toNat]'h.lt=x:=by have:=h.at';rw[Ab1 h.lt] at this;simpa using this
 rw[Ap C5 _ _ h.lt,e];simp[LineD.av,Ay]
theorem uN {c:CaseD} {l:Int} {x:LineD} (h:LnV c l x) {f:Int→O R}:An .i64 (drop 2 (drop ((Int.toNat l)*12) (c.lines.l.flatMap LineD.av))) f=f x.tl:=by
 have e:c.lines.l[l.toNat]'h.lt=x:=by have:=h.at';rw[Ab1 h.lt] at this;simpa using this
 rw[Ap C5 _ _ h.lt,e];simp[LineD.av,Ay]
theorem LI {L:List Int} {n j:Nat} (d:L.length=n) (h:j<n):((Du n).take j++L.drop j).set j (j:Int)=(Du n).take (j+1)++L.drop (j+1):=by
 have hi:(Du n).length=n:=by simp[Du]
 have e:(Du n)[j]'(by omega)=(j:Int):=by simp[Du]
 have b:j - ((Du n).take j).length=0:=by simp[hi];omega
 rw[Afy _ _ (by simp;omega),b,Ace (by omega),Bc (l:=L) (by omega),e,Agc,Ads];rfl
def FK (h:Int):List LineD→Nat→List Int
 | [],_=>[]
 | x::r,j=>cond (x.away.l.contains h) (FK h r (j+1)) ((j:Int)::FK h r (j+1))
theorem Uv (h:Int):∀ (l:List LineD) (j:Nat),(FK h l j).length≤l.length
 | [],_=>by simp[FK]
 | x::r,j=>by rw[FK];have:=Uv h r (j+1);cases x.away.l.contains h<;>simp<;>omega
theorem nf (h:Int):∀ (l:List LineD) (j:Nat) (a:Int),a ∈ FK h l j→(j:Int)≤a∧a<j+l.length
 | [],_,_,b=>by simp[FK] at b
 | x::r,j,a,b=>by
  rw[FK] at b
  have d:=nf h r (j+1) a
  cases e:x.away.l.contains h<;>rw[e] at b<;>simp at b
  ·rcases b with rfl | b
   ·simp;omega
   ·have:=d b;simp at this ⊢;omega
  ·have:=d b;simp at this ⊢;omega
def As (c:CaseD) (h:Int):List Int:=FK h c.lines.l 0
theorem kp {A B:List Int} {n:Nat} (h:n=A.length):(take (n*1) (Ax A))++Ax B=Ax (A++B):=by
 rw[Acf,Ab0 (by simp[Eb,h]),DS]
theorem FL {N:Nat} {c:CaseD} {h:Int} {o:Bool} {K:Nat→LA→O R} (hs:Small c N):∀ (m j fuel:Nat) (A:List Int),j+m=c.lines.l.length→m<fuel→A.length≤j →
  D1 N K h o c.av fuel A.length (j:Int) (Ax A)=K (A++FK h (c.lines.l.drop j) j).length (Ax (A++FK h (c.lines.l.drop j) j))
 | 0,j,fuel+1,A,q,_,_=>by
  rw[D1];unfold Jm
  rw[Ge,G9 (by omega),cf,Bo (l:=c.lines.l) (by omega),FK,Acp]
 | m+1,j,fuel+1,A,q,C,hA=>by
  rw[D1];unfold Jm
  have d:j<c.lines.l.length:=by omega
  have k:=hs.top.2.1
  have s:c.lines.l[j] ∈ c.lines.l:=Acg d
  have u:=hs.law _ s
  simp only[Ge]
  rw[G4 d,ct,Ab d,ct,Ab2,Ap C5 _ _ d,Bc (l:=c.lines.l) d,FK]
  have e:=FL (N:=N) (c:=c) (h:=h) (o:=o) (K:=K) hs m (j+1) fuel (A++[(j:Int)]) (by omega) (by omega) (by simp;omega)
  have i:=FL (N:=N) (c:=c) (h:=h) (o:=o) (K:=K) hs m (j+1) fuel A (by omega) (by omega) (by omega)
  generalize c.lines.l[j]=b at *
  have v:(ble (A.length+1) 140737488355328&&ble ((A.length+1)*8) 140737488355328)=true:=by rw[Cn,Cn];simp;omega
  have y:∀ (r:LA) (f:LA→Nat→O R),Az 1 (drop 11 (b.av++r)) f=f (Ax b.away.l) b.away.l.length:=fun r f=>by simp[LineD.av,Bj,C0]
  have z:take (A.length*1) (Ax A)++[.int .i64 (j:Int)]=Ax (A++[(j:Int)]):=kp (B:=[(j:Int)]) rfl
  rw[y,AJ rfl u,v,ct,z,Bf (by omega)]
  cases b.away.l.contains h with
  | true=>simp only[Aea,cond_false,cond_true];exact i
  | false =>
   simp only[Acv,cond_true,cond_false]
   rw[Ab4] at e
   simpa using e
theorem ng {N:Nat} {c:CaseD} {h:Int} {o:Bool} {K:Nat→LA→O R} (hs:Small c N):Ls N c.av o h K=K (As c h).length (Ax (As c h)):=by
 rw[Wa];unfold N4
 have:=FL (R:=R) (N:=N) (c:=c) (h:=h) (o:=o) (K:=K) hs c.lines.l.length 0 N [] (by omega) hs.lin.1 (by simp)
 simpa[As,Ax] using this
def Bm (e:Nat×Nat):LA:=[.int .i64 (e.1:Int),.int .i64 (e.2:Int)]
theorem N6 (e:Nat×Nat):(Bm e).length=2:=rfl
theorem HE (es:List (Nat×Nat)):(es.flatMap Bm).length=es.length*2:=by
 induction es with
 | nil=>rfl
 | cons e r b=>rw[Ad0,Ab4,b,N6];simp;omega
theorem ee {N:Nat} {c:CaseD} {o:Bool} {ls:List Int} {K:Nat→Nat→LA→LA→O R} (e:ls.length≤1000000) (d:∀ l ∈ ls,∃ x,LnV c l x):∀ (m j fuel:Nat),j+m=ls.length→m<fuel →
  Ic N K ls.length o c.av (Ax ls) fuel j (ls.length:Int) (j:Int) (((ls.take j).map (Dk c)).flatMap Bm)=K ls.length ls.length ((ls.map (Dk c)).flatMap Bm) (Ax ls)
 | 0,j,fuel+1,i,_=>by
  rw[Ic];unfold Qc
  have:j=ls.length:=by omega
  rw[G9 (by omega),cf,Ab0 (by omega),this]
 | m+1,j,fuel+1,i,s=>by
  rw[Ic];unfold Qc
  have h:j<ls.length:=by omega
  obtain⟨x,b⟩:=d ls[j] (Acg h)
  have k:(ble (j+1) 140737488355328&&ble ((j+1)*16) 140737488355328)=true:=by rw[Cn,Cn];simp;omega
  have q:take (j*2) (((ls.take j).map (Dk c)).flatMap Bm)++[.int .i64 x.fr,.int .i64 x.tl]=((ls.take (j+1)).map (Dk c)).flatMap Bm:=by
   rw[Ab0 (by rw[HE];simp;omega),Ace h,Ade,Af8]
   simp only[Acc,Aei,HD b,Ad0,List.flatMap_nil,Acp,Bm]
   have:=b.f0;have:=b.t0
   rw[Ae3 b.f0,Ae3 b.t0]
  rw[G4 h,ct,Ab h,ct,gi (by simpa using h),Ab2,AO h]
  simp only[Ge,uM b,uN b]
  rw[Pd b.l0 b.lt,ct,ct,k,ct,q,Bf (by omega),ee e d m (j+1) fuel (by omega) (by omega)]
theorem qL {N:Nat} {c:CaseD} {h:Int} {o:Bool} {K:Nat→Nat→LA→LA→O R} (hs:Small c N) (e:∀ l ∈ As c h,∃ x,LnV c l x) :
  Yj N c.av o h K=K (As c h).length (As c h).length (((As c h).map (Dk c)).flatMap Bm) (Ax (As c h)):=by
 rw[JP];unfold AH
 have i:=Uv h c.lines.l 0
 have b:=hs.top.2.1
 have d:=hs.lin.1
 have:=ee (R:=R) (N:=N) (c:=c) (o:=o) (ls:=As c h) (K:=K) (by unfold As;omega) e (As c h).length 0 N (by omega) (by unfold As;omega)
 rw[D3,ct,Bz,ng hs]
 simpa using this
def D4 (st:Bool×List Int) (e:Nat×Nat):Bool×List Int :=
 let m:=Hi (st.2.getD e.1 0) (st.2.getD e.2 0)
 ((st.1||(st.2.getD e.1 0 != m))||(st.2.getD e.2 0 != m),(st.2.set e.1 m).set e.2 m)
theorem WY {N:Nat} {es:List (Nat×Nat)} {n:Nat} {t o:Bool} {K1:Bool→LA→O R} {K:Nat→LA→O R} (hs:es.length<4611686018427387904) (k:∀ e ∈ es,e.1<n∧e.2<n):∀ (m j fuel:Nat) (st:Bool×List Int),j+m=es.length→m<fuel→st.2.length=n →
  Fp N K1 K (es.flatMap Bm) es.length t o n fuel st.1 (es.length:Int) (j:Int) (Ax st.2)=K1 ((es.drop j).foldl D4 st).1 (Ax ((es.drop j).foldl D4 st).2)
 | 0,j,fuel+1,st,q,_,_=>by
  rw[Fp];unfold Mf
  rw[G9 (by omega),cf,Bo (l:=es) (by omega)];rfl
 | m+1,j,fuel+1,st,q,L,b=>by
  rw[Fp];unfold Mf
  have h:j<es.length:=by omega
  obtain⟨d,i⟩:=k es[j] (Acg h)
  have s:=WY (N:=N) (es:=es) (n:=n) (t:=t) (o:=o) (K1:=K1) (K:=K) hs k m (j+1) fuel (D4 st es[j]) (by omega) (by omega) (by simp[D4,b])
  rw[G4 h,ct,Ab h,ct,Ab2,Ap N6 _ _ h,Bc (l:=es) h,Ad2,←s]
  generalize es[j]=e at *
  have u:ble 2 (List.length (Bm e++List.flatMap Bm (drop (j+1) es)))=true:=by rw[Cn,Ab4,N6];simp
  have v:take 2 (Bm e++List.flatMap Bm (drop (j+1) es))=Bm e:=Acj (N6 e)
  rw[u,ct,v,N6]
  have iu:Af (e.1:Int) n=true:=Ab d
  have iv:Af (e.2:Int) n=true:=Ab i
  have ru:∀ f:Int→O R,An .i64 (drop (0+((Int.toNat (e.1:Int))*1)) (Ax st.2)) f=f (st.2.getD e.1 0):=fun f=>by rw[gi (by rw[b];simpa using d)];rfl
  have rv:∀ f:Int→O R,An .i64 (drop (0+((Int.toNat (e.2:Int))*1)) (Ax st.2)) f=f (st.2.getD e.2 0):=fun f=>by rw[gi (by rw[b];simpa using i)];rfl
  have y:=AP (l:=st.2) (x:=(Int.toNat (e.1:Int))) (by rw[b];simpa using d)
  have s2:∀ m:Int,((beq 1 1)&&((ble ((0+((Int.toNat (e.2:Int))*1))+1) (List.length (List.set (Ax st.2) (0+((Int.toNat (e.1:Int))*1)) (.int .i64 m))))&&(!false)))=true:=fun m=>by
   rw[Rg];exact AP (by simpa[b] using i)
  have z:∀ m:Int,List.set (List.set (Ax st.2) (0+((Int.toNat (e.1:Int))*1)) (.int .i64 m)) (0+((Int.toNat (e.2:Int))*1)) (.int .i64 m)=Ax ((st.2.set e.1 m).set e.2 m):=fun m=>by
   rw[Rg,Rg];simp
  have A:(!o||Aw (Bm e))=true:=by simp[Bm,Aw]
  have C:(beq 2 2&&(ble 2 2&&!false))=true:=rfl
  have D:setCells [(.int .i64 (0:Int)),(.int .i64 (0:Int))] 0 (Bm e)=Bm e:=rfl
  have F:∀ f:Int→O R,An .i64 (Bm e) f=f e.1:=fun f=>by simp[Bm,Ay]
  have G:∀ f:Int→O R,An .i64 (drop 1 (Bm e)) f=f e.2:=fun f=>by simp[Bm,Ay]
  simp only[A,C,D,F,G,ct,iu,iv,ru,rv,y,s2,z,Bf (show j<4611686018427387904 by omega)]
  unfold D4
  cases st.1
  ·cases I:(st.2.getD e.1 0 != Hi (st.2.getD e.1 0) (st.2.getD e.2 0))<;>simp only[I,Ad6,Adv,cond_true,cond_false,beq_self_eq_true,show(true==false)=false from rfl]
  ·simp only[Adv,cond_false,show(true==false)=false from rfl]
def LJ (L:List Int):Nat:=(L.map Int.toNat).sum
theorem rK {L:List Int} {x:Nat} {v:Int} (h:x<L.length):LJ (L.set x v)+(L.getD x 0).toNat=LJ L+v.toNat:=by
 unfold LJ
 rw[AO h]
 induction L generalizing x with
 | nil=>simp at h
 | cons a r b =>
  cases x with
  | zero=>simp;omega
  | succ x=>have:=b (x:=x) (by simpa using h);simp at this ⊢;omega
theorem ef {L:List Int} {x y:Nat} {v:Int} (h:x<L.length):(L.set x v).getD y 0=if x=y then v else L.getD y 0:=by
 rw[Ab9,Ab9,List.getElem?_set]
 by_cases e:x=y
 ·subst e;simp[h]
 ·simp[e]
theorem vX (a b:Int):Hi a b≤a∧Hi a b≤b∧(Hi a b=a∨Hi a b=b):=by
 unfold Hi
 by_cases h:b<a
 ·simp[h];omega
 ·simp[h];omega
theorem sb {n:Nat} {es:List (Nat×Nat)} {e:Nat×Nat} (D:e ∈ es) (s:e.1<n) (z:e.2<n) {b:Bool} {L:List Int} (h:LeastOk n es L) :
    LeastOk n es (D4 (b,L) e).2∧(((D4 (b,L) e).1=true∧LJ (D4 (b,L) e).2<LJ L)∨((D4 (b,L) e)=(b,L)∧L.getD e.1 0=L.getD e.2 0)):=by
  obtain⟨u,v⟩:=e
  simp only at s z
  obtain⟨m1,m2,m3⟩:=vX (L.getD u 0) (L.getD v 0)
  have d:u<L.length:=by rw[h.len];exact s
  have j:v<L.length:=by rw[h.len];exact z
  have i:Conn es u v:=.fwd D (.refl _)
  have Ag:∀ y,((L.set u (Hi (L.getD u 0) (L.getD v 0))).set v (Hi (L.getD u 0) (L.getD v 0))).getD y 0=if v=y then Hi (L.getD u 0) (L.getD v 0) else if u=y then Hi (L.getD u 0) (L.getD v 0) else L.getD y 0:=fun y=>by
    rw[ef (by simpa using j),ef d]
  have lu:=h.low u s
  have lv:=h.low v z
  refine⟨⟨by simp[D4,h.len],fun y C=>?_,fun y C=>?_⟩,?_⟩
  · simp only[D4,Ag]
    split
    · rename_i e;subst e;omega
    · split
      · rename_i e;subst e;omega
      · exact h.low y C
  · simp only[D4,Ag]
    have cm:Conn es (Hi (L.getD u 0) (L.getD v 0)).toNat u:=by
      rcases m3 with e | e<;>rw[e]
      · exact h.con u s
      · exact(h.con v z).trans i.symm
    split
    · rename_i e;subst e;exact cm.trans i
    · split
      · rename_i e;subst e;exact cm
      · exact h.con y C
  · by_cases e1:L.getD u 0=Hi (L.getD u 0) (L.getD v 0)<;>by_cases A:L.getD v 0=Hi (L.getD u 0) (L.getD v 0)
    · right
      have q:(L.set u (Hi (L.getD u 0) (L.getD v 0))).set v (Hi (L.getD u 0) (L.getD v 0))=L:=by
        have key:∀ m:Int,L.getD u 0=m→L.getD v 0=m→(L.set u m).set v m=L:=by
          intro m F G
          have a1:L.set u m=L:=by rw[←F,AO d,Afx]
          have a2:L.set v m=L:=by rw[←G,AO j,Afx]
          rw[a1,a2]
        exact key _ e1 A
      have x1:(L.getD u 0 != Hi (L.getD u 0) (L.getD v 0))=false:=by simpa using e1
      have x2:(L.getD v 0 != Hi (L.getD u 0) (L.getD v 0))=false:=by simpa using A
      refine⟨by simp only[D4,q,x1,x2,Bool.or_false],by rw[e1];exact A.symm⟩
    all_goals
      left
      have I:=rK (v:=Hi (L.getD u 0) (L.getD v 0)) d
      have k:=rK (L:=L.set u (Hi (L.getD u 0) (L.getD v 0))) (x:=v) (v:=Hi (L.getD u 0) (L.getD v 0)) (by simpa using j)
      rw[ef d] at k
      refine⟨?_,?_⟩
      · first
          | (have x2 : (L.getD v 0 != Hi (L.getD u 0) (L.getD v 0)) = true := by simpa using A
             simp only[D4,x2,Adi])
          | (have x1 : (L.getD u 0 != Hi (L.getD u 0) (L.getD v 0)) = true := by simpa using e1
             simp only[D4,x1,Adi,Adv])
      · simp only[D4]
        split at k
        · rename_i e;subst e;omega
        · omega
theorem kq {n:Nat} {es:List (Nat×Nat)} (i:∀ e ∈ es,e.1<n∧e.2<n):∀ (fs:List (Nat×Nat)) (b:Bool) (L:List Int),(∀ e ∈ fs,e ∈ es)→LeastOk n es L →
  LeastOk n es (fs.foldl D4 (b,L)).2∧(((fs.foldl D4 (b,L)).1=true∧(LJ (fs.foldl D4 (b,L)).2<LJ L∨(b=true∧LJ (fs.foldl D4 (b,L)).2≤LJ L)))∨((fs.foldl D4 (b,L))=(b,L)∧rJ fs L))
 | [],b,L,_,h=>⟨h,.inr ⟨rfl,fun e i=>by simp at i⟩⟩
 | e::r,b,L,q,h=>by
  have s:=q e (by simp)
  obtain⟨z,A⟩:=sb s (i e s).1 (i e s).2 (b:=b) h
  rw[Ad2]
  rcases A with⟨u,v⟩ | ⟨u,v⟩
  ·have C:D4 (b,L) e=(true,(D4 (b,L) e).2):=by rw[←u]
   rw[C]
   obtain⟨y,j⟩:=kq i r true (D4 (b,L) e).2 (fun x d=>q x (Adc _ d)) z
   refine⟨y,.inl ?_⟩
   rcases j with⟨k,m⟩ | ⟨k,_⟩
   ·exact⟨k,.inl (by rcases m with m | ⟨_,m⟩<;>omega)⟩
   ·rw[k];exact⟨rfl,.inl v⟩
  ·rw[u]
   obtain⟨y,j⟩:=kq i r b L (fun x d=>q x (Adc _ d)) h
   refine⟨y,?_⟩
   rcases j with j | ⟨k,m⟩
   ·exact .inl j
   ·refine .inr ⟨k,fun x d=>?_⟩
    rcases Ach.1 d with rfl | d
    ·exact v
    ·exact m x d
theorem WZ {N:Nat} {es:List (Nat×Nat)} {n:Nat} {t o:Bool} (hs:Dr es.length N) (d:∀ e ∈ es,e.1<n∧e.2<n):∀ (s fuel:Nat) (L:List Int),LeastOk n es L→LJ L≤s→s+2<fuel →
  ∃ L',LeastOk n es L'∧rJ es L'∧∀ K:Nat→LA→O R,Ch N K (es.flatMap Bm) es.length t o n fuel true (Ax L)=K n (Ax L')
 | s,fuel+1,L,h,hL,u=>by
  obtain⟨j,k⟩:=kq d es false L (fun _ m=>m) h
  have step:∀ K:Nat→LA→O R,Ch N K (es.flatMap Bm) es.length t o n (fuel+1) true (Ax L)=Ch N K (es.flatMap Bm) es.length t o n fuel (es.foldl D4 (false,L)).1 (Ax (es.foldl D4 (false,L)).2):=fun K=>by
   rw[Ch];unfold Mg
   have:=WY (R:=R) (N:=N) (es:=es) (n:=n) (t:=t) (o:=o) (K1:=Ch N K (es.flatMap Bm) es.length t o n fuel) (K:=K) hs.2 d es.length 0 N (false,L) (by omega) hs.1 h.len
   simpa using this
  rcases k with⟨i,b⟩ | ⟨i,b⟩
  ·have q:LJ (es.foldl D4 (false,L)).2<LJ L:=by
    rcases b with b | ⟨b,_⟩
    ·exact b
    ·cases b
   obtain⟨L',a1,a2,a3⟩:=WZ hs d (s - 1) fuel _ j (by omega) (by omega)
   exact⟨L',a1,a2,fun K=>by rw[step,i];exact a3 K⟩
  ·refine⟨L,h,b,fun K=>?_⟩
   rw[step,i]
   rcases fuel with _ | fuel
   ·omega
   ·rw[Ch];unfold Mg;rfl
 termination_by s=>s
 decreasing_by omega
theorem W_ {N:Nat} {es:List (Nat×Nat)} {n:Nat} {t o:Bool} {K:Nat→LA→O R} (hn:n<4611686018427387904) (L:List Int) (hL:L.length=n):∀ (m j fuel:Nat),j+m=n→m<fuel →
  Fq N K (n:Int) (es.flatMap Bm) es.length t o fuel n (j:Int) (Ax ((Du n).take j++L.drop j))=Ch N K (es.flatMap Bm) es.length t o n N true (Ax (Du n))
 | 0,j,fuel+1,d,_=>by
  rw[Fq];unfold Mh
  rw[G9 (by omega),cf,Bo (by omega),Acp,Ab0 (by simp[Du];omega)]
 | m+1,j,fuel+1,d,e=>by
  rw[Fq];unfold Mh
  have h:j<n:=by omega
  have b:((Du n).take j++L.drop j).length=n:=by simp[Du];omega
  rw[G4 h,ct,Ab h,ct,AP (by rw[b];simpa using h),ct,Ab2,Ab8,Acf,Rg,LI hL h,Bf (by omega),W_ hn L hL m (j+1) fuel (by omega) (by omega)]
theorem qM (n:Nat) (es:List (Nat×Nat)):LeastOk n es (Du n):=by
 refine⟨by simp[Du],fun b d=>?_,fun b d=>?_⟩
 ·rw[HC d];omega
 ·rw[HC d];exact .refl _
theorem xC {L:List Int} {b:Nat}:(∀ x ∈ L,x.toNat≤b)→LJ L≤L.length*b:=by
 unfold LJ
 induction L with
 | nil=>intro _;simp
 | cons a r d =>
  intro h
  have i:=h a (by simp)
  have j:=d (fun x e=>h x (Adc _ e))
  simp[Ad8];omega
theorem PS {N:Nat} {es:List (Nat×Nat)} {n:Nat} {t o:Bool} (hs:Dr es.length N) (hn:n≤1000) (hN:n*n+1000<N) (j:∀ e ∈ es,e.1<n∧e.2<n) :
  ∃ L,LeastOk n es L∧rJ es L∧∀ (m:Nat) (K:Nat→LA→O R),m=es.length→M5 N (n:Int) (es.flatMap Bm) m t o K=K n (Ax L):=by
 have d:LJ (Du n)≤n*n:=by
  have:=xC (L:=Du n) (b:=n) (by
   intro x i;simp[Du] at i;obtain⟨a,v,rfl⟩:=i;simp;omega)
  simpa[Du] using this
 obtain⟨L,k,q,s⟩:=WZ (R:=R) (N:=N) (es:=es) (n:=n) (t:=t) (o:=o) hs j (n*n) N (Du n) (qM n es) d (by omega)
 refine⟨L,k,q,fun m K u=>?_⟩
 subst u
 rw[B'];unfold Tc
 have ok:(decide ((0:Int)≤(n:Int))&&(decide ((n:Int)≤(n:Int))&&(decide ((n:Int)≤(140737488355328:Int))&&decide (((n:Int)*((8:Nat):Int))≤(140737488355328:Int)))))=true:=by simp;omega
 have e:replicate n (AV.int .i64 (0:Int))=Ax (replicate n 0):=by simp[Ax]
 have:=W_ (R:=R) (N:=N) (es:=es) (n:=n) (t:=t) (o:=o) (K:=K) (by omega) (replicate n 0) (by simp) n 0 N (by omega) (by omega)
 rw[ok,ct,Ab2,e,←s K]
 simpa using this
theorem LK {N:Nat} {L:List Int} {t o:Bool} {K:Int→O R} (hs:L.length<1000000):∀ (m j fuel:Nat) (a:Nat),j+m=L.length→m<fuel→a≤j →
  If N K (Ax L) L.length t o fuel (a:Int) (j:Int)=K ((a+((List.range' j m).filter fun b=>L.getD b 0==(b:Int)).length:Nat):Int)
 | 0,j,fuel+1,a,d,_,_=>by
  rw[If];unfold Qd
  rw[G9 (by omega),cf];simp
 | m+1,j,fuel+1,a,d,e,i=>by
  rw[If];unfold Qd
  have h:j<L.length:=by omega
  rw[G4 h,ct,Ab h,ct,R5 h,Bf (by omega),Bf (by omega),List.range'_succ,Adn,AO h]
  cases k:L[j]==(j:Int) with
  | true =>
   rw[ct,LK hs m (j+1) fuel (a+1) (by omega) (by omega) (by omega)]
   simp;congr 1;omega
  | false =>
   rw[cf,LK hs m (j+1) fuel a (by omega) (by omega) (by omega)]
   simp
theorem eg {N:Nat} {L:List Int} {n:Nat} {t o:Bool} {K:Int→O R} (hn:n=L.length) (hs:L.length<1000000) (hN:L.length<N):To N (Ax L) n t o K=K (vW L:Int):=by
 subst hn
 rw[JQ];unfold AI
 have:=LK (R:=R) (N:=N) (L:=L) (t:=t) (o:=o) (K:=K) hs L.length 0 N 0 (by omega) hN (by omega)
 simp only[Acz,Ab8] at this
 rw[vW,List.range_eq_range']
 exact this
def PT (gone:List Int):List (Nat×Nat)→Nat→List (Nat×Nat)
 | [],_=>[]
 | e::r,j=>cond (gone.contains (j:Int)) (PT gone r (j+1)) (e::PT gone r (j+1))
theorem eh {N:Nat} {es:List (Nat×Nat)} {gone:List Int} {n:Nat} {t o t2 o2:Bool} {K:Bool→O R} (z:es.length≤1000) (hlN:es.length<N) (hn:n≤1000) (hN:n*n+1000<N) (b:∀ e ∈ es,e.1<n∧e.2<n) (q:Dr gone.length N):∀ (m j fuel:Nat) (A:List (Nat×Nat)),j+m=es.length→m<fuel→A.length≤j→(∀ e ∈ A,e.1<n∧e.2<n) →
  D2 N K (n:Int) (es.flatMap Bm) es.length t o (Ax gone) gone.length t2 o2 fuel A.length (j:Int) (A.flatMap Bm)=K (decide ((F0 n (A++PT gone (es.drop j) j):Int)>(F0 n es:Int)))
 | 0,j,fuel+1,A,C,_,hA,hAe=>by
  rw[D2];unfold Jn
  obtain⟨L,a1,a2,a3⟩:=PS (R:=R) (N:=N) (es:=A) (n:=n) (t:=false) (o:=true) ⟨by omega,by omega⟩ hn hN hAe
  obtain⟨L',i,s,u⟩:=PS (R:=R) (N:=N) (es:=es) (n:=n) (t:=false) (o:=o) ⟨by omega,by omega⟩ hn hN b
  have l1:=a1.len;have l2:=i.len
  rw[G9 (by omega),cf,Bo (l:=es) (by omega),PT,Acp,Ab0 (by rw[HE];exact Ab3 _),a3 _ _ rfl,Acf,Ab0 (by rw[Eb];omega),eg (by omega) (by omega) (by omega),u _ _ rfl,Ab0 (by rw[Eb];omega),eg (by omega) (by omega) (by omega),WX a1 a2 hAe,WX i s b]
 | m+1,j,fuel+1,A,C,I,hA,hAe=>by
  rw[D2];unfold Jn
  have h:j<es.length:=by omega
  have d:=eh (N:=N) (es:=es) (gone:=gone) (n:=n) (t:=t) (o:=o) (t2:=t2) (o2:=o2) (K:=K) z hlN hn hN b q m (j+1) fuel (A++[es[j]]) (by omega) (by omega) (by simp;omega) (by
   intro e v
   rcases Aca.1 v with k | k
   ·exact hAe e k
   ·simp at k;subst k;exact b _ (Acg h))
  have y:=eh (N:=N) (es:=es) (gone:=gone) (n:=n) (t:=t) (o:=o) (t2:=t2) (o2:=o2) (K:=K) z hlN hn hN b q m (j+1) fuel A (by omega) (by omega) (by omega) hAe
  rw[G4 h,ct,AJ rfl q,Ab h,ct,Ab2,Ap N6 _ _ h,Bc (l:=es) h,PT]
  generalize es[j]=e at *
  have i:ble 2 (List.length (Bm e++List.flatMap Bm (drop (j+1) es)))=true:=by rw[Cn,Ab4,N6];simp
  have s:take 2 (Bm e++List.flatMap Bm (drop (j+1) es))=Bm e:=Acj (N6 e)
  have u:(ble (A.length+1) 140737488355328&&ble ((A.length+1)*16) 140737488355328)=true:=by rw[Cn,Cn];simp;omega
  have D:(!o||Aw (Bm e))=true:=by simp[Bm,Aw]
  have F:take 2 (setCells [(.int .i64 (0:Int)),(.int .i64 (0:Int))] 0 (Bm e))=Bm e:=rfl
  have G:take (A.length*2) (A.flatMap Bm)++Bm e=(A++[e]).flatMap Bm:=by
   rw[Ab0 (by rw[HE];exact Ab3 _)];simp
  rw[i,ct,s,D,ct,N6,show(beq 2 2&&ble 2 2)=true from rfl,ct,u,ct,F,G,Bf (by omega)]
  cases gone.contains (j:Int) with
  | true=>simp only[Aea,cond_false,cond_true];exact y
  | false =>
   simp only[Acv,cond_true,cond_false]
   rw[Ab4] at d
   simpa using d
theorem ei {N:Nat} {es:List (Nat×Nat)} {gone:List Int} {n m m2:Nat} {t o t2 o2:Bool} {K:Bool→O R} (d:m=es.length) (b:m2=gone.length) (i:es.length≤1000) (hlN:es.length<N) (hn:n≤1000) (hN:n*n+1000<N) (j:∀ e ∈ es,e.1<n∧e.2<n) (k:Dr gone.length N) :
  Lt N (n:Int) (es.flatMap Bm) m t o (Ax gone) m2 t2 o2 K=K (decide ((F0 n (PT gone es 0):Int)>(F0 n es:Int))):=by
 subst d b
 rw[Wb];unfold N5
 have:=eh (R:=R) (N:=N) (es:=es) (gone:=gone) (n:=n) (t:=t) (o:=o) (t2:=t2) (o2:=o2) (K:=K) i hlN hn hN j k es.length 0 N [] (by omega) hlN (by simp) (by simp)
 simpa using this
theorem Ck {p:B8} {ok:Bool} {w:Int×Int×Int} {e:{ e:Int // e≠0 }} (h:nd p ok w e=none):p=none∧ok=true:=by
 rcases p with _ | x
 ·cases ok
  ·simp[nd] at h
  ·exact⟨rfl,rfl⟩
 ·simp[nd] at h
theorem Ms {α:Type} {f:Nat→α→B8→B8} (d:∀ j a x,f j a (some x)=some x):∀ (l:List α) (j:Nat) (p:B8),A9 f l j p=none→p=none∧∀ i (h:i<l.length),f (j+i) l[i] none=none
 | [],j,p,h=>by rw[A9] at h;exact⟨h,fun i hi=>by simp at hi⟩
 | a::r,j,p,h=>by
  rw[A9] at h
  obtain⟨b,e⟩:=Ms d r (j+1) _ h
  have k:p=none:=by
   rcases p with _ | x
   ·rfl
   ·rw[d] at b;cases b
  subst k
  refine⟨rfl,fun i hi=>?_⟩
  cases i with
  | zero=>simpa using b
  | succ i=>have:=e i (by simpa using hi);rw[show j+1+i=j+(i+1) by omega] at this;simpa using this
theorem HF {c:CaseD} (j:Nat) (x:BusD) (y:(Int×Int×Int)×{ e:Int // e≠0 }):n7 c j x (some y)=some y:=rfl
theorem Uw {c:CaseD} (j:Nat) (x:LineD) (y:(Int×Int×Int)×{ e:Int // e≠0 }):FI c j x (some y)=some y:=rfl
theorem Kc {c:CaseD} (j:Nat) (x:StoreD) (y:(Int×Int×Int)×{ e:Int // e≠0 }):W3 c j x (some y)=some y:=rfl
theorem M7 {c:CaseD} (j:Nat) (x:TieD) (y:(Int×Int×Int)×{ e:Int // e≠0 }):n8 c j x (some y)=some y:=rfl
theorem Pe {c:CaseD} (j:Nat) (x:UnitD) (y:(Int×Int×Int)×{ e:Int // e≠0 }):JV c j x (some y)=some y:=by
 show cond (x.state==2) _ _=_
 cases x.state==2<;>rfl
def LL (c:CaseD):B8 :=
 let p:=TR c none
 let p:=A9 (n7 c) c.buses.l 0 p
 let p:=A9 (FI c) c.lines.l 0 p
 let p:=A9 (JV c) c.units.l 0 p
 let p:=A9 (W3 c) c.stores.l 0 p
 let p:=A9 (n8 c) c.ties.l 0 p
 A9 (TU c) c.outs.l 0 p
noncomputable def uO (c:CaseD) (h:Int) (o:OutD):Bool :=
 (F0 c.buses.l.length (((As c h).filter fun l=>!o.lines.l.contains l).map (Dk c)):Int)==(F0 c.buses.l.length ((As c h).map (Dk c)):Int)
noncomputable def nh (c:CaseD) (h:Int) (j:Nat) (o:OutD) (p:B8):B8:=nd p (uO c h o) (6,j,h) Abj
noncomputable def Pf (c:CaseD):Nat→Nat→B8→B8
 | 0,_,p=>p
 | m+1,j,p=>Pf c m (j+1) (A9 (nh c j) c.outs.l 0 p)
theorem sc {c:CaseD} {h:Int} (j:Nat) (x:OutD) (y:(Int×Int×Int)×{ e:Int // e≠0 }):nh c h j x (some y)=some y:=rfl
theorem XA {c:CaseD} {y:(Int×Int×Int)×{ e:Int // e≠0 }}:∀ (m j:Nat),Pf c m j (some y)=some y
 | 0,_=>rfl
 | m+1,j=>by rw[Pf,A4 (fun j a=>sc j a y)];exact XA m (j+1)
noncomputable def Ig (c:CaseD):B8:=match LL c with
 | some x=>some x
 | none=>Pf c c.hours.toNat 0 none
structure PreV (c:CaseD):Prop where
 hours:1≤c.hours∧c.hours≤24
 nb:c.buses.l.length≤32
 nl:c.lines.l.length≤64
 no:c.outs.l.length≤64
 line:∀ x ∈ c.lines.l,0≤x.fr∧x.fr.toNat<c.buses.l.length∧0≤x.tl∧x.tl.toNat<c.buses.l.length
 out:∀ x ∈ c.outs.l,x.lines.l.length≤2
theorem ic {c:CaseD} (h:LL c=none):PreV c:=by
 unfold LL at h
 obtain⟨u,o6⟩:=Ms (fun _ _ _=>I7) _ _ _ h
 obtain⟨v,o5⟩:=Ms (fun j a x=>M7 j a x) _ _ _ u
 obtain⟨y,o4⟩:=Ms (fun j a x=>Kc j a x) _ _ _ v
 obtain⟨z,o3⟩:=Ms (fun j a x=>Pe j a x) _ _ _ y
 obtain⟨A,o2⟩:=Ms (fun j a x=>Uw j a x) _ _ _ z
 obtain⟨q,o1⟩:=Ms (fun j a x=>HF j a x) _ _ _ A
 unfold TR at q
 obtain⟨C,D⟩:=Ck q
 obtain⟨F,_⟩:=Ck C
 obtain⟨G,_⟩:=Ck F
 obtain⟨I,_⟩:=Ck G
 obtain⟨w3,e⟩:=Ck I
 obtain⟨K,b⟩:=Ck w3
 obtain⟨L,_⟩:=Ck K
 obtain⟨w0,_⟩:=Ck L
 obtain⟨_,k⟩:=Ck w0
 unfold Fv at k b
 simp at k b e D
 refine⟨k,by omega,by omega,by omega,fun x m=>?_,fun x m=>?_⟩
 ·obtain⟨i,hi,rfl⟩:=Aer m
  have:=o2 i hi
  unfold FI PP at this
  obtain⟨a,_⟩:=Ck this
  obtain⟨a,_⟩:=Ck a
  obtain⟨a,_⟩:=Ck a
  obtain⟨a,_⟩:=Ck a
  obtain⟨a,_⟩:=Ck a
  obtain⟨a,_⟩:=Ck a
  obtain⟨a,_⟩:=Ck a
  obtain⟨a,_⟩:=Ck a
  obtain⟨a,s⟩:=Ck a
  obtain⟨_,d⟩:=Ck a
  unfold JT at s d
  simp at s d
  omega
 ·obtain⟨i,hi,rfl⟩:=Aer m
  have:=o6 i hi
  unfold TU TT at this
  obtain⟨a,_⟩:=Ck this
  obtain⟨a,_⟩:=Ck a
  obtain⟨a,_⟩:=Ck a
  obtain⟨a,_⟩:=Ck a
  obtain⟨a,_⟩:=Ck a
  obtain⟨a,_⟩:=Ck a
  obtain⟨a,_⟩:=Ck a
  obtain⟨_,d⟩:=Ck a
  simp at d
  omega
theorem PreV.lnV {c:CaseD} (v:PreV c) {h:Int} {l:Int} (j:l ∈ As c h):∃ x,LnV c l x:=by
 have:=nf h c.lines.l 0 l j
 have h0:0≤l:=by omega
 have i:l.toNat<c.lines.l.length:=by omega
 obtain⟨a,b,d,e⟩:=v.line _ (Acg i)
 exact⟨c.lines.l[l.toNat],h0,i,Ab1 i,a,b,d,e⟩
def w3 (p:B8):LA:=match p with
 | none=>[.int .i64 0,.int .i64 0,.int .i64 0]
 | some ((a,b,f),_)=>[.int .i64 a,.int .i64 b,.int .i64 f]
end
end Gx.Cf
namespace Gx
open Go Go.Proofs
set_option maxRecDepth 100000
def ni (f:Int→Option Int):Nat→Int→Option Int
 | 0,a=>some a
 | m+1,a=>cond (decide (a<0)) (some a) ((f a).bind (ni f m))
def Y_:Nat→LA→Nat→Int→Option Int
 | 0,_,_,_=>none
 | d+1,c,n,i=>cond (decide (i<0)||decide ((n:Int)≤i)) (some (-1)) (An .i64 (c.drop (i.toNat*5)) fun k=>cond (k != 0) (some (wrap .i64 (i+1))) (ni (Y_ d c n) 3 (wrap .i64 (i+1))))
noncomputable section
variable {R:Type}
def eZ (d:Nat) (c:LA) (n:Nat) (t o:Bool) (i:Int) (r0:Int→O R):O R:=(Y_ d c n i).bind r0
def eR (F:KF R):Int→O R:=fun z=>F (iv z) []
def uP (d:Nat):LA→Ao→Option ((R:Type)→KF R→O R)
 | [.imm c n 5 t o,.int .i64 i],[]=>some fun _ k=>eZ d c n t o i (eR k)
 | _,_=>none
def vL (d:Nat):Prop:=∀ c n t o i v,Y_ d c n i=some v→lZ Tryz.prog 54 [.imm c n 5 t o,.int .i64 i] [] (iv v) []
theorem vY (d:Nat) (a:LA) (h:Ao) (g) (e:uP d a h=some g) (R:Type) (k:KF R):g R k=(g (AV×Ao) fun v h=>some (v,h)).bind fun p=>k p.1 p.2:=by
 unfold uP at e
 split at e
 ·cases e;unfold eZ eR;cases Y_ d _ _ _<;>rfl
 ·cases e
theorem rL {d:Nat} (H:vL d) (a:LA) (h:Ao) (g) (b:AV) (h':Ao) (e:uP d a h=some g) (j:(g (AV×Ao) fun v h=>some (v,h))=some (b,h')):lZ Tryz.prog 54 a h b h':=by
 unfold uP at e
 split at e
 ·rename_i c n t o i
  cases e
  unfold eZ eR at j
  cases hq:Y_ d c n i with
  | none=>rw[hq] at j;cases j
  | some v=>rw[hq] at j;cases j;exact H c n t o i v hq
 ·cases e
def eB (d:Nat) (H:vL d):Bd Tryz.prog:=⟨54,uP d,vY d,rL H⟩
def xD (d:Nat) (r0:Int→O R) (c0:LA) (n0:Nat) (t0 o0:Bool) (k1:Int→Int→O R) (g1_i5 g1_i6:Int):O R :=
 (cond ((decide (g1_i6<3))==true) (cond (cond true (decide (g1_i5≥0)) false) (eZ d c0 n0 false o0 g1_i5 fun y2=>k1 y2 (wrap .i64 (g1_i6+1))) (r0 g1_i5)) (r0 g1_i5))
def xf (d:Nat) (r0:Int→O R) (c0:LA) (n0:Nat) (t0 o0:Bool):Nat→Int→Int→O R
 | 0,_,_=>none
 | n+1,g1_i5,g1_i6=>(xD d r0 c0 n0 t0 o0 (xf d r0 c0 n0 t0 o0 n) g1_i5 g1_i6)
def xE (r0:Int→O R) (c0:LA) (n0:Nat) (t0 o0:Bool) (i1:Int) (q1:Int→Int→O R):O R :=
 (cond (Af i1 n0) (An .i64 (c0.drop ((i1.toNat)*5)) fun x1=>cond (x1 != 0) (r0 (wrap .i64 (i1+1))) (q1 (wrap .i64 (i1+1)) 0)) none)
def xt (d:Nat) (r0:Int→O R) (c0:LA) (n0:Nat) (t0 o0:Bool) (i1:Int):O R:=(xE r0 c0 n0 t0 o0 i1 (xf d r0 c0 n0 t0 o0 5))
def ek (r0:Int→O R) (q0:O R) (c0:LA) (n0:Nat) (t0 o0:Bool) (i1:Int):O R :=
 (cond ((decide (i1<0))==false) (cond (cond false true (decide (i1≥(n0:Int)))) (r0 (-1)) q0) (r0 (-1)))
def Aa0:Hints:={ H:=(hK 1 (hJ [0,1] hL (hK 2 (hS (hK 1 (hS (hP [0,5,6] hL) hL)) hL)))) }
def Aa1 (d:Nat) (H:vL d) (F:KF R):=Jd Tryz.f54 Aa0 [eB d H] [] 5 F
def Abk (c0:LA) (n0:Nat) (t0 o0:Bool) (K:St→O R):=fun g1_i5 g1_i6=>K ⟨[(0,(.imm c0 n0 5 t0 o0)),(5,(iv g1_i5)),(6,(iv g1_i6))],[]⟩
def Abl (c0:LA) (n0:Nat) (t0 o0:Bool) (i1:Int) (K:St→O R):=K ⟨[(0,(.imm c0 n0 5 t0 o0)),(1,(iv i1))],[]⟩
theorem xF (d:Nat) (H:vL d) (F:KF R) (b n0 t0 o0):∀ n,Abk b n0 t0 o0 (Am (Aa1 d H F (pz 21828) []) n)=(xf d (eR F) b n0 t0 o0 n):=Fc fun n e=>(By (xD d (eR F) b n0 t0 o0) e:_)
theorem xG (d:Nat) (H:vL d) (F:KF R) (b n0 t0 o0 i1):Abl b n0 t0 o0 i1 (Bv (Aa1 d H F (pz 21) []))=(xt d (eR F) b n0 t0 o0 i1):=(By (xE (eR F) b n0 t0 o0 i1) ((lW ..).trans (xF d H ..)):_)
def vZ (d:Nat) (H:vL d):=Dq 5 54 [eB d H] Aa0 (fun
 | [(.imm c0 n0 5 t0 o0),(.int .i64 i1)],[]=>some fun _ k=>(ek (eR k) (xt d (eR k) c0 n0 t0 o0 i1) c0 n0 t0 o0 i1)
 | _,_=>none) fun _ _=>by split;intro R F;exact(By (ek (eR F) · _ _ _ _ _) ((jW ..).trans (xG d H ..)):_);trivial
theorem qN (d:Nat) (c:LA) (n:Nat) (t o:Bool) (i:Int) (b:Int→O R):ek b (xt d b c n t o i) c n t o i=(Y_ (d+1) c n i).bind b:=by
 unfold ek
 rw[Y_]
 cases s:decide (i<0) with
 | true=>simp
 | false =>
  cases e:decide ((n:Int)≤i) with
  | true=>simp[e]
  | false =>
   simp only[decide_eq_false_iff_not] at s e
   have u:Af i n=true:=by unfold Af;simp;omega
   have v:decide (i≥(n:Int))=false:=by simpa using e
   simp only[beq_self_eq_true,cond_true,cond_false,v,Bool.or_self]
   unfold xt xE
   rw[u,cond_true]
   unfold An
   cases (c.drop (i.toNat*5)).head? with
   | none=>rfl
   | some x =>
    simp only[Acn]
    cases CU .i64 x with
    | none=>rfl
    | some k =>
     simp only[Acn]
     cases k != 0 with
     | true=>rfl
     | false =>
      simp only[cond_false]
      have loop:∀ (m:Nat) (a j:Int),j+m=3→0≤j→xf d b c n t o (m+2) a j=(ni (Y_ d c n) m a).bind b:=by
       intro m
       induction m with
       | zero =>
        intro a j z _
        obtain rfl:j=3:=by omega
        rfl
       | succ m A =>
        intro a j z h0
        rw[xf,xD,decide_eq_true (show j<3 by omega),ni]
        by_cases q:a<0
        ·rw[decide_eq_false (show ¬ a≥0 by omega),decide_eq_true q];rfl
        ·rw[decide_eq_true (show a≥0 by omega),decide_eq_false q]
         show(Y_ d c n a).bind (fun y2=>xf d b c n t o (m+2) y2 (wrap .i64 (j+1)))=_
         have C:wrap .i64 (j+1)=j+1:=by
          rcases(show j=0∨j=1∨j=2 by omega) with rfl | rfl | rfl<;>rfl
         rw[C,cond_false,Abz]
         congr 1;funext y
         exact A y (j+1) (by omega) (by omega)
      exact loop 3 _ 0 (by omega) (by omega)
theorem uQ:vL 0:=fun c n t o i v h=>by cases h
theorem uR {d:Nat} (H:vL d):vL (d+1):=fun c n t o i v h=>by
 refine(vZ d H).ok [.imm c n 5 t o,.int .i64 i] [] _ (iv v) [] rfl ?_
 show ek (eR fun v h=>some (v,h)) (xt d (eR fun v h=>some (v,h)) c n t o i) c n t o i=_
 rw[qN,h];rfl
theorem rM:∀ d,vL d
 | 0=>uQ
 | d+1=>uR (rM d)
def PU (N:Nat) (c:LA) (n:Nat) (t o:Bool) (i:Int) (r0:Int→O R):O R:=eZ N c n t o i r0
def PV:=(Ai (@PU R)).1
theorem We:@PV R=@PU R:=(Ai _).2
def ig (N:Nat):Bd Tryz.prog:=⟨54,fun
 | [.imm c n 5 t o,.int .i64 i],[]=>some fun _ k=>PV N c n t o i (eR k)
 | _,_=>none,(fun a h g e R k=>by
  split at e
  ·cases e;dsimp only;rw[We,We];unfold PU eZ eR;cases Y_ N _ _ _<;>rfl
  ·cases e),(fun a h g res h' e hh=>by
  split at e
  ·cases e;dsimp only at hh;rw[We] at hh;rename_i c n t o i;exact rL (rM N) [.imm c n 5 t o,.int .i64 i] [] _ res h' rfl hh
  ·cases e)⟩
end
end Gx
namespace Gx
open Go Go.Proofs
set_option maxRecDepth 100000
noncomputable section
variable {R:Type} (N:Nat)
def N7 (k0:Int→LA→O R) (r0:LA→Int→O R) (b:Bool) (a:LA) (j:Int) (aj:LA):O R :=
 (cond (ble 8 (a.length)) (B6 N (a.take 8) b 1 j aj fun ak=>cond (ble 8 (a.length)) (Az 3 (a.drop 2) fun al am=>cond (Af j am) (Az 1 ((al.drop ((j.toNat)*3)).drop 1) fun an ao=>Cg N (a.take 8) b an ao false b 0 1048576 1 j 1 ak fun ap=>Az 3 (a.drop 2) fun aq ar=>cond (Af j ar) (An .i64 ((aq.drop ((j.toNat)*3)).drop 2) fun au=>Ak N 0 1048576 [(.int .i64 au)] 1 false true fun av=>Aa N av 1 j 2 3 ap fun aw=>k0 (wrap .i64 (j+1)) aw) none) none) none) none)
def N8 (k7:Int→LA→O R) (k9:Int→Int→LA→O R) (r0:LA→Int→O R) (c d:Nat) (b:Bool) (a f g:LA) (k10:Int→Int→Nat→Int→LA→LA→O R) (o l:Int) (i:Nat) (m:Int) (v w:LA):O R :=
 (cond (decide (m<(d:Int))) (Az 4 (a.drop 7) fun ax ay=>cond (Af l ay) (Az 1 ((ax.drop ((l.toNat)*4)).drop 1) fun az ba=>cond (Af m d) (An .i64 (g.drop (0+((m.toNat)*1))) fun bb=>AG N az ba false b bb fun bc=>cond bc (cond ((ble (i+1) 140737488355328)&&(ble ((i+1)*8) 140737488355328)) (k10 o l (i+1) (wrap .i64 (m+1)) v ((w.take (i*1))++[(.int .i64 m)])) none) (k10 o l i (wrap .i64 (m+1)) v w)) none) none) (Az 3 (a.drop 2) fun ce bd=>Lt N (bd:Int) (f.take (c*2)) c false true (w.take (i*1)) i false true fun be=>Aa N (!be) 6 l o 13 v fun bf=>k9 o (wrap .i64 (l+1)) bf))
def Gu (k7:Int→LA→O R) (k9:Int→Int→LA→O R) (r0:LA→Int→O R) (c d:Nat) (b:Bool) (a f g:LA):Nat→Int→Int→Nat→Int→LA→LA→O R
 | 0,_,_,_,_,_,_=>none
 | n+1,o,l,i,m,v,w=>(N8 N k7 k9 r0 c d b a f g (Gu k7 k9 r0 c d b a f g n) o l i m v w)
def Qf (N:Nat) (k7:Int→LA→O R) (r0:LA→Int→O R) (c d:Nat) (b:Bool) (a f g:LA) (k9:Int→Int→LA→O R) (q10:Int→Int→Nat→Int→LA→LA→O R) (ac ad:Int) (ae:LA):O R :=
 (Az 4 (a.drop 7) fun cf bg=>cond (decide (ad<(bg:Int))) (q10 ac ad 0 0 ae []) (k7 (wrap .i64 (ac+1)) ae))
def Gg (k7:Int→LA→O R) (r0:LA→Int→O R) (c d:Nat) (b:Bool) (a f g:LA):Nat→Int→Int→LA→O R
 | 0,_,_,_=>none
 | n+1,ac,ad,ae=>(Qf N k7 r0 c d b a f g (Gg k7 r0 c d b a f g n) (Gu N k7 (Gg k7 r0 c d b a f g n) r0 c d b a f g N) ac ad ae)
def W6 (k7:Int→LA→O R) (r0:LA→Int→O R) (b:Bool) (a:LA) (q9:Nat→Nat→LA→LA→Int→Int→LA→O R) (af:Int) (ai:LA):O R :=
 (cond (ble 8 (a.length)) (Yj N (a.take 8) b af fun c d f g=>q9 c d f g af 0 ai) none)
def Td (k7:Int→LA→O R) (r0:LA→Int→O R) (b:Bool) (a:LA) (af:Int) (ai:LA):O R:=(W6 N k7 r0 b a (fun c d f g=>Gg N k7 r0 c d b a f g N) af ai)
def Lz (N:Nat) (r0:LA→Int→O R) (b:Bool) (a:LA) (k7:Int→LA→O R) (q8:Int→LA→O R) (ag:Int) (h:LA):O R :=
 (An .i64 a fun bh=>cond ((decide (ag<bh))==true) (An .i64 (h.drop 3) fun bi=>cond (cond true (bi==0) false) (q8 ag h) (cond (ble 3 (h.length)) (An .i64 (h.drop 3) fun bj=>cond ((beq ((h.take 3).length) 3)&&((ble 3 3)&&(!false))) (cond (ble 3 ((setCells [(.int .i64 0),(.int .i64 0),(.int .i64 0)] 0 (h.take 3)).length)) (r0 ((setCells [(.int .i64 0),(.int .i64 0),(.int .i64 0)] 0 (h.take 3)).take 3) bj) none) none) none)) (cond (ble 3 (h.length)) (An .i64 (h.drop 3) fun bk=>cond ((beq ((h.take 3).length) 3)&&((ble 3 3)&&(!false))) (cond (ble 3 ((setCells [(.int .i64 0),(.int .i64 0),(.int .i64 0)] 0 (h.take 3)).length)) (r0 ((setCells [(.int .i64 0),(.int .i64 0),(.int .i64 0)] 0 (h.take 3)).take 3) bk) none) none) none))
def Cx (r0:LA→Int→O R) (b:Bool) (a:LA):Nat→Int→LA→O R
 | 0,_,_=>none
 | n+1,ag,h=>(Lz N r0 b a (Cx r0 b a n) (Td N (Cx r0 b a n) r0 b a) ag h)
def Qg (r0:LA→Int→O R) (b:Bool) (a:LA) (k6:Int→LA→O R) (q7:Int→LA→O R) (x:Int) (p:LA):O R :=
 (Az 4 (a.drop 7) fun cg bl=>cond ((decide (x<(bl:Int)))==true) (An .i64 (p.drop 3) fun bm=>cond (cond true (bm==0) false) (cond (ble 8 (a.length)) (Fo N (a.take 8) b x p fun bn=>k6 (wrap .i64 (x+1)) bn) none) (q7 0 p)) (q7 0 p))
def Ih (r0:LA→Int→O R) (b:Bool) (a:LA):Nat→Int→LA→O R
 | 0,_,_=>none
 | n+1,x,p=>(Qg N r0 b a (Ih r0 b a n) (Cx N r0 b a N) x p)
def Qh (r0:LA→Int→O R) (b:Bool) (a:LA) (k5:Int→LA→O R) (q6:Int→LA→O R) (y:Int) (q:LA):O R :=
 (Az 5 (a.drop 6) fun ch bo=>cond ((decide (y<(bo:Int)))==true) (An .i64 (q.drop 3) fun bp=>cond (cond true (bp==0) false) (cond (ble 8 (a.length)) (Me N (a.take 8) b y q fun bq=>k5 (wrap .i64 (y+1)) bq) none) (q6 0 q)) (q6 0 q))
def Ii (r0:LA→Int→O R) (b:Bool) (a:LA):Nat→Int→LA→O R
 | 0,_,_=>none
 | n+1,y,q=>(Qh N r0 b a (Ii r0 b a n) (Ih N r0 b a N) y q)
def Qi (r0:LA→Int→O R) (b:Bool) (a:LA) (k4:Int→LA→O R) (q5:Int→LA→O R) (z:Int) (r:LA):O R :=
 (Az 9 (a.drop 5) fun ci br=>cond ((decide (z<(br:Int)))==true) (An .i64 (r.drop 3) fun bs=>cond (cond true (bs==0) false) (cond (ble 8 (a.length)) (Jl N (a.take 8) b z r fun bt=>k4 (wrap .i64 (z+1)) bt) none) (q5 0 r)) (q5 0 r))
def Ij (r0:LA→Int→O R) (b:Bool) (a:LA):Nat→Int→LA→O R
 | 0,_,_=>none
 | n+1,z,r=>(Qi N r0 b a (Ij r0 b a n) (Ii N r0 b a N) z r)
def Qj (r0:LA→Int→O R) (b:Bool) (a:LA) (k3:Int→LA→O R) (q4:Int→LA→O R) (aa:Int) (s:LA):O R :=
 (Az 22 (a.drop 4) fun cj bu=>cond ((decide (aa<(bu:Int)))==true) (An .i64 (s.drop 3) fun bv=>cond (cond true (bv==0) false) (cond (ble 8 (a.length)) (Hg N (a.take 8) b aa s fun bw=>k3 (wrap .i64 (aa+1)) bw) none) (q4 0 s)) (q4 0 s))
def Ik (r0:LA→Int→O R) (b:Bool) (a:LA):Nat→Int→LA→O R
 | 0,_,_=>none
 | n+1,aa,s=>(Qj N r0 b a (Ik r0 b a n) (Ij N r0 b a N) aa s)
def Qk (r0:LA→Int→O R) (b:Bool) (a:LA) (k2:Int→LA→O R) (q3:Int→LA→O R) (ab:Int) (t:LA):O R :=
 (Az 12 (a.drop 3) fun ck bx=>cond ((decide (ab<(bx:Int)))==true) (An .i64 (t.drop 3) fun bz=>cond (cond true (bz==0) false) (cond (ble 8 (a.length)) (He N (a.take 8) b ab t fun ca=>k2 (wrap .i64 (ab+1)) ca) none) (q3 0 t)) (q3 0 t))
def Il (r0:LA→Int→O R) (b:Bool) (a:LA):Nat→Int→LA→O R
 | 0,_,_=>none
 | n+1,ab,t=>(Qk N r0 b a (Il r0 b a n) (Ik N r0 b a N) ab t)
def Ql (N:Nat) (r0:LA→Int→O R) (b:Bool) (a:LA) (k0:Int→LA→O R) (q1:Int→LA→O R) (q2:Int→LA→O R) (ah:Int) (u:LA):O R :=
 (Az 3 (a.drop 2) fun cl cb=>cond ((decide (ah<(cb:Int)))==true) (An .i64 (u.drop 3) fun cc=>cond (cond true (cc==0) false) (q1 ah u) (q2 0 u)) (q2 0 u))
def Gh (r0:LA→Int→O R) (b:Bool) (a:LA):Nat→Int→LA→O R
 | 0,_,_=>none
 | n+1,ah,u=>(Ql N r0 b a (Gh r0 b a n) (N7 N (Gh r0 b a n) r0 b a) (Il N r0 b a N) ah u)
def AQ (r0:LA→Int→O R) (q0:Int→LA→O R) (a:LA) (b:Bool):O R :=
 (cond (ble 8 (a.length)) (Gc N (a.take 8) b [(.int .i64 0),(.int .i64 0),(.int .i64 0),(.int .i64 0)] fun cd=>q0 0 cd) none)
def Yq:=(Ai fun N a b r0=>AQ (R:=R) N r0 (Gh N r0 b a N) a b).1
theorem JW (a b d):(@Yq R N a b d)=(AQ N d (Gh N d b a N) a b):=by rw[Yq,(Ai _).2]
def PW:Hints:={ H:=(hK 3 (hS (hK 1 (hS (hP [1,2,4,5] (hJ [1,2,4,5] hL hL)) hL)) (hS (hK 1 (hS (hP [1,2,4,6] hL) hL)) (hS (hK 1 (hS (hP [1,2,4,7] hL) hL)) (hS (hK 1 (hS (hP [1,2,4,8] hL) hL)) (hS (hK 1 (hS (hP [1,2,4,9] hL) hL)) (hS (hK 1 (hS (hP [1,2,4,10] hL) hL)) (hS (hK 1 (hS (hP [1,2,4,11] (hJ [1,2,4,11] hL (hS (hS (hK 2 (hS (hP [1,2,4,11,12,13,14] (hK 1 (hS (hS (hK 1 (hS (hK 1 (hS (hP [1,2,4,11,12,13,14,15,16] hL) hL)) hL)) hL) hL))) hL)) hL) hL))) hL)) hL)))))))),nils:=[(15,1)],modes:=[(3,0),(0,0)] }
def XB:Qr:=[HU N,D0 N,J6 N,Cu N,Bk N,LG N,LH N,IA N,PH N,FG N,nZ N,TL N,YY N]
def Dl (F:KF R):=Jd Tryz.f35 PW (XB N) [] N F
def ku (b:Bool) (a:LA) (K:St→O R):=fun j aj=>K ⟨[(1,(op 0)),(2,(op 1)),(4,(op 2)),(5,(iv j))],(hq [(bP b 0 a),(bQ 0 [(iv 0),(iv 0),(iv 0)]),(bQ 0 aj)])⟩
def gj (c d:Nat) (b:Bool) (a f g:LA) (K:St→O R):=fun o l i m v w=>K ⟨[(1,(op 0)),(2,(op 1)),(4,(op 2)),(11,(iv o)),(12,(.own 300003 0 c)),(13,(.own 300004 0 d)),(14,(iv l)),(15,(.own 300005 0 i)),(16,(iv m))],(hq [(bP b 0 a),(bQ 0 [(iv 0),(iv 0),(iv 0)]),(bQ 0 v),(bQ 2 f),(bQ 1 g),(bQ 1 w)])⟩
def AR (c d:Nat) (b:Bool) (a f g:LA) (K:St→O R):=fun ac ad ae=>K ⟨[(1,(op 0)),(2,(op 1)),(4,(op 2)),(11,(iv ac)),(12,(.own 300003 0 c)),(13,(.own 300004 0 d)),(14,(iv ad))],(hq [(bP b 0 a),(bQ 0 [(iv 0),(iv 0),(iv 0)]),(bQ 0 ae),(bQ 2 f),(bQ 1 g)])⟩
def kv (b:Bool) (a:LA) (K:St→O R):=fun af ai=>K ⟨[(1,(op 0)),(2,(op 1)),(4,(op 2)),(11,(iv af))],(hq [(bP b 0 a),(bQ 0 [(iv 0),(iv 0),(iv 0)]),(bQ 0 ai)])⟩
def Im (b:Bool) (a:LA) (K:St→O R):=fun ag h=>K ⟨[(1,(op 0)),(2,(op 1)),(4,(op 2)),(11,(iv ag))],(hq [(bP b 0 a),(bQ 0 [(iv 0),(iv 0),(iv 0)]),(bQ 0 h)])⟩
def kw (b:Bool) (a:LA) (K:St→O R):=fun x p=>K ⟨[(1,(op 0)),(2,(op 1)),(4,(op 2)),(10,(iv x))],(hq [(bP b 0 a),(bQ 0 [(iv 0),(iv 0),(iv 0)]),(bQ 0 p)])⟩
def ky (b:Bool) (a:LA) (K:St→O R):=fun y q=>K ⟨[(1,(op 0)),(2,(op 1)),(4,(op 2)),(9,(iv y))],(hq [(bP b 0 a),(bQ 0 [(iv 0),(iv 0),(iv 0)]),(bQ 0 q)])⟩
def kz (b:Bool) (a:LA) (K:St→O R):=fun z r=>K ⟨[(1,(op 0)),(2,(op 1)),(4,(op 2)),(8,(iv z))],(hq [(bP b 0 a),(bQ 0 [(iv 0),(iv 0),(iv 0)]),(bQ 0 r)])⟩
def lA (b:Bool) (a:LA) (K:St→O R):=fun aa s=>K ⟨[(1,(op 0)),(2,(op 1)),(4,(op 2)),(7,(iv aa))],(hq [(bP b 0 a),(bQ 0 [(iv 0),(iv 0),(iv 0)]),(bQ 0 s)])⟩
def lB (b:Bool) (a:LA) (K:St→O R):=fun ab t=>K ⟨[(1,(op 0)),(2,(op 1)),(4,(op 2)),(6,(iv ab))],(hq [(bP b 0 a),(bQ 0 [(iv 0),(iv 0),(iv 0)]),(bQ 0 t)])⟩
def PX (b:Bool) (a:LA) (K:St→O R):=fun ah u=>K ⟨[(1,(op 0)),(2,(op 1)),(4,(op 2)),(5,(iv ah))],(hq [(bP b 0 a),(bQ 0 [(iv 0),(iv 0),(iv 0)]),(bQ 0 u)])⟩
theorem Y' (Q0) (F:KF R) (b a):ku b a (Bv (Dl N F (pz 87105) [Q0]))=(N7 N (PX b a Q0) (O1 F) b a):=by kernel_rfl
theorem TV (Q7 Q9) (F:KF R) (c d b a f g):∀ n,gj c d b a f g (Am (Dl N F (pz 24019179469541444) [Q7,Q9]) n)=(Gu N (Im b a Q7) (AR c d b a f g Q9) (O1 F) c d b a f g n):=Fc fun n e=>(By (N8 N (Im b a Q7) (AR c d b a f g Q9) (O1 F) c d b a f g) e:_)
theorem ZA (Q7) (F:KF R) (c d b a f g):∀ n,AR c d b a f g (Am (Dl N F (pz 366503592980) [Q7]) n)=(Gg N (Im b a Q7) (O1 F) c d b a f g n):=Fc fun n e=>(MW (Qf N (Im b a Q7) (O1 F) c d b a f g) e ((lW ..).trans ((TV ..).trans (oY (Gu _ _ · _ _ _ _ _ _ _ _) e))):_)
theorem ZB (Q7) (F:KF R) (b a):kv b a (Bv (Dl N F (pz 357913665) [Q7]))=(Td N (Im b a Q7) (O1 F) b a):=(By (W6 N (Im b a Q7) (O1 F) b a) (wu fun c d f g=>(lW ..).trans (ZA ..)):_)
theorem ZC (F:KF R) (b a):∀ n,Im b a (Am (Dl N F (pz 22369604) []) n)=(Cx N (O1 F) b a n):=Fc fun n e=>(MW (Lz N (O1 F) b a) e ((jW ..).trans ((ZB ..).trans (oY (Td _ · _ _ _) e))):_)
theorem ZD (F:KF R) (b a):∀ n,kw b a (Am (Dl N F (pz 5592388) []) n)=(Ih N (O1 F) b a n):=Fc fun n e=>(MW (Qg N (O1 F) b a) e ((lW ..).trans (ZC ..)):_)
theorem ZE (F:KF R) (b a):∀ n,ky b a (Am (Dl N F (pz 1398084) []) n)=(Ii N (O1 F) b a n):=Fc fun n e=>(MW (Qh N (O1 F) b a) e ((lW ..).trans (ZD ..)):_)
theorem ZF (F:KF R) (b a):∀ n,kz b a (Am (Dl N F (pz 349508) []) n)=(Ij N (O1 F) b a n):=Fc fun n e=>(MW (Qi N (O1 F) b a) e ((lW ..).trans (ZE ..)):_)
theorem ZG (F:KF R) (b a):∀ n,lA b a (Am (Dl N F (pz 87364) []) n)=(Ik N (O1 F) b a n):=Fc fun n e=>(MW (Qj N (O1 F) b a) e ((lW ..).trans (ZF ..)):_)
theorem ZH (F:KF R) (b a):∀ n,lB b a (Am (Dl N F (pz 21828) []) n)=(Il N (O1 F) b a n):=Fc fun n e=>(MW (Qk N (O1 F) b a) e ((lW ..).trans (ZG ..)):_)
theorem ZI (F:KF R) (b a):∀ n,PX b a (Am (Dl N F (pz 5444) []) n)=(Gh N (O1 F) b a n):=Fc fun n e=>(Abf (Ql N (O1 F) b a) e ((jW ..).trans ((Y' ..).trans (oY (N7 _ · _ _ _) e))) ((lW ..).trans (ZH ..)):_)
def nk:=Dq N 35 (XB N) PW (fun
 | [(.pagg a b)],[]=>some fun _ k=>(Yq N a b (O1 k))
 | _,_=>none) fun _ _=>by split;intro R F;exact(By (AQ N (O1 F) · _ _) ((lW ..).trans (ZI ..)):_).trans (JW ..).symm;trivial
def N9 (r0:Bool→O R) (a:LA) (b:Nat) (f d:Bool) (k0:Int→O R) (c:Int):O R :=
 (cond (decide (c<(b:Int))) (cond (Af c b) (An .i64 (a.drop ((c.toNat)*4)) fun g=>cond ((decide (g<0))==false) (cond (Af c b) (An .i64 (a.drop ((c.toNat)*4)) fun h=>cond ((cond false true (decide (h≥16384)))==false) (cond ((decide (c>0))==true) (cond (Af (wrap .i64 (c - 1)) b) (An .i64 (a.drop (((wrap .i64 (c - 1)).toNat)*4)) fun i=>cond (Af c b) (An .i64 (a.drop ((c.toNat)*4)) fun j=>cond ((cond false true (cond true (decide (i≥j)) false))==false) (cond (Af c b) (cond (ble 3 (((a.drop ((c.toNat)*4)).drop 1).length)) (EA N (((a.drop ((c.toNat)*4)).drop 1).take 3) d fun l=>cond (cond false true (l==0)) (r0 false) (k0 (wrap .i64 (c+1)))) none) none) (r0 false)) none) none) (cond (Af c b) (cond (ble 3 (((a.drop ((c.toNat)*4)).drop 1).length)) (EA N (((a.drop ((c.toNat)*4)).drop 1).take 3) d fun m=>cond (cond false true (m==0)) (r0 false) (k0 (wrap .i64 (c+1)))) none) none)) (r0 false)) none) (r0 false)) none) (r0 true))
def Gv (r0:Bool→O R) (a:LA) (b:Nat) (f d:Bool):Nat→Int→O R
 | 0,_=>none
 | n+1,c=>(N9 N r0 a b f d (Gv r0 a b f d n) c)
def Wf (N:Nat) (r0:Bool→O R) (q0:Int→O R) (a:LA) (b:Nat) (f d:Bool):O R :=
 (q0 0)
def Ux:=(Ai fun N a b f d r0=>Wf (R:=R) N r0 (Gv N r0 a b f d N) a b f d).1
theorem FM (a b f d e):(@Ux R N a b f d e)=(Wf N e (Gv N e a b f d N) a b f d):=by rw[Ux,(Ai _).2]
def PY:Qr:=[p8 N]
def gk (F:KF R):=Jd Tryz.f101 VO (PY N) [] N F
def gn (a:LA) (b:Nat) (f d:Bool) (K:St→O R):=fun c=>K ⟨[(0,(.imm a b 4 f d)),(3,(iv c))],[]⟩
theorem TW (F:KF R) (a b f d):∀ n,gn a b f d (Am (gk N F (pz 324) []) n)=(Gv N (Bi F) a b f d n):=Fc fun n e=>(By (N9 N (Bi F) a b f d) e:_)
def lC:=Dq N 101 (PY N) VO (fun
 | [(.imm a b 4 f d)],[]=>some fun _ k=>(Ux N a b f d (Bi k))
 | _,_=>none) fun _ _=>by split;intro R F;exact(By (Wf N (Bi F) · _ _ _ _) ((lW ..).trans (TW ..)):_).trans (FM ..).symm;trivial
def Kd (r0:Bool→O R) (e f:Bool) (g:Int) (d:Bool) (b:LA) (c:Bool) (a:LA) (h:Bool):O R :=
 (cond h (An .i64 (a.drop 1) fun l=>cond ((l==0)==true) (An .i64 (a.drop 2) fun m=>cond ((cond true (m==0) false)==true) (An .i64 (a.drop 3) fun n=>cond ((cond true (n==0) false)==true) (Az 4 (a.drop 4) fun o p=>Ux N o p false c fun q=>r0 (cond true q false)) (r0 false)) (r0 false)) (r0 false)) (cond (g==3) (cond (e==true) (An .i64 (a.drop 2) fun r=>cond ((cond true (r==0) false)==true) (An .i64 (a.drop 3) fun s=>cond ((cond true (s==0) false)==true) (Az 4 (a.drop 4) fun ah t=>r0 (cond true ((t:Int)==0) false)) (r0 false)) (r0 false)) (r0 false)) (cond (g==4) (cond (e==true) (cond ((cond true f false)==true) (An .i64 (a.drop 3) fun u=>cond ((cond true (decide (u≥0)) false)==true) (An .i64 (a.drop 3) fun v=>Az 22 (b.drop 4) fun ai w=>cond ((cond true (decide (v<(w:Int))) false)==true) (Az 4 (a.drop 4) fun aj x=>r0 (cond true ((x:Int)==0) false)) (r0 false)) (r0 false)) (r0 false)) (r0 false)) (r0 false))))
def AS (N:Nat) (r0:Bool→O R) (d:Bool) (b:LA) (c:Bool) (a:LA) (q1:Bool→Bool→Int→Bool→O R) (e f:Bool):O R :=
 (An .i64 a fun g=>cond (g==0) (cond (e==true) (cond ((cond true f false)==true) (An .i64 (a.drop 3) fun y=>cond ((cond true (y==0) false)==true) (Az 4 (a.drop 4) fun ak z=>r0 (cond true ((z:Int)==0) false)) (r0 false)) (r0 false)) (r0 false)) (cond (g==1) (q1 e f g (g==1)) (q1 e f g (g==2))))
def Gi (r0:Bool→O R) (d:Bool) (b:LA) (c:Bool) (a:LA) (e f:Bool):O R:=(AS N r0 d b c a (fun e f g=>Kd N r0 e f g d b c a) e f)
def HG (N:Nat) (r0:Bool→O R) (q0:Bool→Bool→O R) (b:LA) (d:Bool) (a:LA) (c:Bool):O R :=
 (An .i64 (a.drop 1) fun aa=>cond ((decide (aa≥0))==true) (An .i64 (a.drop 1) fun i=>Az 22 (b.drop 4) fun al j=>An .i64 (a.drop 2) fun ab=>cond ((decide (ab≥0))==true) (An .i64 (a.drop 2) fun ac=>An .i64 b fun ad=>q0 (cond true (decide (i<(j:Int))) false) (cond true (decide (ac<ad)) false)) (q0 (cond true (decide (i<(j:Int))) false) false)) (An .i64 (a.drop 2) fun ae=>cond ((decide (ae≥0))==true) (An .i64 (a.drop 2) fun af=>An .i64 b fun ag=>q0 false (cond true (decide (af<ag)) false)) (q0 false false)))
def FN:=(Ai fun N b d a c r0=>HG (R:=R) N r0 (Gi N r0 d b c a) b d a c).1
theorem PZ (b d a c e):(@FN R N b d a c e)=(HG N e (Gi N e d b c a) b d a c):=by rw[FN,(Ai _).2]
def XC:Hints:={ H:=(hK 1 (hJ [2,3,5,6] hL (hS (hK 1 (hS (hK 2 (hJ [2,3,5,6,29,47] hL hL)) hL)) hL))) }
def en:Qr:=[lC N]
def XD (F:KF R):=Jd Tryz.f53 XC (en N) [] N F
def nm (e f:Bool) (g:Int) (d:Bool) (b:LA) (c:Bool) (a:LA) (K:St→O R):=fun h=>K ⟨[(2,(op 0)),(3,(op 1)),(5,(.bool e)),(6,(.bool f)),(29,(iv g)),(47,(.bool h))],(hq [(bP d 0 b),(bP c 0 a)])⟩
def np (d:Bool) (b:LA) (c:Bool) (a:LA) (K:St→O R):=fun e f=>K ⟨[(2,(op 0)),(3,(op 1)),(5,(.bool e)),(6,(.bool f))],(hq [(bP d 0 b),(bP c 0 a)])⟩
theorem eo (F:KF R) (e f g d b c a):nm e f g d b c a (Bv (XD N F (pz 86293) []))=(Kd N (Bi F) e f g d b c a):=by kernel_rfl
theorem ep (F:KF R) (d b c a):np d b c a (Bv (XD N F (pz 21) []))=(Gi N (Bi F) d b c a):=(By (AS N (Bi F) d b c a) (zL fun e f g=>(jW ..).trans (eo ..)):_)
def qO:=Dq N 53 (en N) XC (fun
 | [(.pagg b d),(.pagg a c)],[]=>some fun _ k=>(FN N b d a c (Bi k))
 | _,_=>none) fun _ _=>by split;intro R F;exact(By (HG N (Bi F) · _ _ _ _) ((jW ..).trans (ep ..)):_).trans (PZ ..).symm;trivial
def Qm (r0:Int→O R) (c:Bool) (b:LA) (d:Bool) (a:LA) (k1:Int→O R) (f:Int):O R :=
 (Az 5 (a.drop 2) fun v i=>cond (decide (f<(i:Int))) (cond (ble 8 (b.length)) (Az 5 (a.drop 2) fun g j=>cond (Af f j) (cond (ble 5 ((g.drop ((f.toNat)*5)).length)) (FN N (b.take 8) c ((g.drop ((f.toNat)*5)).take 5) d fun l=>cond (!l) (r0 73) (k1 (wrap .i64 (f+1)))) none) none) none) (Az 5 (a.drop 2) fun w m=>cond (((m:Int)==0)==false) (Az 5 (a.drop 2) fun o p=>PV N o p false d 0 fun q=>Az 5 (a.drop 2) fun x r=>cond (cond false true (q != (r:Int))) (r0 73) (r0 0)) (r0 73)))
def Ku (r0:Int→O R) (c:Bool) (b:LA) (d:Bool) (a:LA):Nat→Int→O R
 | 0,_=>none
 | n+1,f=>(Qm N r0 c b d a (Ku r0 c b d a n) f)
def W7 (N:Nat) (r0:Int→O R) (c:Bool) (b:LA) (d:Bool) (a:LA) (q1:Int→O R):O R :=
 (q1 0)
def Oa (r0:Int→O R) (c:Bool) (b:LA) (d:Bool) (a:LA):O R:=(W7 N r0 c b d a (Ku N r0 c b d a N))
def AT (r0:Int→O R) (q0:O R) (b:LA) (c:Bool) (a:LA) (d:Bool):O R :=
 (cond (ble 8 (b.length)) (Yq N (b.take 8) c fun s h=>cond ((beq (s.length) 3)&&((ble 3 3)&&(!false))) (cond (h != 0) (r0 h) (Az 6 (a.drop 1) fun y t=>cond ((decide ((t:Int)>256))==false) (Az 5 (a.drop 2) fun z u=>cond (cond false true (decide ((u:Int)>4096))) (r0 8) q0) (r0 8))) none) none)
def Pg:=(Ai fun N b c a d r0=>AT (R:=R) N r0 (Oa N r0 c b d a) b c a d).1
theorem JX (b c a d e):(@Pg R N b c a d e)=(AT N e (Oa N e c b d a) b c a d):=by rw[Pg,(Ai _).2]
def P_:Hints:={ H:=(hK 2 (hJ [2,3] hL (hS (hK 1 (hS (hP [2,3,7] hL) hL)) hL))) }
def XE:Qr:=[nk N,qO N,ig N]
def P' (F:KF R):=Jd Tryz.f21 P_ (XE N) [] N F
def lD (c:Bool) (b:LA) (d:Bool) (a:LA) (K:St→O R):=fun f=>K ⟨[(2,(op 0)),(3,(op 1)),(7,(iv f))],(hq [(bP c 0 b),(bP d 0 a)])⟩
def lE (c:Bool) (b:LA) (d:Bool) (a:LA) (K:St→O R):=K ⟨[(2,(op 0)),(3,(op 1))],(hq [(bP c 0 b),(bP d 0 a)])⟩
theorem ZJ (F:KF R) (c b d a):∀ n,lD c b d a (Am (P' N F (pz 5444) []) n)=(Ku N (Dp F) c b d a n):=Fc fun n e=>(By (Qm N (Dp F) c b d a) e:_)
theorem ZK (F:KF R) (c b d a):lE c b d a (Bv (P' N F (pz 85) []))=(Oa N (Dp F) c b d a):=(By (W7 N (Dp F) c b d a) ((lW ..).trans (ZJ ..)):_)
def FO:=Dq N 21 (XE N) P_ (fun
 | [(.pagg b c),(.pagg a d)],[]=>some fun _ k=>(Pg N b c a d (Dp k))
 | _,_=>none) fun _ _=>by split;intro R F;exact(By (AT N (Dp F) · _ _ _ _) ((jW ..).trans (ZK ..)):_).trans (JX ..).symm;trivial
def AU (k0:Nat→Int→LA→O R) (r0:Nat→LA→O R) (a:Int) (b:Bool) (c:LA) (k1:Nat→Int→Int→Int→LA→LA→O R) (f:Nat) (j l g:Int) (h i:LA):O R :=
 (cond (decide (g≤2)) (Az 5 (c.drop 2) fun r s=>PV N r s false b l fun q=>cond (decide (a<q)) (An .i64 (i.drop 1) fun t=>An .i64 (i.drop 2) fun u=>cond ((ble (f+1) 140737488355328)&&(ble ((f+1)*24) 140737488355328)) (k0 (f+1) l ((h.take (f*3))++[(.int .i64 t),(.int .i64 u),(.int .i64 g)])) none) (k1 f j q (wrap .i64 (g+1)) h i)) (k0 f j h))
def Gj (k0:Nat→Int→LA→O R) (r0:Nat→LA→O R) (a:Int) (b:Bool) (c:LA):Nat→Nat→Int→Int→Int→LA→LA→O R
 | 0,_,_,_,_,_,_=>none
 | n+1,f,j,l,g,h,i=>(AU N k0 r0 a b c (Gj k0 r0 a b c n) f j l g h i)
def Te (N:Nat) (r0:Nat→LA→O R) (a:Int) (b:Bool) (c:LA) (k0:Nat→Int→LA→O R) (q1:Nat→Int→Int→Int→LA→LA→O R) (m:Nat) (d:Int) (o:LA):O R :=
 (cond (d != a) (Az 5 (c.drop 2) fun p v=>cond (Af d v) (cond (ble 5 ((p.drop ((d.toNat)*5)).length)) (cond ((beq 0 0)&&((beq (((p.drop ((d.toNat)*5)).take 5).length) 5)&&(beq 5 5))) (q1 m d (wrap .i64 (d+1)) 0 o ((p.drop ((d.toNat)*5)).take 5)) none) none) none) (r0 m o))
def Gk (r0:Nat→LA→O R) (a:Int) (b:Bool) (c:LA):Nat→Nat→Int→LA→O R
 | 0,_,_,_=>none
 | n+1,m,d,o=>(Te N r0 a b c (Gk r0 a b c n) (Gj N (Gk r0 a b c n) r0 a b c N) m d o)
def HH (N:Nat) (r0:Nat→LA→O R) (q0:Nat→Int→LA→O R) (c:LA) (b:Bool) (a:Int):O R :=
 (q0 0 0 [])
def Yr:=(Ai fun N c b a r0=>HH (R:=R) N r0 (Gk N r0 a b c N) c b a).1
theorem QA (c b a d):(@Yr R N c b a d)=(HH N d (Gk N d a b c N) c b a):=by rw[Yr,(Ai _).2]
def XF:Hints:={ H:=(hK 3 (hS (hS (hP [1,2,5,6] (hK 1 (hS (hK 3 (hS (hP [1,2,5,6,7,8,9] hL) hL)) hL))) hL) hL)),nils:=[(4,3),(5,3)],modes:=[(2,3)] }
def er:Qr:=[ig N]
def XG (F:KF R):=Jd Tryz.f89 XF (er N) [] N F
def M8 (F:KF R):Nat→LA→O R:=(fun w x=>F (.own 300000 0 w) (hq [(bQ 3 x)]))
def nq (a:Int) (b:Bool) (c:LA) (K:St→O R):=fun f j l g h i=>K ⟨[(1,(iv a)),(2,(op 0)),(5,(.own 300001 0 f)),(6,(iv j)),(7,(op 2)),(8,(iv l)),(9,(iv g))],(hq [(bP b 0 c),(bQ 3 h),(bP b 0 i)])⟩
def FP (a:Int) (b:Bool) (c:LA) (K:St→O R):=fun m d o=>K ⟨[(1,(iv a)),(2,(op 0)),(5,(.own 300001 0 m)),(6,(iv d))],(hq [(bP b 0 c),(bQ 3 o)])⟩
theorem eu (Q0) (F:KF R) (a b c):∀ n,nq a b c (Am (XG N F (pz 22283348) [Q0]) n)=(Gj N (FP a b c Q0) (M8 F) a b c n):=Fc fun n e=>(By (AU N (FP a b c Q0) (M8 F) a b c) e:_)
theorem ew (F:KF R) (a b c):∀ n,FP a b c (Am (XG N F (pz 1360) []) n)=(Gk N (M8 F) a b c n):=Fc fun n e=>(MW (Te N (M8 F) a b c) e ((lW ..).trans ((eu ..).trans (oY (Gj _ · _ _ _ _ _) e))):_)
def qP:=Dq N 89 (er N) XF (fun
 | [(.pagg c b),(.int .i64 a)],[]=>some fun _ k=>(Yr N c b a (M8 k))
 | _,_=>none) fun _ _=>by split;intro R F;exact(By (HH N (M8 F) · _ _ _) ((lW ..).trans (ew ..)):_).trans (QA ..).symm;trivial
def LM (c:LA) (e:Bool) (a:LA) (d:Bool) (b:Int) (r0:Nat→Int→LA→O R):O R :=
 (cond (ble 8 (c.length)) (cond (ble 3 (a.length)) (Pg N (c.take 8) e (a.take 3) d fun f=>cond (f != 0) (r0 0 f []) (cond ((decide (b<0))==false) (Az 5 (a.drop 2) fun j g=>cond (cond false true (decide (b≥(g:Int)))) (r0 0 12 []) (cond (ble 3 (a.length)) (Yr N (a.take 3) d b fun h i=>r0 h 0 i) none)) (r0 0 12 []))) none) none)
def HI:=(Ai (@LM R)).1
theorem JY:@HI R=@LM R:=(Ai _).2
def nr:=Dq N 48 [FO N,qP N] { H:=hL,nils:=[(6,3)],modes:=[(2,3),(0,0)] } (fun
 | [(.pagg c e),(.pagg a d),(.int .i64 b)],[]=>some fun _ k=>(HI N c e a d b (wK k))
 | _,_=>none) fun _ _=>by split;intro R F;dsimp only;rw[JY];kernel_rfl;trivial
def Qn (N:Nat) (r0:Nat→Int→LA→O R) (b:LA) (c:Nat) (a:Bool) (k0:Nat→Int→Int→LA→O R) (f:Nat) (j d:Int) (l:LA):O R :=
 (cond (decide (d<j)) (cond (Af d c) (cond (ble 5 ((b.drop ((d.toNat)*5)).length)) (cond ((beq 0 0)&&((beq (((b.drop ((d.toNat)*5)).take 5).length) 5)&&(beq 5 5))) (An .i64 ((b.drop ((d.toNat)*5)).take 5) fun o=>cond (o != 0) (cond ((ble (f+1) 140737488355328)&&(ble ((f+1)*8) 140737488355328)) (k0 (f+1) j (wrap .i64 (d+1)) ((l.take (f*1))++[(.int .i64 d)])) none) (k0 f j (wrap .i64 (d+1)) l)) none) none) none) (r0 f 0 l))
def In (r0:Nat→Int→LA→O R) (b:LA) (c:Nat) (a:Bool):Nat→Nat→Int→Int→LA→O R
 | 0,_,_,_,_=>none
 | n+1,f,j,d,l=>(Qn N r0 b c a (In r0 b c a n) f j d l)
def AW (r0:Nat→Int→LA→O R) (q0:LA→Nat→Nat→Int→Int→LA→O R) (h:LA) (i:Bool) (g:LA) (a:Bool):O R :=
 (cond (ble 8 (h.length)) (cond (ble 3 (g.length)) (Uk N (h.take 8) i (g.take 3) a fun m=>cond (m != 0) (r0 0 m []) (Az 5 (g.drop 2) fun b c=>q0 b c 0 (c:Int) 0 [])) none) none)
def Ys:=(Ai fun N h i g a r0=>AW (R:=R) N r0 (fun b c=>In N r0 b c a N) h i g a).1
theorem JZ (h i g a d):(@Ys R N h i g a d)=(AW N d (fun b c=>In N d b c a N) h i g a):=by rw[Ys,(Ai _).2]
def QB:Hints:={ H:=(hK 3 (hS (hK 1 (hS (hP [7,17,18,19] hL) hL)) hL)),nils:=[(4,1),(7,1)],modes:=[(2,1),(0,0)] }
def XH:Qr:=[LF N]
def lF (F:KF R):=Jd Tryz.f19 QB (XH N) [] N F
def lG (b:LA) (c:Nat) (a:Bool) (K:St→O R):=fun f j d l=>K ⟨[(7,(.own 300000 0 f)),(17,(.imm b c 5 false a)),(18,(iv j)),(19,(iv d))],(hq [(bQ 1 l)])⟩
theorem ZL (F:KF R) (b c a):∀ n,lG b c a (Am (lF N F (pz 5444) []) n)=(In N (VP F) b c a n):=Fc fun n e=>(By (Qn N (VP F) b c a) e:_)
def nu:=Dq N 19 (XH N) QB (fun
 | [(.pagg h i),(.pagg g a)],[]=>some fun _ k=>(Ys N h i g a (VP k))
 | _,_=>none) fun _ _=>by split;intro R F;exact(By (AW N (VP F) · _ _ _ _) (fj fun b c=>(lW ..).trans (ZL ..)):_).trans (JZ ..).symm;trivial
def Ob (N:Nat) (r0:Nat→Int→LA→O R) (b:Bool) (a:LA) (k0:Nat→Int→LA→O R) (c:Nat) (d:Int) (h:LA):O R :=
 (Az 5 (a.drop 2) fun p j=>cond (decide (d<(j:Int))) (Az 5 (a.drop 2) fun l m=>cond (Af d m) (An .i64 (l.drop ((d.toNat)*5)) fun o=>cond (o != 0) (cond ((ble (c+1) 140737488355328)&&(ble ((c+1)*8) 140737488355328)) (k0 (c+1) (wrap .i64 (d+1)) ((h.take (c*1))++[(.int .i64 d)])) none) (k0 c (wrap .i64 (d+1)) h)) none) (r0 c 0 h))
def Gw (r0:Nat→Int→LA→O R) (b:Bool) (a:LA):Nat→Nat→Int→LA→O R
 | 0,_,_,_=>none
 | n+1,c,d,h=>(Ob N r0 b a (Gw r0 b a n) c d h)
def Wg (r0:Nat→Int→LA→O R) (q0:Nat→Int→LA→O R) (f:LA) (g:Bool) (a:LA) (b:Bool):O R :=
 (cond (ble 8 (f.length)) (cond (ble 3 (a.length)) (Pg N (f.take 8) g (a.take 3) b fun i=>cond (i != 0) (r0 0 i []) (q0 0 0 [])) none) none)
def Uy:=(Ai fun N f g a b r0=>Wg (R:=R) N r0 (Gw N r0 b a N) f g a b).1
theorem FQ (f g a b d):(@Uy R N f g a b d)=(Wg N d (Gw N d b a N) f g a b):=by rw[Uy,(Ai _).2]
def J_:Hints:={ H:=(hK 3 (hS (hK 1 (hS (hP [3,7,8] hL) hL)) hL)),nils:=[(4,1),(7,1)],modes:=[(2,1),(0,0)] }
def QC:Qr:=[FO N]
def gp (F:KF R):=Jd Tryz.f49 J_ (QC N) [] N F
def gq (b:Bool) (a:LA) (K:St→O R):=fun c d h=>K ⟨[(3,(op 0)),(7,(.own 300001 0 c)),(8,(iv d))],(hq [(bP b 0 a),(bQ 1 h)])⟩
theorem TX (F:KF R) (b a):∀ n,gq b a (Am (gp N F (pz 5444) []) n)=(Gw N (VP F) b a n):=Fc fun n e=>(By (Ob N (VP F) b a) e:_)
def lH:=Dq N 49 (QC N) J_ (fun
 | [(.pagg f g),(.pagg a b)],[]=>some fun _ k=>(Uy N f g a b (VP k))
 | _,_=>none) fun _ _=>by split;intro R F;exact(By (Wg N (VP F) · _ _ _ _) ((lW ..).trans (TX ..)):_).trans (FQ ..).symm;trivial
def Tf (N:Nat) (r0:Bool→O R) (c:LA) (a:Nat) (f g:Bool) (d:LA) (b:Nat) (h i:Bool) (k0:Int→O R) (j:Int):O R :=
 (cond (decide (j<(a:Int))) (cond (Af j a) (An .i64 (c.drop ((j.toNat)*1)) fun l=>cond (Af j b) (An .i64 (d.drop ((j.toNat)*1)) fun m=>cond (l != m) (r0 false) (k0 (wrap .i64 (j+1)))) none) none) (r0 true))
def Ke (r0:Bool→O R) (c:LA) (a:Nat) (f g:Bool) (d:LA) (b:Nat) (h i:Bool):Nat→Int→O R
 | 0,_=>none
 | n+1,j=>(Tf N r0 c a f g d b h i (Ke r0 c a f g d b h i n) j)
def HJ (N:Nat) (r0:Bool→O R) (q0:Int→O R) (c:LA) (a:Nat) (f g:Bool) (d:LA) (b:Nat) (h i:Bool):O R :=
 (cond ((a:Int) != (b:Int)) (r0 false) (q0 0))
def QD:=(Ai fun N c a f g d b h i r0=>HJ (R:=R) N r0 (Ke N r0 c a f g d b h i N) c a f g d b h i).1
theorem QE (c a f g d b h i e):(@QD R N c a f g d b h i e)=(HJ N e (Ke N e c a f g d b h i N) c a f g d b h i):=by rw[QD,(Ai _).2]
def XI:Hints:={ H:=(hK 2 (hS (hK 1 (hS (hP [0,1,5] hL) hL)) hL)) }
def nv (F:KF R):=Jd Tryz.f85 XI [] [] N F
def nw (c:LA) (a:Nat) (f g:Bool) (d:LA) (b:Nat) (h i:Bool) (K:St→O R):=fun j=>K ⟨[(0,(.imm c a 1 f g)),(1,(.imm d b 1 h i)),(5,(iv j))],[]⟩
theorem ex (F:KF R) (c a f g d b h i):∀ n,nw c a f g d b h i (Am (nv N F (pz 1348) []) n)=(Ke N (Bi F) c a f g d b h i n):=Fc fun n e=>(By (Tf N (Bi F) c a f g d b h i) e:_)
def qQ:=Dq N 85 [] XI (fun
 | [(.imm c a 1 f g),(.imm d b 1 h i)],[]=>some fun _ k=>(QD N c a f g d b h i (Bi k))
 | _,_=>none) fun _ _=>by split;intro R F;exact(By (HJ N (Bi F) · _ _ _ _ _ _ _ _) ((lW ..).trans (ex ..)):_).trans (QE ..).symm;trivial
def TY (a:LA) (b:Nat) (g c:Bool) (d:LA) (e:Nat) (h f:Bool) (r0:Bool→O R):O R :=
 (QD N a b false c d e false f fun i=>r0 i)
def QF:=(Ai (@TY R)).1
theorem QG:@QF R=@TY R:=(Ai _).2
def qR:=Dq N 45 [qQ N] G2 (fun
 | [(.imm a b 1 g c),(.imm d e 1 h f)],[]=>some fun _ k=>(QF N a b g c d e h f (Bi k))
 | _,_=>none) fun _ _=>by split;intro R F;dsimp only;rw[QG];kernel_rfl;trivial
end
end Gx
namespace Gx.Cf
open Go Go.Proofs
section
variable {R:Type}
theorem uS {N:Nat} {c:CaseD} {p:B8} {o:Bool} {j:Nat} {K:Int→LA→O R} {K2:LA→Int→O R} (hs:Small c N) (h:j<c.buses.l.length) :
  N7 N K K2 o c.av (j:Int) (Cc p)=K ((j+1:Nat):Int) (Cc (n7 c j c.buses.l[j] p)):=by
 have hN:=hs.n64
 have hN8:8≤N:=by omega
 have d:=hs.bus
 have m:c.buses.l[j] ∈ c.buses.l:=Acg h
 have q:=hs.dem _ m
 have e:=@Cs R N c (c.buses.l.map (·.name)) o (k:=1) (n:=j) (hN:=hN) (hL:=fun K=>nc hs) (hn:=by simpa using h) (hs:=⟨by have:=d.1;omega,by have:=d.2;omega⟩)
 have i:(c.buses.l.map (·.name))[j]'(by simpa using h)=c.buses.l[j].name:=by simp
 rw[i] at e
 unfold N7
 simp only[D3,Bz,ct,e,I0]
 rw[Ab h,ct,Ab2,Ap Uu _ _ h]
 generalize c.buses.l[j]=b at *
 have s:∀ (r:LA) (f:LA→Nat→O R),Az 1 (drop 1 (b.av++r)) f=f (Ax b.demand.l) b.demand.l.length:=fun r f=>by simp[BusD.av,Bj,C0]
 have u:∀ (r:LA) (f:Int→O R),An .i64 (drop 2 (b.av++r)) f=f b.shed:=fun r f=>by simp[BusD.av,Ay]
 rw[s,C4 rfl q,ct,u,Cw hN8,Ad (by decide),Bf (by have:=d.2;omega)]
 rfl
theorem lI {p:B8} {K:LA→Int→O R}:(cond (ble 3 (List.length (Cc p))) (An .i64 (drop 3 (Cc p)) fun x38=>cond ((beq (List.length (take 3 (Cc p))) 3)&&((ble 3 3)&&(!false))) (cond (ble 3 (List.length (setCells [(.int .i64 (0:Int)),(.int .i64 (0:Int)),(.int .i64 (0:Int))] 0 (take 3 (Cc p))))) (K (take 3 (setCells [(.int .i64 (0:Int)),(.int .i64 (0:Int)),(.int .i64 (0:Int))] 0 (take 3 (Cc p)))) x38) none) none) none)=K (w3 p) (A8 p):=by
 rcases p with _ | ⟨⟨a,b,f⟩,e,d⟩<;>simp[Cc,Xr,w3,A8,Cn,setCells,Cy,Ay]
theorem XJ {N:Nat} {c:CaseD} {o:Bool} {K:LA→Int→O R} (hs:Small c N):∀ (m j fuel:Nat) (p:B8),j+m=c.buses.l.length→m<fuel →
  Gh N K o c.av fuel (j:Int) (Cc p)=Il N K o c.av N 0 (Cc (A9 (n7 c) (c.buses.l.drop j) j p))
 | 0,j,fuel+1,p,d,_=>by
  rw[Gh];unfold Ql
  rw[I0,G9 (by omega),Bo (l:=c.buses.l) (by omega),A9];rfl
 | m+1,j,fuel+1,p,d,q=>by
  rw[Gh];unfold Ql
  have h:j<c.buses.l.length:=by omega
  have b:=hs.bus
  rw[I0,G4 h,W5,Bc (l:=c.buses.l) h,A9]
  rcases p with _ | ⟨x,e,i⟩
  ·simp only[A8,beq_self_eq_true,cond_true]
   rw[uS hs h,XJ hs m (j+1) fuel _ (by omega) (by omega)]
  ·have k:(e==0)=false:=by simpa using i
   simp only[A8,k,beq_self_eq_true,cond_true,cond_false]
   rw[HF,A4 (fun _ _=>HF _ _ _)]
theorem XK {N:Nat} {c:CaseD} {o:Bool} {K:LA→Int→O R} (hs:Small c N):∀ (m j fuel:Nat) (p:B8),j+m=c.lines.l.length→m<fuel →
  Il N K o c.av fuel (j:Int) (Cc p)=Ik N K o c.av N 0 (Cc (A9 (FI c) (c.lines.l.drop j) j p))
 | 0,j,fuel+1,p,d,_=>by
  rw[Il];unfold Qk
  rw[Ge,G9 (by omega),Bo (l:=c.lines.l) (by omega),A9];rfl
 | m+1,j,fuel+1,p,d,q=>by
  rw[Il];unfold Qk
  have h:j<c.lines.l.length:=by omega
  have b:=hs.lin
  rw[Ge,G4 h,W5,Bc (l:=c.lines.l) h,A9]
  rcases p with _ | ⟨x,e,i⟩
  ·simp only[A8,beq_self_eq_true,cond_true]
   rw[D3,ct,Bz,CS hs h,Bf (by have:=b.2;omega),XK hs m (j+1) fuel _ (by omega) (by omega)]
  ·have k:(e==0)=false:=by simpa using i
   simp only[A8,k,beq_self_eq_true,cond_true,cond_false]
   rw[Uw,A4 (fun _ _=>Uw _ _ _)]
theorem XL {N:Nat} {c:CaseD} {o:Bool} {K:LA→Int→O R} (hs:Small c N):∀ (m j fuel:Nat) (p:B8),j+m=c.units.l.length→m<fuel →
  Ik N K o c.av fuel (j:Int) (Cc p)=Ij N K o c.av N 0 (Cc (A9 (JV c) (c.units.l.drop j) j p))
 | 0,j,fuel+1,p,d,_=>by
  rw[Ik];unfold Qj
  rw[Fs,G9 (by omega),Bo (l:=c.units.l) (by omega),A9];rfl
 | m+1,j,fuel+1,p,d,q=>by
  rw[Ik];unfold Qj
  have h:j<c.units.l.length:=by omega
  have b:=hs.uni
  rw[Fs,G4 h,W5,Bc (l:=c.units.l) h,A9]
  rcases p with _ | ⟨x,e,i⟩
  ·simp only[A8,beq_self_eq_true,cond_true]
   rw[D3,ct,Bz,CT hs h,Bf (by have:=b.2;omega),XL hs m (j+1) fuel _ (by omega) (by omega)]
  ·have k:(e==0)=false:=by simpa using i
   simp only[A8,k,beq_self_eq_true,cond_true,cond_false]
   rw[Pe,A4 (fun _ _=>Pe _ _ _)]
theorem XM {N:Nat} {c:CaseD} {o:Bool} {K:LA→Int→O R} (hs:Small c N):∀ (m j fuel:Nat) (p:B8),j+m=c.stores.l.length→m<fuel →
  Ij N K o c.av fuel (j:Int) (Cc p)=Ii N K o c.av N 0 (Cc (A9 (W3 c) (c.stores.l.drop j) j p))
 | 0,j,fuel+1,p,d,_=>by
  rw[Ij];unfold Qi
  rw[Pc,G9 (by omega),Bo (l:=c.stores.l) (by omega),A9];rfl
 | m+1,j,fuel+1,p,d,q=>by
  rw[Ij];unfold Qi
  have h:j<c.stores.l.length:=by omega
  have b:=hs.sto
  rw[Pc,G4 h,W5,Bc (l:=c.stores.l) h,A9]
  rcases p with _ | ⟨x,e,i⟩
  ·simp only[A8,beq_self_eq_true,cond_true]
   rw[D3,ct,Bz,AN hs h,Bf (by have:=b.2;omega),XM hs m (j+1) fuel _ (by omega) (by omega)]
  ·have k:(e==0)=false:=by simpa using i
   simp only[A8,k,beq_self_eq_true,cond_true,cond_false]
   rw[Kc,A4 (fun _ _=>Kc _ _ _)]
theorem XN {N:Nat} {c:CaseD} {o:Bool} {K:LA→Int→O R} (hs:Small c N):∀ (m j fuel:Nat) (p:B8),j+m=c.ties.l.length→m<fuel →
  Ii N K o c.av fuel (j:Int) (Cc p)=Ih N K o c.av N 0 (Cc (A9 (n8 c) (c.ties.l.drop j) j p))
 | 0,j,fuel+1,p,d,_=>by
  rw[Ii];unfold Qh
  rw[AK,G9 (by omega),Bo (l:=c.ties.l) (by omega),A9];rfl
 | m+1,j,fuel+1,p,d,q=>by
  rw[Ii];unfold Qh
  have h:j<c.ties.l.length:=by omega
  have b:=hs.tie
  rw[AK,G4 h,W5,Bc (l:=c.ties.l) h,A9]
  rcases p with _ | ⟨x,e,i⟩
  ·simp only[A8,beq_self_eq_true,cond_true]
   rw[D3,ct,Bz,FJ hs h,Bf (by have:=b.2;omega),XN hs m (j+1) fuel _ (by omega) (by omega)]
  ·have k:(e==0)=false:=by simpa using i
   simp only[A8,k,beq_self_eq_true,cond_true,cond_false]
   rw[M7,A4 (fun _ _=>M7 _ _ _)]
theorem XO {N:Nat} {c:CaseD} {o:Bool} {K:LA→Int→O R} (hs:Small c N):∀ (m j fuel:Nat) (p:B8),j+m=c.outs.l.length→m<fuel →
  Ih N K o c.av fuel (j:Int) (Cc p)=Cx N K o c.av N 0 (Cc (A9 (TU c) (c.outs.l.drop j) j p))
 | 0,j,fuel+1,p,d,_=>by
  rw[Ih];unfold Qg
  rw[Qe,G9 (by omega),Bo (l:=c.outs.l) (by omega),A9];rfl
 | m+1,j,fuel+1,p,d,q=>by
  rw[Ih];unfold Qg
  have h:j<c.outs.l.length:=by omega
  have b:=hs.out
  rw[Qe,G4 h,W5,Bc (l:=c.outs.l) h,A9]
  rcases p with _ | ⟨x,e,i⟩
  ·simp only[A8,beq_self_eq_true,cond_true]
   rw[D3,ct,Bz,Yp hs h,Bf (by have:=b.2;omega),XO hs m (j+1) fuel _ (by omega) (by omega)]
  ·have k:(e==0)=false:=by simpa using i
   simp only[A8,k,beq_self_eq_true,cond_true,cond_false]
   rw[I7,A4 (fun _ _=>I7)]
def Uz (ol:List Int):List Int→Nat→List Int
 | [],_=>[]
 | a::r,j=>cond (ol.contains a) ((j:Int)::Uz ol r (j+1)) (Uz ol r (j+1))
theorem nx (ol:List Int):∀ (l:List Int) (j:Nat) (x:Int),x ∈ Uz ol l j→(j:Int)≤x
 | [],_,_,h=>by simp[Uz] at h
 | a::r,j,x,h=>by
  rw[Uz] at h
  have b:=nx ol r (j+1) x
  cases d:ol.contains a<;>rw[d] at h<;>simp at h
  ·have:=b h;omega
  ·rcases h with rfl | h
   ·omega
   ·have:=b h;omega
theorem TZ {f:Int→Nat×Nat} (ol:List Int):∀ (l:List Int) (j:Nat) (pre:List Int),(∀ x ∈ pre,x<(j:Int))→PT (pre++Uz ol l j) (l.map f) j=((l.filter fun a=>!ol.contains a).map f)
 | [],_,_,_=>rfl
 | a::r,j,pre,i=>by
  rw[Acc,PT,Uz,Adn]
  have d:¬ (j:Int) ∈ pre:=fun h=>by have:=i _ h;omega
  cases m:ol.contains a with
  | true =>
   have k:(pre++cond true ((j:Int)::Uz ol r (j+1)) (Uz ol r (j+1))).contains (j:Int)=true:=by simp
   rw[k]
   have:=TZ (f:=f) ol r (j+1) (pre++[(j:Int)]) (by
    intro x b
    rcases Aca.1 b with e | e
    ·have:=i x e;omega
    ·simp at e;omega)
   simp only[cond_true,Aea,Adx,if_false]
   rw[←this];simp
  | false =>
   have k:(pre++cond false ((j:Int)::Uz ol r (j+1)) (Uz ol r (j+1))).contains (j:Int)=false:=by
    simp only[cond_false]
    rw[List.contains_eq_mem]
    simp only[decide_eq_false_iff_not,Aca,not_or]
    exact⟨d,fun e=>by have:=nx ol r (j+1) _ e;omega⟩
   rw[k]
   have:=TZ (f:=f) ol r (j+1) pre (by intro x b;have:=i x b;omega)
   simp only[cond_false,Acv,if_true,Acc]
   rw[this]
theorem AX {N:Nat} {c:CaseD} {o:Bool} {hr:Int} {j:Nat} {p:B8} {K7:Int→LA→O R} {K9:Int→Int→LA→O R} {K:LA→Int→O R} (hs:Small c N) (hN:4096≤N) (v:PreV c) (h:j<c.outs.l.length):∀ (m q fuel:Nat) (A:List Int),q+m=(As c hr).length→m<fuel→A.length≤q →
  A++Uz c.outs.l[j].lines.l ((As c hr).drop q) q=Uz c.outs.l[j].lines.l (As c hr) 0 →
  Gu N K7 K9 K (As c hr).length (As c hr).length o c.av (((As c hr).map (Dk c)).flatMap Bm) (Ax (As c hr)) fuel hr (j:Int) A.length (q:Int) (Cc p) (Ax A)=K9 hr ((j+1:Nat):Int) (Cc (nh c hr j c.outs.l[j] p))
 | 0,q,fuel+1,A,hq,_,hA,b=>by
  rw[Gu];unfold N8
  have F:=Uv hr c.lines.l 0
  have G:=v.nl
  have i:=v.nb
  have k:=hs.out
  have S:c.buses.l.length*c.buses.l.length≤32*32:=Nat.mul_le_mul i i
  have s:(As c hr).length≤64:=by unfold As;omega
  rw[Bo (l:=As c hr) (by omega),Uz,Acp] at b
  have C:∀ e ∈ (As c hr).map (Dk c),e.1<c.buses.l.length∧e.2<c.buses.l.length:=by
   intro e C
   simp only[Acs] at C
   obtain⟨l,I,rfl⟩:=C
   obtain⟨x,d⟩:=v.lnV I
   rw[HD d];exact⟨d.f1,d.t1⟩
  rw[G9 (by omega),cf,I0,Ab0 (by rw[HE];simp),Acf,Ab0 (by rw[Eb];exact Ab3 _),
   ei (by simp) rfl (by simp;omega) (by simp;omega) (by omega) (by omega) C ⟨by omega,by omega⟩,Ad (by decide),Bf (by have:=k.2;omega)]
  have e1:PT A ((As c hr).map (Dk c)) 0=(((As c hr).filter fun a=>!c.outs.l[j].lines.l.contains a).map (Dk c)):=by
   rw[b]
   have:=TZ (f:=Dk c) c.outs.l[j].lines.l (As c hr) 0 [] (by simp)
   simpa using this
  rw[e1]
  have L:F0 c.buses.l.length ((As c hr).map (Dk c))≤F0 c.buses.l.length (((As c hr).filter fun a=>!c.outs.l[j].lines.l.contains a).map (Dk c)):=qK (by
   intro e u
   simp only[Acs,Ad3] at u ⊢
   obtain⟨l,⟨I,_⟩,rfl⟩:=u
   exact⟨l,I,rfl⟩)
  have T:(!decide ((F0 c.buses.l.length (((As c hr).filter fun a=>!c.outs.l[j].lines.l.contains a).map (Dk c)):Int)>(F0 c.buses.l.length ((As c hr).map (Dk c)):Int)))=uO c hr c.outs.l[j]:=by
   unfold uO
   generalize F0 c.buses.l.length ((As c hr).map (Dk c))=x at *
   generalize F0 c.buses.l.length (((As c hr).filter fun a=>!c.outs.l[j].lines.l.contains a).map (Dk c))=y at *
   by_cases M:x=y
   ·subst M;simp
   ·have a1:((y:Int)==(x:Int))=false:=by simp;omega
    rw[a1];simp;omega
  rw[T];rfl
 | m+1,q,fuel+1,A,hq,hf,hA,b=>by
  rw[Gu];unfold N8
  have z:q<(As c hr).length:=by omega
  have F:=Uv hr c.lines.l 0
  have G:=v.nl
  have s:(As c hr).length≤64:=by unfold As;omega
  have U:c.outs.l[j] ∈ c.outs.l:=Acg h
  have V:=hs.oli _ U
  have X:∀ (f:LA→Nat→O R),Az 1 (drop 1 (drop (j*4) (List.flatMap OutD.av c.outs.l))) f=f (Ax c.outs.l[j].lines.l) c.outs.l[j].lines.l.length:=fun f=>by rw[Ap Dj _ _ h];simp[OutD.av,Bj,C0]
  have Y:(ble (A.length+1) 140737488355328&&ble ((A.length+1)*8) 140737488355328)=true:=by rw[Cn,Cn];simp;omega
  have b5:take (A.length*1) (Ax A)++[.int .i64 (q:Int)]=Ax (A++[(q:Int)]):=kp (B:=[(q:Int)]) rfl
  rw[G4 z,ct,Qe,Ab h,ct,Ab2,X,Ab z,ct,gi (by simpa using z),Ab2,AO z,AJ rfl V,Y,ct,b5,Bf (by omega)]
  rw[Bc z,Uz] at b
  cases d:c.outs.l[j].lines.l.contains (As c hr)[q] with
  | true =>
   rw[d] at b
   have D:=AX (o:=o) (hr:=hr) (j:=j) (p:=p) (K7:=K7) (K9:=K9) (K:=K) hs hN v h m (q+1) fuel (A++[(q:Int)]) (by omega) (by omega) (by simp;omega) (by simpa using b)
   rw[Ab4] at D
   simpa using D
  | false =>
   rw[d] at b
   have D:=AX (o:=o) (hr:=hr) (j:=j) (p:=p) (K7:=K7) (K9:=K9) (K:=K) hs hN v h m (q+1) fuel A (by omega) (by omega) (by omega) (by simpa using b)
   simpa using D
theorem XP {N:Nat} {c:CaseD} {o:Bool} {hr:Int} {K7:Int→LA→O R} {K:LA→Int→O R} (hs:Small c N) (hN:4096≤N) (v:PreV c):∀ (m j fuel:Nat) (p:B8),j+m=c.outs.l.length→m<fuel →
  Gg N K7 K (As c hr).length (As c hr).length o c.av (((As c hr).map (Dk c)).flatMap Bm) (Ax (As c hr)) fuel hr (j:Int) (Cc p)=K7 (wrap .i64 (hr+1)) (Cc (A9 (nh c hr) (c.outs.l.drop j) j p))
 | 0,j,fuel+1,p,b,_=>by
  rw[Gg];unfold Qf
  rw[Qe,G9 (by omega),cf,Bo (l:=c.outs.l) (by omega),A9]
 | m+1,j,fuel+1,p,b,k=>by
  rw[Gg];unfold Qf
  have h:j<c.outs.l.length:=by omega
  have d:=Uv hr c.lines.l 0
  have e:=v.nl
  have i:=XP (o:=o) (hr:=hr) (K7:=K7) (K:=K) hs hN v m (j+1) fuel (nh c hr j c.outs.l[j] p) (by omega) (by omega)
  have l10:=AX (R:=R) (N:=N) (c:=c) (o:=o) (hr:=hr) (j:=j) (p:=p) (K7:=K7) (K9:=Gg N K7 K (As c hr).length (As c hr).length o c.av (((As c hr).map (Dk c)).flatMap Bm) (Ax (As c hr)) fuel) (K:=K) hs hN v h (As c hr).length 0 N [] (by omega) (by unfold As;omega) (by simp) (by simp)
  rw[Qe,G4 h,ct,Bc (l:=c.outs.l) h,A9,←i,←l10]
  rfl
theorem XQ {N H:Nat} {c:CaseD} {o:Bool} {K:LA→Int→O R} (hs:Small c N) (hN:4096≤N) (v:PreV c) (hH:c.hours=(H:Int)):∀ (m j fuel:Nat) (p:B8),j+m=H→m<fuel →
  Cx N K o c.av fuel (j:Int) (Cc p)=K (w3 (Pf c m j p)) (A8 (Pf c m j p))
 | 0,j,fuel+1,p,b,_=>by
  rw[Cx];unfold Lz
  rw[Lv,hH,G9 (by omega),lI,Pf];rfl
 | m+1,j,fuel+1,p,b,q=>by
  rw[Cx];unfold Lz Td W6
  have s:=v.hours
  rw[Lv,hH,G4 (by omega),W5,lI]
  rcases p with _ | ⟨x,e,d⟩
  ·simp only[A8,beq_self_eq_true,cond_true]
   have l9:=XP (R:=R) (N:=N) (c:=c) (o:=o) (hr:=(j:Int)) (K7:=Cx N K o c.av fuel) (K:=K) hs hN v c.outs.l.length 0 N none (by omega) hs.out.1
   rw[D3,ct,Bz,qL hs (fun l i=>v.lnV i)]
   simp only[Acb,Acz] at l9
   rw[l9,Bf (by omega),XQ hs hN v hH m (j+1) fuel _ (by omega) (by omega)];rfl
  ·have k:(e==0)=false:=by simpa using d
   simp only[A8,k,beq_self_eq_true,cond_true,cond_false]
   rw[XA]
theorem ny {N:Nat} {c:CaseD} {o:Bool} {y:(Int×Int×Int)×{ e:Int // e≠0 }} {K:LA→Int→O R} {fuel:Nat}:Cx N K o c.av (fuel+1) 0 (Cc (some y))=K (w3 (some y)) (A8 (some y)):=by
 rw[Cx];unfold Lz
 rw[Lv,W5,lI]
 have b:(y.2.1==0)=false:=by simpa using y.2.2
 cases decide ((0:Int)<c.hours)<;>simp[A8,b]
theorem ey {N:Nat} {c:CaseD} {o:Bool} {K:LA→Int→O R} (hs:Small c N) (hN:4096≤N):Yq N c.av o K=K (w3 (Ig c)) (A8 (Ig c)):=by
 rw[JW];unfold AQ
 have b:[(.int .i64 (0:Int)),(.int .i64 (0:Int)),(.int .i64 (0:Int)),(.int .i64 (0:Int))]=Cc none:=rfl
 rw[D3,ct,Bz,b,AM hs]
 have l0:=fun p=>XJ (R:=R) (N:=N) (c:=c) (o:=o) (K:=K) hs c.buses.l.length 0 N p (by omega) hs.bus.1
 have l2:=fun p=>XK (R:=R) (N:=N) (c:=c) (o:=o) (K:=K) hs c.lines.l.length 0 N p (by omega) hs.lin.1
 have l3:=fun p=>XL (R:=R) (N:=N) (c:=c) (o:=o) (K:=K) hs c.units.l.length 0 N p (by omega) hs.uni.1
 have l4:=fun p=>XM (R:=R) (N:=N) (c:=c) (o:=o) (K:=K) hs c.stores.l.length 0 N p (by omega) hs.sto.1
 have l5:=fun p=>XN (R:=R) (N:=N) (c:=c) (o:=o) (K:=K) hs c.ties.l.length 0 N p (by omega) hs.tie.1
 have l6:=fun p=>XO (R:=R) (N:=N) (c:=c) (o:=o) (K:=K) hs c.outs.l.length 0 N p (by omega) hs.out.1
 simp only[Acb,Acz] at l0 l2 l3 l4 l5 l6
 try dsimp only
 rw[l0,l2,l3,l4,l5,l6]
 show Cx N K o c.av N 0 (Cc (LL c))=_
 unfold Ig
 cases d:LL c with
 | some y =>
  rcases N with _ | N
  ·omega
  ·exact ny
 | none =>
  have v:=ic d
  have e:=v.hours
  have:=XQ (R:=R) (N:=N) (H:=c.hours.toNat) (c:=c) (o:=o) (K:=K) hs hN v (by omega) c.hours.toNat 0 N none (by omega) (by omega)
  simpa using this
end
end Gx.Cf
namespace Go.Proofs
open Go.Shelf Go.RowKit
open Go.RowKit
def Tryz.laysM171_ren : Go.Shelf.Ren := ⟨fun | 171 => 116 | 243 => 160 | 246 => 184 | 283 => 204 | 284 => 205 | 285 => 206 | 286 => 207 | 129 => 223 | 317 => 222 | 318 => 224 | 319 => 225 | 320 => 226 | 337 => 244 | 338 => 245 | n => n, fun | 3 => 3 | 9 => 9 | 2 => 2 | 4 => 4 | 171 => 272 | 0 => 0 | 53 => 138 | 37 => 109 | 5 => 5 | 173 => 275 | 212 => 293 | 51 => 222 | 20 => 20 | 213 => 294 | 46 => 241 | 232 => 312 | 233 => 313 | n => n, fun | 17 => 3 | 18 => 4 | 19 => 5 | n => n⟩
theorem Tryz.laysM171 : Go.Proofs.LaysM.n171 Tryz.prog Tryz.laysM171_ren := {
  mixed := by kernel_rfl
  f129 := Tryz.func223.trans (congrArg some (by kernel_rfl))
  f171 := Tryz.func116.trans (congrArg some (by kernel_rfl))
  f243 := Tryz.func160.trans (congrArg some (by kernel_rfl))
  f246 := Tryz.func184.trans (congrArg some (by kernel_rfl))
  f283 := Tryz.func204.trans (congrArg some (by kernel_rfl))
  f284 := Tryz.func205.trans (congrArg some (by kernel_rfl))
  f285 := Tryz.func206.trans (congrArg some (by kernel_rfl))
  f286 := Tryz.func207.trans (congrArg some (by kernel_rfl))
  f317 := Tryz.func222.trans (congrArg some (by kernel_rfl))
  f318 := Tryz.func224.trans (congrArg some (by kernel_rfl))
  f319 := Tryz.func225.trans (congrArg some (by kernel_rfl))
  f320 := Tryz.func226.trans (congrArg some (by kernel_rfl))
  f337 := Tryz.func244.trans (congrArg some (by kernel_rfl))
  f338 := Tryz.func245.trans (congrArg some (by kernel_rfl))
  t0 := Tryz.underlying0
  a0 := Tryz.isAgg0
  z0 := Tryz.sizeOf0
  v0 := Tryz.zeroValue0
  t2 := Tryz.underlying2
  a2 := Tryz.isAgg2
  z2 := Tryz.sizeOf2
  v2 := Tryz.zeroValue2
  t3 := Tryz.underlying3
  a3 := Tryz.isAgg3
  z3 := Tryz.sizeOf3
  v3 := Tryz.zeroValue3
  t4 := Tryz.underlying4
  a4 := Tryz.isAgg4
  z4 := Tryz.sizeOf4
  v4 := Tryz.zeroValue4
  t5 := Tryz.underlying5
  a5 := Tryz.isAgg5
  z5 := Tryz.sizeOf5
  v5 := Tryz.zeroValue5
  t9 := Tryz.underlying9
  a9 := Tryz.isAgg9
  z9 := Tryz.sizeOf9
  v9 := Tryz.zeroValue9
  t20 := Tryz.underlying20
  a20 := Tryz.isAgg20
  z20 := Tryz.sizeOf20
  v20 := Tryz.zeroValue20
  t37 := Tryz.underlying109
  a37 := Tryz.isAgg109
  z37 := Tryz.sizeOf109
  v37 := Tryz.zeroValue109
  t46 := Tryz.underlying241
  a46 := Tryz.isAgg241
  z46 := Tryz.sizeOf241
  v46 := Tryz.zeroValue241
  t51 := Tryz.underlying222
  a51 := Tryz.isAgg222
  z51 := Tryz.sizeOf222
  v51 := Tryz.zeroValue222
  t53 := Tryz.underlying138
  a53 := Tryz.isAgg138
  z53 := Tryz.sizeOf138
  v53 := Tryz.zeroValue138
  t171 := Tryz.underlying272
  a171 := Tryz.isAgg272
  z171 := Tryz.sizeOf272
  v171 := Tryz.zeroValue272
  t173 := Tryz.underlying275
  a173 := Tryz.isAgg275
  z173 := Tryz.sizeOf275
  v173 := Tryz.zeroValue275
  t212 := Tryz.underlying293
  a212 := Tryz.isAgg293
  z212 := Tryz.sizeOf293
  v212 := Tryz.zeroValue293
  t213 := Tryz.underlying294
  a213 := Tryz.isAgg294
  z213 := Tryz.sizeOf294
  t232 := Tryz.underlying312
  a232 := Tryz.isAgg312
  z232 := Tryz.sizeOf312
  v232 := Tryz.zeroValue312
  t233 := Tryz.underlying313
  a233 := Tryz.isAgg313
  z233 := Tryz.sizeOf313
  v233 := Tryz.zeroValue313
  g17 := by kernel_rfl
  g18 := by kernel_rfl
  g19 := by kernel_rfl
  i0 := by kernel_rfl
  i2 := by kernel_rfl
  i3 := by kernel_rfl
  i4 := by kernel_rfl
  i5 := by kernel_rfl
  i9 := by kernel_rfl
  i20 := by kernel_rfl
  i37 := by kernel_rfl
  i46 := by kernel_rfl
  i51 := by kernel_rfl
  i53 := by kernel_rfl
  i171 := by kernel_rfl
  i173 := by kernel_rfl
  i212 := by kernel_rfl
  i232 := by kernel_rfl
  i233 := by kernel_rfl
  m17 := by kernel_rfl
  m18 := by kernel_rfl
  m19 := by kernel_rfl }
def Tryz.laysC172_ren : Go.Shelf.Ren := ⟨fun | 172 => 239 | 244 => 258 | 245 => 259 | 247 => 272 | 279 => 273 | 280 => 274 | 281 => 275 | 282 => 276 | 287 => 279 | 316 => 280 | 171 => 116 | 205 => 281 | 321 => 282 | 322 => 283 | 243 => 160 | 246 => 184 | 283 => 204 | 284 => 205 | 285 => 206 | 286 => 207 | 129 => 223 | 317 => 222 | 318 => 224 | 319 => 225 | 320 => 226 | 337 => 244 | 338 => 245 | n => n, fun | 9 => 9 | 3 => 3 | 75 => 210 | 76 => 211 | 4 => 4 | 5 => 5 | 167 => 321 | 37 => 109 | 0 => 0 | 85 => 322 | 2 => 2 | 168 => 324 | 53 => 138 | 175 => 329 | 46 => 241 | 210 => 333 | 127 => 167 | 145 => 338 | 143 => 336 | 21 => 21 | 171 => 272 | 173 => 275 | 212 => 293 | 51 => 222 | 20 => 20 | 213 => 294 | 232 => 312 | 233 => 313 | 80 => 119 | n => n, fun | 15 => 6 | 16 => 7 | 17 => 3 | 18 => 4 | 19 => 5 | n => n⟩
theorem Tryz.laysC172 : Go.Proofs.LaysC.n172 Tryz.prog Tryz.laysC172_ren := {
  mixed := by kernel_rfl
  f129 := Tryz.func223.trans (congrArg some (by kernel_rfl))
  f171 := Tryz.func116.trans (congrArg some (by kernel_rfl))
  f172 := Tryz.func239.trans (congrArg some (by kernel_rfl))
  f205 := Tryz.func281.trans (congrArg some (by kernel_rfl))
  f243 := Tryz.func160.trans (congrArg some (by kernel_rfl))
  f244 := Tryz.func258.trans (congrArg some (by kernel_rfl))
  f245 := Tryz.func259.trans (congrArg some (by kernel_rfl))
  f246 := Tryz.func184.trans (congrArg some (by kernel_rfl))
  f247 := Tryz.func272.trans (congrArg some (by kernel_rfl))
  f279 := Tryz.func273.trans (congrArg some (by kernel_rfl))
  f280 := Tryz.func274.trans (congrArg some (by kernel_rfl))
  f281 := Tryz.func275.trans (congrArg some (by kernel_rfl))
  f282 := Tryz.func276.trans (congrArg some (by kernel_rfl))
  f283 := Tryz.func204.trans (congrArg some (by kernel_rfl))
  f284 := Tryz.func205.trans (congrArg some (by kernel_rfl))
  f285 := Tryz.func206.trans (congrArg some (by kernel_rfl))
  f286 := Tryz.func207.trans (congrArg some (by kernel_rfl))
  f287 := Tryz.func279.trans (congrArg some (by kernel_rfl))
  f316 := Tryz.func280.trans (congrArg some (by kernel_rfl))
  f317 := Tryz.func222.trans (congrArg some (by kernel_rfl))
  f318 := Tryz.func224.trans (congrArg some (by kernel_rfl))
  f319 := Tryz.func225.trans (congrArg some (by kernel_rfl))
  f320 := Tryz.func226.trans (congrArg some (by kernel_rfl))
  f321 := Tryz.func282.trans (congrArg some (by kernel_rfl))
  f322 := Tryz.func283.trans (congrArg some (by kernel_rfl))
  f337 := Tryz.func244.trans (congrArg some (by kernel_rfl))
  f338 := Tryz.func245.trans (congrArg some (by kernel_rfl))
  t0 := Tryz.underlying0
  a0 := Tryz.isAgg0
  z0 := Tryz.sizeOf0
  v0 := Tryz.zeroValue0
  t2 := Tryz.underlying2
  a2 := Tryz.isAgg2
  z2 := Tryz.sizeOf2
  v2 := Tryz.zeroValue2
  t3 := Tryz.underlying3
  a3 := Tryz.isAgg3
  z3 := Tryz.sizeOf3
  v3 := Tryz.zeroValue3
  t4 := Tryz.underlying4
  a4 := Tryz.isAgg4
  z4 := Tryz.sizeOf4
  v4 := Tryz.zeroValue4
  t5 := Tryz.underlying5
  a5 := Tryz.isAgg5
  z5 := Tryz.sizeOf5
  v5 := Tryz.zeroValue5
  t9 := Tryz.underlying9
  a9 := Tryz.isAgg9
  z9 := Tryz.sizeOf9
  v9 := Tryz.zeroValue9
  t20 := Tryz.underlying20
  a20 := Tryz.isAgg20
  z20 := Tryz.sizeOf20
  v20 := Tryz.zeroValue20
  t21 := Tryz.underlying21
  a21 := Tryz.isAgg21
  z21 := Tryz.sizeOf21
  v21 := Tryz.zeroValue21
  t37 := Tryz.underlying109
  a37 := Tryz.isAgg109
  z37 := Tryz.sizeOf109
  v37 := Tryz.zeroValue109
  t46 := Tryz.underlying241
  a46 := Tryz.isAgg241
  z46 := Tryz.sizeOf241
  v46 := Tryz.zeroValue241
  t51 := Tryz.underlying222
  a51 := Tryz.isAgg222
  z51 := Tryz.sizeOf222
  v51 := Tryz.zeroValue222
  t53 := Tryz.underlying138
  a53 := Tryz.isAgg138
  z53 := Tryz.sizeOf138
  v53 := Tryz.zeroValue138
  t75 := Tryz.underlying210
  a75 := Tryz.isAgg210
  z75 := Tryz.sizeOf210
  v75 := Tryz.zeroValue210
  t76 := Tryz.underlying211
  a76 := Tryz.isAgg211
  z76 := Tryz.sizeOf211
  v76 := Tryz.zeroValue211
  t85 := Tryz.underlying322
  a85 := Tryz.isAgg322
  z85 := Tryz.sizeOf322
  v85 := Tryz.zeroValue322
  t127 := Tryz.underlying167
  a127 := Tryz.isAgg167
  z127 := Tryz.sizeOf167
  v127 := Tryz.zeroValue167
  t143 := Tryz.underlying336
  a143 := Tryz.isAgg336
  z143 := Tryz.sizeOf336
  v143 := Tryz.zeroValue336
  t145 := Tryz.underlying338
  a145 := Tryz.isAgg338
  z145 := Tryz.sizeOf338
  v145 := Tryz.zeroValue338
  t167 := Tryz.underlying321
  a167 := Tryz.isAgg321
  z167 := Tryz.sizeOf321
  v167 := Tryz.zeroValue321
  t168 := Tryz.underlying324
  a168 := Tryz.isAgg324
  z168 := Tryz.sizeOf324
  v168 := Tryz.zeroValue324
  t171 := Tryz.underlying272
  a171 := Tryz.isAgg272
  z171 := Tryz.sizeOf272
  v171 := Tryz.zeroValue272
  t173 := Tryz.underlying275
  a173 := Tryz.isAgg275
  z173 := Tryz.sizeOf275
  v173 := Tryz.zeroValue275
  t175 := Tryz.underlying329
  a175 := Tryz.isAgg329
  z175 := Tryz.sizeOf329
  v175 := Tryz.zeroValue329
  t210 := Tryz.underlying333
  a210 := Tryz.isAgg333
  z210 := Tryz.sizeOf333
  v210 := Tryz.zeroValue333
  t212 := Tryz.underlying293
  a212 := Tryz.isAgg293
  z212 := Tryz.sizeOf293
  v212 := Tryz.zeroValue293
  t213 := Tryz.underlying294
  a213 := Tryz.isAgg294
  z213 := Tryz.sizeOf294
  t232 := Tryz.underlying312
  a232 := Tryz.isAgg312
  z232 := Tryz.sizeOf312
  v232 := Tryz.zeroValue312
  t233 := Tryz.underlying313
  a233 := Tryz.isAgg313
  z233 := Tryz.sizeOf313
  v233 := Tryz.zeroValue313
  g15 := by kernel_rfl
  g16 := by kernel_rfl
  g17 := by kernel_rfl
  g18 := by kernel_rfl
  g19 := by kernel_rfl
  t80 := Tryz.underlying119
  a80 := Tryz.isAgg119
  z80 := Tryz.sizeOf119
  v80 := Tryz.zeroValue119
  i0 := by kernel_rfl
  i2 := by kernel_rfl
  i3 := by kernel_rfl
  i4 := by kernel_rfl
  i5 := by kernel_rfl
  i9 := by kernel_rfl
  i20 := by kernel_rfl
  i21 := by kernel_rfl
  i37 := by kernel_rfl
  i46 := by kernel_rfl
  i51 := by kernel_rfl
  i53 := by kernel_rfl
  i75 := by kernel_rfl
  i76 := by kernel_rfl
  i80 := by kernel_rfl
  i85 := by kernel_rfl
  i127 := by kernel_rfl
  i143 := by kernel_rfl
  i145 := by kernel_rfl
  i167 := by kernel_rfl
  i168 := by kernel_rfl
  i171 := by kernel_rfl
  i173 := by kernel_rfl
  i175 := by kernel_rfl
  i210 := by kernel_rfl
  i212 := by kernel_rfl
  i232 := by kernel_rfl
  i233 := by kernel_rfl
  m15 := by kernel_rfl
  m16 := by kernel_rfl
  m17 := by kernel_rfl
  m18 := by kernel_rfl
  m19 := by kernel_rfl
  c0 := by kernel_rfl
  c2 := by kernel_rfl
  c3 := by kernel_rfl
  c4 := by kernel_rfl
  c5 := by kernel_rfl
  c9 := by kernel_rfl
  c20 := by kernel_rfl
  c21 := by kernel_rfl
  c37 := by kernel_rfl
  c46 := by kernel_rfl
  c51 := by kernel_rfl
  c53 := by kernel_rfl
  c75 := by kernel_rfl
  c76 := by kernel_rfl
  c80 := by kernel_rfl
  c85 := by kernel_rfl
  c127 := by kernel_rfl
  c143 := by kernel_rfl
  c145 := by kernel_rfl
  c167 := by kernel_rfl
  c168 := by kernel_rfl
  c171 := by kernel_rfl
  c173 := by kernel_rfl
  c175 := by kernel_rfl
  c210 := by kernel_rfl
  c212 := by kernel_rfl
  c213 := by kernel_rfl
  c232 := by kernel_rfl
  c233 := by kernel_rfl }
def Tryz.lays145_ren : Go.Shelf.Ren := ⟨fun | 145 => 41 | 220 => 79 | 219 => 120 | 217 => 164 | 225 => 165 | 224 => 166 | 267 => 167 | 266 => 191 | 314 => 192 | n => n, fun | 9 => 9 | 4 => 4 | 59 => 123 | 3 => 3 | 5 => 5 | 46 => 241 | 146 => 262 | 51 => 222 | n => n, fun | 1 => 0 | n => n⟩
theorem Tryz.lays145 : Go.Proofs.Lays.n145 Tryz.prog Tryz.lays145_ren := {
  mixed := by kernel_rfl
  f145 := Tryz.func41.trans (congrArg some (by kernel_rfl))
  f217 := Tryz.func164.trans (congrArg some (by kernel_rfl))
  f219 := Tryz.func120.trans (congrArg some (by kernel_rfl))
  f220 := Tryz.func79.trans (congrArg some (by kernel_rfl))
  f224 := Tryz.func166.trans (congrArg some (by kernel_rfl))
  f225 := Tryz.func165.trans (congrArg some (by kernel_rfl))
  f266 := Tryz.func191.trans (congrArg some (by kernel_rfl))
  f267 := Tryz.func167.trans (congrArg some (by kernel_rfl))
  f314 := Tryz.func192.trans (congrArg some (by kernel_rfl))
  t3 := Tryz.underlying3
  a3 := Tryz.isAgg3
  z3 := Tryz.sizeOf3
  v3 := Tryz.zeroValue3
  t4 := Tryz.underlying4
  a4 := Tryz.isAgg4
  z4 := Tryz.sizeOf4
  v4 := Tryz.zeroValue4
  t5 := Tryz.underlying5
  a5 := Tryz.isAgg5
  z5 := Tryz.sizeOf5
  v5 := Tryz.zeroValue5
  t9 := Tryz.underlying9
  a9 := Tryz.isAgg9
  z9 := Tryz.sizeOf9
  v9 := Tryz.zeroValue9
  t46 := Tryz.underlying241
  a46 := Tryz.isAgg241
  z46 := Tryz.sizeOf241
  v46 := Tryz.zeroValue241
  t51 := Tryz.underlying222
  a51 := Tryz.isAgg222
  z51 := Tryz.sizeOf222
  v51 := Tryz.zeroValue222
  t59 := Tryz.underlying123
  a59 := Tryz.isAgg123
  z59 := Tryz.sizeOf123
  v59 := Tryz.zeroValue123
  t146 := Tryz.underlying262
  a146 := Tryz.isAgg262
  z146 := Tryz.sizeOf262
  v146 := Tryz.zeroValue262
  g1 := by kernel_rfl }
def Tryz.lays146_ren : Go.Shelf.Ren := ⟨fun | 146 => 43 | 221 => 84 | 268 => 123 | 138 => 124 | 143 => 125 | 195 => 170 | 197 => 171 | 218 => 172 | 219 => 120 | 260 => 194 | 217 => 164 | 225 => 165 | 224 => 166 | 267 => 167 | 266 => 191 | 314 => 192 | n => n, fun | 9 => 9 | 31 => 126 | 3 => 3 | 4 => 4 | 0 => 0 | 105 => 247 | 21 => 21 | 5 => 5 | 46 => 241 | 119 => 287 | 139 => 290 | 138 => 289 | 146 => 262 | 51 => 222 | n => n, fun | 1 => 0 | 3 => 1 | 4 => 2 | n => n⟩
theorem Tryz.lays146 : Go.Proofs.Lays.n146 Tryz.prog Tryz.lays146_ren := {
  mixed := by kernel_rfl
  f138 := Tryz.func124.trans (congrArg some (by kernel_rfl))
  f143 := Tryz.func125.trans (congrArg some (by kernel_rfl))
  f146 := Tryz.func43.trans (congrArg some (by kernel_rfl))
  f195 := Tryz.func170.trans (congrArg some (by kernel_rfl))
  f197 := Tryz.func171.trans (congrArg some (by kernel_rfl))
  f217 := Tryz.func164.trans (congrArg some (by kernel_rfl))
  f218 := Tryz.func172.trans (congrArg some (by kernel_rfl))
  f219 := Tryz.func120.trans (congrArg some (by kernel_rfl))
  f221 := Tryz.func84.trans (congrArg some (by kernel_rfl))
  f224 := Tryz.func166.trans (congrArg some (by kernel_rfl))
  f225 := Tryz.func165.trans (congrArg some (by kernel_rfl))
  f260 := Tryz.func194.trans (congrArg some (by kernel_rfl))
  f266 := Tryz.func191.trans (congrArg some (by kernel_rfl))
  f267 := Tryz.func167.trans (congrArg some (by kernel_rfl))
  f268 := Tryz.func123.trans (congrArg some (by kernel_rfl))
  f314 := Tryz.func192.trans (congrArg some (by kernel_rfl))
  t0 := Tryz.underlying0
  a0 := Tryz.isAgg0
  z0 := Tryz.sizeOf0
  v0 := Tryz.zeroValue0
  t3 := Tryz.underlying3
  a3 := Tryz.isAgg3
  z3 := Tryz.sizeOf3
  v3 := Tryz.zeroValue3
  t4 := Tryz.underlying4
  a4 := Tryz.isAgg4
  z4 := Tryz.sizeOf4
  v4 := Tryz.zeroValue4
  t5 := Tryz.underlying5
  a5 := Tryz.isAgg5
  z5 := Tryz.sizeOf5
  v5 := Tryz.zeroValue5
  t9 := Tryz.underlying9
  a9 := Tryz.isAgg9
  z9 := Tryz.sizeOf9
  v9 := Tryz.zeroValue9
  t21 := Tryz.underlying21
  a21 := Tryz.isAgg21
  z21 := Tryz.sizeOf21
  v21 := Tryz.zeroValue21
  t31 := Tryz.underlying126
  a31 := Tryz.isAgg126
  z31 := Tryz.sizeOf126
  v31 := Tryz.zeroValue126
  t46 := Tryz.underlying241
  a46 := Tryz.isAgg241
  z46 := Tryz.sizeOf241
  v46 := Tryz.zeroValue241
  t51 := Tryz.underlying222
  a51 := Tryz.isAgg222
  z51 := Tryz.sizeOf222
  v51 := Tryz.zeroValue222
  t105 := Tryz.underlying247
  a105 := Tryz.isAgg247
  z105 := Tryz.sizeOf247
  v105 := Tryz.zeroValue247
  t119 := Tryz.underlying287
  a119 := Tryz.isAgg287
  z119 := Tryz.sizeOf287
  t138 := Tryz.underlying289
  a138 := Tryz.isAgg289
  z138 := Tryz.sizeOf289
  v138 := Tryz.zeroValue289
  t139 := Tryz.underlying290
  a139 := Tryz.isAgg290
  z139 := Tryz.sizeOf290
  v139 := Tryz.zeroValue290
  t146 := Tryz.underlying262
  a146 := Tryz.isAgg262
  z146 := Tryz.sizeOf262
  v146 := Tryz.zeroValue262
  g1 := by kernel_rfl
  g3 := by kernel_rfl
  g4 := by kernel_rfl }
end Go.Proofs
namespace Gx
open Go Go.Proofs Go.RowKit
noncomputable section
variable {R:Type} (N:Nat)
def Oc (_N:Nat) (s t:Lu) (r0:Lu→Lu→Bool→O R):O R:=cond (ble s.length 4294967280) (r0 (Lib.cut s t).1 (Lib.cut s t).2.1 (Lib.cut s t).2.2) none
def strings_Cut:=(Ai (@Oc R)).1
theorem Mi:@strings_Cut R=@Oc R:=(Ai _).2
def F4 (a:LA) (h:Ao) (k:KF R):O R :=
 match a,h with
 | [.str s,.str t],[]=>strings_Cut N s t fun x y b=>k (.tup [.str x,.str y,.bool b]) []
 | _,_=>none
def ez:Tw:=⟨fun {R} a h k=>@F4 R N a h k,fun {R} a h k=>by
 unfold F4
 split
 ·rw[Mi,Mi];unfold Oc;cases ble _ 4294967280<;>rfl
 ·rfl⟩
def L0 (_N:Nat) (n:Int) (r0:Lu→O R):O R:=cond (decide (-9223372036854775808≤n)&&decide (n≤9223372036854775807)) (r0 (Lib.itoa n)) none
def strconv_Itoa:=(Ai (@L0 R)).1
theorem Kv:@strconv_Itoa R=@L0 R:=(Ai _).2
def Fa (a:LA) (h:Ao) (k:KF R):O R :=
 match a,h with
 | [.int .i64 n],[]=>strconv_Itoa N n fun x=>k (.str x) []
 | _,_=>none
def ZM:Tw:=⟨fun {R} a h k=>@Fa R N a h k,fun {R} a h k=>by
 unfold Fa
 split
 ·rename_i n
  rw[Kv,Kv];unfold L0;cases (decide (-9223372036854775808≤n)&&decide (n≤9223372036854775807))<;>rfl
 ·rfl⟩
def L1 (_N:Nat) (s:Lu) (r0:Int→O R):O R:=cond (ble s.length 9223372036854775806) (match Lib.atoiAll s with | .ok v=>r0 v | _=>none) none
def QH:=(Ai (@L1 R)).1
theorem Kw:@QH R=@L1 R:=(Ai _).2
def Fb (a:LA) (h:Ao) (k:KF R):O R :=
 match a,h with
 | [.str s],[]=>QH N s fun x=>k (.tup [.int .i64 x,.undef]) []
 | _,_=>none
def ZN:Tw:=⟨fun {R} a h k=>@Fb R N a h k,fun {R} a h k=>by
 unfold Fb
 split
 ·rw[Kw,Kw];unfold L1;cases ble _ 9223372036854775806
  ·rfl
  ·cases Lib.atoiAll _<;>rfl
 ·rfl⟩
end
theorem nz (w:World) (n:Nat):Below w.heap.size w (w.drewN n):=⟨rfl,rfl,rfl,Ab3 _,fun _ _=>rfl⟩
theorem fB (N:Nat):fb Tryz.prog 41 (ez N):=by
 intro args h d h' i
 have b:F4 N args h (fun v h'=>some (v,h'))=some (d,h'):=i
 unfold F4 at b
 split at b
 ·rename_i s t
  rw[Mi,Oc] at b
  obtain⟨q,j⟩:=uc b
  simp at q j
  obtain⟨rfl,rfl⟩:=j
  refine SG fun J β w vs G hr=>?_
  obtain⟨u,v,rfl,e1,k⟩:=b8 hr
  simp only[Rep] at e1 k;subst e1 k
  obtain⟨m,y⟩:=G.int (g:=0) (by decide)
  refine(Any.strings_Cut Tryz.lays145 ⟨⟨s⟩⟩ ⟨⟨t⟩⟩ m w (show s.length<4294967281 by omega) y).mono ?_
  rintro e w' ⟨rfl,n,rfl⟩
  refine⟨_,rfl,nz w n,fun J β w=>?_⟩
  rw[Rep]
  exact⟨_,rfl,by simp[Reps,Rep]⟩
 ·cases b
theorem ZO (N:Nat):fb Tryz.prog 116 (ZM N):=by
 intro args h d h' j
 have b:Fa N args h (fun v h'=>some (v,h'))=some (d,h'):=j
 unfold Fa at b
 split at b
 ·rename_i n
  rw[Kv,L0] at b
  obtain⟨m,q⟩:=uc b
  simp only[Ab6,decide_eq_true_eq] at m
  simp at q
  obtain⟨rfl,rfl⟩:=q
  refine SG fun J β w vs G hr=>?_
  obtain⟨u,rfl,e1⟩:=MV hr
  rw[Rep] at e1;subst e1
  refine(Any.strconv_Itoa Tryz.laysM171 n m.1 m.2 w (G.tab (g:=3) (by simp[qs,Lib.pow10Tab]) (by kernel_rfl))).mono ?_
  rintro e w' ⟨rfl,k,os,rfl⟩
  refine⟨_,rfl,⟨rfl,rfl,rfl,by simp[Go.Sort.grow],fun i hi=>?_⟩,fun J β w=>by rw[Rep]⟩
  show(w.heap++os)[i]?=_
  rw[Aem hi]
 ·cases b
theorem strconv_Atoi_ok (N:Nat):fb Tryz.prog 239 (ZN N):=by
 intro args h i h' j
 have b:Fb N args h (fun v h'=>some (v,h'))=some (i,h'):=j
 unfold Fb at b
 split at b
 ·rename_i s
  rw[Kw,L1] at b
  obtain⟨k,d⟩:=uc b
  simp at k
  split at d
  ·rename_i v m
   simp at d
   obtain⟨rfl,rfl⟩:=d
   refine SG fun J β w vs G hr=>?_
   obtain⟨u,rfl,e1⟩:=MV hr
   rw[Rep] at e1;subst e1
   refine(Any.strconv_Atoi_ok Tryz.laysC172 ⟨⟨s⟩⟩ k v m w).mono ?_
   rintro e w' ⟨rfl,q⟩
   refine⟨_,rfl,?_,fun J β w=>by rw[Rep];exact⟨_,rfl,by rw[Reps];exact⟨_,_,rfl,by rw[Rep],by rw[Reps];exact⟨_,_,rfl,by rw[Rep];trivial,by rw[Reps]⟩⟩⟩⟩
   rcases q with rfl | ⟨t,rfl⟩
   ·exact Below.refl _ _
   ·exact Lib.bytesWorld_below _ _ _
  ·cases d
 ·cases b
end Gx
namespace Gx
open Go Go.Proofs Go.RowKit
noncomputable section
variable {R:Type} (N:Nat)
def FR (s t:Lu):List Lu:=(Lib.splitB ⟨⟨t⟩⟩ 0 (Lib.countB ⟨⟨s⟩⟩ ⟨⟨t⟩⟩) ⟨⟨s⟩⟩).map fun b=>b.data.toList
def lJ (l:List Lu):LA:=l.map .str
def Kf (_N:Nat) (s t:Lu) (r0:Nat→LA→O R):O R:=cond (ble s.length 4294967280&&ble 1 t.length) (r0 (FR s t).length (lJ (FR s t))) none
def strings_Split:=(Ai (@Kf R)).1
theorem Jo:@strings_Split R=@Kf R:=(Ai _).2
def El (a:LA) (h:Ao) (k:KF R):O R :=
 match a,h with
 | [.str s,.str t],[]=>strings_Split N s t fun n c=>k (.own 300000 0 n) [(300000,bQ 1 c)]
 | _,_=>none
def T_:Tw:=⟨fun {R} a h k=>@El R N a h k,fun {R} a h k=>by
 unfold El
 split
 ·rw[Jo,Jo];unfold Kf;cases (ble _ 4294967280&&ble 1 _)<;>rfl
 ·rfl⟩
end
theorem T' (N:Nat):fb Tryz.prog 43 (T_ N):=by
 intro args h k h' q
 have d:El N args h (fun v h'=>some (v,h'))=some (k,h'):=q
 unfold El at d
 split at d
 ·rename_i s t
  rw[Jo,Kf] at d
  obtain⟨y,z⟩:=uc d
  simp only[Ab6,Afp] at y
  simp only[Ac0,Af9] at z
  obtain⟨rfl,rfl⟩:=z
  have i:=Lib.splitB_all ⟨⟨t⟩⟩ (show 1≤t.length from y.2) 0 _ ⟨⟨s⟩⟩ rfl
  refine vQ (n:=(FR s t).length) (sz:=1) (c:=lJ (FR s t)) (by simp[lJ]) fun J β w vs G hr=>?_
  obtain⟨u,v,rfl,e1,A⟩:=b8 hr
  simp only[Rep] at e1 A;subst e1 A
  obtain⟨m,D⟩:=G.int (g:=0) (by decide)
  refine(Any.strings_Split Tryz.lays146 (by kernel_rfl) ⟨⟨s⟩⟩ ⟨⟨t⟩⟩ m w (show s.length<4294967281 by omega) D (show 1≤t.length from y.2)).mono ?_
  rintro e w' ⟨rfl,rfl⟩
  refine⟨_,_,?_,rfl,?_,?_⟩
  ·rw[show(FR s t).length=Lib.countB ⟨⟨s⟩⟩ ⟨⟨t⟩⟩+1 by unfold FR;rw[Adl,i]]
  ·simp[FR]
  ·rw[Bg]
   intro j x C
   simp only[lJ,FR,Aeh,Adr,Afs] at C
   obtain⟨b,F,rfl⟩:=C
   exact⟨.string b,by simp[F],by rw[Function.comp,RepC]⟩
 ·cases d
end Gx
