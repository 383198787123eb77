/- A part of the proof; each theorem says what it holds. -/
import Derived.JoinedOf
import Derived.Test.YtnlplnjnonldpaaGreatDoorCards
import Derived.Test.YtnlplnjnonldpaaGreatDoorTie
import Derived.Deep.DeepHandedRow
import Derived.Deep.DeepWitnessRowRef
import Derived.LaidMore
import Derived.Shelf.Vars
import Derived.SevenTiedAt
import Derived.Lay
import Derived.IntWalk
import Derived.SizedLaws
import Derived.Test.YtnlplnjnonldpaaGreatDoorP1U
set_option linter.unusedVariables false
set_option linter.defProp false
set_option linter.unusedSimpArgs false
open Nat (ble beq)
open List (take drop replicate)
open Go.IntKind (wrap)
namespace Gx
open Go Go.Proofs
set_option maxRecDepth 100000
noncomputable section
variable {R:Type} (N:Nat)
def wD (N:Nat) (c d:Int) (b:Bool) (a:LA) (r0:Bool→LA→O R):O R :=
 (Ao .i64 (a.drop 11) fun e=>cond (e==0) (cond ((beq 3 3)&&((ble 11 (a.length))&&(!false))) (r0 (b||false) (Dd a 8 [(.int .i64 c),(.int .i64 d),(.int .i64 0)])) none) (r0 b a))
def JX:=(Ag (@wD R)).1
theorem oU:@JX R=@wD R:=(Ag _).2
def Yf:=Cw N 136 [] Fq (fun
 | [(.optr 100000 0),(.int .i64 c),(.int .i64 d)],[(100000,⟨false,false,true,b,0,a,false,none⟩)]=>some fun _ k=>(JX N c d b a (Cl k))
 | _,_=>none) fun _ _=>by split;intro R F;dsimp only;rw[oU];kernel_rfl;trivial
def iz (N:Nat) (d:Bool) (c e:Int) (b:Bool) (a:LA) (r0:Bool→LA→O R):O R :=
 (Ao .i64 (a.drop 11) fun f=>cond ((f==0)==true) (cond (cond true (!d) false) (cond ((beq 1 1)&&((ble 11 (a.length))&&(!false))) (cond ((beq 1 1)&&((ble 12 ((a.set 10 (.int .i64 c)).length))&&(!false))) (r0 ((b||false)||false) ((a.set 10 (.int .i64 c)).set 11 (.int .i64 e))) none) none) (r0 b a)) (r0 b a))
def As:=(Ag (@iz R)).1
theorem c_:@As R=@iz R:=(Ag _).2
def C3:=Cw N 139 [] Fq (fun
 | [(.optr 100000 0),(.bool d),(.int .i64 c),(.int .i64 e)],[(100000,⟨false,false,true,b,0,a,false,none⟩)]=>some fun _ k=>(As N d c e b a (Cl k))
 | _,_=>none) fun _ _=>by split;intro R F;dsimp only;rw[c_];kernel_rfl;trivial
def RG (a b e f:Int) (c:Bool) (d:LA) (r0:Bool→LA→O R):O R :=
 (cond ((decide (b≥e))==true) (As N (cond true (decide (b≤f)) false) a 3 c d fun g h=>r0 g h) (As N false a 3 c d fun i j=>r0 i j))
def A0:=(Ag (@RG R)).1
theorem PK:@A0 R=@RG R:=(Ag _).2
def He:=Cw N 137 [C3 N] Fq (fun
 | [(.optr 100000 0),(.int .i64 a),(.int .i64 b),(.int .i64 e),(.int .i64 f)],[(100000,⟨false,false,true,c,0,d,false,none⟩)]=>some fun _ k=>(A0 N a b e f c d (Cl k))
 | _,_=>none) fun _ _=>by split;intro R F;dsimp only;rw[PK];kernel_rfl;trivial
def Sa (r0:Bool→LA→O R) (b c d:Int) (f:LA) (a:Nat) (g h:Bool) (k0:Int→Int→Bool→LA→O R) (p j:Int) (o:Bool) (l:LA):O R :=
 (cond (decide (j<p)) (cond (Af j a) (Ao .i64 (f.drop ((j.toNat)*1)) fun q=>Ao .i64 (l.drop 11) fun r=>cond (r != 0) (r0 o l) (A0 N b q c d o l fun s t=>k0 p (wrap .i64 (j+1)) s t)) none) (r0 o l))
def I3 (r0:Bool→LA→O R) (b c d:Int) (f:LA) (a:Nat) (g h:Bool):Nat→Int→Int→Bool→LA→O R
 | 0,_,_,_,_=>none
 | n+1,p,j,o,l=>(Sa N r0 b c d f a g h (I3 r0 b c d f a g h n) p j o l)
def EJ (r0:Bool→LA→O R) (q0:Int→Int→Bool→LA→O R) (b:Int) (f:LA) (a:Nat) (g h:Bool) (c d:Int) (m:Bool) (i:LA):O R :=
 (Ao .i64 i fun u=>As N ((a:Int)==u) b 4 m i fun v w=>q0 (a:Int) 0 v w)
def Mi:=(Ag fun N b f a g h c d m i r0=>EJ (R:=R) N r0 (I3 N r0 b c d f a g h N) b f a g h c d m i).1
theorem PL (b f a g h c d m i e):(@Mi R N b f a g h c d m i e)=(EJ N e (I3 N e b c d f a g h N) b f a g h c d m i):=by rw[Mi,(Ag _).2]
def UJ:Hints:={ H:=(hK 2 (hS (hP [0,1,3,4,23,24,25] hL) hL)) }
def dA:Oi:=[C3 N,He N]
def qb (F:KF R):=Ip Tryz.f138 UJ (dA N) [100000] N F
def qc (b c d:Int) (f:LA) (a:Nat) (g h:Bool) (K:St→O R):=fun p j o l=>K ⟨[(0,(.optr 100000 0)),(1,(iv b)),(3,(iv c)),(4,(iv d)),(23,(.imm f a 1 g h)),(24,(iv p)),(25,(iv j))],[(100000,(bP o 0 l))]⟩
theorem fE (F:KF R) (b c d f a g h):∀ n,qc b c d f a g h (Al (qb N F (pz 84) []) n)=(I3 N (Cl F) b c d f a g h n):=Eu fun n e=>(Bp (Sa N (Cl F) b c d f a g h) e:_)
def JY:=Cw N 138 (dA N) UJ (fun
 | [(.optr 100000 0),(.int .i64 b),(.imm f a 1 g h),(.int .i64 c),(.int .i64 d)],[(100000,⟨false,false,true,m,0,i,false,none⟩)]=>some fun _ k=>(Mi N b f a g h c d m i (Cl k))
 | _,_=>none) fun _ _=>by split;intro R F;exact(Bp (EJ N (Cl F) · _ _ _ _ _ _ _ _ _) ((lW ..).trans (fE ..)):_).trans (PL ..).symm;trivial
def Yg (r0:Bool→LA→O R) (e:Bool) (c:LA):O R :=
 (Ba 12 (c.drop 3) fun aj o=>As N (decide ((o:Int)≤64)) 3 8 e c fun p f=>Ba 22 (f.drop 4) fun ak q=>As N (decide ((q:Int)≤16)) 4 8 p f fun r g=>Ba 9 (g.drop 5) fun al s=>As N (decide ((s:Int)≤8)) 5 8 r g fun t h=>Ba 5 (h.drop 6) fun am u=>As N (decide ((u:Int)≤8)) 6 8 t h fun v i=>Ba 4 (i.drop 7) fun an w=>As N (decide ((w:Int)≤64)) 7 8 v i fun x y=>r0 x y)
def MY (r0:Bool→LA→O R) (q0:Bool→LA→O R) (a:Bool) (b:LA):O R :=
 (JX N 0 0 a b fun z j=>Ao .i64 j fun aa=>A0 N 0 aa 1 24 z j fun l m=>Ba 1 (m.drop 1) fun ab ac=>Mi N 1 ab ac false l 0 1048576 l m fun n d=>Ba 3 (d.drop 2) fun ao ad=>cond ((decide ((ad:Int)≥1))==true) (Ba 3 (d.drop 2) fun ap ae=>As N (cond true (decide ((ae:Int)≤32)) false) 2 8 n d fun af ag=>q0 af ag) (As N false 2 8 n d fun ah ai=>q0 ah ai))
def BM:=(Ag fun N a b r0=>MY (R:=R) N r0 (Yg N r0) a b).1
theorem UK (a b e):(@BM R N a b e)=(MY N e (Yg N e) a b):=by rw[BM,(Ag _).2]
def dB:Hints:={ H:=(hK 3 (hJ [0] hL hL)) }
def jA:Oi:=[Yf N,He N,JY N,C3 N]
def tO (F:KF R):=Ip Tryz.f90 dB (jA N) [100000] N F
def tP (K:St→O R):=fun e c=>K ⟨[(0,(.optr 100000 0))],[(100000,(bP e 0 c))]⟩
theorem jB (F:KF R):tP (Bh (tO N F (pz 341) []))=(Yg N (Cl F)):=by kernel_rfl
def wE:=Cw N 90 (jA N) dB (fun
 | [(.optr 100000 0)],[(100000,⟨false,false,true,a,0,b,false,none⟩)]=>some fun _ k=>(BM N a b (Cl k))
 | _,_=>none) fun _ _=>by split;intro R F;exact(Bp (MY N (Cl F) · _ _) ((jW ..).trans (jB ..)):_).trans (UK ..).symm;trivial
def Yh (N:Nat) (r0:Bool→O R) (a:Lu) (k1:Int→Int→O R) (c b:Int):O R :=
 (cond (decide (b<c)) (cond (Af b (a.length)) (cond ((decide (((UInt8.toNat (List.getD a (b.toNat) 0):Nat):Int)<97))==false) (cond ((cond false true (decide (((UInt8.toNat (List.getD a (b.toNat) 0):Nat):Int)>122)))==true) (cond ((decide (((UInt8.toNat (List.getD a (b.toNat) 0):Nat):Int)<48))==false) (cond ((cond true (cond false true (decide (((UInt8.toNat (List.getD a (b.toNat) 0):Nat):Int)>57))) false)==true) (cond (cond true (((UInt8.toNat (List.getD a (b.toNat) 0):Nat):Int) != 95) false) (r0 false) (k1 c (wrap .i64 (b+1)))) (k1 c (wrap .i64 (b+1)))) (cond (cond true (((UInt8.toNat (List.getD a (b.toNat) 0):Nat):Int) != 95) false) (r0 false) (k1 c (wrap .i64 (b+1))))) (k1 c (wrap .i64 (b+1)))) (cond ((decide (((UInt8.toNat (List.getD a (b.toNat) 0):Nat):Int)<48))==false) (cond ((cond true (cond false true (decide (((UInt8.toNat (List.getD a (b.toNat) 0):Nat):Int)>57))) false)==true) (cond (cond true (((UInt8.toNat (List.getD a (b.toNat) 0):Nat):Int) != 95) false) (r0 false) (k1 c (wrap .i64 (b+1)))) (k1 c (wrap .i64 (b+1)))) (cond (cond true (((UInt8.toNat (List.getD a (b.toNat) 0):Nat):Int) != 95) false) (r0 false) (k1 c (wrap .i64 (b+1)))))) none) (r0 true))
def Q8 (r0:Bool→O R) (a:Lu):Nat→Int→Int→O R
 | 0,_,_=>none
 | n+1,c,b=>(Yh N r0 a (Q8 r0 a n) c b)
def JZ (N:Nat) (r0:Bool→O R) (a:Lu) (q1:Int→Int→O R):O R :=
 (q1 (((a.length):Nat):Int) 0)
def EK (r0:Bool→O R) (a:Lu):O R:=(JZ N r0 a (Q8 N r0 a N))
def UL (N:Nat) (r0:Bool→O R) (q0:O R) (a:Lu):O R :=
 (cond ((decide ((((a.length):Nat):Int)<1))==false) (cond ((cond false true (decide ((((a.length):Nat):Int)>16)))==false) (cond ((cond false true (a==([99,111,114,114,101,99,116,105,118,101]:Lu)))==false) (cond (Af 0 (a.length)) (cond ((cond false true (decide (((UInt8.toNat (List.getD a 0 0):Nat):Int)<97)))==false) (cond (Af 0 (a.length)) (cond (cond false true (decide (((UInt8.toNat (List.getD a 0 0):Nat):Int)>122))) (r0 false) q0) none) (r0 false)) none) (r0 false)) (r0 false)) (r0 false))
def Sb:=(Ag fun N a r0=>UL (R:=R) N r0 (EK N r0 a) a).1
theorem dC (a b):(@Sb R N a b)=(UL N b (EK N b a) a):=by rw[Sb,(Ag _).2]
def jC:Hints:={ H:=(hK 1 (hJ [0] hL (hS (hK 1 (hS (hP [0,28,29] hL) hL)) hL))) }
def jD (F:KF R):=Ip Tryz.f180 jC [] [] N F
def wF (a:Lu) (K:St→O R):=fun c b=>K ⟨[(0,(.str a)),(28,(iv c)),(29,(iv b))],[]⟩
def wG (a:Lu) (K:St→O R):=K ⟨[(0,(.str a))],[]⟩
theorem mN (F:KF R) (a):∀ n,wF a (Al (jD N F (pz 1348) []) n)=(Q8 N (Bq F) a n):=Eu fun n e=>(Bp (Yh N (Bq F) a) e:_)
theorem mO (F:KF R) (a):wG a (Bh (jD N F (pz 21) []))=(EK N (Bq F) a):=(Bp (JZ N (Bq F) a) ((lW ..).trans (mN ..)):_)
def V9:=Cw N 180 [] jC (fun
 | [(.str a)],[]=>some fun _ k=>(Sb N a (Bq k))
 | _,_=>none) fun _ _=>by split;intro R F;exact(Bp (UL N (Bq F) · _) ((jW ..).trans (mO ..)):_).trans (dC ..).symm;trivial
def Z0 (N:Nat) (a:Int) (c:Bool) (b:LA) (r0:Lu→O R):O R :=
 (Ba 3 (b.drop 2) fun d e=>cond (Af a e) (O' (d.drop ((a.toNat)*3)) fun f=>r0 f) none)
def U6:=(Ag (@Z0 R)).1
theorem BN:@U6 R=@Z0 R:=(Ag _).2
def jE:=Cw N 141 [] Fq (fun
 | [(.int .i64 a),(.optr 100000 0)],[(100000,⟨false,false,false,false,0,[(.optr 100001 0)],false,none⟩),(100001,⟨false,false,true,c,0,b,false,none⟩)]=>some fun _ k=>(U6 N a c b (yt c b k))
 | _,_=>none) fun _ _=>by split;intro R F;dsimp only;rw[BN];kernel_rfl;trivial
def La (r0:Bool→LA→O R) (a:Lu) (b:Int) (k0:Int→Bool→LA→O R) (h:Int) (d:Bool) (c:LA):O R :=
 (cond (decide (h<b)) (Ao .i64 (c.drop 11) fun j=>cond (j != 0) (r0 d c) (U6 N h d c fun l=>As N (!(l==a)) 0 10 d c fun m o=>k0 (wrap .i64 (h+1)) m o)) (r0 d c))
def Fx (r0:Bool→LA→O R) (a:Lu) (b:Int):Nat→Int→Bool→LA→O R
 | 0,_,_,_=>none
 | n+1,h,d,c=>(La N r0 a b (Fx r0 a b n) h d c)
def Yi (r0:Bool→LA→O R) (q0:Int→Int→Bool→LA→O R) (a:Lu) (f:Bool) (g:LA):O R :=
 (Sb N a fun p=>As N p 0 9 f g fun q i=>Ao .i64 (i.drop 9) fun b=>q0 b 0 q i)
def W0:=(Ag fun N a f g r0=>Yi (R:=R) N r0 (fun b=>Fx N r0 a b N) a f g).1
theorem J_ (a f g e):(@W0 R N a f g e)=(Yi N e (fun b=>Fx N e a b N) a f g):=by rw[W0,(Ag _).2]
def UM:Oi:=[V9 N,C3 N,jE N]
def mP (F:KF R):=Ip Tryz.f140 GV (UM N) [100000,100001] N F
def mQ (a:Lu) (b:Int) (K:St→O R):=fun h d c=>K ⟨[(0,(.optr 100000 0)),(1,(.str a)),(2,(.fn 141 [(.optr 100001 0)])),(15,(iv b)),(16,(iv h))],[(100000,(bP d 0 c)),(100001,(bN 0 [(.optr 100000 0)]))]⟩
theorem ZU (F:KF R) (a b):∀ n,mQ a b (Al (mP N F (pz 84) []) n)=(Fx N (Ux F) a b n):=Eu fun n e=>(Bp (La N (Ux F) a b) e:_)
def qd:=Cw N 140 (UM N) GV (fun
 | [(.optr 100000 0),(.str a),(.fn 141 [(.optr 100001 0)])],[(100000,⟨false,false,true,f,0,g,false,none⟩),(100001,⟨false,false,false,false,0,[(.optr 100000 0)],false,none⟩)]=>some fun _ k=>(W0 N a f g (Ux k))
 | _,_=>none) fun _ _=>by split;intro R F;exact(Bp (Yi N (Ux F) · _ _ _) (eo fun b=>(lW ..).trans (ZU ..)):_).trans (J_ ..).symm;trivial
def U7 (r0:Bool→LA→O R) (a:LA) (c:Nat) (b:Bool) (k0:Int→Int→Bool→LA→O R) (g d:Int) (h:Bool) (i:LA):O R :=
 (cond (decide (d<g)) (cond (Af d c) (cond (ble 3 ((a.drop ((d.toNat)*3)).length)) (cond ((beq 0 0)&&((beq (((a.drop ((d.toNat)*3)).take 3).length) 3)&&(beq 3 3))) (JX N 1 d h i fun j l=>O' ((a.drop ((d.toNat)*3)).take 3) fun m=>W0 N m j l fun o p=>Ba 1 (((a.drop ((d.toNat)*3)).take 3).drop 1) fun q r=>Mi N 1 q r false b 0 1048576 o p fun s t=>Ao .i64 (((a.drop ((d.toNat)*3)).take 3).drop 2) fun u=>A0 N 2 u 0 1048576 s t fun v w=>k0 g (wrap .i64 (d+1)) v w) none) none) none) (r0 h i))
def Lb (r0:Bool→LA→O R) (a:LA) (c:Nat) (b:Bool):Nat→Int→Int→Bool→LA→O R
 | 0,_,_,_,_=>none
 | n+1,g,d,h,i=>(U7 N r0 a c b (Lb r0 a c b n) g d h i)
def MZ (N:Nat) (r0:Bool→LA→O R) (q0:LA→Nat→Int→Int→Bool→LA→O R) (b:Bool) (f:LA):O R :=
 (Ba 3 (f.drop 2) fun a c=>q0 a c (c:Int) 0 b f)
def BO:=(Ag fun N b f r0=>MZ (R:=R) N r0 (fun a c=>Lb N r0 a c b N) b f).1
theorem UN (b f e):(@BO R N b f e)=(MZ N e (fun a c=>Lb N e a c b N) b f):=by rw[BO,(Ag _).2]
def dD:Hints:={ H:=(hK 2 (hS (hP [1,8,9,10] hL) hL)) }
def jF:Oi:=[Yf N,qd N,JY N,He N]
def tQ (F:KF R):=Ip Tryz.f91 dD (jF N) [100000] N F
def tR (a:LA) (c:Nat) (b:Bool) (K:St→O R):=fun g d h i=>K ⟨[(1,(op 0)),(8,(.imm a c 3 false b)),(9,(iv g)),(10,(iv d))],[(100000,(bP h 0 i)),(300000,(bN 0 [(.optr 100000 0)]))]⟩
theorem jG (F:KF R) (a c b):∀ n,tR a c b (Al (tQ N F (pz 84) []) n)=(Lb N (Cl F) a c b n):=Eu fun n e=>(Bp (U7 N (Cl F) a c b) e:_)
def wH:=Cw N 91 (jF N) dD (fun
 | [(.optr 100000 0)],[(100000,⟨false,false,true,b,0,f,false,none⟩)]=>some fun _ k=>(BO N b f (Cl k))
 | _,_=>none) fun _ _=>by split;intro R F;exact(Bp (MZ N (Cl F) · _ _) (ZD fun a c=>(lW ..).trans (jG ..)):_).trans (UN ..).symm;trivial
def Z1 (N:Nat) (a:Int) (c:Bool) (b:LA) (r0:Lu→O R):O R :=
 (Ba 12 (b.drop 3) fun d e=>cond (Af a e) (O' (d.drop ((a.toNat)*12)) fun f=>r0 f) none)
def U8:=(Ag (@Z1 R)).1
theorem BP:@U8 R=@Z1 R:=(Ag _).2
def jH:=Cw N 142 [] Fq (fun
 | [(.int .i64 a),(.optr 100000 0)],[(100000,⟨false,false,false,false,0,[(.optr 100001 0)],false,none⟩),(100001,⟨false,false,true,c,0,b,false,none⟩)]=>some fun _ k=>(U8 N a c b (yt c b k))
 | _,_=>none) fun _ _=>by split;intro R F;dsimp only;rw[BP];kernel_rfl;trivial
def Lc (r0:Bool→LA→O R) (a:Lu) (b:Int) (k0:Int→Bool→LA→O R) (h:Int) (d:Bool) (c:LA):O R :=
 (cond (decide (h<b)) (Ao .i64 (c.drop 11) fun j=>cond (j != 0) (r0 d c) (U8 N h d c fun l=>As N (!(l==a)) 0 10 d c fun m o=>k0 (wrap .i64 (h+1)) m o)) (r0 d c))
def Fy (r0:Bool→LA→O R) (a:Lu) (b:Int):Nat→Int→Bool→LA→O R
 | 0,_,_,_=>none
 | n+1,h,d,c=>(Lc N r0 a b (Fy r0 a b n) h d c)
def Yj (r0:Bool→LA→O R) (q0:Int→Int→Bool→LA→O R) (a:Lu) (f:Bool) (g:LA):O R :=
 (Sb N a fun p=>As N p 0 9 f g fun q i=>Ao .i64 (i.drop 9) fun b=>q0 b 0 q i)
def W1:=(Ag fun N a f g r0=>Yj (R:=R) N r0 (fun b=>Fy N r0 a b N) a f g).1
theorem KA (a f g e):(@W1 R N a f g e)=(Yj N e (fun b=>Fy N e a b N) a f g):=by rw[W1,(Ag _).2]
def UO:Oi:=[V9 N,C3 N,jH N]
def mR (F:KF R):=Ip Tryz.f140 GV (UO N) [100000,100001] N F
def mS (a:Lu) (b:Int) (K:St→O R):=fun h d c=>K ⟨[(0,(.optr 100000 0)),(1,(.str a)),(2,(.fn 142 [(.optr 100001 0)])),(15,(iv b)),(16,(iv h))],[(100000,(bP d 0 c)),(100001,(bN 0 [(.optr 100000 0)]))]⟩
theorem ZV (F:KF R) (a b):∀ n,mS a b (Al (mR N F (pz 84) []) n)=(Fy N (Ux F) a b n):=Eu fun n e=>(Bp (Lc N (Ux F) a b) e:_)
def qe:=Cw N 140 (UO N) GV (fun
 | [(.optr 100000 0),(.str a),(.fn 142 [(.optr 100001 0)])],[(100000,⟨false,false,true,f,0,g,false,none⟩),(100001,⟨false,false,false,false,0,[(.optr 100000 0)],false,none⟩)]=>some fun _ k=>(W1 N a f g (Ux k))
 | _,_=>none) fun _ _=>by split;intro R F;exact(Bp (Yj N (Ux F) · _ _ _) (eo fun b=>(lW ..).trans (ZV ..)):_).trans (KA ..).symm;trivial
def qf (b c:Int) (d:Bool) (a:LA) (r0:Bool→LA→O R):O R :=
 (cond ((decide (c≥0))==true) (Ba 3 (a.drop 2) fun j e=>As N (cond true (decide (c<(e:Int))) false) b 12 d a fun f g=>r0 f g) (As N false b 12 d a fun h i=>r0 h i))
def KB:=(Ag (@qf R)).1
theorem jI:@KB R=@qf R:=(Ag _).2
def UP:=Cw N 143 [C3 N] Fq (fun
 | [(.optr 100000 0),(.int .i64 b),(.int .i64 c)],[(100000,⟨false,false,true,d,0,a,false,none⟩)]=>some fun _ k=>(KB N b c d a (Cl k))
 | _,_=>none) fun _ _=>by split;intro R F;dsimp only;rw[jI];kernel_rfl;trivial
def ZW (N:Nat) (a:LA) (b:Bool) (r0:Bool→O R):O R :=
 (Ao .i64 (a.drop 1) fun c=>cond ((decide (c≥1))==true) (Ao .i64 (a.drop 1) fun d=>cond ((cond true (decide (d≤1048576)) false)==true) (Ao .i64 a fun e=>cond ((cond true (decide (e≥(-1048576))) false)==true) (Ao .i64 a fun f=>r0 (cond true (decide (f≤1048576)) false)) (r0 false)) (r0 false)) (r0 false))
def W2:=(Ag (@ZW R)).1
theorem UQ:@W2 R=@ZW R:=(Ag _).2
def jJ:=Cw N 144 [] Fq (fun
 | [(.pagg a b)],[]=>some fun _ k=>(W2 N a b (Bq k))
 | _,_=>none) fun _ _=>by split;intro R F;dsimp only;rw[UQ];kernel_rfl;trivial
def Ic (N:Nat) (r0:Bool→O R) (b:LA) (a:Nat) (c d:Bool) (k0:Int→O R) (f:Int):O R :=
 (cond (decide (f<(a:Int))) (cond (Af f a) (Ao .i64 (b.drop ((f.toNat)*1)) fun g=>cond (Af (wrap .i64 (f - 1)) a) (Ao .i64 (b.drop (((wrap .i64 (f - 1)).toNat)*1)) fun h=>cond (decide (g≤h)) (r0 false) (k0 (wrap .i64 (f+1)))) none) none) (r0 true))
def D4 (r0:Bool→O R) (b:LA) (a:Nat) (c d:Bool):Nat→Int→O R
 | 0,_=>none
 | n+1,f=>(Ic N r0 b a c d (D4 r0 b a c d n) f)
def Sc (N:Nat) (r0:Bool→O R) (q0:Int→O R) (b:LA) (a:Nat) (c d:Bool):O R :=
 (q0 1)
def I4:=(Ag fun N b a c d r0=>Sc (R:=R) N r0 (D4 N r0 b a c d N) b a c d).1
theorem BQ (b a c d e):(@I4 R N b a c d e)=(Sc N e (D4 N e b a c d N) b a c d):=by rw[I4,(Ag _).2]
def fF (F:KF R):=Ip Tryz.f151 cL [] [] N F
def fG (b:LA) (a:Nat) (c d:Bool) (K:St→O R):=fun f=>K ⟨[(0,(.imm b a 1 c d)),(3,(iv f))],[]⟩
theorem RH (F:KF R) (b a c d):∀ n,fG b a c d (Al (fF N F (pz 324) []) n)=(D4 N (Bq F) b a c d n):=Eu fun n e=>(Bp (Ic N (Bq F) b a c d) e:_)
def W3:=Cw N 151 [] cL (fun
 | [(.imm b a 1 c d)],[]=>some fun _ k=>(I4 N b a c d (Bq k))
 | _,_=>none) fun _ _=>by split;intro R F;exact(Bp (Sc N (Bq F) · _ _ _ _) ((lW ..).trans (RH ..)):_).trans (BQ ..).symm;trivial
def Yk (r0:Bool→LA→O R) (c:Int) (b:LA) (a:Nat) (f d g:Bool) (h:LA) (k0:Int→Int→Bool→LA→O R) (m j:Int) (l:Bool) (i:LA):O R :=
 (cond (decide (j<m)) (cond (Af j a) (Ao .i64 (b.drop ((j.toNat)*1)) fun o=>Ao .i64 (i.drop 11) fun p=>cond (p != 0) (r0 l i) (Ao .i64 i fun q=>A0 N c o 0 (wrap .i64 (q - 1)) l i fun r s=>k0 m (wrap .i64 (j+1)) r s)) none) (I4 N b a false d fun t=>As N t c 11 l i fun u v=>r0 u v))
def N9 (r0:Bool→LA→O R) (c:Int) (b:LA) (a:Nat) (f d g:Bool) (h:LA):Nat→Int→Int→Bool→LA→O R
 | 0,_,_,_,_=>none
 | n+1,m,j,l,i=>(Yk N r0 c b a f d g h (N9 r0 c b a f d g h n) m j l i)
def UR (N:Nat) (r0:Bool→LA→O R) (q0:Int→Int→Bool→LA→O R) (c:Int) (b:LA) (a:Nat) (f d g:Bool) (h:LA):O R :=
 (q0 (a:Int) 0 g h)
def M_:=(Ag fun N c b a f d g h r0=>UR (R:=R) N r0 (N9 N r0 c b a f d g h N) c b a f d g h).1
theorem dE (c b a f d g h e):(@M_ R N c b a f d g h e)=(UR N e (N9 N e c b a f d g h N) c b a f d g h):=by rw[M_,(Ag _).2]
def jK:Hints:={ H:=(hS (hK 1 (hS (hP [0,1,2,8,9,10] hL) hL)) hL) }
def oV:Oi:=[He N,W3 N,C3 N]
def wI (F:KF R):=Ip Tryz.f145 jK (oV N) [100000] N F
def wJ (c:Int) (b:LA) (a:Nat) (f d g:Bool) (h:LA) (K:St→O R):=fun m j l i=>K ⟨[(0,(.optr 100000 0)),(1,(iv c)),(2,(.imm b a 1 f d)),(8,(.imm b a 1 f d)),(9,(iv m)),(10,(iv j))],[(100000,(bP l 0 i))]⟩
theorem mT (F:KF R) (c b a f d g h):∀ n,wJ c b a f d g h (Al (wI N F (pz 68) []) n)=(N9 N (Cl F) c b a f d g h n):=Eu fun n e=>(Bp (Yk N (Cl F) c b a f d g h) e:_)
def oW:=Cw N 145 (oV N) jK (fun
 | [(.optr 100000 0),(.int .i64 c),(.imm b a 1 f d)],[(100000,⟨false,false,true,g,0,h,false,none⟩)]=>some fun _ k=>(M_ N c b a f d g h (Cl k))
 | _,_=>none) fun _ _=>by split;intro R F;exact(Bp (UR N (Cl F) · _ _ _ _ _ _ _) ((lW ..).trans (mT ..)):_).trans (dE ..).symm;trivial
def KC (k0:Int→Int→Bool→LA→O R) (r0:Bool→LA→O R) (a:LA) (c:Nat) (b:Bool) (f:Int) (g d:LA) (s:Int) (t:Bool) (u:LA):O R :=
 (Ao .i64 (g.drop 9) fun x=>A0 N 6 x 0 1048576 t u fun y z=>Ao .i64 (g.drop 10) fun aa=>Ao .i64 (g.drop 9) fun ab=>A0 N 7 aa ab 1048576 y z fun ac ad=>Ba 1 (g.drop 11) fun ae af=>M_ N 8 ae af false b ac ad fun ag ah=>k0 f (wrap .i64 (s+1)) ag ah)
def EL (k0:Int→Int→Bool→LA→O R) (r0:Bool→LA→O R) (a:LA) (c:Nat) (b:Bool) (f:Int) (g d:LA) (q3:Int→Bool→LA→O R) (i:Int) (j:Bool) (l:LA):O R :=
 (cond (ble 2 ((g.drop 7).length)) (cond ((!b)||(Ax ((g.drop 7).take 2))) (W2 N ((g.drop 7).take 2) false fun ai=>cond (ai==true) (Ao .i64 (g.drop 7) fun aj=>As N (cond true (decide (aj≥0)) false) 5 3 j l fun ak al=>q3 i ak al) (As N false 5 3 j l fun am an=>q3 i am an)) none) none)
def KD (k0:Int→Int→Bool→LA→O R) (r0:Bool→LA→O R) (a:LA) (c:Nat) (b:Bool) (f:Int) (g d:LA) (i:Int) (j:Bool) (l:LA):O R:=(EL N k0 r0 a c b f g d (KC N k0 r0 a c b f g d) i j l)
def EM (k0:Int→Int→Bool→LA→O R) (r0:Bool→LA→O R) (a:LA) (c:Nat) (b:Bool) (f:Int) (d:LA) (q2:LA→Int→Bool→LA→O R) (m:Int) (o:Bool) (p g:LA):O R :=
 (cond (ble 2 ((g.drop 5).length)) (cond ((!b)||(Ax ((g.drop 5).take 2))) (W2 N ((g.drop 5).take 2) false fun ao=>cond (ao==true) (Ao .i64 (g.drop 5) fun ap=>As N (cond true (decide (ap≤0)) false) 4 3 o p fun aq ar=>q2 g m aq ar) (As N false 4 3 o p fun au av=>q2 g m au av)) none) none)
def Yl (k0:Int→Int→Bool→LA→O R) (r0:Bool→LA→O R) (a:LA) (c:Nat) (b:Bool) (f:Int) (d:LA) (m:Int) (o:Bool) (p g:LA):O R:=(EM N k0 r0 a c b f d (fun g=>KD N k0 r0 a c b f g d) m o p g)
def U9 (r0:Bool→LA→O R) (a:LA) (c:Nat) (b:Bool) (d:LA) (k0:Int→Int→Bool→LA→O R) (q1:Int→Int→Bool→LA→LA→O R) (f h:Int) (q:Bool) (r:LA):O R :=
 (cond (decide (h<f)) (cond (Af h c) (cond (ble 12 ((a.drop ((h.toNat)*12)).length)) (cond ((beq 0 0)&&((beq (((a.drop ((h.toNat)*12)).take 12).length) 12)&&(beq 12 12))) (JX N 2 h q r fun aw ax=>O' ((a.drop ((h.toNat)*12)).take 12) fun ay=>W1 N ay aw ax fun az ba=>Ao .i64 (((a.drop ((h.toNat)*12)).take 12).drop 1) fun bb=>KB N 1 bb az ba fun bc bd=>Ao .i64 (((a.drop ((h.toNat)*12)).take 12).drop 2) fun be=>KB N 2 be bc bd fun bf bg=>Ao .i64 (((a.drop ((h.toNat)*12)).take 12).drop 2) fun bh=>Ao .i64 (((a.drop ((h.toNat)*12)).take 12).drop 1) fun bi=>As N (bh != bi) 2 1 bf bg fun v w=>cond (ble 2 ((((a.drop ((h.toNat)*12)).take 12).drop 3).length)) (cond ((!b)||(Ax ((((a.drop ((h.toNat)*12)).take 12).drop 3).take 2))) (W2 N ((((a.drop ((h.toNat)*12)).take 12).drop 3).take 2) false fun bj=>cond (bj==true) (Ao .i64 (((a.drop ((h.toNat)*12)).take 12).drop 3) fun bk=>As N (cond true (decide (bk>0)) false) 3 3 v w fun bl bm=>q1 f h bl bm ((a.drop ((h.toNat)*12)).take 12)) (As N false 3 3 v w fun bn bo=>q1 f h bn bo ((a.drop ((h.toNat)*12)).take 12))) none) none) none) none) none) (r0 q r))
def Ir (r0:Bool→LA→O R) (a:LA) (c:Nat) (b:Bool) (d:LA):Nat→Int→Int→Bool→LA→O R
 | 0,_,_,_,_=>none
 | n+1,f,h,q,r=>(U9 N r0 a c b d (Ir r0 a c b d n) (fun f=>Yl N (Ir r0 a c b d n) r0 a c b f d) f h q r)
def M' (N:Nat) (r0:Bool→LA→O R) (q0:LA→Nat→Int→Int→Bool→LA→O R) (b:Bool) (d:LA):O R :=
 (Ba 12 (d.drop 3) fun a c=>q0 a c (c:Int) 0 b d)
def BR:=(Ag fun N b d r0=>M' (R:=R) N r0 (fun a c=>Ir N r0 a c b d N) b d).1
theorem US (b d e):(@BR R N b d e)=(M' N e (fun a c=>Ir N e a c b d N) b d):=by rw[BR,(Ag _).2]
def dF:Hints:={ H:=(hK 2 (hS (hP [1,8,9,10] (hK 2 (hS (hS (hK 6 (hJ [1,3,8,9,10] hL (hJ [1,3,8,9,10] hL (hJ [1,3,8,9,10] hL hL)))) hL) hL))) hL)) }
def jL:Oi:=[Yf N,qe N,UP N,C3 N,jJ N,He N,oW N]
def Ym (F:KF R):=Ip Tryz.f92 dF (jL N) [100000] N F
def tS (a:LA) (c:Nat) (b:Bool) (f:Int) (g d:LA) (K:St→O R):=fun s t u=>K ⟨[(1,(op 0)),(3,(op 1)),(8,(.imm a c 12 false b)),(9,(iv f)),(10,(iv s))],[(100000,(bP t 0 u)),(300000,(bN 0 [(.optr 100000 0)])),(300001,(bP b 0 g))]⟩
def tT (a:LA) (c:Nat) (b:Bool) (f:Int) (g d:LA) (K:St→O R):=fun i j l=>K ⟨[(1,(op 0)),(3,(op 1)),(8,(.imm a c 12 false b)),(9,(iv f)),(10,(iv i))],[(100000,(bP j 0 l)),(300000,(bN 0 [(.optr 100000 0)])),(300001,(bP b 0 g))]⟩
def tU (a:LA) (c:Nat) (b:Bool) (f:Int) (d:LA) (K:St→O R):=fun m o p g=>K ⟨[(1,(op 0)),(3,(op 1)),(8,(.imm a c 12 false b)),(9,(iv f)),(10,(iv m))],[(100000,(bP o 0 p)),(300000,(bN 0 [(.optr 100000 0)])),(300001,(bP b 0 g))]⟩
def Ol (a:LA) (c:Nat) (b:Bool) (d:LA) (K:St→O R):=fun f h q r=>K ⟨[(1,(op 0)),(8,(.imm a c 12 false b)),(9,(iv f)),(10,(iv h))],[(100000,(bP q 0 r)),(300000,(bN 0 [(.optr 100000 0)]))]⟩
theorem jM (Q0) (F:KF R) (a c b f g d):tS a c b f g d (Bh (Ym N F (pz 22569637205) [Q0]))=(KC N (Ol a c b d Q0) (Cl F) a c b f g d):=by kernel_rfl
theorem jN (Q0) (F:KF R) (a c b f g d):tT a c b f g d (Bh (Ym N F (pz 5642409301) [Q0]))=(KD N (Ol a c b d Q0) (Cl F) a c b f g d):=(Bp (EL N (Ol a c b d Q0) (Cl F) a c b f g d) ((jW ..).trans (jM ..)):_)
theorem jO (Q0) (F:KF R) (a c b f d):tU a c b f d (Bh (Ym N F (pz 1410602325) [Q0]))=(Yl N (Ol a c b d Q0) (Cl F) a c b f d):=(Bp (EM N (Ol a c b d Q0) (Cl F) a c b f d) (eo fun g=>(jW ..).trans (jN ..)):_)
theorem jP (F:KF R) (a c b d):∀ n,Ol a c b d (Al (Ym N F (pz 84) []) n)=(Ir N (Cl F) a c b d n):=Eu fun n e=>(DZ (U9 N (Cl F) a c b d) e (eo fun f=>(jW ..).trans ((jO ..).trans (ly (Yl _ · _ _ _ _ _ _) e))):_)
def wK:=Cw N 92 (jL N) dF (fun
 | [(.optr 100000 0)],[(100000,⟨false,false,true,b,0,d,false,none⟩)]=>some fun _ k=>(BR N b d (Cl k))
 | _,_=>none) fun _ _=>by split;intro R F;exact(Bp (M' N (Cl F) · _ _) (ZD fun a c=>(lW ..).trans (jP ..)):_).trans (US ..).symm;trivial
def Z2 (N:Nat) (a:Int) (c:Bool) (b:LA) (r0:Lu→O R):O R :=
 (Ba 22 (b.drop 4) fun d e=>cond (Af a e) (O' (d.drop ((a.toNat)*22)) fun f=>r0 f) none)
def Va:=(Ag (@Z2 R)).1
theorem BS:@Va R=@Z2 R:=(Ag _).2
def jQ:=Cw N 146 [] Fq (fun
 | [(.int .i64 a),(.optr 100000 0)],[(100000,⟨false,false,false,false,0,[(.optr 100001 0)],false,none⟩),(100001,⟨false,false,true,c,0,b,false,none⟩)]=>some fun _ k=>(Va N a c b (yt c b k))
 | _,_=>none) fun _ _=>by split;intro R F;dsimp only;rw[BS];kernel_rfl;trivial
def Ld (r0:Bool→LA→O R) (a:Lu) (b:Int) (k0:Int→Bool→LA→O R) (h:Int) (d:Bool) (c:LA):O R :=
 (cond (decide (h<b)) (Ao .i64 (c.drop 11) fun j=>cond (j != 0) (r0 d c) (Va N h d c fun l=>As N (!(l==a)) 0 10 d c fun m o=>k0 (wrap .i64 (h+1)) m o)) (r0 d c))
def Fz (r0:Bool→LA→O R) (a:Lu) (b:Int):Nat→Int→Bool→LA→O R
 | 0,_,_,_=>none
 | n+1,h,d,c=>(Ld N r0 a b (Fz r0 a b n) h d c)
def Yn (r0:Bool→LA→O R) (q0:Int→Int→Bool→LA→O R) (a:Lu) (f:Bool) (g:LA):O R :=
 (Sb N a fun p=>As N p 0 9 f g fun q i=>Ao .i64 (i.drop 9) fun b=>q0 b 0 q i)
def W4:=(Ag fun N a f g r0=>Yn (R:=R) N r0 (fun b=>Fz N r0 a b N) a f g).1
theorem KE (a f g e):(@W4 R N a f g e)=(Yn N e (fun b=>Fz N e a b N) a f g):=by rw[W4,(Ag _).2]
def UT:Oi:=[V9 N,C3 N,jQ N]
def mU (F:KF R):=Ip Tryz.f140 GV (UT N) [100000,100001] N F
def mV (a:Lu) (b:Int) (K:St→O R):=fun h d c=>K ⟨[(0,(.optr 100000 0)),(1,(.str a)),(2,(.fn 146 [(.optr 100001 0)])),(15,(iv b)),(16,(iv h))],[(100000,(bP d 0 c)),(100001,(bN 0 [(.optr 100000 0)]))]⟩
theorem ZX (F:KF R) (a b):∀ n,mV a b (Al (mU N F (pz 84) []) n)=(Fz N (Ux F) a b n):=Eu fun n e=>(Bp (Ld N (Ux F) a b) e:_)
def qg:=Cw N 140 (UT N) GV (fun
 | [(.optr 100000 0),(.str a),(.fn 146 [(.optr 100001 0)])],[(100000,⟨false,false,true,f,0,g,false,none⟩),(100001,⟨false,false,false,false,0,[(.optr 100000 0)],false,none⟩)]=>some fun _ k=>(W4 N a f g (Ux k))
 | _,_=>none) fun _ _=>by split;intro R F;exact(Bp (Yn N (Ux F) · _ _ _) (eo fun b=>(lW ..).trans (ZX ..)):_).trans (KE ..).symm;trivial
def J4 (r0:Bool→LA→O R) (d:Int) (b:Bool) (a:LA) (k1:Int→Bool→LA→O R) (h:Int) (l:Bool) (m:LA):O R :=
 (Ba 2 (a.drop 4) fun ap t=>cond (decide (h<(t:Int))) (Ba 2 (a.drop 4) fun u v=>cond (Af h v) (Ao .i64 ((u.drop ((h.toNat)*2)).drop 1) fun w=>Ba 2 (a.drop 4) fun x y=>cond (Af (wrap .i64 (h - 1)) y) (Ao .i64 ((x.drop (((wrap .i64 (h - 1)).toNat)*2)).drop 1) fun z=>As N (decide (w≥z)) 4 11 l m fun aa ab=>k1 (wrap .i64 (h+1)) aa ab) none) none) (Ao .i64 (a.drop 3) fun ac=>Ao .i64 (a.drop 2) fun ad=>As N (d==(wrap .i64 (ac - ad))) 4 4 l m fun ae af=>r0 ae af))
def Ge (r0:Bool→LA→O R) (d:Int) (b:Bool) (a:LA):Nat→Int→Bool→LA→O R
 | 0,_,_,_=>none
 | n+1,h,l,m=>(J4 N r0 d b a (Ge r0 d b a n) h l m)
def Nv (r0:Bool→LA→O R) (c:LA) (f:Nat) (b:Bool) (a:LA) (k0:Int→Int→Int→Bool→LA→O R) (q1:Int→Int→Bool→LA→O R) (d o g:Int) (p:Bool) (q:LA):O R :=
 (cond (decide (g<o)) (cond (Af g f) (cond (ble 2 ((c.drop ((g.toNat)*2)).length)) (cond ((!b)||(Ax ((c.drop ((g.toNat)*2)).take 2))) (cond ((beq (((c.drop ((g.toNat)*2)).take 2).length) 2)&&((ble 2 2)&&(!false))) (Ao .i64 (setCells [(.int .i64 0),(.int .i64 0)] 0 ((c.drop ((g.toNat)*2)).take 2)) fun ag=>A0 N 4 ag 1 1048576 p q fun ah ai=>Ao .i64 ((setCells [(.int .i64 0),(.int .i64 0)] 0 ((c.drop ((g.toNat)*2)).take 2)).drop 1) fun aj=>A0 N 4 aj (-1048576) 1048576 ah ai fun ak al=>Ao .i64 (setCells [(.int .i64 0),(.int .i64 0)] 0 ((c.drop ((g.toNat)*2)).take 2)) fun am=>k0 (wrap .i64 (d+am)) o (wrap .i64 (g+1)) ak al) none) none) none) none) (q1 d 1 p q))
def Gf (r0:Bool→LA→O R) (c:LA) (f:Nat) (b:Bool) (a:LA):Nat→Int→Int→Int→Bool→LA→O R
 | 0,_,_,_,_,_=>none
 | n+1,d,o,g,p,q=>(Nv N r0 c f b a (Gf r0 c f b a n) (fun d=>Ge N r0 d b a N) d o g p q)
def Vb (r0:Bool→LA→O R) (q0:LA→Nat→Int→Int→Int→Bool→LA→O R) (a:LA) (b i:Bool) (j:LA):O R :=
 (Ba 2 (a.drop 4) fun aq an=>As N (decide ((an:Int)≤8)) 4 8 i j fun s r=>Ao .i64 (r.drop 11) fun ao=>cond (ao != 0) (r0 s r) (Ba 2 (a.drop 4) fun c f=>q0 c f 0 (f:Int) 0 s r))
def Om:=(Ag fun N a b i j r0=>Vb (R:=R) N r0 (fun c f=>Gf N r0 c f b a N) a b i j).1
theorem GZ (a b i j e):(@Om R N a b i j e)=(Vb N e (fun c f=>Gf N e c f b a N) a b i j):=by rw[Om,(Ag _).2]
def KG:Hints:={ H:=(hK 4 (hS (hK 1 (hS (hP [0,3,4,20,21,22] hL) hL)) (hS (hK 1 (hS (hP [0,3,4,7] hL) hL)) hL))) }
def PM:Oi:=[C3 N,He N]
def KH (F:KF R):=Ip Tryz.f147 KG (PM N) [100000] N F
def jR (d:Int) (b:Bool) (a:LA) (K:St→O R):=fun h l m=>K ⟨[(0,(.optr 100000 0)),(3,(op 0)),(4,(iv d)),(7,(iv h))],[(100000,(bP l 0 m)),(300000,(bP b 0 a))]⟩
def jS (c:LA) (f:Nat) (b:Bool) (a:LA) (K:St→O R):=fun d o g p q=>K ⟨[(0,(.optr 100000 0)),(3,(op 0)),(4,(iv d)),(20,(.imm c f 2 false b)),(21,(iv o)),(22,(iv g))],[(100000,(bP p 0 q)),(300000,(bP b 0 a))]⟩
theorem UU (F:KF R) (d b a):∀ n,jR d b a (Al (KH N F (pz 87364) []) n)=(Ge N (Cl F) d b a n):=Eu fun n e=>(Bp (J4 N (Cl F) d b a) e:_)
theorem UV (F:KF R) (c f b a):∀ n,jS c f b a (Al (KH N F (pz 21828) []) n)=(Gf N (Cl F) c f b a n):=Eu fun n e=>(DZ (Nv N (Cl F) c f b a) e (eo fun d=>(lW ..).trans (UU ..)):_)
def mW:=Cw N 147 (PM N) KG (fun
 | [(.optr 100000 0),(.pagg a b)],[(100000,⟨false,false,true,i,0,j,false,none⟩)]=>some fun _ k=>(Om N a b i j (Cl k))
 | _,_=>none) fun _ _=>by split;intro R F;exact(Bp (Vb N (Cl F) · _ _ _ _) (ZD fun c f=>(lW ..).trans (UV ..)):_).trans (GZ ..).symm;trivial
def KI (k0:Int→Int→Bool→LA→O R) (r0:Bool→LA→O R) (a:LA) (c:Nat) (b:Bool) (g:Int) (h d:LA) (s:Int) (t:Bool) (u:LA):O R :=
 (Ao .i64 (h.drop 19) fun z=>cond (z==2) (Ao .i64 (h.drop 21) fun aa=>Ao .i64 (h.drop 2) fun ab=>Ao .i64 (h.drop 3) fun ac=>A0 N 21 aa ab ac t u fun ad ae=>k0 g (wrap .i64 (s+1)) ad ae) (Ao .i64 (h.drop 21) fun af=>A0 N 21 af 0 0 t u fun ag ah=>k0 g (wrap .i64 (s+1)) ag ah))
def EN (k0:Int→Int→Bool→LA→O R) (r0:Bool→LA→O R) (a:LA) (c:Nat) (b:Bool) (g:Int) (h d:LA) (q3:Int→Bool→LA→O R) (i:Int) (q:Bool) (r:LA):O R :=
 (Ao .i64 (h.drop 20) fun ai=>A0 N 20 ai 1 48 q r fun x y=>Ao .i64 (h.drop 19) fun aj=>cond ((aj != 1)==false) (Ao .i64 (h.drop 20) fun ak=>Ao .i64 (h.drop 12) fun al=>As N (cond false true (decide (ak≤al))) 20 3 x y fun am an=>q3 i am an) (As N true 20 3 x y fun ao ap=>q3 i ao ap))
def KJ (k0:Int→Int→Bool→LA→O R) (r0:Bool→LA→O R) (a:LA) (c:Nat) (b:Bool) (g:Int) (h d:LA) (i:Int) (q:Bool) (r:LA):O R:=(EN N k0 r0 a c b g h d (KI N k0 r0 a c b g h d) i q r)
def EO (k0:Int→Int→Bool→LA→O R) (r0:Bool→LA→O R) (a:LA) (c:Nat) (b:Bool) (g:Int) (d:LA) (q2:LA→Int→Bool→LA→O R) (j:Int) (l:Bool) (m h:LA):O R :=
 (Ao .i64 (h.drop 19) fun aq=>cond ((aq != 1)==false) (Ao .i64 (h.drop 12) fun ar=>As N (cond false true (ar != 0)) 19 16 l m fun au av=>q2 h j au av) (As N true 19 16 l m fun aw ax=>q2 h j aw ax))
def Yo (k0:Int→Int→Bool→LA→O R) (r0:Bool→LA→O R) (a:LA) (c:Nat) (b:Bool) (g:Int) (d:LA) (j:Int) (l:Bool) (m h:LA):O R:=(EO N k0 r0 a c b g d (fun h=>KJ N k0 r0 a c b g h d) j l m h)
def Vc (r0:Bool→LA→O R) (a:LA) (c:Nat) (b:Bool) (d:LA) (k0:Int→Int→Bool→LA→O R) (q1:Int→Int→Bool→LA→LA→O R) (g f:Int) (o:Bool) (p:LA):O R :=
 (cond (decide (f<g)) (cond (Af f c) (cond (ble 22 ((a.drop ((f.toNat)*22)).length)) (cond ((beq 0 0)&&((beq (((a.drop ((f.toNat)*22)).take 22).length) 22)&&(beq 22 22))) (JX N 3 f o p fun ay az=>O' ((a.drop ((f.toNat)*22)).take 22) fun ba=>W4 N ba ay az fun bb bc=>Ao .i64 (((a.drop ((f.toNat)*22)).take 22).drop 1) fun bd=>KB N 1 bd bb bc fun be bf=>Ao .i64 (((a.drop ((f.toNat)*22)).take 22).drop 2) fun bg=>A0 N 2 bg 0 1048576 be bf fun bh bi=>Ao .i64 (((a.drop ((f.toNat)*22)).take 22).drop 3) fun bj=>Ao .i64 (((a.drop ((f.toNat)*22)).take 22).drop 2) fun bk=>A0 N 3 bj bk 1048576 bh bi fun bl bm=>cond (ble 22 (((a.drop ((f.toNat)*22)).take 22).length)) (Om N (((a.drop ((f.toNat)*22)).take 22).take 22) b bl bm fun bn bo=>Ao .i64 (((a.drop ((f.toNat)*22)).take 22).drop 5) fun bp=>A0 N 5 bp 0 1048576 bn bo fun bq br=>Ao .i64 (((a.drop ((f.toNat)*22)).take 22).drop 6) fun bs=>A0 N 6 bs 0 1048576 bq br fun bt bu=>Ao .i64 (((a.drop ((f.toNat)*22)).take 22).drop 7) fun bv=>A0 N 7 bv 0 1048576 bt bu fun bw bx=>Ao .i64 (((a.drop ((f.toNat)*22)).take 22).drop 8) fun bz=>Ao .i64 (((a.drop ((f.toNat)*22)).take 22).drop 2) fun ca=>Ao .i64 (((a.drop ((f.toNat)*22)).take 22).drop 3) fun cb=>A0 N 8 bz ca cb bw bx fun cc cd=>Ao .i64 (((a.drop ((f.toNat)*22)).take 22).drop 9) fun ce=>Ao .i64 (((a.drop ((f.toNat)*22)).take 22).drop 2) fun cf=>Ao .i64 (((a.drop ((f.toNat)*22)).take 22).drop 3) fun cg=>A0 N 9 ce cf cg cc cd fun ch ci=>Ao .i64 (((a.drop ((f.toNat)*22)).take 22).drop 10) fun cj=>A0 N 10 cj 0 24 ch ci fun ck cl=>Ao .i64 (((a.drop ((f.toNat)*22)).take 22).drop 11) fun cm=>A0 N 11 cm 0 24 ck cl fun cn co=>Ao .i64 (((a.drop ((f.toNat)*22)).take 22).drop 12) fun cp=>A0 N 12 cp 0 24 cn co fun cq cr=>Ao .i64 (((a.drop ((f.toNat)*22)).take 22).drop 13) fun cs=>A0 N 13 cs 0 1048576 cq cr fun ct cu=>Ao .i64 (((a.drop ((f.toNat)*22)).take 22).drop 14) fun cv=>A0 N 14 cv 0 1048576 ct cu fun cw cx=>Ao .i64 (((a.drop ((f.toNat)*22)).take 22).drop 15) fun cy=>A0 N 15 cy 0 24 cw cx fun cz da=>Ao .i64 (((a.drop ((f.toNat)*22)).take 22).drop 16) fun db=>A0 N 16 db 0 1048576 cz da fun dc dd=>Ao .i64 (((a.drop ((f.toNat)*22)).take 22).drop 17) fun de=>A0 N 17 de 0 1048576 dc dd fun df dg=>Ba 1 (((a.drop ((f.toNat)*22)).take 22).drop 18) fun dh di=>M_ N 18 dh di false b df dg fun v w=>Ao .i64 (((a.drop ((f.toNat)*22)).take 22).drop 19) fun dj=>cond ((dj==0)==false) (Ao .i64 (((a.drop ((f.toNat)*22)).take 22).drop 19) fun dk=>cond ((cond false true (dk==1))==false) (Ao .i64 (((a.drop ((f.toNat)*22)).take 22).drop 19) fun dl=>As N (cond false true (dl==2)) 19 12 v w fun dm dn=>q1 g f dm dn ((a.drop ((f.toNat)*22)).take 22)) (As N true 19 12 v w fun dp dq=>q1 g f dp dq ((a.drop ((f.toNat)*22)).take 22))) (As N true 19 12 v w fun dr ds=>q1 g f dr ds ((a.drop ((f.toNat)*22)).take 22))) none) none) none) none) (r0 o p))
def Is (r0:Bool→LA→O R) (a:LA) (c:Nat) (b:Bool) (d:LA):Nat→Int→Int→Bool→LA→O R
 | 0,_,_,_,_=>none
 | n+1,g,f,o,p=>(Vc N r0 a c b d (Is r0 a c b d n) (fun g=>Yo N (Is r0 a c b d n) r0 a c b g d) g f o p)
def NA (N:Nat) (r0:Bool→LA→O R) (q0:LA→Nat→Int→Int→Bool→LA→O R) (b:Bool) (d:LA):O R :=
 (Ba 22 (d.drop 4) fun a c=>q0 a c (c:Int) 0 b d)
def BT:=(Ag fun N b d r0=>NA (R:=R) N r0 (fun a c=>Is N r0 a c b d N) b d).1
theorem UW (b d e):(@BT R N b d e)=(NA N e (fun a c=>Is N e a c b d N) b d):=by rw[BT,(Ag _).2]
def dG:Hints:={ H:=(hK 2 (hS (hP [1,8,9,10] (hK 2 (hS (hS (hK 21 (hJ [1,3,8,9,10] hL (hJ [1,3,8,9,10] hL (hK 1 (hJ [1,3,8,9,10] hL hL))))) hL) hL))) hL)) }
def jT:Oi:=[Yf N,qg N,UP N,He N,mW N,oW N,C3 N]
def Yp (F:KF R):=Ip Tryz.f93 dG (jT N) [100000] N F
def tV (a:LA) (c:Nat) (b:Bool) (g:Int) (h d:LA) (K:St→O R):=fun s t u=>K ⟨[(1,(op 0)),(3,(op 1)),(8,(.imm a c 22 false b)),(9,(iv g)),(10,(iv s))],[(100000,(bP t 0 u)),(300000,(bN 0 [(.optr 100000 0)])),(300001,(bP b 0 h))]⟩
def tW (a:LA) (c:Nat) (b:Bool) (g:Int) (h d:LA) (K:St→O R):=fun i q r=>K ⟨[(1,(op 0)),(3,(op 1)),(8,(.imm a c 22 false b)),(9,(iv g)),(10,(iv i))],[(100000,(bP q 0 r)),(300000,(bN 0 [(.optr 100000 0)])),(300001,(bP b 0 h))]⟩
def tX (a:LA) (c:Nat) (b:Bool) (g:Int) (d:LA) (K:St→O R):=fun j l m h=>K ⟨[(1,(op 0)),(3,(op 1)),(8,(.imm a c 22 false b)),(9,(iv g)),(10,(iv j))],[(100000,(bP l 0 m)),(300000,(bN 0 [(.optr 100000 0)])),(300001,(bP b 0 h))]⟩
def On (a:LA) (c:Nat) (b:Bool) (d:LA) (K:St→O R):=fun g f o p=>K ⟨[(1,(op 0)),(8,(.imm a c 22 false b)),(9,(iv g)),(10,(iv f))],[(100000,(bP o 0 p)),(300000,(bN 0 [(.optr 100000 0)]))]⟩
theorem jU (Q0) (F:KF R) (a c b g h d):tV a c b g h d (Bh (Yp N F (pz 96935853679491503445) [Q0]))=(KI N (On a c b d Q0) (Cl F) a c b g h d):=by kernel_rfl
theorem jV (Q0) (F:KF R) (a c b g h d):tW a c b g h d (Bh (Yp N F (pz 6058490854968218965) [Q0]))=(KJ N (On a c b d Q0) (Cl F) a c b g h d):=(Bp (EN N (On a c b d Q0) (Cl F) a c b g h d) ((jW ..).trans (jU ..)):_)
theorem jX (Q0) (F:KF R) (a c b g d):tX a c b g d (Bh (Yp N F (pz 1514622713742054741) [Q0]))=(Yo N (On a c b d Q0) (Cl F) a c b g d):=(Bp (EO N (On a c b d Q0) (Cl F) a c b g d) (eo fun h=>(jW ..).trans (jV ..)):_)
theorem jY (F:KF R) (a c b d):∀ n,On a c b d (Al (Yp N F (pz 84) []) n)=(Is N (Cl F) a c b d n):=Eu fun n e=>(DZ (Vc N (Cl F) a c b d) e (eo fun g=>(jW ..).trans ((jX ..).trans (ly (Yo _ · _ _ _ _ _ _) e))):_)
def wL:=Cw N 93 (jT N) dG (fun
 | [(.optr 100000 0)],[(100000,⟨false,false,true,b,0,d,false,none⟩)]=>some fun _ k=>(BT N b d (Cl k))
 | _,_=>none) fun _ _=>by split;intro R F;exact(Bp (NA N (Cl F) · _ _) (ZD fun a c=>(lW ..).trans (jY ..)):_).trans (UW ..).symm;trivial
def W5 (N:Nat) (a:Int) (c:Bool) (b:LA) (r0:Lu→O R):O R :=
 (Ba 9 (b.drop 5) fun d e=>cond (Af a e) (O' (d.drop ((a.toNat)*9)) fun f=>r0 f) none)
def Sd:=(Ag (@W5 R)).1
theorem Yq:@Sd R=@W5 R:=(Ag _).2
def fH:=Cw N 148 [] Fq (fun
 | [(.int .i64 a),(.optr 100000 0)],[(100000,⟨false,false,false,false,0,[(.optr 100001 0)],false,none⟩),(100001,⟨false,false,true,c,0,b,false,none⟩)]=>some fun _ k=>(Sd N a c b (yt c b k))
 | _,_=>none) fun _ _=>by split;intro R F;dsimp only;rw[Yq];kernel_rfl;trivial
def J5 (r0:Bool→LA→O R) (a:Lu) (b:Int) (k0:Int→Bool→LA→O R) (h:Int) (d:Bool) (c:LA):O R :=
 (cond (decide (h<b)) (Ao .i64 (c.drop 11) fun j=>cond (j != 0) (r0 d c) (Sd N h d c fun l=>As N (!(l==a)) 0 10 d c fun m o=>k0 (wrap .i64 (h+1)) m o)) (r0 d c))
def E6 (r0:Bool→LA→O R) (a:Lu) (b:Int):Nat→Int→Bool→LA→O R
 | 0,_,_,_=>none
 | n+1,h,d,c=>(J5 N r0 a b (E6 r0 a b n) h d c)
def Vd (r0:Bool→LA→O R) (q0:Int→Int→Bool→LA→O R) (a:Lu) (f:Bool) (g:LA):O R :=
 (Sb N a fun p=>As N p 0 9 f g fun q i=>Ao .i64 (i.drop 9) fun b=>q0 b 0 q i)
def Te:=(Ag fun N a f g r0=>Vd (R:=R) N r0 (fun b=>E6 N r0 a b N) a f g).1
theorem G_ (a f g e):(@Te R N a f g e)=(Vd N e (fun b=>E6 N e a b N) a f g):=by rw[Te,(Ag _).2]
def PN:Oi:=[V9 N,C3 N,fH N]
def jZ (F:KF R):=Ip Tryz.f140 GV (PN N) [100000,100001] N F
def j0 (a:Lu) (b:Int) (K:St→O R):=fun h d c=>K ⟨[(0,(.optr 100000 0)),(1,(.str a)),(2,(.fn 148 [(.optr 100001 0)])),(15,(iv b)),(16,(iv h))],[(100000,(bP d 0 c)),(100001,(bN 0 [(.optr 100000 0)]))]⟩
theorem UX (F:KF R) (a b):∀ n,j0 a b (Al (jZ N F (pz 84) []) n)=(E6 N (Ux F) a b n):=Eu fun n e=>(Bp (J5 N (Ux F) a b) e:_)
def mX:=Cw N 140 (PN N) GV (fun
 | [(.optr 100000 0),(.str a),(.fn 148 [(.optr 100001 0)])],[(100000,⟨false,false,true,f,0,g,false,none⟩),(100001,⟨false,false,false,false,0,[(.optr 100000 0)],false,none⟩)]=>some fun _ k=>(Te N a f g (Ux k))
 | _,_=>none) fun _ _=>by split;intro R F;exact(Bp (Vd N (Ux F) · _ _ _) (eo fun b=>(lW ..).trans (UX ..)):_).trans (G_ ..).symm;trivial
def Se (r0:Bool→LA→O R) (a:LA) (d:Nat) (c:Bool) (k0:Int→Int→Bool→LA→O R) (g b:Int) (h:Bool) (i:LA):O R :=
 (cond (decide (b<g)) (cond (Af b d) (cond (ble 9 ((a.drop ((b.toNat)*9)).length)) (cond ((beq 0 0)&&((beq (((a.drop ((b.toNat)*9)).take 9).length) 9)&&(beq 9 9))) (JX N 4 b h i fun m o=>O' ((a.drop ((b.toNat)*9)).take 9) fun p=>Te N p m o fun q r=>Ao .i64 (((a.drop ((b.toNat)*9)).take 9).drop 1) fun s=>KB N 1 s q r fun t u=>Ao .i64 (((a.drop ((b.toNat)*9)).take 9).drop 2) fun v=>A0 N 2 v 0 1048576 t u fun w x=>Ao .i64 (((a.drop ((b.toNat)*9)).take 9).drop 3) fun y=>Ao .i64 (((a.drop ((b.toNat)*9)).take 9).drop 2) fun z=>A0 N 3 y 0 z w x fun aa ab=>Ao .i64 (((a.drop ((b.toNat)*9)).take 9).drop 4) fun ac=>Ao .i64 (((a.drop ((b.toNat)*9)).take 9).drop 2) fun ad=>A0 N 4 ac 0 ad aa ab fun ae af=>Ao .i64 (((a.drop ((b.toNat)*9)).take 9).drop 5) fun ag=>A0 N 5 ag 0 1048576 ae af fun ah ai=>Ao .i64 (((a.drop ((b.toNat)*9)).take 9).drop 6) fun aj=>A0 N 6 aj 0 1048576 ah ai fun j l=>cond (ble 2 ((((a.drop ((b.toNat)*9)).take 9).drop 7).length)) (cond ((!c)||(Ax ((((a.drop ((b.toNat)*9)).take 9).drop 7).take 2))) (cond ((beq (((((a.drop ((b.toNat)*9)).take 9).drop 7).take 2).length) 2)&&((ble 2 2)&&(!false))) (cond (ble 2 ((setCells [(.int .i64 0),(.int .i64 0)] 0 ((((a.drop ((b.toNat)*9)).take 9).drop 7).take 2)).length)) (W2 N ((setCells [(.int .i64 0),(.int .i64 0)] 0 ((((a.drop ((b.toNat)*9)).take 9).drop 7).take 2)).take 2) false fun ak=>cond (ak==true) (Ao .i64 (setCells [(.int .i64 0),(.int .i64 0)] 0 ((((a.drop ((b.toNat)*9)).take 9).drop 7).take 2)) fun al=>cond ((cond true (decide (al>0)) false)==true) (Ao .i64 (setCells [(.int .i64 0),(.int .i64 0)] 0 ((((a.drop ((b.toNat)*9)).take 9).drop 7).take 2)) fun am=>Ao .i64 ((setCells [(.int .i64 0),(.int .i64 0)] 0 ((((a.drop ((b.toNat)*9)).take 9).drop 7).take 2)).drop 1) fun an=>As N (cond true (decide (am≤an)) false) 7 3 j l fun ao ap=>k0 g (wrap .i64 (b+1)) ao ap) (As N false 7 3 j l fun aq ar=>k0 g (wrap .i64 (b+1)) aq ar)) (As N false 7 3 j l fun au av=>k0 g (wrap .i64 (b+1)) au av)) none) none) none) none) none) none) none) (r0 h i))
def I5 (r0:Bool→LA→O R) (a:LA) (d:Nat) (c:Bool):Nat→Int→Int→Bool→LA→O R
 | 0,_,_,_,_=>none
 | n+1,g,b,h,i=>(Se N r0 a d c (I5 r0 a d c n) g b h i)
def EP (N:Nat) (r0:Bool→LA→O R) (q0:LA→Nat→Int→Int→Bool→LA→O R) (c:Bool) (f:LA):O R :=
 (Ba 9 (f.drop 5) fun a d=>q0 a d (d:Int) 0 c f)
def Wa:=(Ag fun N c f r0=>EP (R:=R) N r0 (fun a d=>I5 N r0 a d c N) c f).1
theorem PO (c f b):(@Wa R N c f b)=(EP N b (fun a d=>I5 N b a d c N) c f):=by rw[Wa,(Ag _).2]
def UY:Hints:={ H:=(hK 2 (hS (hP [1,9,10,11] hL) hL)) }
def dH:Oi:=[Yf N,mX N,UP N,He N,jJ N,C3 N]
def qh (F:KF R):=Ip Tryz.f94 UY (dH N) [100000] N F
def qi (a:LA) (d:Nat) (c:Bool) (K:St→O R):=fun g b h i=>K ⟨[(1,(op 0)),(9,(.imm a d 9 false c)),(10,(iv g)),(11,(iv b))],[(100000,(bP h 0 i)),(300000,(bN 0 [(.optr 100000 0)]))]⟩
theorem fI (F:KF R) (a d c):∀ n,qi a d c (Al (qh N F (pz 84) []) n)=(I5 N (Cl F) a d c n):=Eu fun n e=>(Bp (Se N (Cl F) a d c) e:_)
def tY:=Cw N 94 (dH N) UY (fun
 | [(.optr 100000 0)],[(100000,⟨false,false,true,c,0,f,false,none⟩)]=>some fun _ k=>(Wa N c f (Cl k))
 | _,_=>none) fun _ _=>by split;intro R F;exact(Bp (EP N (Cl F) · _ _) (ZD fun a d=>(lW ..).trans (fI ..)):_).trans (PO ..).symm;trivial
def EQ (N:Nat) (a:Int) (c:Bool) (b:LA) (r0:Lu→O R):O R :=
 (Ba 5 (b.drop 6) fun d e=>cond (Af a e) (O' (d.drop ((a.toNat)*5)) fun f=>r0 f) none)
def Yr:=(Ag (@EQ R)).1
theorem HA:@Yr R=@EQ R:=(Ag _).2
def mY:=Cw N 149 [] Fq (fun
 | [(.int .i64 a),(.optr 100000 0)],[(100000,⟨false,false,false,false,0,[(.optr 100001 0)],false,none⟩),(100001,⟨false,false,true,c,0,b,false,none⟩)]=>some fun _ k=>(Yr N a c b (yt c b k))
 | _,_=>none) fun _ _=>by split;intro R F;dsimp only;rw[HA];kernel_rfl;trivial
def J6 (r0:Bool→LA→O R) (a:Lu) (b:Int) (k0:Int→Bool→LA→O R) (h:Int) (d:Bool) (c:LA):O R :=
 (cond (decide (h<b)) (Ao .i64 (c.drop 11) fun j=>cond (j != 0) (r0 d c) (Yr N h d c fun l=>As N (!(l==a)) 0 10 d c fun m o=>k0 (wrap .i64 (h+1)) m o)) (r0 d c))
def E7 (r0:Bool→LA→O R) (a:Lu) (b:Int):Nat→Int→Bool→LA→O R
 | 0,_,_,_=>none
 | n+1,h,d,c=>(J6 N r0 a b (E7 r0 a b n) h d c)
def Ve (r0:Bool→LA→O R) (q0:Int→Int→Bool→LA→O R) (a:Lu) (f:Bool) (g:LA):O R :=
 (Sb N a fun p=>As N p 0 9 f g fun q i=>Ao .i64 (i.drop 9) fun b=>q0 b 0 q i)
def Tf:=(Ag fun N a f g r0=>Ve (R:=R) N r0 (fun b=>E7 N r0 a b N) a f g).1
theorem HB (a f g e):(@Tf R N a f g e)=(Ve N e (fun b=>E7 N e a b N) a f g):=by rw[Tf,(Ag _).2]
def PP:Oi:=[V9 N,C3 N,mY N]
def j4 (F:KF R):=Ip Tryz.f140 GV (PP N) [100000,100001] N F
def j5 (a:Lu) (b:Int) (K:St→O R):=fun h d c=>K ⟨[(0,(.optr 100000 0)),(1,(.str a)),(2,(.fn 149 [(.optr 100001 0)])),(15,(iv b)),(16,(iv h))],[(100000,(bP d 0 c)),(100001,(bN 0 [(.optr 100000 0)]))]⟩
theorem UZ (F:KF R) (a b):∀ n,j5 a b (Al (j4 N F (pz 84) []) n)=(E7 N (Ux F) a b n):=Eu fun n e=>(Bp (J6 N (Ux F) a b) e:_)
def mZ:=Cw N 140 (PP N) GV (fun
 | [(.optr 100000 0),(.str a),(.fn 149 [(.optr 100001 0)])],[(100000,⟨false,false,true,f,0,g,false,none⟩),(100001,⟨false,false,false,false,0,[(.optr 100000 0)],false,none⟩)]=>some fun _ k=>(Tf N a f g (Ux k))
 | _,_=>none) fun _ _=>by split;intro R F;exact(Bp (Ve N (Ux F) · _ _ _) (eo fun b=>(lW ..).trans (UZ ..)):_).trans (HB ..).symm;trivial
def Ys (r0:Bool→LA→O R) (a:LA) (c:Nat) (b:Bool) (k0:Int→Int→Bool→LA→O R) (g d:Int) (h:Bool) (i:LA):O R :=
 (cond (decide (d<g)) (cond (Af d c) (cond (ble 5 ((a.drop ((d.toNat)*5)).length)) (cond ((beq 0 0)&&((beq (((a.drop ((d.toNat)*5)).take 5).length) 5)&&(beq 5 5))) (JX N 5 d h i fun j l=>O' ((a.drop ((d.toNat)*5)).take 5) fun m=>Tf N m j l fun o p=>Ao .i64 (((a.drop ((d.toNat)*5)).take 5).drop 1) fun q=>KB N 1 q o p fun r s=>Ba 1 (((a.drop ((d.toNat)*5)).take 5).drop 2) fun t u=>Mi N 2 t u false b 0 1048576 r s fun v w=>Ba 1 (((a.drop ((d.toNat)*5)).take 5).drop 3) fun x y=>Mi N 3 x y false b 0 1048576 v w fun z aa=>Ba 1 (((a.drop ((d.toNat)*5)).take 5).drop 4) fun ab ac=>Mi N 4 ab ac false b (-1048576) 1048576 z aa fun ad ae=>k0 g (wrap .i64 (d+1)) ad ae) none) none) none) (r0 h i))
def Oa (r0:Bool→LA→O R) (a:LA) (c:Nat) (b:Bool):Nat→Int→Int→Bool→LA→O R
 | 0,_,_,_,_=>none
 | n+1,g,d,h,i=>(Ys N r0 a c b (Oa r0 a c b n) g d h i)
def U_ (N:Nat) (r0:Bool→LA→O R) (q0:LA→Nat→Int→Int→Bool→LA→O R) (b:Bool) (f:LA):O R :=
 (Ba 5 (f.drop 6) fun a c=>q0 a c (c:Int) 0 b f)
def NB:=(Ag fun N b f r0=>U_ (R:=R) N r0 (fun a c=>Oa N r0 a c b N) b f).1
theorem dI (b f e):(@NB R N b f e)=(U_ N e (fun a c=>Oa N e a c b N) b f):=by rw[NB,(Ag _).2]
def j6:Hints:={ H:=(hK 2 (hS (hP [1,8,9,10] hL) hL)) }
def oX:Oi:=[Yf N,mZ N,UP N,JY N]
def wN (F:KF R):=Ip Tryz.f95 j6 (oX N) [100000] N F
def wO (a:LA) (c:Nat) (b:Bool) (K:St→O R):=fun g d h i=>K ⟨[(1,(op 0)),(8,(.imm a c 5 false b)),(9,(iv g)),(10,(iv d))],[(100000,(bP h 0 i)),(300000,(bN 0 [(.optr 100000 0)]))]⟩
theorem m0 (F:KF R) (a c b):∀ n,wO a c b (Al (wN N F (pz 84) []) n)=(Oa N (Cl F) a c b n):=Eu fun n e=>(Bp (Ys N (Cl F) a c b) e:_)
def zJ:=Cw N 95 (oX N) j6 (fun
 | [(.optr 100000 0)],[(100000,⟨false,false,true,b,0,f,false,none⟩)]=>some fun _ k=>(NB N b f (Cl k))
 | _,_=>none) fun _ _=>by split;intro R F;exact(Bp (U_ N (Cl F) · _ _) (ZD fun a c=>(lW ..).trans (m0 ..)):_).trans (dI ..).symm;trivial
def T9 (N:Nat) (a:Int) (c:Bool) (b:LA) (r0:Lu→O R):O R :=
 (Ba 4 (b.drop 7) fun d e=>cond (Af a e) (O' (d.drop ((a.toNat)*4)) fun f=>r0 f) none)
def Pi:=(Ag (@T9 R)).1
theorem W6:@Pi R=@T9 R:=(Ag _).2
def ZY:=Cw N 150 [] Fq (fun
 | [(.int .i64 a),(.optr 100000 0)],[(100000,⟨false,false,false,false,0,[(.optr 100001 0)],false,none⟩),(100001,⟨false,false,true,c,0,b,false,none⟩)]=>some fun _ k=>(Pi N a c b (yt c b k))
 | _,_=>none) fun _ _=>by split;intro R F;dsimp only;rw[W6];kernel_rfl;trivial
def J7 (r0:Bool→LA→O R) (a:Lu) (b:Int) (k0:Int→Bool→LA→O R) (h:Int) (d:Bool) (c:LA):O R :=
 (cond (decide (h<b)) (Ao .i64 (c.drop 11) fun j=>cond (j != 0) (r0 d c) (Pi N h d c fun l=>As N (!(l==a)) 0 10 d c fun m o=>k0 (wrap .i64 (h+1)) m o)) (r0 d c))
def E8 (r0:Bool→LA→O R) (a:Lu) (b:Int):Nat→Int→Bool→LA→O R
 | 0,_,_,_=>none
 | n+1,h,d,c=>(J7 N r0 a b (E8 r0 a b n) h d c)
def Vf (r0:Bool→LA→O R) (q0:Int→Int→Bool→LA→O R) (a:Lu) (f:Bool) (g:LA):O R :=
 (Sb N a fun p=>As N p 0 9 f g fun q i=>Ao .i64 (i.drop 9) fun b=>q0 b 0 q i)
def Tg:=(Ag fun N a f g r0=>Vf (R:=R) N r0 (fun b=>E8 N r0 a b N) a f g).1
theorem HC (a f g e):(@Tg R N a f g e)=(Vf N e (fun b=>E8 N e a b N) a f g):=by rw[Tg,(Ag _).2]
def PQ:Oi:=[V9 N,C3 N,ZY N]
def j7 (F:KF R):=Ip Tryz.f140 GV (PQ N) [100000,100001] N F
def j8 (a:Lu) (b:Int) (K:St→O R):=fun h d c=>K ⟨[(0,(.optr 100000 0)),(1,(.str a)),(2,(.fn 150 [(.optr 100001 0)])),(15,(iv b)),(16,(iv h))],[(100000,(bP d 0 c)),(100001,(bN 0 [(.optr 100000 0)]))]⟩
theorem VA (F:KF R) (a b):∀ n,j8 a b (Al (j7 N F (pz 84) []) n)=(E8 N (Ux F) a b n):=Eu fun n e=>(Bp (J7 N (Ux F) a b) e:_)
def m7:=Cw N 140 (PQ N) GV (fun
 | [(.optr 100000 0),(.str a),(.fn 150 [(.optr 100001 0)])],[(100000,⟨false,false,true,f,0,g,false,none⟩),(100001,⟨false,false,false,false,0,[(.optr 100000 0)],false,none⟩)]=>some fun _ k=>(Tg N a f g (Ux k))
 | _,_=>none) fun _ _=>by split;intro R F;exact(Bp (Vf N (Ux F) · _ _ _) (eo fun b=>(lW ..).trans (VA ..)):_).trans (HC ..).symm;trivial
def Vg (r0:Bool→LA→O R) (d:LA) (f:Nat) (a:Bool) (k2:Int→Int→Bool→LA→O R) (s j:Int) (t:Bool) (u:LA):O R :=
 (cond (decide (j<s)) (cond (Af j f) (cond (ble 3 ((d.drop ((j.toNat)*3)).length)) (cond ((!a)||(Ax ((d.drop ((j.toNat)*3)).take 3))) (cond ((beq (((d.drop ((j.toNat)*3)).take 3).length) 3)&&((ble 3 3)&&(!false))) (Ao .i64 ((setCells [(.int .i64 0),(.int .i64 0),(.int .i64 0)] 0 ((d.drop ((j.toNat)*3)).take 3)).drop 1) fun z=>A0 N 3 z 0 1048576 t u fun aa ab=>Ao .i64 ((setCells [(.int .i64 0),(.int .i64 0),(.int .i64 0)] 0 ((d.drop ((j.toNat)*3)).take 3)).drop 2) fun ac=>A0 N 3 ac 0 1048576 aa ab fun ad ae=>k2 s (wrap .i64 (j+1)) ad ae) none) none) none) none) (r0 t u))
def Oo (r0:Bool→LA→O R) (d:LA) (f:Nat) (a:Bool):Nat→Int→Int→Bool→LA→O R
 | 0,_,_,_,_=>none
 | n+1,s,j,t,u=>(Vg N r0 d f a (Oo r0 d f a n) s j t u)
def Vh (r0:Bool→LA→O R) (c:LA) (g:Nat) (a:Bool) (b:LA) (k1:Nat→Int→Int→Bool→LA→LA→O R) (q2:LA→Nat→Int→Int→Bool→LA→O R) (i:Nat) (p h:Int) (q:Bool) (o r:LA):O R :=
 (cond (decide (h<p)) (cond (Af h g) (cond (ble 3 ((c.drop ((h.toNat)*3)).length)) (cond ((!a)||(Ax ((c.drop ((h.toNat)*3)).take 3))) (cond ((beq (((c.drop ((h.toNat)*3)).take 3).length) 3)&&((ble 3 3)&&(!false))) (Ao .i64 (setCells [(.int .i64 0),(.int .i64 0),(.int .i64 0)] 0 ((c.drop ((h.toNat)*3)).take 3)) fun af=>cond ((decide (af≥0))==true) (Ao .i64 (setCells [(.int .i64 0),(.int .i64 0),(.int .i64 0)] 0 ((c.drop ((h.toNat)*3)).take 3)) fun ag=>Ba 22 (o.drop 4) fun bb ah=>As N (cond true (decide (ag<(ah:Int))) false) 3 12 q o fun ai aj=>Ao .i64 (setCells [(.int .i64 0),(.int .i64 0),(.int .i64 0)] 0 ((c.drop ((h.toNat)*3)).take 3)) fun ak=>cond ((ble (i+1) 140737488355328)&&(ble ((i+1)*8) 140737488355328)) (k1 (i+1) p (wrap .i64 (h+1)) ai aj ((r.take (i*1))++[(.int .i64 ak)])) none) (As N false 3 12 q o fun al am=>Ao .i64 (setCells [(.int .i64 0),(.int .i64 0),(.int .i64 0)] 0 ((c.drop ((h.toNat)*3)).take 3)) fun an=>cond ((ble (i+1) 140737488355328)&&(ble ((i+1)*8) 140737488355328)) (k1 (i+1) p (wrap .i64 (h+1)) al am ((r.take (i*1))++[(.int .i64 an)])) none)) none) none) none) none) (I4 N (r.take (i*1)) i false true fun ao=>As N ao 3 11 q o fun ap aq=>Ba 3 (b.drop 3) fun d f=>q2 d f (f:Int) 0 ap aq))
def Le (r0:Bool→LA→O R) (c:LA) (g:Nat) (a:Bool) (b:LA):Nat→Nat→Int→Int→Bool→LA→LA→O R
 | 0,_,_,_,_,_,_=>none
 | n+1,i,p,h,q,o,r=>(Vh N r0 c g a b (Le r0 c g a b n) (fun d f=>Oo N r0 d f a N) i p h q o r)
def ER (r0:Bool→LA→O R) (a:Bool) (b:LA) (q1:LA→Nat→Nat→Int→Int→Bool→LA→LA→O R) (v:Bool) (w:LA):O R :=
 (Ba 3 (b.drop 3) fun bc ar=>As N (decide ((ar:Int)≤16)) 3 8 v w fun y x=>Ao .i64 (x.drop 11) fun au=>cond (au != 0) (r0 y x) (Ba 3 (b.drop 3) fun c g=>q1 c g 0 (g:Int) 0 y x []))
def Yt (r0:Bool→LA→O R) (a:Bool) (b:LA) (v:Bool) (w:LA):O R:=(ER N r0 a b (fun c g=>Le N r0 c g a b N) v w)
def NC (r0:Bool→LA→O R) (q0:Bool→LA→O R) (b:LA) (a l:Bool) (m:LA):O R :=
 (Ba 3 (b.drop 3) fun bd av=>cond (((av:Int)==0)==false) (SK (b.drop 2) fun aw=>As N (cond false true aw) 3 16 l m fun ax ay=>q0 ax ay) (As N true 3 16 l m fun az ba=>q0 az ba))
def KK:=(Ag fun N b a l m r0=>NC (R:=R) N r0 (Yt N r0 a b) b a l m).1
theorem VB (b a l m e):(@KK R N b a l m e)=(NC N e (Yt N e a b) b a l m):=by rw[KK,(Ag _).2]
def dJ:Hints:={ H:=(hK 1 (hJ [0,3] hL (hK 3 (hS (hK 1 (hS (hP [0,3,4,31,32,33] hL) hL)) (hK 2 (hS (hP [0,64,65,66] hL) hL)))))),nils:=[(4,1)] }
def j9:Oi:=[C3 N,W3 N,He N]
def KL (F:KF R):=Ip Tryz.f152 dJ (j9 N) [100000] N F
def tZ (d:LA) (f:Nat) (a:Bool) (K:St→O R):=fun s j t u=>K ⟨[(0,(.optr 100000 0)),(64,(.imm d f 3 false a)),(65,(iv s)),(66,(iv j))],[(100000,(bP t 0 u))]⟩
def t6 (c:LA) (g:Nat) (a:Bool) (b:LA) (K:St→O R):=fun i p h q o r=>K ⟨[(0,(.optr 100000 0)),(3,(op 0)),(4,(.own 300001 0 i)),(31,(.imm c g 3 false a)),(32,(iv p)),(33,(iv h))],[(100000,(bP q 0 o)),(300000,(bP a 0 b)),(300001,(bQ 1 r))]⟩
def t7 (a:Bool) (b:LA) (K:St→O R):=fun v w=>K ⟨[(0,(.optr 100000 0)),(3,(op 0))],[(100000,(bP v 0 w)),(300000,(bP a 0 b))]⟩
theorem j_ (F:KF R) (d f a):∀ n,tZ d f a (Al (KL N F (pz 349524) []) n)=(Oo N (Cl F) d f a n):=Eu fun n e=>(Bp (Vg N (Cl F) d f a) e:_)
theorem ja (F:KF R) (c g a b):∀ n,t6 c g a b (Al (KL N F (pz 87364) []) n)=(Le N (Cl F) c g a b n):=Eu fun n e=>(DZ (Vh N (Cl F) c g a b) e (ZD fun d f=>(lW ..).trans (j_ ..)):_)
theorem jb (F:KF R) (a b):t7 a b (Bh (KL N F (pz 21) []))=(Yt N (Cl F) a b):=(Bp (ER N (Cl F) a b) (ZD fun c g=>(lW ..).trans (ja ..)):_)
def wQ:=Cw N 152 (j9 N) dJ (fun
 | [(.optr 100000 0),(.pagg b a)],[(100000,⟨false,false,true,l,0,m,false,none⟩)]=>some fun _ k=>(KK N b a l m (Cl k))
 | _,_=>none) fun _ _=>by split;intro R F;exact(Bp (NC N (Cl F) · _ _ _ _) ((jW ..).trans (jb ..)):_).trans (VB ..).symm;trivial
def Pj (k0:Int→Int→Bool→LA→O R) (r0:Bool→LA→O R) (b:LA) (c:Nat) (a:Bool) (f:Int) (j:LA) (h:Nat) (g d:LA) (k2:Int→Int→Int→Bool→LA→O R) (o p l:Int) (q:Bool) (m:LA):O R :=
 (cond (decide (l<p)) (cond (Af l h) (Ao .i64 (j.drop ((l.toNat)*1)) fun w=>cond ((decide (w≥0))==true) (Ba 12 (m.drop 3) fun ax z=>As N (cond true (decide (w<(z:Int))) false) 1 12 q m fun aa ab=>k2 o p (wrap .i64 (l+1)) aa ab) (As N false 1 12 q m fun ac ad=>k2 o p (wrap .i64 (l+1)) ac ad)) none) (Ba 1 (g.drop 1) fun ae af=>I4 N ae af false a fun ag=>As N ag 1 11 q m fun ah ai=>cond (ble 4 (g.length)) (KK N (g.take 4) a ah ai fun aj ak=>k0 f (wrap .i64 (o+1)) aj ak) none))
def Kf (k0:Int→Int→Bool→LA→O R) (r0:Bool→LA→O R) (b:LA) (c:Nat) (a:Bool) (f:Int) (j:LA) (h:Nat) (g d:LA):Nat→Int→Int→Int→Bool→LA→O R
 | 0,_,_,_,_,_=>none
 | n+1,o,p,l,q,m=>(Pj N k0 r0 b c a f j h g d (Kf k0 r0 b c a f j h g d n) o p l q m)
def Pk (N:Nat) (k0:Int→Int→Bool→LA→O R) (r0:Bool→LA→O R) (b:LA) (c:Nat) (a:Bool) (f:Int) (d:LA) (q2:LA→Nat→LA→Int→Int→Int→Bool→LA→O R) (v:Int) (s:Bool) (r g:LA):O R :=
 (Ao .i64 (r.drop 11) fun al=>cond (al != 0) (r0 s r) (Ba 1 (g.drop 1) fun j h=>q2 j h g v (h:Int) 0 s r))
def Nf (k0:Int→Int→Bool→LA→O R) (r0:Bool→LA→O R) (b:LA) (c:Nat) (a:Bool) (f:Int) (d:LA) (v:Int) (s:Bool) (r g:LA):O R:=(Pk N k0 r0 b c a f d (fun j h g=>Kf N k0 r0 b c a f j h g d N) v s r g)
def Lf (r0:Bool→LA→O R) (b:LA) (c:Nat) (a:Bool) (d:LA) (k0:Int→Int→Bool→LA→O R) (q1:Int→Int→Bool→LA→LA→O R) (f i:Int) (t:Bool) (u:LA):O R :=
 (cond (decide (i<f)) (cond (Af i c) (cond (ble 4 ((b.drop ((i.toNat)*4)).length)) (cond ((beq 0 0)&&((beq (((b.drop ((i.toNat)*4)).take 4).length) 4)&&(beq 4 4))) (JX N 6 i t u fun am an=>O' ((b.drop ((i.toNat)*4)).take 4) fun ao=>Tg N ao am an fun x y=>Ba 1 (((b.drop ((i.toNat)*4)).take 4).drop 1) fun ay ap=>cond (((ap:Int)==1)==false) (Ba 1 (((b.drop ((i.toNat)*4)).take 4).drop 1) fun az aq=>As N (cond false true ((aq:Int)==2)) 1 4 x y fun ar au=>q1 f i ar au ((b.drop ((i.toNat)*4)).take 4)) (As N true 1 4 x y fun av aw=>q1 f i av aw ((b.drop ((i.toNat)*4)).take 4))) none) none) none) (r0 t u))
def Dn (r0:Bool→LA→O R) (b:LA) (c:Nat) (a:Bool) (d:LA):Nat→Int→Int→Bool→LA→O R
 | 0,_,_,_,_=>none
 | n+1,f,i,t,u=>(Lf N r0 b c a d (Dn r0 b c a d n) (fun f=>Nf N (Dn r0 b c a d n) r0 b c a f d) f i t u)
def Yu (N:Nat) (r0:Bool→LA→O R) (q0:LA→Nat→Int→Int→Bool→LA→O R) (a:Bool) (d:LA):O R :=
 (Ba 4 (d.drop 7) fun b c=>q0 b c (c:Int) 0 a d)
def Ra:=(Ag fun N a d r0=>Yu (R:=R) N r0 (fun b c=>Dn N r0 b c a d N) a d).1
theorem KM (a d e):(@Ra R N a d e)=(Yu N e (fun b c=>Dn N e b c a d N) a d):=by rw[Ra,(Ag _).2]
def PR:Hints:={ H:=(hK 2 (hS (hP [1,10,11,12] (hK 2 (hS (hS (hK 3 (hJ [1,3,10,11,12] hL (hK 1 (hS (hK 1 (hS (hP [1,3,10,11,12,43,44,45] hL) hL)) hL)))) hL) hL))) hL)) }
def VC:Oi:=[Yf N,m7 N,C3 N,W3 N,wQ N]
def Z3 (F:KF R):=Ip Tryz.f96 PR (VC N) [100000] N F
def m8 (b:LA) (c:Nat) (a:Bool) (f:Int) (j:LA) (h:Nat) (g d:LA) (K:St→O R):=fun o p l q m=>K ⟨[(1,(op 0)),(3,(op 1)),(10,(.imm b c 4 false a)),(11,(iv f)),(12,(iv o)),(43,(.imm j h 1 false a)),(44,(iv p)),(45,(iv l))],[(100000,(bP q 0 m)),(300000,(bN 0 [(.optr 100000 0)])),(300001,(bP a 0 g))]⟩
def m9 (b:LA) (c:Nat) (a:Bool) (f:Int) (d:LA) (K:St→O R):=fun v s r g=>K ⟨[(1,(op 0)),(3,(op 1)),(10,(.imm b c 4 false a)),(11,(iv f)),(12,(iv v))],[(100000,(bP s 0 r)),(300000,(bN 0 [(.optr 100000 0)])),(300001,(bP a 0 g))]⟩
def Ng (b:LA) (c:Nat) (a:Bool) (d:LA) (K:St→O R):=fun f i t u=>K ⟨[(1,(op 0)),(10,(.imm b c 4 false a)),(11,(iv f)),(12,(iv i))],[(100000,(bP t 0 u)),(300000,(bN 0 [(.optr 100000 0)]))]⟩
theorem ZZ (Q0) (F:KF R) (b c a f j h g d):∀ n,m8 b c a f j h g d (Al (Z3 N F (pz 5642409284) [Q0]) n)=(Kf N (Ng b c a d Q0) (Cl F) b c a f j h g d n):=Eu fun n e=>(Bp (Pj N (Ng b c a d Q0) (Cl F) b c a f j h g d) e:_)
theorem Z_ (Q0) (F:KF R) (b c a f d):m9 b c a f d (Bh (Z3 N F (pz 22040661) [Q0]))=(Nf N (Ng b c a d Q0) (Cl F) b c a f d):=(Bp (Pk N (Ng b c a d Q0) (Cl F) b c a f d) (Afz fun j h g=>(lW ..).trans (ZZ ..)):_)
theorem Z' (F:KF R) (b c a d):∀ n,Ng b c a d (Al (Z3 N F (pz 84) []) n)=(Dn N (Cl F) b c a d n):=Eu fun n e=>(DZ (Lf N (Cl F) b c a d) e (eo fun f=>(jW ..).trans ((Z_ ..).trans (ly (Nf _ · _ _ _ _ _ _) e))):_)
def qk:=Cw N 96 (VC N) PR (fun
 | [(.optr 100000 0)],[(100000,⟨false,false,true,a,0,d,false,none⟩)]=>some fun _ k=>(Ra N a d (Cl k))
 | _,_=>none) fun _ _=>by split;intro R F;exact(Bp (Yu N (Cl F) · _ _) (ZD fun b c=>(lW ..).trans (Z' ..)):_).trans (KM ..).symm;trivial
def Eb (N:Nat) (r0:Int→O R) (b:LA) (a:Nat) (d f:Bool) (c:Int) (k0:Int→Int→O R) (h g:Int):O R :=
 (cond (decide (g<h)) (cond (Af g a) (Ao .i64 (b.drop ((g.toNat)*1)) fun i=>cond (c==i) (r0 g) (k0 h (wrap .i64 (g+1)))) none) (r0 (-1)))
def Br (r0:Int→O R) (b:LA) (a:Nat) (d f:Bool) (c:Int):Nat→Int→Int→O R
 | 0,_,_=>none
 | n+1,h,g=>(Eb N r0 b a d f c (Br r0 b a d f c n) h g)
def Ft (N:Nat) (r0:Int→O R) (q0:Int→Int→O R) (b:LA) (a:Nat) (d f:Bool) (c:Int):O R :=
 (q0 (a:Int) 0)
def Gr:=(Ag fun N b a d f c r0=>Ft (R:=R) N r0 (Br N r0 b a d f c N) b a d f c).1
theorem Mv (b a d f c e):(@Gr R N b a d f c e)=(Ft N e (Br N e b a d f c N) b a d f c):=by rw[Gr,(Ag _).2]
def Nh:Hints:={ H:=(hK 1 (hS (hK 1 (hS (hP [0,1,7,8] hL) hL)) hL)) }
def Z4 (F:KF R):=Ip Tryz.f202 Nh [] [] N F
def Z5 (b:LA) (a:Nat) (d f:Bool) (c:Int) (K:St→O R):=fun h g=>K ⟨[(0,(.imm b a 1 d f)),(1,(iv c)),(7,(iv h)),(8,(iv g))],[]⟩
theorem Vi (F:KF R) (b a d f c):∀ n,Z5 b a d f c (Al (Z4 N F (pz 324) []) n)=(Br N (Dr F) b a d f c n):=Eu fun n e=>(Bp (Eb N (Dr F) b a d f c) e:_)
def BU:=Cw N 202 [] Nh (fun
 | [(.imm b a 1 d f),(.int .i64 c)],[]=>some fun _ k=>(Gr N b a d f c (Dr k))
 | _,_=>none) fun _ _=>by split;intro R F;exact(Bp (Ft N (Dr F) · _ _ _ _ _) ((lW ..).trans (Vi ..)):_).trans (Mv ..).symm;trivial
def Gz (a:LA) (b:Nat) (e c:Bool) (d:Int) (r0:Bool→O R):O R :=
 (Gr N a b false c d fun f=>r0 (decide (f≥0)))
def C8:=(Ag (@Gz R)).1
theorem J8:@C8 R=@Gz R:=(Ag _).2
def Lg:=Cw N 181 [BU N] Fq (fun
 | [(.imm a b 1 e c),(.int .i64 d)],[]=>some fun _ k=>(C8 N a b e c d (Bq k))
 | _,_=>none) fun _ _=>by split;intro R F;dsimp only;rw[J8];kernel_rfl;trivial
def Sf (r0:Nat→LA→O R) (a:Int) (c:LA) (d:Nat) (b:Bool) (k0:Nat→Int→Int→LA→O R) (g:Nat) (i f:Int) (j:LA):O R :=
 (cond (decide (f<i)) (cond (Af f d) (cond (ble 12 ((c.drop ((f.toNat)*12)).length)) (cond ((beq 0 0)&&((beq (((c.drop ((f.toNat)*12)).take 12).length) 12)&&(beq 12 12))) (Ba 1 (((c.drop ((f.toNat)*12)).take 12).drop 11) fun l m=>C8 N l m false b a fun o=>cond (!o) (cond ((ble (g+1) 140737488355328)&&(ble ((g+1)*8) 140737488355328)) (k0 (g+1) i (wrap .i64 (f+1)) ((j.take (g*1))++[(.int .i64 f)])) none) (k0 g i (wrap .i64 (f+1)) j)) none) none) none) (r0 g j))
def I6 (r0:Nat→LA→O R) (a:Int) (c:LA) (d:Nat) (b:Bool):Nat→Nat→Int→Int→LA→O R
 | 0,_,_,_,_=>none
 | n+1,g,i,f,j=>(Sf N r0 a c d b (I6 r0 a c d b n) g i f j)
def ES (N:Nat) (r0:Nat→LA→O R) (q0:LA→Nat→Nat→Int→Int→LA→O R) (h:LA) (b:Bool) (a:Int):O R :=
 (Ba 12 (h.drop 3) fun c d=>q0 c d 0 (d:Int) 0 [])
def BV:=(Ag fun N h b a r0=>ES (R:=R) N r0 (fun c d=>I6 N r0 a c d b N) h b a).1
theorem PS (h b a e):(@BV R N h b a e)=(ES N e (fun c d=>I6 N e a c d b N) h b a):=by rw[BV,(Ag _).2]
def VD:Hints:={ H:=(hK 2 (hS (hK 1 (hS (hP [1,5,9,10,11] hL) hL)) hL)),nils:=[(4,1),(5,1)],modes:=[(2,1)] }
def dK:Oi:=[Lg N]
def ql (F:KF R):=Ip Tryz.f153 VD (dK N) [] N F
def qn (a:Int) (c:LA) (d:Nat) (b:Bool) (K:St→O R):=fun g i f j=>K ⟨[(1,(iv a)),(5,(.own 300000 0 g)),(9,(.imm c d 12 false b)),(10,(iv i)),(11,(iv f))],(hq [(bQ 1 j)])⟩
theorem fJ (F:KF R) (a c d b):∀ n,qn a c d b (Al (ql N F (pz 1348) []) n)=(I6 N (Fi F) a c d b n):=Eu fun n e=>(Bp (Sf N (Fi F) a c d b) e:_)
def t8:=Cw N 153 (dK N) VD (fun
 | [(.pagg h b),(.int .i64 a)],[]=>some fun _ k=>(BV N h b a (Fi k))
 | _,_=>none) fun _ _=>by split;intro R F;exact(Bp (ES N (Fi F) · _ _ _) (ZD fun c d=>(lW ..).trans (fJ ..)):_).trans (PS ..).symm;trivial
def Fj (N:Nat) (r0:O R) (a:Int) (k0:O R):O R :=
 r0
def Ck (r0:O R) (a:Int):Nat→O R
 | 0=>none
 | n+1=>(Fj N r0 a (Ck r0 a n))
def Ec (N:Nat) (r0:O R) (q0:O R) (a:Int):O R :=
 q0
def Ew:=(Ag fun N a r0=>Ec (R:=R) N r0 (Ck N r0 a N) a).1
theorem J9 (a b):(@Ew R N a b)=(Ec N b (Ck N b a N) a):=by rw[Ew,(Ag _).2]
def Kn:Hints:={ H:=(hK 1 (hS (hK 1 (hS (hP [0,1,7,8] hL) hL)) hL)) }
def Vj (F:KF R):=Ip Tryz.f202 Kn [] [] N F
def Dk (F:KF R):O R:=F (iv (-1)) []
def Vk (a:Int) (K:St→O R):=K ⟨[(0,.nsl),(1,(iv a)),(7,(iv 0)),(8,(iv 0))],[]⟩
theorem Rb (F:KF R) (a):∀ n,Vk a (Al (Vj N F (pz 324) []) n)=(Ck N (Dk F) a n):=Eu fun n e=>(Bp (Fj N (Dk F) a) e:_)
def W7:=Cw N 202 [] Kn (fun
 | [.nsl,(.int .i64 a)],[]=>some fun _ k=>(Ew N a (Dk k))
 | _,_=>none) fun _ _=>by split;intro R F;exact(Bp (Ec N (Dk F) · _) ((lW ..).trans (Rb ..)):_).trans (J9 ..).symm;trivial
def Fk (a:Int) (r0:O R):O R :=
 (Ew N a r0)
def Dl:=(Ag (@Fk R)).1
theorem H5:@Dl R=@Fk R:=(Ag _).2
def Rc (F:KF R):O R:=F (.bool false) []
def Th:=Cw N 181 [W7 N] Fq (fun
 | [.nsl,(.int .i64 a)],[]=>some fun _ k=>(Dl N a (Rc k))
 | _,_=>none) fun _ _=>by split;intro R F;dsimp only;rw[H5];kernel_rfl;trivial
def Vl (N:Nat) (k1:Int→Int→Int→LA→O R) (r0:Int→O R) (a:Nat) (j l:Int) (d:LA) (c:Nat) (f g:Bool) (i o:Int) (h:Bool) (b:LA) (k3:Int→Int→Int→LA→O R) (u v p:Int) (r:LA):O R :=
 (cond (decide (p<v)) (cond (Af p a) (Ao .i64 (r.drop (0+((p.toNat)*1))) fun ac=>cond (ac==l) (cond (Af p a) (cond ((beq 1 1)&&((ble ((0+((p.toNat)*1))+1) (r.length))&&(!false))) (k3 u v (wrap .i64 (p+1)) (r.set (0+((p.toNat)*1)) (.int .i64 j))) none) none) (k3 u v (wrap .i64 (p+1)) r)) none) (k1 u i (wrap .i64 (o+1)) r))
def Oq (k1:Int→Int→Int→LA→O R) (r0:Int→O R) (a:Nat) (j l:Int) (d:LA) (c:Nat) (f g:Bool) (i o:Int) (h:Bool) (b:LA):Nat→Int→Int→Int→LA→O R
 | 0,_,_,_,_=>none
 | n+1,u,v,p,r=>(Vl N k1 r0 a j l d c f g i o h b (Oq k1 r0 a j l d c f g i o h b n) u v p r)
def ET (N:Nat) (k1:Int→Int→Int→LA→O R) (r0:Int→O R) (a:Nat) (m j l:Int) (d:LA) (c:Nat) (f g:Bool) (i:Int) (h:Bool) (b:LA) (q3:Int→Int→Int→Int→LA→O R) (o:Int) (y:LA):O R :=
 (q3 o (wrap .i64 (m - 1)) (a:Int) 0 y)
def Yv (k1:Int→Int→Int→LA→O R) (r0:Int→O R) (a:Nat) (m j l:Int) (d:LA) (c:Nat) (f g:Bool) (i:Int) (h:Bool) (b:LA) (o:Int) (y:LA):O R:=(ET N k1 r0 a m j l d c f g i h b (fun o=>Oq N k1 r0 a j l d c f g i o h b N) o y)
def Vm (r0:Int→O R) (a:Nat) (d:LA) (c:Nat) (f g h:Bool) (b:LA) (k1:Int→Int→Int→LA→O R) (q2:Int→Int→Int→Int→Int→LA→O R) (m i s:Int) (t:LA):O R :=
 (cond (decide (s<i)) (cond (Af s c) (Ao .i64 (d.drop ((s.toNat)*1)) fun z=>Ba 12 (b.drop 3) fun ad ae=>cond (Af z ae) (Ao .i64 ((ad.drop ((z.toNat)*12)).drop 1) fun aa=>cond (Af aa a) (Ao .i64 (t.drop (0+((aa.toNat)*1))) fun j=>Ba 12 (b.drop 3) fun af ag=>cond (Af z ag) (Ao .i64 ((af.drop ((z.toNat)*12)).drop 2) fun ab=>cond (Af ab a) (Ao .i64 (t.drop (0+((ab.toNat)*1))) fun l=>cond ((j==l)==false) (Dl N z (q2 m j l i s t)) (k1 m i (wrap .i64 (s+1)) t)) none) none) none) none) none) (r0 m))
def It (r0:Int→O R) (a:Nat) (d:LA) (c:Nat) (f g h:Bool) (b:LA):Nat→Int→Int→Int→LA→O R
 | 0,_,_,_,_=>none
 | n+1,m,i,s,t=>(Vm N r0 a d c f g h b (It r0 a d c f g h b n) (fun m j l i=>Yv N (It r0 a d c f g h b n) r0 a m j l d c f g i h b) m i s t)
def Vn (N:Nat) (r0:Int→O R) (d:LA) (c:Nat) (f g:Bool) (a:Nat) (h:Bool) (b:LA) (k0:Int→Int→LA→O R) (q1:Int→Int→Int→LA→O R) (x q:Int) (w:LA):O R :=
 (cond (decide (q<x)) (cond (Af q a) (cond ((beq 1 1)&&((ble ((0+((q.toNat)*1))+1) (w.length))&&(!false))) (k0 x (wrap .i64 (q+1)) (w.set (0+((q.toNat)*1)) (.int .i64 q))) none) none) (q1 (a:Int) (c:Int) 0 w))
def Lh (r0:Int→O R) (d:LA) (c:Nat) (f g:Bool) (a:Nat) (h:Bool) (b:LA):Nat→Int→Int→LA→O R
 | 0,_,_,_=>none
 | n+1,x,q,w=>(Vn N r0 d c f g a h b (Lh r0 d c f g a h b n) (It N r0 a d c f g h b N) x q w)
def ND (N:Nat) (r0:Int→O R) (q0:Nat→Int→Int→LA→O R) (b:LA) (h:Bool) (d:LA) (c:Nat) (f g:Bool):O R :=
 (Ba 3 (b.drop 2) fun ah a=>cond ((decide (0≤(a:Int)))&&((decide ((a:Int)≤(a:Int)))&&((decide ((a:Int)≤140737488355328))&&(decide (((a:Int)*((8:Nat):Int))≤140737488355328))))) (q0 a (a:Int) 0 (replicate a (.int .i64 0))) none)
def KN:=(Ag fun N b h d c f g r0=>ND (R:=R) N r0 (fun a=>Lh N r0 d c f g a h b N) b h d c f g).1
theorem VE (b h d c f g e):(@KN R N b h d c f g e)=(ND N e (fun a=>Lh N e d c f g a h b N) b h d c f g):=by rw[KN,(Ag _).2]
def dL:Hints:={ H:=(hK 2 (hS (hK 1 (hS (hP [1,2,3,7,20,21] hL) hL)) (hK 1 (hS (hK 1 (hS (hP [2,3,7,9,31,32,33] (hK 2 (hS (hS (hK 2 (hJ [2,3,7,9,12,13,31,32,33] hL (hK 2 (hS (hP [2,3,7,9,12,13,31,32,33,66,67] hL) hL)))) hL) hL))) hL)) hL)))) }
def jd:Oi:=[Th N]
def Yw (F:KF R):=Ip Tryz.f154 dL (jd N) [] N F
def t_ (a:Nat) (j l:Int) (d:LA) (c:Nat) (f g:Bool) (i o:Int) (h:Bool) (b:LA) (K:St→O R):=fun u v p r=>K ⟨[(2,.nsl),(3,(op 0)),(7,(.own 300001 0 a)),(9,(iv u)),(12,(iv j)),(13,(iv l)),(31,(.imm d c 1 f g)),(32,(iv i)),(33,(iv o)),(66,(iv v)),(67,(iv p))],(hq [(bP h 0 b),(bQ 1 r)])⟩
def ta (a:Nat) (m j l:Int) (d:LA) (c:Nat) (f g:Bool) (i:Int) (h:Bool) (b:LA) (K:St→O R):=fun o y=>K ⟨[(2,.nsl),(3,(op 0)),(7,(.own 300001 0 a)),(9,(iv m)),(12,(iv j)),(13,(iv l)),(31,(.imm d c 1 f g)),(32,(iv i)),(33,(iv o))],(hq [(bP h 0 b),(bQ 1 y)])⟩
def Ti (a:Nat) (d:LA) (c:Nat) (f g h:Bool) (b:LA) (K:St→O R):=fun m i s t=>K ⟨[(2,.nsl),(3,(op 0)),(7,(.own 300001 0 a)),(9,(iv m)),(31,(.imm d c 1 f g)),(32,(iv i)),(33,(iv s))],(hq [(bP h 0 b),(bQ 1 t)])⟩
def tb (d:LA) (c:Nat) (f g:Bool) (a:Nat) (h:Bool) (b:LA) (K:St→O R):=fun x q w=>K ⟨[(1,(.imm d c 1 f g)),(2,.nsl),(3,(op 0)),(7,(.own 300001 0 a)),(20,(iv x)),(21,(iv q))],(hq [(bP h 0 b),(bQ 1 w)])⟩
theorem je (Q1) (F:KF R) (a j l d c f g i o h b):∀ n,t_ a j l d c f g i o h b (Al (Yw N F (pz 91553596756) [Q1]) n)=(Oq N (Ti a d c f g h b Q1) (Dr F) a j l d c f g i o h b n):=Eu fun n e=>(Bp (Vl N (Ti a d c f g h b Q1) (Dr F) a j l d c f g i o h b) e:_)
theorem jf (Q1) (F:KF R) (a m j l d c f g i h b):ta a m j l d c f g i h b (Bh (Yw N F (pz 1430524949) [Q1]))=(Yv N (Ti a d c f g h b Q1) (Dr F) a m j l d c f g i h b):=(Bp (ET N (Ti a d c f g h b Q1) (Dr F) a m j l d c f g i h b) (eo fun o=>(lW ..).trans (je ..)):_)
theorem jg (F:KF R) (a d c f g h b):∀ n,Ti a d c f g h b (Al (Yw N F (pz 21828) []) n)=(It N (Dr F) a d c f g h b n):=Eu fun n e=>(DZ (Vm N (Dr F) a d c f g h b) e (zp fun m j l i=>(jW ..).trans ((jf ..).trans (ly (Yv _ · _ _ _ _ _ _ _ _ _ _ _ _) e))):_)
theorem jh (F:KF R) (d c f g a h b):∀ n,tb d c f g a h b (Al (Yw N F (pz 1348) []) n)=(Lh N (Dr F) d c f g a h b n):=Eu fun n e=>(DZ (Vn N (Dr F) d c f g a h b) e ((lW ..).trans (jg ..)):_)
def wR:=Cw N 154 (jd N) dL (fun
 | [(.pagg b h),(.imm d c 1 f g),.nsl],[]=>some fun _ k=>(KN N b h d c f g (Dr k))
 | _,_=>none) fun _ _=>by split;intro R F;exact(Bp (ND N (Dr F) · _ _ _ _ _ _) (eo fun a=>(lW ..).trans (jh ..)):_).trans (VE ..).symm;trivial
def Nw (N:Nat) (k1:Int→Int→Int→LA→O R) (r0:Int→O R) (d:LA) (f:Nat) (i g:Bool) (a:Nat) (q r:Int) (h:LA) (c:Nat) (j l:Bool) (p o:Int) (m:Bool) (b:LA) (k3:Int→Int→Int→LA→O R) (x y t:Int) (v:LA):O R :=
 (cond (decide (t<y)) (cond (Af t a) (Ao .i64 (v.drop (0+((t.toNat)*1))) fun af=>cond (af==r) (cond (Af t a) (cond ((beq 1 1)&&((ble ((0+((t.toNat)*1))+1) (v.length))&&(!false))) (k3 x y (wrap .i64 (t+1)) (v.set (0+((t.toNat)*1)) (.int .i64 q))) none) none) (k3 x y (wrap .i64 (t+1)) v)) none) (k1 x p (wrap .i64 (o+1)) v))
def If (k1:Int→Int→Int→LA→O R) (r0:Int→O R) (d:LA) (f:Nat) (i g:Bool) (a:Nat) (q r:Int) (h:LA) (c:Nat) (j l:Bool) (p o:Int) (m:Bool) (b:LA):Nat→Int→Int→Int→LA→O R
 | 0,_,_,_,_=>none
 | n+1,x,y,t,v=>(Nw N k1 r0 d f i g a q r h c j l p o m b (If k1 r0 d f i g a q r h c j l p o m b n) x y t v)
def Ua (N:Nat) (k1:Int→Int→Int→LA→O R) (r0:Int→O R) (d:LA) (f:Nat) (i g:Bool) (a:Nat) (s q r:Int) (h:LA) (c:Nat) (j l:Bool) (p o:Int) (m:Bool) (b:LA) (q3:Int→Int→Int→LA→O R) (ab:LA):O R :=
 (q3 (wrap .i64 (s - 1)) (a:Int) 0 ab)
def Pl (k1:Int→Int→Int→LA→O R) (r0:Int→O R) (d:LA) (f:Nat) (i g:Bool) (a:Nat) (s q r:Int) (h:LA) (c:Nat) (j l:Bool) (p o:Int) (m:Bool) (b:LA) (ab:LA):O R:=(Ua N k1 r0 d f i g a s q r h c j l p o m b (If N k1 r0 d f i g a q r h c j l p o m b N) ab)
def Nx (r0:Int→O R) (d:LA) (f:Nat) (i g:Bool) (a:Nat) (h:LA) (c:Nat) (j l m:Bool) (b:LA) (k1:Int→Int→Int→LA→O R) (q2:Int→Int→Int→Int→Int→LA→O R) (s p o:Int) (w:LA):O R :=
 (cond (decide (o<p)) (cond (Af o c) (Ao .i64 (h.drop ((o.toNat)*1)) fun ac=>Ba 12 (b.drop 3) fun ag ah=>cond (Af ac ah) (Ao .i64 ((ag.drop ((ac.toNat)*12)).drop 1) fun ad=>cond (Af ad a) (Ao .i64 (w.drop (0+((ad.toNat)*1))) fun q=>Ba 12 (b.drop 3) fun ai aj=>cond (Af ac aj) (Ao .i64 ((ai.drop ((ac.toNat)*12)).drop 2) fun ae=>cond (Af ae a) (Ao .i64 (w.drop (0+((ae.toNat)*1))) fun r=>cond ((q==r)==false) (C8 N d f false g ac fun ak=>cond (cond false true ak) (k1 s p (wrap .i64 (o+1)) w) (q2 s q r p o w)) (k1 s p (wrap .i64 (o+1)) w)) none) none) none) none) none) (r0 s))
def E9 (r0:Int→O R) (d:LA) (f:Nat) (i g:Bool) (a:Nat) (h:LA) (c:Nat) (j l m:Bool) (b:LA):Nat→Int→Int→Int→LA→O R
 | 0,_,_,_,_=>none
 | n+1,s,p,o,w=>(Nx N r0 d f i g a h c j l m b (E9 r0 d f i g a h c j l m b n) (fun s q r p o=>Pl N (E9 r0 d f i g a h c j l m b n) r0 d f i g a s q r h c j l p o m b) s p o w)
def Ny (N:Nat) (r0:Int→O R) (h:LA) (c:Nat) (j l:Bool) (d:LA) (f:Nat) (i g:Bool) (a:Nat) (m:Bool) (b:LA) (k0:Int→Int→LA→O R) (q1:Int→Int→Int→LA→O R) (aa u:Int) (z:LA):O R :=
 (cond (decide (u<aa)) (cond (Af u a) (cond ((beq 1 1)&&((ble ((0+((u.toNat)*1))+1) (z.length))&&(!false))) (k0 aa (wrap .i64 (u+1)) (z.set (0+((u.toNat)*1)) (.int .i64 u))) none) none) (q1 (a:Int) (c:Int) 0 z))
def Gg (r0:Int→O R) (h:LA) (c:Nat) (j l:Bool) (d:LA) (f:Nat) (i g:Bool) (a:Nat) (m:Bool) (b:LA):Nat→Int→Int→LA→O R
 | 0,_,_,_=>none
 | n+1,aa,u,z=>(Ny N r0 h c j l d f i g a m b (Gg r0 h c j l d f i g a m b n) (E9 N r0 d f i g a h c j l m b N) aa u z)
def Vo (N:Nat) (r0:Int→O R) (q0:Nat→Int→Int→LA→O R) (b:LA) (m:Bool) (h:LA) (c:Nat) (j l:Bool) (d:LA) (f:Nat) (i g:Bool):O R :=
 (Ba 3 (b.drop 2) fun al a=>cond ((decide (0≤(a:Int)))&&((decide ((a:Int)≤(a:Int)))&&((decide ((a:Int)≤140737488355328))&&(decide (((a:Int)*((8:Nat):Int))≤140737488355328))))) (q0 a (a:Int) 0 (replicate a (.int .i64 0))) none)
def Tj:=(Ag fun N b m h c j l d f i g r0=>Vo (R:=R) N r0 (fun a=>Gg N r0 h c j l d f i g a m b N) b m h c j l d f i g).1
theorem HD (b m h c j l d f i g e):(@Tj R N b m h c j l d f i g e)=(Vo N e (fun a=>Gg N e h c j l d f i g a m b N) b m h c j l d f i g):=by rw[Tj,(Ag _).2]
def KO:Hints:={ H:=(hK 2 (hS (hK 1 (hS (hP [1,2,3,7,20,21] hL) hL)) (hK 1 (hS (hK 1 (hS (hP [2,3,7,9,31,32,33] (hK 2 (hS (hS (hK 2 (hJ [2,3,7,9,12,13,31,32,33] hL (hK 2 (hS (hP [2,3,7,9,12,13,31,32,33,66,67] hL) hL)))) hL) hL))) hL)) hL)))) }
def PT:Oi:=[Lg N]
def Pm (F:KF R):=Ip Tryz.f154 KO (PT N) [] N F
def ji (d:LA) (f:Nat) (i g:Bool) (a:Nat) (q r:Int) (h:LA) (c:Nat) (j l:Bool) (p o:Int) (m:Bool) (b:LA) (K:St→O R):=fun x y t v=>K ⟨[(2,(.imm d f 1 i g)),(3,(op 0)),(7,(.own 300001 0 a)),(9,(iv x)),(12,(iv q)),(13,(iv r)),(31,(.imm h c 1 j l)),(32,(iv p)),(33,(iv o)),(66,(iv y)),(67,(iv t))],(hq [(bP m 0 b),(bQ 1 v)])⟩
def jj (d:LA) (f:Nat) (i g:Bool) (a:Nat) (s q r:Int) (h:LA) (c:Nat) (j l:Bool) (p o:Int) (m:Bool) (b:LA) (K:St→O R):=fun ab=>K ⟨[(2,(.imm d f 1 i g)),(3,(op 0)),(7,(.own 300001 0 a)),(9,(iv s)),(12,(iv q)),(13,(iv r)),(31,(.imm h c 1 j l)),(32,(iv p)),(33,(iv o))],(hq [(bP m 0 b),(bQ 1 ab)])⟩
def Li (d:LA) (f:Nat) (i g:Bool) (a:Nat) (h:LA) (c:Nat) (j l m:Bool) (b:LA) (K:St→O R):=fun s p o w=>K ⟨[(2,(.imm d f 1 i g)),(3,(op 0)),(7,(.own 300001 0 a)),(9,(iv s)),(31,(.imm h c 1 j l)),(32,(iv p)),(33,(iv o))],(hq [(bP m 0 b),(bQ 1 w)])⟩
def jk (h:LA) (c:Nat) (j l:Bool) (d:LA) (f:Nat) (i g:Bool) (a:Nat) (m:Bool) (b:LA) (K:St→O R):=fun aa u z=>K ⟨[(1,(.imm h c 1 j l)),(2,(.imm d f 1 i g)),(3,(op 0)),(7,(.own 300001 0 a)),(20,(iv aa)),(21,(iv u))],(hq [(bP m 0 b),(bQ 1 z)])⟩
theorem VF (Q1) (F:KF R) (d f i g a q r h c j l p o m b):∀ n,ji d f i g a q r h c j l p o m b (Al (Pm N F (pz 91553596756) [Q1]) n)=(If N (Li d f i g a h c j l m b Q1) (Dr F) d f i g a q r h c j l p o m b n):=Eu fun n e=>(Bp (Nw N (Li d f i g a h c j l m b Q1) (Dr F) d f i g a q r h c j l p o m b) e:_)
theorem VG (Q1) (F:KF R) (d f i g a s q r h c j l p o m b):jj d f i g a s q r h c j l p o m b (Bh (Pm N F (pz 1430524949) [Q1]))=(Pl N (Li d f i g a h c j l m b Q1) (Dr F) d f i g a s q r h c j l p o m b):=(Bp (Ua N (Li d f i g a h c j l m b Q1) (Dr F) d f i g a s q r h c j l p o m b) ((lW ..).trans (VF ..)):_)
theorem VH (F:KF R) (d f i g a h c j l m b):∀ n,Li d f i g a h c j l m b (Al (Pm N F (pz 21828) []) n)=(E9 N (Dr F) d f i g a h c j l m b n):=Eu fun n e=>(DZ (Nx N (Dr F) d f i g a h c j l m b) e (Aid fun s q r p o=>(jW ..).trans ((VG ..).trans (ly (Pl _ · _ _ _ _ _ _ _ _ _ _ _ _ _ _ _ _ _) e))):_)
theorem VI (F:KF R) (h c j l d f i g a m b):∀ n,jk h c j l d f i g a m b (Al (Pm N F (pz 1348) []) n)=(Gg N (Dr F) h c j l d f i g a m b n):=Eu fun n e=>(DZ (Ny N (Dr F) h c j l d f i g a m b) e ((lW ..).trans (VH ..)):_)
def m_:=Cw N 154 (PT N) KO (fun
 | [(.pagg b m),(.imm h c 1 j l),(.imm d f 1 i g)],[]=>some fun _ k=>(Tj N b m h c j l d f i g (Dr k))
 | _,_=>none) fun _ _=>by split;intro R F;exact(Bp (Vo N (Dr F) · _ _ _ _ _ _ _ _ _ _) (eo fun a=>(lW ..).trans (VI ..)):_).trans (HD ..).symm;trivial
def Pn (k0:Int→Bool→LA→O R) (r0:Bool→LA→O R) (d:Nat) (i c:Int) (f:LA) (g:Nat) (h:LA) (b:Bool) (a:LA) (k1:Int→Int→Bool→Int→Int→Bool→LA→O R) (p q:Int) (r:Bool) (s j:Int) (t:Bool) (u:LA):O R :=
 (cond (decide (j<s)) (cond (Af j g) (cond (ble 4 ((f.drop ((j.toNat)*4)).length)) (cond ((beq 0 0)&&((beq (((f.drop ((j.toNat)*4)).take 4).length) 4)&&(beq 4 4))) (JX N 6 j t u fun w v=>cond (ble 8 (v.length)) (Ba 1 (((f.drop ((j.toNat)*4)).take 4).drop 1) fun x y=>Tj N (v.take 8) w (h.take (d*1)) d false true x y false r fun z=>As N (z==i) p 13 w v fun aa ab=>k1 p q r s (wrap .i64 (j+1)) aa ab) none) none) none) none) (k0 (wrap .i64 (q+1)) t u))
def Hu (k0:Int→Bool→LA→O R) (r0:Bool→LA→O R) (d:Nat) (i c:Int) (f:LA) (g:Nat) (h:LA) (b:Bool) (a:LA):Nat→Int→Int→Bool→Int→Int→Bool→LA→O R
 | 0,_,_,_,_,_,_,_=>none
 | n+1,p,q,r,s,j,t,u=>(Pn N k0 r0 d i c f g h b a (Hu k0 r0 d i c f g h b a n) p q r s j t u)
def Po (r0:Bool→LA→O R) (c:Int) (b:Bool) (a:LA) (k0:Int→Bool→LA→O R) (q1:Nat→Int→LA→Nat→LA→Int→Int→Bool→Int→Int→Bool→LA→O R) (o:Int) (m:Bool) (l:LA):O R :=
 (cond (decide (o<c)) (cond (ble 8 (l.length)) (BV N (l.take 8) m o fun d h=>cond (ble 8 (l.length)) (KN N (l.take 8) m (h.take (d*1)) d false true fun i=>Ba 4 (l.drop 7) fun f g=>q1 d i f g h o o m (g:Int) 0 m l) none) none) (r0 m l))
def F0 (r0:Bool→LA→O R) (c:Int) (b:Bool) (a:LA):Nat→Int→Bool→LA→O R
 | 0,_,_,_=>none
 | n+1,o,m,l=>(Po N r0 c b a (F0 r0 c b a n) (fun d i f g h=>Hu N (F0 r0 c b a n) r0 d i c f g h b a N) o m l)
def Yx (N:Nat) (r0:Bool→LA→O R) (q0:Int→Int→Bool→LA→O R) (b:Bool) (a:LA):O R :=
 (Ao .i64 a fun c=>q0 c 0 b a)
def Rd:=(Ag fun N b a r0=>Yx (R:=R) N r0 (fun c=>F0 N r0 c b a N) b a).1
theorem KP (b a e):(@Rd R N b a e)=(Yx N e (fun c=>F0 N e c b a N) b a):=by rw[Rd,(Ag _).2]
def PU:Hints:={ H:=(hK 1 (hS (hP [0,11,12] (hK 2 (hS (hS (hK 4 (hS (hP [0,2,3,4,11,12,31,32,33] hL) hL)) hL) hL))) hL)) }
def W8:=Ajx (wR N) (m_ N) (Eq.refl 154)
def VJ:Oi:=[t8 N,W8 N,Yf N,C3 N]
def PV (F:KF R):=Ip Tryz.f97 PU (VJ N) [100000] N F
def mb (d:Nat) (i c:Int) (f:LA) (g:Nat) (h:LA) (b:Bool) (a:LA) (K:St→O R):=fun p q r s j t u=>K ⟨[(0,(.optr 100000 0)),(2,(iv p)),(3,(.own 300000 0 d)),(4,(iv i)),(11,(iv c)),(12,(iv q)),(31,(.imm f g 4 false r)),(32,(iv s)),(33,(iv j))],[(100000,(bP t 0 u)),(300000,(bQ 1 h))]⟩
def Z6 (c:Int) (b:Bool) (a:LA) (K:St→O R):=fun o m l=>K ⟨[(0,(.optr 100000 0)),(11,(iv c)),(12,(iv o))],[(100000,(bP m 0 l))]⟩
theorem aA (Q0) (F:KF R) (d i c f g h b a):∀ n,mb d i c f g h b a (Al (PV N F (pz 21053780) [Q0]) n)=(Hu N (Z6 c b a Q0) (Cl F) d i c f g h b a n):=Eu fun n e=>(Bp (Pn N (Z6 c b a Q0) (Cl F) d i c f g h b a) e:_)
theorem aB (F:KF R) (c b a):∀ n,Z6 c b a (Al (PV N F (pz 20) []) n)=(F0 N (Cl F) c b a n):=Eu fun n e=>(DZ (Po N (Cl F) c b a) e (Aid fun d i f g h=>(lW ..).trans ((aA ..).trans (ly (Hu _ · _ _ _ _ _ _ _ _ _ _) e))):_)
def qo:=Cw N 97 (VJ N) PU (fun
 | [(.optr 100000 0)],[(100000,⟨false,false,true,b,0,a,false,none⟩)]=>some fun _ k=>(Rd N b a (Cl k))
 | _,_=>none) fun _ _=>by split;intro R F;exact(Bp (Yx N (Cl F) · _ _) (eo fun c=>(lW ..).trans (aB ..)):_).trans (KP ..).symm;trivial
def Du (r0:LA→Int→O R) (k0:Int→Bool→LA→O R) (a:Int) (b:Bool) (c:LA):O R :=
 (cond (decide (a<8)) (cond (Af a 8) (cond (beq (0+((a.toNat)*1)) 0) (BM N b c fun q f=>Ao .i64 (f.drop 11) fun y=>cond (y != 0) (cond (ble 3 ((f.drop 8).length)) (cond ((!q)||(Ax ((f.drop 8).take 3))) (Ao .i64 (f.drop 11) fun z=>cond ((beq (((f.drop 8).take 3).length) 3)&&((ble 3 3)&&(!false))) (cond (ble 3 ((setCells [(.int .i64 0),(.int .i64 0),(.int .i64 0)] 0 ((f.drop 8).take 3)).length)) (r0 ((setCells [(.int .i64 0),(.int .i64 0),(.int .i64 0)] 0 ((f.drop 8).take 3)).take 3) z) none) none) none) none) (k0 (wrap .i64 (a+1)) q f)) (cond (beq (0+((a.toNat)*1)) 1) (BO N b c fun r g=>Ao .i64 (g.drop 11) fun aa=>cond (aa != 0) (cond (ble 3 ((g.drop 8).length)) (cond ((!r)||(Ax ((g.drop 8).take 3))) (Ao .i64 (g.drop 11) fun ab=>cond ((beq (((g.drop 8).take 3).length) 3)&&((ble 3 3)&&(!false))) (cond (ble 3 ((setCells [(.int .i64 0),(.int .i64 0),(.int .i64 0)] 0 ((g.drop 8).take 3)).length)) (r0 ((setCells [(.int .i64 0),(.int .i64 0),(.int .i64 0)] 0 ((g.drop 8).take 3)).take 3) ab) none) none) none) none) (k0 (wrap .i64 (a+1)) r g)) (cond (beq (0+((a.toNat)*1)) 2) (BR N b c fun s h=>Ao .i64 (h.drop 11) fun ac=>cond (ac != 0) (cond (ble 3 ((h.drop 8).length)) (cond ((!s)||(Ax ((h.drop 8).take 3))) (Ao .i64 (h.drop 11) fun ad=>cond ((beq (((h.drop 8).take 3).length) 3)&&((ble 3 3)&&(!false))) (cond (ble 3 ((setCells [(.int .i64 0),(.int .i64 0),(.int .i64 0)] 0 ((h.drop 8).take 3)).length)) (r0 ((setCells [(.int .i64 0),(.int .i64 0),(.int .i64 0)] 0 ((h.drop 8).take 3)).take 3) ad) none) none) none) none) (k0 (wrap .i64 (a+1)) s h)) (cond (beq (0+((a.toNat)*1)) 3) (BT N b c fun t i=>Ao .i64 (i.drop 11) fun ae=>cond (ae != 0) (cond (ble 3 ((i.drop 8).length)) (cond ((!t)||(Ax ((i.drop 8).take 3))) (Ao .i64 (i.drop 11) fun af=>cond ((beq (((i.drop 8).take 3).length) 3)&&((ble 3 3)&&(!false))) (cond (ble 3 ((setCells [(.int .i64 0),(.int .i64 0),(.int .i64 0)] 0 ((i.drop 8).take 3)).length)) (r0 ((setCells [(.int .i64 0),(.int .i64 0),(.int .i64 0)] 0 ((i.drop 8).take 3)).take 3) af) none) none) none) none) (k0 (wrap .i64 (a+1)) t i)) (cond (beq (0+((a.toNat)*1)) 4) (Wa N b c fun u j=>Ao .i64 (j.drop 11) fun ag=>cond (ag != 0) (cond (ble 3 ((j.drop 8).length)) (cond ((!u)||(Ax ((j.drop 8).take 3))) (Ao .i64 (j.drop 11) fun ah=>cond ((beq (((j.drop 8).take 3).length) 3)&&((ble 3 3)&&(!false))) (cond (ble 3 ((setCells [(.int .i64 0),(.int .i64 0),(.int .i64 0)] 0 ((j.drop 8).take 3)).length)) (r0 ((setCells [(.int .i64 0),(.int .i64 0),(.int .i64 0)] 0 ((j.drop 8).take 3)).take 3) ah) none) none) none) none) (k0 (wrap .i64 (a+1)) u j)) (cond (beq (0+((a.toNat)*1)) 5) (NB N b c fun v l=>Ao .i64 (l.drop 11) fun ai=>cond (ai != 0) (cond (ble 3 ((l.drop 8).length)) (cond ((!v)||(Ax ((l.drop 8).take 3))) (Ao .i64 (l.drop 11) fun aj=>cond ((beq (((l.drop 8).take 3).length) 3)&&((ble 3 3)&&(!false))) (cond (ble 3 ((setCells [(.int .i64 0),(.int .i64 0),(.int .i64 0)] 0 ((l.drop 8).take 3)).length)) (r0 ((setCells [(.int .i64 0),(.int .i64 0),(.int .i64 0)] 0 ((l.drop 8).take 3)).take 3) aj) none) none) none) none) (k0 (wrap .i64 (a+1)) v l)) (cond (beq (0+((a.toNat)*1)) 6) (Ra N b c fun w m=>Ao .i64 (m.drop 11) fun ak=>cond (ak != 0) (cond (ble 3 ((m.drop 8).length)) (cond ((!w)||(Ax ((m.drop 8).take 3))) (Ao .i64 (m.drop 11) fun al=>cond ((beq (((m.drop 8).take 3).length) 3)&&((ble 3 3)&&(!false))) (cond (ble 3 ((setCells [(.int .i64 0),(.int .i64 0),(.int .i64 0)] 0 ((m.drop 8).take 3)).length)) (r0 ((setCells [(.int .i64 0),(.int .i64 0),(.int .i64 0)] 0 ((m.drop 8).take 3)).take 3) al) none) none) none) none) (k0 (wrap .i64 (a+1)) w m)) (cond (beq (0+((a.toNat)*1)) 7) (Rd N b c fun x o=>Ao .i64 (o.drop 11) fun am=>cond (am != 0) (cond (ble 3 ((o.drop 8).length)) (cond ((!x)||(Ax ((o.drop 8).take 3))) (Ao .i64 (o.drop 11) fun an=>cond ((beq (((o.drop 8).take 3).length) 3)&&((ble 3 3)&&(!false))) (cond (ble 3 ((setCells [(.int .i64 0),(.int .i64 0),(.int .i64 0)] 0 ((o.drop 8).take 3)).length)) (r0 ((setCells [(.int .i64 0),(.int .i64 0),(.int .i64 0)] 0 ((o.drop 8).take 3)).take 3) an) none) none) none) none) (k0 (wrap .i64 (a+1)) x o)) none)))))))) none) (r0 [(.int .i64 0),(.int .i64 0),(.int .i64 0)] 0))
def Av (r0:LA→Int→O R):Nat→Int→Bool→LA→O R
 | 0,_,_,_=>none
 | n+1,a,b,c=>(Du N r0 (Av r0 n) a b c)
def NE (N:Nat) (r0:LA→Int→O R) (q0:Int→Bool→LA→O R) (d:LA) (p:Bool):O R :=
 (cond (ble 8 (d.length)) (cond ((beq ((d.take 8).length) 8)&&(ble 8 12)) (q0 0 (p||false) (setCells [(.int .i64 0),.nsl,.nsl,.nsl,.nsl,.nsl,.nsl,.nsl,(.int .i64 0),(.int .i64 0),(.int .i64 0),(.int .i64 0)] 0 (d.take 8))) none) none)
def KQ:=(Ag fun N d p r0=>NE (R:=R) N r0 (Av N r0 N) d p).1
theorem VK (d p b):(@KQ R N d p b)=(NE N b (Av N b N) d p):=by rw[KQ,(Ag _).2]
def dM:Hints:={ H:=(hK 2 (hS (hK 1 (hS (hP [2,4,26,27,28] hL) hL)) hL)),modes:=[(3,0),(0,0)] }
def jl:Oi:=[wE N,wH N,wK N,wL N,tY N,zJ N,qk N,qo N]
def tc (F:KF R):=Ip Tryz.f51 dM (jl N) [] N F
def td (K:St→O R):=fun a b c=>K ⟨[(2,(op 0)),(4,(op 1)),(26,(.own 300002 0 8)),(27,(iv 8)),(28,(iv a))],(hq [(bQ 0 [(iv 0),(iv 0),(iv 0)]),(bP b 0 c),(bN 1 [(.fn 1000090 [(op 1)]),(.fn 1000091 [(op 1)]),(.fn 1000092 [(op 1)]),(.fn 1000093 [(op 1)]),(.fn 1000094 [(op 1)]),(.fn 1000095 [(op 1)]),(.fn 1000096 [(op 1)]),(.fn 1000097 [(op 1)])])])⟩
theorem jm (F:KF R):∀ n,td (Al (tc N F (pz 1348) []) n)=(Av N (Q3 F) n):=Eu fun n e=>(Bp (Du N (Q3 F)) e:_)
def wT:=Cw N 51 (jl N) dM (fun
 | [(.pagg d p)],[]=>some fun _ k=>(KQ N d p (Q3 k))
 | _,_=>none) fun _ _=>by split;intro R F;exact(Bp (NE N (Q3 F) · _ _) ((lW ..).trans (jm ..)):_).trans (VK ..).symm;trivial
def Vp (N:Nat) (r0:LA→Bool→O R) (a:Int) (b:Bool):O R :=
 (cond b (r0 [(.bool false),(.bool false),(.bool false),(.bool true)] true) (cond (a==3) (r0 [(.bool true),(.bool false),(.bool false),(.bool false)] true) (cond (a==4) (r0 [(.bool true),(.bool true),(.bool true),(.bool false)] true) (r0 [(.bool false),(.bool false),(.bool false),(.bool false)] false))))
def EU (N:Nat) (r0:LA→Bool→O R) (q0:Bool→O R) (a:Int):O R :=
 (cond (a==0) (r0 [(.bool true),(.bool true),(.bool false),(.bool false)] true) (cond (a==1) (q0 (a==1)) (q0 (a==2))))
def Wb:=(Ag fun N a r0=>EU (R:=R) N r0 (Vp N r0 a) a).1
theorem PW (a b):(@Wb R N a b)=(EU N b (Vp N b a) a):=by rw[Wb,(Ag _).2]
def VL:Hints:={ H:=(hK 1 (hS (hK 1 (hS (hK 2 (hJ [2,4,8] hL hL)) hL)) hL)),modes:=[(3,0),(0,0)] }
def qp (F:KF R):=Ip Tryz.f98 VL [] [] N F
def EV (F:KF R):LA→Bool→O R:=(fun c d=>F (.tup [(.pagg c false),(.bool d)]) [])
def qq (a:Int) (K:St→O R):=fun b=>K ⟨[(2,(op 0)),(4,(iv a)),(8,(.bool b))],(hq [(bQ 0 [(.bool false),(.bool false),(.bool false),(.bool false)])])⟩
theorem fK (F:KF R) (a):qq a (Bh (qp N F (pz 20757) []))=(Vp N (EV F) a):=by kernel_rfl
def te:=Cw N 98 [] VL (fun
 | [(.int .i64 a)],[]=>some fun _ k=>(Wb N a (EV k))
 | _,_=>none) fun _ _=>by split;intro R F;exact(Bp (EU N (EV F) · _) ((jW ..).trans (fK ..)):_).trans (PW ..).symm;trivial
def aC (N:Nat) (b:Bool) (a c:Int) (r0:Bool→O R):O R :=
 (cond (!b) (r0 (a==0)) (cond ((decide (a≥0))==true) (r0 (cond true (decide (a<c)) false)) (r0 false)))
def Pp:=(Ag (@aC R)).1
theorem VM:@Pp R=@aC R:=(Ag _).2
def wU:=Cw N 99 [] Fq (fun
 | [(.bool b),(.int .i64 a),(.int .i64 c)],[]=>some fun _ k=>(Pp N b a c (Bq k))
 | _,_=>none) fun _ _=>by split;intro R F;dsimp only;rw[VM];kernel_rfl;trivial
def Fa (N:Nat) (r0:Bool→O R) (b:LA) (a:Nat) (c d:Bool) (k0:Int→O R) (f:Int):O R :=
 (cond (decide (f<(a:Int))) (cond (Af (wrap .i64 (f - 1)) a) (Ao .i64 (b.drop (((wrap .i64 (f - 1)).toNat)*4)) fun g=>cond (Af f a) (Ao .i64 (b.drop ((f.toNat)*4)) fun h=>cond (decide (g≥h)) (r0 false) (k0 (wrap .i64 (f+1)))) none) none) (r0 true))
def Cj (r0:Bool→O R) (b:LA) (a:Nat) (c d:Bool):Nat→Int→O R
 | 0,_=>none
 | n+1,f=>(Fa N r0 b a c d (Cj r0 b a c d n) f)
def Ko (N:Nat) (r0:Bool→O R) (q0:Int→O R) (b:LA) (a:Nat) (c d:Bool):O R :=
 (q0 1)
def Ig:=(Ag fun N b a c d r0=>Ko (R:=R) N r0 (Cj N r0 b a c d N) b a c d).1
theorem Tk (b a c d e):(@Ig R N b a c d e)=(Ko N e (Cj N e b a c d N) b a c d):=by rw[Ig,(Ag _).2]
def OA (F:KF R):=Ip Tryz.f155 cL [] [] N F
def OB (b:LA) (a:Nat) (c d:Bool) (K:St→O R):=fun f=>K ⟨[(0,(.imm b a 4 c d)),(3,(iv f))],[]⟩
theorem EW (F:KF R) (b a c d):∀ n,OB b a c d (Al (OA N F (pz 324) []) n)=(Cj N (Bq F) b a c d n):=Eu fun n e=>(Bp (Fa N (Bq F) b a c d) e:_)
def RI:=Cw N 155 [] cL (fun
 | [(.imm b a 4 c d)],[]=>some fun _ k=>(Ig N b a c d (Bq k))
 | _,_=>none) fun _ _=>by split;intro R F;exact(Bp (Ko N (Bq F) · _ _ _ _) ((lW ..).trans (EW ..)):_).trans (Tk ..).symm;trivial
def Mj (r0:Bool→O R) (d:Int) (a:LA) (b:Nat) (f c:Bool) (k0:Int→Int→O R) (h g:Int):O R :=
 (cond (decide (g<h)) (cond (Af g b) (cond (ble 4 ((a.drop ((g.toNat)*4)).length)) (cond ((beq 0 0)&&((beq (((a.drop ((g.toNat)*4)).take 4).length) 4)&&(beq 4 4))) (Ao .i64 ((a.drop ((g.toNat)*4)).take 4) fun i=>cond ((decide (i<0))==false) (Ao .i64 ((a.drop ((g.toNat)*4)).take 4) fun j=>cond ((cond false true (decide (j≥d)))==false) (cond (ble 3 ((((a.drop ((g.toNat)*4)).take 4).drop 1).length)) (gF N ((((a.drop ((g.toNat)*4)).take 4).drop 1).take 3) c fun l=>cond (cond false true (l==0)) (r0 false) (k0 h (wrap .i64 (g+1)))) none) (r0 false)) (r0 false)) none) none) none) (r0 true))
def Fl (r0:Bool→O R) (d:Int) (a:LA) (b:Nat) (f c:Bool):Nat→Int→Int→O R
 | 0,_,_=>none
 | n+1,h,g=>(Mj N r0 d a b f c (Fl r0 d a b f c n) h g)
def Sg (r0:Bool→O R) (q0:Int→Int→O R) (a:LA) (b:Nat) (f c:Bool) (d:Int):O R :=
 (Ig N a b false c fun m=>cond (!m) (r0 false) (q0 (b:Int) 0))
def Pq:=(Ag fun N a b f c d r0=>Sg (R:=R) N r0 (Fl N r0 d a b f c N) a b f c d).1
theorem BW (a b f c d e):(@Pq R N a b f c d e)=(Sg N e (Fl N e d a b f c N) a b f c d):=by rw[Pq,(Ag _).2]
def HE:Hints:={ H:=(hK 2 (hS (hK 1 (hS (hP [1,10,11,12] hL) hL)) hL)) }
def KR:Oi:=[RI N,yv N]
def fL (F:KF R):=Ip Tryz.f100 HE (KR N) [] N F
def fM (d:Int) (a:LA) (b:Nat) (f c:Bool) (K:St→O R):=fun h g=>K ⟨[(1,(iv d)),(10,(.imm a b 4 f c)),(11,(iv h)),(12,(iv g))],[]⟩
theorem RK (F:KF R) (d a b f c):∀ n,fM d a b f c (Al (fL N F (pz 1348) []) n)=(Fl N (Bq F) d a b f c n):=Eu fun n e=>(Bp (Mj N (Bq F) d a b f c) e:_)
def jn:=Cw N 100 (KR N) HE (fun
 | [(.imm a b 4 f c),(.int .i64 d)],[]=>some fun _ k=>(Pq N a b f c d (Bq k))
 | _,_=>none) fun _ _=>by split;intro R F;exact(Bp (Sg N (Bq F) · _ _ _ _ _) ((lW ..).trans (RK ..)):_).trans (BW ..).symm;trivial
def Cs (r0:Bool→O R) (d:Bool) (b:LA) (c:Bool) (a:LA) (e:LA):O R :=
 (Ba 22 (b.drop 4) fun z g=>SK e fun h=>Ao .i64 (a.drop 1) fun i=>Pp N h i (g:Int) fun j=>cond (j==true) (SK (e.drop 1) fun l=>Ao .i64 (a.drop 2) fun m=>Ao .i64 b fun n=>Pp N l m n fun o=>cond ((cond true o false)==true) (SK (e.drop 2) fun p=>Ao .i64 (a.drop 3) fun q=>Pp N p q (g:Int) fun r=>cond ((cond true r false)==true) (Ba 4 (a.drop 4) fun s t=>Pq N s t false c 16384 fun u=>r0 (cond true u false)) (r0 false)) (r0 false)) (r0 false))
def Pr (r0:Bool→O R) (q0:LA→O R) (b:LA) (d:Bool) (a:LA) (c:Bool):O R :=
 (Ao .i64 a fun v=>Wb N v fun f w=>cond ((beq (f.length) 4)&&((ble 4 4)&&(!false))) (cond ((!w)==false) (SK ((setCells [(.bool false),(.bool false),(.bool false),(.bool false)] 0 f).drop 3) fun x=>cond ((!x)==true) (Ba 4 (a.drop 4) fun aa y=>cond (cond false true (cond true (decide ((y:Int)>0)) false)) (r0 false) (q0 (setCells [(.bool false),(.bool false),(.bool false),(.bool false)] 0 f))) (q0 (setCells [(.bool false),(.bool false),(.bool false),(.bool false)] 0 f))) (r0 false)) none)
def Ni:=(Ag fun N b d a c r0=>Pr (R:=R) N r0 (Cs N r0 d b c a) b d a c).1
theorem Yy (b d a c e):(@Ni R N b d a c e)=(Pr N e (Cs N e d b c a) b d a c):=by rw[Ni,(Ag _).2]
def BX:Hints:={ H:=(hK 2 (hJ [2,3,5] hL hL)) }
def HF:Oi:=[te N,wU N,jn N]
def aD (F:KF R):=Ip Tryz.f52 BX (HF N) [] N F
def aE (d:Bool) (b:LA) (c:Bool) (a:LA) (K:St→O R):=fun e=>K ⟨[(2,(op 0)),(3,(op 1)),(5,(op 2))],(hq [(bP d 0 b),(bP c 0 a),(bQ 0 e)])⟩
theorem OC (F:KF R) (d b c a):aE d b c a (Bh (aD N F (pz 85) []))=(Cs N (Bq F) d b c a):=by kernel_rfl
def fN:=Cw N 52 (HF N) BX (fun
 | [(.pagg b d),(.pagg a c)],[]=>some fun _ k=>(Ni N b d a c (Bq k))
 | _,_=>none) fun _ _=>by split;intro R F;exact(Bp (Pr N (Bq F) · _ _ _ _) ((jW ..).trans (OC ..)):_).trans (Yy ..).symm;trivial
def Vq (r0:Int→O R) (f:LA) (g:Nat) (c b:Bool) (a:LA) (k1:Int→Int→Int→O R) (i j h:Int):O R :=
 (cond (decide (h<j)) (cond (Af h g) (cond (ble 5 ((f.drop ((h.toNat)*5)).length)) (cond ((beq 0 0)&&((beq (((f.drop ((h.toNat)*5)).take 5).length) 5)&&(beq 5 5))) (cond ((i==0)==false) (cond (ble 8 (a.length)) (cond (ble 5 (((f.drop ((h.toNat)*5)).take 5).length)) (Ni N (a.take 8) b (((f.drop ((h.toNat)*5)).take 5).take 5) c fun m=>cond (cond false true (!m)) (r0 73) (Ao .i64 ((f.drop ((h.toNat)*5)).take 5) fun o=>cond (o==0) (k1 (wrap .i64 ((wrap .i64 (i - 1))+3)) j (wrap .i64 (h+1))) (k1 (wrap .i64 (i - 1)) j (wrap .i64 (h+1))))) none) none) (r0 73)) none) none) none) (cond (i != 0) (r0 73) (r0 0)))
def Ot (r0:Int→O R) (f:LA) (g:Nat) (c b:Bool) (a:LA):Nat→Int→Int→Int→O R
 | 0,_,_,_=>none
 | n+1,i,j,h=>(Vq N r0 f g c b a (Ot r0 f g c b a n) i j h)
def EX (N:Nat) (r0:Int→O R) (b:Bool) (a:LA) (c:Bool) (d:LA) (q1:LA→Nat→Int→Int→Int→O R):O R :=
 (Ba 5 (d.drop 2) fun f g=>q1 f g 1 (g:Int) 0)
def Tl (r0:Int→O R) (b:Bool) (a:LA) (c:Bool) (d:LA):O R:=(EX N r0 b a c d fun f g=>Ot N r0 f g c b a N)
def NF (r0:Int→O R) (q0:O R) (a:LA) (b:Bool) (d:LA) (c:Bool):O R :=
 (cond (ble 8 (a.length)) (KQ N (a.take 8) b fun p l=>cond ((beq (p.length) 3)&&((ble 3 3)&&(!false))) (cond (l != 0) (r0 l) (Ba 6 (d.drop 1) fun s q=>cond ((decide ((q:Int)>256))==false) (Ba 5 (d.drop 2) fun t r=>cond (cond false true (decide ((r:Int)>4096))) (r0 8) q0) (r0 8))) none) none)
def Ps:=(Ag fun N a b d c r0=>NF (R:=R) N r0 (Tl N r0 b a c d) a b d c).1
theorem VN (a b d c e):(@Ps R N a b d c e)=(NF N e (Tl N e b a c d) a b d c):=by rw[Ps,(Ag _).2]
def dN:Hints:={ H:=(hK 2 (hJ [2,3] hL (hK 1 (hS (hK 1 (hS (hP [2,7,29,30,31] hL) hL)) hL)))) }
def jo:Oi:=[wT N,fN N]
def dO (F:KF R):=Ip Tryz.f20 dN (jo N) [] N F
def th (f:LA) (g:Nat) (c b:Bool) (a:LA) (K:St→O R):=fun i j h=>K ⟨[(2,(op 0)),(7,(iv i)),(29,(.imm f g 5 false c)),(30,(iv j)),(31,(iv h))],(hq [(bP b 0 a)])⟩
def ti (b:Bool) (a:LA) (c:Bool) (d:LA) (K:St→O R):=K ⟨[(2,(op 0)),(3,(op 1))],(hq [(bP b 0 a),(bP c 0 d)])⟩
theorem jq (F:KF R) (f g c b a):∀ n,th f g c b a (Al (dO N F (pz 21828) []) n)=(Ot N (Dr F) f g c b a n):=Eu fun n e=>(Bp (Vq N (Dr F) f g c b a) e:_)
theorem jr (F:KF R) (b a c d):ti b a c d (Bh (dO N F (pz 85) []))=(Tl N (Dr F) b a c d):=(Bp (EX N (Dr F) b a c d) (ZD fun f g=>(lW ..).trans (jq ..)):_)
def EY:=Cw N 20 (jo N) dN (fun
 | [(.pagg a b),(.pagg d c)],[]=>some fun _ k=>(Ps N a b d c (Dr k))
 | _,_=>none) fun _ _=>by split;intro R F;exact(Bp (NF N (Dr F) · _ _ _ _) ((jW ..).trans (jr ..)):_).trans (VN ..).symm;trivial
def aF (c:LA) (e:Bool) (a:LA) (d:Bool) (b:Int) (r0:Nat→Int→LA→O R):O R :=
 (cond (ble 8 (c.length)) (cond (ble 3 (a.length)) (Ps N (c.take 8) e (a.take 3) d fun f=>cond (f != 0) (r0 0 f []) (cond ((decide (b<0))==false) (Ba 5 (a.drop 2) fun m g=>cond (cond false true (decide (b≥(g:Int)))) (r0 0 12 []) (Ba 5 (a.drop 2) fun h i=>qa N h i false d 0 b 0 [] fun n o j p l=>r0 j 0 l)) (r0 0 12 []))) none) none)
def KS:=(Ag (@aF R)).1
theorem VO:@KS R=@aF R:=(Ag _).2
def js:=Cw N 22 [EY N,zI N] { H:=hL,nils:=[(6,3)],modes:=[(2,3),(0,0)] } (fun
 | [(.pagg c e),(.pagg a d),(.int .i64 b)],[]=>some fun _ k=>(KS N c e a d b (Aea k))
 | _,_=>none) fun _ _=>by split;intro R F;dsimp only;rw[VO];kernel_rfl;trivial
def Nz (N:Nat) (r0:Bool→O R) (c d:Int) (b:LA) (a:Nat) (f g:Bool) (k0:Int→O R) (h:Int):O R :=
 (cond (decide (h<(a:Int))) (cond (Af h a) (Ao .i64 (b.drop ((h.toNat)*1)) fun i=>cond ((decide (i<c))==false) (cond (Af h a) (Ao .i64 (b.drop ((h.toNat)*1)) fun j=>cond (cond false true (decide (j>d))) (r0 false) (k0 (wrap .i64 (h+1)))) none) (r0 false)) none) (r0 true))
def Gh (r0:Bool→O R) (c d:Int) (b:LA) (a:Nat) (f g:Bool):Nat→Int→O R
 | 0,_=>none
 | n+1,h=>(Nz N r0 c d b a f g (Gh r0 c d b a f g n) h)
def Vr (N:Nat) (r0:Bool→O R) (q0:Int→O R) (c d:Int) (b:LA) (a:Nat) (f g:Bool):O R :=
 (q0 0)
def Am:=(Ag fun N c d b a f g r0=>Vr (R:=R) N r0 (Gh N r0 c d b a f g N) c d b a f g).1
theorem HG (c d b a f g e):(@Am R N c d b a f g e)=(Vr N e (Gh N e c d b a f g N) c d b a f g):=by rw[Am,(Ag _).2]
def KT:Hints:={ H:=(hK 1 (hS (hK 1 (hS (hP [0,1,2,7] hL) hL)) hL)) }
def jt (F:KF R):=Ip Tryz.f64 KT [] [] N F
def ju (c d:Int) (b:LA) (a:Nat) (f g:Bool) (K:St→O R):=fun h=>K ⟨[(0,(iv c)),(1,(iv d)),(2,(.imm b a 1 f g)),(7,(iv h))],[]⟩
theorem VP (F:KF R) (c d b a f g):∀ n,ju c d b a f g (Al (jt N F (pz 324) []) n)=(Gh N (Bq F) c d b a f g n):=Eu fun n e=>(Bp (Nz N (Bq F) c d b a f g) e:_)
def C9:=Cw N 64 [] KT (fun
 | [(.int .i64 c),(.int .i64 d),(.imm b a 1 f g)],[]=>some fun _ k=>(Am N c d b a f g (Bq k))
 | _,_=>none) fun _ _=>by split;intro R F;exact(Bp (Vr N (Bq F) · _ _ _ _ _ _) ((lW ..).trans (VP ..)):_).trans (HG ..).symm;trivial
def H8 (N:Nat) (r0:LA→O R) (b c d e:Int) (a:LA) (g:Bool):O R :=
 (cond g (cond ((beq 3 3)&&((ble 3 (a.length))&&(!false))) (cond ((beq 1 1)&&((ble 4 ((Dd a 0 [(.int .i64 b),(.int .i64 c),(.int .i64 d)]).length))&&(!false))) (r0 ((Dd a 0 [(.int .i64 b),(.int .i64 c),(.int .i64 d)]).set 3 (.int .i64 e))) none) none) (r0 a))
def Kp (N:Nat) (r0:LA→O R) (q0:Bool→O R) (f:Bool) (b c d e:Int) (a:LA):O R :=
 (Ao .i64 (a.drop 3) fun h=>cond ((h==0)==true) (q0 (cond true (!f) false)) (q0 false))
def Aa:=(Ag fun N f b c d e a r0=>Kp (R:=R) N r0 (H8 N r0 b c d e a) f b c d e a).1
theorem Tm (f b c d e a j):(@Aa R N f b c d e a j)=(Kp N j (H8 N j b c d e a) f b c d e a):=by rw[Aa,(Ag _).2]
def Ui:Hints:={ H:=(hJ [0,2,3,4,5,20] hL hL) }
def OD (F:KF R):=Ip Tryz.f63 Ui [] [100000] N F
def OE (b c d e:Int) (a:LA) (K:St→O R):=fun g=>K ⟨[(0,(.optr 100000 0)),(2,(iv b)),(3,(iv c)),(4,(iv d)),(5,(iv e)),(20,(.bool g))],[(100000,(bQ 0 a))]⟩
theorem EZ (F:KF R) (b c d e a):OE b c d e a (Bh (OD N F (pz 5) []))=(H8 N (Hb F) b c d e a):=by kernel_rfl
def Bk:=Cw N 63 [] Ui (fun
 | [(.optr 100000 0),(.bool f),(.int .i64 b),(.int .i64 c),(.int .i64 d),(.int .i64 e)],[(100000,⟨false,false,true,false,0,a,false,none⟩)]=>some fun _ k=>(Aa N f b c d e a (Hb k))
 | _,_=>none) fun _ _=>by split;intro R F;exact(Bp (Kp N (Hb F) · _ _ _ _ _ _) ((jW ..).trans (EZ ..)):_).trans (Tm ..).symm;trivial
def M0 (e:LA) (l:Bool) (f:LA) (a:Nat) (m g:Bool) (h i b c d:Int) (j:LA) (r0:LA→O R):O R :=
 (Ao .i64 e fun n=>Aa N ((a:Int)==n) b c d 4 j fun o=>Am N h i f a false g fun p=>Aa N p b c d 3 o fun q=>r0 q)
def Cp:=(Ag (@M0 R)).1
theorem Pu:@Cp R=@M0 R:=(Ag _).2
def Lj:=Cw N 62 [Bk N,C9 N] Fq (fun
 | [(.optr 100000 0),(.pagg e l),(.imm f a 1 m g),(.int .i64 h),(.int .i64 i),(.int .i64 b),(.int .i64 c),(.int .i64 d)],[(100000,⟨false,false,true,false,0,j,false,none⟩)]=>some fun _ k=>(Cp N e l f a m g h i b c d j (Hb k))
 | _,_=>none) fun _ _=>by split;intro R F;dsimp only;rw[Pu];kernel_rfl;trivial
def Sh (N:Nat) (r0:Nat→LA→O R) (b:Bool) (a:LA) (k0:Nat→Int→LA→O R) (d:Nat) (l:Int) (s:LA):O R :=
 (Ba 3 (a.drop 2) fun ay y=>cond (decide (l<(y:Int))) (Ba 3 (a.drop 2) fun z aa=>cond (Af l aa) (O' (z.drop ((l.toNat)*3)) fun ab=>cond ((ble (d+1) 140737488355328)&&(ble ((d+1)*16) 140737488355328)) (k0 (d+1) (wrap .i64 (l+1)) ((s.take (d*1))++[(.str ab)])) none) none) (r0 d s))
def I7 (r0:Nat→LA→O R) (b:Bool) (a:LA):Nat→Nat→Int→LA→O R
 | 0,_,_,_=>none
 | n+1,d,l,s=>(Sh N r0 b a (I7 r0 b a n) d l s)
def Si (N:Nat) (r0:Nat→LA→O R) (b:Bool) (a:LA) (k1:Nat→Int→LA→O R) (f:Nat) (m:Int) (t:LA):O R :=
 (Ba 12 (a.drop 3) fun az ac=>cond (decide (m<(ac:Int))) (Ba 12 (a.drop 3) fun ad ae=>cond (Af m ae) (O' (ad.drop ((m.toNat)*12)) fun af=>cond ((ble (f+1) 140737488355328)&&(ble ((f+1)*16) 140737488355328)) (k1 (f+1) (wrap .i64 (m+1)) ((t.take (f*1))++[(.str af)])) none) none) (r0 f t))
def I8 (r0:Nat→LA→O R) (b:Bool) (a:LA):Nat→Nat→Int→LA→O R
 | 0,_,_,_=>none
 | n+1,f,m,t=>(Si N r0 b a (I8 r0 b a n) f m t)
def Sj (N:Nat) (r0:Nat→LA→O R) (b:Bool) (a:LA) (k2:Nat→Int→LA→O R) (g:Nat) (o:Int) (u:LA):O R :=
 (Ba 22 (a.drop 4) fun ba ag=>cond (decide (o<(ag:Int))) (Ba 22 (a.drop 4) fun ah ai=>cond (Af o ai) (O' (ah.drop ((o.toNat)*22)) fun aj=>cond ((ble (g+1) 140737488355328)&&(ble ((g+1)*16) 140737488355328)) (k2 (g+1) (wrap .i64 (o+1)) ((u.take (g*1))++[(.str aj)])) none) none) (r0 g u))
def I9 (r0:Nat→LA→O R) (b:Bool) (a:LA):Nat→Nat→Int→LA→O R
 | 0,_,_,_=>none
 | n+1,g,o,u=>(Sj N r0 b a (I9 r0 b a n) g o u)
def Sk (N:Nat) (r0:Nat→LA→O R) (b:Bool) (a:LA) (k3:Nat→Int→LA→O R) (h:Nat) (p:Int) (v:LA):O R :=
 (Ba 9 (a.drop 5) fun bb ak=>cond (decide (p<(ak:Int))) (Ba 9 (a.drop 5) fun al am=>cond (Af p am) (O' (al.drop ((p.toNat)*9)) fun an=>cond ((ble (h+1) 140737488355328)&&(ble ((h+1)*16) 140737488355328)) (k3 (h+1) (wrap .i64 (p+1)) ((v.take (h*1))++[(.str an)])) none) none) (r0 h v))
def Ja (r0:Nat→LA→O R) (b:Bool) (a:LA):Nat→Nat→Int→LA→O R
 | 0,_,_,_=>none
 | n+1,h,p,v=>(Sk N r0 b a (Ja r0 b a n) h p v)
def Sm (N:Nat) (r0:Nat→LA→O R) (b:Bool) (a:LA) (k4:Nat→Int→LA→O R) (i:Nat) (q:Int) (w:LA):O R :=
 (Ba 5 (a.drop 6) fun bc ao=>cond (decide (q<(ao:Int))) (Ba 5 (a.drop 6) fun ap aq=>cond (Af q aq) (O' (ap.drop ((q.toNat)*5)) fun ar=>cond ((ble (i+1) 140737488355328)&&(ble ((i+1)*16) 140737488355328)) (k4 (i+1) (wrap .i64 (q+1)) ((w.take (i*1))++[(.str ar)])) none) none) (r0 i w))
def Jb (r0:Nat→LA→O R) (b:Bool) (a:LA):Nat→Nat→Int→LA→O R
 | 0,_,_,_=>none
 | n+1,i,q,w=>(Sm N r0 b a (Jb r0 b a n) i q w)
def Sn (N:Nat) (r0:Nat→LA→O R) (b:Bool) (a:LA) (k5:Nat→Int→LA→O R) (j:Nat) (r:Int) (x:LA):O R :=
 (Ba 4 (a.drop 7) fun bd au=>cond (decide (r<(au:Int))) (Ba 4 (a.drop 7) fun av aw=>cond (Af r aw) (O' (av.drop ((r.toNat)*4)) fun ax=>cond ((ble (j+1) 140737488355328)&&(ble ((j+1)*16) 140737488355328)) (k5 (j+1) (wrap .i64 (r+1)) ((x.take (j*1))++[(.str ax)])) none) none) (r0 j x))
def Jc (r0:Nat→LA→O R) (b:Bool) (a:LA):Nat→Nat→Int→LA→O R
 | 0,_,_,_=>none
 | n+1,j,r,x=>(Sn N r0 b a (Jc r0 b a n) j r x)
def Jd (N:Nat) (r0:Nat→LA→O R) (q0:Nat→Int→LA→O R) (q1:Nat→Int→LA→O R) (q2:Nat→Int→LA→O R) (q3:Nat→Int→LA→O R) (q4:Nat→Int→LA→O R) (q5:Nat→Int→LA→O R) (a:LA) (b:Bool) (c:Int):O R :=
 (cond (c==1) (q0 0 0 []) (cond (c==2) (q1 0 0 []) (cond (c==3) (q2 0 0 []) (cond (c==4) (q3 0 0 []) (cond (c==5) (q4 0 0 []) (cond (c==6) (q5 0 0 []) (r0 0 [])))))))
def G7:=(Ag fun N a b c r0=>Jd (R:=R) N r0 (I7 N r0 b a N) (I8 N r0 b a N) (I9 N r0 b a N) (Ja N r0 b a N) (Jb N r0 b a N) (Jc N r0 b a N) a b c).1
theorem Hv (a b c e):(@G7 R N a b c e)=(Jd N e (I7 N e b a N) (I8 N e b a N) (I9 N e b a N) (Ja N e b a N) (Jb N e b a N) (Jc N e b a N) a b c):=by rw[G7,(Ag _).2]
def VQ:Hints:={ H:=(hK 2 (hS (hK 1 (hS (hK 1 (hS (hK 1 (hS (hP [2,5,6] hL) hL)) (hK 1 (hS (hK 1 (hS (hP [2,5,7] hL) hL)) (hK 1 (hS (hK 1 (hS (hP [2,5,8] hL) hL)) (hK 1 (hS (hK 1 (hS (hP [2,5,9] hL) hL)) (hK 1 (hS (hK 1 (hS (hP [2,5,10] hL) hL)) (hK 1 (hS (hK 1 (hS (hP [2,5,11] hL) hL)) hL)))))))))))) hL)) hL)),nils:=[(4,1),(5,1)],modes:=[(2,1)] }
def Mk (F:KF R):=Ip Tryz.f103 VQ [] [] N F
def qr (b:Bool) (a:LA) (K:St→O R):=fun d l s=>K ⟨[(2,(op 0)),(5,(.own 300001 0 d)),(6,(iv l))],(hq [(bP b 0 a),(bQ 1 s)])⟩
def qs (b:Bool) (a:LA) (K:St→O R):=fun f m t=>K ⟨[(2,(op 0)),(5,(.own 300001 0 f)),(7,(iv m))],(hq [(bP b 0 a),(bQ 1 t)])⟩
def qt (b:Bool) (a:LA) (K:St→O R):=fun g o u=>K ⟨[(2,(op 0)),(5,(.own 300001 0 g)),(8,(iv o))],(hq [(bP b 0 a),(bQ 1 u)])⟩
def qu (b:Bool) (a:LA) (K:St→O R):=fun h p v=>K ⟨[(2,(op 0)),(5,(.own 300001 0 h)),(9,(iv p))],(hq [(bP b 0 a),(bQ 1 v)])⟩
def qv (b:Bool) (a:LA) (K:St→O R):=fun i q w=>K ⟨[(2,(op 0)),(5,(.own 300001 0 i)),(10,(iv q))],(hq [(bP b 0 a),(bQ 1 w)])⟩
def qw (b:Bool) (a:LA) (K:St→O R):=fun j r x=>K ⟨[(2,(op 0)),(5,(.own 300001 0 j)),(11,(iv r))],(hq [(bP b 0 a),(bQ 1 x)])⟩
theorem fO (F:KF R) (b a):∀ n,qr b a (Al (Mk N F (pz 345156) []) n)=(I7 N (Fi F) b a n):=Eu fun n e=>(Bp (Sh N (Fi F) b a) e:_)
theorem fP (F:KF R) (b a):∀ n,qs b a (Al (Mk N F (pz 5522756) []) n)=(I8 N (Fi F) b a n):=Eu fun n e=>(Bp (Si N (Fi F) b a) e:_)
theorem fQ (F:KF R) (b a):∀ n,qt b a (Al (Mk N F (pz 88364356) []) n)=(I9 N (Fi F) b a n):=Eu fun n e=>(Bp (Sj N (Fi F) b a) e:_)
theorem fR (F:KF R) (b a):∀ n,qu b a (Al (Mk N F (pz 1413829956) []) n)=(Ja N (Fi F) b a n):=Eu fun n e=>(Bp (Sk N (Fi F) b a) e:_)
theorem fS (F:KF R) (b a):∀ n,qv b a (Al (Mk N F (pz 22621279556) []) n)=(Jb N (Fi F) b a n):=Eu fun n e=>(Bp (Sm N (Fi F) b a) e:_)
theorem fT (F:KF R) (b a):∀ n,qw b a (Al (Mk N F (pz 361940473156) []) n)=(Jc N (Fi F) b a n):=Eu fun n e=>(Bp (Sn N (Fi F) b a) e:_)
def dP:=Cw N 103 [] VQ (fun
 | [(.pagg a b),(.int .i64 c)],[]=>some fun _ k=>(G7 N a b c (Fi k))
 | _,_=>none) fun _ _=>by split;intro R F;exact(Ake (Jd N (Fi F) · · · · · · _ _ _) ((lW ..).trans (fO ..)) ((lW ..).trans (fP ..)) ((lW ..).trans (fQ ..)) ((lW ..).trans (fR ..)) ((lW ..).trans (fS ..)) ((lW ..).trans (fT ..)):_).trans (Hv ..).symm;trivial
def aG (N:Nat) (a:Int) (r0:Int→O R):O R :=
 (cond (Af a 7) (Ao .i64 (drop (0+((a.toNat)*1)) [(.int .i64 0),(.int .i64 32),(.int .i64 64),(.int .i64 16),(.int .i64 8),(.int .i64 8),(.int .i64 64)]) fun b=>r0 b) none)
def Pv:=(Ag (@aG R)).1
theorem VR:@Pv R=@aG R:=(Ag _).2
def wV:=Cw N 104 [] Fq (fun
 | [(.int .i64 a)],[]=>some fun _ k=>(Pv N a (Dr k))
 | _,_=>none) fun _ _=>by split;intro R F;dsimp only;rw[VR];kernel_rfl;trivial
end
end Gx
namespace Gx
open Go Go.Proofs
set_option maxRecDepth 100000
def tj (f:Int→Option Int):Nat→Int→Option Int
 | 0,a=>some a
 | m+1,a=>cond (decide (a<0)) (some a) ((f a).bind (tj f m))
def fU:Nat→LA→Nat→Int→Option Int
 | 0,_,_,_=>none
 | d+1,c,n,i=>cond (decide (i<0)||decide ((n:Int)≤i)) (some (-1)) (Ao .i64 (c.drop (i.toNat*5)) fun k=>cond (k != 0) (some (wrap .i64 (i+1))) (tj (fU d c n) 3 (wrap .i64 (i+1))))
noncomputable section
variable {R:Type}
def eZ (d:Nat) (c:LA) (n:Nat) (t o:Bool) (i:Int) (r0:Int→O R):O R:=(fU d c n i).bind r0
def eR (F:KF R):Int→O R:=fun z=>F (iv z) []
def Abm (d:Nat):LA→Ap→Option ((R:Type)→KF R→O R)
 | [.imm c n 5 t o,.int .i64 i],[]=>some fun _ k=>eZ d c n t o i (eR k)
 | _,_=>none
def Ac3 (d:Nat):Prop:=∀ c n t o i v,fU d c n i=some v→ri Tryz.prog 54 [.imm c n 5 t o,.int .i64 i] [] (iv v) []
theorem Adf (d:Nat) (a:LA) (h:Ap) (g) (e:Abm d a h=some g) (R:Type) (k:KF R):g R k=(g (AV×Ap) fun v h=>some (v,h)).bind fun p=>k p.1 p.2:=by
 unfold Abm at e
 split at e
 ·cases e;unfold eZ eR;cases fU d _ _ _<;>rfl
 ·cases e
theorem xw {d:Nat} (H:Ac3 d) (a:LA) (h:Ap) (g) (b:AV) (h':Ap) (e:Abm d a h=some g) (hh:(g (AV×Ap) fun v h=>some (v,h))=some (b,h')):ri Tryz.prog 54 a h b h':=by
 unfold Abm at e
 split at e
 ·rename_i c n t o i
  cases e
  unfold eZ eR at hh
  cases hq:fU d c n i with
  | none=>rw[hq] at hh;cases hh
  | some v=>rw[hq] at hh;cases hh;exact H c n t o i v hq
 ·cases e
def eB (d:Nat) (H:Ac3 d):Bd Tryz.prog:=⟨54,Abm d,Adf d,xw H⟩
def Afg (d:Nat) (r0:Int→O R) (c0:LA) (n0:Nat) (t0 o0:Bool) (k1:Int→Int→O R) (g1_i5 g1_i6:Int):O R :=
 (cond ((decide (g1_i6<3))==true) (cond (cond true (decide (g1_i5≥0)) false) (eZ d c0 n0 false o0 g1_i5 fun y2=>k1 y2 (wrap .i64 (g1_i6+1))) (r0 g1_i5)) (r0 g1_i5))
def Adg (d:Nat) (r0:Int→O R) (c0:LA) (n0:Nat) (t0 o0:Bool):Nat→Int→Int→O R
 | 0,_,_=>none
 | n+1,g1_i5,g1_i6=>(Afg d r0 c0 n0 t0 o0 (Adg d r0 c0 n0 t0 o0 n) g1_i5 g1_i6)
def Afh (r0:Int→O R) (c0:LA) (n0:Nat) (t0 o0:Bool) (i1:Int) (q1:Int→Int→O R):O R :=
 (cond (Af i1 n0) (Ao .i64 (c0.drop ((i1.toNat)*5)) fun x1=>cond (x1 != 0) (r0 (wrap .i64 (i1+1))) (q1 (wrap .i64 (i1+1)) 0)) none)
def Ahh (d:Nat) (r0:Int→O R) (c0:LA) (n0:Nat) (t0 o0:Bool) (i1:Int):O R:=(Afh r0 c0 n0 t0 o0 i1 (Adg d r0 c0 n0 t0 o0 5))
def jv (r0:Int→O R) (q0:O R) (c0:LA) (n0:Nat) (t0 o0:Bool) (i1:Int):O R :=
 (cond ((decide (i1<0))==false) (cond (cond false true (decide (i1≥(n0:Int)))) (r0 (-1)) q0) (r0 (-1)))
def Aj9:Hints:={ H:=(hK 1 (hJ [0,1] hL (hK 2 (hS (hK 1 (hS (hP [0,5,6] hL) hL)) hL)))) }
def Aka (d:Nat) (H:Ac3 d) (F:KF R):=Ip Tryz.f54 Aj9 [eB d H] [] 5 F
def Akn (c0:LA) (n0:Nat) (t0 o0:Bool) (K:St→O R):=fun g1_i5 g1_i6=>K ⟨[(0,(.imm c0 n0 5 t0 o0)),(5,(iv g1_i5)),(6,(iv g1_i6))],[]⟩
def Ako (c0:LA) (n0:Nat) (t0 o0:Bool) (i1:Int) (K:St→O R):=K ⟨[(0,(.imm c0 n0 5 t0 o0)),(1,(iv i1))],[]⟩
theorem Afi (d:Nat) (H:Ac3 d) (F:KF R) (b n0 t0 o0):∀ n,Akn b n0 t0 o0 (Al (Aka d H F (pz 21828) []) n)=(Adg d (eR F) b n0 t0 o0 n):=Eu fun n e=>(Bp (Afg d (eR F) b n0 t0 o0) e:_)
theorem Afj (d:Nat) (H:Ac3 d) (F:KF R) (b n0 t0 o0 i1):Ako b n0 t0 o0 i1 (Bh (Aka d H F (pz 21) []))=(Ahh d (eR F) b n0 t0 o0 i1):=(Bp (Afh (eR F) b n0 t0 o0 i1) ((lW ..).trans (Afi d H ..)):_)
def Adh (d:Nat) (H:Ac3 d):=Cw 5 54 [eB d H] Aj9 (fun
 | [(.imm c0 n0 5 t0 o0),(.int .i64 i1)],[]=>some fun _ k=>(jv (eR k) (Ahh d (eR k) c0 n0 t0 o0 i1) c0 n0 t0 o0 i1)
 | _,_=>none) fun _ _=>by split;intro R F;exact(Bp (jv (eR F) · _ _ _ _ _) ((jW ..).trans (Afj d H ..)):_);trivial
theorem wW (d:Nat) (c:LA) (n:Nat) (t o:Bool) (i:Int) (b:Int→O R):jv b (Ahh d b c n t o i) c n t o i=(fU (d+1) c n i).bind b:=by
 unfold jv
 rw[fU]
 cases s:decide (i<0) with
 | true=>simp
 | false =>
  cases e:decide ((n:Int)≤i) with
  | true=>simp[e]
  | false =>
   simp only[decide_eq_false_iff_not] at s e
   have u:Af i n=true:=by unfold Af;simp;omega
   have v:decide (i≥(n:Int))=false:=by simpa using e
   simp only[beq_self_eq_true,cond_true,cond_false,v,Bool.or_self]
   unfold Ahh Afh
   rw[u,cond_true]
   unfold Ao
   cases (c.drop (i.toNat*5)).head? with
   | none=>rfl
   | some x =>
    simp only[Alj]
    cases IL .i64 x with
    | none=>rfl
    | some k =>
     simp only[Alj]
     cases k != 0 with
     | true=>rfl
     | false =>
      simp only[cond_false]
      have loop:∀ (m:Nat) (a j:Int),j+m=3→0≤j→Adg d b c n t o (m+2) a j=(tj (fU d c n) m a).bind b:=by
       intro m
       induction m with
       | zero =>
        intro a j z _
        obtain rfl:j=3:=by omega
        rfl
       | succ m A =>
        intro a j z h0
        rw[Adg,Afg,decide_eq_true (show j<3 by omega),tj]
        by_cases q:a<0
        ·rw[decide_eq_false (show ¬ a≥0 by omega),decide_eq_true q];rfl
        ·rw[decide_eq_true (show a≥0 by omega),decide_eq_false q]
         show(fU d c n a).bind (fun y2=>Adg d b c n t o (m+2) y2 (wrap .i64 (j+1)))=_
         have C:wrap .i64 (j+1)=j+1:=by
          rcases(show j=0∨j=1∨j=2 by omega) with rfl | rfl | rfl<;>rfl
         rw[C,cond_false,Akv]
         congr 1;funext y
         exact A y (j+1) (by omega) (by omega)
      exact loop 3 _ 0 (by omega) (by omega)
theorem Abn:Ac3 0:=fun c n t o i v h=>by cases h
theorem Abo {d:Nat} (H:Ac3 d):Ac3 (d+1):=fun c n t o i v h=>by
 refine(Adh d H).ok [.imm c n 5 t o,.int .i64 i] [] _ (iv v) [] rfl ?_
 show jv (eR fun v h=>some (v,h)) (Ahh d (eR fun v h=>some (v,h)) c n t o i) c n t o i=_
 rw[wW,h];rfl
theorem xx:∀ d,Ac3 d
 | 0=>Abn
 | d+1=>Abo (xx d)
def VS (N:Nat) (c:LA) (n:Nat) (t o:Bool) (i:Int) (r0:Int→O R):O R:=eZ N c n t o i r0
def VT:=(Ag (@VS R)).1
theorem Yz:@VT R=@VS R:=(Ag _).2
def oY (N:Nat):Bd Tryz.prog:=⟨54,fun
 | [.imm c n 5 t o,.int .i64 i],[]=>some fun _ k=>VT N c n t o i (eR k)
 | _,_=>none,(fun a h g e R k=>by
  split at e
  ·cases e;dsimp only;rw[Yz,Yz];unfold VS eZ eR;cases fU N _ _ _<;>rfl
  ·cases e),(fun a h g res h' e hh=>by
  split at e
  ·cases e;dsimp only at hh;rw[Yz] at hh;rename_i c n t o i;exact xw (xx N) [.imm c n 5 t o,.int .i64 i] [] _ res h' rfl hh
  ·cases e)⟩
end
end Gx
namespace Gx
open Go Go.Proofs
set_option maxRecDepth 100000
noncomputable section
variable {R:Type} (N:Nat)
def Bu (r0:LA→O R) (b:Bool) (a:LA) (k0:Int→LA→O R) (c:Int) (f:LA):O R :=
 (cond (decide (c≤6)) (cond (ble 8 (a.length)) (G7 N (a.take 8) b c fun g u=>Pv N c fun h=>Aa N (decide ((g:Int)≤h)) 0 0 (wrap .i64 (c+1)) 8 f fun i=>k0 (wrap .i64 (c+1)) i) none) (r0 f))
def Bc (r0:LA→O R) (b:Bool) (a:LA):Nat→Int→LA→O R
 | 0,_,_=>none
 | n+1,c,f=>(Bu N r0 b a (Bc r0 b a n) c f)
def Je (r0:LA→O R) (q0:Int→LA→O R) (a:LA) (b:Bool) (d:LA):O R :=
 (Ao .i64 a fun j=>Am N 1 24 [(.int .i64 j)] 1 false true fun l=>Aa N l 0 0 0 3 d fun m=>cond (ble 8 (a.length)) (Ba 1 (a.drop 1) fun o p=>Cp N (a.take 8) b o p false b 0 1048576 0 0 1 m fun q=>Ba 3 (a.drop 2) fun v r=>Am N 1 32 [(.int .i64 (r:Int))] 1 false true fun s=>Aa N s 0 0 2 8 q fun t=>q0 2 t) none)
def Hf:=(Ag fun N a b d r0=>Je (R:=R) N r0 (Bc N r0 b a N) a b d).1
theorem Qh (a b d e):(@Hf R N a b d e)=(Je N e (Bc N e b a N) a b d):=by rw[Hf,(Ag _).2]
def Tn:Hints:={ H:=(hK 5 (hS (hP [0,3,4] hL) hL)) }
def Uj:Oi:=[C9 N,Bk N,Lj N,dP N,wV N]
def KU (F:KF R):=Ip Tryz.f60 Tn (Uj N) [100000] N F
def KV (b:Bool) (a:LA) (K:St→O R):=fun c f=>K ⟨[(0,(.optr 100000 0)),(3,(op 0)),(4,(iv c))],[(100000,(bQ 0 f)),(300000,(bP b 0 a))]⟩
theorem BY (F:KF R) (b a):∀ n,KV b a (Al (KU N F (pz 5460) []) n)=(Bc N (Hb F) b a n):=Eu fun n e=>(Bp (Bu N (Hb F) b a) e:_)
def OF:=Cw N 60 (Uj N) Tn (fun
 | [(.optr 100000 0),(.pagg a b)],[(100000,⟨false,false,true,false,0,d,false,none⟩)]=>some fun _ k=>(Hf N a b d (Hb k))
 | _,_=>none) fun _ _=>by split;intro R F;exact(Bp (Je N (Hb F) · _ _ _) ((lW ..).trans (BY ..)):_).trans (Qh ..).symm;trivial
def Y0 (N:Nat) (k1:Int→O R) (r0:Bool→O R) (a:Lu) (b:Int) (d:Bool):O R :=
 (cond ((!d)==true) (cond ((b==0)==false) (cond (Af b (a.length)) (cond ((((UInt8.toNat (List.getD a (b.toNat) 0):Nat):Int) != 95)==true) (cond (Af b (a.length)) (cond ((decide (((UInt8.toNat (List.getD a (b.toNat) 0):Nat):Int)<48))==false) (cond (Af b (a.length)) (cond (cond true (cond false true (cond true (cond false true (decide (((UInt8.toNat (List.getD a (b.toNat) 0):Nat):Int)>57))) false)) false) (r0 false) (k1 (wrap .i64 (b+1)))) none) (r0 false)) none) (k1 (wrap .i64 (b+1)))) none) (r0 false)) (k1 (wrap .i64 (b+1))))
def Vs (N:Nat) (r0:Bool→O R) (a:Lu) (k1:Int→O R) (q2:Int→Bool→O R) (c:Int):O R :=
 (cond (decide (c<(((a.length):Nat):Int))) (cond (Af c (a.length)) (cond ((decide (((UInt8.toNat (List.getD a (c.toNat) 0):Nat):Int)≥97))==true) (cond (Af c (a.length)) (q2 c (cond true (decide (((UInt8.toNat (List.getD a (c.toNat) 0):Nat):Int)≤122)) false)) none) (q2 c false)) none) (r0 true))
def Lk (r0:Bool→O R) (a:Lu):Nat→Int→O R
 | 0,_=>none
 | n+1,c=>(Vs N r0 a (Lk r0 a n) (Y0 N (Lk r0 a n) r0 a) c)
def E_ (N:Nat) (r0:Bool→O R) (a:Lu) (q1:Int→O R):O R :=
 (q1 0)
def Y1 (r0:Bool→O R) (a:Lu):O R:=(E_ N r0 a (Lk N r0 a N))
def NG (N:Nat) (r0:Bool→O R) (q0:O R) (a:Lu):O R :=
 (cond ((decide ((((a.length):Nat):Int)<1))==false) (cond ((cond false true (decide ((((a.length):Nat):Int)>16)))==false) (cond (cond false true (a==([99,111,114,114,101,99,116,105,118,101]:Lu))) (r0 false) q0) (r0 false)) (r0 false))
def KW:=(Ag fun N a r0=>NG (R:=R) N r0 (Y1 N r0 a) a).1
theorem VU (a b):(@KW R N a b)=(NG N b (Y1 N b a) a):=by rw[KW,(Ag _).2]
def dQ:Hints:={ H:=(hK 1 (hJ [0] hL (hS (hK 1 (hS (hP [0,3] (hK 1 (hS (hS (hJ [0,3,4] hL hL) hL) hL))) hL)) hL))) }
def KX (F:KF R):=Ip Tryz.f105 dQ [] [] N F
def tn (a:Lu) (K:St→O R):=fun b d=>K ⟨[(0,(.str a)),(3,(iv b)),(4,(.bool d))],[]⟩
def dR (a:Lu) (K:St→O R):=fun c=>K ⟨[(0,(.str a)),(3,(iv c))],[]⟩
def tp (a:Lu) (K:St→O R):=K ⟨[(0,(.str a))],[]⟩
theorem jw (Q1) (F:KF R) (a):tn a (Bh (KX N F (pz 1380417) [Q1]))=(Y0 N (dR a Q1) (Bq F) a):=by kernel_rfl
theorem jx (F:KF R) (a):∀ n,dR a (Al (KX N F (pz 1348) []) n)=(Lk N (Bq F) a n):=Eu fun n e=>(DZ (Vs N (Bq F) a) e ((jW ..).trans ((jw ..).trans (ly (Y0 _ · _ _) e))):_)
theorem jy (F:KF R) (a):tp a (Bh (KX N F (pz 21) []))=(Y1 N (Bq F) a):=(Bp (E_ N (Bq F) a) ((lW ..).trans (jx ..)):_)
def wX:=Cw N 105 [] dQ (fun
 | [(.str a)],[]=>some fun _ k=>(KW N a (Bq k))
 | _,_=>none) fun _ _=>by split;intro R F;exact(Bp (NG N (Bq F) · _) ((jW ..).trans (jy ..)):_).trans (VU ..).symm;trivial
def Hg (r0:LA→O R) (b a:Int) (c:Nat) (d:LA) (k0:Int→LA→O R) (g:Int) (j:LA):O R :=
 (cond (decide (g<a)) (cond (Af g c) (O' (d.drop (0+((g.toNat)*1))) fun l=>cond (Af a c) (O' (d.drop (0+((a.toNat)*1))) fun m=>Aa N (!(l==m)) b a 0 10 j fun o=>k0 (wrap .i64 (g+1)) o) none) none) (r0 j))
def Cx (r0:LA→O R) (b a:Int) (c:Nat) (d:LA):Nat→Int→LA→O R
 | 0,_,_=>none
 | n+1,g,j=>(Hg N r0 b a c d (Cx r0 b a c d n) g j)
def Kq (r0:LA→O R) (q0:Nat→LA→Int→LA→O R) (f:LA) (h:Bool) (b a:Int) (i:LA):O R :=
 (cond (ble 8 (f.length)) (G7 N (f.take 8) h b fun c d=>cond (Af a c) (O' (d.drop (0+((a.toNat)*1))) fun p=>KW N p fun q=>Aa N q b a 0 9 i fun r=>q0 c d 0 r) none) none)
def Cg:=(Ag fun N f h b a i r0=>Kq (R:=R) N r0 (fun c d=>Cx N r0 b a c d N) f h b a i).1
theorem To (f h b a i e):(@Cg R N f h b a i e)=(Kq N e (fun c d=>Cx N e b a c d N) f h b a i):=by rw[Cg,(Ag _).2]
def Uk:Hints:={ H:=(hK 4 (hS (hP [0,2,3,8,9] hL) hL)) }
def W9:Oi:=[dP N,wX N,Bk N]
def OG (F:KF R):=Ip Tryz.f61 Uk (W9 N) [100000] N F
def OH (b a:Int) (c:Nat) (d:LA) (K:St→O R):=fun g j=>K ⟨[(0,(.optr 100000 0)),(2,(iv b)),(3,(iv a)),(8,(.own 300000 0 c)),(9,(iv g))],[(100000,(bQ 0 j)),(300000,(bQ 1 d))]⟩
theorem E' (F:KF R) (b a c d):∀ n,OH b a c d (Al (OG N F (pz 1364) []) n)=(Cx N (Hb F) b a c d n):=Eu fun n e=>(Bp (Hg N (Hb F) b a c d) e:_)
def Ej:=Cw N 61 (W9 N) Uk (fun
 | [(.optr 100000 0),(.pagg f h),(.int .i64 b),(.int .i64 a)],[(100000,⟨false,false,true,false,0,i,false,none⟩)]=>some fun _ k=>(Cg N f h b a i (Hb k))
 | _,_=>none) fun _ _=>by split;intro R F;exact(Bp (Kq N (Hb F) · _ _ _ _ _) (ZD fun c d=>(lW ..).trans (E' ..)):_).trans (To ..).symm;trivial
def Re (a:LA) (g:Bool) (b c d e:Int) (f:LA) (r0:LA→O R):O R :=
 (Ba 3 (a.drop 2) fun l h=>Am N 0 (wrap .i64 ((h:Int) - 1)) [(.int .i64 b)] 1 false true fun i=>Aa N i c d e 12 f fun j=>r0 j)
def D5:=(Ag (@Re R)).1
theorem Ul:@D5 R=@Re R:=(Ag _).2
def Kr:=Cw N 106 [C9 N,Bk N] Fq (fun
 | [(.optr 100000 0),(.pagg a g),(.int .i64 b),(.int .i64 c),(.int .i64 d),(.int .i64 e)],[(100000,⟨false,false,true,false,0,f,false,none⟩)]=>some fun _ k=>(D5 N a g b c d e f (Hb k))
 | _,_=>none) fun _ _=>by split;intro R F;dsimp only;rw[Ul];kernel_rfl;trivial
def Z7 (a:LA) (b:Bool) (r0:Bool→O R):O R :=
 (Ao .i64 (a.drop 1) fun c=>Am N 1 1048576 [(.int .i64 c)] 1 false true fun d=>cond (d==true) (Ao .i64 a fun e=>Am N (-1048576) 1048576 [(.int .i64 e)] 1 false true fun f=>r0 (cond true f false)) (r0 false))
def Jf:=(Ag (@Z7 R)).1
theorem BZ:@Jf R=@Z7 R:=(Ag _).2
def KY:=Cw N 107 [C9 N] Fq (fun
 | [(.pagg a b)],[]=>some fun _ k=>(Jf N a b (Bq k))
 | _,_=>none) fun _ _=>by split;intro R F;dsimp only;rw[BZ];kernel_rfl;trivial
def Ll (N:Nat) (r0:Bool→O R) (b:LA) (a:Nat) (c d:Bool) (k0:Int→O R) (f:Int):O R :=
 (cond (decide (f<(a:Int))) (cond (Af f a) (Ao .i64 (b.drop ((f.toNat)*1)) fun g=>cond (Af (wrap .i64 (f - 1)) a) (Ao .i64 (b.drop (((wrap .i64 (f - 1)).toNat)*1)) fun h=>cond (decide (g≤h)) (r0 false) (k0 (wrap .i64 (f+1)))) none) none) (r0 true))
def F1 (r0:Bool→O R) (b:LA) (a:Nat) (c d:Bool):Nat→Int→O R
 | 0,_=>none
 | n+1,f=>(Ll N r0 b a c d (F1 r0 b a c d n) f)
def Y2 (N:Nat) (r0:Bool→O R) (q0:Int→O R) (b:LA) (a:Nat) (c d:Bool):O R :=
 (q0 1)
def Ob:=(Ag fun N b a c d r0=>Y2 (R:=R) N r0 (F1 N r0 b a c d N) b a c d).1
theorem KZ (b a c d e):(@Ob R N b a c d e)=(Y2 N e (F1 N e b a c d N) b a c d):=by rw[Ob,(Ag _).2]
def md (F:KF R):=Ip Tryz.f110 cL [] [] N F
def mf (b:LA) (a:Nat) (c d:Bool) (K:St→O R):=fun f=>K ⟨[(0,(.imm b a 1 c d)),(3,(iv f))],[]⟩
theorem aH (F:KF R) (b a c d):∀ n,mf b a c d (Al (md N F (pz 324) []) n)=(F1 N (Bq F) b a c d n):=Eu fun n e=>(Bp (Ll N (Bq F) b a c d) e:_)
def VV:=Cw N 110 [] cL (fun
 | [(.imm b a 1 c d)],[]=>some fun _ k=>(Ob N b a c d (Bq k))
 | _,_=>none) fun _ _=>by split;intro R F;exact(Bp (Y2 N (Bq F) · _ _ _ _) ((lW ..).trans (aH ..)):_).trans (KZ ..).symm;trivial
def Pw (g:LA) (i:Bool) (a:LA) (b:Nat) (j c:Bool) (d e f:Int) (h:LA) (r0:LA→O R):O R :=
 (Ao .i64 g fun l=>Am N 0 (wrap .i64 (l - 1)) a b false c fun m=>Aa N m d e f 3 h fun n=>Ob N a b false c fun o=>Aa N o d e f 11 n fun p=>r0 p)
def Ih:=(Ag (@Pw R)).1
theorem Tp:@Ih R=@Pw R:=(Ag _).2
def Xa:=Cw N 108 [C9 N,Bk N,VV N] Fq (fun
 | [(.optr 100000 0),(.pagg g i),(.imm a b 1 j c),(.int .i64 d),(.int .i64 e),(.int .i64 f)],[(100000,⟨false,false,true,false,0,h,false,none⟩)]=>some fun _ k=>(Ih N g i a b j c d e f h (Hb k))
 | _,_=>none) fun _ _=>by split;intro R F;dsimp only;rw[Tp];kernel_rfl;trivial
def M1 (r0:LA→O R) (a:Int) (b:Bool) (c d:LA) (i:LA):O R :=
 (Ao .i64 (d.drop 9) fun l=>Am N 0 1048576 [(.int .i64 l)] 1 false true fun m=>Aa N m 2 a 6 3 i fun n=>Ao .i64 (d.drop 9) fun o=>Ao .i64 (d.drop 10) fun p=>Am N o 1048576 [(.int .i64 p)] 1 false true fun q=>Aa N q 2 a 7 3 n fun r=>cond (ble 8 (c.length)) (Ba 1 (d.drop 11) fun s t=>Ih N (c.take 8) b s t false b 2 a 8 r fun u=>r0 u) none)
def Lm (r0:LA→O R) (a:Int) (b:Bool) (c d:LA) (q2:LA→O R) (g:LA):O R :=
 (cond (ble 2 ((d.drop 7).length)) (cond ((!b)||(Ax ((d.drop 7).take 2))) (Jf N ((d.drop 7).take 2) false fun v=>cond (v==true) (Ao .i64 (d.drop 7) fun w=>Aa N (cond true (decide (w≥0)) false) 2 a 5 3 g fun x=>q2 x) (Aa N false 2 a 5 3 g fun y=>q2 y)) none) none)
def M2 (r0:LA→O R) (a:Int) (b:Bool) (c d:LA) (g:LA):O R:=(Lm N r0 a b c d (M1 N r0 a b c d) g)
def Ln (r0:LA→O R) (a:Int) (b:Bool) (c:LA) (q1:LA→LA→O R) (h d:LA):O R :=
 (cond (ble 2 ((d.drop 5).length)) (cond ((!b)||(Ax ((d.drop 5).take 2))) (Jf N ((d.drop 5).take 2) false fun z=>cond (z==true) (Ao .i64 (d.drop 5) fun aa=>Aa N (cond true (decide (aa≤0)) false) 2 a 4 3 h fun ab=>q1 d ab) (Aa N false 2 a 4 3 h fun ac=>q1 d ac)) none) none)
def H9 (r0:LA→O R) (a:Int) (b:Bool) (c:LA) (h d:LA):O R:=(Ln N r0 a b c (fun d=>M2 N r0 a b c d) h d)
def Ks (r0:LA→O R) (q0:LA→LA→O R) (c:LA) (b:Bool) (a:Int) (f:LA):O R :=
 (Ba 12 (c.drop 3) fun e ad=>cond (Af a ad) (cond (ble 12 ((e.drop ((a.toNat)*12)).length)) (cond ((beq 0 0)&&((beq (((e.drop ((a.toNat)*12)).take 12).length) 12)&&(beq 12 12))) (cond (ble 8 (c.length)) (Cg N (c.take 8) b 2 a f fun ae=>cond (ble 8 (c.length)) (Ao .i64 (((e.drop ((a.toNat)*12)).take 12).drop 1) fun af=>D5 N (c.take 8) b af 2 a 1 ae fun ag=>cond (ble 8 (c.length)) (Ao .i64 (((e.drop ((a.toNat)*12)).take 12).drop 2) fun ah=>D5 N (c.take 8) b ah 2 a 2 ag fun ai=>Ao .i64 (((e.drop ((a.toNat)*12)).take 12).drop 1) fun aj=>Ao .i64 (((e.drop ((a.toNat)*12)).take 12).drop 2) fun ak=>Aa N (aj != ak) 2 a 2 1 ai fun j=>cond (ble 2 ((((e.drop ((a.toNat)*12)).take 12).drop 3).length)) (cond ((!b)||(Ax ((((e.drop ((a.toNat)*12)).take 12).drop 3).take 2))) (Jf N ((((e.drop ((a.toNat)*12)).take 12).drop 3).take 2) false fun al=>cond (al==true) (Ao .i64 (((e.drop ((a.toNat)*12)).take 12).drop 3) fun am=>Aa N (cond true (decide (am>0)) false) 2 a 3 3 j fun an=>q0 an ((e.drop ((a.toNat)*12)).take 12)) (Aa N false 2 a 3 3 j fun ao=>q0 ao ((e.drop ((a.toNat)*12)).take 12))) none) none) none) none) none) none) none) none)
def Ii:=(Ag fun N c b a f r0=>Ks (R:=R) N r0 (H9 N r0 a b c) c b a f).1
theorem Tq (c b a f e):(@Ii R N c b a f e)=(Ks N e (H9 N e a b c) c b a f):=by rw[Ii,(Ag _).2]
def Um:Hints:={ H:=(hK 6 (hJ [0,2,4,6,7] hL (hJ [0,2,4,6,7] hL (hJ [0,2,4,6,7] hL hL)))) }
def Xb:Oi:=[Ej N,Kr N,Bk N,KY N,C9 N,Xa N]
def M3 (F:KF R):=Ip Tryz.f65 Um (Xb N) [100000] N F
def OI (a:Int) (b:Bool) (c d:LA) (K:St→O R):=fun i=>K ⟨[(0,(.optr 100000 0)),(2,(iv a)),(4,(op 0)),(6,(op 1)),(7,(iv 2))],[(100000,(bQ 0 i)),(300000,(bP b 0 c)),(300001,(bP b 0 d))]⟩
def OJ (a:Int) (b:Bool) (c d:LA) (K:St→O R):=fun g=>K ⟨[(0,(.optr 100000 0)),(2,(iv a)),(4,(op 0)),(6,(op 1)),(7,(iv 2))],[(100000,(bQ 0 g)),(300000,(bP b 0 c)),(300001,(bP b 0 d))]⟩
def OK (a:Int) (b:Bool) (c:LA) (K:St→O R):=fun h d=>K ⟨[(0,(.optr 100000 0)),(2,(iv a)),(4,(op 0)),(6,(op 1)),(7,(iv 2))],[(100000,(bQ 0 h)),(300000,(bP b 0 c)),(300001,(bP b 0 d))]⟩
theorem FA (F:KF R) (a b c d):OI a b c d (Bh (M3 N F (pz 349525) []))=(M1 N (Hb F) a b c d):=by kernel_rfl
theorem FB (F:KF R) (a b c d):OJ a b c d (Bh (M3 N F (pz 87381) []))=(M2 N (Hb F) a b c d):=(Bp (Lm N (Hb F) a b c d) ((jW ..).trans (FA ..)):_)
theorem FC (F:KF R) (a b c):OK a b c (Bh (M3 N F (pz 21845) []))=(H9 N (Hb F) a b c):=(Bp (Ln N (Hb F) a b c) (eo fun d=>(jW ..).trans (FB ..)):_)
def RL:=Cw N 65 (Xb N) Um (fun
 | [(.optr 100000 0),(.pagg c b),(.int .i64 a)],[(100000,⟨false,false,true,false,0,f,false,none⟩)]=>some fun _ k=>(Ii N c b a f (Hb k))
 | _,_=>none) fun _ _=>by split;intro R F;exact(Bp (Ks N (Hb F) · _ _ _ _) ((jW ..).trans (FC ..)):_).trans (Tq ..).symm;trivial
def Ex (r0:LA→O R) (b:Int) (d:LA) (c:Bool) (a:LA) (k2:Int→Int→O R) (m j:Int):O R :=
 (Ba 2 (a.drop 4) fun ax q=>cond ((decide (j<(q:Int)))==true) (Ao .i64 (d.drop 3) fun r=>cond (cond true (r==0) false) (Ba 2 (a.drop 4) fun s t=>cond (Af j t) (Ao .i64 (s.drop ((j.toNat)*2)) fun u=>k2 (wrap .i64 (m+u)) (wrap .i64 (j+1))) none) (Ao .i64 (d.drop 3) fun v=>cond ((v != 0)==false) (Ao .i64 (a.drop 3) fun w=>Ao .i64 (a.drop 2) fun x=>Aa N (cond false true (m==(wrap .i64 (w - x)))) 3 b 4 4 d fun y=>r0 y) (Aa N true 3 b 4 4 d fun z=>r0 z))) (Ao .i64 (d.drop 3) fun aa=>cond ((aa != 0)==false) (Ao .i64 (a.drop 3) fun ab=>Ao .i64 (a.drop 2) fun ac=>Aa N (cond false true (m==(wrap .i64 (ab - ac)))) 3 b 4 4 d fun ad=>r0 ad) (Aa N true 3 b 4 4 d fun ae=>r0 ae)))
def Cm (r0:LA→O R) (b:Int) (d:LA) (c:Bool) (a:LA):Nat→Int→Int→O R
 | 0,_,_=>none
 | n+1,m,j=>(Ex N r0 b d c a (Cm r0 b d c a n) m j)
def Da (r0:LA→O R) (b:Int) (c:Bool) (a:LA) (k1:Int→LA→O R) (q2:LA→Int→Int→O R) (i:Int) (d:LA):O R :=
 (Ba 2 (a.drop 4) fun ay af=>cond (decide (i<(af:Int))) (Ba 2 (a.drop 4) fun ag ah=>cond (Af i ah) (Ao .i64 ((ag.drop ((i.toNat)*2)).drop 1) fun ai=>Ba 2 (a.drop 4) fun aj ak=>cond (Af (wrap .i64 (i - 1)) ak) (Ao .i64 ((aj.drop (((wrap .i64 (i - 1)).toNat)*2)).drop 1) fun al=>Aa N (decide (ai≥al)) 3 b 4 11 d fun am=>k1 (wrap .i64 (i+1)) am) none) none) (q2 d 0 0))
def Bz (r0:LA→O R) (b:Int) (c:Bool) (a:LA):Nat→Int→LA→O R
 | 0,_,_=>none
 | n+1,i,d=>(Da N r0 b c a (Bz r0 b c a n) (fun d=>Cm N r0 b d c a N) i d)
def Ey (r0:LA→O R) (b:Int) (f:LA) (g:Nat) (c:Bool) (a:LA) (k0:Int→Int→LA→O R) (q1:Int→LA→O R) (o h:Int) (p:LA):O R :=
 (cond (decide (h<o)) (cond (Af h g) (cond (ble 2 ((f.drop ((h.toNat)*2)).length)) (cond ((!c)||(Ax ((f.drop ((h.toNat)*2)).take 2))) (cond ((beq (((f.drop ((h.toNat)*2)).take 2).length) 2)&&((ble 2 2)&&(!false))) (Ao .i64 (setCells [(.int .i64 0),(.int .i64 0)] 0 ((f.drop ((h.toNat)*2)).take 2)) fun an=>Am N 1 1048576 [(.int .i64 an)] 1 false true fun ao=>cond (ao==true) (Ao .i64 ((setCells [(.int .i64 0),(.int .i64 0)] 0 ((f.drop ((h.toNat)*2)).take 2)).drop 1) fun ap=>Am N (-1048576) 1048576 [(.int .i64 ap)] 1 false true fun aq=>Aa N (cond true aq false) 3 b 4 3 p fun ar=>k0 o (wrap .i64 (h+1)) ar) (Aa N false 3 b 4 3 p fun au=>k0 o (wrap .i64 (h+1)) au)) none) none) none) none) (q1 1 p))
def B0 (r0:LA→O R) (b:Int) (f:LA) (g:Nat) (c:Bool) (a:LA):Nat→Int→Int→LA→O R
 | 0,_,_,_=>none
 | n+1,o,h,p=>(Ey N r0 b f g c a (B0 r0 b f g c a n) (Bz N r0 b c a N) o h p)
def Gs (r0:LA→O R) (q0:LA→Nat→Int→Int→LA→O R) (a:LA) (c:Bool) (b:Int) (l:LA):O R :=
 (Ba 2 (a.drop 4) fun az av=>Aa N (decide ((av:Int)≤8)) 3 b 4 8 l fun aw=>Ba 2 (a.drop 4) fun f g=>q0 f g (g:Int) 0 aw)
def Dg:=(Ag fun N a c b l r0=>Gs (R:=R) N r0 (fun f g=>B0 N r0 b f g c a N) a c b l).1
theorem Nj (a c b l e):(@Dg R N a c b l e)=(Gs N e (fun f g=>B0 N e b f g c a N) a c b l):=by rw[Dg,(Ag _).2]
def Ou:Hints:={ H:=(hK 3 (hS (hK 1 (hS (hP [0,2,4,6,21,22,23] hL) hL)) (hS (hK 1 (hS (hP [0,2,4,6,9] hL) hL)) (hK 1 (hS (hK 1 (hS (hP [0,2,4,6,10,11] hL) hL)) hL))))) }
def Px:Oi:=[Bk N,C9 N]
def Ij (F:KF R):=Ip Tryz.f109 Ou (Px N) [100000] N F
def B_ (b:Int) (d:LA) (c:Bool) (a:LA) (K:St→O R):=fun m j=>K ⟨[(0,(.optr 100000 0)),(2,(iv b)),(4,(op 0)),(6,(iv 3)),(10,(iv m)),(11,(iv j))],[(100000,(bQ 0 d)),(300000,(bP c 0 a))]⟩
def B' (b:Int) (c:Bool) (a:LA) (K:St→O R):=fun i d=>K ⟨[(0,(.optr 100000 0)),(2,(iv b)),(4,(op 0)),(6,(iv 3)),(9,(iv i))],[(100000,(bQ 0 d)),(300000,(bP c 0 a))]⟩
def CA (b:Int) (f:LA) (g:Nat) (c:Bool) (a:LA) (K:St→O R):=fun o h p=>K ⟨[(0,(.optr 100000 0)),(2,(iv b)),(4,(op 0)),(6,(iv 3)),(21,(.imm f g 2 false c)),(22,(iv o)),(23,(iv h))],[(100000,(bQ 0 p)),(300000,(bP c 0 a))]⟩
theorem Xc (F:KF R) (b d c a):∀ n,B_ b d c a (Al (Ij N F (pz 349508) []) n)=(Cm N (Hb F) b d c a n):=Eu fun n e=>(Bp (Ex N (Hb F) b d c a) e:_)
theorem Xd (F:KF R) (b c a):∀ n,B' b c a (Al (Ij N F (pz 21828) []) n)=(Bz N (Hb F) b c a n):=Eu fun n e=>(DZ (Da N (Hb F) b c a) e (eo fun d=>(lW ..).trans (Xc ..)):_)
theorem Xe (F:KF R) (b f g c a):∀ n,CA b f g c a (Al (Ij N F (pz 5444) []) n)=(B0 N (Hb F) b f g c a n):=Eu fun n e=>(DZ (Ey N (Hb F) b f g c a) e ((lW ..).trans (Xd ..)):_)
def FD:=Cw N 109 (Px N) Ou (fun
 | [(.optr 100000 0),(.pagg a c),(.int .i64 b)],[(100000,⟨false,false,true,false,0,l,false,none⟩)]=>some fun _ k=>(Dg N a c b l (Hb k))
 | _,_=>none) fun _ _=>by split;intro R F;exact(Bp (Gs N (Hb F) · _ _ _ _) (ZD fun f g=>(lW ..).trans (Xe ..)):_).trans (Nj ..).symm;trivial
def M4 (r0:LA→O R) (a:Int) (c:Bool) (d:LA) (h:LA):O R :=
 (Ao .i64 (d.drop 19) fun l=>cond (l==2) (Ao .i64 (d.drop 2) fun m=>Ao .i64 (d.drop 3) fun n=>Ao .i64 (d.drop 21) fun o=>Am N m n [(.int .i64 o)] 1 false true fun p=>Aa N p 3 a 21 3 h fun q=>r0 q) (Ao .i64 (d.drop 21) fun r=>Aa N (r==0) 3 a 21 3 h fun s=>r0 s))
def Lo (r0:LA→O R) (a:Int) (c:Bool) (q1:LA→LA→O R) (g d:LA):O R :=
 (Ao .i64 (d.drop 20) fun t=>Am N 1 48 [(.int .i64 t)] 1 false true fun u=>Aa N u 3 a 20 3 g fun i=>Ao .i64 (d.drop 19) fun v=>cond ((v != 1)==false) (Ao .i64 (d.drop 20) fun w=>Ao .i64 (d.drop 12) fun x=>Aa N (cond false true (decide (w≤x))) 3 a 20 3 i fun y=>q1 d y) (Aa N true 3 a 20 3 i fun z=>q1 d z))
def Ia (r0:LA→O R) (a:Int) (c:Bool) (g d:LA):O R:=(Lo N r0 a c (fun d=>M4 N r0 a c d) g d)
def Kt (r0:LA→O R) (q0:LA→LA→O R) (e:LA) (c:Bool) (a:Int) (f:LA):O R :=
 (Ba 22 (e.drop 4) fun b aa=>cond (Af a aa) (cond (ble 22 ((b.drop ((a.toNat)*22)).length)) (cond ((beq 0 0)&&((beq (((b.drop ((a.toNat)*22)).take 22).length) 22)&&(beq 22 22))) (cond (ble 8 (e.length)) (Cg N (e.take 8) c 3 a f fun ab=>cond (ble 8 (e.length)) (Ao .i64 (((b.drop ((a.toNat)*22)).take 22).drop 1) fun ac=>D5 N (e.take 8) c ac 3 a 1 ab fun ad=>Ao .i64 (((b.drop ((a.toNat)*22)).take 22).drop 2) fun ae=>Am N 0 1048576 [(.int .i64 ae)] 1 false true fun af=>Aa N af 3 a 2 3 ad fun ag=>Ao .i64 (((b.drop ((a.toNat)*22)).take 22).drop 2) fun ah=>Ao .i64 (((b.drop ((a.toNat)*22)).take 22).drop 3) fun ai=>Am N ah 1048576 [(.int .i64 ai)] 1 false true fun aj=>Aa N aj 3 a 3 3 ag fun ak=>cond (ble 22 (((b.drop ((a.toNat)*22)).take 22).length)) (Dg N (((b.drop ((a.toNat)*22)).take 22).take 22) c a ak fun al=>Ao .i64 (((b.drop ((a.toNat)*22)).take 22).drop 5) fun am=>Am N 0 1048576 [(.int .i64 am)] 1 false true fun an=>Aa N an 3 a 5 3 al fun ao=>Ao .i64 (((b.drop ((a.toNat)*22)).take 22).drop 6) fun ap=>Am N 0 1048576 [(.int .i64 ap)] 1 false true fun aq=>Aa N aq 3 a 6 3 ao fun ar=>Ao .i64 (((b.drop ((a.toNat)*22)).take 22).drop 7) fun au=>Am N 0 1048576 [(.int .i64 au)] 1 false true fun av=>Aa N av 3 a 7 3 ar fun aw=>Ao .i64 (((b.drop ((a.toNat)*22)).take 22).drop 2) fun ax=>Ao .i64 (((b.drop ((a.toNat)*22)).take 22).drop 3) fun ay=>Ao .i64 (((b.drop ((a.toNat)*22)).take 22).drop 8) fun az=>Am N ax ay [(.int .i64 az)] 1 false true fun ba=>Aa N ba 3 a 8 3 aw fun bb=>Ao .i64 (((b.drop ((a.toNat)*22)).take 22).drop 2) fun bc=>Ao .i64 (((b.drop ((a.toNat)*22)).take 22).drop 3) fun bd=>Ao .i64 (((b.drop ((a.toNat)*22)).take 22).drop 9) fun be=>Am N bc bd [(.int .i64 be)] 1 false true fun bf=>Aa N bf 3 a 9 3 bb fun bg=>Ao .i64 (((b.drop ((a.toNat)*22)).take 22).drop 10) fun bh=>Am N 0 24 [(.int .i64 bh)] 1 false true fun bi=>Aa N bi 3 a 10 3 bg fun bj=>Ao .i64 (((b.drop ((a.toNat)*22)).take 22).drop 11) fun bk=>Am N 0 24 [(.int .i64 bk)] 1 false true fun bl=>Aa N bl 3 a 11 3 bj fun bm=>Ao .i64 (((b.drop ((a.toNat)*22)).take 22).drop 12) fun bn=>Am N 0 24 [(.int .i64 bn)] 1 false true fun bo=>Aa N bo 3 a 12 3 bm fun bp=>Ao .i64 (((b.drop ((a.toNat)*22)).take 22).drop 13) fun bq=>Am N 0 1048576 [(.int .i64 bq)] 1 false true fun br=>Aa N br 3 a 13 3 bp fun bs=>Ao .i64 (((b.drop ((a.toNat)*22)).take 22).drop 14) fun bt=>Am N 0 1048576 [(.int .i64 bt)] 1 false true fun bu=>Aa N bu 3 a 14 3 bs fun bv=>Ao .i64 (((b.drop ((a.toNat)*22)).take 22).drop 15) fun bw=>Am N 0 24 [(.int .i64 bw)] 1 false true fun bx=>Aa N bx 3 a 15 3 bv fun bz=>Ao .i64 (((b.drop ((a.toNat)*22)).take 22).drop 16) fun ca=>Am N 0 1048576 [(.int .i64 ca)] 1 false true fun cb=>Aa N cb 3 a 16 3 bz fun cc=>Ao .i64 (((b.drop ((a.toNat)*22)).take 22).drop 17) fun cd=>Am N 0 1048576 [(.int .i64 cd)] 1 false true fun ce=>Aa N ce 3 a 17 3 cc fun cf=>cond (ble 8 (e.length)) (Ba 1 (((b.drop ((a.toNat)*22)).take 22).drop 18) fun cg ch=>Ih N (e.take 8) c cg ch false c 3 a 18 cf fun ci=>Ao .i64 (((b.drop ((a.toNat)*22)).take 22).drop 19) fun cj=>Am N 0 2 [(.int .i64 cj)] 1 false true fun ck=>Aa N ck 3 a 19 12 ci fun j=>Ao .i64 (((b.drop ((a.toNat)*22)).take 22).drop 19) fun cl=>cond ((cl != 1)==false) (Ao .i64 (((b.drop ((a.toNat)*22)).take 22).drop 12) fun cm=>Aa N (cond false true (decide (cm>0))) 3 a 19 16 j fun cn=>q0 cn ((b.drop ((a.toNat)*22)).take 22)) (Aa N true 3 a 19 16 j fun co=>q0 co ((b.drop ((a.toNat)*22)).take 22))) none) none) none) none) none) none) none)
def Ik:=(Ag fun N e c a f r0=>Kt (R:=R) N r0 (Ia N r0 a c) e c a f).1
theorem Tr (e c a f b):(@Ik R N e c a f b)=(Kt N b (Ia N b a c) e c a f):=by rw[Ik,(Ag _).2]
def Un:Hints:={ H:=(hK 22 (hJ [0,2,6,7] hL (hK 1 (hJ [0,2,6,7] hL hL)))) }
def Xf:Oi:=[Ej N,Kr N,C9 N,Bk N,FD N,Xa N]
def Uo (F:KF R):=Ip Tryz.f66 Un (Xf N) [100000] N F
def OL (a:Int) (c:Bool) (d:LA) (K:St→O R):=fun h=>K ⟨[(0,(.optr 100000 0)),(2,(iv a)),(6,(op 0)),(7,(iv 3))],[(100000,(bQ 0 h)),(300000,(bP c 0 d))]⟩
def OM (a:Int) (c:Bool) (K:St→O R):=fun g d=>K ⟨[(0,(.optr 100000 0)),(2,(iv a)),(6,(op 0)),(7,(iv 3))],[(100000,(bQ 0 g)),(300000,(bP c 0 d))]⟩
theorem FE (F:KF R) (a c d):OL a c d (Bh (Uo N F (pz 1501199875790165) []))=(M4 N (Hb F) a c d):=by kernel_rfl
theorem FF (F:KF R) (a c):OM a c (Bh (Uo N F (pz 93824992236885) []))=(Ia N (Hb F) a c):=(Bp (Lo N (Hb F) a c) (eo fun d=>(jW ..).trans (FE ..)):_)
def RM:=Cw N 66 (Xf N) Un (fun
 | [(.optr 100000 0),(.pagg e c),(.int .i64 a)],[(100000,⟨false,false,true,false,0,f,false,none⟩)]=>some fun _ k=>(Ik N e c a f (Hb k))
 | _,_=>none) fun _ _=>by split;intro R F;exact(Bp (Kt N (Hb F) · _ _ _ _) ((jW ..).trans (FF ..)):_).trans (Tr ..).symm;trivial
def Oc (c:LA) (d:Bool) (a:Int) (e:LA) (r0:LA→O R):O R :=
 (Ba 9 (c.drop 5) fun b g=>cond (Af a g) (cond (ble 9 ((b.drop ((a.toNat)*9)).length)) (cond ((beq 0 0)&&((beq (((b.drop ((a.toNat)*9)).take 9).length) 9)&&(beq 9 9))) (cond (ble 8 (c.length)) (Cg N (c.take 8) d 4 a e fun h=>cond (ble 8 (c.length)) (Ao .i64 (((b.drop ((a.toNat)*9)).take 9).drop 1) fun i=>D5 N (c.take 8) d i 4 a 1 h fun j=>Ao .i64 (((b.drop ((a.toNat)*9)).take 9).drop 2) fun l=>Am N 0 1048576 [(.int .i64 l)] 1 false true fun m=>Aa N m 4 a 2 3 j fun n=>Ao .i64 (((b.drop ((a.toNat)*9)).take 9).drop 2) fun o=>Ao .i64 (((b.drop ((a.toNat)*9)).take 9).drop 3) fun p=>Am N 0 o [(.int .i64 p)] 1 false true fun q=>Aa N q 4 a 3 3 n fun r=>Ao .i64 (((b.drop ((a.toNat)*9)).take 9).drop 2) fun s=>Ao .i64 (((b.drop ((a.toNat)*9)).take 9).drop 4) fun t=>Am N 0 s [(.int .i64 t)] 1 false true fun u=>Aa N u 4 a 4 3 r fun v=>Ao .i64 (((b.drop ((a.toNat)*9)).take 9).drop 5) fun w=>Am N 0 1048576 [(.int .i64 w)] 1 false true fun x=>Aa N x 4 a 5 3 v fun y=>Ao .i64 (((b.drop ((a.toNat)*9)).take 9).drop 6) fun z=>Am N 0 1048576 [(.int .i64 z)] 1 false true fun aa=>Aa N aa 4 a 6 3 y fun f=>cond (ble 2 ((((b.drop ((a.toNat)*9)).take 9).drop 7).length)) (cond ((!d)||(Ax ((((b.drop ((a.toNat)*9)).take 9).drop 7).take 2))) (Jf N ((((b.drop ((a.toNat)*9)).take 9).drop 7).take 2) false fun ab=>cond (ab==true) (Ao .i64 (((b.drop ((a.toNat)*9)).take 9).drop 7) fun ac=>cond ((cond true (decide (ac>0)) false)==true) (Ao .i64 (((b.drop ((a.toNat)*9)).take 9).drop 7) fun ad=>Ao .i64 (((b.drop ((a.toNat)*9)).take 9).drop 8) fun ae=>Aa N (cond true (decide (ad≤ae)) false) 4 a 7 3 f fun af=>r0 af) (Aa N false 4 a 7 3 f fun ag=>r0 ag)) (Aa N false 4 a 7 3 f fun ah=>r0 ah)) none) none) none) none) none) none) none)
def Ku:=(Ag (@Oc R)).1
theorem Qi:@Ku R=@Oc R:=(Ag _).2
def ON:=Cw N 67 [Ej N,Kr N,C9 N,Bk N,KY N] Fq (fun
 | [(.optr 100000 0),(.pagg c d),(.int .i64 a)],[(100000,⟨false,false,true,false,0,e,false,none⟩)]=>some fun _ k=>(Ku N c d a e (Hb k))
 | _,_=>none) fun _ _=>by split;intro R F;dsimp only;rw[Qi];kernel_rfl;trivial
def Rf (b:LA) (c:Bool) (a:Int) (e:LA) (r0:LA→O R):O R :=
 (Ba 5 (b.drop 6) fun d f=>cond (Af a f) (cond (ble 5 ((d.drop ((a.toNat)*5)).length)) (cond ((beq 0 0)&&((beq (((d.drop ((a.toNat)*5)).take 5).length) 5)&&(beq 5 5))) (cond (ble 8 (b.length)) (Cg N (b.take 8) c 5 a e fun g=>cond (ble 8 (b.length)) (Ao .i64 (((d.drop ((a.toNat)*5)).take 5).drop 1) fun h=>D5 N (b.take 8) c h 5 a 1 g fun i=>cond (ble 8 (b.length)) (Ba 1 (((d.drop ((a.toNat)*5)).take 5).drop 2) fun j l=>Cp N (b.take 8) c j l false c 0 1048576 5 a 2 i fun m=>cond (ble 8 (b.length)) (Ba 1 (((d.drop ((a.toNat)*5)).take 5).drop 3) fun n o=>Cp N (b.take 8) c n o false c 0 1048576 5 a 3 m fun p=>cond (ble 8 (b.length)) (Ba 1 (((d.drop ((a.toNat)*5)).take 5).drop 4) fun q r=>Cp N (b.take 8) c q r false c (-1048576) 1048576 5 a 4 p fun s=>r0 s) none) none) none) none) none) none) none) none)
def N0:=(Ag (@Rf R)).1
theorem Up:@N0 R=@Rf R:=(Ag _).2
def VW:=Cw N 68 [Ej N,Kr N,Lj N] Fq (fun
 | [(.optr 100000 0),(.pagg b c),(.int .i64 a)],[(100000,⟨false,false,true,false,0,e,false,none⟩)]=>some fun _ k=>(N0 N b c a e (Hb k))
 | _,_=>none) fun _ _=>by split;intro R F;dsimp only;rw[Up];kernel_rfl;trivial
def Fu (r0:LA→O R) (a:Int) (f:LA) (h:Nat) (b:Bool) (k2:Int→Int→LA→O R) (s l:Int) (t:LA):O R :=
 (cond (decide (l<s)) (cond (Af l h) (cond (ble 3 ((f.drop ((l.toNat)*3)).length)) (cond ((!b)||(Ax ((f.drop ((l.toNat)*3)).take 3))) (cond ((beq (((f.drop ((l.toNat)*3)).take 3).length) 3)&&((ble 3 3)&&(!false))) (Ao .i64 ((setCells [(.int .i64 0),(.int .i64 0),(.int .i64 0)] 0 ((f.drop ((l.toNat)*3)).take 3)).drop 1) fun x=>Ao .i64 ((setCells [(.int .i64 0),(.int .i64 0),(.int .i64 0)] 0 ((f.drop ((l.toNat)*3)).take 3)).drop 2) fun y=>Am N 0 1048576 [(.int .i64 x),(.int .i64 y)] 2 false true fun z=>Aa N z 6 a 3 3 t fun aa=>k2 s (wrap .i64 (l+1)) aa) none) none) none) none) (r0 t))
def C4 (r0:LA→O R) (a:Int) (f:LA) (h:Nat) (b:Bool):Nat→Int→Int→LA→O R
 | 0,_,_,_=>none
 | n+1,s,l,t=>(Fu N r0 a f h b (C4 r0 a f h b n) s l t)
def Fv (r0:LA→O R) (a:Int) (g:LA) (i:Nat) (b:Bool) (j c d:LA) (k1:Nat→Int→Int→LA→O R) (q2:LA→Nat→Int→Int→LA→O R) (m:Nat) (u o:Int) (r:LA):O R :=
 (cond (decide (o<u)) (cond (Af o i) (cond (ble 3 ((g.drop ((o.toNat)*3)).length)) (cond ((!b)||(Ax ((g.drop ((o.toNat)*3)).take 3))) (cond ((beq (((g.drop ((o.toNat)*3)).take 3).length) 3)&&((ble 3 3)&&(!false))) (Ao .i64 (setCells [(.int .i64 0),(.int .i64 0),(.int .i64 0)] 0 ((g.drop ((o.toNat)*3)).take 3)) fun ab=>cond ((ble (m+1) 140737488355328)&&(ble ((m+1)*8) 140737488355328)) (k1 (m+1) u (wrap .i64 (o+1)) ((r.take (m*1))++[(.int .i64 ab)])) none) none) none) none) none) (Ba 22 (c.drop 4) fun bb ac=>Am N 0 (wrap .i64 ((ac:Int) - 1)) (r.take (m*1)) m false true fun ad=>Aa N ad 6 a 3 12 j fun ae=>Ob N (r.take (m*1)) m false true fun af=>Aa N af 6 a 3 11 ae fun ag=>Ba 3 (d.drop 3) fun f h=>q2 f h (h:Int) 0 ag))
def C5 (r0:LA→O R) (a:Int) (g:LA) (i:Nat) (b:Bool) (j c d:LA):Nat→Nat→Int→Int→LA→O R
 | 0,_,_,_,_=>none
 | n+1,m,u,o,r=>(Fv N r0 a g i b j c d (C5 r0 a g i b j c d n) (fun f h=>C4 N r0 a f h b N) m u o r)
def Jg (r0:LA→O R) (a:Int) (b:Bool) (c:LA) (q1:LA→Nat→LA→LA→Nat→Int→Int→LA→O R) (v d:LA):O R :=
 (Ba 3 (d.drop 3) fun bc ah=>Aa N (decide ((ah:Int)≤16)) 6 a 3 8 v fun j=>Ba 3 (d.drop 3) fun g i=>q1 g i j d 0 (i:Int) 0 [])
def Gt (r0:LA→O R) (a:Int) (b:Bool) (c:LA) (v d:LA):O R:=(Jg N r0 a b c (fun g i j d=>C5 N r0 a g i b j c d N) v d)
def Ib (r0:LA→O R) (q0:LA→LA→O R) (c:LA) (b:Bool) (a:Int) (q:LA):O R :=
 (Ba 4 (c.drop 7) fun p ai=>cond (Af a ai) (cond (ble 4 ((p.drop ((a.toNat)*4)).length)) (cond ((beq 0 0)&&((beq (((p.drop ((a.toNat)*4)).take 4).length) 4)&&(beq 4 4))) (cond (ble 8 (c.length)) (Cg N (c.take 8) b 6 a q fun aj=>Ba 1 (((p.drop ((a.toNat)*4)).take 4).drop 1) fun bd ak=>Am N 1 2 [(.int .i64 (ak:Int))] 1 false true fun al=>Aa N al 6 a 1 4 aj fun am=>Ba 12 (c.drop 3) fun be an=>Ba 1 (((p.drop ((a.toNat)*4)).take 4).drop 1) fun ao ap=>Am N 0 (wrap .i64 ((an:Int) - 1)) ao ap false b fun aq=>Aa N aq 6 a 1 12 am fun ar=>Ba 1 (((p.drop ((a.toNat)*4)).take 4).drop 1) fun au av=>Ob N au av false b fun aw=>Aa N aw 6 a 1 11 ar fun w=>SK (((p.drop ((a.toNat)*4)).take 4).drop 2) fun ax=>cond (ax==false) (Ba 3 (((p.drop ((a.toNat)*4)).take 4).drop 3) fun bf ay=>Aa N (cond false true ((ay:Int)==0)) 6 a 3 16 w fun az=>q0 az ((p.drop ((a.toNat)*4)).take 4)) (Aa N true 6 a 3 16 w fun ba=>q0 ba ((p.drop ((a.toNat)*4)).take 4))) none) none) none) none)
def Gi:=(Ag fun N c b a q r0=>Ib (R:=R) N r0 (Gt N r0 a b c) c b a q).1
theorem Py (c b a q e):(@Gi R N c b a q e)=(Ib N e (Gt N e a b c) c b a q):=by rw[Gi,(Ag _).2]
def Qj:Hints:={ H:=(hK 6 (hJ [0,2,4,6,7] hL (hK 2 (hS (hK 1 (hS (hP [0,2,4,6,7,8,71,72,73] hL) hL)) (hK 3 (hS (hP [0,2,7,100,101,102] hL) hL)))))),nils:=[(8,1)] }
def Ts:Oi:=[Ej N,C9 N,Bk N,VV N]
def Kj (F:KF R):=Ip Tryz.f69 Qj (Ts N) [100000] N F
def IF (a:Int) (f:LA) (h:Nat) (b:Bool) (K:St→O R):=fun s l t=>K ⟨[(0,(.optr 100000 0)),(2,(iv a)),(7,(iv 6)),(100,(.imm f h 3 false b)),(101,(iv s)),(102,(iv l))],[(100000,(bQ 0 t))]⟩
def IG (a:Int) (g:LA) (i:Nat) (b:Bool) (j c d:LA) (K:St→O R):=fun m u o r=>K ⟨[(0,(.optr 100000 0)),(2,(iv a)),(4,(op 0)),(6,(op 1)),(7,(iv 6)),(8,(.own 300002 0 m)),(71,(.imm g i 3 false b)),(72,(iv u)),(73,(iv o))],[(100000,(bQ 0 j)),(300000,(bP b 0 c)),(300001,(bP b 0 d)),(300002,(bQ 1 r))]⟩
def IH (a:Int) (b:Bool) (c:LA) (K:St→O R):=fun v d=>K ⟨[(0,(.optr 100000 0)),(2,(iv a)),(4,(op 0)),(6,(op 1)),(7,(iv 6))],[(100000,(bQ 0 v)),(300000,(bP b 0 c)),(300001,(bP b 0 d))]⟩
theorem Z8 (F:KF R) (a f h b):∀ n,IF a f h b (Al (Kj N F (pz 357913940) []) n)=(C4 N (Hb F) a f h b n):=Eu fun n e=>(Bp (Fu N (Hb F) a f h b) e:_)
theorem Z9 (F:KF R) (a g i b j c d):∀ n,IG a g i b j c d (Al (Kj N F (pz 22369604) []) n)=(C5 N (Hb F) a g i b j c d n):=Eu fun n e=>(DZ (Fv N (Hb F) a g i b j c d) e (ZD fun f h=>(lW ..).trans (Z8 ..)):_)
theorem AA (F:KF R) (a b c):IH a b c (Bh (Kj N F (pz 21845) []))=(Gt N (Hb F) a b c):=(Bp (Jg N (Hb F) a b c) (zp fun g i j d=>(lW ..).trans (Z9 ..)):_)
def K_:=Cw N 69 (Ts N) Qj (fun
 | [(.optr 100000 0),(.pagg c b),(.int .i64 a)],[(100000,⟨false,false,true,false,0,q,false,none⟩)]=>some fun _ k=>(Gi N c b a q (Hb k))
 | _,_=>none) fun _ _=>by split;intro R F;exact(Bp (Ib N (Hb F) · _ _ _ _) ((jW ..).trans (AA ..)):_).trans (Py ..).symm;trivial
def Y3 (N:Nat) (r0:Bool→O R) (b:LA) (a:Nat) (d f:Bool) (c:Int) (k0:Int→O R) (g:Int):O R :=
 (cond (decide (g<(a:Int))) (cond (Af g a) (Ao .i64 (b.drop ((g.toNat)*1)) fun h=>cond (h==c) (r0 true) (k0 (wrap .i64 (g+1)))) none) (r0 false))
def Od (r0:Bool→O R) (b:LA) (a:Nat) (d f:Bool) (c:Int):Nat→Int→O R
 | 0,_=>none
 | n+1,g=>(Y3 N r0 b a d f c (Od r0 b a d f c n) g)
def VX (N:Nat) (r0:Bool→O R) (q0:Int→O R) (b:LA) (a:Nat) (d f:Bool) (c:Int):O R :=
 (q0 0)
def Y4:=(Ag fun N b a d f c r0=>VX (R:=R) N r0 (Od N r0 b a d f c N) b a d f c).1
theorem dS (b a d f c e):(@Y4 R N b a d f c e)=(VX N e (Od N e b a d f c N) b a d f c):=by rw[Y4,(Ag _).2]
def jz:Hints:={ H:=(hK 1 (hS (hK 1 (hS (hP [0,1,5] hL) hL)) hL)) }
def wY (F:KF R):=Ip Tryz.f71 jz [] [] N F
def wZ (b:LA) (a:Nat) (d f:Bool) (c:Int) (K:St→O R):=fun g=>K ⟨[(0,(.imm b a 1 d f)),(1,(iv c)),(5,(iv g))],[]⟩
theorem mg (F:KF R) (b a d f c):∀ n,wZ b a d f c (Al (wY N F (pz 324) []) n)=(Od N (Bq F) b a d f c n):=Eu fun n e=>(Bp (Y3 N (Bq F) b a d f c) e:_)
def NH:=Cw N 71 [] jz (fun
 | [(.imm b a 1 d f),(.int .i64 c)],[]=>some fun _ k=>(Y4 N b a d f c (Bq k))
 | _,_=>none) fun _ _=>by split;intro R F;exact(Bp (VX N (Bq F) · _ _ _ _ _) ((lW ..).trans (mg ..)):_).trans (dS ..).symm;trivial
def Kv (r0:Nat→LA→O R) (b:Int) (c:Bool) (a:LA) (k0:Nat→Int→LA→O R) (d:Nat) (f:Int) (g:LA):O R :=
 (Ba 12 (a.drop 3) fun p h=>cond (decide (f<(h:Int))) (Ba 12 (a.drop 3) fun i j=>cond (Af f j) (Ba 1 ((i.drop ((f.toNat)*12)).drop 11) fun l m=>Y4 N l m false c b fun o=>cond (!o) (cond ((ble (d+1) 140737488355328)&&(ble ((d+1)*8) 140737488355328)) (k0 (d+1) (wrap .i64 (f+1)) ((g.take (d*1))++[(.int .i64 f)])) none) (k0 d (wrap .i64 (f+1)) g)) none) (r0 d g))
def Ek (r0:Nat→LA→O R) (b:Int) (c:Bool) (a:LA):Nat→Nat→Int→LA→O R
 | 0,_,_,_=>none
 | n+1,d,f,g=>(Kv N r0 b c a (Ek r0 b c a n) d f g)
def Pz (N:Nat) (r0:Nat→LA→O R) (q0:Nat→Int→LA→O R) (a:LA) (c:Bool) (b:Int):O R :=
 (q0 0 0 [])
def Hw:=(Ag fun N a c b r0=>Pz (R:=R) N r0 (Ek N r0 b c a N) a c b).1
theorem Y5 (a c b e):(@Hw R N a c b e)=(Pz N e (Ek N e b c a N) a c b):=by rw[Hw,(Ag _).2]
def CB:Hints:={ H:=(hK 2 (hS (hK 1 (hS (hP [1,2,5,6] hL) hL)) hL)),nils:=[(4,1),(5,1)],modes:=[(2,1)] }
def HH:Oi:=[NH N]
def aI (F:KF R):=Ip Tryz.f111 CB (HH N) [] N F
def aJ (b:Int) (c:Bool) (a:LA) (K:St→O R):=fun d f g=>K ⟨[(1,(iv b)),(2,(op 0)),(5,(.own 300001 0 d)),(6,(iv f))],(hq [(bP c 0 a),(bQ 1 g)])⟩
theorem OO (F:KF R) (b c a):∀ n,aJ b c a (Al (aI N F (pz 1348) []) n)=(Ek N (Fi F) b c a n):=Eu fun n e=>(Bp (Kv N (Fi F) b c a) e:_)
def HI:=Cw N 111 (HH N) CB (fun
 | [(.pagg a c),(.int .i64 b)],[]=>some fun _ k=>(Hw N a c b (Fi k))
 | _,_=>none) fun _ _=>by split;intro R F;exact(Bp (Pz N (Fi F) · _ _ _) ((lW ..).trans (OO ..)):_).trans (Y5 ..).symm;trivial
def So (N:Nat) (r0:Nat→Nat→LA→LA→O R) (b:Nat) (c:Bool) (a d:LA) (k0:Nat→Int→Int→LA→O R) (f:Nat) (i g:Int) (j:LA):O R :=
 (cond (decide (g<i)) (cond (Af g b) (Ao .i64 (d.drop (0+((g.toNat)*1))) fun l=>Ba 12 (a.drop 3) fun m o=>cond (Af l o) (Ao .i64 ((m.drop ((l.toNat)*12)).drop 1) fun p=>Ba 12 (a.drop 3) fun q r=>cond (Af l r) (Ao .i64 ((q.drop ((l.toNat)*12)).drop 2) fun s=>cond ((ble (f+1) 140737488355328)&&(ble ((f+1)*16) 140737488355328)) (k0 (f+1) i (wrap .i64 (g+1)) ((j.take (f*2))++[(.int .i64 p),(.int .i64 s)])) none) none) none) none) (r0 f b j d))
def Jh (r0:Nat→Nat→LA→LA→O R) (b:Nat) (c:Bool) (a d:LA):Nat→Nat→Int→Int→LA→O R
 | 0,_,_,_,_=>none
 | n+1,f,i,g,j=>(So N r0 b c a d (Jh r0 b c a d n) f i g j)
def FG (r0:Nat→Nat→LA→LA→O R) (q0:Nat→LA→Nat→Int→Int→LA→O R) (a:LA) (c:Bool) (h:Int):O R :=
 (cond (ble 8 (a.length)) (Hw N (a.take 8) c h fun b d=>q0 b d 0 (b:Int) 0 []) none)
def CC:=(Ag fun N a c h r0=>FG (R:=R) N r0 (fun b d=>Jh N r0 b c a d N) a c h).1
theorem PX (a c h e):(@CC R N a c h e)=(FG N e (fun b d=>Jh N e b c a d N) a c h):=by rw[CC,(Ag _).2]
def VY:Hints:={ H:=(hK 3 (hS (hK 1 (hS (hP [2,6,7,13,14,15] hL) hL)) hL)),nils:=[(4,2),(5,1),(7,2)],modes:=[(2,2),(2,1)] }
def dT:Oi:=[HI N]
def qx (F:KF R):=Ip Tryz.f70 VY (dT N) [] N F
def Vt (F:KF R):Nat→Nat→LA→LA→O R:=(fun t u v w=>F (.tup [(.own 300000 0 t),(.own 300001 0 u)]) (hq [(bQ 2 v),(bQ 1 w)]))
def qy (b:Nat) (c:Bool) (a d:LA) (K:St→O R):=fun f i g j=>K ⟨[(2,(op 0)),(6,(.own 300001 0 b)),(7,(.own 300002 0 f)),(13,(.own 300001 0 b)),(14,(iv i)),(15,(iv g))],(hq [(bP c 0 a),(bQ 1 d),(bQ 2 j)])⟩
theorem fV (F:KF R) (b c a d):∀ n,qy b c a d (Al (qx N F (pz 5444) []) n)=(Jh N (Vt F) b c a d n):=Eu fun n e=>(Bp (So N (Vt F) b c a d) e:_)
def tq:=Cw N 70 (dT N) VY (fun
 | [(.pagg a c),(.int .i64 h)],[]=>some fun _ k=>(CC N a c h (Vt k))
 | _,_=>none) fun _ _=>by split;intro R F;exact(Bp (FG N (Vt F) · _ _ _) (ZD fun b d=>(lW ..).trans (fV ..)):_).trans (PX ..).symm;trivial
def N1 (N:Nat) (k1:Bool→LA→O R) (r0:Nat→LA→O R) (a:LA) (b:Nat) (d c:Bool) (f:Nat) (k2:Bool→Int→Int→LA→O R) (q:Bool) (o h:Int) (i:LA):O R :=
 (cond (decide (h<o)) (cond (Af h b) (cond (ble 2 ((a.drop ((h.toNat)*2)).length)) (cond ((!c)||(Ax ((a.drop ((h.toNat)*2)).take 2))) (cond ((beq (((a.drop ((h.toNat)*2)).take 2).length) 2)&&((ble 2 2)&&(!false))) (Ao .i64 (setCells [(.int .i64 0),(.int .i64 0)] 0 ((a.drop ((h.toNat)*2)).take 2)) fun z=>cond (Af z f) (Ao .i64 (i.drop (0+((z.toNat)*1))) fun j=>Ao .i64 ((setCells [(.int .i64 0),(.int .i64 0)] 0 ((a.drop ((h.toNat)*2)).take 2)).drop 1) fun aa=>cond (Af aa f) (Ao .i64 (i.drop (0+((aa.toNat)*1))) fun l=>cond (q==false) (Ao .i64 (setCells [(.int .i64 0),(.int .i64 0)] 0 ((a.drop ((h.toNat)*2)).take 2)) fun ab=>cond (Af ab f) (Ao .i64 (i.drop (0+((ab.toNat)*1))) fun ad=>cond ((cond false true (ad != (Io j l)))==false) (Ao .i64 ((setCells [(.int .i64 0),(.int .i64 0)] 0 ((a.drop ((h.toNat)*2)).take 2)).drop 1) fun ac=>cond (Af ac f) (Ao .i64 (i.drop (0+((ac.toNat)*1))) fun ae=>Ao .i64 (setCells [(.int .i64 0),(.int .i64 0)] 0 ((a.drop ((h.toNat)*2)).take 2)) fun t=>Ao .i64 ((setCells [(.int .i64 0),(.int .i64 0)] 0 ((a.drop ((h.toNat)*2)).take 2)).drop 1) fun w=>cond (Af t f) (cond ((beq 1 1)&&((ble ((0+((t.toNat)*1))+1) (i.length))&&(!false))) (cond (Af w f) (cond ((beq 1 1)&&((ble ((0+((w.toNat)*1))+1) ((i.set (0+((t.toNat)*1)) (.int .i64 (Io j l))).length))&&(!false))) (k2 (cond false true (ae != (Io j l))) o (wrap .i64 (h+1)) ((i.set (0+((t.toNat)*1)) (.int .i64 (Io j l))).set (0+((w.toNat)*1)) (.int .i64 (Io j l)))) none) none) none) none) none) (Ao .i64 (setCells [(.int .i64 0),(.int .i64 0)] 0 ((a.drop ((h.toNat)*2)).take 2)) fun u=>Ao .i64 ((setCells [(.int .i64 0),(.int .i64 0)] 0 ((a.drop ((h.toNat)*2)).take 2)).drop 1) fun x=>cond (Af u f) (cond ((beq 1 1)&&((ble ((0+((u.toNat)*1))+1) (i.length))&&(!false))) (cond (Af x f) (cond ((beq 1 1)&&((ble ((0+((x.toNat)*1))+1) ((i.set (0+((u.toNat)*1)) (.int .i64 (Io j l))).length))&&(!false))) (k2 true o (wrap .i64 (h+1)) ((i.set (0+((u.toNat)*1)) (.int .i64 (Io j l))).set (0+((x.toNat)*1)) (.int .i64 (Io j l)))) none) none) none) none)) none) (Ao .i64 (setCells [(.int .i64 0),(.int .i64 0)] 0 ((a.drop ((h.toNat)*2)).take 2)) fun v=>Ao .i64 ((setCells [(.int .i64 0),(.int .i64 0)] 0 ((a.drop ((h.toNat)*2)).take 2)).drop 1) fun y=>cond (Af v f) (cond ((beq 1 1)&&((ble ((0+((v.toNat)*1))+1) (i.length))&&(!false))) (cond (Af y f) (cond ((beq 1 1)&&((ble ((0+((y.toNat)*1))+1) ((i.set (0+((v.toNat)*1)) (.int .i64 (Io j l))).length))&&(!false))) (k2 true o (wrap .i64 (h+1)) ((i.set (0+((v.toNat)*1)) (.int .i64 (Io j l))).set (0+((y.toNat)*1)) (.int .i64 (Io j l)))) none) none) none) none)) none) none) none) none) none) none) (k1 q i))
def Gj (k1:Bool→LA→O R) (r0:Nat→LA→O R) (a:LA) (b:Nat) (d c:Bool) (f:Nat):Nat→Bool→Int→Int→LA→O R
 | 0,_,_,_,_=>none
 | n+1,q,o,h,i=>(N1 N k1 r0 a b d c f (Gj k1 r0 a b d c f n) q o h i)
def N2 (N:Nat) (r0:Nat→LA→O R) (a:LA) (b:Nat) (d c:Bool) (f:Nat) (k1:Bool→LA→O R) (q2:Bool→Int→Int→LA→O R) (s:Bool) (r:LA):O R :=
 (cond s (q2 false (b:Int) 0 r) (r0 f r))
def Cq (r0:Nat→LA→O R) (a:LA) (b:Nat) (d c:Bool) (f:Nat):Nat→Bool→LA→O R
 | 0,_,_=>none
 | n+1,s,r=>(N2 N r0 a b d c f (Cq r0 a b d c f n) (Gj N (Cq r0 a b d c f n) r0 a b d c f N) s r)
def N3 (N:Nat) (r0:Nat→LA→O R) (g:Int) (a:LA) (b:Nat) (d c:Bool) (k0:Nat→Int→LA→O R) (q1:Nat→Bool→LA→O R) (f:Nat) (m:Int) (p:LA):O R :=
 (cond (decide (m<g)) (cond (Af m f) (cond ((beq 1 1)&&((ble ((0+((m.toNat)*1))+1) (p.length))&&(!false))) (k0 f (wrap .i64 (m+1)) (p.set (0+((m.toNat)*1)) (.int .i64 m))) none) none) (q1 f true p))
def Gk (r0:Nat→LA→O R) (g:Int) (a:LA) (b:Nat) (d c:Bool):Nat→Nat→Int→LA→O R
 | 0,_,_,_=>none
 | n+1,f,m,p=>(N3 N r0 g a b d c (Gk r0 g a b d c n) (fun f=>Cq N r0 a b d c f N) f m p)
def Vu (N:Nat) (r0:Nat→LA→O R) (q0:Nat→Int→LA→O R) (g:Int) (a:LA) (b:Nat) (d c:Bool):O R :=
 (cond ((decide (0≤g))&&((decide (g≤g))&&((decide (g≤140737488355328))&&(decide ((g*((8:Nat):Int))≤140737488355328))))) (q0 (g.toNat) 0 (replicate (g.toNat) (.int .i64 0))) none)
def Ov:=(Ag fun N g a b d c r0=>Vu (R:=R) N r0 (Gk N r0 g a b d c N) g a b d c).1
theorem HJ (g a b d c e):(@Ov R N g a b d c e)=(Vu N e (Gk N e g a b d c N) g a b d c):=by rw[Ov,(Ag _).2]
def K':Hints:={ H:=(hK 2 (hS (hK 1 (hS (hP [0,1,5,6] hL) hL)) (hS (hK 1 (hS (hP [1,5,7] (hK 1 (hS (hK 2 (hS (hP [1,5,7,23,24,25] hL) hL)) hL))) hL)) hL))),nils:=[(4,1)],modes:=[(2,1)] }
def Xg (F:KF R):=Ip Tryz.f113 K' [] [] N F
def kA (a:LA) (b:Nat) (d c:Bool) (f:Nat) (K:St→O R):=fun q o h i=>K ⟨[(1,(.imm a b 2 d c)),(5,(.own 300000 0 f)),(7,(.bool q)),(23,(.imm a b 2 d c)),(24,(iv o)),(25,(iv h))],(hq [(bQ 1 i)])⟩
def Xh (a:LA) (b:Nat) (d c:Bool) (f:Nat) (K:St→O R):=fun s r=>K ⟨[(1,(.imm a b 2 d c)),(5,(.own 300000 0 f)),(7,(.bool s))],(hq [(bQ 1 r)])⟩
def kC (g:Int) (a:LA) (b:Nat) (d c:Bool) (K:St→O R):=fun f m p=>K ⟨[(0,(iv g)),(1,(.imm a b 2 d c)),(5,(.own 300000 0 f)),(6,(iv m))],(hq [(bQ 1 p)])⟩
theorem VZ (Q1) (F:KF R) (a b d c f):∀ n,kA a b d c f (Al (Xg N F (pz 22298900) [Q1]) n)=(Gj N (Xh a b d c f Q1) (Fi F) a b d c f n):=Eu fun n e=>(Bp (N1 N (Xh a b d c f Q1) (Fi F) a b d c f) e:_)
theorem V_ (F:KF R) (a b d c f):∀ n,Xh a b d c f (Al (Xg N F (pz 5444) []) n)=(Cq N (Fi F) a b d c f n):=Eu fun n e=>(DZ (N2 N (Fi F) a b d c f) e ((lW ..).trans ((VZ ..).trans (ly (Gj _ · _ _ _ _ _ _ _) e))):_)
theorem V' (F:KF R) (g a b d c):∀ n,kC g a b d c (Al (Xg N F (pz 1348) []) n)=(Gk N (Fi F) g a b d c n):=Eu fun n e=>(DZ (N3 N (Fi F) g a b d c) e (eo fun f=>(lW ..).trans (V_ ..)):_)
def mh:=Cw N 113 [] K' (fun
 | [(.int .i64 g),(.imm a b 2 d c)],[]=>some fun _ k=>(Ov N g a b d c (Fi k))
 | _,_=>none) fun _ _=>by split;intro R F;exact(Bp (Vu N (Fi F) · _ _ _ _ _) ((lW ..).trans (V' ..)):_).trans (HJ ..).symm;trivial
def Sp (N:Nat) (r0:Int→O R) (b:LA) (a:Nat) (c d:Bool) (k0:Int→Int→O R) (g f:Int):O R :=
 (cond (decide (f<(a:Int))) (cond (Af f a) (Ao .i64 (b.drop ((f.toNat)*1)) fun h=>cond (h==f) (k0 (wrap .i64 (g+1)) (wrap .i64 (f+1))) (k0 g (wrap .i64 (f+1)))) none) (r0 g))
def Ji (r0:Int→O R) (b:LA) (a:Nat) (c d:Bool):Nat→Int→Int→O R
 | 0,_,_=>none
 | n+1,g,f=>(Sp N r0 b a c d (Ji r0 b a c d n) g f)
def FH (N:Nat) (r0:Int→O R) (q0:Int→Int→O R) (b:LA) (a:Nat) (c d:Bool):O R :=
 (q0 0 0)
def Wc:=(Ag fun N b a c d r0=>FH (R:=R) N r0 (Ji N r0 b a c d N) b a c d).1
theorem PY (b a c d e):(@Wc R N b a c d e)=(FH N e (Ji N e b a c d N) b a c d):=by rw[Wc,(Ag _).2]
def WA:Hints:={ H:=(hK 2 (hS (hK 1 (hS (hP [0,3,4] hL) hL)) hL)) }
def qz (F:KF R):=Ip Tryz.f112 WA [] [] N F
def rA (b:LA) (a:Nat) (c d:Bool) (K:St→O R):=fun g f=>K ⟨[(0,(.imm b a 1 c d)),(3,(iv g)),(4,(iv f))],[]⟩
theorem fW (F:KF R) (b a c d):∀ n,rA b a c d (Al (qz N F (pz 1348) []) n)=(Ji N (Dr F) b a c d n):=Eu fun n e=>(Bp (Sp N (Dr F) b a c d) e:_)
def tt:=Cw N 112 [] WA (fun
 | [(.imm b a 1 c d)],[]=>some fun _ k=>(Wc N b a c d (Dr k))
 | _,_=>none) fun _ _=>by split;intro R F;exact(Bp (FH N (Dr F) · _ _ _ _) ((lW ..).trans (fW ..)):_).trans (PY ..).symm;trivial
def Kw (r0:Bool→O R) (c:Int) (a:LA) (b:Nat) (i d:Bool) (f:LA) (g:Nat) (j h:Bool) (k0:Nat→Int→LA→O R) (m:Nat) (l:Int) (o:LA):O R :=
 (cond (decide (l<(b:Int))) (Y4 N f g false h l fun r=>cond (!r) (cond (Af l b) (cond (ble 2 ((a.drop ((l.toNat)*2)).length)) (cond ((!d)||(Ax ((a.drop ((l.toNat)*2)).take 2))) (cond ((beq (((a.drop ((l.toNat)*2)).take 2).length) 2)&&(ble 2 2)) (cond ((ble (m+1) 140737488355328)&&(ble ((m+1)*16) 140737488355328)) (k0 (m+1) (wrap .i64 (l+1)) ((o.take (m*2))++((setCells [(.int .i64 0),(.int .i64 0)] 0 ((a.drop ((l.toNat)*2)).take 2)).take 2))) none) none) none) none) none) (k0 m (wrap .i64 (l+1)) o)) (Ov N c (o.take (m*2)) m false true fun p s=>Wc N (s.take (p*1)) p false true fun t=>Ov N c a b false d fun q u=>Wc N (u.take (q*1)) q false true fun v=>r0 (decide (t>v))))
def El (r0:Bool→O R) (c:Int) (a:LA) (b:Nat) (i d:Bool) (f:LA) (g:Nat) (j h:Bool):Nat→Nat→Int→LA→O R
 | 0,_,_,_=>none
 | n+1,m,l,o=>(Kw N r0 c a b i d f g j h (El r0 c a b i d f g j h n) m l o)
def P0 (N:Nat) (r0:Bool→O R) (q0:Nat→Int→LA→O R) (c:Int) (a:LA) (b:Nat) (i d:Bool) (f:LA) (g:Nat) (j h:Bool):O R :=
 (q0 0 0 [])
def Nk:=(Ag fun N c a b i d f g j h r0=>P0 (R:=R) N r0 (El N r0 c a b i d f g j h N) c a b i d f g j h).1
theorem Y6 (c a b i d f g j h e):(@Nk R N c a b i d f g j h e)=(P0 N e (El N e c a b i d f g j h N) c a b i d f g j h):=by rw[Nk,(Ag _).2]
def CD:Hints:={ H:=(hK 2 (hS (hK 1 (hS (hP [0,1,2,7,8] hL) hL)) hL)),nils:=[(7,2)] }
def HK:Oi:=[NH N,mh N,tt N]
def aK (F:KF R):=Ip Tryz.f72 CD (HK N) [] N F
def aL (c:Int) (a:LA) (b:Nat) (i d:Bool) (f:LA) (g:Nat) (j h:Bool) (K:St→O R):=fun m l o=>K ⟨[(0,(iv c)),(1,(.imm a b 2 i d)),(2,(.imm f g 1 j h)),(7,(.own 300000 0 m)),(8,(iv l))],(hq [(bQ 2 o)])⟩
theorem OP (F:KF R) (c a b i d f g j h):∀ n,aL c a b i d f g j h (Al (aK N F (pz 1348) []) n)=(El N (Bq F) c a b i d f g j h n):=Eu fun n e=>(Bp (Kw N (Bq F) c a b i d f g j h) e:_)
def fX:=Cw N 72 (HK N) CD (fun
 | [(.int .i64 c),(.imm a b 2 i d),(.imm f g 1 j h)],[]=>some fun _ k=>(Nk N c a b i d f g j h (Bq k))
 | _,_=>none) fun _ _=>by split;intro R F;exact(Bp (P0 N (Bq F) · _ _ _ _ _ _ _ _ _) ((lW ..).trans (OP ..)):_).trans (Y6 ..).symm;trivial
def P1 (k0:Int→LA→O R) (r0:LA→Int→O R) (b:Bool) (a:LA) (j:Int) (aj:LA):O R :=
 (cond (ble 8 (a.length)) (Cg N (a.take 8) b 1 j aj fun ak=>cond (ble 8 (a.length)) (Ba 3 (a.drop 2) fun al am=>cond (Af j am) (Ba 1 ((al.drop ((j.toNat)*3)).drop 1) fun an ao=>Cp N (a.take 8) b an ao false b 0 1048576 1 j 1 ak fun ap=>Ba 3 (a.drop 2) fun aq ar=>cond (Af j ar) (Ao .i64 ((aq.drop ((j.toNat)*3)).drop 2) fun au=>Am N 0 1048576 [(.int .i64 au)] 1 false true fun av=>Aa N av 1 j 2 3 ap fun aw=>k0 (wrap .i64 (j+1)) aw) none) none) none) none)
def P2 (k7:Int→LA→O R) (k9:Int→Int→LA→O R) (r0:LA→Int→O R) (c d:Nat) (b:Bool) (a f g:LA) (k10:Int→Int→Nat→Int→LA→LA→O R) (o l:Int) (i:Nat) (m:Int) (v w:LA):O R :=
 (cond (decide (m<(d:Int))) (Ba 4 (a.drop 7) fun ax ay=>cond (Af l ay) (Ba 1 ((ax.drop ((l.toNat)*4)).drop 1) fun az ba=>cond (Af m d) (Ao .i64 (g.drop (0+((m.toNat)*1))) fun bb=>Y4 N az ba false b bb fun bc=>cond bc (cond ((ble (i+1) 140737488355328)&&(ble ((i+1)*8) 140737488355328)) (k10 o l (i+1) (wrap .i64 (m+1)) v ((w.take (i*1))++[(.int .i64 m)])) none) (k10 o l i (wrap .i64 (m+1)) v w)) none) none) (Ba 3 (a.drop 2) fun ce bd=>Nk N (bd:Int) (f.take (c*2)) c false true (w.take (i*1)) i false true fun be=>Aa N (!be) 6 l o 13 v fun bf=>k9 o (wrap .i64 (l+1)) bf))
def Hx (k7:Int→LA→O R) (k9:Int→Int→LA→O R) (r0:LA→Int→O R) (c d:Nat) (b:Bool) (a f g:LA):Nat→Int→Int→Nat→Int→LA→LA→O R
 | 0,_,_,_,_,_,_=>none
 | n+1,o,l,i,m,v,w=>(P2 N k7 k9 r0 c d b a f g (Hx k7 k9 r0 c d b a f g n) o l i m v w)
def Sq (N:Nat) (k7:Int→LA→O R) (r0:LA→Int→O R) (c d:Nat) (b:Bool) (a f g:LA) (k9:Int→Int→LA→O R) (q10:Int→Int→Nat→Int→LA→LA→O R) (ac ad:Int) (ae:LA):O R :=
 (Ba 4 (a.drop 7) fun cf bg=>cond (decide (ad<(bg:Int))) (q10 ac ad 0 0 ae []) (k7 (wrap .i64 (ac+1)) ae))
def Hh (k7:Int→LA→O R) (r0:LA→Int→O R) (c d:Nat) (b:Bool) (a f g:LA):Nat→Int→Int→LA→O R
 | 0,_,_,_=>none
 | n+1,ac,ad,ae=>(Sq N k7 r0 c d b a f g (Hh k7 r0 c d b a f g n) (Hx N k7 (Hh k7 r0 c d b a f g n) r0 c d b a f g N) ac ad ae)
def AB (k7:Int→LA→O R) (r0:LA→Int→O R) (b:Bool) (a:LA) (q9:Nat→Nat→LA→LA→Int→Int→LA→O R) (af:Int) (ai:LA):O R :=
 (cond (ble 8 (a.length)) (CC N (a.take 8) b af fun c d f g=>q9 c d f g af 0 ai) none)
def Vv (k7:Int→LA→O R) (r0:LA→Int→O R) (b:Bool) (a:LA) (af:Int) (ai:LA):O R:=(AB N k7 r0 b a (fun c d f g=>Hh N k7 r0 c d b a f g N) af ai)
def Nl (N:Nat) (r0:LA→Int→O R) (b:Bool) (a:LA) (k7:Int→LA→O R) (q8:Int→LA→O R) (ag:Int) (h:LA):O R :=
 (Ao .i64 a fun bh=>cond ((decide (ag<bh))==true) (Ao .i64 (h.drop 3) fun bi=>cond (cond true (bi==0) false) (q8 ag h) (cond (ble 3 (h.length)) (Ao .i64 (h.drop 3) fun bj=>cond ((beq ((h.take 3).length) 3)&&((ble 3 3)&&(!false))) (cond (ble 3 ((setCells [(.int .i64 0),(.int .i64 0),(.int .i64 0)] 0 (h.take 3)).length)) (r0 ((setCells [(.int .i64 0),(.int .i64 0),(.int .i64 0)] 0 (h.take 3)).take 3) bj) none) none) none)) (cond (ble 3 (h.length)) (Ao .i64 (h.drop 3) fun bk=>cond ((beq ((h.take 3).length) 3)&&((ble 3 3)&&(!false))) (cond (ble 3 ((setCells [(.int .i64 0),(.int .i64 0),(.int .i64 0)] 0 (h.take 3)).length)) (r0 ((setCells [(.int .i64 0),(.int .i64 0),(.int .i64 0)] 0 (h.take 3)).take 3) bk) none) none) none))
def Db (r0:LA→Int→O R) (b:Bool) (a:LA):Nat→Int→LA→O R
 | 0,_,_=>none
 | n+1,ag,h=>(Nl N r0 b a (Db r0 b a n) (Vv N (Db r0 b a n) r0 b a) ag h)
def Sr (r0:LA→Int→O R) (b:Bool) (a:LA) (k6:Int→LA→O R) (q7:Int→LA→O R) (x:Int) (p:LA):O R :=
 (Ba 4 (a.drop 7) fun cg bl=>cond ((decide (x<(bl:Int)))==true) (Ao .i64 (p.drop 3) fun bm=>cond (cond true (bm==0) false) (cond (ble 8 (a.length)) (Gi N (a.take 8) b x p fun bn=>k6 (wrap .i64 (x+1)) bn) none) (q7 0 p)) (q7 0 p))
def Jj (r0:LA→Int→O R) (b:Bool) (a:LA):Nat→Int→LA→O R
 | 0,_,_=>none
 | n+1,x,p=>(Sr N r0 b a (Jj r0 b a n) (Db N r0 b a N) x p)
def Ss (r0:LA→Int→O R) (b:Bool) (a:LA) (k5:Int→LA→O R) (q6:Int→LA→O R) (y:Int) (q:LA):O R :=
 (Ba 5 (a.drop 6) fun ch bo=>cond ((decide (y<(bo:Int)))==true) (Ao .i64 (q.drop 3) fun bp=>cond (cond true (bp==0) false) (cond (ble 8 (a.length)) (N0 N (a.take 8) b y q fun bq=>k5 (wrap .i64 (y+1)) bq) none) (q6 0 q)) (q6 0 q))
def Jk (r0:LA→Int→O R) (b:Bool) (a:LA):Nat→Int→LA→O R
 | 0,_,_=>none
 | n+1,y,q=>(Ss N r0 b a (Jk r0 b a n) (Jj N r0 b a N) y q)
def Su (r0:LA→Int→O R) (b:Bool) (a:LA) (k4:Int→LA→O R) (q5:Int→LA→O R) (z:Int) (r:LA):O R :=
 (Ba 9 (a.drop 5) fun ci br=>cond ((decide (z<(br:Int)))==true) (Ao .i64 (r.drop 3) fun bs=>cond (cond true (bs==0) false) (cond (ble 8 (a.length)) (Ku N (a.take 8) b z r fun bt=>k4 (wrap .i64 (z+1)) bt) none) (q5 0 r)) (q5 0 r))
def Jl (r0:LA→Int→O R) (b:Bool) (a:LA):Nat→Int→LA→O R
 | 0,_,_=>none
 | n+1,z,r=>(Su N r0 b a (Jl r0 b a n) (Jk N r0 b a N) z r)
def Sv (r0:LA→Int→O R) (b:Bool) (a:LA) (k3:Int→LA→O R) (q4:Int→LA→O R) (aa:Int) (s:LA):O R :=
 (Ba 22 (a.drop 4) fun cj bu=>cond ((decide (aa<(bu:Int)))==true) (Ao .i64 (s.drop 3) fun bv=>cond (cond true (bv==0) false) (cond (ble 8 (a.length)) (Ik N (a.take 8) b aa s fun bw=>k3 (wrap .i64 (aa+1)) bw) none) (q4 0 s)) (q4 0 s))
def Jm (r0:LA→Int→O R) (b:Bool) (a:LA):Nat→Int→LA→O R
 | 0,_,_=>none
 | n+1,aa,s=>(Sv N r0 b a (Jm r0 b a n) (Jl N r0 b a N) aa s)
def Sw (r0:LA→Int→O R) (b:Bool) (a:LA) (k2:Int→LA→O R) (q3:Int→LA→O R) (ab:Int) (t:LA):O R :=
 (Ba 12 (a.drop 3) fun ck bx=>cond ((decide (ab<(bx:Int)))==true) (Ao .i64 (t.drop 3) fun bz=>cond (cond true (bz==0) false) (cond (ble 8 (a.length)) (Ii N (a.take 8) b ab t fun ca=>k2 (wrap .i64 (ab+1)) ca) none) (q3 0 t)) (q3 0 t))
def Jn (r0:LA→Int→O R) (b:Bool) (a:LA):Nat→Int→LA→O R
 | 0,_,_=>none
 | n+1,ab,t=>(Sw N r0 b a (Jn r0 b a n) (Jm N r0 b a N) ab t)
def Sx (N:Nat) (r0:LA→Int→O R) (b:Bool) (a:LA) (k0:Int→LA→O R) (q1:Int→LA→O R) (q2:Int→LA→O R) (ah:Int) (u:LA):O R :=
 (Ba 3 (a.drop 2) fun cl cb=>cond ((decide (ah<(cb:Int)))==true) (Ao .i64 (u.drop 3) fun cc=>cond (cond true (cc==0) false) (q1 ah u) (q2 0 u)) (q2 0 u))
def Hi (r0:LA→Int→O R) (b:Bool) (a:LA):Nat→Int→LA→O R
 | 0,_,_=>none
 | n+1,ah,u=>(Sx N r0 b a (Hi r0 b a n) (P1 N (Hi r0 b a n) r0 b a) (Jn N r0 b a N) ah u)
def FI (r0:LA→Int→O R) (q0:Int→LA→O R) (a:LA) (b:Bool):O R :=
 (cond (ble 8 (a.length)) (Hf N (a.take 8) b [(.int .i64 0),(.int .i64 0),(.int .i64 0),(.int .i64 0)] fun cd=>q0 0 cd) none)
def Rg:=(Ag fun N a b r0=>FI (R:=R) N r0 (Hi N r0 b a N) a b).1
theorem PZ (a b e):(@Rg R N a b e)=(FI N e (Hi N e b a N) a b):=by rw[Rg,(Ag _).2]
def WB:Hints:={ H:=(hK 3 (hS (hK 1 (hS (hP [1,2,4,5] (hJ [1,2,4,5] hL hL)) hL)) (hS (hK 1 (hS (hP [1,2,4,6] hL) hL)) (hS (hK 1 (hS (hP [1,2,4,7] hL) hL)) (hS (hK 1 (hS (hP [1,2,4,8] hL) hL)) (hS (hK 1 (hS (hP [1,2,4,9] hL) hL)) (hS (hK 1 (hS (hP [1,2,4,10] hL) hL)) (hS (hK 1 (hS (hP [1,2,4,11] (hJ [1,2,4,11] hL (hS (hS (hK 2 (hS (hP [1,2,4,11,12,13,14] (hK 1 (hS (hS (hK 1 (hS (hK 1 (hS (hP [1,2,4,11,12,13,14,15,16] hL) hL)) hL)) hL) hL))) hL)) hL) hL))) hL)) hL)))))))),nils:=[(15,1)],modes:=[(3,0),(0,0)] }
def dU:Oi:=[OF N,Ej N,Lj N,C9 N,Bk N,RL N,RM N,ON N,VW N,K_ N,tq N,NH N,fX N]
def Dv (F:KF R):=Ip Tryz.f35 WB (dU N) [] N F
def rB (b:Bool) (a:LA) (K:St→O R):=fun j aj=>K ⟨[(1,(op 0)),(2,(op 1)),(4,(op 2)),(5,(iv j))],(hq [(bP b 0 a),(bQ 0 [(iv 0),(iv 0),(iv 0)]),(bQ 0 aj)])⟩
def mj (c d:Nat) (b:Bool) (a f g:LA) (K:St→O R):=fun o l i m v w=>K ⟨[(1,(op 0)),(2,(op 1)),(4,(op 2)),(11,(iv o)),(12,(.own 300003 0 c)),(13,(.own 300004 0 d)),(14,(iv l)),(15,(.own 300005 0 i)),(16,(iv m))],(hq [(bP b 0 a),(bQ 0 [(iv 0),(iv 0),(iv 0)]),(bQ 0 v),(bQ 2 f),(bQ 1 g),(bQ 1 w)])⟩
def FJ (c d:Nat) (b:Bool) (a f g:LA) (K:St→O R):=fun ac ad ae=>K ⟨[(1,(op 0)),(2,(op 1)),(4,(op 2)),(11,(iv ac)),(12,(.own 300003 0 c)),(13,(.own 300004 0 d)),(14,(iv ad))],(hq [(bP b 0 a),(bQ 0 [(iv 0),(iv 0),(iv 0)]),(bQ 0 ae),(bQ 2 f),(bQ 1 g)])⟩
def rC (b:Bool) (a:LA) (K:St→O R):=fun af ai=>K ⟨[(1,(op 0)),(2,(op 1)),(4,(op 2)),(11,(iv af))],(hq [(bP b 0 a),(bQ 0 [(iv 0),(iv 0),(iv 0)]),(bQ 0 ai)])⟩
def Jo (b:Bool) (a:LA) (K:St→O R):=fun ag h=>K ⟨[(1,(op 0)),(2,(op 1)),(4,(op 2)),(11,(iv ag))],(hq [(bP b 0 a),(bQ 0 [(iv 0),(iv 0),(iv 0)]),(bQ 0 h)])⟩
def rD (b:Bool) (a:LA) (K:St→O R):=fun x p=>K ⟨[(1,(op 0)),(2,(op 1)),(4,(op 2)),(10,(iv x))],(hq [(bP b 0 a),(bQ 0 [(iv 0),(iv 0),(iv 0)]),(bQ 0 p)])⟩
def rE (b:Bool) (a:LA) (K:St→O R):=fun y q=>K ⟨[(1,(op 0)),(2,(op 1)),(4,(op 2)),(9,(iv y))],(hq [(bP b 0 a),(bQ 0 [(iv 0),(iv 0),(iv 0)]),(bQ 0 q)])⟩
def rF (b:Bool) (a:LA) (K:St→O R):=fun z r=>K ⟨[(1,(op 0)),(2,(op 1)),(4,(op 2)),(8,(iv z))],(hq [(bP b 0 a),(bQ 0 [(iv 0),(iv 0),(iv 0)]),(bQ 0 r)])⟩
def rG (b:Bool) (a:LA) (K:St→O R):=fun aa s=>K ⟨[(1,(op 0)),(2,(op 1)),(4,(op 2)),(7,(iv aa))],(hq [(bP b 0 a),(bQ 0 [(iv 0),(iv 0),(iv 0)]),(bQ 0 s)])⟩
def rH (b:Bool) (a:LA) (K:St→O R):=fun ab t=>K ⟨[(1,(op 0)),(2,(op 1)),(4,(op 2)),(6,(iv ab))],(hq [(bP b 0 a),(bQ 0 [(iv 0),(iv 0),(iv 0)]),(bQ 0 t)])⟩
def WC (b:Bool) (a:LA) (K:St→O R):=fun ah u=>K ⟨[(1,(op 0)),(2,(op 1)),(4,(op 2)),(5,(iv ah))],(hq [(bP b 0 a),(bQ 0 [(iv 0),(iv 0),(iv 0)]),(bQ 0 u)])⟩
theorem fY (Q0) (F:KF R) (b a):rB b a (Bh (Dv N F (pz 87105) [Q0]))=(P1 N (WC b a Q0) (Q3 F) b a):=by kernel_rfl
theorem aM (Q7 Q9) (F:KF R) (c d b a f g):∀ n,mj c d b a f g (Al (Dv N F (pz 24019179469541444) [Q7,Q9]) n)=(Hx N (Jo b a Q7) (FJ c d b a f g Q9) (Q3 F) c d b a f g n):=Eu fun n e=>(Bp (P2 N (Jo b a Q7) (FJ c d b a f g Q9) (Q3 F) c d b a f g) e:_)
theorem fZ (Q7) (F:KF R) (c d b a f g):∀ n,FJ c d b a f g (Al (Dv N F (pz 366503592980) [Q7]) n)=(Hh N (Jo b a Q7) (Q3 F) c d b a f g n):=Eu fun n e=>(DZ (Sq N (Jo b a Q7) (Q3 F) c d b a f g) e ((lW ..).trans ((aM ..).trans (ly (Hx _ _ · _ _ _ _ _ _ _ _) e))):_)
theorem f3 (Q7) (F:KF R) (b a):rC b a (Bh (Dv N F (pz 357913665) [Q7]))=(Vv N (Jo b a Q7) (Q3 F) b a):=(Bp (AB N (Jo b a Q7) (Q3 F) b a) (zp fun c d f g=>(lW ..).trans (fZ ..)):_)
theorem f4 (F:KF R) (b a):∀ n,Jo b a (Al (Dv N F (pz 22369604) []) n)=(Db N (Q3 F) b a n):=Eu fun n e=>(DZ (Nl N (Q3 F) b a) e ((jW ..).trans ((f3 ..).trans (ly (Vv _ · _ _ _) e))):_)
theorem f7 (F:KF R) (b a):∀ n,rD b a (Al (Dv N F (pz 5592388) []) n)=(Jj N (Q3 F) b a n):=Eu fun n e=>(DZ (Sr N (Q3 F) b a) e ((lW ..).trans (f4 ..)):_)
theorem f8 (F:KF R) (b a):∀ n,rE b a (Al (Dv N F (pz 1398084) []) n)=(Jk N (Q3 F) b a n):=Eu fun n e=>(DZ (Ss N (Q3 F) b a) e ((lW ..).trans (f7 ..)):_)
theorem f_ (F:KF R) (b a):∀ n,rF b a (Al (Dv N F (pz 349508) []) n)=(Jl N (Q3 F) b a n):=Eu fun n e=>(DZ (Su N (Q3 F) b a) e ((lW ..).trans (f8 ..)):_)
theorem fa (F:KF R) (b a):∀ n,rG b a (Al (Dv N F (pz 87364) []) n)=(Jm N (Q3 F) b a n):=Eu fun n e=>(DZ (Sv N (Q3 F) b a) e ((lW ..).trans (f_ ..)):_)
theorem fb (F:KF R) (b a):∀ n,rH b a (Al (Dv N F (pz 21828) []) n)=(Jn N (Q3 F) b a n):=Eu fun n e=>(DZ (Sw N (Q3 F) b a) e ((lW ..).trans (fa ..)):_)
theorem fc (F:KF R) (b a):∀ n,WC b a (Al (Dv N F (pz 5444) []) n)=(Hi N (Q3 F) b a n):=Eu fun n e=>(Ajz (Sx N (Q3 F) b a) e ((jW ..).trans ((fY ..).trans (ly (P1 _ · _ _ _) e))) ((lW ..).trans (fb ..)):_)
def LB:=Cw N 35 (dU N) WB (fun
 | [(.pagg a b)],[]=>some fun _ k=>(Rg N a b (Q3 k))
 | _,_=>none) fun _ _=>by split;intro R F;exact(Bp (FI N (Q3 F) · _ _) ((lW ..).trans (fc ..)):_).trans (PZ ..).symm;trivial
def P3 (r0:Bool→O R) (a:LA) (b:Nat) (f d:Bool) (k0:Int→O R) (c:Int):O R :=
 (cond (decide (c<(b:Int))) (cond (Af c b) (Ao .i64 (a.drop ((c.toNat)*4)) fun g=>cond ((decide (g<0))==false) (cond (Af c b) (Ao .i64 (a.drop ((c.toNat)*4)) fun h=>cond ((cond false true (decide (h≥16384)))==false) (cond ((decide (c>0))==true) (cond (Af (wrap .i64 (c - 1)) b) (Ao .i64 (a.drop (((wrap .i64 (c - 1)).toNat)*4)) fun i=>cond (Af c b) (Ao .i64 (a.drop ((c.toNat)*4)) fun j=>cond ((cond false true (cond true (decide (i≥j)) false))==false) (cond (Af c b) (cond (ble 3 (((a.drop ((c.toNat)*4)).drop 1).length)) (JP N (((a.drop ((c.toNat)*4)).drop 1).take 3) d fun l=>cond (cond false true (l==0)) (r0 false) (k0 (wrap .i64 (c+1)))) none) none) (r0 false)) none) none) (cond (Af c b) (cond (ble 3 (((a.drop ((c.toNat)*4)).drop 1).length)) (JP N (((a.drop ((c.toNat)*4)).drop 1).take 3) d fun m=>cond (cond false true (m==0)) (r0 false) (k0 (wrap .i64 (c+1)))) none) none)) (r0 false)) none) (r0 false)) none) (r0 true))
def Hy (r0:Bool→O R) (a:LA) (b:Nat) (f d:Bool):Nat→Int→O R
 | 0,_=>none
 | n+1,c=>(P3 N r0 a b f d (Hy r0 a b f d n) c)
def Y7 (N:Nat) (r0:Bool→O R) (q0:Int→O R) (a:LA) (b:Nat) (f d:Bool):O R :=
 (q0 0)
def Xi:=(Ag fun N a b f d r0=>Y7 (R:=R) N r0 (Hy N r0 a b f d N) a b f d).1
theorem LC (a b f d e):(@Xi R N a b f d e)=(Y7 N e (Hy N e a b f d N) a b f d):=by rw[Xi,(Ag _).2]
def WD:Oi:=[vg N]
def mo (F:KF R):=Ip Tryz.f101 cL (WD N) [] N F
def mq (a:LA) (b:Nat) (f d:Bool) (K:St→O R):=fun c=>K ⟨[(0,(.imm a b 4 f d)),(3,(iv c))],[]⟩
theorem aN (F:KF R) (a b f d):∀ n,mq a b f d (Al (mo N F (pz 324) []) n)=(Hy N (Bq F) a b f d n):=Eu fun n e=>(Bp (P3 N (Bq F) a b f d) e:_)
def rI:=Cw N 101 (WD N) cL (fun
 | [(.imm a b 4 f d)],[]=>some fun _ k=>(Xi N a b f d (Bq k))
 | _,_=>none) fun _ _=>by split;intro R F;exact(Bp (Y7 N (Bq F) · _ _ _ _) ((lW ..).trans (aN ..)):_).trans (LC ..).symm;trivial
def Lp (r0:Bool→O R) (e f:Bool) (g:Int) (d:Bool) (b:LA) (c:Bool) (a:LA) (h:Bool):O R :=
 (cond h (Ao .i64 (a.drop 1) fun l=>cond ((l==0)==true) (Ao .i64 (a.drop 2) fun m=>cond ((cond true (m==0) false)==true) (Ao .i64 (a.drop 3) fun n=>cond ((cond true (n==0) false)==true) (Ba 4 (a.drop 4) fun o p=>Xi N o p false c fun q=>r0 (cond true q false)) (r0 false)) (r0 false)) (r0 false)) (cond (g==3) (cond (e==true) (Ao .i64 (a.drop 2) fun r=>cond ((cond true (r==0) false)==true) (Ao .i64 (a.drop 3) fun s=>cond ((cond true (s==0) false)==true) (Ba 4 (a.drop 4) fun ah t=>r0 (cond true ((t:Int)==0) false)) (r0 false)) (r0 false)) (r0 false)) (cond (g==4) (cond (e==true) (cond ((cond true f false)==true) (Ao .i64 (a.drop 3) fun u=>cond ((cond true (decide (u≥0)) false)==true) (Ao .i64 (a.drop 3) fun v=>Ba 22 (b.drop 4) fun ai w=>cond ((cond true (decide (v<(w:Int))) false)==true) (Ba 4 (a.drop 4) fun aj x=>r0 (cond true ((x:Int)==0) false)) (r0 false)) (r0 false)) (r0 false)) (r0 false)) (r0 false))))
def FK (N:Nat) (r0:Bool→O R) (d:Bool) (b:LA) (c:Bool) (a:LA) (q1:Bool→Bool→Int→Bool→O R) (e f:Bool):O R :=
 (Ao .i64 a fun g=>cond (g==0) (cond (e==true) (cond ((cond true f false)==true) (Ao .i64 (a.drop 3) fun y=>cond ((cond true (y==0) false)==true) (Ba 4 (a.drop 4) fun ak z=>r0 (cond true ((z:Int)==0) false)) (r0 false)) (r0 false)) (r0 false)) (cond (g==1) (q1 e f g (g==1)) (q1 e f g (g==2))))
def Hj (r0:Bool→O R) (d:Bool) (b:LA) (c:Bool) (a:LA) (e f:Bool):O R:=(FK N r0 d b c a (fun e f g=>Lp N r0 e f g d b c a) e f)
def NI (N:Nat) (r0:Bool→O R) (q0:Bool→Bool→O R) (b:LA) (d:Bool) (a:LA) (c:Bool):O R :=
 (Ao .i64 (a.drop 1) fun aa=>cond ((decide (aa≥0))==true) (Ao .i64 (a.drop 1) fun i=>Ba 22 (b.drop 4) fun al j=>Ao .i64 (a.drop 2) fun ab=>cond ((decide (ab≥0))==true) (Ao .i64 (a.drop 2) fun ac=>Ao .i64 b fun ad=>q0 (cond true (decide (i<(j:Int))) false) (cond true (decide (ac<ad)) false)) (q0 (cond true (decide (i<(j:Int))) false) false)) (Ao .i64 (a.drop 2) fun ae=>cond ((decide (ae≥0))==true) (Ao .i64 (a.drop 2) fun af=>Ao .i64 b fun ag=>q0 false (cond true (decide (af<ag)) false)) (q0 false false)))
def LD:=(Ag fun N b d a c r0=>NI (R:=R) N r0 (Hj N r0 d b c a) b d a c).1
theorem WE (b d a c e):(@LD R N b d a c e)=(NI N e (Hj N e d b c a) b d a c):=by rw[LD,(Ag _).2]
def dV:Hints:={ H:=(hK 1 (hJ [2,3,5,6] hL (hS (hK 1 (hS (hK 2 (hJ [2,3,5,6,29,47] hL hL)) hL)) hL))) }
def kD:Oi:=[rI N]
def dW (F:KF R):=Ip Tryz.f53 dV (kD N) [] N F
def tu (e f:Bool) (g:Int) (d:Bool) (b:LA) (c:Bool) (a:LA) (K:St→O R):=fun h=>K ⟨[(2,(op 0)),(3,(op 1)),(5,(.bool e)),(6,(.bool f)),(29,(iv g)),(47,(.bool h))],(hq [(bP d 0 b),(bP c 0 a)])⟩
def tv (d:Bool) (b:LA) (c:Bool) (a:LA) (K:St→O R):=fun e f=>K ⟨[(2,(op 0)),(3,(op 1)),(5,(.bool e)),(6,(.bool f))],(hq [(bP d 0 b),(bP c 0 a)])⟩
theorem kE (F:KF R) (e f g d b c a):tu e f g d b c a (Bh (dW N F (pz 86293) []))=(Lp N (Bq F) e f g d b c a):=by kernel_rfl
theorem kF (F:KF R) (d b c a):tv d b c a (Bh (dW N F (pz 21) []))=(Hj N (Bq F) d b c a):=(Bp (FK N (Bq F) d b c a) (Afz fun e f g=>(jW ..).trans (kE ..)):_)
def w8:=Cw N 53 (kD N) dV (fun
 | [(.pagg b d),(.pagg a c)],[]=>some fun _ k=>(LD N b d a c (Bq k))
 | _,_=>none) fun _ _=>by split;intro R F;exact(Bp (NI N (Bq F) · _ _ _ _) ((jW ..).trans (kF ..)):_).trans (WE ..).symm;trivial
def Sy (r0:Int→O R) (c:Bool) (b:LA) (d:Bool) (a:LA) (k1:Int→O R) (f:Int):O R :=
 (Ba 5 (a.drop 2) fun v i=>cond (decide (f<(i:Int))) (cond (ble 8 (b.length)) (Ba 5 (a.drop 2) fun g j=>cond (Af f j) (cond (ble 5 ((g.drop ((f.toNat)*5)).length)) (LD N (b.take 8) c ((g.drop ((f.toNat)*5)).take 5) d fun l=>cond (!l) (r0 73) (k1 (wrap .i64 (f+1)))) none) none) none) (Ba 5 (a.drop 2) fun w m=>cond (((m:Int)==0)==false) (Ba 5 (a.drop 2) fun o p=>VT N o p false d 0 fun q=>Ba 5 (a.drop 2) fun x r=>cond (cond false true (q != (r:Int))) (r0 73) (r0 0)) (r0 73)))
def Ml (r0:Int→O R) (c:Bool) (b:LA) (d:Bool) (a:LA):Nat→Int→O R
 | 0,_=>none
 | n+1,f=>(Sy N r0 c b d a (Ml r0 c b d a n) f)
def AC (N:Nat) (r0:Int→O R) (c:Bool) (b:LA) (d:Bool) (a:LA) (q1:Int→O R):O R :=
 (q1 0)
def P4 (r0:Int→O R) (c:Bool) (b:LA) (d:Bool) (a:LA):O R:=(AC N r0 c b d a (Ml N r0 c b d a N))
def FL (r0:Int→O R) (q0:O R) (b:LA) (c:Bool) (a:LA) (d:Bool):O R :=
 (cond (ble 8 (b.length)) (Rg N (b.take 8) c fun s h=>cond ((beq (s.length) 3)&&((ble 3 3)&&(!false))) (cond (h != 0) (r0 h) (Ba 6 (a.drop 1) fun y t=>cond ((decide ((t:Int)>256))==false) (Ba 5 (a.drop 2) fun z u=>cond (cond false true (decide ((u:Int)>4096))) (r0 8) q0) (r0 8))) none) none)
def Mm:=(Ag fun N b c a d r0=>FL (R:=R) N r0 (P4 N r0 c b d a) b c a d).1
theorem P_ (b c a d e):(@Mm R N b c a d e)=(FL N e (P4 N e c b d a) b c a d):=by rw[Mm,(Ag _).2]
def WF:Hints:={ H:=(hK 2 (hJ [2,3] hL (hS (hK 1 (hS (hP [2,3,7] hL) hL)) hL))) }
def dX:Oi:=[LB N,w8 N,oY N]
def WG (F:KF R):=Ip Tryz.f21 WF (dX N) [] N F
def rJ (c:Bool) (b:LA) (d:Bool) (a:LA) (K:St→O R):=fun f=>K ⟨[(2,(op 0)),(3,(op 1)),(7,(iv f))],(hq [(bP c 0 b),(bP d 0 a)])⟩
def rK (c:Bool) (b:LA) (d:Bool) (a:LA) (K:St→O R):=K ⟨[(2,(op 0)),(3,(op 1))],(hq [(bP c 0 b),(bP d 0 a)])⟩
theorem fe (F:KF R) (c b d a):∀ n,rJ c b d a (Al (WG N F (pz 5444) []) n)=(Ml N (Dr F) c b d a n):=Eu fun n e=>(Bp (Sy N (Dr F) c b d a) e:_)
theorem ff (F:KF R) (c b d a):rK c b d a (Bh (WG N F (pz 85) []))=(P4 N (Dr F) c b d a):=(Bp (AC N (Dr F) c b d a) ((lW ..).trans (fe ..)):_)
def Y8:=Cw N 21 (dX N) WF (fun
 | [(.pagg b c),(.pagg a d)],[]=>some fun _ k=>(Mm N b c a d (Dr k))
 | _,_=>none) fun _ _=>by split;intro R F;exact(Bp (FL N (Dr F) · _ _ _ _) ((jW ..).trans (ff ..)):_).trans (P_ ..).symm;trivial
def FM (k0:Nat→Int→LA→O R) (r0:Nat→LA→O R) (a:Int) (b:Bool) (c:LA) (k1:Nat→Int→Int→Int→LA→LA→O R) (f:Nat) (j l g:Int) (h i:LA):O R :=
 (cond (decide (g≤2)) (Ba 5 (c.drop 2) fun r s=>VT N r s false b l fun q=>cond (decide (a<q)) (Ao .i64 (i.drop 1) fun t=>Ao .i64 (i.drop 2) fun u=>cond ((ble (f+1) 140737488355328)&&(ble ((f+1)*24) 140737488355328)) (k0 (f+1) l ((h.take (f*3))++[(.int .i64 t),(.int .i64 u),(.int .i64 g)])) none) (k1 f j q (wrap .i64 (g+1)) h i)) (k0 f j h))
def Hk (k0:Nat→Int→LA→O R) (r0:Nat→LA→O R) (a:Int) (b:Bool) (c:LA):Nat→Nat→Int→Int→Int→LA→LA→O R
 | 0,_,_,_,_,_,_=>none
 | n+1,f,j,l,g,h,i=>(FM N k0 r0 a b c (Hk k0 r0 a b c n) f j l g h i)
def Vw (N:Nat) (r0:Nat→LA→O R) (a:Int) (b:Bool) (c:LA) (k0:Nat→Int→LA→O R) (q1:Nat→Int→Int→Int→LA→LA→O R) (m:Nat) (d:Int) (o:LA):O R :=
 (cond (d != a) (Ba 5 (c.drop 2) fun p v=>cond (Af d v) (cond (ble 5 ((p.drop ((d.toNat)*5)).length)) (cond ((beq 0 0)&&((beq (((p.drop ((d.toNat)*5)).take 5).length) 5)&&(beq 5 5))) (q1 m d (wrap .i64 (d+1)) 0 o ((p.drop ((d.toNat)*5)).take 5)) none) none) none) (r0 m o))
def Hl (r0:Nat→LA→O R) (a:Int) (b:Bool) (c:LA):Nat→Nat→Int→LA→O R
 | 0,_,_,_=>none
 | n+1,m,d,o=>(Vw N r0 a b c (Hl r0 a b c n) (Hk N (Hl r0 a b c n) r0 a b c N) m d o)
def NJ (N:Nat) (r0:Nat→LA→O R) (q0:Nat→Int→LA→O R) (c:LA) (b:Bool) (a:Int):O R :=
 (q0 0 0 [])
def CE:=(Ag fun N c b a r0=>NJ (R:=R) N r0 (Hl N r0 a b c N) c b a).1
theorem WH (c b a e):(@CE R N c b a e)=(NJ N e (Hl N e a b c N) c b a):=by rw[CE,(Ag _).2]
def dY:Hints:={ H:=(hK 3 (hS (hS (hP [1,2,5,6] (hK 1 (hS (hK 3 (hS (hP [1,2,5,6,7,8,9] hL) hL)) hL))) hL) hL)),nils:=[(4,3),(5,3)],modes:=[(2,3)] }
def kG:Oi:=[oY N]
def dZ (F:KF R):=Ip Tryz.f89 dY (kG N) [] N F
def Ow (F:KF R):Nat→LA→O R:=(fun w x=>F (.own 300000 0 w) (hq [(bQ 3 x)]))
def tz (a:Int) (b:Bool) (c:LA) (K:St→O R):=fun f j l g h i=>K ⟨[(1,(iv a)),(2,(op 0)),(5,(.own 300001 0 f)),(6,(iv j)),(7,(op 2)),(8,(iv l)),(9,(iv g))],(hq [(bP b 0 c),(bQ 3 h),(bP b 0 i)])⟩
def LE (a:Int) (b:Bool) (c:LA) (K:St→O R):=fun m d o=>K ⟨[(1,(iv a)),(2,(op 0)),(5,(.own 300001 0 m)),(6,(iv d))],(hq [(bP b 0 c),(bQ 3 o)])⟩
theorem kH (Q0) (F:KF R) (a b c):∀ n,tz a b c (Al (dZ N F (pz 22283348) [Q0]) n)=(Hk N (LE a b c Q0) (Ow F) a b c n):=Eu fun n e=>(Bp (FM N (LE a b c Q0) (Ow F) a b c) e:_)
theorem kI (F:KF R) (a b c):∀ n,LE a b c (Al (dZ N F (pz 1360) []) n)=(Hl N (Ow F) a b c n):=Eu fun n e=>(DZ (Vw N (Ow F) a b c) e ((lW ..).trans ((kH ..).trans (ly (Hk _ · _ _ _ _ _) e))):_)
def w9:=Cw N 89 (kG N) dY (fun
 | [(.pagg c b),(.int .i64 a)],[]=>some fun _ k=>(CE N c b a (Ow k))
 | _,_=>none) fun _ _=>by split;intro R F;exact(Bp (NJ N (Ow F) · _ _ _) ((lW ..).trans (kI ..)):_).trans (WH ..).symm;trivial
def RN (c:LA) (e:Bool) (a:LA) (d:Bool) (b:Int) (r0:Nat→Int→LA→O R):O R :=
 (cond (ble 8 (c.length)) (cond (ble 3 (a.length)) (Mm N (c.take 8) e (a.take 3) d fun f=>cond (f != 0) (r0 0 f []) (cond ((decide (b<0))==false) (Ba 5 (a.drop 2) fun j g=>cond (cond false true (decide (b≥(g:Int)))) (r0 0 12 []) (cond (ble 3 (a.length)) (CE N (a.take 3) d b fun h i=>r0 h 0 i) none)) (r0 0 12 []))) none) none)
def NK:=(Ag (@RN R)).1
theorem QA:@NK R=@RN R:=(Ag _).2
def uA:=Cw N 48 [Y8 N,w9 N] { H:=hL,nils:=[(6,3)],modes:=[(2,3),(0,0)] } (fun
 | [(.pagg c e),(.pagg a d),(.int .i64 b)],[]=>some fun _ k=>(NK N c e a d b (Aea k))
 | _,_=>none) fun _ _=>by split;intro R F;dsimp only;rw[QA];kernel_rfl;trivial
def Sz (N:Nat) (r0:Nat→Int→LA→O R) (b:LA) (c:Nat) (a:Bool) (k0:Nat→Int→Int→LA→O R) (f:Nat) (j d:Int) (l:LA):O R :=
 (cond (decide (d<j)) (cond (Af d c) (cond (ble 5 ((b.drop ((d.toNat)*5)).length)) (cond ((beq 0 0)&&((beq (((b.drop ((d.toNat)*5)).take 5).length) 5)&&(beq 5 5))) (Ao .i64 ((b.drop ((d.toNat)*5)).take 5) fun o=>cond (o != 0) (cond ((ble (f+1) 140737488355328)&&(ble ((f+1)*8) 140737488355328)) (k0 (f+1) j (wrap .i64 (d+1)) ((l.take (f*1))++[(.int .i64 d)])) none) (k0 f j (wrap .i64 (d+1)) l)) none) none) none) (r0 f 0 l))
def Jp (r0:Nat→Int→LA→O R) (b:LA) (c:Nat) (a:Bool):Nat→Nat→Int→Int→LA→O R
 | 0,_,_,_,_=>none
 | n+1,f,j,d,l=>(Sz N r0 b c a (Jp r0 b c a n) f j d l)
def FN (r0:Nat→Int→LA→O R) (q0:LA→Nat→Nat→Int→Int→LA→O R) (h:LA) (i:Bool) (g:LA) (a:Bool):O R :=
 (cond (ble 8 (h.length)) (cond (ble 3 (g.length)) (Ps N (h.take 8) i (g.take 3) a fun m=>cond (m != 0) (r0 0 m []) (Ba 5 (g.drop 2) fun b c=>q0 b c 0 (c:Int) 0 [])) none) none)
def Wd:=(Ag fun N h i g a r0=>FN (R:=R) N r0 (fun b c=>Jp N r0 b c a N) h i g a).1
theorem QB (h i g a e):(@Wd R N h i g a e)=(FN N e (fun b c=>Jp N e b c a N) h i g a):=by rw[Wd,(Ag _).2]
def WI:Hints:={ H:=(hK 3 (hS (hK 1 (hS (hP [7,17,18,19] hL) hL)) hL)),nils:=[(4,1),(7,1)],modes:=[(2,1),(0,0)] }
def d6:Oi:=[EY N]
def rL (F:KF R):=Ip Tryz.f19 WI (d6 N) [] N F
def rM (b:LA) (c:Nat) (a:Bool) (K:St→O R):=fun f j d l=>K ⟨[(7,(.own 300000 0 f)),(17,(.imm b c 5 false a)),(18,(iv j)),(19,(iv d))],(hq [(bQ 1 l)])⟩
theorem fg (F:KF R) (b c a):∀ n,rM b c a (Al (rL N F (pz 5444) []) n)=(Jp N (cM F) b c a n):=Eu fun n e=>(Bp (Sz N (cM F) b c a) e:_)
def d7:=Cw N 19 (d6 N) WI (fun
 | [(.pagg h i),(.pagg g a)],[]=>some fun _ k=>(Wd N h i g a (cM k))
 | _,_=>none) fun _ _=>by split;intro R F;exact(Bp (FN N (cM F) · _ _ _ _) (ZD fun b c=>(lW ..).trans (fg ..)):_).trans (QB ..).symm;trivial
def P5 (N:Nat) (r0:Nat→Int→LA→O R) (b:Bool) (a:LA) (k0:Nat→Int→LA→O R) (c:Nat) (d:Int) (h:LA):O R :=
 (Ba 5 (a.drop 2) fun p j=>cond (decide (d<(j:Int))) (Ba 5 (a.drop 2) fun l m=>cond (Af d m) (Ao .i64 (l.drop ((d.toNat)*5)) fun o=>cond (o != 0) (cond ((ble (c+1) 140737488355328)&&(ble ((c+1)*8) 140737488355328)) (k0 (c+1) (wrap .i64 (d+1)) ((h.take (c*1))++[(.int .i64 d)])) none) (k0 c (wrap .i64 (d+1)) h)) none) (r0 c 0 h))
def Hz (r0:Nat→Int→LA→O R) (b:Bool) (a:LA):Nat→Nat→Int→LA→O R
 | 0,_,_,_=>none
 | n+1,c,d,h=>(P5 N r0 b a (Hz r0 b a n) c d h)
def Y9 (r0:Nat→Int→LA→O R) (q0:Nat→Int→LA→O R) (f:LA) (g:Bool) (a:LA) (b:Bool):O R :=
 (cond (ble 8 (f.length)) (cond (ble 3 (a.length)) (Mm N (f.take 8) g (a.take 3) b fun i=>cond (i != 0) (r0 0 i []) (q0 0 0 [])) none) none)
def Xj:=(Ag fun N f g a b r0=>Y9 (R:=R) N r0 (Hz N r0 b a N) f g a b).1
theorem LF (f g a b e):(@Xj R N f g a b e)=(Y9 N e (Hz N e b a N) f g a b):=by rw[Xj,(Ag _).2]
def QC:Hints:={ H:=(hK 3 (hS (hK 1 (hS (hP [3,7,8] hL) hL)) hL)),nils:=[(4,1),(7,1)],modes:=[(2,1),(0,0)] }
def WJ:Oi:=[Y8 N]
def mt (F:KF R):=Ip Tryz.f49 QC (WJ N) [] N F
def mu (b:Bool) (a:LA) (K:St→O R):=fun c d h=>K ⟨[(3,(op 0)),(7,(.own 300001 0 c)),(8,(iv d))],(hq [(bP b 0 a),(bQ 1 h)])⟩
theorem aO (F:KF R) (b a):∀ n,mu b a (Al (mt N F (pz 5444) []) n)=(Hz N (cM F) b a n):=Eu fun n e=>(Bp (P5 N (cM F) b a) e:_)
def rN:=Cw N 49 (WJ N) QC (fun
 | [(.pagg f g),(.pagg a b)],[]=>some fun _ k=>(Xj N f g a b (cM k))
 | _,_=>none) fun _ _=>by split;intro R F;exact(Bp (Y9 N (cM F) · _ _ _ _) ((lW ..).trans (aO ..)):_).trans (LF ..).symm;trivial
def Vx (N:Nat) (r0:Bool→O R) (c:LA) (a:Nat) (f g:Bool) (d:LA) (b:Nat) (h i:Bool) (k0:Int→O R) (j:Int):O R :=
 (cond (decide (j<(a:Int))) (cond (Af j a) (Ao .i64 (c.drop ((j.toNat)*1)) fun l=>cond (Af j b) (Ao .i64 (d.drop ((j.toNat)*1)) fun m=>cond (l != m) (r0 false) (k0 (wrap .i64 (j+1)))) none) none) (r0 true))
def Lq (r0:Bool→O R) (c:LA) (a:Nat) (f g:Bool) (d:LA) (b:Nat) (h i:Bool):Nat→Int→O R
 | 0,_=>none
 | n+1,j=>(Vx N r0 c a f g d b h i (Lq r0 c a f g d b h i n) j)
def NL (N:Nat) (r0:Bool→O R) (q0:Int→O R) (c:LA) (a:Nat) (f g:Bool) (d:LA) (b:Nat) (h i:Bool):O R :=
 (cond ((a:Int) != (b:Int)) (r0 false) (q0 0))
def WK:=(Ag fun N c a f g d b h i r0=>NL (R:=R) N r0 (Lq N r0 c a f g d b h i N) c a f g d b h i).1
theorem WL (c a f g d b h i e):(@WK R N c a f g d b h i e)=(NL N e (Lq N e c a f g d b h i N) c a f g d b h i):=by rw[WK,(Ag _).2]
def d8:Hints:={ H:=(hK 2 (hS (hK 1 (hS (hP [0,1,5] hL) hL)) hL)) }
def uB (F:KF R):=Ip Tryz.f85 d8 [] [] N F
def uC (c:LA) (a:Nat) (f g:Bool) (d:LA) (b:Nat) (h i:Bool) (K:St→O R):=fun j=>K ⟨[(0,(.imm c a 1 f g)),(1,(.imm d b 1 h i)),(5,(iv j))],[]⟩
theorem kJ (F:KF R) (c a f g d b h i):∀ n,uC c a f g d b h i (Al (uB N F (pz 1348) []) n)=(Lq N (Bq F) c a f g d b h i n):=Eu fun n e=>(Bp (Vx N (Bq F) c a f g d b h i) e:_)
def w_:=Cw N 85 [] d8 (fun
 | [(.imm c a 1 f g),(.imm d b 1 h i)],[]=>some fun _ k=>(WK N c a f g d b h i (Bq k))
 | _,_=>none) fun _ _=>by split;intro R F;exact(Bp (NL N (Bq F) · _ _ _ _ _ _ _ _) ((lW ..).trans (kJ ..)):_).trans (WL ..).symm;trivial
def aP (a:LA) (b:Nat) (g c:Bool) (d:LA) (e:Nat) (h f:Bool) (r0:Bool→O R):O R :=
 (WK N a b false c d e false f fun i=>r0 i)
def WM:=(Ag (@aP R)).1
theorem WN:@WM R=@aP R:=(Ag _).2
def wa:=Cw N 45 [w_ N] Fq (fun
 | [(.imm a b 1 g c),(.imm d e 1 h f)],[]=>some fun _ k=>(WM N a b g c d e h f (Bq k))
 | _,_=>none) fun _ _=>by split;intro R F;dsimp only;rw[WN];kernel_rfl;trivial
def Mn (N:Nat) (r0:Bool→O R) (c d:Nat) (a b:LA) (k1:Int→O R) (h:Int):O R :=
 (cond (decide (h<(c:Int))) (cond (Af h c) (cond (ble 3 ((a.drop (0+((h.toNat)*3))).length)) (cond (Af h d) (cond (ble 3 ((b.drop (0+((h.toNat)*3))).length)) (cond ((ble 1 3)&&((beq (((a.drop (0+((h.toNat)*3))).take 3).length) 3)&&((beq (((b.drop (0+((h.toNat)*3))).take 3).length) 3)&&(true&&(!false))))) (Ao .i64 ((a.drop (0+((h.toNat)*3))).take 3) fun p=>Ao .i64 ((b.drop (0+((h.toNat)*3))).take 3) fun q=>Ao .i64 (((a.drop (0+((h.toNat)*3))).take 3).drop 1) fun r=>Ao .i64 (((b.drop (0+((h.toNat)*3))).take 3).drop 1) fun s=>Ao .i64 (((a.drop (0+((h.toNat)*3))).take 3).drop 2) fun t=>Ao .i64 (((b.drop (0+((h.toNat)*3))).take 3).drop 2) fun u=>cond (!((p==q)&&((r==s)&&((t==u)&&true)))) (r0 false) (k1 (wrap .i64 (h+1)))) none) none) none) none) none) (r0 true))
def G8 (r0:Bool→O R) (c d:Nat) (a b:LA):Nat→Int→O R
 | 0,_=>none
 | n+1,h=>(Mn N r0 c d a b (G8 r0 c d a b n) h)
def Rh (N:Nat) (r0:Bool→O R) (c d:Nat) (a b:LA) (q1:Int→O R):O R :=
 (q1 0)
def Ka (r0:Bool→O R) (c d:Nat) (a b:LA):O R:=(Rh N r0 c d a b (G8 N r0 c d a b N))
def S2 (r0:Bool→O R) (q0:Nat→Nat→LA→LA→O R) (f:LA) (i:Bool) (g:LA) (j:Bool) (l:Int):O R :=
 (cond (ble 8 (f.length)) (cond (ble 3 (g.length)) (KS N (f.take 8) i (g.take 3) j l fun c v a=>cond (ble 8 (f.length)) (cond (ble 3 (g.length)) (NK N (f.take 8) i (g.take 3) j l fun d w b=>cond (ble 8 (f.length)) (cond (ble 3 (g.length)) (Wd N (f.take 8) i (g.take 3) j fun m x y=>cond (ble 8 (f.length)) (cond (ble 3 (g.length)) (Xj N (f.take 8) i (g.take 3) j fun o z aa=>cond (ble 8 (f.length)) (cond (ble 3 (g.length)) (Ps N (f.take 8) i (g.take 3) j fun ab=>cond (ble 8 (f.length)) (cond (ble 3 (g.length)) (Mm N (f.take 8) i (g.take 3) j fun ac=>cond ((ab != ac)==false) (cond ((cond false true (v != w))==false) (cond ((cond false true (x != z))==false) (WM N (y.take (m*1)) m false true (aa.take (o*1)) o false true fun ad=>cond ((cond false true (!ad))==false) (cond (cond false true ((c:Int) != (d:Int))) (r0 false) (q0 c d a b)) (r0 false)) (r0 false)) (r0 false)) (r0 false)) none) none) none) none) none) none) none) none) none) none) none) none)
def Hm:=(Ag fun N f i g j l r0=>S2 (R:=R) N r0 (fun c d a b=>Ka N r0 c d a b) f i g j l).1
theorem CF (f i g j l e):(@Hm R N f i g j l e)=(S2 N e (fun c d a b=>Ka N e c d a b) f i g j l):=by rw[Hm,(Ag _).2]
def HL:Hints:={ H:=(hK 5 (hJ [7,9] hL (hS (hK 1 (hS (hP [7,9,15] hL) hL)) hL))) }
def LG:Oi:=[js N,uA N,d7 N,rN N,EY N,Y8 N,wa N]
def HM (F:KF R):=Ip Tryz.f17 HL (LG N) [] N F
def fh (c d:Nat) (a b:LA) (K:St→O R):=fun h=>K ⟨[(7,(.own 300000 0 c)),(9,(.own 300001 0 d)),(15,(iv h))],(hq [(bQ 3 a),(bQ 3 b)])⟩
def fi (c d:Nat) (a b:LA) (K:St→O R):=K ⟨[(7,(.own 300000 0 c)),(9,(.own 300001 0 d))],(hq [(bQ 3 a),(bQ 3 b)])⟩
theorem RO (F:KF R) (c d a b):∀ n,fh c d a b (Al (HM N F (pz 349508) []) n)=(G8 N (Bq F) c d a b n):=Eu fun n e=>(Bp (Mn N (Bq F) c d a b) e:_)
theorem RP (F:KF R) (c d a b):fi c d a b (Bh (HM N F (pz 5461) []))=(Ka N (Bq F) c d a b):=(Bp (Rh N (Bq F) c d a b) ((lW ..).trans (RO ..)):_)
def kK:=Cw N 17 (LG N) HL (fun
 | [(.pagg f i),(.pagg g j),(.int .i64 l)],[]=>some fun _ k=>(Hm N f i g j l (Bq k))
 | _,_=>none) fun _ _=>by split;intro R F;exact(Bp (S2 N (Bq F) · _ _ _ _ _) (zp fun c d a b=>(jW ..).trans (RP ..)):_).trans (CF ..).symm;trivial
def aQ (N:Nat) (c:LA) (a:Nat) (d e:Bool) (f:LA) (b:Nat) (g h:Bool) (r0:Bool→O R):O R :=
 (cond ((decide ((a:Int)≤200))==true) (r0 (cond true (decide ((b:Int)≤200)) false)) (r0 false))
def LH:=(Ag (@aQ R)).1
theorem WO:@LH R=@aQ R:=(Ag _).2
def kL:=Cw N 7 [] Fq (fun
 | [(.imm c a 1 d e),(.imm f b 1 g h)],[]=>some fun _ k=>(LH N c a d e f b g h (Bq k))
 | _,_=>none) fun _ _=>by split;intro R F;dsimp only;rw[WO];kernel_rfl;trivial
def WP (N:Nat) (a:LA) (b:Nat) (c d:Bool) (r0:O R):O R :=
 r0
def kM:=(Ag (@WP R)).1
theorem FO:@kM R=@WP R:=(Ag _).2
def zK (a:LA) (b:Nat) (c d:Bool) (F:KF R):O R:=F (op 0) (hq [(bN 0 [(.imm a b 1 c d),(iv 0)])])
def kN:=Cw N 25 [] Fq (fun
 | [(.imm a b 1 c d)],[]=>some fun _ k=>(kM N a b c d (zK a b c d k))
 | _,_=>none) fun _ _=>by split;intro R F;dsimp only;rw[FO];kernel_rfl;trivial
def gI (N:Nat) (b a:Int) (r0:Int→O R):O R :=
 (cond ((wrap .u64 a)==0) none (r0 (wrap .i64 (Int.tmod (wrap .u64 b) (wrap .u64 a)))))
def AD:=(Ag (@gI R)).1
theorem RQ:@AD R=@gI R:=(Ag _).2
def kO:=Cw N 23 [] Fq (fun
 | [(.int .i64 b),(.int .i64 a)],[]=>some fun _ k=>(AD N b a (Dr k))
 | _,_=>none) fun _ _=>by split;intro R F;dsimp only;rw[RQ];kernel_rfl;trivial
def S3 (f:Int) (c:LA) (a:Nat) (d e:Bool) (b:Int) (r0:Int→Int→O R):O R :=
 (cond (decide (b≥(a:Int))) (r0 0 b) (cond (Af (wrap .i64 ((wrap .i64 (b+1)) - 1)) a) (Ao .i64 (c.drop (((wrap .i64 ((wrap .i64 (b+1)) - 1)).toNat)*1)) fun g=>AD N g f fun h=>r0 h (wrap .i64 (b+1))) none))
def Ab:=(Ag (@S3 R)).1
theorem Ri:@Ab R=@S3 R:=(Ag _).2
def fj (c:LA) (a:Nat) (d e:Bool) (F:KF R):Int→Int→O R:=(fun i j=>F (iv i) [(100000,(bN 0 [(.imm c a 1 d e),(iv j)]))])
def Dw:=Cw N 28 [kO N] Fq (fun
 | [(.optr 100000 0),(.int .i64 f)],[(100000,⟨false,false,false,false,0,[(.imm c a 1 d e),(.int .i64 b)],false,none⟩)]=>some fun _ k=>(Ab N f c a d e b (fj c a d e k))
 | _,_=>none) fun _ _=>by split;intro R F;dsimp only;rw[Ri];kernel_rfl;trivial
def Kx (r0:Nat→Int→LA→O R) (f g:Int) (a:LA) (b:Nat) (c d:Bool) (k0:Nat→Int→Int→LA→O R) (i:Nat) (j l:Int) (m:LA):O R :=
 (cond (decide (j<f)) (Ab N g a b c d l fun o p=>cond ((ble (i+1) 140737488355328)&&(ble ((i+1)*8) 140737488355328)) (k0 (i+1) (wrap .i64 (j+1)) p ((m.take (i*1))++[(.int .i64 o)])) none) (r0 i l m))
def Em (r0:Nat→Int→LA→O R) (f g:Int) (a:LA) (b:Nat) (c d:Bool):Nat→Nat→Int→Int→LA→O R
 | 0,_,_,_,_=>none
 | n+1,i,j,l,m=>(Kx N r0 f g a b c d (Em r0 f g a b c d n) i j l m)
def P6 (N:Nat) (r0:Nat→Int→LA→O R) (q0:Nat→Int→Int→LA→O R) (f g:Int) (a:LA) (b:Nat) (c d:Bool) (h:Int):O R :=
 (q0 0 0 h [])
def Ez:=(Ag fun N f g a b c d h r0=>P6 (R:=R) N r0 (Em N r0 f g a b c d N) f g a b c d h).1
theorem Za (f g a b c d h e):(@Ez R N f g a b c d h e)=(P6 N e (Em N e f g a b c d N) f g a b c d h):=by rw[Ez,(Ag _).2]
def CG:Hints:={ H:=(hK 2 (hS (hK 1 (hS (hP [0,1,2,7,8] hL) hL)) hL)),nils:=[(6,1),(7,1)],modes:=[(2,1)] }
def HN:Oi:=[Dw N]
def aR (F:KF R):=Ip Tryz.f30 CG (HN N) [100000] N F
def aS (f g:Int) (a:LA) (b:Nat) (c d:Bool) (K:St→O R):=fun i j l m=>K ⟨[(0,(.optr 100000 0)),(1,(iv f)),(2,(iv g)),(7,(.own 300000 0 i)),(8,(iv j))],[(100000,(bN 0 [(.imm a b 1 c d),(iv l)])),(300000,(bQ 1 m))]⟩
theorem OQ (F:KF R) (f g a b c d):∀ n,aS f g a b c d (Al (aR N F (pz 1348) []) n)=(Em N (sh a b c d F) f g a b c d n):=Eu fun n e=>(Bp (Kx N (sh a b c d F) f g a b c d) e:_)
def fk:=Cw N 30 (HN N) CG (fun
 | [(.optr 100000 0),(.int .i64 f),(.int .i64 g)],[(100000,⟨false,false,false,false,0,[(.imm a b 1 c d),(.int .i64 h)],false,none⟩)]=>some fun _ k=>(Ez N f g a b c d h (sh a b c d k))
 | _,_=>none) fun _ _=>by split;rename_i f g a b c d h;intro R F;exact(Bp (P6 N (sh a b c d F) · f g a b c d h) ((lW ..).trans (OQ ..)):_).trans (Za ..).symm;trivial
def kP (N:Nat) (b:Lu) (a:Int) (r0:Lu→O R):O R :=
 (cond ((decide (0≤(Int.tmod a 16)))&&((decide ((Int.tmod a 16)≤(wrap .i64 ((Int.tmod a 16)+1))))&&((decide ((wrap .i64 ((Int.tmod a 16)+1))≤16))&&(decide ((16:Int)≤(16:Int)))))) (cond (ble ((b.length)+(List.length (take (((wrap .i64 ((Int.tmod a 16)+1)).toNat) - ((Int.tmod a 16).toNat)) (drop ((Int.tmod a 16).toNat) ([48,49,50,51,52,53,54,55,56,57,97,98,99,100,101,102]:Lu))))) 140737488355328) (r0 (b++(take (((wrap .i64 ((Int.tmod a 16)+1)).toNat) - ((Int.tmod a 16).toNat)) (drop ((Int.tmod a 16).toNat) ([48,49,50,51,52,53,54,55,56,57,97,98,99,100,101,102]:Lu))))) none) none)
def FP:=(Ag (@kP R)).1
theorem d9:@FP R=@kP R:=(Ag _).2
def wb (F:KF R):Lu→O R:=(fun c=>F (.str c) [])
def NM:=Cw N 31 [] Fq (fun
 | [(.str b),(.int .i64 a)],[]=>some fun _ k=>(FP N b a (wb k))
 | _,_=>none) fun _ _=>by split;intro R F;dsimp only;rw[d9];kernel_rfl;trivial
def S4 (e:Int) (a:LA) (b:Nat) (c d:Bool) (f:Int) (r0:Nat→Int→LA→O R):O R :=
 (Ab N 6 a b c d f fun h g=>cond (h==5) (Ab N e a b c d g fun i j=>r0 1 j [(.int .i64 i)]) (r0 0 g []))
def Mo:=(Ag (@S4 R)).1
theorem Rj:@Mo R=@S4 R:=(Ag _).2
def LI:=Cw N 59 [Dw N] { H:=hL,nils:=[(4,1)],modes:=[(2,1)] } (fun
 | [(.optr 100000 0),(.int .i64 e)],[(100000,⟨false,false,false,false,0,[(.imm a b 1 c d),(.int .i64 f)],false,none⟩)]=>some fun _ k=>(Mo N e a b c d f (sh a b c d k))
 | _,_=>none) fun _ _=>by split;intro R F;dsimp only;rw[Rj];kernel_rfl;trivial
def S5 (i e f g:Int) (a:LA) (b:Nat) (c d:Bool) (j:Int) (r0:LA→Int→O R):O R :=
 (FP N ([108]:Lu) i fun l=>Ab N 4 a b c d j fun m s=>Ab N 2 a b c d s fun n t=>Ab N 40 a b c d t fun h u=>Ab N 20 a b c d u fun o v=>Ab N 5 a b c d v fun w p=>cond (w==4) (Ab N 4 a b c d p fun x y=>Ab N 2 a b c d y fun z aa=>Ab N 4 a b c d aa fun ab ac=>Mo N g a b c d ac fun q ad ae=>r0 [(.str l),(.int .i64 e),(.int .i64 f),(.int .i64 (wrap .i64 (1+m))),(.int .i64 (wrap .i64 (1+n))),(.int .i64 (wrap .i64 ((0:Int) - x))),(.int .i64 (wrap .i64 (1+z))),(.int .i64 ab),(.int .i64 1),(.int .i64 (wrap .i64 (4+h))),(.int .i64 (wrap .i64 ((wrap .i64 (4+h))+o))),(.imm (ae.take (q*1)) q 1 false false)] ad) (Mo N g a b c d p fun r af ag=>r0 [(.str l),(.int .i64 e),(.int .i64 f),(.int .i64 (wrap .i64 (1+m))),(.int .i64 (wrap .i64 (1+n))),(.int .i64 0),(.int .i64 1),(.int .i64 0),(.int .i64 1),(.int .i64 (wrap .i64 (4+h))),(.int .i64 (wrap .i64 ((wrap .i64 (4+h))+o))),(.imm (ag.take (r*1)) r 1 false false)] af))
def P7:=(Ag (@S5 R)).1
theorem Rk:@P7 R=@S5 R:=(Ag _).2
def kQ:=Cw N 32 [NM N,Dw N,LI N] { H:=hL,modes:=[(3,0)],cob:=[28] } (fun
 | [(.optr 100000 0),(.int .i64 i),(.int .i64 e),(.int .i64 f),(.int .i64 g)],[(100000,⟨false,false,false,false,0,[(.imm a b 1 c d),(.int .i64 j)],false,none⟩)]=>some fun _ k=>(P7 N i e f g a b c d j (ZF a b c d k))
 | _,_=>none) fun _ _=>by split;intro R F;dsimp only;rw[Rk];kernel_rfl;trivial
def Kb (r0:LA→Int→O R) (a:LA) (b:Nat) (c d:Bool) (t:Int) (g:Lu) (h f m:Int) (j:Nat) (i u v w x s p y z aa:Int) (q:Nat) (r:Int) (o ab:LA) (ai aj ak al:Int):O R :=
 (cond (r==2) (Ab N (wrap .i64 ((wrap .i64 (m - f))+1)) a b c d t fun ar au=>r0 [(.str g),(.int .i64 h),(.int .i64 f),(.int .i64 m),(.imm (o.take (j*2)) j 2 false false),(.int .i64 i),(.int .i64 u),(.int .i64 v),(.int .i64 ai),(.int .i64 aj),(.int .i64 w),(.int .i64 x),(.int .i64 s),(.int .i64 p),(.int .i64 ak),(.int .i64 y),(.int .i64 z),(.int .i64 aa),(.imm (ab.take (q*1)) q 1 false false),(.int .i64 r),(.int .i64 al),(.int .i64 (wrap .i64 (f+ar)))] au) (r0 [(.str g),(.int .i64 h),(.int .i64 f),(.int .i64 m),(.imm (o.take (j*2)) j 2 false false),(.int .i64 i),(.int .i64 u),(.int .i64 v),(.int .i64 ai),(.int .i64 aj),(.int .i64 w),(.int .i64 x),(.int .i64 s),(.int .i64 p),(.int .i64 ak),(.int .i64 y),(.int .i64 z),(.int .i64 aa),(.imm (ab.take (q*1)) q 1 false false),(.int .i64 r),(.int .i64 al),(.int .i64 0)] t))
def Mp (r0:LA→Int→O R) (l:Int) (a:LA) (b:Nat) (c d:Bool) (g:Lu) (h f i:Int) (k0:Int→Int→Int→Int→Nat→LA→O R) (q1:Int→Int→Nat→Int→Int→Int→Int→Int→Int→Int→Int→Int→Nat→Int→LA→LA→Int→Int→Int→Int→O R) (af ag ah m:Int) (j:Nat) (o:LA):O R :=
 (cond (decide (ag>0)) (Ab N 15 a b c d ah fun am av=>cond ((ble (j+1) 140737488355328)&&(ble ((j+1)*16) 140737488355328)) (Ab N 10 a b c d av fun aw ax=>k0 (wrap .i64 (af+aw)) (wrap .i64 (ag - 1)) ax (wrap .i64 (m+(wrap .i64 (1+am)))) (j+1) ((o.take (j*2))++[(.int .i64 (wrap .i64 (1+am))),(.int .i64 af)])) none) (Ab N 20 a b c d ah fun u ay=>Ab N 20 a b c d ay fun v az=>Ab N (wrap .i64 ((wrap .i64 (m - f))+1)) a b c d az fun an ba=>Ab N (wrap .i64 ((wrap .i64 (m - f))+1)) a b c d ba fun ao bb=>Ab N 3 a b c d bb fun w bc=>Ab N 3 a b c d bc fun x bd=>Ab N 2 a b c d bd fun s be=>Ab N 30 a b c d be fun p bf=>Ab N 30 a b c d bf fun ap bg=>Ab N 4 a b c d bg fun y bh=>Ab N 8 a b c d bh fun z bi=>Ab N 4 a b c d bi fun aa bj=>Mo N l a b c d bj fun q bk ab=>Ab N (wrap .i64 (2+s)) a b c d bk fun aq bl=>cond (Af aq 3) (Ao .i64 (drop (0+((aq.toNat)*1)) [(.int .i64 0),(.int .i64 2),(.int .i64 1)]) fun r=>Ab N 4 a b c d bl fun bm t=>cond (r==1) (q1 t m j u v w x s p y z aa q r o ab (wrap .i64 (f+an)) (wrap .i64 (f+ao)) (wrap .i64 (p+ap)) 1) (q1 t m j u v w x s p y z aa q r o ab (wrap .i64 (f+an)) (wrap .i64 (f+ao)) (wrap .i64 (p+ap)) (wrap .i64 (1+bm)))) none))
def D6 (r0:LA→Int→O R) (l:Int) (a:LA) (b:Nat) (c d:Bool) (g:Lu) (h f i:Int):Nat→Int→Int→Int→Int→Nat→LA→O R
 | 0,_,_,_,_,_,_=>none
 | n+1,af,ag,ah,m,j,o=>(Mp N r0 l a b c d g h f i (D6 r0 l a b c d g h f i n) (fun t m j u v w x s p y z aa q r o ab=>Kb N r0 a b c d t g h f m j i u v w x s p y z aa q r o ab) af ag ah m j o)
def S6 (r0:LA→Int→O R) (q0:Lu→Int→Int→Int→Int→Int→Int→Int→Nat→LA→O R) (ac ad l:Int) (a:LA) (b:Nat) (c d:Bool) (ae:Int):O R :=
 (FP N ([117]:Lu) ac fun g=>Ab N ad a b c d ae fun h bn=>Ab N 8 a b c d bn fun f bo=>Ab N 20 a b c d bo fun i bp=>Ab N 20 a b c d bp fun bq br=>Ab N 2 a b c d br fun bs bt=>q0 g h f i (wrap .i64 (bq - 2)) (wrap .i64 (1+bs)) bt f 0 [])
def P8:=(Ag fun N ac ad l a b c d ae r0=>S6 (R:=R) N r0 (fun g h f i=>D6 N r0 l a b c d g h f i N) ac ad l a b c d ae).1
theorem CH (ac ad l a b c d ae e):(@P8 R N ac ad l a b c d ae e)=(S6 N e (fun g h f i=>D6 N e l a b c d g h f i N) ac ad l a b c d ae):=by rw[P8,(Ag _).2]
def HO:Hints:={ H:=(hK 4 (hS (hK 1 (hS (hP [0,3,8,9,10,11] hL) hL)) (hK 8 (hJ [0,8,9] hL hL)))),modes:=[(3,0)],cob:=[22] }
def LJ:Oi:=[NM N,Dw N,LI N]
def HP (F:KF R):=Ip Tryz.f33 HO (LJ N) [100000] N F
def fl (a:LA) (b:Nat) (c d:Bool) (t:Int) (g:Lu) (h f m:Int) (j:Nat) (i u v w x s p y z aa:Int) (q:Nat) (r:Int) (o ab:LA) (K:St→O R):=fun ai aj ak al=>K ⟨[(0,(.optr 100000 0)),(8,(op 0)),(9,(op 1))],[(100000,(bN 0 [(.imm a b 1 c d),(iv t)])),(300000,(bN 0 [(.str ([]:Lu)),(iv 0),(iv 0),(iv 0),.nsl,(iv 0),(iv 0),(iv 0),(iv 0),(iv 0),(iv 0),(iv 0),(iv 0),(iv 0),(iv 0),(iv 0),(iv 0),(iv 0),.nsl,(iv 0),(iv 0),(iv 0)])),(300001,(bN 0 [(.str g),(iv h),(iv f),(iv m),(.own 300002 0 j),(iv i),(iv u),(iv v),(iv ai),(iv aj),(iv w),(iv x),(iv s),(iv p),(iv ak),(iv y),(iv z),(iv aa),(.own 300003 0 q),(iv r),(iv al),(iv 0)])),(300002,(bQ 2 o)),(300003,(bQ 1 ab))]⟩
def fm (l:Int) (a:LA) (b:Nat) (c d:Bool) (g:Lu) (h f i:Int) (K:St→O R):=fun af ag ah m j o=>K ⟨[(0,(.optr 100000 0)),(3,(iv l)),(8,(op 0)),(9,(op 1)),(10,(iv af)),(11,(iv ag))],[(100000,(bN 0 [(.imm a b 1 c d),(iv ah)])),(300000,(bN 0 [(.str ([]:Lu)),(iv 0),(iv 0),(iv 0),.nsl,(iv 0),(iv 0),(iv 0),(iv 0),(iv 0),(iv 0),(iv 0),(iv 0),(iv 0),(iv 0),(iv 0),(iv 0),(iv 0),.nsl,(iv 0),(iv 0),(iv 0)])),(300001,(bN 0 [(.str g),(iv h),(iv f),(iv m),(.own 300002 0 j),(iv i),(iv 0),(iv 0),(iv 0),(iv 0),(iv 0),(iv 0),(iv 0),(iv 0),(iv 0),(iv 0),(iv 0),(iv 0),(.own 300003 0 0),(iv 0),(iv 0),(iv 0)])),(300002,(bQ 2 o)),(300003,(bQ 1 []))]⟩
theorem RR (F:KF R) (a b c d t g h f m j i u v w x s p y z aa q r o ab):fl a b c d t g h f m j i u v w x s p y z aa q r o ab (Bh (HP N F (pz 357913941) []))=(Kb N (ZF a b c d F) a b c d t g h f m j i u v w x s p y z aa q r o ab):=by kernel_rfl
theorem RS (F:KF R) (l a b c d g h f i):∀ n,fm l a b c d g h f i (Al (HP N F (pz 21828) []) n)=(D6 N (ZF a b c d F) l a b c d g h f i n):=Eu fun n e=>(DZ (Mp N (ZF a b c d F) l a b c d g h f i) e (zp fun t m j u=>Ah5 fun v w x s p y=>Ah5 fun z aa q r o ab=>(jW ..).trans (RR ..)):_)
def kR:=Cw N 33 (LJ N) HO (fun
 | [(.optr 100000 0),(.int .i64 ac),(.int .i64 ad),(.int .i64 l)],[(100000,⟨false,false,false,false,0,[(.imm a b 1 c d),(.int .i64 ae)],false,none⟩)]=>some fun _ k=>(P8 N ac ad l a b c d ae (ZF a b c d k))
 | _,_=>none) fun _ _=>by split;rename_i ac ad l a b c d ae;intro R F;exact(Bp (S6 N (ZF a b c d F) · ac ad l a b c d ae) (zp fun g h f i=>(lW ..).trans (RS ..)):_).trans (CH ..).symm;trivial
def Gl (r0:LA→Int→O R) (f:Int) (a:LA) (b:Nat) (c d:Bool) (g:Lu) (h:Nat) (i:LA) (k1:Int→Int→Nat→LA→O R) (p r:Int) (j:Nat) (q:LA):O R :=
 (cond (decide (p<f)) (Ab N 2 a b c d r fun z u=>cond (z==1) (Ab N 8 a b c d u fun aa ab=>Ab N 8 a b c d ab fun ac ad=>cond ((ble (j+1) 140737488355328)&&(ble ((j+1)*24) 140737488355328)) (k1 (wrap .i64 (p+1)) ad (j+1) ((q.take (j*3))++[(.int .i64 p),(.int .i64 aa),(.int .i64 ac)])) none) (k1 (wrap .i64 (p+1)) u j q)) (r0 [(.str g),(.imm (i.take (h*1)) h 1 false false),(.bool true),(.imm (q.take (j*3)) j 3 false false)] r))
def Dx (r0:LA→Int→O R) (f:Int) (a:LA) (b:Nat) (c d:Bool) (g:Lu) (h:Nat) (i:LA):Nat→Int→Int→Nat→LA→O R
 | 0,_,_,_,_=>none
 | n+1,p,r,j,q=>(Gl N r0 f a b c d g h i (Dx r0 f a b c d g h i n) p r j q)
def Jq (r0:LA→Int→O R) (f:Int) (a:LA) (b:Nat) (c d:Bool) (g:Lu) (q1:Nat→LA→Int→Int→Nat→LA→O R) (s:Int) (h:Nat) (i:LA):O R :=
 (Ab N 2 a b c d s fun ae v=>cond (ae==1) (q1 h i 0 v 0 []) (r0 [(.str g),(.imm (i.take (h*1)) h 1 false false),(.bool false),(.imm [] 0 3 false false)] v))
def Dy (r0:LA→Int→O R) (f:Int) (a:LA) (b:Nat) (c d:Bool) (g:Lu) (s:Int) (h:Nat) (i:LA):O R:=(Jq N r0 f a b c d g (fun h i=>Dx N r0 f a b c d g h i N) s h i)
def G9 (r0:LA→Int→O R) (q0:Lu→Int→Nat→LA→O R) (m l f:Int) (a:LA) (b:Nat) (c d:Bool) (o:Int):O R :=
 (FP N ([111]:Lu) m fun g=>Ab N l a b c d o fun t af=>Ab N l a b c d af fun w x=>cond ((decide (w>t))==true) (Ab N 3 a b c d x fun ag y=>cond (cond true (ag==2) false) (q0 g y 2 [(.int .i64 t),(.int .i64 w)]) (q0 g y 1 [(.int .i64 t)])) (q0 g x 1 [(.int .i64 t)]))
def Lr:=(Ag fun N m l f a b c d o r0=>G9 (R:=R) N r0 (fun g=>Dy N r0 f a b c d g) m l f a b c d o).1
theorem Jr (m l f a b c d o e):(@Lr R N m l f a b c d o e)=(G9 N e (fun g=>Dy N e f a b c d g) m l f a b c d o):=by rw[Lr,(Ag _).2]
def Zb:Hints:={ H:=(hK 2 (hJ [0,3,8,9] hL (hS (hK 1 (hS (hK 2 (hS (hP [0,3,8,9,11] hL) hL)) hL)) hL))),modes:=[(3,0)],cob:=[18] }
def CI:Oi:=[NM N,Dw N]
def Zc (F:KF R):=Ip Tryz.f34 Zb (CI N) [100000] N F
def WQ (f:Int) (a:LA) (b:Nat) (c d:Bool) (g:Lu) (h:Nat) (i:LA) (K:St→O R):=fun p r j q=>K ⟨[(0,(.optr 100000 0)),(3,(iv f)),(8,(op 0)),(9,(op 1)),(11,(iv p))],[(100000,(bN 0 [(.imm a b 1 c d),(iv r)])),(300000,(bN 0 [(.str ([]:Lu)),.nsl,(.bool false),.nsl])),(300001,(bN 0 [(.str g),(.own 300002 0 h),(.bool true),(.own 300003 0 j)])),(300002,(bQ 1 i)),(300003,(bQ 3 q))]⟩
def WR (f:Int) (a:LA) (b:Nat) (c d:Bool) (g:Lu) (K:St→O R):=fun s h i=>K ⟨[(0,(.optr 100000 0)),(3,(iv f)),(8,(op 0)),(9,(op 1))],[(100000,(bN 0 [(.imm a b 1 c d),(iv s)])),(300000,(bN 0 [(.str ([]:Lu)),.nsl,(.bool false),.nsl])),(300001,(bN 0 [(.str g),(.own 300002 0 h),(.bool false),(.own 300003 0 0)])),(300002,(bQ 1 i)),(300003,(bQ 3 []))]⟩
theorem LK (F:KF R) (f a b c d g h i):∀ n,WQ f a b c d g h i (Al (Zc N F (pz 348436) []) n)=(Dx N (ZF a b c d F) f a b c d g h i n):=Eu fun n e=>(Bp (Gl N (ZF a b c d F) f a b c d g h i) e:_)
theorem LL (F:KF R) (f a b c d g):WR f a b c d g (Bh (Zc N F (pz 85) []))=(Dy N (ZF a b c d F) f a b c d g):=(Bp (Jq N (ZF a b c d F) f a b c d g) (ZD fun h i=>(lW ..).trans (LK ..)):_)
def aT:=Cw N 34 (CI N) Zb (fun
 | [(.optr 100000 0),(.int .i64 m),(.int .i64 l),(.int .i64 f)],[(100000,⟨false,false,false,false,0,[(.imm a b 1 c d),(.int .i64 o)],false,none⟩)]=>some fun _ k=>(Lr N m l f a b c d o (ZF a b c d k))
 | _,_=>none) fun _ _=>by split;rename_i m l f a b c d o;intro R F;exact(Bp (G9 N (ZF a b c d F) · m l f a b c d o) (eo fun g=>(jW ..).trans (LL ..)):_).trans (Jr ..).symm;trivial
def FQ (k2:Int→Int→Nat→LA→O R) (r0:LA→O R) (l:Int) (a:LA) (b:Nat) (c:Bool) (g:Int) (f d:Nat) (h i:LA) (av aw:Int) (y:Nat) (ax:LA):O R :=
 (Ab N l a b false c aw fun ba bo=>Ab N (wrap .i64 (l - 1)) a b false c bo fun bp bq=>cond (l==0) none (P7 N (y:Int) ba (Int.tmod (wrap .i64 ((wrap .i64 (ba+1))+bp)) l) g a b false c bq fun bb br=>cond ((beq (bb.length) 12)&&(ble 12 12)) (cond ((ble (y+1) 140737488355328)&&(ble ((y+1)*120) 140737488355328)) (k2 (wrap .i64 (av - 1)) br (y+1) ((ax.take (y*12))++((setCells [(.str ([]:Lu)),(.int .i64 0),(.int .i64 0),(.int .i64 0),(.int .i64 0),(.int .i64 0),(.int .i64 0),(.int .i64 0),(.int .i64 0),(.int .i64 0),(.int .i64 0),.nsl] 0 bb).take 12))) none) none))
def FR (k7:Int→Int→Nat→LA→O R) (r0:LA→O R) (a:LA) (b:Nat) (c:Bool) (g:Int) (f d m j q s:Nat) (h i o p r t:LA) (ar ay:Int) (u:Nat) (am:LA):O R :=
 (Lr N (u:Int) (m:Int) (j:Int) a b false c ay fun an bc=>cond ((beq 0 0)&&((beq (an.length) 4)&&(beq 4 4))) (cond ((ble (0+u) 140737488355328)&&(ble ((0+u)*72) 140737488355328)) (cond (ble 4 (an.length)) (cond ((beq ((an.take 4).length) 4)&&(ble 4 4)) (cond ((ble ((0+u)+1) 140737488355328)&&(ble (((0+u)+1)*72) 140737488355328)) (Rg N [(.int .i64 g),(.imm (h.take (f*1)) f 1 false true),(.imm (i.take (d*3)) d 3 false true),(.imm (o.take (m*12)) m 12 false true),(.imm (p.take (j*22)) j 22 false true),(.imm (r.take (q*9)) q 9 false true),(.imm (t.take (s*5)) s 5 false true),(.imm (take (((0+u)+1)*4) (((am.take (u*4)).take ((0+u)*4))++((setCells [(.str ([]:Lu)),.nsl,(.bool false),.nsl] 0 (an.take 4)).take 4))) ((0+u)+1) 4 false true)] true fun bs bt=>cond ((beq (bs.length) 3)&&((ble 3 3)&&(!false))) (cond (bt==0) (k7 (wrap .i64 (ar - 1)) bc ((0+u)+1) (((am.take (u*4)).take ((0+u)*4))++((setCells [(.str ([]:Lu)),.nsl,(.bool false),.nsl] 0 (an.take 4)).take 4))) (k7 (wrap .i64 (ar - 1)) bc u am)) none) none) none) none) none) none)
def Tt (N:Nat) (r0:LA→O R) (a:LA) (b:Nat) (c:Bool) (g:Int) (f d m j q s:Nat) (h i o p r t:LA) (k7:Int→Int→Nat→LA→O R) (q8:Int→Int→Nat→LA→O R) (af ao:Int) (w:Nat) (z:LA):O R :=
 (cond ((decide (af>0))==true) (cond (cond true (decide ((m:Int)>0)) false) (q8 af ao w z) (r0 [(.int .i64 g),(.imm (h.take (f*1)) f 1 false false),(.imm (i.take (d*3)) d 3 false false),(.imm (o.take (m*12)) m 12 false false),(.imm (p.take (j*22)) j 22 false false),(.imm (r.take (q*9)) q 9 false false),(.imm (t.take (s*5)) s 5 false false),(.imm (z.take (w*4)) w 4 false false)])) (r0 [(.int .i64 g),(.imm (h.take (f*1)) f 1 false false),(.imm (i.take (d*3)) d 3 false false),(.imm (o.take (m*12)) m 12 false false),(.imm (p.take (j*22)) j 22 false false),(.imm (r.take (q*9)) q 9 false false),(.imm (t.take (s*5)) s 5 false false),(.imm (z.take (w*4)) w 4 false false)]))
def Gm (r0:LA→O R) (a:LA) (b:Nat) (c:Bool) (g:Int) (f d m j q s:Nat) (h i o p r t:LA):Nat→Int→Int→Nat→LA→O R
 | 0,_,_,_,_=>none
 | n+1,af,ao,w,z=>(Tt N r0 a b c g f d m j q s h i o p r t (Gm r0 a b c g f d m j q s h i o p r t n) (FR N (Gm r0 a b c g f d m j q s h i o p r t n) r0 a b c g f d m j q s h i o p r t) af ao w z)
def LM (r0:LA→O R) (a:LA) (b:Nat) (c:Bool) (g:Int) (f d m j q:Nat) (h i o p r:LA) (q7:Nat→LA→Int→Int→Nat→LA→O R) (ap:Int) (s:Nat) (t:LA):O R :=
 (Ab N 4 a b false c ap fun bu bv=>q7 s t bu bv 0 [])
def FS (r0:LA→O R) (a:LA) (b:Nat) (c:Bool) (g:Int) (f d m j q:Nat) (h i o p r:LA) (ap:Int) (s:Nat) (t:LA):O R:=(LM N r0 a b c g f d m j q h i o p r (fun s t=>Gm N r0 a b c g f d m j q s h i o p r t N) ap s t)
def Zd (r0:LA→O R) (l:Int) (a:LA) (b:Nat) (c:Bool) (g:Int) (f d m j:Nat) (h i o p:LA) (q6:Nat→LA→Int→Nat→LA→O R) (aq:Int) (q:Nat) (r:LA):O R :=
 (Ab N 3 a b false c aq fun bw bd=>cond (bw==2) (Ab N l a b false c bd fun bx bz=>Ez N g 12 a b false c bz fun be ca cb=>Ez N g 12 a b false c ca fun bf cc cd=>Ez N g 40 a b false c cc fun bg ce cf=>q6 q r ce 1 [(.str ([116,48]:Lu)),(.int .i64 bx),(.imm (cb.take (be*1)) be 1 false false),(.imm (cd.take (bf*1)) bf 1 false false),(.imm (cf.take (bg*1)) bg 1 false false)]) (q6 q r bd 0 []))
def Xk (r0:LA→O R) (l:Int) (a:LA) (b:Nat) (c:Bool) (g:Int) (f d m j:Nat) (h i o p:LA) (aq:Int) (q:Nat) (r:LA):O R:=(Zd N r0 l a b c g f d m j h i o p (fun q r=>FS N r0 a b c g f d m j q h i o p r) aq q r)
def Tu (r0:LA→O R) (l:Int) (a:LA) (b:Nat) (c:Bool) (g:Int) (f d:Nat) (h i:LA) (k4:Int→Int→Nat→Nat→LA→LA→O R) (q5:Nat→Nat→LA→LA→Int→Nat→LA→O R) (ag ah:Int) (m j:Nat) (o p:LA):O R :=
 (cond (decide (ag>0)) (P8 N (j:Int) l g a b false c ah fun bh cg=>cond ((beq (bh.length) 22)&&(ble 22 22)) (cond ((ble (j+1) 140737488355328)&&(ble ((j+1)*216) 140737488355328)) (k4 (wrap .i64 (ag - 1)) cg m (j+1) o ((p.take (j*22))++((setCells [(.str ([]:Lu)),(.int .i64 0),(.int .i64 0),(.int .i64 0),.nsl,(.int .i64 0),(.int .i64 0),(.int .i64 0),(.int .i64 0),(.int .i64 0),(.int .i64 0),(.int .i64 0),(.int .i64 0),(.int .i64 0),(.int .i64 0),(.int .i64 0),(.int .i64 0),(.int .i64 0),.nsl,(.int .i64 0),(.int .i64 0),(.int .i64 0)] 0 bh).take 22))) none) none) (Ab N 3 a b false c ah fun ch bi=>cond (ch==2) (Ab N l a b false c bi fun ci cj=>Ab N 20 a b false c cj fun az ck=>Ab N 8 a b false c ck fun cl cm=>Ab N 8 a b false c cm fun cn co=>Ab N 4 a b false c co fun cp cq=>Ab N (wrap .i64 (az+1)) a b false c cq fun cr cs=>Ab N (wrap .i64 (az+1)) a b false c cs fun ct cu=>q5 m j o p cu 1 [(.str ([115,48]:Lu)),(.int .i64 ci),(.int .i64 az),(.int .i64 cr),(.int .i64 ct),(.int .i64 cl),(.int .i64 cn),(.int .i64 (wrap .i64 (1+cp))),(.int .i64 4)]) (q5 m j o p bi 0 [])))
def Ls (r0:LA→O R) (l:Int) (a:LA) (b:Nat) (c:Bool) (g:Int) (f d:Nat) (h i:LA):Nat→Int→Int→Nat→Nat→LA→LA→O R
 | 0,_,_,_,_,_,_=>none
 | n+1,ag,ah,m,j,o,p=>(Tu N r0 l a b c g f d h i (Ls r0 l a b c g f d h i n) (fun m j o p=>Xk N r0 l a b c g f d m j h i o p) ag ah m j o p)
def Tv (r0:LA→O R) (l:Int) (a:LA) (b:Nat) (c:Bool) (g:Int) (f d:Nat) (h i:LA) (k2:Int→Int→Nat→LA→O R) (q3:Int→Int→Nat→LA→O R) (q4:Int→Int→Nat→Nat→LA→LA→O R) (ai aa:Int) (ab:Nat) (ac:LA):O R :=
 (cond ((decide (ai>0))==true) (cond (cond true (decide (l>1)) false) (q3 ai aa ab ac) (Ab N 3 a b false c aa fun cv cw=>q4 (wrap .i64 (1+cv)) cw ab 0 ac [])) (Ab N 3 a b false c aa fun cx cy=>q4 (wrap .i64 (1+cx)) cy ab 0 ac []))
def Lt (r0:LA→O R) (l:Int) (a:LA) (b:Nat) (c:Bool) (g:Int) (f d:Nat) (h i:LA):Nat→Int→Int→Nat→LA→O R
 | 0,_,_,_,_=>none
 | n+1,ai,aa,ab,ac=>(Tv N r0 l a b c g f d h i (Lt r0 l a b c g f d h i n) (FQ N (Lt r0 l a b c g f d h i n) r0 l a b c g f d h i) (Ls N r0 l a b c g f d h i N) ai aa ab ac)
def Ze (r0:LA→O R) (a:LA) (b:Nat) (c:Bool) (g:Int) (f d:Nat) (h i:LA) (k1:Int→Int→Int→Nat→LA→O R) (q2:Int→Int→Int→Nat→LA→O R) (l x aj:Int) (v:Nat) (ak:LA):O R :=
 (cond (decide (x<l)) (Ab N x a b false c aj fun cz da=>P7 N (v:Int) cz x g a b false c da fun bj db=>cond ((beq (bj.length) 12)&&(ble 12 12)) (cond ((ble (v+1) 140737488355328)&&(ble ((v+1)*120) 140737488355328)) (k1 l (wrap .i64 (x+1)) db (v+1) ((ak.take (v*12))++((setCells [(.str ([]:Lu)),(.int .i64 0),(.int .i64 0),(.int .i64 0),(.int .i64 0),(.int .i64 0),(.int .i64 0),(.int .i64 0),(.int .i64 0),(.int .i64 0),(.int .i64 0),.nsl] 0 bj).take 12))) none) none) (Ab N 5 a b false c aj fun dc dd=>q2 l dc dd v ak))
def Rl (r0:LA→O R) (a:LA) (b:Nat) (c:Bool) (g:Int) (f d:Nat) (h i:LA):Nat→Int→Int→Int→Nat→LA→O R
 | 0,_,_,_,_,_=>none
 | n+1,l,x,aj,v,ak=>(Ze N r0 a b c g f d h i (Rl r0 a b c g f d h i n) (fun l=>Lt N r0 l a b c g f d h i N) l x aj v ak)
def Tx (r0:LA→O R) (a:LA) (b:Nat) (c:Bool) (f:Nat) (h:LA) (k0:Int→Int→Int→Nat→LA→O R) (q1:Int→Nat→LA→Int→Int→Int→Nat→LA→O R) (ad al g:Int) (d:Nat) (i:LA):O R :=
 (cond (decide (ad>0)) (FP N ([98]:Lu) (d:Int) fun bk=>Ez N g 14 a b false c al fun au de bl=>Ab N 2 a b false c de fun df bm=>cond (df==1) (Ab N 200 a b false c bm fun dg dh=>cond ((ble (d+1) 140737488355328)&&(ble ((d+1)*48) 140737488355328)) (k0 (wrap .i64 (ad - 1)) dh g (d+1) ((i.take (d*3))++[(.str bk),(.imm (bl.take (au*1)) au 1 false false),(.int .i64 (wrap .i64 (100+dg)))])) none) (cond ((ble (d+1) 140737488355328)&&(ble ((d+1)*48) 140737488355328)) (k0 (wrap .i64 (ad - 1)) bm g (d+1) ((i.take (d*3))++[(.str bk),(.imm (bl.take (au*1)) au 1 false false),(.int .i64 0)])) none)) (q1 g d i (d:Int) 1 al 0 []))
def Js (r0:LA→O R) (a:LA) (b:Nat) (c:Bool) (f:Nat) (h:LA):Nat→Int→Int→Int→Nat→LA→O R
 | 0,_,_,_,_,_=>none
 | n+1,ad,al,g,d,i=>(Tx N r0 a b c f h (Js r0 a b c f h n) (fun g d i=>Rl N r0 a b c g f d h i N) ad al g d i)
def WS (r0:LA→O R) (q0:Nat→LA→Int→Int→Int→Nat→LA→O R) (a:LA) (b:Nat) (ae c:Bool):O R :=
 (kM N a b false c (Ab N 3 a b false c 0 fun bn di=>Ez N (wrap .i64 (1+bn)) 5 a b false c di fun f dj h=>Ab N 4 a b false c dj fun dk dl=>q0 f h (wrap .i64 (1+dk)) dl (wrap .i64 (1+bn)) 0 []))
def NN:=(Ag fun N a b ae c r0=>WS (R:=R) N r0 (fun f h=>Js N r0 a b c f h N) a b ae c).1
theorem d_ (a b ae c e):(@NN R N a b ae c e)=(WS N e (fun f h=>Js N e a b c f h N) a b ae c):=by rw[NN,(Ag _).2]
def kS:Hints:={ H:=(hK 4 (hS (hK 1 (hS (hP [2,3,4,5] hL) hL)) (hK 1 (hS (hK 1 (hS (hP [2,3,4,7,8] hL) hL)) (hS (hK 1 (hS (hP [2,3,4,7,9] (hJ [2,3,4,7,9] hL hL)) hL)) (hS (hK 1 (hS (hP [2,3,4,7,11] hL) hL)) (hJ [2,3,4,7] hL (hJ [2,3,4] hL (hS (hK 1 (hS (hP [2,3,4,13] (hJ [2,3,4,13] hL hL)) hL)) hL))))))))),modes:=[(3,0)],cob:=[23,44,192] }
def oZ:Oi:=[kN N,Dw N,fk N,NM N,kQ N,kR N,aT N,LB N]
def Jt (F:KF R):=Ip Tryz.f10 kS (oZ N) [] N F
def wc (l:Int) (a:LA) (b:Nat) (c:Bool) (g:Int) (f d:Nat) (h i:LA) (K:St→O R):=fun av aw y ax=>K ⟨[(2,(op 0)),(3,(op 1)),(4,(op 2)),(7,(iv l)),(9,(iv av))],(hq [(bN 0 [(iv 0),.nsl,.nsl,.nsl,.nsl,.nsl,.nsl,.nsl]),(bN 0 [(.imm a b 1 false c),(iv aw)]),(bN 0 [(iv g),(.own 300003 0 f),(.own 300004 0 d),(.own 300005 0 y),(.own 300006 0 0),(.own 300007 0 0),(.own 300008 0 0),(.own 300009 0 0)]),(bQ 1 h),(bQ 3 i),(bQ 12 ax),(bQ 22 []),(bQ 9 []),(bQ 5 []),(bQ 4 [])])⟩
def wd (a:LA) (b:Nat) (c:Bool) (g:Int) (f d m j q s:Nat) (h i o p r t:LA) (K:St→O R):=fun ar ay u am=>K ⟨[(2,(op 0)),(3,(op 1)),(4,(op 2)),(13,(iv ar))],(hq [(bN 0 [(iv 0),.nsl,.nsl,.nsl,.nsl,.nsl,.nsl,.nsl]),(bN 0 [(.imm a b 1 false c),(iv ay)]),(bN 0 [(iv g),(.own 300003 0 f),(.own 300004 0 d),(.own 300005 0 m),(.own 300006 0 j),(.own 300007 0 q),(.own 300008 0 s),(.own 300009 0 u)]),(bQ 1 h),(bQ 3 i),(bQ 12 o),(bQ 22 p),(bQ 9 r),(bQ 5 t),(bQ 4 am)])⟩
def kT (a:LA) (b:Nat) (c:Bool) (g:Int) (f d m j q s:Nat) (h i o p r t:LA) (K:St→O R):=fun af ao w z=>K ⟨[(2,(op 0)),(3,(op 1)),(4,(op 2)),(13,(iv af))],(hq [(bN 0 [(iv 0),.nsl,.nsl,.nsl,.nsl,.nsl,.nsl,.nsl]),(bN 0 [(.imm a b 1 false c),(iv ao)]),(bN 0 [(iv g),(.own 300003 0 f),(.own 300004 0 d),(.own 300005 0 m),(.own 300006 0 j),(.own 300007 0 q),(.own 300008 0 s),(.own 300009 0 w)]),(bQ 1 h),(bQ 3 i),(bQ 12 o),(bQ 22 p),(bQ 9 r),(bQ 5 t),(bQ 4 z)])⟩
def wg (a:LA) (b:Nat) (c:Bool) (g:Int) (f d m j q:Nat) (h i o p r:LA) (K:St→O R):=fun ap s t=>K ⟨[(2,(op 0)),(3,(op 1)),(4,(op 2))],(hq [(bN 0 [(iv 0),.nsl,.nsl,.nsl,.nsl,.nsl,.nsl,.nsl]),(bN 0 [(.imm a b 1 false c),(iv ap)]),(bN 0 [(iv g),(.own 300003 0 f),(.own 300004 0 d),(.own 300005 0 m),(.own 300006 0 j),(.own 300007 0 q),(.own 300008 0 s),(.own 300009 0 0)]),(bQ 1 h),(bQ 3 i),(bQ 12 o),(bQ 22 p),(bQ 9 r),(bQ 5 t),(bQ 4 [])])⟩
def wh (l:Int) (a:LA) (b:Nat) (c:Bool) (g:Int) (f d m j:Nat) (h i o p:LA) (K:St→O R):=fun aq q r=>K ⟨[(2,(op 0)),(3,(op 1)),(4,(op 2)),(7,(iv l))],(hq [(bN 0 [(iv 0),.nsl,.nsl,.nsl,.nsl,.nsl,.nsl,.nsl]),(bN 0 [(.imm a b 1 false c),(iv aq)]),(bN 0 [(iv g),(.own 300003 0 f),(.own 300004 0 d),(.own 300005 0 m),(.own 300006 0 j),(.own 300007 0 q),(.own 300008 0 0),(.own 300009 0 0)]),(bQ 1 h),(bQ 3 i),(bQ 12 o),(bQ 22 p),(bQ 9 r),(bQ 5 []),(bQ 4 [])])⟩
def wi (l:Int) (a:LA) (b:Nat) (c:Bool) (g:Int) (f d:Nat) (h i:LA) (K:St→O R):=fun ag ah m j o p=>K ⟨[(2,(op 0)),(3,(op 1)),(4,(op 2)),(7,(iv l)),(11,(iv ag))],(hq [(bN 0 [(iv 0),.nsl,.nsl,.nsl,.nsl,.nsl,.nsl,.nsl]),(bN 0 [(.imm a b 1 false c),(iv ah)]),(bN 0 [(iv g),(.own 300003 0 f),(.own 300004 0 d),(.own 300005 0 m),(.own 300006 0 j),(.own 300007 0 0),(.own 300008 0 0),(.own 300009 0 0)]),(bQ 1 h),(bQ 3 i),(bQ 12 o),(bQ 22 p),(bQ 9 []),(bQ 5 []),(bQ 4 [])])⟩
def kU (l:Int) (a:LA) (b:Nat) (c:Bool) (g:Int) (f d:Nat) (h i:LA) (K:St→O R):=fun ai aa ab ac=>K ⟨[(2,(op 0)),(3,(op 1)),(4,(op 2)),(7,(iv l)),(9,(iv ai))],(hq [(bN 0 [(iv 0),.nsl,.nsl,.nsl,.nsl,.nsl,.nsl,.nsl]),(bN 0 [(.imm a b 1 false c),(iv aa)]),(bN 0 [(iv g),(.own 300003 0 f),(.own 300004 0 d),(.own 300005 0 ab),(.own 300006 0 0),(.own 300007 0 0),(.own 300008 0 0),(.own 300009 0 0)]),(bQ 1 h),(bQ 3 i),(bQ 12 ac),(bQ 22 []),(bQ 9 []),(bQ 5 []),(bQ 4 [])])⟩
def wj (a:LA) (b:Nat) (c:Bool) (g:Int) (f d:Nat) (h i:LA) (K:St→O R):=fun l x aj v ak=>K ⟨[(2,(op 0)),(3,(op 1)),(4,(op 2)),(7,(iv l)),(8,(iv x))],(hq [(bN 0 [(iv 0),.nsl,.nsl,.nsl,.nsl,.nsl,.nsl,.nsl]),(bN 0 [(.imm a b 1 false c),(iv aj)]),(bN 0 [(iv g),(.own 300003 0 f),(.own 300004 0 d),(.own 300005 0 v),(.own 300006 0 0),(.own 300007 0 0),(.own 300008 0 0),(.own 300009 0 0)]),(bQ 1 h),(bQ 3 i),(bQ 12 ak),(bQ 22 []),(bQ 9 []),(bQ 5 []),(bQ 4 [])])⟩
def wk (a:LA) (b:Nat) (c:Bool) (f:Nat) (h:LA) (K:St→O R):=fun ad al g d i=>K ⟨[(2,(op 0)),(3,(op 1)),(4,(op 2)),(5,(iv ad))],(hq [(bN 0 [(iv 0),.nsl,.nsl,.nsl,.nsl,.nsl,.nsl,.nsl]),(bN 0 [(.imm a b 1 false c),(iv al)]),(bN 0 [(iv g),(.own 300003 0 f),(.own 300004 0 d),(.own 300005 0 0),(.own 300006 0 0),(.own 300007 0 0),(.own 300008 0 0),(.own 300009 0 0)]),(bQ 1 h),(bQ 3 i),(bQ 12 []),(bQ 22 []),(bQ 9 []),(bQ 5 []),(bQ 4 [])])⟩
theorem mv (Q2) (F:KF R) (l a b c g f d h i):wc l a b c g f d h i (Bh (Jt N F (pz 22369345) [Q2]))=(FQ N (kU l a b c g f d h i Q2) (Mz F) l a b c g f d h i):=by kernel_rfl
theorem mw (Q7) (F:KF R) (a b c g f d m j q s h i o p r t):wd a b c g f d m j q s h i o p r t (Bh (Jt N F (pz 5726622785) [Q7]))=(FR N (kT a b c g f d m j q s h i o p r t Q7) (Mz F) a b c g f d m j q s h i o p r t):=by kernel_rfl
theorem mz (F:KF R) (a b c g f d m j q s h i o p r t):∀ n,kT a b c g f d m j q s h i o p r t (Al (Jt N F (pz 357913924) []) n)=(Gm N (Mz F) a b c g f d m j q s h i o p r t n):=Eu fun n e=>(DZ (Tt N (Mz F) a b c g f d m j q s h i o p r t) e ((jW ..).trans ((mw ..).trans (ly (FR _ · _ _ _ _ _ _ _ _ _ _ _ _ _ _ _ _ _) e))):_)
theorem nA (F:KF R) (a b c g f d m j q h i o p r):wg a b c g f d m j q h i o p r (Bh (Jt N F (pz 5592405) []))=(FS N (Mz F) a b c g f d m j q h i o p r):=(Bp (LM N (Mz F) a b c g f d m j q h i o p r) (ZD fun s t=>(lW ..).trans (mz ..)):_)
theorem nB (F:KF R) (l a b c g f d m j h i o p):wh l a b c g f d m j h i o p (Bh (Jt N F (pz 1398101) []))=(Xk N (Mz F) l a b c g f d m j h i o p):=(Bp (Zd N (Mz F) l a b c g f d m j h i o p) (ZD fun q r=>(jW ..).trans (nA ..)):_)
theorem nC (F:KF R) (l a b c g f d h i):∀ n,wi l a b c g f d h i (Al (Jt N F (pz 5592388) []) n)=(Ls N (Mz F) l a b c g f d h i n):=Eu fun n e=>(DZ (Tu N (Mz F) l a b c g f d h i) e (zp fun m j o p=>(jW ..).trans (nB ..)):_)
theorem nD (F:KF R) (l a b c g f d h i):∀ n,kU l a b c g f d h i (Al (Jt N F (pz 1398084) []) n)=(Lt N (Mz F) l a b c g f d h i n):=Eu fun n e=>(Ajz (Tv N (Mz F) l a b c g f d h i) e ((jW ..).trans ((mv ..).trans (ly (FQ _ · _ _ _ _ _ _ _ _ _ _) e))) ((lW ..).trans (nC ..)):_)
theorem nE (F:KF R) (a b c g f d h i):∀ n,wj a b c g f d h i (Al (Jt N F (pz 349508) []) n)=(Rl N (Mz F) a b c g f d h i n):=Eu fun n e=>(DZ (Ze N (Mz F) a b c g f d h i) e (eo fun l=>(lW ..).trans (nD ..)):_)
theorem nF (F:KF R) (a b c f h):∀ n,wk a b c f h (Al (Jt N F (pz 21828) []) n)=(Js N (Mz F) a b c f h n):=Eu fun n e=>(DZ (Tx N (Mz F) a b c f h) e (Afz fun g d i=>(lW ..).trans (nE ..)):_)
def o7:=Cw N 10 (oZ N) kS (fun
 | [(.imm a b 1 ae c)],[]=>some fun _ k=>(NN N a b ae c (Mz k))
 | _,_=>none) fun _ _=>by split;intro R F;exact(Bp (WS N (Mz F) · _ _ _ _) (ZD fun f h=>(lW ..).trans (nF ..)):_).trans (d_ ..).symm;trivial
def LN (a:LA) (c:Bool) (b:Int) (r0:Nat→LA→O R):O R :=
 (cond (ble 8 (a.length)) (Rg N (a.take 8) c fun d e=>cond ((beq (d.length) 3)&&((ble 3 3)&&(!false))) (cond ((e != 0)==false) (cond ((cond false true (decide (b<0)))==false) (Ao .i64 a fun f=>cond (cond false true (decide (b≥f))) (r0 0 []) (cond (ble 8 (a.length)) (Hw N (a.take 8) c b fun g h=>r0 g h) none)) (r0 0 [])) (r0 0 [])) none) none)
def Xl:=(Ag (@LN R)).1
theorem LO:@Xl R=@LN R:=(Ag _).2
def rO:=Cw N 157 [LB N,HI N] { H:=hL,nils:=[(4,1)],modes:=[(2,1)] } (fun
 | [(.pagg a c),(.int .i64 b)],[]=>some fun _ k=>(Xl N a c b (Fi k))
 | _,_=>none) fun _ _=>by split;intro R F;dsimp only;rw[LO];kernel_rfl;trivial
def N4 (r0:Nat→LA→O R) (a:Int) (f:Nat) (c:Bool) (b g:LA) (k1:Nat→Int→Int→LA→O R) (h:Nat) (j i:Int) (l:LA):O R :=
 (cond (decide (i<j)) (cond (Af i f) (Ao .i64 (g.drop (0+((i.toNat)*1))) fun m=>Ba 4 (b.drop 7) fun o p=>cond (Af a p) (Ba 1 ((o.drop ((a.toNat)*4)).drop 1) fun q r=>Y4 N q r false c m fun s=>cond s (cond ((ble (h+1) 140737488355328)&&(ble ((h+1)*8) 140737488355328)) (k1 (h+1) j (wrap .i64 (i+1)) ((l.take (h*1))++[(.int .i64 m)])) none) (k1 h j (wrap .i64 (i+1)) l)) none) none) (r0 h l))
def Dz (r0:Nat→LA→O R) (a:Int) (f:Nat) (c:Bool) (b g:LA):Nat→Nat→Int→Int→LA→O R
 | 0,_,_,_,_=>none
 | n+1,h,j,i,l=>(N4 N r0 a f c b g (Dz r0 a f c b g n) h j i l)
def Ub (r0:Nat→LA→O R) (a d:Int) (c:Bool) (b:LA) (q1:Nat→LA→Nat→Int→Int→LA→O R):O R :=
 (cond (ble 8 (b.length)) (Xl N (b.take 8) c d fun f g=>q1 f g 0 (f:Int) 0 []) none)
def P9 (r0:Nat→LA→O R) (a d:Int) (c:Bool) (b:LA):O R:=(Ub N r0 a d c b fun f g=>Dz N r0 a f c b g N)
def Vy (N:Nat) (r0:Nat→LA→O R) (q0:O R) (b:LA) (c:Bool) (a d:Int):O R :=
 (cond ((decide (a<0))==false) (Ba 4 (b.drop 7) fun u t=>cond (cond false true (decide (a≥(t:Int)))) (r0 0 []) q0) (r0 0 []))
def Zf:=(Ag fun N b c a d r0=>Vy (R:=R) N r0 (P9 N r0 a d c b) b c a d).1
theorem HQ (b c a d e):(@Zf R N b c a d e)=(Vy N e (P9 N e a d c b) b c a d):=by rw[Zf,(Ag _).2]
def LP:Hints:={ H:=(hK 2 (hJ [1,2,3,7] hL (hS (hK 1 (hS (hP [1,3,7,21,22,23] hL) hL)) hL))),nils:=[(6,1),(7,1)],modes:=[(2,1)] }
def QD:Oi:=[rO N,NH N]
def LQ (F:KF R):=Ip Tryz.f102 LP (QD N) [] N F
def kV (a:Int) (f:Nat) (c:Bool) (b g:LA) (K:St→O R):=fun h j i l=>K ⟨[(1,(iv a)),(3,(op 0)),(7,(.own 300001 0 h)),(21,(.own 300002 0 f)),(22,(iv j)),(23,(iv i))],(hq [(bP c 0 b),(bQ 1 l),(bQ 1 g)])⟩
def kW (a d:Int) (c:Bool) (b:LA) (K:St→O R):=K ⟨[(1,(iv a)),(2,(iv d)),(3,(op 0)),(7,(.own 300001 0 0))],(hq [(bP c 0 b),(bQ 1 [])])⟩
theorem WT (F:KF R) (a f c b g):∀ n,kV a f c b g (Al (LQ N F (pz 5444) []) n)=(Dz N (Fi F) a f c b g n):=Eu fun n e=>(Bp (N4 N (Fi F) a f c b g) e:_)
theorem WU (F:KF R) (a d c b):kW a d c b (Bh (LQ N F (pz 85) []))=(P9 N (Fi F) a d c b):=(Bp (Ub N (Fi F) a d c b) (ZD fun f g=>(lW ..).trans (WT ..)):_)
def nG:=Cw N 102 (QD N) LP (fun
 | [(.pagg b c),(.int .i64 a),(.int .i64 d)],[]=>some fun _ k=>(Zf N b c a d (Fi k))
 | _,_=>none) fun _ _=>by split;intro R F;exact(Bp (Vy N (Fi F) · _ _ _ _) ((jW ..).trans (WU ..)):_).trans (HQ ..).symm;trivial
def FT (a:LA) (b:Bool) (c d:Int) (r0:Bool→O R):O R :=
 (cond (ble 8 (a.length)) (Zf N (a.take 8) b d c fun e f=>r0 (decide ((e:Int)>0))) none)
def Zg:=(Ag (@FT R)).1
theorem HR:@Zg R=@FT R:=(Ag _).2
def nH:=Cw N 58 [nG N] Fq (fun
 | [(.pagg a b),(.int .i64 c),(.int .i64 d)],[]=>some fun _ k=>(Zg N a b c d (Bq k))
 | _,_=>none) fun _ _=>by split;intro R F;dsimp only;rw[HR];kernel_rfl;trivial
def Zh (k0:Nat→Int→Int→LA→O R) (r0:Nat→LA→O R) (c:LA) (b:Nat) (f g d:Bool) (a:LA) (k1:Nat→Int→Int→Int→LA→O R) (h:Nat) (i j l:Int) (m:LA):O R :=
 (Ba 4 (a.drop 7) fun y s=>cond (decide (l<(s:Int))) (cond (ble 8 (a.length)) (Zg N (a.take 8) d j l fun t=>cond (t==true) (cond ((cond true (decide (i<(b:Int))) false)==true) (cond (Af i b) (Ao .i64 (c.drop ((i.toNat)*1)) fun u=>cond (cond true ((Int.tmod u 2)==0) false) (cond ((ble (h+1) 140737488355328)&&(ble ((h+1)*16) 140737488355328)) (k1 (h+1) (wrap .i64 (i+1)) j (wrap .i64 (l+1)) ((m.take (h*2))++[(.int .i64 j),(.int .i64 l)])) none) (k1 h (wrap .i64 (i+1)) j (wrap .i64 (l+1)) m)) none) (k1 h (wrap .i64 (i+1)) j (wrap .i64 (l+1)) m)) (k1 h (wrap .i64 (i+1)) j (wrap .i64 (l+1)) m)) none) (k0 h i (wrap .i64 (j+1)) m))
def De (k0:Nat→Int→Int→LA→O R) (r0:Nat→LA→O R) (c:LA) (b:Nat) (f g d:Bool) (a:LA):Nat→Nat→Int→Int→Int→LA→O R
 | 0,_,_,_,_,_=>none
 | n+1,h,i,j,l,m=>(Zh N k0 r0 c b f g d a (De k0 r0 c b f g d a n) h i j l m)
def Zi (N:Nat) (r0:Nat→LA→O R) (c:LA) (b:Nat) (f g d:Bool) (a:LA) (k0:Nat→Int→Int→LA→O R) (q1:Nat→Int→Int→Int→LA→O R) (o:Nat) (r p:Int) (q:LA):O R :=
 (Ao .i64 a fun v=>cond (decide (p<v)) (q1 o r p 0 q) (r0 o q))
def Ju (r0:Nat→LA→O R) (c:LA) (b:Nat) (f g d:Bool) (a:LA):Nat→Nat→Int→Int→LA→O R
 | 0,_,_,_,_=>none
 | n+1,o,r,p,q=>(Zi N r0 c b f g d a (Ju r0 c b f g d a n) (De N (Ju r0 c b f g d a n) r0 c b f g d a N) o r p q)
def WV (N:Nat) (r0:Nat→LA→O R) (q0:Nat→Int→Int→LA→O R) (a:LA) (d:Bool) (c:LA) (b:Nat) (f g:Bool):O R :=
 (q0 0 0 0 [])
def WW:=(Ag fun N a d c b f g r0=>WV (R:=R) N r0 (Ju N r0 c b f g d a N) a d c b f g).1
theorem dt (a d c b f g e):(@WW R N a d c b f g e)=(WV N e (Ju N e c b f g d a N) a d c b f g):=by rw[WW,(Ag _).2]
def kX:Hints:={ H:=(hK 3 (hS (hK 1 (hS (hP [1,2,5,6,7] (hK 1 (hS (hS (hK 1 (hS (hP [1,2,5,6,7,8] hL) hL)) hL) hL))) hL)) hL)),nils:=[(4,2),(5,2)],modes:=[(2,2)] }
def o8:Oi:=[nH N]
def kY (F:KF R):=Ip Tryz.f26 kX (o8 N) [] N F
def Rm (F:KF R):Nat→LA→O R:=(fun w x=>F (.own 300000 0 w) (hq [(bQ 2 x)]))
def wl (c:LA) (b:Nat) (f g d:Bool) (a:LA) (K:St→O R):=fun h i j l m=>K ⟨[(1,(.imm c b 1 f g)),(2,(op 0)),(5,(.own 300001 0 h)),(6,(iv i)),(7,(iv j)),(8,(iv l))],(hq [(bP d 0 a),(bQ 2 m)])⟩
def RU (c:LA) (b:Nat) (f g d:Bool) (a:LA) (K:St→O R):=fun o r p q=>K ⟨[(1,(.imm c b 1 f g)),(2,(op 0)),(5,(.own 300001 0 o)),(6,(iv r)),(7,(iv p))],(hq [(bP d 0 a),(bQ 2 q)])⟩
theorem nI (Q0) (F:KF R) (c b f g d a):∀ n,wl c b f g d a (Al (kY N F (pz 22298884) [Q0]) n)=(De N (RU c b f g d a Q0) (Rm F) c b f g d a n):=Eu fun n e=>(Bp (Zh N (RU c b f g d a Q0) (Rm F) c b f g d a) e:_)
theorem nK (F:KF R) (c b f g d a):∀ n,RU c b f g d a (Al (kY N F (pz 5444) []) n)=(Ju N (Rm F) c b f g d a n):=Eu fun n e=>(DZ (Zi N (Rm F) c b f g d a) e ((lW ..).trans ((nI ..).trans (ly (De _ · _ _ _ _ _ _ _ _) e))):_)
def zL:=Cw N 26 (o8 N) kX (fun
 | [(.pagg a d),(.imm c b 1 f g)],[]=>some fun _ k=>(WW N a d c b f g (Rm k))
 | _,_=>none) fun _ _=>by split;intro R F;exact(Bp (WV N (Rm F) · _ _ _ _ _ _) ((lW ..).trans (nK ..)):_).trans (dt ..).symm;trivial
def Lv (k0:Nat→Int→LA→Int→O R) (r0:Nat→LA→O R) (g:Nat) (h:Int) (f:Bool) (d i a:LA) (b:Nat) (c:Bool) (l:Int) (k1:Int→Int→Nat→LA→O R) (m q:Int) (j:Nat) (o:LA):O R :=
 (Ba 22 (d.drop 4) fun al u=>cond (decide (m<(u:Int))) (Ab N 2 a b false c q fun v s=>cond ((v==1)==false) (cond (((j:Int)==0)==true) (Ba 22 (d.drop 4) fun am w=>cond (cond false true (cond true (m==(wrap .i64 ((w:Int) - 1))) false)) (cond ((ble (j+1) 140737488355328)&&(ble ((j+1)*8) 140737488355328)) (k1 (wrap .i64 (m+1)) s (j+1) ((o.take (j*1))++[(.int .i64 m)])) none) (k1 (wrap .i64 (m+1)) s j o)) (k1 (wrap .i64 (m+1)) s j o)) (cond ((ble (j+1) 140737488355328)&&(ble ((j+1)*8) 140737488355328)) (k1 (wrap .i64 (m+1)) s (j+1) ((o.take (j*1))++[(.int .i64 m)])) none)) (Ab N (j:Int) a b false c q fun x y=>cond ((ble (g+1) 140737488355328)&&(ble ((g+1)*64) 140737488355328)) (k0 (g+1) (wrap .i64 (h - 1)) ((i.take (g*6))++[(.int .i64 0),(.int .i64 l),(.imm (o.take (j*1)) j 1 false false),(.int .i64 (wrap .i64 (1+x))),(.int .i64 0),(.int .i64 0)]) y) none))
def En (k0:Nat→Int→LA→Int→O R) (r0:Nat→LA→O R) (g:Nat) (h:Int) (f:Bool) (d i a:LA) (b:Nat) (c:Bool) (l:Int):Nat→Int→Int→Nat→LA→O R
 | 0,_,_,_,_=>none
 | n+1,m,q,j,o=>(Lv N k0 r0 g h f d i a b c l (En k0 r0 g h f d i a b c l n) m q j o)
def Ty (r0:Nat→LA→O R) (f:Bool) (d a:LA) (b:Nat) (c:Bool) (k0:Nat→Int→LA→Int→O R) (q1:Nat→Int→LA→Int→Int→Int→Nat→LA→O R) (g:Nat) (h:Int) (i:LA) (r:Int):O R :=
 (cond (decide (h>0)) (Ao .i64 d fun z=>Ab N z a b false c r fun l aa=>Ab N 2 a b false c aa fun ab t=>cond (ab==0) (Ba 22 (d.drop 4) fun an ac=>Ab N (ac:Int) a b false c t fun ad ae=>Ab N (wrap .i64 (l+1)) a b false c ae fun af ag=>cond ((ble (g+1) 140737488355328)&&(ble ((g+1)*64) 140737488355328)) (k0 (g+1) (wrap .i64 (h - 1)) ((i.take (g*6))++[(.int .i64 1),(.int .i64 l),(.imm [] 0 1 false false),(.int .i64 0),(.int .i64 ad),(.int .i64 af)]) ag) none) (q1 g h i l 0 t 0 [])) (r0 g i))
def Eo (r0:Nat→LA→O R) (f:Bool) (d a:LA) (b:Nat) (c:Bool):Nat→Nat→Int→LA→Int→O R
 | 0,_,_,_,_=>none
 | n+1,g,h,i,r=>(Ty N r0 f d a b c (Eo r0 f d a b c n) (fun g h i l=>En N (Eo r0 f d a b c n) r0 g h f d i a b c l N) g h i r)
def WX (r0:Nat→LA→O R) (q0:Nat→Int→LA→Int→O R) (d:LA) (f:Bool) (a:LA) (b:Nat) (p c:Bool):O R :=
 (kM N a b false c (Ab N 4 a b false c 0 fun ah ai=>q0 0 ah [] ai))
def WY:=(Ag fun N d f a b p c r0=>WX (R:=R) N r0 (Eo N r0 f d a b c N) d f a b p c).1
theorem du (d f a b p c e):(@WY R N d f a b p c e)=(WX N e (Eo N e f d a b c N) d f a b p c):=by rw[WY,(Ag _).2]
def kZ:Hints:={ H:=(hK 3 (hS (hK 1 (hS (hP [2,5,6,7] (hK 1 (hS (hS (hK 3 (hS (hK 1 (hS (hP [2,5,6,7,9,10] hL) hL)) hL)) hL) hL))) hL)) hL)),nils:=[(4,6),(5,6)],modes:=[(2,6)],cob:=[37,41] }
def o9:Oi:=[kN N,Dw N]
def k8 (F:KF R):=Ip Tryz.f27 kZ (o9 N) [] N F
def Rn (F:KF R):Nat→LA→O R:=(fun aj ak=>F (.own 300000 0 aj) (hq [(bQ 6 ak)]))
def wm (g:Nat) (h:Int) (f:Bool) (d i a:LA) (b:Nat) (c:Bool) (l:Int) (K:St→O R):=fun m q j o=>K ⟨[(2,(op 0)),(5,(.own 300001 0 g)),(6,(op 2)),(7,(iv h)),(9,(op 3)),(10,(iv m))],(hq [(bP f 0 d),(bQ 6 i),(bN 0 [(.imm a b 1 false c),(iv q)]),(bN 0 [(iv 0),(iv l),(.own 300004 0 j),(iv 0),(iv 0),(iv 0)]),(bQ 1 o)])⟩
def RV (f:Bool) (d a:LA) (b:Nat) (c:Bool) (K:St→O R):=fun g h i r=>K ⟨[(2,(op 0)),(5,(.own 300001 0 g)),(6,(op 2)),(7,(iv h))],(hq [(bP f 0 d),(bQ 6 i),(bN 0 [(.imm a b 1 false c),(iv r)])])⟩
theorem nL (Q0) (F:KF R) (g h f d i a b c l):∀ n,wm g h f d i a b c l (Al (k8 N F (pz 5708514628) [Q0]) n)=(En N (RV f d a b c Q0) (Rn F) g h f d i a b c l n):=Eu fun n e=>(Bp (Lv N (RV f d a b c Q0) (Rn F) g h f d i a b c l) e:_)
theorem nM (F:KF R) (f d a b c):∀ n,RV f d a b c (Al (k8 N F (pz 5444) []) n)=(Eo N (Rn F) f d a b c n):=Eu fun n e=>(DZ (Ty N (Rn F) f d a b c) e (zp fun g h i l=>(lW ..).trans ((nL ..).trans (ly (En _ · _ _ _ _ _ _ _ _ _ _ _) e))):_)
def zM:=Cw N 27 (o9 N) kZ (fun
 | [(.pagg d f),(.imm a b 1 p c)],[]=>some fun _ k=>(WY N d f a b p c (Rn k))
 | _,_=>none) fun _ _=>by split;intro R F;exact(Bp (WX N (Rn F) · _ _ _ _ _ _) ((lW ..).trans (nM ..)):_).trans (du ..).symm;trivial
def Mq (a:LA) (b:Nat) (c d:Bool) (e:Int) (r0:LA→Int→O R):O R :=
 (Ab N 12 a b c d e fun f i=>cond (decide ((wrap .i64 (f - 6))≥0)) (Ab N 3 a b c d i fun j l=>ik N (wrap .i64 ((wrap .i64 (f - 6))+1)) (wrap .i64 (1+j)) fun g=>cond ((beq 0 0)&&((beq (g.length) 3)&&(beq 3 3))) (cond (ble 3 (g.length)) (r0 (g.take 3) l) none) none) (Ab N 3 a b c d i fun m n=>ik N (wrap .i64 (f - 6)) (wrap .i64 (1+m)) fun h=>cond ((beq 0 0)&&((beq (h.length) 3)&&(beq 3 3))) (cond (ble 3 (h.length)) (r0 (h.take 3) n) none) none))
def N5:=(Ag (@Mq R)).1
theorem M5:@N5 R=@Mq R:=(Ag _).2
def WZ:=Cw N 29 [Dw N,Aax N] BB (fun
 | [(.optr 100000 0)],[(100000,⟨false,false,false,false,0,[(.imm a b 1 c d),(.int .i64 e)],false,none⟩)]=>some fun _ k=>(N5 N a b c d e (ZF a b c d k))
 | _,_=>none) fun _ _=>by split;intro R F;dsimp only;rw[M5];kernel_rfl;trivial
def Oe (N:Nat) (k0:Int→Int→Nat→LA→O R) (r0:Nat→Nat→Nat→LA→LA→LA→O R) (f:Bool) (d a:LA) (b:Nat) (c:Bool) (g h:Nat) (i j:LA) (ar au:Int) (p:Nat) (an av aw ax:Int) (ae:Nat) (ay az:LA):O R :=
 (cond (an==0) (cond ((ble (p+1) 140737488355328)&&(ble ((p+1)*56) 140737488355328)) (k0 (wrap .i64 ((wrap .i64 (ar - 1))+3)) au (p+1) ((ay.take (p*5))++[(.int .i64 an),(.int .i64 av),(.int .i64 aw),(.int .i64 ax),(.imm (az.take (ae*4)) ae 4 false false)])) none) (cond ((ble (p+1) 140737488355328)&&(ble ((p+1)*56) 140737488355328)) (k0 (wrap .i64 (ar - 1)) au (p+1) ((ay.take (p*5))++[(.int .i64 an),(.int .i64 av),(.int .i64 aw),(.int .i64 ax),(.imm (az.take (ae*4)) ae 4 false false)])) none))
def Zj (k0:Int→Int→Nat→LA→O R) (r0:Nat→Nat→Nat→LA→LA→LA→O R) (f:Bool) (d a:LA) (b:Nat) (c:Bool) (g h:Nat) (i j:LA) (k5:Int→Int→Int→Int→Nat→Int→Nat→LA→LA→O R) (q4:Int→Int→Nat→Int→Int→Int→Int→Nat→LA→LA→O R) (af w ag ah:Int) (ai:Nat) (aj:Int) (q:Nat) (ak al:LA):O R :=
 (cond (decide (ag>0)) (Ab N 9 a b false c ah fun bb bi=>N5 N a b false c bi fun bc bj=>cond ((beq (bc.length) 3)&&(ble 4 4)) (cond ((beq ((setCells [(.int .i64 (wrap .i64 (w+(wrap .i64 (1+bb))))),(.bool false),.nsl,.nsl] 1 bc).length) 4)&&(ble 4 4)) (cond ((ble (q+1) 140737488355328)&&(ble ((q+1)*64) 140737488355328)) (k5 af (wrap .i64 (w+(wrap .i64 (1+bb)))) (wrap .i64 (ag - 1)) bj ai aj (q+1) ak ((al.take (q*4))++((setCells [(.int .i64 0),(.bool false),.nsl,.nsl] 0 (setCells [(.int .i64 (wrap .i64 (w+(wrap .i64 (1+bb))))),(.bool false),.nsl,.nsl] 1 bc)).take 4))) none) none) none) (q4 af ah ai aj 0 0 0 q ak al))
def Ro (k0:Int→Int→Nat→LA→O R) (r0:Nat→Nat→Nat→LA→LA→LA→O R) (f:Bool) (d a:LA) (b:Nat) (c:Bool) (g h:Nat) (i j:LA):Nat→Int→Int→Int→Int→Nat→Int→Nat→LA→LA→O R
 | 0,_,_,_,_,_,_,_,_,_=>none
 | n+1,af,w,ag,ah,ai,aj,q,ak,al=>(Zj N k0 r0 f d a b c g h i j (Ro k0 r0 f d a b c g h i j n) (Oe N k0 r0 f d a b c g h i j) af w ag ah ai aj q ak al)
def Ox (k0:Int→Int→Nat→LA→O R) (r0:Nat→Nat→Nat→LA→LA→LA→O R) (f:Bool) (d a:LA) (b:Nat) (c:Bool) (l:Int) (g h:Nat) (i j:LA) (q4:Int→Int→Nat→Int→Int→Int→Int→Nat→LA→LA→O R) (q5:Int→Int→Int→Int→Nat→Int→Nat→LA→LA→O R) (r:Int) (ao:Bool) (s:Nat) (m:Int) (t:LA):O R :=
 (cond ao (Ba 22 (d.drop 4) fun cb bk=>Ab N (bk:Int) a b false c l fun ba bd=>cond (m != 3) (Ao .i64 d fun bl=>Ab N bl a b false c bd fun bf bg=>cond (m==4) (Ba 22 (d.drop 4) fun cc bm=>Ab N (bm:Int) a b false c bg fun bn bo=>q4 r bo s m ba bf bn 0 t []) (q4 r bg s m ba bf 0 0 t [])) (cond (m==4) (Ba 22 (d.drop 4) fun cd bp=>Ab N (bp:Int) a b false c bd fun bq br=>q4 r br s m ba 0 bq 0 t []) (q4 r bd s m ba 0 0 0 t []))) (Ab N 4 a b false c l fun bs bt=>q5 r (-1) bs bt s m 0 t []))
def Lw (k0:Int→Int→Nat→LA→O R) (r0:Nat→Nat→Nat→LA→LA→LA→O R) (f:Bool) (d a:LA) (b:Nat) (c:Bool) (l:Int) (g h:Nat) (i j:LA) (r:Int) (ao:Bool) (s:Nat) (m:Int) (t:LA):O R:=(Ox N k0 r0 f d a b c l g h i j (Oe N k0 r0 f d a b c g h i j) (Ro N k0 r0 f d a b c g h i j N) r ao s m t)
def LR (N:Nat) (k0:Int→Int→Nat→LA→O R) (r0:Nat→Nat→Nat→LA→LA→LA→O R) (f:Bool) (d a:LA) (b:Nat) (c:Bool) (l:Int) (g h:Nat) (i j:LA) (q3:Int→Bool→Nat→Int→LA→O R) (x:Int) (y:Nat) (o:Int) (z:LA):O R :=
 (cond (o==0) (q3 x (o==0) y o z) (cond (o==3) (q3 x (o==3) y o z) (q3 x (o==4) y o z)))
def Rp (k0:Int→Int→Nat→LA→O R) (r0:Nat→Nat→Nat→LA→LA→LA→O R) (f:Bool) (d a:LA) (b:Nat) (c:Bool) (l:Int) (g h:Nat) (i j:LA) (x:Int) (y:Nat) (o:Int) (z:LA):O R:=(LR N k0 r0 f d a b c l g h i j (Lw N k0 r0 f d a b c l g h i j) x y o z)
def Tz (k0:Int→Int→Nat→LA→O R) (r0:Nat→Nat→Nat→LA→LA→LA→O R) (f:Bool) (d a:LA) (b:Nat) (c:Bool) (g h:Nat) (i j:LA) (q2:Int→Int→Nat→Int→LA→O R) (aa ap:Int) (u:Nat) (ab:LA):O R :=
 (Ab N 7 a b false c ap fun bh l=>cond (Af bh 7) (Ao .i64 (drop (0+((bh.toNat)*1)) [(.int .i64 1),(.int .i64 0),(.int .i64 2),(.int .i64 0),(.int .i64 3),(.int .i64 4),(.int .i64 1)]) fun be=>cond ((decide ((u:Int)>15))==true) (cond (cond true (be==0) false) (q2 l aa u 1 ab) (q2 l aa u be ab)) (q2 l aa u be ab)) none)
def Lx (k0:Int→Int→Nat→LA→O R) (r0:Nat→Nat→Nat→LA→LA→LA→O R) (f:Bool) (d a:LA) (b:Nat) (c:Bool) (g h:Nat) (i j:LA) (aa ap:Int) (u:Nat) (ab:LA):O R:=(Tz N k0 r0 f d a b c g h i j (fun l=>Rp N k0 r0 f d a b c l g h i j) aa ap u ab)
def T0 (N:Nat) (r0:Nat→Nat→Nat→LA→LA→LA→O R) (f:Bool) (d a:LA) (b:Nat) (c:Bool) (g h:Nat) (i j:LA) (k0:Int→Int→Nat→LA→O R) (q1:Int→Int→Nat→LA→O R) (am aq:Int) (v:Nat) (ac:LA):O R :=
 (cond ((decide (am>0))==true) (cond (cond true (decide ((v:Int)<30)) false) (q1 am aq v ac) (r0 g h v i j ac)) (r0 g h v i j ac))
def H0 (r0:Nat→Nat→Nat→LA→LA→LA→O R) (f:Bool) (d a:LA) (b:Nat) (c:Bool) (g h:Nat) (i j:LA):Nat→Int→Int→Nat→LA→O R
 | 0,_,_,_,_=>none
 | n+1,am,aq,v,ac=>(T0 N r0 f d a b c g h i j (H0 r0 f d a b c g h i j n) (Lx N (H0 r0 f d a b c g h i j n) r0 f d a b c g h i j) am aq v ac)
def W_ (r0:Nat→Nat→Nat→LA→LA→LA→O R) (q0:Nat→Nat→LA→LA→Int→Int→Nat→LA→O R) (d:LA) (f:Bool) (a:LA) (b:Nat) (ad c:Bool):O R :=
 (kM N a b false c (cond (ble 8 (d.length)) (WW N (d.take 8) f a b false c fun g i=>cond (ble 8 (d.length)) (WY N (d.take 8) f a b false c fun h j=>q0 g h i j 1 0 0 []) none) none))
def NO:=(Ag fun N d f a b ad c r0=>W_ (R:=R) N r0 (fun g h i j=>H0 N r0 f d a b c g h i j N) d f a b ad c).1
theorem dv (d f a b ad c e):(@NO R N d f a b ad c e)=(W_ N e (fun g h i j=>H0 N e f d a b c g h i j N) d f a b ad c):=by rw[NO,(Ag _).2]
def k_:Hints:={ H:=(hK 4 (hS (hS (hP [2,4,5,6,7] (hJ [2,4,5,6,7] hL (hS (hK 1 (hJ [2,4,5,6,7,8] hL (hJ [2,4,5,6,7,8] (hK 1 (hS (hJ [2,4,5,6,7,8,66] hL (hK 3 (hS (hP [2,4,5,6,7,8,9,10] hL) hL))) hL)) hL))) hL))) hL) hL)),modes:=[(0,0)],cob:=[19,33] }
def o_:Oi:=[kN N,zL N,zM N,Dw N,WZ N]
def Rq (F:KF R):=Ip Tryz.f9 k_ (o_ N) [] N F
def Ep (F:KF R):Nat→Nat→Nat→LA→LA→LA→O R:=(fun bu bv bw bx bz ca=>F (.agg [(.own 300000 0 bu),(.own 300001 0 bv),(.own 300002 0 bw)]) (hq [(bQ 2 bx),(bQ 6 bz),(bQ 5 ca)]))
def wo (f:Bool) (d a:LA) (b:Nat) (c:Bool) (g h:Nat) (i j:LA) (K:St→O R):=fun ar au p an av aw ax ae ay az=>K ⟨[(2,(op 0)),(4,(op 1)),(5,(op 2)),(6,(op 3)),(7,(iv ar)),(8,(op 4))],(hq [(bP f 0 d),(bN 0 [.nsl,.nsl,.nsl]),(bN 0 [(.imm a b 1 false c),(iv au)]),(bN 0 [(.own 300005 0 g),(.own 300006 0 h),(.own 300007 0 p)]),(bN 0 [(iv an),(iv av),(iv aw),(iv ax),(.own 300008 0 ae)]),(bQ 2 i),(bQ 6 j),(bQ 5 ay),(bQ 4 az)])⟩
def wq (f:Bool) (d a:LA) (b:Nat) (c:Bool) (g h:Nat) (i j:LA) (K:St→O R):=fun af w ag ah ai aj q ak al=>K ⟨[(2,(op 0)),(4,(op 1)),(5,(op 2)),(6,(op 3)),(7,(iv af)),(8,(op 4)),(9,(iv w)),(10,(iv ag))],(hq [(bP f 0 d),(bN 0 [.nsl,.nsl,.nsl]),(bN 0 [(.imm a b 1 false c),(iv ah)]),(bN 0 [(.own 300005 0 g),(.own 300006 0 h),(.own 300007 0 ai)]),(bN 0 [(iv aj),(iv 0),(iv 0),(iv 0),(.own 300008 0 q)]),(bQ 2 i),(bQ 6 j),(bQ 5 ak),(bQ 4 al)])⟩
def wt (f:Bool) (d a:LA) (b:Nat) (c:Bool) (l:Int) (g h:Nat) (i j:LA) (K:St→O R):=fun r ao s m t=>K ⟨[(2,(op 0)),(4,(op 1)),(5,(op 2)),(6,(op 3)),(7,(iv r)),(8,(op 4)),(66,(.bool ao))],(hq [(bP f 0 d),(bN 0 [.nsl,.nsl,.nsl]),(bN 0 [(.imm a b 1 false c),(iv l)]),(bN 0 [(.own 300005 0 g),(.own 300006 0 h),(.own 300007 0 s)]),(bN 0 [(iv m),(iv 0),(iv 0),(iv 0),(.own 300008 0 0)]),(bQ 2 i),(bQ 6 j),(bQ 5 t),(bQ 4 [])])⟩
def wu (f:Bool) (d a:LA) (b:Nat) (c:Bool) (l:Int) (g h:Nat) (i j:LA) (K:St→O R):=fun x y o z=>K ⟨[(2,(op 0)),(4,(op 1)),(5,(op 2)),(6,(op 3)),(7,(iv x)),(8,(op 4))],(hq [(bP f 0 d),(bN 0 [.nsl,.nsl,.nsl]),(bN 0 [(.imm a b 1 false c),(iv l)]),(bN 0 [(.own 300005 0 g),(.own 300006 0 h),(.own 300007 0 y)]),(bN 0 [(iv o),(iv 0),(iv 0),(iv 0),(.own 300008 0 0)]),(bQ 2 i),(bQ 6 j),(bQ 5 z),(bQ 4 [])])⟩
def wv (f:Bool) (d a:LA) (b:Nat) (c:Bool) (g h:Nat) (i j:LA) (K:St→O R):=fun aa ap u ab=>K ⟨[(2,(op 0)),(4,(op 1)),(5,(op 2)),(6,(op 3)),(7,(iv aa))],(hq [(bP f 0 d),(bN 0 [.nsl,.nsl,.nsl]),(bN 0 [(.imm a b 1 false c),(iv ap)]),(bN 0 [(.own 300004 0 g),(.own 300005 0 h),(.own 300006 0 u)]),(bQ 2 i),(bQ 6 j),(bQ 5 ab)])⟩
def H1 (f:Bool) (d a:LA) (b:Nat) (c:Bool) (g h:Nat) (i j:LA) (K:St→O R):=fun am aq v ac=>K ⟨[(2,(op 0)),(4,(op 1)),(5,(op 2)),(6,(op 3)),(7,(iv am))],(hq [(bP f 0 d),(bN 0 [.nsl,.nsl,.nsl]),(bN 0 [(.imm a b 1 false c),(iv aq)]),(bN 0 [(.own 300004 0 g),(.own 300005 0 h),(.own 300006 0 v)]),(bQ 2 i),(bQ 6 j),(bQ 5 ac)])⟩
theorem QE (Q0) (F:KF R) (f d a b c g h i j):wo f d a b c g h i j (Bh (Rq N F (pz 22348053) [Q0]))=(Oe N (H1 f d a b c g h i j Q0) (Ep F) f d a b c g h i j):=by kernel_rfl
theorem nN (Q0) (F:KF R) (f d a b c g h i j):∀ n,wq f d a b c g h i j (Al (Rq N F (pz 366150488404) [Q0]) n)=(Ro N (H1 f d a b c g h i j Q0) (Ep F) f d a b c g h i j n):=Eu fun n e=>(DZ (Zj N (H1 f d a b c g h i j Q0) (Ep F) f d a b c g h i j) e ((jW ..).trans (QE ..)):_)
theorem nO (Q0) (F:KF R) (f d a b c l g h i j):wt f d a b c l g h i j (Bh (Rq N F (pz 1430275345) [Q0]))=(Lw N (H1 f d a b c g h i j Q0) (Ep F) f d a b c l g h i j):=(DZ (Ox N (H1 f d a b c g h i j Q0) (Ep F) f d a b c l g h i j) ((jW ..).trans (QE ..)) ((lW ..).trans (nN ..)):_)
theorem nP (Q0) (F:KF R) (f d a b c l g h i j):wu f d a b c l g h i j (Bh (Rq N F (pz 5587013) [Q0]))=(Rp N (H1 f d a b c g h i j Q0) (Ep F) f d a b c l g h i j):=(Bp (LR N (H1 f d a b c g h i j Q0) (Ep F) f d a b c l g h i j) ((jW ..).trans (nO ..)):_)
theorem nQ (Q0) (F:KF R) (f d a b c g h i j):wv f d a b c g h i j (Bh (Rq N F (pz 87297) [Q0]))=(Lx N (H1 f d a b c g h i j Q0) (Ep F) f d a b c g h i j):=(Bp (Tz N (H1 f d a b c g h i j Q0) (Ep F) f d a b c g h i j) (eo fun l=>(jW ..).trans (nP ..)):_)
theorem nR (F:KF R) (f d a b c g h i j):∀ n,H1 f d a b c g h i j (Al (Rq N F (pz 5456) []) n)=(H0 N (Ep F) f d a b c g h i j n):=Eu fun n e=>(DZ (T0 N (Ep F) f d a b c g h i j) e ((jW ..).trans ((nQ ..).trans (ly (Lx _ · _ _ _ _ _ _ _ _ _ _) e))):_)
def oa:=Cw N 9 (o_ N) k_ (fun
 | [(.pagg d f),(.imm a b 1 ad c)],[]=>some fun _ k=>(NO N d f a b ad c (Ep k))
 | _,_=>none) fun _ _=>by split;intro R F;exact(Bp (W_ N (Ep F) · _ _ _ _ _ _) (zp fun g h i j=>(lW ..).trans (nR ..)):_).trans (dv ..).symm;trivial
def FU (g f b:Nat) (n m e:Int) (h d a:LA) (r0:Nat→LA→LA→O R) (r1:Nat→LA→O R):O R :=
 (cond ((b:Int)==0) (r0 b d a) (AD N m (b:Int) fun c=>cond (Af c b) (AD N n 9 fun i=>cond (i==0) (cond ((beq 1 1)&&((ble ((0+((c.toNat)*5))+1) (a.length))&&(!false))) (r0 b d (a.set (0+((c.toNat)*5)) (.int .i64 (Int.tmod e 6)))) none) (cond (i==1) (Ao .i64 (a.drop ((0+((c.toNat)*5))+1)) fun r=>cond ((beq 1 1)&&((ble (((0+((c.toNat)*5))+1)+1) (a.length))&&(!false))) (r0 b d (a.set ((0+((c.toNat)*5))+1) (.int .i64 (wrap .i64 (r+(Int.tmod e 4)))))) none) (cond (i==2) (Ao .i64 (a.drop ((0+((c.toNat)*5))+2)) fun s=>cond ((beq 1 1)&&((ble (((0+((c.toNat)*5))+2)+1) (a.length))&&(!false))) (r0 b d (a.set ((0+((c.toNat)*5))+2) (.int .i64 (wrap .i64 (s+(Int.tmod e 4)))))) none) (cond (i==3) (Ao .i64 (a.drop ((0+((c.toNat)*5))+3)) fun t=>cond ((beq 1 1)&&((ble (((0+((c.toNat)*5))+3)+1) (a.length))&&(!false))) (r0 b d (a.set ((0+((c.toNat)*5))+3) (.int .i64 (wrap .i64 (t+(Int.tmod e 4)))))) none) (cond (i==4) (Ba 4 (a.drop ((0+((c.toNat)*5))+4)) fun u l=>cond ((ble (0+l) 140737488355328)&&(ble ((0+l)*64) 140737488355328)) (Yc N (Int.tmod e 3) fun o=>cond ((beq (o.length) 3)&&(ble 4 4)) (cond ((beq ((setCells [(.int .i64 (Int.tmod e 20)),(.bool false),.nsl,.nsl] 1 o).length) 4)&&(ble 4 4)) (cond ((ble ((0+l)+1) 140737488355328)&&(ble (((0+l)+1)*64) 140737488355328)) (cond ((beq 1 1)&&((ble (((0+((c.toNat)*5))+4)+1) (a.length))&&(!false))) (r0 b d (a.set ((0+((c.toNat)*5))+4) (.imm (take (((0+l)+1)*4) ((u.take ((0+l)*4))++((setCells [(.int .i64 0),(.bool false),.nsl,.nsl] 0 (setCells [(.int .i64 (Int.tmod e 20)),(.bool false),.nsl,.nsl] 1 o)).take 4))) ((0+l)+1) 4 false false))) none) none) none) none) none) (cond (i==5) (cond ((decide ((0:Int)≤(0:Int)))&&((decide (0≤c))&&((decide (c≤(b:Int)))&&(decide ((b:Int)≤(b:Int)))))) (r0 (c.toNat) d a) none) (cond (i==6) (cond ((ble (0+b) 140737488355328)&&(ble ((0+b)*56) 140737488355328)) (cond (Af c b) (cond (ble 5 ((a.drop (0+((c.toNat)*5))).length)) (cond ((beq (((a.drop (0+((c.toNat)*5))).take 5).length) 5)&&(ble 5 5)) (cond ((ble ((0+b)+1) 140737488355328)&&(ble (((0+b)+1)*56) 140737488355328)) (r1 ((0+b)+1) (((a.take (b*5)).take ((0+b)*5))++((setCells [(.int .i64 0),(.int .i64 0),(.int .i64 0),(.int .i64 0),.nsl] 0 ((a.drop (0+((c.toNat)*5))).take 5)).take 5))) none) none) none) none) none) (cond (i==7) (cond (decide ((f:Int)>0)) (AD N m (f:Int) fun j=>cond (Af j f) (Ao .i64 (d.drop ((0+((j.toNat)*6))+4)) fun q=>Ao .i64 (d.drop ((0+((j.toNat)*6))+3)) fun v=>cond ((beq 1 1)&&((ble (((0+((j.toNat)*6))+4)+1) (d.length))&&(!false))) (cond ((beq 1 1)&&((ble (((0+((j.toNat)*6))+3)+1) ((d.set ((0+((j.toNat)*6))+4) (.int .i64 (wrap .i64 (q+(Int.tmod e 3))))).length))&&(!false))) (r0 b ((d.set ((0+((j.toNat)*6))+4) (.int .i64 (wrap .i64 (q+(Int.tmod e 3))))).set ((0+((j.toNat)*6))+3) (.int .i64 (wrap .i64 (v+(Int.tmod (wrap .i64 (Int.tdiv e 3)) 3))))) a) none) none) none) (r0 b d a)) (r0 b d a))))))))) none))
def Zk:=(Ag (@FU R)).1
theorem HS:@Zk R=@FU R:=(Ag _).2
def kc (g f:Nat) (h:LA) (F:KF R):Nat→LA→LA→O R:=(fun p w x=>F (.agg [(.own 100000 0 g),(.own 100001 0 f),(.own 100002 0 p)]) [(100000,(bQ 2 h)),(100001,(bQ 6 w)),(100002,(bQ 5 x))])
def ke (g f:Nat) (h d a:LA) (F:KF R):Nat→LA→O R:=(fun p y=>F (.agg [(.own 100000 0 g),(.own 100001 0 f),(.own 300000 0 p)]) [(100000,(bQ 2 h)),(100001,(bQ 6 d)),(100002,(bQ 5 a)),(300000,(bQ 5 y))])
def nS:=Cw N 18 [kO N,mM N] { H:=hL,modes:=[(0,0)] } (fun
 | [(.agg [(.own 100000 0 g),(.own 100001 0 f),(.own 100002 0 b)]),(.int .i64 n),(.int .i64 m),(.int .i64 e)],[(100000,⟨false,false,true,false,2,h,false,none⟩),(100001,⟨false,false,true,false,6,d,false,none⟩),(100002,⟨false,false,true,false,5,a,false,none⟩)]=>some fun _ k=>(Zk N g f b n m e h d a (kc g f h k) (ke g f h d a k))
 | _,_=>none) fun _ _=>by split;intro R F;dsimp only;rw[HS];kernel_rfl;trivial
def E1 (r0:Bool→O R) (d f g h:Int) (a:LA) (b c i:Nat) (j l m:LA) (k0:Int→O R) (u:Int):O R :=
 (cond (decide (u<(i:Int))) (cond (ble 8 (a.length)) (Hm N (a.take 8) false [(.imm (j.take (b*2)) b 2 false true),(.imm (l.take (c*6)) c 6 false true),(.imm (m.take (i*5)) i 5 false true)] true u fun z=>cond (!z) (r0 false) (k0 (wrap .i64 (u+1)))) none) (Td N fun aa=>cond (aa==true) (cond (ble 8 (a.length)) (Zk N b c i f g h j l m (fun x ab ac=>Hm N (a.take 8) false [(.imm (j.take (b*2)) b 2 false true),(.imm (ab.take (c*6)) c 6 false true),(.imm (ac.take (x*5)) x 5 false true)] true d fun ad=>r0 (cond true ad false)) fun y ae=>Hm N (a.take 8) false [(.imm (j.take (b*2)) b 2 false true),(.imm (l.take (c*6)) c 6 false true),(.imm (ae.take (y*5)) y 5 false true)] true d fun af=>r0 (cond true af false)) none) (r0 false)))
def B4 (r0:Bool→O R) (d f g h:Int) (a:LA) (b c i:Nat) (j l m:LA):Nat→Int→O R
 | 0,_=>none
 | n+1,u=>(E1 N r0 d f g h a b c i j l m (B4 r0 d f g h a b c i j l m n) u)
def Gu (r0:Bool→O R) (q0:LA→Nat→Nat→Nat→LA→LA→LA→Int→O R) (o:LA) (p:Nat) (v q:Bool) (r:LA) (s:Nat) (w t:Bool) (d f g h:Int):O R :=
 (LH N o p false q r s false t fun ag=>cond (!ag) (r0 true) (NN N o p false q fun a=>cond ((beq 0 0)&&((beq (a.length) 8)&&(beq 8 8))) (cond (ble 8 (a.length)) (NO N (a.take 8) false r s false t fun b c i j l m=>q0 a b c i j l m 0) none) none))
def Hn:=(Ag fun N o p v q r s w t d f g h r0=>Gu (R:=R) N r0 (fun a b c i j l m=>B4 N r0 d f g h a b c i j l m N) o p v q r s w t d f g h).1
theorem Nm (o p v q r s w t d f g h e):(@Hn R N o p v q r s w t d f g h e)=(Gu N e (fun a b c i j l m=>B4 N e d f g h a b c i j l m N) o p v q r s w t d f g h):=by rw[Hn,(Ag _).2]
def Oy:Hints:={ H:=(hK 4 (hS (hK 1 (hS (hP [2,3,4,5,13,14,15] hL) hL)) hL)) }
def Qa:Oi:=[kL N,o7 N,oa N,kK N,PJ N,nS N]
def CJ (F:KF R):=Ip Tryz.f5 Oy (Qa N) [] N F
def CK (d f g h:Int) (a:LA) (b c i:Nat) (j l m:LA) (K:St→O R):=fun u=>K ⟨[(2,(iv d)),(3,(iv f)),(4,(iv g)),(5,(iv h)),(13,(op 0)),(14,(op 1)),(15,(iv u))],(hq [(bQ 0 a),(bN 0 [(.own 300002 0 b),(.own 300003 0 c),(.own 300004 0 i)]),(bQ 2 j),(bQ 6 l),(bQ 5 m)])⟩
theorem Xm (F:KF R) (d f g h a b c i j l m):∀ n,CK d f g h a b c i j l m (Al (CJ N F (pz 21828) []) n)=(B4 N (Bq F) d f g h a b c i j l m n):=Eu fun n e=>(Bp (E1 N (Bq F) d f g h a b c i j l m) e:_)
def Qb:=Cw N 5 (Qa N) Oy (fun
 | [(.imm o p 1 v q),(.imm r s 1 w t),(.int .i64 d),(.int .i64 f),(.int .i64 g),(.int .i64 h)],[]=>some fun _ k=>(Hn N o p v q r s w t d f g h (Bq k))
 | _,_=>none) fun _ _=>by split;intro R F;exact(Bp (Gu N (Bq F) · _ _ _ _ _ _ _ _ _ _ _ _) (eo fun a=>Ah5 fun b c i j l m=>(lW ..).trans (Xm ..)):_).trans (Nm ..).symm;trivial
def Oz:=(Qb N).tw
theorem CL:iE Tryz.prog 5 (Oz N):=(Qb N).tok
def Ed (k2:Int→Int→O R) (r0:Bool→O R) (b:LA) (a:Nat) (c d:Bool) (o r:Nat) (f:LA) (h i g:Nat) (p y j l m:LA) (k3:Int→Int→Bool→Int→O R) (ab ac:Int) (ae:Bool) (q:Int):O R :=
 (cond (decide (q<(r:Int))) (cond (Af q r) (Ao .i64 (y.drop (0+((q.toNat)*3))) fun ah=>Ao .i64 f fun ai=>cond (Af q r) (Ao .i64 (y.drop ((0+((q.toNat)*3))+1)) fun aj=>cond ((decide ((wrap .i64 ((wrap .i64 (ah*ai))+aj))≥0))==true) (cond (cond true (decide ((wrap .i64 ((wrap .i64 (ah*ai))+aj))<(a:Int))) false) (cond (Af (wrap .i64 ((wrap .i64 (ah*ai))+aj)) a) (Ao .i64 (b.drop (((wrap .i64 ((wrap .i64 (ah*ai))+aj)).toNat)*1)) fun al=>AD N al 3 fun am=>cond (ae==true) (cond (Af q r) (Ao .i64 (y.drop ((0+((q.toNat)*3))+2)) fun an=>k3 ab ac (cond true (am==an) false) (wrap .i64 (q+1))) none) (k3 ab ac false (wrap .i64 (q+1)))) none) (cond (ae==true) (cond (Af q r) (Ao .i64 (y.drop ((0+((q.toNat)*3))+2)) fun ao=>k3 ab ac (cond true (0==ao) false) (wrap .i64 (q+1))) none) (k3 ab ac false (wrap .i64 (q+1))))) (cond (ae==true) (cond (Af q r) (Ao .i64 (y.drop ((0+((q.toNat)*3))+2)) fun ap=>k3 ab ac (cond true (0==ap) false) (wrap .i64 (q+1))) none) (k3 ab ac false (wrap .i64 (q+1))))) none) none) (cond ae (k2 (wrap .i64 (ab+1)) (wrap .i64 (ac+1))) (k2 ab (wrap .i64 (ac+1)))))
def A9 (k2:Int→Int→O R) (r0:Bool→O R) (b:LA) (a:Nat) (c d:Bool) (o r:Nat) (f:LA) (h i g:Nat) (p y j l m:LA):Nat→Int→Int→Bool→Int→O R
 | 0,_,_,_,_=>none
 | n+1,ab,ac,ae,q=>(Ed N k2 r0 b a c d o r f h i g p y j l m (A9 k2 r0 b a c d o r f h i g p y j l m n) ab ac ae q)
def Ee (r0:Bool→O R) (b:LA) (a:Nat) (c d:Bool) (o:Nat) (f:LA) (h i g:Nat) (p j l m:LA) (k2:Int→Int→O R) (q3:Nat→LA→Int→Int→Bool→Int→O R) (ag af:Int):O R :=
 (cond (decide (af<(o:Int))) (cond (ble 8 (f.length)) (cond (Af af o) (Ao .i64 (p.drop (0+((af.toNat)*1))) fun aq=>KS N (f.take 8) false [(.imm (j.take (h*2)) h 2 false true),(.imm (l.take (i*6)) i 6 false true),(.imm (m.take (g*5)) g 5 false true)] true aq fun r ar y=>cond (ar != 0) (r0 false) (q3 r y ag af true 0)) none) none) (Td N fun au=>cond (au==true) (r0 (cond true (ag==1) false)) (r0 false)))
def Bs (r0:Bool→O R) (b:LA) (a:Nat) (c d:Bool) (o:Nat) (f:LA) (h i g:Nat) (p j l m:LA):Nat→Int→Int→O R
 | 0,_,_=>none
 | n+1,ag,af=>(Ee N r0 b a c d o f h i g p j l m (Bs r0 b a c d o f h i g p j l m n) (fun r y=>A9 N (Bs r0 b a c d o f h i g p j l m n) r0 b a c d o r f h i g p y j l m N) ag af)
def Ef (r0:Bool→O R) (b:LA) (a:Nat) (c d:Bool) (f:LA) (h i g:Nat) (j l:LA) (k1:Int→LA→O R) (q2:Nat→LA→LA→Int→Int→O R) (ad:Int) (m:LA):O R :=
 (cond (decide (ad<(g:Int))) (cond (Af ad g) (Ao .i64 (m.drop (0+((ad.toNat)*5))) fun av=>cond (av==0) (cond (Af ad g) (cond ((beq 1 1)&&((ble (((0+((ad.toNat)*5))+4)+1) (m.length))&&(!false))) (k1 (wrap .i64 (ad+1)) (m.set ((0+((ad.toNat)*5))+4) .nsl)) none) none) (k1 (wrap .i64 (ad+1)) m)) none) (cond (ble 8 (f.length)) (Wd N (f.take 8) false [(.imm (j.take (h*2)) h 2 false true),(.imm (l.take (i*6)) i 6 false true),(.imm (m.take (g*5)) g 5 false true)] true fun o ak p=>cond (ak != 0) (Td N fun aw=>cond (aw==true) (cond (ble 8 (f.length)) (Ps N (f.take 8) false [(.imm (j.take (h*2)) h 2 false true),(.imm (l.take (i*6)) i 6 false true),(.imm (m.take (g*5)) g 5 false true)] true fun ax=>cond ((cond true (ax==ak) false)==true) (cond (ble 8 (f.length)) (Mm N (f.take 8) false [(.imm (j.take (h*2)) h 2 false true),(.imm (l.take (i*6)) i 6 false true),(.imm (m.take (g*5)) g 5 false true)] true fun ay=>r0 (cond true (ay==ak) false)) none) (r0 false)) none) (r0 false)) (q2 o p m 0 0)) none))
def Ch (r0:Bool→O R) (b:LA) (a:Nat) (c d:Bool) (f:LA) (h i g:Nat) (j l:LA):Nat→Int→LA→O R
 | 0,_,_=>none
 | n+1,ad,m=>(Ef N r0 b a c d f h i g j l (Ch r0 b a c d f h i g j l n) (fun o p m=>Bs N r0 b a c d o f h i g p j l m N) ad m)
def G2 (r0:Bool→O R) (s:LA) (t:Nat) (z u:Bool) (v:LA) (w:Nat) (aa x:Bool) (b:LA) (a:Nat) (c d:Bool) (q1:LA→Nat→Nat→Nat→LA→LA→Int→LA→O R):O R :=
 (NN N s t false u fun f=>cond ((beq 0 0)&&((beq (f.length) 8)&&(beq 8 8))) (cond (ble 8 (f.length)) (NO N (f.take 8) false v w false x fun h i g j l az=>q1 f h i g j l 0 az) none) none)
def E2 (r0:Bool→O R) (s:LA) (t:Nat) (z u:Bool) (v:LA) (w:Nat) (aa x:Bool) (b:LA) (a:Nat) (c d:Bool):O R:=(G2 N r0 s t z u v w aa x b a c d fun f h i g j l=>Ch N r0 b a c d f h i g j l N)
def Fw (r0:Bool→O R) (q0:O R) (s:LA) (t:Nat) (z u:Bool) (v:LA) (w:Nat) (aa x:Bool) (b:LA) (a:Nat) (c d:Bool):O R :=
 (LH N s t false u v w false x fun ba=>cond ((!ba)==false) (cond (cond false true (decide ((a:Int)>60))) (r0 true) q0) (r0 true))
def Gv:=(Ag fun N s t z u v w aa x b a c d r0=>Fw (R:=R) N r0 (E2 N r0 s t z u v w aa x b a c d) s t z u v w aa x b a c d).1
theorem Mw (s t z u v w aa x b a c d e):(@Gv R N s t z u v w aa x b a c d e)=(Fw N e (E2 N e s t z u v w aa x b a c d) s t z u v w aa x b a c d):=by rw[Gv,(Ag _).2]
def Nn:Hints:={ H:=(hK 1 (hJ [0,1,2] hL (hK 2 (hS (hK 1 (hS (hP [2,7,8,9] hL) hL)) (hK 3 (hS (hK 1 (hS (hP [2,7,8,10,12,13] (hK 1 (hS (hS (hK 3 (hS (hK 1 (hS (hP [2,7,8,10,12,13,14,16,17] hL) hL)) hL)) hL) hL))) hL)) hL)))))) }
def O0:Oi:=[kL N,o7 N,oa N,d7 N,PJ N,EY N,Y8 N,js N,kO N]
def E3 (F:KF R):=Ip Tryz.f6 Nn (O0 N) [] N F
def AE (b:LA) (a:Nat) (c d:Bool) (o r:Nat) (f:LA) (h i g:Nat) (p y j l m:LA) (K:St→O R):=fun ab ac ae q=>K ⟨[(2,(.imm b a 1 c d)),(7,(op 0)),(8,(op 1)),(10,(.own 300002 0 o)),(12,(iv ab)),(13,(iv ac)),(14,(.own 300003 0 r)),(16,(.bool ae)),(17,(iv q))],(hq [(bQ 0 f),(bN 0 [(.own 300004 0 h),(.own 300005 0 i),(.own 300006 0 g)]),(bQ 1 p),(bQ 3 y),(bQ 2 j),(bQ 6 l),(bQ 5 m)])⟩
def H2 (b:LA) (a:Nat) (c d:Bool) (o:Nat) (f:LA) (h i g:Nat) (p j l m:LA) (K:St→O R):=fun ag af=>K ⟨[(2,(.imm b a 1 c d)),(7,(op 0)),(8,(op 1)),(10,(.own 300002 0 o)),(12,(iv ag)),(13,(iv af))],(hq [(bQ 0 f),(bN 0 [(.own 300003 0 h),(.own 300004 0 i),(.own 300005 0 g)]),(bQ 1 p),(bQ 2 j),(bQ 6 l),(bQ 5 m)])⟩
def AF (b:LA) (a:Nat) (c d:Bool) (f:LA) (h i g:Nat) (j l:LA) (K:St→O R):=fun ad m=>K ⟨[(2,(.imm b a 1 c d)),(7,(op 0)),(8,(op 1)),(9,(iv ad))],(hq [(bQ 0 f),(bN 0 [(.own 300002 0 h),(.own 300003 0 i),(.own 300004 0 g)]),(bQ 2 j),(bQ 6 l),(bQ 5 m)])⟩
def AG (s:LA) (t:Nat) (z u:Bool) (v:LA) (w:Nat) (aa x:Bool) (b:LA) (a:Nat) (c d:Bool) (K:St→O R):=K ⟨[(0,(.imm s t 1 z u)),(1,(.imm v w 1 aa x)),(2,(.imm b a 1 c d))],[]⟩
theorem Vz (Q2) (F:KF R) (b a c d o r f h i g p y j l m):∀ n,AE b a c d o r f h i g p y j l m (Al (E3 N F (pz 5864043906372) [Q2]) n)=(A9 N (H2 b a c d o f h i g p j l m Q2) (Bq F) b a c d o r f h i g p y j l m n):=Eu fun n e=>(Bp (Ed N (H2 b a c d o f h i g p j l m Q2) (Bq F) b a c d o r f h i g p y j l m) e:_)
theorem V0 (F:KF R) (b a c d o f h i g p j l m):∀ n,H2 b a c d o f h i g p j l m (Al (E3 N F (pz 5592388) []) n)=(Bs N (Bq F) b a c d o f h i g p j l m n):=Eu fun n e=>(DZ (Ee N (Bq F) b a c d o f h i g p j l m) e (ZD fun r y=>(lW ..).trans ((Vz ..).trans (ly (A9 _ · _ _ _ _ _ _ _ _ _ _ _ _ _ _ _ _ _) e))):_)
theorem V1 (F:KF R) (b a c d f h i g j l):∀ n,AF b a c d f h i g j l (Al (E3 N F (pz 21828) []) n)=(Ch N (Bq F) b a c d f h i g j l n):=Eu fun n e=>(DZ (Ef N (Bq F) b a c d f h i g j l) e (Afz fun o p m=>(lW ..).trans (V0 ..)):_)
theorem V2 (F:KF R) (s t z u v w aa x b a c d):AG s t z u v w aa x b a c d (Bh (E3 N F (pz 21) []))=(E2 N (Bq F) s t z u v w aa x b a c d):=(Bp (G2 N (Bq F) s t z u v w aa x b a c d) (Ah5 fun f h i g j l=>(lW ..).trans (V1 ..)):_)
def O1:=Cw N 6 (O0 N) Nn (fun
 | [(.imm s t 1 z u),(.imm v w 1 aa x),(.imm b a 1 c d)],[]=>some fun _ k=>(Gv N s t z u v w aa x b a c d (Bq k))
 | _,_=>none) fun _ _=>by split;intro R F;exact(Bp (Fw N (Bq F) · _ _ _ _ _ _ _ _ _ _ _ _) ((jW ..).trans (V2 ..)):_).trans (Mw ..).symm;trivial
def No:=(O1 N).tw
theorem AH:iE Tryz.prog 6 (No N):=(O1 N).tok
end
end Gx
namespace Gx
open Go
theorem am {a b:Bool} (e:a=true) (j:b=true):(a&&b)=true:=by rw[e,j];rfl
theorem Abp {P:Program} (Y:laidOutB P=true) (h3:mapsRowed P=true) (h7:(P.stops==[])=true) (h9:(P.stopKnobs==[])=true) (b:P.stopsHeard=true) (e:P.mayEnter=true) {f:FuncId} {fn:Func} {s:ChangeSpec} {c:OpenClaim} (j:(c.inPlace==P.inPlace f)=true) (q:(c.unfollowed==P.unfollowed f)=true) (u:(c.recurses==P.recurses f)=true) (v:(c.named==P.varsNamed f)=true)
  (y:(c.lifted==P.liftsFinal)=true) (z:(P.make==some c.make)=true) (A:(c.plainKeys==P.plainKeys)=true)
  (h1:c.wf (OpenSpec.ofChange s)=true) (h4:fn.params.all (P.readableRec ·)=true) (h5:namedTie P c.named s.vars=true) (h6:(c.stops==[])=true) (h8:(c.knobs==[])=true)
  (C:(c.maps==(fn.params.toList++s.plain.varTypes P).any (P.mapsRec ·))=true) (D:(c.ifaces==(fn.params.toList++s.plain.varTypes P).any (P.ifacesRec ·))=true) (F:(c.mapsOut==P.mapsAmong fn.resultTypes.toList)=true)
  (G:(c.loops==(fn.params.toList++s.plain.varTypes P).any (P.loopsFrom ·))=true) (I:(c.wideKeys==(fn.params.toList++s.plain.varTypes P++fn.resultTypes.toList).any (P.wideKeysFrom ·))=true)
  (K:s.vars.all (P.varReadable ·)=true) (L:fn.resultTypes.all (fun t=>P.readableRec t&&decide (t<P.types.size))=true) (M:(c.ifacesOut==fn.resultTypes.toList.any (P.ifacesRec ·))=true) (O:(c.loopsOut==fn.resultTypes.toList.any (P.loopsFrom ·))=true)
  (S:c.shortTexts.isNone=true) (T:(c.kinds==(if c.domain.isEmpty then [] else fn.params.toList.map fun t=>match P.underlying t with | some (.int k)=>some k | _=>none))=true) (U:(c.pinned==c.pinnedBy)=true)
  (V:(c.veiled==(fn.params.toList++s.plain.varTypes P++fn.resultTypes.toList).any (P.veiledRec ·))=true) (X:c.veiledFits P fn.params.toList (fn.params.toList++s.plain.varTypes P++fn.resultTypes.toList)=true):joinedFacts P f fn s c=true:=by
 unfold joinedFacts
 exact am (am (am (am (am (am (am (am (am (am (am (am (am (am (am (am (am (am (am (am (am (am (am (am (am (am (am (am (am (am (am h1 Y) h3) h4) h5) h6) h7) h8) h9) j) q) u) v) C) D) F) G) I) K) L) M) O) A) S) b) e) y) z) T) U) V) X
end Gx
namespace Go.Proofs.YtnlplnjnonldpaaGreatDoor
open Go.ChangeShapes Go.WideShapes Go.ChangeAt Go.RowKit
theorem Ahi:ownKnob Tryz.prog.godebug=none:=by kernel_rfl
theorem Xn:laidOutB Tryz.prog=true:=by kernel_rfl
theorem Ajf : Tryz.prog.globalNamed "internal/strconv.uint64pow10" = some 3 := by kernel_rfl
theorem Akp:(Tryz.prog.globals[3]?).map (·.type)=some 293:=by kernel_rfl
theorem Ajg:Tryz.prog.underlying 293=some (.array 20 138):=by kernel_rfl
theorem Ajh:Tryz.prog.underlying 138=some (.int .u64):=by kernel_rfl
theorem Aji:Tryz.prog.cellsOf 293=20:=by kernel_rfl
theorem Ajj:Tryz.prog.cellsOf 138=1:=by kernel_rfl
def Ahj:List Int:=(List.range 20).map fun i=>((10 ^ i:Nat):Int)
theorem zN {H:Type}:(Rows.laid_internal_strconv_uint64pow10:DataW H)=Lib.tabData .u64 Ahj:=rfl
theorem xy {W:World} (hL:laidMetH Tryz.prog Rows.branchlogRoundRow.laid W) (e:W.ShapedOpen Tryz.prog):Gx.GlobOk (fun _ k=>k<W.heap.size) W:=by
 have A : Lib.TabIs Tryz.prog W "internal/strconv.uint64pow10" .u64 Ahj := by
  have j:laidMet Tryz.prog Rows.branchlogRoundRow.laid W:=hL
  obtain⟨ps,⟨O,t0,cs0,S,T,U,C,D,F,G,⟨V,t1,cs1,f1,X,Y,I,K,L,M,⟨g2,t2,cs2,f2,p2,q2,q,s,u,b,_,_⟩,_⟩,_⟩,_⟩:=j
  obtain rfl:=Option.some.inj (Ajf.symm.trans q)
  obtain rfl:=Option.some.inj (Akp.symm.trans s)
  unfold Lib.TabIs
  rw[zN] at b
  rw[u,←Lib.cells_of_tab Ajg Ajh Ajj Aji b]
 obtain⟨ty,fr,hh⟩:=Gx.Aav A Ajf
 obtain⟨m,v⟩:=cell_of_shapedOpen_int (P:=Tryz.prog) (g:=0) (t:=3) (zero:=#[.int .i64 0]) e (of_decide_eq_true (by kernel_rfl)) (by kernel_rfl) rfl (by kernel_rfl) (by kernel_rfl) Tryz.underlying3
 refine⟨fun p y=>?_,fun g z=>?_⟩
 ·simp only[Gx.xb,List.mem_singleton] at y
  subst y
  refine⟨?_,ty,fr,?_⟩
  ·show 3<W.heap.size
   rcases Nat.lt_or_ge 3 W.heap.size with h | h
   ·exact h
   ·rw[Array.getElem?_eq_none h] at hh;cases hh
  ·rw[hh];rfl
 ·simp only[Gx.uu,List.mem_singleton] at z
  subst z
  exact⟨Gx.Aaw v,m,v⟩
noncomputable def oc (os:Os):World:=World.laidAll Tryz.prog os Rows.branchlogRoundRow.laid
theorem uD (os:Os):(oc os).os=os:=World.laidAll_os _ _ _
theorem od (os:Os) (args:Array Value):laidMetH Tryz.prog Rows.branchlogRoundRow.laid ((oc os).forCall (fun _ _=>0) ⟨#[],args,[]⟩).memory :=
 laidMet_laidAll args (by kernel_rfl) (by kernel_rfl)
theorem Aeq:mapsRowed Tryz.prog=true:=by kernel_rfl
theorem Abq:(Tryz.prog.stops==[])=true:=by kernel_rfl
theorem Abr:(Tryz.prog.stopKnobs==[])=true:=by kernel_rfl
theorem Abs:Tryz.prog.stopsHeard=true:=by kernel_rfl
theorem Abt:Tryz.prog.mayEnter=true:=by kernel_rfl
theorem Abu:(Rows.branchlogRoundRow.lifted==Tryz.prog.liftsFinal)=true:=by kernel_rfl
theorem Aer:(Tryz.prog.make==some Rows.branchlogRoundRow.make)=true:=by kernel_rfl
theorem Aes:(Rows.branchlogRoundRow.plainKeys==Tryz.prog.plainKeys)=true:=by kernel_rfl
end Go.Proofs.YtnlplnjnonldpaaGreatDoor
namespace Gx
open Go
theorem wrap_u32 (a:Nat) (h:a<4294967296):wrap .u32 (a:Int)=(a:Int):=IntWalk.u32_in _ (by omega)
theorem zO (a:Nat):wrap .u32 (a:Int)=((a%4294967296:Nat):Int):=by rw[IntKind.wrap_u32];omega
theorem Np (a:Int) (h:-9223372036854775808≤a∧a≤9223372036854775807):wrap .i64 a=a:=IntWalk.i64_in _ h
theorem wrap_u64 (a:Nat) (h:a<18446744073709551616):wrap .u64 (a:Int)=(a:Int):=IntWalk.u64_in _ (by omega)
theorem NP (w a:Nat):BitVec.ofInt w (a:Int)=BitVec.ofNat w a:=by simp
theorem ww {k:IntKind} (hs:k.signed=false) {a b:Nat} (j:a<2 ^ k.bits) (e:b<2 ^ k.bits):vW k a b=((a &&& b:Nat):Int):=by
 unfold vW
 rw[NP,NP]
 have q:(BitVec.ofNat k.bits a &&& BitVec.ofNat k.bits b).toNat=a &&& b:=by
  rw[BitVec.toNat_and,Ans,Ans,Al9 j,Al9 e]
 rw[q]
 have s:a &&& b<2 ^ k.bits:=Nat.and_lt_two_pow _ e
 unfold wrap
 simp only[hs,Ao2,Amr,if_false]
 have:(2 ^ k.bits:Int)=((2 ^ k.bits:Nat):Int):=by simp
 rw[this,←Int.natCast_emod,Al9 s]
theorem oe {k:IntKind} (hs:k.signed=false) {a b:Nat} (e:a<2 ^ k.bits) (j:b<2 ^ k.bits):iM k a b=((a ||| b:Nat):Int):=by
 unfold iM
 rw[NP,NP]
 have q:(BitVec.ofNat k.bits a ||| BitVec.ofNat k.bits b).toNat=a ||| b:=by
  rw[BitVec.toNat_or,Ans,Ans,Al9 e,Al9 j]
 rw[q]
 have s:a ||| b<2 ^ k.bits:=Nat.or_lt_two_pow e j
 unfold wrap
 simp only[hs,Ao2,Amr,if_false]
 have:(2 ^ k.bits:Int)=((2 ^ k.bits:Nat):Int):=by simp
 rw[this,←Int.natCast_emod,Al9 s]
theorem kg (a k:Nat):Int.fdiv (a:Int) (2 ^ k)=((a/2 ^ k:Nat):Int):=by
 have:(2 ^ k:Int)=((2 ^ k:Nat):Int):=by simp
 rw[this,Int.fdiv_eq_ediv_of_nonneg (a:Int) (Int.natCast_nonneg (2 ^ k))]
 rfl
theorem Aw {R:Type} {k:IntKind} {n:Int} {r:LA} {f:Int→O R}:Ao k (.int k n::r) f=f n:=by simp[Ao,IL,Kz]
theorem Ac {i n:Nat} (h:i<n):Af (i:Int) n=true:=by simp[Af];omega
end Gx
namespace Gx
open Go Go.RowKit
section
variable {P:Program} {W:World} {H:Type} {enc:TypeId×Value→H} {β:B5} {h:Ap}
theorem Adi {t j:TypeId} {α:Type} {e:α→LA} {n:Nat} {a:Option Addr} {len cap:Nat} {d:DataW H} {p:List MemPlace} (b:P.underlying t=some (.slice j)) (q:P.cellsOf t=1) (s:Opens P j e n)
  (v:DataW.Trod enc P W 0 (fun _=>true) true t (.slice a len cap) d p):∃ l:List α,l.length≤maxLen∧Rep (fun _ k=>k<W.heap.size) β h W (.imm (l.flatMap e) l.length n false false) (.slice a len cap):=by
 obtain⟨fuel,y⟩:=v
 obtain⟨_,⟨l,z⟩,hr⟩:=(sf b q s).read enc W fuel _ _ _ y
 refine⟨l,z,?_⟩
 simp only[RepCs,Value.cells,and_true] at hr
 obtain⟨u,b,hr⟩:=hr
 simp at b;subst b
 rw[Rep];exact hr
theorem gJ {k:IntKind} {n:Int}:Rep (fun _ k=>k<W.heap.size) β h W (.int k n) (.int k n):=by rw[Rep]
theorem uE:Reps (fun _ k=>k<W.heap.size) β h W [] []:=by rw[Reps]
theorem Mr {x:AV} {xs:LA} {v:Value} {vs:List Value} (b:Rep (fun _ k=>k<W.heap.size) β h W x v) (e:Reps (fun _ k=>k<W.heap.size) β h W xs vs):Reps (fun _ k=>k<W.heap.size) β h W (x::xs) (v::vs):=by
 rw[Reps];exact⟨v,vs,rfl,b,e⟩
end
end Gx
namespace Gx.Cf
open Go Go.Proofs
inductive Sl (α:Type) where
 | nil
 | of (l:List α) (t o:Bool)
def Sl.l {α:Type}:Sl α→List α
 | .nil=>[]
 | .of l _ _=>l
def Sl.av {α:Type} (sz:Nat) (e:α→LA):Sl α→AV
 | .nil=>.nsl
 | .of l t o=>.imm (l.flatMap e) l.length sz t o
def V3 (n:Int):LA:=[.int .i64 n]
def Ah (l:List Int):LA:=l.map fun n=>.int .i64 n
theorem C6:∀ l:List Int,l.flatMap V3=Ah l
 | []=>rfl
 | a::r=>by rw[All,C6 r];rfl
theorem Cz (l:List Int):(Ah l).length=l.length:=by simp[Ah]
theorem Zl (l m:List Int):Ah l++Ah m=Ah (l++m):=by simp[Ah]
structure FracD where
 num:Int
 den:Int
structure BusD where
 name:List UInt8
 demand:Sl Int
 shed:Int
structure LineD where
 name:List UInt8
 fr:Int
 tl:Int
 re:FracD
 smin:FracD
 smax:FracD
 limit:Int
 emer:Int
 away:Sl Int
structure SegD where
 width:Int
 price:Int
structure UnitD where
 name:List UInt8
 bus:Int
 min:Int
 max:Int
 segs:Sl SegD
 noLoad:Int
 rampUp:Int
 rampDown:Int
 startRamp:Int
 stopRamp:Int
 upTime:Int
 downTime:Int
 startTime:Int
 hotCost:Int
 coldCost:Int
 hotHours:Int
 reserve:Int
 reservePrice:Int
 away:Sl Int
 state:Int
 hours:Int
 output:Int
structure StoreD where
 name:List UInt8
 bus:Int
 capacity:Int
 initial:Int
 final:Int
 charge:Int
 discharge:Int
 eff:FracD
structure TieD where
 name:List UInt8
 bus:Int
 imp:Sl Int
 exp:Sl Int
 price:Sl Int
structure MoveD where
 unit:Int
 up:Int
 down:Int
structure OutD where
 name:List UInt8
 lines:Sl Int
 corr:Bool
 moves:Sl MoveD
structure CaseD where
 hours:Int
 reserve:Sl Int
 buses:Sl BusD
 lines:Sl LineD
 units:Sl UnitD
 stores:Sl StoreD
 ties:Sl TieD
 outs:Sl OutD
def BusD.av (b:BusD):LA:=[.str b.name,b.demand.av 1 V3,.int .i64 b.shed]
def LineD.av (b:LineD):LA:=[.str b.name,.int .i64 b.fr,.int .i64 b.tl,.int .i64 b.re.num,.int .i64 b.re.den,.int .i64 b.smin.num,.int .i64 b.smin.den,.int .i64 b.smax.num,.int .i64 b.smax.den,.int .i64 b.limit,.int .i64 b.emer,b.away.av 1 V3]
def SegD.av (s:SegD):LA:=[.int .i64 s.width,.int .i64 s.price]
def UnitD.av (u:UnitD):LA:=[.str u.name,.int .i64 u.bus,.int .i64 u.min,.int .i64 u.max,u.segs.av 2 SegD.av,.int .i64 u.noLoad,.int .i64 u.rampUp,.int .i64 u.rampDown,.int .i64 u.startRamp,.int .i64 u.stopRamp,.int .i64 u.upTime,.int .i64 u.downTime,.int .i64 u.startTime,.int .i64 u.hotCost,.int .i64 u.coldCost,.int .i64 u.hotHours,.int .i64 u.reserve,.int .i64 u.reservePrice,u.away.av 1 V3,.int .i64 u.state,.int .i64 u.hours,.int .i64 u.output]
def StoreD.av (s:StoreD):LA:=[.str s.name,.int .i64 s.bus,.int .i64 s.capacity,.int .i64 s.initial,.int .i64 s.final,.int .i64 s.charge,.int .i64 s.discharge,.int .i64 s.eff.num,.int .i64 s.eff.den]
def TieD.av (t:TieD):LA:=[.str t.name,.int .i64 t.bus,t.imp.av 1 V3,t.exp.av 1 V3,t.price.av 1 V3]
def MoveD.av (m:MoveD):LA:=[.int .i64 m.unit,.int .i64 m.up,.int .i64 m.down]
def OutD.av (o:OutD):LA:=[.str o.name,o.lines.av 1 V3,.bool o.corr,o.moves.av 3 MoveD.av]
def CaseD.av (c:CaseD):LA:=[.int .i64 c.hours,c.reserve.av 1 V3,c.buses.av 3 BusD.av,c.lines.av 12 LineD.av,c.units.av 22 UnitD.av,c.stores.av 9 StoreD.av,c.ties.av 5 TieD.av,c.outs.av 4 OutD.av]
section
variable {R:Type}
theorem Cy {α:Type} {sz:Nat} {e:α→LA} {s:Sl α} {r:LA} {f:LA→Nat→O R}:Ba sz (s.av sz e::r) f=f (s.l.flatMap e) s.l.length:=by
 cases s<;>simp[Ba,Sl.av,Sl.l,rj]
theorem Dh {s:Lu} {r:LA} {f:Lu→O R}:O' (.str s::r) f=f s:=by simp[O',bI]
theorem Abv {b:Bool} {r:LA} {f:Bool→O R}:SK (.bool b::r) f=f b:=by simp[SK,asBool]
theorem Bv (a b:Nat):ble a b=decide (a≤b):=by
  cases h:ble a b with
  | true=>simp at h;simp[h]
  | false => have : ¬ a ≤ b := fun e => by rw [Nat.ble_eq_true_of_le e] at h; cases h
             simp[this]
theorem Xy (a b:Nat):beq a b=decide (a=b):=by
  cases h:beq a b with
  | true=>have:=Ak0 h;simp[this]
  | false => have : a ≠ b := fun e => by subst e; rw [Nat.beq_refl] at h; cases h
             simp[this]
theorem ct (x y:O R):cond true x y=x:=rfl
theorem cf (x y:O R):cond false x y=y:=rfl
theorem Ar {α:Type} {e:α→LA} {sz:Nat} (b:∀ a,(e a).length=sz):∀ (l:List α) (j:Nat) (h:j<l.length),drop (j*sz) (l.flatMap e)=e l[j]++(l.drop (j+1)).flatMap e
 | a::r,0,_=>by simp
 | a::r,j+1,h=>by
  have:=Ar b r j (by simpa using h)
  rw[All,List.drop_append,b,show(j+1)*sz - sz=j*sz by rw[Amz];omega,Amf (by rw[b,Amz];omega)]
  simpa using this
theorem CM {l:List Int} {i:Nat} (h:i<l.length) {f:Int→O R}:Ao .i64 (drop i (Ah l)) f=f l[i]:=by
 rw[Ah,Aln (by simpa using h)];simp[Aw]
abbrev Ca:=Option ((Int×Int×Int)×{ e:Int // e≠0 })
def nd (p:Ca) (ok:Bool) (w:Int×Int×Int) (e:{ e:Int // e≠0 }):Ca:=match p with
 | some x=>some x
 | none=>cond ok none (some (w,e))
theorem E4 (p:Ca) (w:Int×Int×Int) (e:{ e:Int // e≠0 }):nd p true w e=p:=by cases p<;>rfl
theorem FV (x:(Int×Int×Int)×{ e:Int // e≠0 }) (ok:Bool) (w:Int×Int×Int) (e:{ e:Int // e≠0 }):nd (some x) ok w e=some x:=rfl
theorem Mx (p:Ca) (a b:Bool) (w:Int×Int×Int) (e:{ e:Int // e≠0 }):nd (nd p a w e) b w e=nd p (a&&b) w e:=by cases p<;>cases a<;>cases b<;>rfl
def CN (p:Ca) (k i:Int):LA:=match p with
 | none=>[.int .i64 k,.int .i64 i,.int .i64 0,.int .i64 0]
 | some ((a,b,f),e)=>[.int .i64 a,.int .i64 b,.int .i64 f,.int .i64 e.1]
def D2 (lo hi n:Int):Bool:=decide (lo≤n)&&decide (n≤hi)
end
end Gx.Cf
namespace Gx.Cf
open Go Go.Proofs
section
variable {R:Type}
def D8 (n N:Nat):Prop:=n<N∧n<4611686018427387904
theorem Bf {j:Nat} (h:j<4611686018427387904):wrap .i64 ((j:Int)+1)=((j+1:Nat):Int):=by rw[Np _ (by omega)];omega
theorem Qc {l:List Int} {j:Nat} (h:j<l.length) {f:Int→O R}:Ao .i64 (drop ((Int.toNat (j:Int))*1) (Ah l)) f=f l[j]:=by
 rw[Aku,Ak6,CM h]
theorem F7 {j n:Nat} (h:j<n):decide ((j:Int)<(n:Int))=true:=by simp;omega
theorem G3 {j n:Nat} (h:n≤j):decide ((j:Int)<(n:Int))=false:=by simp;omega
theorem Bb {α:Type} {l:List α} {j:Nat} (h:j<l.length):l.drop j=l[j]::l.drop (j+1):=Aln h
theorem Bn {α:Type} {l:List α} {j:Nat} (h:l.length≤j):l.drop j=[]:=Amf h
theorem CO {N:Nat} {lo hi:Int} {l:List Int} {t o:Bool} {K:Bool→O R} (hs:l.length<4611686018427387904):∀ (m j fuel:Nat),j+m=l.length→m<fuel →
  Gh N K lo hi (Ah l) l.length t o fuel (j:Int)=K ((l.drop j).all (D2 lo hi))
 | 0,j,fuel+1,k,_=>by
  rw[Gh];unfold Nz
  rw[G3 (by omega),cf,Bn (by omega)];rfl
 | m+1,j,fuel+1,k,s=>by
  rw[Gh];unfold Nz
  have h:j<l.length:=by omega
  rw[F7 h,ct,Ac h,ct,Qc h,ct,Qc h,Bf (by omega),CO hs m (j+1) fuel (by omega) (by omega),Bb h,Ale]
  unfold D2
  by_cases b:l[j]<lo
  ·have:¬ lo≤l[j]:=by omega
   simp[b,this]
  ·have:lo≤l[j]:=by omega
   by_cases e:l[j]>hi
   ·have:¬ l[j]≤hi:=by omega
    simp[b,e,this]
   ·have q:l[j]≤hi:=by omega
    simp[b,e,this,q]
theorem F5 {N:Nat} {lo hi:Int} {l:List Int} {n:Nat} {t o:Bool} {K:Bool→O R} (hn:n=l.length) (hs:D8 l.length N):Am N lo hi (Ah l) n t o K=K (l.all (D2 lo hi)):=by
 subst hn
 rw[HG];unfold Vr
 have:=CO (R:=R) (N:=N) (lo:=lo) (hi:=hi) (t:=t) (o:=o) (K:=K) hs.2 l.length 0 N (by omega) hs.1
 simpa using this
theorem Dc {N:Nat} {lo hi a:Int} {t o:Bool} {K:Bool→O R} (hN:8≤N):Am N lo hi [.int .i64 a] 1 t o K=K (D2 lo hi a):=by
 have:=F5 (R:=R) (N:=N) (lo:=lo) (hi:=hi) (l:=[a]) (t:=t) (o:=o) (K:=K) rfl ⟨by simp;omega,by simp⟩
 simpa[Ah] using this
theorem fq {N:Nat} {lo hi a b:Int} {t o:Bool} {K:Bool→O R} (hN:8≤N):Am N lo hi [.int .i64 a,.int .i64 b] 2 t o K=K (D2 lo hi a&&D2 lo hi b):=by
 have:=F5 (R:=R) (N:=N) (lo:=lo) (hi:=hi) (l:=[a,b]) (t:=t) (o:=o) (K:=K) rfl ⟨by simp;omega,by simp⟩
 simpa[Ah] using this
def CP:List Int→Bool
 | a::b::r=>decide (a<b)&&CP (b::r)
 | _=>true
theorem O2 (a b:Int) (r:List Int):CP (a::b::r)=(decide (a<b)&&CP (b::r)):=by rw[CP]
theorem V4 (a:Int):CP [a]=true:=by rw[CP];intros;simp_all
theorem NQ:CP []=true:=by rw[CP];intros;simp_all
theorem LT {j:Nat} (h:j+1<4611686018427387904):wrap .i64 (((j+1:Nat):Int) - 1)=(j:Int):=by rw[Np _ (by omega)];omega
theorem HT {N:Nat} {l:List Int} {t o:Bool} {K:Bool→O R} (hs:l.length<4611686018427387904):∀ (m j fuel:Nat),j+1+m=l.length→m<fuel →
  F1 N K (Ah l) l.length t o fuel ((j+1:Nat):Int)=K (CP (l.drop j))
 | 0,j,fuel+1,e,_=>by
  rw[F1];unfold Ll
  rw[G3 (by omega),cf,Bb (by omega),Bn (by omega),V4]
 | m+1,j,fuel+1,e,k=>by
  rw[F1];unfold Ll
  have h:j+1<l.length:=by omega
  have h':j<l.length:=by omega
  rw[F7 h,ct,Ac h,ct,Qc h,LT (by omega),Ac h',ct,Qc h',Bf (by omega),HT hs m (j+1) fuel (by omega) (by omega),Bb h',Bb h,O2]
  by_cases b:l[j+1]≤l[j]
  ·have:¬ l[j]<l[j+1]:=by omega
   simp[b,this]
  ·have:l[j]<l[j+1]:=by omega
   simp[b,this]
theorem Uc {N:Nat} {l:List Int} {n:Nat} {t o:Bool} {K:Bool→O R} (hn:n=l.length) (hs:D8 l.length N):Ob N (Ah l) n t o K=K (CP l):=by
 subst hn
 rw[KZ];unfold Y2
 rcases l with _ | ⟨a,r⟩
 ·have hN:=hs.1
  rcases N with _ | N
  ·simp at hN
  ·rw[F1];unfold Ll;simp[NQ]
 ·have:=HT (R:=R) (N:=N) (t:=t) (o:=o) (K:=K) hs.2 r.length 0 N (by simp;omega) (by have:=hs.1;simp at this;omega)
  simpa using this
theorem XA {N:Nat} {v:Int} {l:List Int} {t o:Bool} {K:Bool→O R} (hs:l.length<4611686018427387904):∀ (m j fuel:Nat),j+m=l.length→m<fuel →
  Od N K (Ah l) l.length t o v fuel (j:Int)=K ((l.drop j).contains v)
 | 0,j,fuel+1,b,_=>by
  rw[Od];unfold Y3
  rw[G3 (by omega),cf,Bn (by omega)];rfl
 | m+1,j,fuel+1,b,e=>by
  rw[Od];unfold Y3
  have h:j<l.length:=by omega
  rw[F7 h,ct,Ac h,ct,Qc h,Bf (by omega),XA hs m (j+1) fuel (by omega) (by omega),Bb h,Aph,BEq.comm]
  cases k:v==l[j]<;>simp
theorem V5 {N:Nat} {v:Int} {l:List Int} {n:Nat} {t o:Bool} {K:Bool→O R} (hn:n=l.length) (hs:D8 l.length N):Y4 N (Ah l) n t o v K=K (l.contains v):=by
 subst hn
 rw[dS];unfold VX
 have:=XA (R:=R) (N:=N) (v:=v) (t:=t) (o:=o) (K:=K) hs.2 l.length 0 N (by omega) hs.1
 simpa using this
end
end Gx.Cf
