/- A part of the proof; each theorem says what it holds. -/
import Derived.Shelf.Strings.Repeat
import Derived.Shelf.Strings.Split
import Derived.Shelf.Strings.Cut
import Derived.Shelf.Strconv.AtoiAll
import Derived.Shelf.Strconv.Itoa3
import Derived.Shelf.LaysM
import Derived.Shelf.LaysC
import Derived.Lib.RepeatB
import Derived.OwnWalk
import Derived.OneCell
import Derived.Laws.OwnMore
import Derived.Laws.AppendOwnNone
import Derived.Test.YtpeocjkboabibaaGreatDoorP1
set_option linter.unusedVariables false
set_option linter.defProp false
set_option linter.unusedSimpArgs false
open Nat (ble beq)
open List (take drop replicate)
open Go.IntKind (wrap)
namespace Gx
open Go Go.Proofs
set_option maxRecDepth 100000
noncomputable section
variable {R:Type} (N:Nat)
def DS (N:Nat) (r0:Nat→LA→O R) (b:LA) (a:Nat) (f c:Bool) (k0:Int→O R) (d:Int):O R :=
 (cond ((decide (d>0))==true) (cond (Ag (wrap .i64 (d - 1)) a) (Aw .u32 (b.drop (((wrap .i64 (d - 1)).toNat)*1)) fun g=>cond (cond true (g==0) false) (k0 (wrap .i64 (d - 1))) (cond ((decide ((0:Int)≤(0:Int)))&&((decide (0≤d))&&((decide (d≤(a:Int)))&&(decide ((a:Int)≤(a:Int)))))) (cond ((!c)||(A2 (b.take ((d.toNat)*1)))) (cond ((ble (0+(d.toNat)) 140737488355328)&&(ble ((0+(d.toNat))*4) 140737488355328)) (r0 (0+(d.toNat)) (b.take ((d.toNat)*1))) none) none) none)) none) (cond ((decide ((0:Int)≤(0:Int)))&&((decide (0≤d))&&((decide (d≤(a:Int)))&&(decide ((a:Int)≤(a:Int)))))) (cond ((!c)||(A2 (b.take ((d.toNat)*1)))) (cond ((ble (0+(d.toNat)) 140737488355328)&&(ble ((0+(d.toNat))*4) 140737488355328)) (r0 (0+(d.toNat)) (b.take ((d.toNat)*1))) none) none) none))
def Qk (r0:Nat→LA→O R) (b:LA) (a:Nat) (f c:Bool):Nat→Int→O R
 | 0=>fun _=>none
 | n+1=>DS N r0 b a f c (Qk r0 b a f c n)
def M' (N:Nat) (r0:Nat→LA→O R) (q0:Int→O R) (b:LA) (a:Nat) (f c:Bool):O R :=
 (q0 (a:Int))
def G7:=(Ac fun N b a f c r0=>M' (R:=R) N r0 (Qk N r0 b a f c N) b a f c).1
theorem QA (b a f c r0):(@G7 R N b a f c r0)=(M' N r0 (Qk N r0 b a f c N) b a f c):=by rw[G7,(Ac _).2]
def Acn (F:KF R):=Mw Tryz.f161 nW [] [] N F
def Aco (b:LA) (a:Nat) (f c:Bool) (K:St→O R):=fun d=>K ⟨[(0,(.imm b a 1 f c)),(3,(iv d))],[]⟩
theorem sJ (F:KF R) (b a f c):∀ n,Aco b a f c (Ap (Acn N F (pz 336) []) n)=(Qk N (Ex F) b a f c n):=Fs fun n e=>(Cs (DS N (Ex F) b a f c) e:_)
def Ql:=Cp N 161 [] nW (fun
 | [(.imm b a 1 f c)],[]=>some fun _ k=>G7 N b a f c (Ex k)
 | _,_=>none) fun _ _=>by split;intro R F;exact(Cs (M' N (Ex F) · _ _ _ _) ((lW ..).trans (sJ ..)):_).trans (QA ..).symm;trivial
def BT (a:Int) (r0:Nat→LA→O R):O R :=
 (G7 N [(.int .u32 (wrap .u32 a)),(.int .u32 (wrap .u32 (Int.fdiv a (2 ^ 32))))] 2 false true fun b c=>r0 b c)
def It:=(Ac (@BT R)).1
theorem FS:@It R=@BT R:=(Ac _).2
def NA:=Cp N 145 [Ql N] Ab9 (fun
 | [(.int .u64 a)],[]=>some fun _ k=>It N a (Ex k)
 | _,_=>none) fun _ _=>by split;intro R F;dsimp only;rw[FS];kernel_rfl;trivial
def ky (b:Bool) (c:LA) (d:Nat) (f e:Bool) (r0:LA→O R):O R :=
 (G7 N c d false e fun a g=>cond (b==true) (r0 [(.bool (cond true (decide ((a:Int)>0)) false)),(.imm (g.take (a*1)) a 1 false false)]) (r0 [(.bool false),(.imm (g.take (a*1)) a 1 false false)]))
def NB:=(Ac (@ky R)).1
theorem iM:@NB R=@ky R:=(Ac _).2
def sK:=Cp N 144 [Ql N] Aca (fun
 | [(.bool b),(.imm c d 1 f e)],[]=>some fun _ k=>NB N b c d f e (P6 k)
 | _,_=>none) fun _ _=>by split;intro R F;dsimp only;rw[iM];kernel_rfl;trivial
def QB (a:Int) (r0:LA→O R):O R :=
 (cond (decide (a<0)) (It N (wrap .u64 ((wrap .u64 (wrap .i64 ((0:Int) - (wrap .i64 (a+1)))))+1)) fun d f=>NB N true (f.take (d*1)) d false true fun b=>cond ((beq 0 0)&&((beq (b.length) 2)&&(beq 2 2))) (cond (ble 2 (b.length)) (r0 (b.take 2)) none) none) (It N (wrap .u64 a) fun e g=>NB N false (g.take (e*1)) e false true fun c=>cond ((beq 0 0)&&((beq (c.length) 2)&&(beq 2 2))) (cond (ble 2 (c.length)) (r0 (c.take 2)) none) none))
def AE:=(Ac (@QB R)).1
theorem TB:@AE R=@QB R:=(Ac _).2
def ur:=Cp N 131 [NA N,sK N] Aca (fun
 | [(.int .i64 a)],[]=>some fun _ k=>AE N a (P6 k)
 | _,_=>none) fun _ _=>by split;intro R F;dsimp only;rw[TB];kernel_rfl;trivial
def kz (a:LA) (b:Bool) (r0:LA→O R):O R :=
 (OP a fun d=>Bb 1 (a.drop 1) fun e f=>NB N d e f false b fun c=>cond ((beq 0 0)&&((beq (c.length) 2)&&(beq 2 2))) (cond (ble 2 (c.length)) (r0 (c.take 2)) none) none)
def iN:=(Ac (@kz R)).1
theorem iO:@iN R=@kz R:=(Ac _).2
def Agl:=Cp N 142 [sK N] Aca (fun
 | [(.pagg a b)],[]=>some fun _ k=>iN N a b (P6 k)
 | _,_=>none) fun _ _=>by split;intro R F;dsimp only;rw[iO];kernel_rfl;trivial
def G8 (N:Nat) (r0:Int→Bool→O R) (a:Nat) (b:LA) (k0:Int→Int→O R) (i h:Int):O R :=
 (cond (decide (h≥0)) (cond (Ag h a) (Aw .u32 (b.drop (0+((h.toNat)*1))) fun j=>k0 (nP .u64 (wrap .u64 (i*2 ^ 32)) (wrap .u64 j)) (wrap .i64 (h - 1))) none) (r0 i true))
def E9 (r0:Int→Bool→O R) (a:Nat) (b:LA):Nat→Int→Int→O R
 | 0=>fun _ _=>none
 | n+1=>G8 N r0 a b (E9 r0 a b n)
def IU (r0:Int→Bool→O R) (q0:Nat→LA→Int→Int→O R) (c:LA) (d:Nat) (g f:Bool):O R :=
 (G7 N c d false f fun a b=>cond (decide ((a:Int)>2)) (r0 0 false) (q0 a b 0 (wrap .i64 ((a:Int) - 1))))
def M8:=(Ac fun N c d g f r0=>IU (R:=R) N r0 (fun a b=>E9 N r0 a b N) c d g f).1
theorem WC (c d g f r0):(@M8 R N c d g f r0)=(IU N r0 (fun a b=>E9 N r0 a b N) c d g f):=by rw[M8,(Ac _).2]
def dT:Hints:={ H:=(hK 4 (hS (hK 1 (hS (hP [0,4,5] hL) hL)) hL)) }
def iP:Wp:=[Ql N]
def ut (F:KF R):=Mw Tryz.f160 dT (iP N) [] N F
def uu (a:Nat) (b:LA) (K:St→O R):=fun i h=>K ⟨[(0,(.own 300000 0 a)),(4,(.int .u64 i)),(5,(iv h))],(hq [(bQ 1 b)])⟩
theorem lA (F:KF R) (a b):∀ n,uu a b (Ap (ut N F (pz 21828) []) n)=(E9 N (Ace F) a b n):=Fs fun n e=>(Cs (G8 N (Ace F) a b) e:_)
def iQ:=Cp N 160 (iP N) dT (fun
 | [(.imm c d 1 g f)],[]=>some fun _ k=>M8 N c d g f (Ace k)
 | _,_=>none) fun _ _=>by split;intro R F;exact(Cs (IU N (Ace F) · _ _ _ _) (VO fun a b=>(lW ..).trans (lA ..)):_).trans (WC ..).symm;trivial
def Vh (N:Nat) (r0:Int→O R) (k0:Int→Int→O R) (g h:Int):O R :=
 (cond (decide (h>0)) (k0 (wrap .i64 (g+1)) (Int.fdiv h (2 ^ 1))) (r0 g))
def Mo (r0:Int→O R):Nat→Int→Int→O R
 | 0=>fun _ _=>none
 | n+1=>Vh N r0 (Mo r0 n)
def NC (r0:Int→O R) (q0:Int→Int→O R) (a:LA) (b:Nat) (d c:Bool):O R :=
 (G7 N a b false c fun f i=>cond ((f:Int)==0) (r0 0) (cond (Ag (wrap .i64 ((f:Int) - 1)) f) (Aw .u32 (i.drop (0+(((wrap .i64 ((f:Int) - 1)).toNat)*1))) fun j=>q0 (wrap .i64 (32*(wrap .i64 ((f:Int) - 1)))) j) none))
def WD:=(Ac fun N a b d c r0=>NC (R:=R) N r0 (Mo N r0 N) a b d c).1
theorem QC (a b d c r0):(@WD R N a b d c r0)=(NC N r0 (Mo N r0 N) a b d c):=by rw[WD,(Ac _).2]
def nh:Hints:={ H:=(hK 4 (hS (hK 1 (hS (hP [3,4] hL) hL)) hL)) }
def sL:Wp:=[Ql N]
def Acp (F:KF R):=Mw Tryz.f190 nh (sL N) [] N F
def Acq (K:St→O R):=fun g h=>K ⟨[(3,(iv g)),(4,(.int .u32 h))],[]⟩
theorem sM (F:KF R):∀ n,Acq (Ap (Acp N F (pz 21828) []) n)=(Mo N (Jc F) n):=Fs fun n e=>(Cs (Vh N (Jc F)) e:_)
def Agm:=Cp N 190 (sL N) nh (fun
 | [(.imm a b 1 d c)],[]=>some fun _ k=>WD N a b d c (Jc k)
 | _,_=>none) fun _ _=>by split;intro R F;exact(Cs (NC N (Jc F) · _ _ _ _) ((lW ..).trans (sM ..)):_).trans (QC ..).symm;trivial
def FT (N:Nat) (k0:Nat→Int→Int→LA→O R) (r0:Nat→LA→O R) (c:LA) (a:Nat) (f g:Bool) (d:LA) (b:Nat) (h i:Bool) (j:Nat) (l:LA) (p m:Int):O R :=
 (cond (decide (m<(b:Int))) (cond (Ag m b) (Aw .u32 (d.drop ((m.toNat)*1)) fun r=>cond (Ag m j) (cond ((beq 1 1)&&((ble ((0+((m.toNat)*1))+1) (l.length))&&(!false))) (k0 j (Int.fdiv (wrap .u64 (p+(wrap .u64 r))) (2 ^ 32)) (wrap .i64 (m+1)) (l.set (0+((m.toNat)*1)) (.int .u32 (wrap .u32 (wrap .u64 (p+(wrap .u64 r))))))) none) none) none) (cond (Ag m j) (cond ((beq 1 1)&&((ble ((0+((m.toNat)*1))+1) (l.length))&&(!false))) (k0 j (Int.fdiv p (2 ^ 32)) (wrap .i64 (m+1)) (l.set (0+((m.toNat)*1)) (.int .u32 (wrap .u32 p)))) none) none))
def IV (r0:Nat→LA→O R) (c:LA) (a:Nat) (f g:Bool) (d:LA) (b:Nat) (h i:Bool) (k0:Nat→Int→Int→LA→O R) (q1:Nat→LA→Int→Int→O R) (j:Nat) (q o:Int) (l:LA):O R :=
 (cond (decide (o<(j:Int))) (cond (decide (o<(a:Int))) (cond (Ag o a) (Aw .u32 (c.drop ((o.toNat)*1)) fun s=>q1 j l (wrap .u64 (q+(wrap .u64 s))) o) none) (q1 j l q o)) (G7 N (l.take (j*1)) j false true fun t u=>r0 t u))
def Kx (r0:Nat→LA→O R) (c:LA) (a:Nat) (f g:Bool) (d:LA) (b:Nat) (h i:Bool):Nat→Nat→Int→Int→LA→O R
 | 0=>fun _ _ _ _=>none
 | n+1=>IV N r0 c a f g d b h i (Kx r0 c a f g d b h i n) (fun j l=>FT N (Kx r0 c a f g d b h i n) r0 c a f g d b h i j l)
def iR (N:Nat) (r0:Nat→LA→O R) (q0:Nat→Int→Int→LA→O R) (c:LA) (a:Nat) (f g:Bool) (d:LA) (b:Nat) (h i:Bool):O R :=
 (cond ((decide (0≤(wrap .i64 ((ep (a:Int) (b:Int))+1))))&&((decide ((wrap .i64 ((ep (a:Int) (b:Int))+1))≤(wrap .i64 ((ep (a:Int) (b:Int))+1))))&&((decide ((wrap .i64 ((ep (a:Int) (b:Int))+1))≤140737488355328))&&(decide (((wrap .i64 ((ep (a:Int) (b:Int))+1))*((4:Nat):Int))≤140737488355328))))) (q0 ((wrap .i64 ((ep (a:Int) (b:Int))+1)).toNat) 0 0 (replicate ((wrap .i64 ((ep (a:Int) (b:Int))+1)).toNat) (.int .u32 0))) none)
def ZW:=(Ac fun N c a f g d b h i r0=>iR (R:=R) N r0 (Kx N r0 c a f g d b h i N) c a f g d b h i).1
theorem ni (c a f g d b h i r0):(@ZW R N c a f g d b h i r0)=(iR N r0 (Kx N r0 c a f g d b h i N) c a f g d b h i):=by rw[ZW,(Ac _).2]
def sN:Hints:={ H:=(hK 3 (hS (hK 1 (hS (hP [0,1,5,6,7] (hK 1 (hS (hS (hJ [0,1,5,6,7] hL hL) hL) hL))) hL)) hL)),nils:=[(4,1)],modes:=[(2,1)] }
def wk:Wp:=[Ql N]
def sO (F:KF R):=Mw Tryz.f191 sN (wk N) [] N F
def Agn (c:LA) (a:Nat) (f g:Bool) (d:LA) (b:Nat) (h i:Bool) (j:Nat) (l:LA) (K:St→O R):=fun p m=>K ⟨[(0,(.imm c a 1 f g)),(1,(.imm d b 1 h i)),(5,(.own 300000 0 j)),(6,(.int .u64 p)),(7,(iv m))],(hq [(bQ 1 l)])⟩
def sP (c:LA) (a:Nat) (f g:Bool) (d:LA) (b:Nat) (h i:Bool) (K:St→O R):=fun j q o l=>K ⟨[(0,(.imm c a 1 f g)),(1,(.imm d b 1 h i)),(5,(.own 300000 0 j)),(6,(.int .u64 q)),(7,(iv o))],(hq [(bQ 1 l)])⟩
theorem uv (Q0) (F:KF R) (c a f g d b h i j l):Agn c a f g d b h i j l (Bq (sO N F (pz 5574721) [Q0]))=(FT N (sP c a f g d b h i Q0) (Ex F) c a f g d b h i j l):=by kernel_rfl
theorem uw (F:KF R) (c a f g d b h i):∀ n,sP c a f g d b h i (Ap (sO N F (pz 5444) []) n)=(Kx N (Ex F) c a f g d b h i n):=Fs fun n e=>(BL (IV N (Ex F) c a f g d b h i) e (VO fun j l=>(jW ..).trans ((uv ..).trans (pK (FT _ · _ _ _ _ _ _ _ _ _ _ _) e))):_)
def Ak2:=Cp N 191 (wk N) sN (fun
 | [(.imm c a 1 f g),(.imm d b 1 h i)],[]=>some fun _ k=>ZW N c a f g d b h i (Ex k)
 | _,_=>none) fun _ _=>by split;intro R F;exact(Cs (iR N (Ex F) · _ _ _ _ _ _ _ _) ((lW ..).trans (uw ..)):_).trans (ni ..).symm;trivial
def sQ (N:Nat) (c:LA) (b:Nat) (d e:Bool) (a:Int) (r0:Int→O R):O R :=
 (cond (decide ((wrap .i64 (Int.tdiv a 32))≥(b:Int))) (r0 0) (cond (Ag (wrap .i64 (Int.tdiv a 32)) b) (Aw .u32 (c.drop (((wrap .i64 (Int.tdiv a 32)).toNat)*1)) fun f=>cond (decide ((wrap .u64 (Int.tmod a 32))<0)) none (r0 (Af4 .u32 (Int.fdiv f (2 ^ (min ((wrap .u64 (Int.tmod a 32)).toNat) 32))) 1))) none))
def qc:=(Ac (@sQ R)).1
theorem nk:@qc R=@sQ R:=(Ac _).2
def Ago (F:KF R):Int→O R:=(fun g=>F (.int .u32 g) [])
def Ak3:=Cp N 192 [] Ca (fun
 | [(.imm c b 1 d e),(.int .i64 a)],[]=>some fun _ k=>qc N c b d e a (Ago k)
 | _,_=>none) fun _ _=>by split;intro R F;dsimp only;rw[nk];kernel_rfl;trivial
def Tm (N:Nat) (r0:Int→O R) (a b:Nat) (c d:LA) (k0:Int→O R) (f:Int):O R :=
 (cond (decide (f≥0)) (cond (Ag f a) (Aw .u32 (c.drop (0+((f.toNat)*1))) fun q=>cond (Ag f b) (Aw .u32 (d.drop (0+((f.toNat)*1))) fun r=>cond (decide (q<r)) (r0 (-1)) (cond (Ag f a) (Aw .u32 (c.drop (0+((f.toNat)*1))) fun s=>cond (Ag f b) (Aw .u32 (d.drop (0+((f.toNat)*1))) fun t=>cond (decide (s>t)) (r0 1) (k0 (wrap .i64 (f - 1)))) none) none)) none) none) (r0 0))
def Iu (r0:Int→O R) (a b:Nat) (c d:LA):Nat→Int→O R
 | 0=>fun _=>none
 | n+1=>Tm N r0 a b c d (Iu r0 a b c d n)
def DT (r0:Int→O R) (q0:Nat→Nat→LA→LA→Int→O R) (g:LA) (h:Nat) (o i:Bool) (j:LA) (l:Nat) (p m:Bool):O R :=
 (G7 N g h false i fun a c=>G7 N j l false m fun b d=>cond ((a:Int) != (b:Int)) (cond (decide ((a:Int)<(b:Int))) (r0 (-1)) (r0 1)) (q0 a b c d (wrap .i64 ((a:Int) - 1))))
def AF:=(Ac fun N g h o i j l p m r0=>DT (R:=R) N r0 (fun a b c d=>Iu N r0 a b c d N) g h o i j l p m).1
theorem TC (g h o i j l p m r0):(@AF R N g h o i j l p m r0)=(DT N r0 (fun a b c d=>Iu N r0 a b c d N) g h o i j l p m):=by rw[AF,(Ac _).2]
def dU:Wp:=[Ql N]
def sR (F:KF R):=Mw Tryz.f218 wb (dU N) [] N F
def sS (a b:Nat) (c d:LA) (K:St→O R):=fun f=>K ⟨[(0,(.own 300000 0 a)),(1,(.own 300001 0 b)),(5,(iv f))],(hq [(bQ 1 c),(bQ 1 d)])⟩
theorem iS (F:KF R) (a b c d):∀ n,sS a b c d (Ap (sR N F (pz 5444) []) n)=(Iu N (Jc F) a b c d n):=Fs fun n e=>(Cs (Tm N (Jc F) a b c d) e:_)
def ux:=Cp N 218 (dU N) wb (fun
 | [(.imm g h 1 o i),(.imm j l 1 p m)],[]=>some fun _ k=>AF N g h o i j l p m (Jc k)
 | _,_=>none) fun _ _=>by split;intro R F;exact(Cs (DT N (Jc F) · _ _ _ _ _ _ _ _) (Af6 fun a b c d=>(lW ..).trans (iS ..)):_).trans (TC ..).symm;trivial
def FU (N:Nat) (k0:Int→Int→LA→O R) (r0:Nat→Bool→LA→O R) (a b:Nat) (c d f:LA) (g s:Int):O R :=
 (cond (Ag g a) (Aw .u32 (c.drop (0+((g.toNat)*1))) fun u=>cond (decide ((wrap .u64 u)<s)) (cond (Ag g a) (cond ((beq 1 1)&&((ble ((0+((g.toNat)*1))+1) (f.length))&&(!false))) (k0 1 (wrap .i64 (g+1)) (f.set (0+((g.toNat)*1)) (.int .u32 (wrap .u32 (wrap .u64 ((wrap .u64 ((wrap .u64 u)+4294967296)) - s)))))) none) none) (cond (Ag g a) (cond ((beq 1 1)&&((ble ((0+((g.toNat)*1))+1) (f.length))&&(!false))) (k0 0 (wrap .i64 (g+1)) (f.set (0+((g.toNat)*1)) (.int .u32 (wrap .u32 (wrap .u64 ((wrap .u64 u) - s)))))) none) none)) none)
def IW (r0:Nat→Bool→LA→O R) (a b:Nat) (c d:LA) (k0:Int→Int→LA→O R) (q1:LA→Int→Int→O R) (t p:Int) (f:LA):O R :=
 (cond (decide (p<(a:Int))) (cond (decide (p<(b:Int))) (cond (Ag p b) (Aw .u32 (d.drop (0+((p.toNat)*1))) fun v=>q1 f p (wrap .u64 (t+(wrap .u64 v)))) none) (q1 f p t)) (G7 N (f.take (a*1)) a false true fun w x=>r0 w true x))
def Ky (r0:Nat→Bool→LA→O R) (a b:Nat) (c d:LA):Nat→Int→Int→LA→O R
 | 0=>fun _ _ _=>none
 | n+1=>IW N r0 a b c d (Ky r0 a b c d n) (fun f=>FU N (Ky r0 a b c d n) r0 a b c d f)
def iT (r0:Nat→Bool→LA→O R) (q0:Nat→Nat→LA→LA→Int→Int→LA→O R) (h:LA) (i:Nat) (q j:Bool) (l:LA) (m:Nat) (r o:Bool):O R :=
 (AF N h i false j l m false o fun y=>cond (decide (y<0)) (r0 0 false []) (G7 N h i false j fun a c=>G7 N l m false o fun b d=>cond ((decide (0≤(a:Int)))&&((decide ((a:Int)≤(a:Int)))&&((decide ((a:Int)≤140737488355328))&&(decide (((a:Int)*((4:Nat):Int))≤140737488355328))))) (q0 a b c d 0 0 (replicate a (.int .u32 0))) none))
def iU:=(Ac fun N h i q j l m r o r0=>iT (R:=R) N r0 (fun a b c d=>Ky N r0 a b c d N) h i q j l m r o).1
theorem np (h i q j l m r o r0):(@iU R N h i q j l m r o r0)=(iT N r0 (fun a b c d=>Ky N r0 a b c d N) h i q j l m r o):=by rw[iU,(Ac _).2]
def sT:Hints:={ H:=(hK 5 (hS (hK 1 (hS (hP [0,1,6,7,8] (hK 1 (hS (hS (hK 1 (hJ [0,1,6,8,9] hL hL)) hL) hL))) hL)) hL)),nils:=[(4,1)],modes:=[(2,1),(0,0)] }
def wl:Wp:=[ux N,Ql N]
def sU (F:KF R):=Mw Tryz.f193 sT (wl N) [] N F
def Agp (a b:Nat) (c d f:LA) (K:St→O R):=fun g s=>K ⟨[(0,(.own 300000 0 a)),(1,(.own 300001 0 b)),(6,(.own 300002 0 a)),(8,(iv g)),(9,(.int .u64 s))],(hq [(bQ 1 c),(bQ 1 d),(bQ 1 f)])⟩
def sV (a b:Nat) (c d:LA) (K:St→O R):=fun t p f=>K ⟨[(0,(.own 300000 0 a)),(1,(.own 300001 0 b)),(6,(.own 300002 0 a)),(7,(.int .u64 t)),(8,(iv p))],(hq [(bQ 1 c),(bQ 1 d),(bQ 1 f)])⟩
theorem uy (Q0) (F:KF R) (a b c d f):Agp a b c d f (Bq (sU N F (pz 357843205) [Q0]))=(FU N (sV a b c d Q0) (gn F) a b c d f):=by kernel_rfl
theorem uz (F:KF R) (a b c d):∀ n,sV a b c d (Ap (sU N F (pz 87364) []) n)=(Ky N (gn F) a b c d n):=Fs fun n e=>(BL (IW N (gn F) a b c d) e (Aqw fun f=>(jW ..).trans ((uy ..).trans (pK (FU _ · _ _ _ _ _ _) e))):_)
def Ak4:=Cp N 193 (wl N) sT (fun
 | [(.imm h i 1 q j),(.imm l m 1 r o)],[]=>some fun _ k=>iU N h i q j l m r o (gn k)
 | _,_=>none) fun _ _=>by split;intro R F;exact(Cs (iT N (gn F) · _ _ _ _ _ _ _ _) (Af6 fun a b c d=>(lW ..).trans (uz ..)):_).trans (np ..).symm;trivial
def Ov (k1:Nat→Int→LA→LA→O R) (r0:Nat→Nat→Bool→LA→LA→O R) (b:LA) (a:Nat) (f c:Bool) (d:Nat) (h:Int) (g i:LA) (q:Nat) (s:LA):O R :=
 (iU N (s.take (q*1)) q false true (g.take (d*1)) d false true fun x y z=>cond y (cond (Ag (wrap .i64 (Int.tdiv h 32)) a) (Aw .u32 (i.drop (0+(((wrap .i64 (Int.tdiv h 32)).toNat)*1))) fun aa=>cond (decide ((wrap .u64 (Int.tmod h 32))<0)) none (cond (Ag (wrap .i64 (Int.tdiv h 32)) a) (cond ((beq 1 1)&&((ble ((0+(((wrap .i64 (Int.tdiv h 32)).toNat)*1))+1) (i.length))&&(!false))) (k1 x (wrap .i64 (h - 1)) (i.set (0+(((wrap .i64 (Int.tdiv h 32)).toNat)*1)) (.int .u32 (nP .u32 aa (wrap .u32 ((1:Int)*2 ^ (min ((wrap .u64 (Int.tmod h 32)).toNat) 32)))))) z) none) none)) none) (k1 q (wrap .i64 (h - 1)) i s))
def Vi (r0:Nat→Nat→Bool→LA→LA→O R) (b:LA) (a:Nat) (f c:Bool) (d:Nat) (g:LA) (k1:Nat→Int→LA→LA→O R) (q2:Int→LA→Nat→LA→O R) (j:Nat) (h:Int) (i r:LA):O R :=
 (cond (decide (h≥0)) (ZW N (r.take (j*1)) j false true (r.take (j*1)) j false true fun u v=>qc N b a false c h fun ab=>cond (ab==1) (ZW N (v.take (u*1)) u false true [(.int .u32 1)] 1 false true fun ac ad=>q2 h i ac ad) (q2 h i u v)) (G7 N (i.take (a*1)) a false true fun ae af=>G7 N (r.take (j*1)) j false true fun ag ah=>r0 ae ag true af ah))
def G1 (r0:Nat→Nat→Bool→LA→LA→O R) (b:LA) (a:Nat) (f c:Bool) (d:Nat) (g:LA):Nat→Nat→Int→LA→LA→O R
 | 0=>fun _ _ _ _=>none
 | n+1=>Vi N r0 b a f c d g (G1 r0 b a f c d g n) (fun h i=>Ov N (G1 r0 b a f c d g n) r0 b a f c d h g i)
def FV (r0:Nat→Nat→Bool→LA→LA→O R) (b:LA) (a:Nat) (f c:Bool) (d:Nat) (g:LA) (q1:Nat→Int→LA→LA→O R):O R :=
 (cond ((decide (0≤(a:Int)))&&((decide ((a:Int)≤(a:Int)))&&((decide ((a:Int)≤140737488355328))&&(decide (((a:Int)*((4:Nat):Int))≤140737488355328))))) (WD N b a false c fun ai=>q1 0 (wrap .i64 (ai - 1)) (replicate a (.int .u32 0)) []) none)
def Ss (r0:Nat→Nat→Bool→LA→LA→O R) (b:LA) (a:Nat) (f c:Bool) (d:Nat) (g:LA):O R:=(FV N r0 b a f c d g (G1 N r0 b a f c d g N))
def IX (r0:Nat→Nat→Bool→LA→LA→O R) (q0:Nat→LA→O R) (b:LA) (a:Nat) (f c:Bool) (l:LA) (m:Nat) (p o:Bool):O R :=
 (G7 N l m false o fun d g=>cond ((d:Int)==0) (r0 0 0 false [] []) (M8 N b a false c fun w aj=>M8 N (g.take (d*1)) d false true fun t ak=>cond (aj==true) (cond (cond true ak false) (cond (t==0) none (It N (wrap .u64 (Int.tdiv w t)) fun al am=>cond (t==0) none (It N (Int.tmod w t) fun an ao=>r0 al an true am ao))) (q0 d g)) (q0 d g)))
def T5:=(Ac fun N b a f c l m p o r0=>IX (R:=R) N r0 (fun d g=>Ss N r0 b a f c d g) b a f c l m p o).1
theorem WE (b a f c l m p o r0):(@T5 R N b a f c l m p o r0)=(IX N r0 (fun d g=>Ss N r0 b a f c d g) b a f c l m p o):=by rw[T5,(Ac _).2]
def dV:Hints:={ H:=(hK 4 (hJ [0,1,5] hL (hK 1 (hS (hK 1 (hS (hP [0,1,4,5,11] (hK 1 (hS (hS (hK 1 (hJ [0,1,4,5,11] hL hL)) hL) hL))) hL)) hL)))),nils:=[(4,1),(5,1)],modes:=[(2,1),(2,1),(0,0)] }
def iV:Wp:=[Ql N,iQ N,NA N,Agm N,Ak2 N,Ak3 N,Ak4 N]
def LG (F:KF R):=Mw Tryz.f159 dV (iV N) [] N F
def Kz (F:KF R):Nat→Nat→Bool→LA→LA→O R:=(fun ap aq ar au av=>F (.tup [(.own 300000 0 ap),(.own 300001 0 aq),(.bool ar)]) (hq [(bQ 1 au),(bQ 1 av)]))
def vA (b:LA) (a:Nat) (f c:Bool) (d:Nat) (h:Int) (g i:LA) (K:St→O R):=fun q s=>K ⟨[(0,(.imm b a 1 f c)),(1,(.own 300000 0 d)),(4,(.own 300001 0 a)),(5,(.own 300002 0 q)),(11,(iv h))],(hq [(bQ 1 g),(bQ 1 i),(bQ 1 s)])⟩
def dW (b:LA) (a:Nat) (f c:Bool) (d:Nat) (g:LA) (K:St→O R):=fun j h i r=>K ⟨[(0,(.imm b a 1 f c)),(1,(.own 300000 0 d)),(4,(.own 300001 0 a)),(5,(.own 300002 0 j)),(11,(iv h))],(hq [(bQ 1 g),(bQ 1 i),(bQ 1 r)])⟩
def vB (b:LA) (a:Nat) (f c:Bool) (d:Nat) (g:LA) (K:St→O R):=K ⟨[(0,(.imm b a 1 f c)),(1,(.own 300000 0 d)),(5,(.own 300001 0 0))],(hq [(bQ 1 g),(bQ 1 [])])⟩
theorem lB (Q1) (F:KF R) (b a f c d h g i):vA b a f c d h g i (Bq (LG N F (pz 1431585029) [Q1]))=(Ov N (dW b a f c d g Q1) (Kz F) b a f c d h g i):=by kernel_rfl
theorem lC (F:KF R) (b a f c d g):∀ n,dW b a f c d g (Ap (LG N F (pz 349508) []) n)=(G1 N (Kz F) b a f c d g n):=Fs fun n e=>(BL (Vi N (Kz F) b a f c d g) e (VO fun h i=>(jW ..).trans ((lB ..).trans (pK (Ov _ · _ _ _ _ _ _ _ _ _) e))):_)
theorem lD (F:KF R) (b a f c d g):vB b a f c d g (Bq (LG N F (pz 1365) []))=(Ss N (Kz F) b a f c d g):=(Cs (FV N (Kz F) b a f c d g) ((lW ..).trans (lC ..)):_)
def yt:=Cp N 159 (iV N) dV (fun
 | [(.imm b a 1 f c),(.imm l m 1 p o)],[]=>some fun _ k=>T5 N b a f c l m p o (Kz k)
 | _,_=>none) fun _ _=>by split;intro R F;exact(Cs (IX N (Kz F) · _ _ _ _ _ _ _ _) (VO fun d g=>(jW ..).trans (lD ..)):_).trans (WE ..).symm;trivial
def QD (N:Nat) (r0:Nat→O R) (a:Nat) (b:LA) (k0:Int→O R) (c:Int):O R :=
 (cond ((decide (c>0))==true) (cond (Ag (wrap .i64 (c - 1)) a) (Aw .u32 (b.drop (0+(((wrap .i64 (c - 1)).toNat)*1))) fun d=>cond (cond true (d==0) false) (k0 (wrap .i64 (c - 1))) (cond ((decide ((0:Int)≤(0:Int)))&&((decide (0≤c))&&((decide (c≤(a:Int)))&&(decide ((a:Int)≤(a:Int)))))) (r0 (c.toNat)) none)) none) (cond ((decide ((0:Int)≤(0:Int)))&&((decide (0≤c))&&((decide (c≤(a:Int)))&&(decide ((a:Int)≤(a:Int)))))) (r0 (c.toNat)) none))
def Xz (r0:Nat→O R) (a:Nat) (b:LA):Nat→Int→O R
 | 0=>fun _=>none
 | n+1=>QD N r0 a b (Xz r0 a b n)
def iW (N:Nat) (r0:Nat→O R) (q0:Int→O R) (a:Nat) (b:LA):O R :=
 (q0 (a:Int))
def WF:=(Ac fun N a b r0=>iW (R:=R) N r0 (Xz N r0 a b N) a b).1
theorem fS (a b r0):(@WF R N a b r0)=(iW N r0 (Xz N r0 a b N) a b):=by rw[WF,(Ac _).2]
def Ak5 (F:KF R):=Mw Tryz.f212 nW [] [100000] N F
def ZX (b:LA) (F:KF R):Nat→O R:=(fun f=>F (.own 100000 0 f) [(100000,(bQ 1 b))])
def Ak6 (a:Nat) (b:LA) (K:St→O R):=fun c=>K ⟨[(0,(.own 100000 0 a)),(3,(iv c))],[(100000,(bQ 1 b))]⟩
theorem yu (F:KF R) (a b):∀ n,Ak6 a b (Ap (Ak5 N F (pz 336) []) n)=(Xz N (ZX b F) a b n):=Fs fun n e=>(Cs (QD N (ZX b F) a b) e:_)
def Acr:=Cp N 212 [] nW (fun
 | [(.own 100000 0 a)],[(100000,⟨false,false,true,false,1,b,false,none⟩)]=>some fun _ k=>WF N a b (ZX b k)
 | _,_=>none) fun _ _=>by split;rename_i a b;intro R F;exact(Cs (iW N (ZX b F) · a b) ((lW ..).trans (yu ..)):_).trans (fS ..).symm;trivial
def FW (a:Int) (r0:Nat→LA→O R):O R :=
 (WF N 2 [(.int .u32 (wrap .u32 a)),(.int .u32 (wrap .u32 (Int.fdiv a (2 ^ 32))))] fun b=>r0 b [(.int .u32 (wrap .u32 a)),(.int .u32 (wrap .u32 (Int.fdiv a (2 ^ 32))))])
def K0:=(Ac (@FW R)).1
theorem IY:@K0 R=@FW R:=(Ac _).2
def TD:=Cp N 197 [Acr N] Ab9 (fun
 | [(.int .u64 a)],[]=>some fun _ k=>K0 N a (Ex k)
 | _,_=>none) fun _ _=>by split;intro R F;dsimp only;rw[IY];kernel_rfl;trivial
def fT (N:Nat) (c:Bool) (a:Nat) (b:LA) (r0:Bool→O R):O R :=
 (cond (c==true) (r0 (cond true (decide ((a:Int)>0)) false)) (r0 false))
def Ow:=(Ac (@fT R)).1
theorem dX:@Ow R=@fT R:=(Ac _).2
def yv (a:Nat) (b:LA) (F:KF R):Bool→O R:=(fun d=>F (.agg [(.bool d),(.own 100000 0 a)]) [(100000,(bQ 1 b))])
def IZ:=Cp N 196 [] Ca (fun
 | [(.bool c),(.own 100000 0 a)],[(100000,⟨false,false,true,false,1,b,false,none⟩)]=>some fun _ k=>Ow N c a b (yv a b k)
 | _,_=>none) fun _ _=>by split;intro R F;dsimp only;rw[dX];kernel_rfl;trivial
def WG (a:Int) (r0:Bool→Nat→LA→O R):O R :=
 (cond (decide (a<0)) (K0 N (wrap .u64 ((0:Int) - (wrap .u64 a))) fun b c=>Ow N true b c fun f=>r0 f b c) (K0 N (wrap .u64 a) fun d e=>Ow N false d e fun g=>r0 g d e))
def M9:=(Ac (@WG R)).1
theorem WH:@M9 R=@WG R:=(Ac _).2
def QE:=Cp N 164 [TD N,IZ N] Ca (fun
 | [(.int .i64 a)],[]=>some fun _ k=>M9 N a (Acb k)
 | _,_=>none) fun _ _=>by split;intro R F;dsimp only;rw[WH];kernel_rfl;trivial
def Za (N:Nat) (r0:LA→Nat→O R) (c:LA) (a:Nat) (d b:Bool) (k0:Int→O R) (f:Int):O R :=
 (cond ((decide (f>0))==true) (cond (Ag (wrap .i64 (f - 1)) a) (Aw .u32 (c.drop (((wrap .i64 (f - 1)).toNat)*1)) fun g=>cond (cond true (g==0) false) (k0 (wrap .i64 (f - 1))) (cond ((decide ((0:Int)≤(0:Int)))&&((decide (0≤f))&&((decide (f≤(a:Int)))&&(decide ((a:Int)≤(a:Int)))))) (r0 (c.take ((f.toNat)*1)) (f.toNat)) none)) none) (cond ((decide ((0:Int)≤(0:Int)))&&((decide (0≤f))&&((decide (f≤(a:Int)))&&(decide ((a:Int)≤(a:Int)))))) (r0 (c.take ((f.toNat)*1)) (f.toNat)) none))
def Na (r0:LA→Nat→O R) (c:LA) (a:Nat) (d b:Bool):Nat→Int→O R
 | 0=>fun _=>none
 | n+1=>Za N r0 c a d b (Na r0 c a d b n)
def QF (N:Nat) (r0:LA→Nat→O R) (q0:Int→O R) (c:LA) (a:Nat) (d b:Bool):O R :=
 (q0 (a:Int))
def Gb:=(Ac fun N c a d b r0=>QF (R:=R) N r0 (Na N r0 c a d b N) c a d b).1
theorem dY (c a d b r0):(@Gb R N c a d b r0)=(QF N r0 (Na N r0 c a d b N) c a d b):=by rw[Gb,(Ac _).2]
def yw (F:KF R):=Mw Tryz.f212 nW [] [] N F
def DU (b:Bool) (F:KF R):LA→Nat→O R:=(fun h i=>F (.imm h i 1 false b) [])
def yx (c:LA) (a:Nat) (d b:Bool) (K:St→O R):=fun f=>K ⟨[(0,(.imm c a 1 d b)),(3,(iv f))],[]⟩
theorem ph (F:KF R) (c a d b):∀ n,yx c a d b (Ap (yw N F (pz 336) []) n)=(Na N (DU b F) c a d b n):=Fs fun n e=>(Cs (Za N (DU b F) c a d b) e:_)
def AG:=Cp N 212 [] nW (fun
 | [(.imm c a 1 d b)],[]=>some fun _ k=>Gb N c a d b (DU b k)
 | _,_=>none) fun _ _=>by split;rename_i c a d b;intro R F;exact(Cs (QF N (DU b F) · c a d b) ((lW ..).trans (ph ..)):_).trans (dY ..).symm;trivial
def QG (N:Nat) (k1:Nat→Int→Int→LA→O R) (r0:Nat→LA→O R) (f:LA) (a:Nat) (c:Bool) (i:Nat) (h l:Int) (g:LA) (b:Nat) (d:Bool) (j:Int) (k2:Int→Int→Int→LA→O R) (w x m:Int) (u:LA):O R :=
 (cond (decide (m<x)) (cond (Ag m a) (Aw .u32 (f.drop ((m.toNat)*1)) fun y=>cond (Ag (wrap .i64 (h+m)) i) (Aw .u32 (u.drop (0+(((wrap .i64 (h+m)).toNat)*1))) fun z=>cond (Ag (wrap .i64 (h+m)) i) (cond ((beq 1 1)&&((ble ((0+(((wrap .i64 (h+m)).toNat)*1))+1) (u.length))&&(!false))) (k2 (Int.fdiv (wrap .u64 (w+(wrap .u64 ((wrap .u64 ((wrap .u64 l)*(wrap .u64 y)))+(wrap .u64 z))))) (2 ^ 32)) x (wrap .i64 (m+1)) (u.set (0+(((wrap .i64 (h+m)).toNat)*1)) (.int .u32 (wrap .u32 (wrap .u64 (w+(wrap .u64 ((wrap .u64 ((wrap .u64 l)*(wrap .u64 y)))+(wrap .u64 z))))))))) none) none) none) none) (cond (Ag (wrap .i64 (h+(a:Int))) i) (cond ((beq 1 1)&&((ble ((0+(((wrap .i64 (h+(a:Int))).toNat)*1))+1) (u.length))&&(!false))) (k1 i j (wrap .i64 (h+1)) (u.set (0+(((wrap .i64 (h+(a:Int))).toNat)*1)) (.int .u32 (wrap .u32 w)))) none) none))
def X0 (k1:Nat→Int→Int→LA→O R) (r0:Nat→LA→O R) (f:LA) (a:Nat) (c:Bool) (i:Nat) (h l:Int) (g:LA) (b:Nat) (d:Bool) (j:Int):Nat→Int→Int→Int→LA→O R
 | 0=>fun _ _ _ _=>none
 | n+1=>QG N k1 r0 f a c i h l g b d j (X0 k1 r0 f a c i h l g b d j n)
def FX (r0:Nat→LA→O R) (f:LA) (a:Nat) (c:Bool) (g:LA) (b:Nat) (d:Bool) (k1:Nat→Int→Int→LA→O R) (q2:Nat→Int→Int→Int→Int→Int→Int→LA→O R) (i:Nat) (j h:Int) (v:LA):O R :=
 (cond (decide (h<j)) (cond (Ag h b) (Aw .u32 (g.drop ((h.toNat)*1)) fun l=>cond (l==0) (k1 i j (wrap .i64 (h+1)) v) (q2 i h l j 0 (a:Int) 0 v)) none) (WF N i v fun aa=>r0 aa v))
def Ri (r0:Nat→LA→O R) (f:LA) (a:Nat) (c:Bool) (g:LA) (b:Nat) (d:Bool):Nat→Nat→Int→Int→LA→O R
 | 0=>fun _ _ _ _=>none
 | n+1=>FX N r0 f a c g b d (Ri r0 f a c g b d n) (fun i h l j=>X0 N (Ri r0 f a c g b d n) r0 f a c i h l g b d j N)
def fU (N:Nat) (r0:Nat→LA→O R) (g:LA) (b:Nat) (d:Bool) (f:LA) (a:Nat) (c:Bool) (q1:Nat→Int→Int→LA→O R):O R :=
 (cond ((decide (0≤(wrap .i64 ((b:Int)+(a:Int)))))&&((decide ((wrap .i64 ((b:Int)+(a:Int)))≤(wrap .i64 ((b:Int)+(a:Int)))))&&((decide ((wrap .i64 ((b:Int)+(a:Int)))≤140737488355328))&&(decide (((wrap .i64 ((b:Int)+(a:Int)))*((4:Nat):Int))≤140737488355328))))) (q1 ((wrap .i64 ((b:Int)+(a:Int))).toNat) (b:Int) 0 (replicate ((wrap .i64 ((b:Int)+(a:Int))).toNat) (.int .u32 0))) none)
def ZY (r0:Nat→LA→O R) (g:LA) (b:Nat) (d:Bool) (f:LA) (a:Nat) (c:Bool):O R:=(fU N r0 g b d f a c (Ri N r0 f a c g b d N))
def ZZ (r0:Nat→LA→O R) (q0:LA→Nat→LA→Nat→O R) (o:LA) (p:Nat) (q d:Bool) (r:LA) (s:Nat) (t c:Bool):O R :=
 (Gb N o p q d fun g b=>Gb N r s t c fun f a=>cond (((b:Int)==0)==false) (cond (cond false true ((a:Int)==0)) (r0 0 []) (q0 g b f a)) (r0 0 []))
def sW:=(Ac fun N o p q d r s t c r0=>ZZ (R:=R) N r0 (fun g b f a=>ZY N r0 g b d f a c) o p q d r s t c).1
theorem QH (o p q d r s t c r0):(@sW R N o p q d r s t c r0)=(ZZ N r0 (fun g b f a=>ZY N r0 g b d f a c) o p q d r s t c):=by rw[sW,(Ac _).2]
def wm:Hints:={ H:=(hK 2 (hJ [0,1] hL (hK 1 (hS (hK 1 (hS (hP [1,5,29,30,31] (hK 2 (hS (hS (hK 3 (hS (hK 1 (hS (hP [1,5,6,7,8,29,30,31,38,39,40] hL) hL)) hL)) hL) hL))) hL)) hL)))),nils:=[(4,1)],modes:=[(2,1)] }
def Nb:=Axz (AG N) (Acr N) (Eq.refl 212)
def Acs:Wp:=[Nb N]
def lE (F:KF R):=Mw Tryz.f185 wm (Acs N) [] N F
def Ak7 (f:LA) (a:Nat) (c:Bool) (i:Nat) (h l:Int) (g:LA) (b:Nat) (d:Bool) (j:Int) (K:St→O R):=fun w x m u=>K ⟨[(1,(.imm f a 1 false c)),(5,(.own 300000 0 i)),(6,(iv h)),(7,(.int .u32 l)),(8,(.int .u64 w)),(29,(.imm g b 1 false d)),(30,(iv j)),(31,(iv h)),(38,(.imm f a 1 false c)),(39,(iv x)),(40,(iv m))],(hq [(bQ 1 u)])⟩
def lF (f:LA) (a:Nat) (c:Bool) (g:LA) (b:Nat) (d:Bool) (K:St→O R):=fun i j h v=>K ⟨[(1,(.imm f a 1 false c)),(5,(.own 300000 0 i)),(29,(.imm g b 1 false d)),(30,(iv j)),(31,(iv h))],(hq [(bQ 1 v)])⟩
def Ak8 (g:LA) (b:Nat) (d:Bool) (f:LA) (a:Nat) (c:Bool) (K:St→O R):=K ⟨[(0,(.imm g b 1 false d)),(1,(.imm f a 1 false c))],[]⟩
theorem yy (Q1) (F:KF R) (f a c i h l g b d j):∀ n,Ak7 f a c i h l g b d j (Ap (lE N F (pz 91553596740) [Q1]) n)=(X0 N (lF f a c g b d Q1) (Ex F) f a c i h l g b d j n):=Fs fun n e=>(Cs (QG N (lF f a c g b d Q1) (Ex F) f a c i h l g b d j) e:_)
theorem yz (F:KF R) (f a c g b d):∀ n,lF f a c g b d (Ap (lE N F (pz 21828) []) n)=(Ri N (Ex F) f a c g b d n):=Fs fun n e=>(BL (FX N (Ex F) f a c g b d) e (Af6 fun i h l j=>(lW ..).trans ((yy ..).trans (pK (X0 _ · _ _ _ _ _ _ _ _ _ _ _ _) e))):_)
theorem zH (F:KF R) (g b d f a c):Ak8 g b d f a c (Bq (lE N F (pz 85) []))=(ZY N (Ex F) g b d f a c):=(Cs (fU N (Ex F) g b d f a c) ((lW ..).trans (yz ..)):_)
def Aoe:=Cp N 185 (Acs N) wm (fun
 | [(.imm o p 1 q d),(.imm r s 1 t c)],[]=>some fun _ k=>sW N o p q d r s t c (Ex k)
 | _,_=>none) fun _ _=>by split;intro R F;exact(Cs (ZZ N (Ex F) · _ _ _ _ _ _ _ _) (Af6 fun g b f a=>(jW ..).trans (zH ..)):_).trans (QH ..).symm;trivial
def zI (a:LA) (c:Bool) (b:LA) (d:Bool) (r0:Bool→Nat→LA→O R):O R :=
 (OP a fun g=>OP b fun h=>Bb 1 (a.drop 1) fun i j=>Bb 1 (b.drop 1) fun l m=>sW N i j false c l m false d fun e f=>Ow N (!(g==h)) e f fun n=>r0 n e f)
def WI:=(Ac (@zI R)).1
theorem sX:@WI R=@zI R:=(Ac _).2
def Acu:=Cp N 168 [Aoe N,IZ N] Ca (fun
 | [(.pagg a c),(.pagg b d)],[]=>some fun _ k=>WI N a c b d (Acb k)
 | _,_=>none) fun _ _=>by split;intro R F;dsimp only;rw[sX];kernel_rfl;trivial
def sY (c:LA) (d:Nat) (e b:Bool) (r0:Nat→LA→O R):O R :=
 (Gb N c d e b fun f a=>cond ((decide (0≤(a:Int)))&&((decide ((a:Int)≤(a:Int)))&&((decide ((a:Int)≤140737488355328))&&(decide (((a:Int)*((4:Nat):Int))≤140737488355328))))) (cond ((!b)||(A2 f)) (r0 a (Du (replicate a (.int .u32 0)) 0 (f.take ((min a a)*1)))) none) none)
def qd:=(Ac (@sY R)).1
theorem nq:@qd R=@sY R:=(Ac _).2
def Ak9:=Cp N 202 [AG N] Ab9 (fun
 | [(.imm c d 1 e b)],[]=>some fun _ k=>qd N c d e b (Ex k)
 | _,_=>none) fun _ _=>by split;intro R F;dsimp only;rw[nq];kernel_rfl;trivial
def zJ (a:LA) (b:Bool) (r0:Bool→Nat→LA→O R):O R :=
 (OP a fun e=>Bb 1 (a.drop 1) fun f g=>qd N f g false b fun c d=>Ow N (!e) c d fun h=>r0 h c d)
def lG:=(Ac (@zJ R)).1
theorem sZ:@lG R=@zJ R:=(Ac _).2
def Acv:=Cp N 169 [Ak9 N,IZ N] Ca (fun
 | [(.pagg a b)],[]=>some fun _ k=>lG N a b (Acb k)
 | _,_=>none) fun _ _=>by split;intro R F;dsimp only;rw[sZ];kernel_rfl;trivial
def FY (r0:Nat→LA→O R) (b:LA) (a:Nat) (d:Bool) (f:LA) (c:Nat) (g:Bool) (k1:Nat→Int→Int→Int→LA→O R) (m:Nat) (o v h:Int) (l:LA):O R :=
 (cond (decide (h<v)) (cond (Ag h a) (Aw .u32 (b.drop ((h.toNat)*1)) fun w=>cond (decide (h<(c:Int))) (cond (Ag h c) (Aw .u32 (f.drop ((h.toNat)*1)) fun z=>cond (Ag h m) (cond ((beq 1 1)&&((ble ((0+((h.toNat)*1))+1) (l.length))&&(!false))) (k1 m (Int.fdiv (wrap .u64 ((wrap .u64 (o+(wrap .u64 w)))+(wrap .u64 z))) (2 ^ 32)) v (wrap .i64 (h+1)) (l.set (0+((h.toNat)*1)) (.int .u32 (wrap .u32 (wrap .u64 ((wrap .u64 (o+(wrap .u64 w)))+(wrap .u64 z))))))) none) none) none) (cond (Ag h m) (cond ((beq 1 1)&&((ble ((0+((h.toNat)*1))+1) (l.length))&&(!false))) (k1 m (Int.fdiv (wrap .u64 (o+(wrap .u64 w))) (2 ^ 32)) v (wrap .i64 (h+1)) (l.set (0+((h.toNat)*1)) (.int .u32 (wrap .u32 (wrap .u64 (o+(wrap .u64 w))))))) none) none)) none) (cond (Ag (a:Int) m) (cond ((beq 1 1)&&((ble ((0+(a*1))+1) (l.length))&&(!false))) (WF N m (l.set (0+(a*1)) (.int .u32 (wrap .u32 o))) fun ac=>r0 ac (l.set (0+(a*1)) (.int .u32 (wrap .u32 o)))) none) none))
def X7 (r0:Nat→LA→O R) (b:LA) (a:Nat) (d:Bool) (f:LA) (c:Nat) (g:Bool):Nat→Nat→Int→Int→Int→LA→O R
 | 0=>fun _ _ _ _ _=>none
 | n+1=>FY N r0 b a d f c g (X7 r0 b a d f c g n)
def fV (N:Nat) (r0:Nat→LA→O R) (q1:LA→Nat→Bool→LA→Nat→Bool→Nat→Int→Int→Int→LA→O R) (b:LA) (a:Nat) (d:Bool) (f:LA) (c:Nat) (g:Bool):O R :=
 (cond ((decide (0≤(wrap .i64 ((a:Int)+1))))&&((decide ((wrap .i64 ((a:Int)+1))≤(wrap .i64 ((a:Int)+1))))&&((decide ((wrap .i64 ((a:Int)+1))≤140737488355328))&&(decide (((wrap .i64 ((a:Int)+1))*((4:Nat):Int))≤140737488355328))))) (q1 b a d f c g ((wrap .i64 ((a:Int)+1)).toNat) 0 (a:Int) 0 (replicate ((wrap .i64 ((a:Int)+1)).toNat) (.int .u32 0))) none)
def ND (r0:Nat→LA→O R) (b:LA) (a:Nat) (d:Bool) (f:LA) (c:Nat) (g:Bool):O R:=(fV N r0 (fun b a d f c g=>X7 N r0 b a d f c g N) b a d f c g)
def iX (r0:Nat→LA→O R) (q0:LA→Nat→Bool→LA→Nat→Bool→O R) (p:LA) (q:Nat) (r i:Bool) (s:LA) (t:Nat) (u j:Bool):O R :=
 (Gb N p q r i fun aa x=>Gb N s t u j fun ab y=>cond (decide ((x:Int)<(y:Int))) (q0 ab y j aa x i) (q0 aa x i ab y j))
def s4:=(Ac fun N p q r i s t u j r0=>iX (R:=R) N r0 (ND N r0) p q r i s t u j).1
theorem fW (p q r i s t u j r0):(@s4 R N p q r i s t u j r0)=(iX N r0 (ND N r0) p q r i s t u j):=by rw[s4,(Ac _).2]
def wo:Hints:={ H:=(hK 2 (hJ [0,1] hL (hK 2 (hS (hK 1 (hS (hP [0,1,5,6,24,25,26] hL) hL)) hL)))),nils:=[(4,1)],modes:=[(2,1)] }
def Acw:Wp:=[Nb N]
def wq (F:KF R):=Mw Tryz.f200 wo (Acw N) [] N F
def Ala (b:LA) (a:Nat) (d:Bool) (f:LA) (c:Nat) (g:Bool) (K:St→O R):=fun m o v h l=>K ⟨[(0,(.imm b a 1 false d)),(1,(.imm f c 1 false g)),(5,(.own 300000 0 m)),(6,(.int .u64 o)),(24,(.imm b a 1 false d)),(25,(iv v)),(26,(iv h))],(hq [(bQ 1 l)])⟩
def Alb (K:St→O R):=fun b a d f c g=>K ⟨[(0,(.imm b a 1 false d)),(1,(.imm f c 1 false g))],[]⟩
theorem zK (F:KF R) (b a d f c g):∀ n,Ala b a d f c g (Ap (wq N F (pz 87364) []) n)=(X7 N (Ex F) b a d f c g n):=Fs fun n e=>(Cs (FY N (Ex F) b a d f c g) e:_)
theorem zL (F:KF R):Alb (Bq (wq N F (pz 85) []))=(ND N (Ex F)):=(Cs (fV N (Ex F)) (Ax9 fun b a d f c g=>(lW ..).trans (zK ..)):_)
def Aof:=Cp N 200 (Acw N) wo (fun
 | [(.imm p q 1 r i),(.imm s t 1 u j)],[]=>some fun _ k=>s4 N p q r i s t u j (Ex k)
 | _,_=>none) fun _ _=>by split;intro R F;exact(Cs (iX N (Ex F) · _ _ _ _ _ _ _ _) ((jW ..).trans (zL ..)):_).trans (fW ..).symm;trivial
def Pe (N:Nat) (r0:Int→O R) (f:LA) (a:Nat) (b:Bool) (g:LA) (c:Nat) (d:Bool) (k0:Int→O R) (h:Int):O R :=
 (cond (decide (h≥0)) (cond (Ag h a) (Aw .u32 (f.drop ((h.toNat)*1)) fun q=>cond (Ag h c) (Aw .u32 (g.drop ((h.toNat)*1)) fun r=>cond (decide (q<r)) (r0 (-1)) (cond (Ag h a) (Aw .u32 (f.drop ((h.toNat)*1)) fun s=>cond (Ag h c) (Aw .u32 (g.drop ((h.toNat)*1)) fun t=>cond (decide (s>t)) (r0 1) (k0 (wrap .i64 (h - 1)))) none) none)) none) none) (r0 0))
def Gc (r0:Int→O R) (f:LA) (a:Nat) (b:Bool) (g:LA) (c:Nat) (d:Bool):Nat→Int→O R
 | 0=>fun _=>none
 | n+1=>Pe N r0 f a b g c d (Gc r0 f a b g c d n)
def Vj (r0:Int→O R) (q0:LA→Nat→LA→Nat→Int→O R) (i:LA) (j:Nat) (l b:Bool) (m:LA) (o:Nat) (p d:Bool):O R :=
 (Gb N i j l b fun f a=>Gb N m o p d fun g c=>cond ((a:Int) != (c:Int)) (cond (decide ((a:Int)<(c:Int))) (r0 (-1)) (r0 1)) (q0 f a g c (wrap .i64 ((a:Int) - 1))))
def Su:=(Ac fun N i j l b m o p d r0=>Vj (R:=R) N r0 (fun f a g c=>Gc N r0 f a b g c d N) i j l b m o p d).1
theorem I_ (i j l b m o p d r0):(@Su R N i j l b m o p d r0)=(Vj N r0 (fun f a g c=>Gc N r0 f a b g c d N) i j l b m o p d):=by rw[Su,(Ac _).2]
def TE:Wp:=[AG N]
def lH (F:KF R):=Mw Tryz.f207 wb (TE N) [] N F
def lI (f:LA) (a:Nat) (b:Bool) (g:LA) (c:Nat) (d:Bool) (K:St→O R):=fun h=>K ⟨[(0,(.imm f a 1 false b)),(1,(.imm g c 1 false d)),(5,(iv h))],[]⟩
theorem bS (F:KF R) (f a b g c d):∀ n,lI f a b g c d (Ap (lH N F (pz 5444) []) n)=(Gc N (Jc F) f a b g c d n):=Fs fun n e=>(Cs (Pe N (Jc F) f a b g c d) e:_)
def pi:=Cp N 207 (TE N) wb (fun
 | [(.imm i j 1 l b),(.imm m o 1 p d)],[]=>some fun _ k=>Su N i j l b m o p d (Jc k)
 | _,_=>none) fun _ _=>by split;intro R F;exact(Cs (Vj N (Jc F) · _ _ _ _ _ _ _ _) (Af6 fun f a g c=>(lW ..).trans (bS ..)):_).trans (I_ ..).symm;trivial
def FZ (r0:Nat→Bool→LA→O R) (f:LA) (d:Nat) (b:Bool) (a:Nat) (g:LA) (c:Bool) (k0:Int→Int→Int→LA→O R) (r s h:Int) (i:LA):O R :=
 (cond (decide (h<s)) (cond (Ag h a) (Aw .u32 (g.drop ((h.toNat)*1)) fun t=>cond (decide (h<(d:Int))) (cond (Ag h d) (Aw .u32 (f.drop ((h.toNat)*1)) fun u=>cond (Ag h a) (cond ((beq 1 1)&&((ble ((0+((h.toNat)*1))+1) (i.length))&&(!false))) (k0 (Int.fdiv (wrap .u64 ((wrap .u64 ((wrap .u64 t) - r)) - (wrap .u64 u))) (2 ^ 63)) s (wrap .i64 (h+1)) (i.set (0+((h.toNat)*1)) (.int .u32 (wrap .u32 (wrap .u64 ((wrap .u64 ((wrap .u64 t) - r)) - (wrap .u64 u))))))) none) none) none) (cond (Ag h a) (cond ((beq 1 1)&&((ble ((0+((h.toNat)*1))+1) (i.length))&&(!false))) (k0 (Int.fdiv (wrap .u64 ((wrap .u64 t) - r)) (2 ^ 63)) s (wrap .i64 (h+1)) (i.set (0+((h.toNat)*1)) (.int .u32 (wrap .u32 (wrap .u64 ((wrap .u64 t) - r)))))) none) none)) none) (WF N a i fun v=>r0 v true i))
def Ul (r0:Nat→Bool→LA→O R) (f:LA) (d:Nat) (b:Bool) (a:Nat) (g:LA) (c:Bool):Nat→Int→Int→Int→LA→O R
 | 0=>fun _ _ _ _=>none
 | n+1=>FZ N r0 f d b a g c (Ul r0 f d b a g c n)
def iY (r0:Nat→Bool→LA→O R) (q0:LA→Nat→Nat→LA→Int→Int→Int→LA→O R) (j:LA) (l:Nat) (m c:Bool) (o:LA) (p:Nat) (q b:Bool):O R :=
 (Gb N j l m c fun g a=>Gb N o p q b fun f d=>Su N g a false c f d false b fun w=>cond (decide (w<0)) (r0 0 false []) (cond ((decide (0≤(a:Int)))&&((decide ((a:Int)≤(a:Int)))&&((decide ((a:Int)≤140737488355328))&&(decide (((a:Int)*((4:Nat):Int))≤140737488355328))))) (q0 f d a g 0 (a:Int) 0 (replicate a (.int .u32 0))) none))
def fX:=(Ac fun N j l m c o p q b r0=>iY (R:=R) N r0 (fun f d a g=>Ul N r0 f d b a g c N) j l m c o p q b).1
theorem fY (j l m c o p q b r0):(@fX R N j l m c o p q b r0)=(iY N r0 (fun f d a g=>Ul N r0 f d b a g c N) j l m c o p q b):=by rw[fX,(Ac _).2]
def wt:Hints:={ H:=(hK 5 (hS (hK 1 (hS (hP [1,6,7,22,23,24] hL) hL)) hL)),nils:=[(4,1)],modes:=[(2,1),(0,0)] }
def Acx:Wp:=[Nb N,pi N]
def Alc (F:KF R):=Mw Tryz.f201 wt (Acx N) [] N F
def Ald (f:LA) (d:Nat) (b:Bool) (a:Nat) (g:LA) (c:Bool) (K:St→O R):=fun r s h i=>K ⟨[(1,(.imm f d 1 false b)),(6,(.own 300000 0 a)),(7,(.int .u64 r)),(22,(.imm g a 1 false c)),(23,(iv s)),(24,(iv h))],(hq [(bQ 1 i)])⟩
theorem zM (F:KF R) (f d b a g c):∀ n,Ald f d b a g c (Ap (Alc N F (pz 87364) []) n)=(Ul N (gn F) f d b a g c n):=Fs fun n e=>(Cs (FZ N (gn F) f d b a g c) e:_)
def Aog:=Cp N 201 (Acx N) wt (fun
 | [(.imm j l 1 m c),(.imm o p 1 q b)],[]=>some fun _ k=>fX N j l m c o p q b (gn k)
 | _,_=>none) fun _ _=>by split;intro R F;exact(Cs (iY N (gn F) · _ _ _ _ _ _ _ _) (Af6 fun f d a g=>(lW ..).trans (zM ..)):_).trans (fY ..).symm;trivial
def iZ (a:LA) (c:Bool) (b:LA) (d:Bool) (r0:Bool→Nat→LA→O R):O R :=
 (OP a fun l=>OP b fun m=>cond (l==m) (OP a fun n=>Bb 1 (a.drop 1) fun o p=>Bb 1 (b.drop 1) fun q r=>s4 N o p false c q r false d fun e f=>Ow N n e f fun s=>r0 s e f) (Bb 1 (a.drop 1) fun t u=>Bb 1 (b.drop 1) fun v w=>fX N t u false c v w false d fun g x h=>cond x (OP a fun y=>Ow N y g h fun z=>r0 z g h) (Bb 1 (b.drop 1) fun aa ab=>Bb 1 (a.drop 1) fun ac ad=>fX N aa ab false d ac ad false c fun i ag j=>OP b fun ae=>Ow N ae i j fun af=>r0 af i j)))
def zN:=(Ac (@iZ R)).1
theorem QI:@zN R=@iZ R:=(Ac _).2
def Aoh:=Cp N 167 [Aof N,IZ N,Aog N] Ca (fun
 | [(.pagg a c),(.pagg b d)],[]=>some fun _ k=>zN N a c b d (Acb k)
 | _,_=>none) fun _ _=>by split;intro R F;dsimp only;rw[QI];kernel_rfl;trivial
def WJ (a:Int) (r0:LA→O R):O R :=
 (M9 N a fun c b d=>r0 [(.bool c),(.imm (d.take (b*1)) b 1 false false),(.imm [(.int .u32 1)] 1 1 false false)])
def QJ:=(Ac (@WJ R)).1
theorem WK:@QJ R=@WJ R:=(Ac _).2
def zO:=Cp N 150 [QE N] Aca (fun
 | [(.int .i64 a)],[]=>some fun _ k=>QJ N a (P6 k)
 | _,_=>none) fun _ _=>by split;intro R F;dsimp only;rw[WK];kernel_rfl;trivial
def dZ (N:Nat) (r0:LA→O R) (k0:O R):O R :=
 (r0 [])
def Vk (r0:LA→O R):Nat→O R
 | 0=>none
 | n+1=>dZ N r0 (Vk r0 n)
def QK (N:Nat) (r0:LA→O R) (q0:O R):O R :=
 q0
def NE:=(Ac fun N r0=>QK (R:=R) N r0 (Vk N r0 N)).1
theorem d6 (r0):(@NE R N r0)=(QK N r0 (Vk N r0 N)):=by rw[NE,(Ac _).2]
def zP (F:KF R):=Mw Tryz.f212 nW [] [] N F
def DV (F:KF R):LA→O R:=(fun a=>F (.own 300000 0 0) (hq [(bQ 1 a)]))
def zQ (K:St→O R):=K ⟨[(0,.nsl),(3,(iv 0))],[]⟩
theorem pj (F:KF R):∀ n,zQ (Ap (zP N F (pz 336) []) n)=(Vk N (DV F) n):=Fs fun n e=>(Cs (dZ N (DV F)) e:_)
def Acy:=Cp N 212 [] nW (fun
 | [.nsl],[]=>some fun _ k=>NE N (DV k)
 | _,_=>none) fun _ _=>by split;intro R F;exact(Cs (QK N (DV F)) ((lW ..).trans (pj ..)):_).trans (d6 ..).symm;trivial
def F_ (N:Nat) (r0:Int→O R) (c:LA) (a:Nat) (b:Bool) (d:LA) (k0:Int→O R) (f:Int):O R :=
 (cond (decide (f≥0)) (cond (Ag f a) (Aw .u32 (c.drop ((f.toNat)*1)) fun j=>cond (Ag f 0) (Aw .u32 (d.drop (0+((f.toNat)*1))) fun l=>cond (decide (j<l)) (r0 (-1)) (cond (Ag f a) (Aw .u32 (c.drop ((f.toNat)*1)) fun m=>cond (Ag f 0) (Aw .u32 (d.drop (0+((f.toNat)*1))) fun o=>cond (decide (m>o)) (r0 1) (k0 (wrap .i64 (f - 1)))) none) none)) none) none) (r0 0))
def Sv (r0:Int→O R) (c:LA) (a:Nat) (b:Bool) (d:LA):Nat→Int→O R
 | 0=>fun _=>none
 | n+1=>F_ N r0 c a b d (Sv r0 c a b d n)
def JA (r0:Int→O R) (q0:LA→Nat→LA→Int→O R) (g:LA) (h:Nat) (i b:Bool):O R :=
 (Gb N g h i b fun c a=>NE N fun d=>cond ((a:Int) != 0) (cond (decide ((a:Int)<0)) (r0 (-1)) (r0 1)) (q0 c a d (wrap .i64 ((a:Int) - 1))))
def X8:=(Ac fun N g h i b r0=>JA (R:=R) N r0 (fun c a d=>Sv N r0 c a b d N) g h i b).1
theorem WL (g h i b r0):(@X8 R N g h i b r0)=(JA N r0 (fun c a d=>Sv N r0 c a b d N) g h i b):=by rw[X8,(Ac _).2]
def HZ:=Axz (AG N) (Acy N) (Eq.refl 212)
def i6:Wp:=[HZ N]
def vC (F:KF R):=Mw Tryz.f207 wb (i6 N) [] N F
def vD (c:LA) (a:Nat) (b:Bool) (d:LA) (K:St→O R):=fun f=>K ⟨[(0,(.imm c a 1 false b)),(1,(.own 300000 0 0)),(5,(iv f))],(hq [(bQ 1 d)])⟩
theorem lJ (F:KF R) (c a b d):∀ n,vD c a b d (Ap (vC N F (pz 5444) []) n)=(Sv N (Jc F) c a b d n):=Fs fun n e=>(Cs (F_ N (Jc F) c a b d) e:_)
def i7:=Cp N 207 (i6 N) wb (fun
 | [(.imm g h 1 i b),.nsl],[]=>some fun _ k=>X8 N g h i b (Jc k)
 | _,_=>none) fun _ _=>by split;intro R F;exact(Cs (JA N (Jc F) · _ _ _ _) (Aq6 fun c a d=>(lW ..).trans (lJ ..)):_).trans (WL ..).symm;trivial
def Z_ (a:LA) (b:Bool) (r0:LA→Bool→LA→Nat→Bool→O R):O R :=
 (Bb 1 (a.drop 2) fun c d=>X8 N c d false b fun e=>cond (e==0) (r0 [(.bool false),.nsl] false [(.int .u32 1)] 1 false) (cond (ble 2 (a.length)) (Bb 1 (a.drop 2) fun f g=>cond ((beq 0 0)&&((beq ((a.take 2).length) 2)&&(beq 2 2))) (cond (ble 2 ((a.take 2).length)) (r0 ((a.take 2).take 2) b f g b) none) none) none))
def i8:=(Ac (@Z_ R)).1
theorem QL:@i8 R=@Z_ R:=(Ac _).2
def Acz (F:KF R):LA→Bool→LA→Nat→Bool→O R:=(fun h i j l m=>F (.tup [(.pagg h i),(.imm j l 1 false m)]) [])
def Agq:=Cp N 174 [i7 N] { H:=hL,nils:=[(3,1)],modes:=[(3,0),(1,1)] } (fun
 | [(.pagg a b)],[]=>some fun _ k=>i8 N a b (Acz k)
 | _,_=>none) fun _ _=>by split;intro R F;dsimp only;rw[QL];kernel_rfl;trivial
def s5 (a:LA) (b:Bool) (r0:Int→O R):O R :=
 (Bb 1 (a.drop 1) fun c d=>X8 N c d false b fun e=>cond (e==0) (r0 0) (OP a fun f=>cond f (r0 (-1)) (r0 1)))
def Z':=(Ac (@s5 R)).1
theorem nr:@Z' R=@s5 R:=(Ac _).2
def wu:=Cp N 203 [i7 N] Ca (fun
 | [(.pagg a b)],[]=>some fun _ k=>Z' N a b (Jc k)
 | _,_=>none) fun _ _=>by split;intro R F;dsimp only;rw[nr];kernel_rfl;trivial
def s6 (a:LA) (b:Bool) (r0:Int→O R):O R :=
 (cond (ble 3 (a.length)) (i8 N (a.take 3) b fun c d f g h=>cond ((beq 0 0)&&((beq (c.length) 2)&&(beq 2 2))) (cond (ble 2 (c.length)) (Z' N (c.take 2) d fun e=>r0 e) none) none) none)
def i_:=(Ac (@s6 R)).1
theorem nv:@i_ R=@s6 R:=(Ac _).2
def Ale:=Cp N 170 [Agq N,wu N] Ca (fun
 | [(.pagg a b)],[]=>some fun _ k=>i_ N a b (Jc k)
 | _,_=>none) fun _ _=>by split;intro R F;dsimp only;rw[nv];kernel_rfl;trivial
def F' (N:Nat) (a:Int) (r0:Bool→O R):O R :=
 (r0 (a != a))
def Zb:=(Ac (@F' R)).1
theorem JB:@Zb R=@F' R:=(Ac _).2
def pk:=Cp N 204 [] Ca (fun
 | [(.int .i64 a)],[]=>some fun _ k=>Zb N a (Bh k)
 | _,_=>none) fun _ _=>by split;intro R F;dsimp only;rw[JB];kernel_rfl;trivial
def X9 (a b:Int) (r0:Int→O R):O R :=
 (Zb N a fun d=>Zb N b fun c=>cond d (cond c (r0 0) (r0 (-1))) (cond c (r0 1) (cond (decide (a<b)) (r0 (-1)) (cond (decide (a>b)) (r0 1) (r0 0)))))
def Tn:=(Ac (@X9 R)).1
theorem CK:@Tn R=@X9 R:=(Ac _).2
def ia:=Cp N 171 [pk N] Ca (fun
 | [(.int .i64 a),(.int .i64 b)],[]=>some fun _ k=>Tn N a b (Jc k)
 | _,_=>none) fun _ _=>by split;intro R F;dsimp only;rw[CK];kernel_rfl;trivial
end
end Gx
namespace Gx
open Go Go.Proofs
section
variable {R:Type}
def fit (k N:Nat):Prop:=100*k+1000≤N∧k≤1000000000
theorem fit.le {j k N:Nat} (h:fit k N) (d:j≤k):fit j N:=⟨by have:=h.1;omega,by have:=h.2;omega⟩
theorem ct (x y:O R):cond true x y=x:=rfl
theorem cf (x y:O R):cond false x y=y:=rfl
theorem At7 (x y:Bool):cond true x y=x:=rfl
theorem A0s (x y:Bool):cond false x y=y:=rfl
theorem At8 (c:Nat):((decide (((c+1:Nat):Int)>(0:Int)))==true)=true:=by simp
theorem Hf {j n:Nat} (h:j<n):decide ((j:Int)<(n:Int))=true:=by simp;omega
theorem Hy {j n:Nat} (h:n≤j):decide ((j:Int)<(n:Int))=false:=by simp;omega
theorem wS {j:Nat} (h:j≤1000000000000):wrap .i64 ((j:Int)+1)=((j+1:Nat):Int):=by rw[i64 (by omega)];omega
theorem wP {j:Nat} (h:j≤1000000000000):wrap .i64 (((j+1:Nat):Int) - 1)=(j:Int):=by rw[i64 (by omega)];omega
theorem wA {j k:Nat} (h:j+k≤1000000000000):wrap .i64 ((j:Int)+(k:Int))=((j+k:Nat):Int):=by rw[i64 (by omega)];omega
theorem zR {l:List Nat} {j:Nat} (h:j<l.length) {f:Int→O R}:Aw .u32 (drop ((Int.toNat (j:Int))*1) (Au l)) f=f (l[j]:Nat):=by
 rw[A1d,A1x,Aoc h]
theorem lK {l:List Nat} {j:Nat} (h:j<l.length) {f:Int→O R}:Aw .u32 (drop (0+((Int.toNat (j:Int))*1)) (Au l)) f=f (l[j]:Nat):=by
 rw[A1w,zR h]
theorem Avi {c a:Nat} (h:c≤a):((decide ((0:Int)≤(0:Int)))&&((decide ((0:Int)≤(c:Int)))&&((decide ((c:Int)≤(a:Int)))&&(decide ((a:Int)≤(a:Int))))))=true:=by
 simp;omega
theorem At9 {n:Nat} (h:n≤1000000000000):((decide ((0:Int)≤(n:Int)))&&((decide ((n:Int)≤(n:Int)))&&((decide ((n:Int)≤(140737488355328:Int)))&&(decide (((n:Int)*((4:Nat):Int))≤(140737488355328:Int))))))=true:=by
 simp;omega
theorem Aiu {x:Nat} {m:List Nat} (h:x<m.length):((beq 1 1)&&((ble ((0+((Int.toNat (x:Int))*1))+1) (List.length (Au m)))&&(!false)))=true:=by
 rw[Es,A1d];simp;omega
theorem s7 {x v:Nat} {m:List Nat}:List.set (Au m) (0+((Int.toNat (x:Int))*1)) (.int .u32 (v:Int))=Au (m.set x v):=by
 rw[A1d,A1x,A1w,Acl]
theorem Aoi {l:List Nat} (h:Av l):l.take (A7 (val l)).length=A7 (val l):=by
 obtain⟨d,f⟩:=Hh h
 rw[congrArg (take (A7 (val l)).length) d,A51]
theorem Alf {l:List Nat} (h:Av l):take ((A7 (val l)).length*1) (Au l)=Au (A7 (val l)):=by rw[A1x,ZV,Aoi h]
theorem Cr {l:List Nat} {c:Nat} (h:c<l.length):val (l.take (c+1))=val (l.take c)+4294967296 ^ c*l[c]:=by
 rw[A13 h,Agi,A2a,A2h (by omega)]
theorem zS {l:List Nat} {c:Nat} (d:Av l) (h:c<l.length) (f:l[c]≠0):A7 (val (l.take (c+1)))=l.take (c+1):=by
 apply At5 (M6 d _)
 intro k
 rw[A5d]
 simp only[A2a,A2h (show c+1≤l.length by omega),A6f,List.getElem_take]
 exact f
theorem s8 {N:Nat} {l:List Nat} {K:Nat→O R} (f:Av l) (hs:l.length≤1000000000000):∀ (c fuel:Nat),c≤l.length→c<fuel →
  Xz N K l.length (Au l) fuel (c:Int)=K (A7 (val (l.take c))).length
 | 0,fuel+1,k,_=>by
  rw[Xz];unfold QD
  rw[show decide (((0:Nat):Int)>0)=false by simp]
  rw[show((false:Bool)==true)=false by rfl,cf,Avi (by omega),ct,A1d];rfl
 | c+1,fuel+1,k,n=>by
  rw[Xz];unfold QD
  rw[At8,ct,wP (by omega),Ab (by omega),ct,lK (by omega),At7,Avi (by omega),ct,s8 f hs c fuel (by omega) (by omega),A1d]
  by_cases d:l[c]=0
  ·rw[Cr (by omega),d];simp
  ·rw[zS f (by omega) d,A2a,A2h k]
   rw[show(((l[c]:Nat):Int)==0)=false by simp;exact d,cf]
theorem s9 {N:Nat} {l:List Nat} {n:Nat} {K:Nat→O R} (hn:n=l.length) (f:Av l) (d:fit l.length N):WF N n (Au l) K=K (A7 (val l)).length:=by
 subst hn
 have k:=d.1;have q:=d.2
 rw[fS];unfold iW
 rw[s8 f (by omega) l.length N (A1h _) (by omega),A2e]
theorem wv {N:Nat} {l:List Nat} {t o:Bool} {K:LA→Nat→O R} (f:Av l) (hs:l.length≤1000000000000):∀ (c fuel:Nat),c≤l.length→c<fuel →
  Na N K (Au l) l.length t o fuel (c:Int)=K (Au (A7 (val (l.take c)))) (A7 (val (l.take c))).length
 | 0,fuel+1,k,_=>by
  rw[Na];unfold Za
  rw[show decide (((0:Nat):Int)>0)=false by simp]
  rw[show((false:Bool)==true)=false by rfl,cf,Avi (by omega),ct,A1d];rfl
 | c+1,fuel+1,k,n=>by
  rw[Na];unfold Za
  rw[At8,ct,wP (by omega),Ab (by omega),ct,zR (by omega),At7,Avi (by omega),ct,wv f hs c fuel (by omega) (by omega),A1d,A1x,ZV]
  by_cases d:l[c]=0
  ·rw[Cr (by omega),d];simp
  ·rw[zS f (by omega) d,A2a,A2h k]
   rw[show(((l[c]:Nat):Int)==0)=false by simp;exact d,cf]
theorem Dr {N:Nat} {l:List Nat} {n:Nat} {t o:Bool} {K:LA→Nat→O R} (hn:n=l.length) (f:Av l) (d:fit l.length N):Gb N (Au l) n t o K=K (Au (A7 (val l))) (A7 (val l)).length:=by
 subst hn
 have k:=d.1;have q:=d.2
 rw[dY];unfold QF
 rw[wv f (by omega) l.length N (A1h _) (by omega),A2e]
theorem Alg {N:Nat} {K:LA→O R} (hN:1≤N):NE N K=K []:=by
 rw[d6];unfold QK
 cases N with
 | zero=>omega
 | succ N=>rw[Vk];rfl
end
end Gx
namespace Gx.Cf
open Go Go.Proofs
section
variable {R:Type}
def ib (names:List Lu) (k i:Int) (s:Lu) (p:Ks):Ks:=nd (nd p (Ba s) (k,i,0) ⟨9,by decide⟩) (names.all fun x=>!(x==s)) (k,i,0) ⟨10,by decide⟩
theorem Md (a:BusD):a.av.length=3:=rfl
theorem Dh (a:LineD):a.av.length=12:=rfl
theorem Fl (a:UnitD):a.av.length=22:=rfl
theorem Hp (a:StoreD):a.av.length=9:=rfl
theorem Hu (a:TieD):a.av.length=5:=rfl
theorem G9 (a:OutD):a.av.length=4:=rfl
structure Small (c:CaseD) (N:Nat):Prop where
 n64:64≤N
 res:T4 c.reserve.l.length N
 bus:T4 c.buses.l.length N
 lin:T4 c.lines.l.length N
 uni:T4 c.units.l.length N
 sto:T4 c.stores.l.length N
 tie:T4 c.ties.l.length N
 out:T4 c.outs.l.length N
 dem:∀ b ∈ c.buses.l,T4 b.demand.l.length N
 law:∀ b ∈ c.lines.l,T4 b.away.l.length N
 seg:∀ b ∈ c.units.l,T4 b.segs.l.length N
 uaw:∀ b ∈ c.units.l,T4 b.away.l.length N
 tim:∀ b ∈ c.ties.l,T4 b.imp.l.length N
 tex:∀ b ∈ c.ties.l,T4 b.exp.l.length N
 tpr:∀ b ∈ c.ties.l,T4 b.price.l.length N
 oli:∀ b ∈ c.outs.l,T4 b.lines.l.length N
 omo:∀ b ∈ c.outs.l,T4 b.moves.l.length N
 omb:∀ b ∈ c.outs.l,b.moves.l.length<8796093022208
 top:c.buses.l.length≤1000000∧c.lines.l.length≤1000000∧c.units.l.length≤1000000∧c.stores.l.length≤1000000∧c.ties.l.length≤1000000∧c.outs.l.length≤1000000
def Hi {α:Type} (f:Nat→α→Ks→Ks):List α→Nat→Ks→Ks
 | [],_,p=>p
 | a::r,j,p=>Hi f r (j+1) (f j a p)
theorem Qm {α:Type} {f:Nat→α→Ks→Ks} {x:(Int×Int×Int)×{ e:Int // e≠0 }} (d:∀ j a,f j a (some x)=some x):∀ (l:List α) (j:Nat),Hi f l j (some x)=some x
 | [],_=>rfl
 | a::r,j=>by rw[Hi,d];exact Qm d r (j+1)
abbrev e1:{ e:Int // e≠0 }:=⟨1,by decide⟩
abbrev e3:{ e:Int // e≠0 }:=⟨3,by decide⟩
abbrev e4:{ e:Int // e≠0 }:=⟨4,by decide⟩
abbrev e8:{ e:Int // e≠0 }:=⟨8,by decide⟩
abbrev Aua:{ e:Int // e≠0 }:=⟨11,by decide⟩
abbrev Alh:{ e:Int // e≠0 }:=⟨12,by decide⟩
abbrev A0t:{ e:Int // e≠0 }:=⟨13,by decide⟩
abbrev Ax0:{ e:Int // e≠0 }:=⟨16,by decide⟩
def Agr (c:CaseD) (p:Ks):Ks :=
 let p:=nd p (Fu 1 24 c.hours) (0,0,0) e3
 let p:=wh c.hours c.reserve.l 0 1048576 (0,0,1) p
 let p:=nd p (Fu 1 32 (c.buses.l.length:Int)) (0,0,2) e8
 let p:=nd p (decide ((c.lines.l.length:Int)≤64)) (0,0,3) e8
 let p:=nd p (decide ((c.units.l.length:Int)≤16)) (0,0,4) e8
 let p:=nd p (decide ((c.stores.l.length:Int)≤8)) (0,0,5) e8
 let p:=nd p (decide ((c.ties.l.length:Int)≤8)) (0,0,6) e8
 nd p (decide ((c.outs.l.length:Int)≤64)) (0,0,7) e8
def Are (c:CaseD) (j:Nat) (b:BusD) (p:Ks):Ks :=
 let p:=ib ((c.buses.l.map (·.name)).take j) 1 j b.name p
 let p:=wh c.hours b.demand.l 0 1048576 (1,j,1) p
 nd p (Fu 0 1048576 b.shed) (1,j,2) e3
def ww (c:CaseD) (j:Nat) (x:LineD) (p:Ks):Ks :=
 let p:=ib ((c.lines.l.map (·.name)).take j) 2 j x.name p
 let p:=nd p (nc c x.fr) (2,j,1) Alh
 let p:=nd p (nc c x.tl) (2,j,2) Alh
 let p:=nd p (x.tl != x.fr) (2,j,2) e1
 let p:=nd p (M5 x.re&&decide (x.re.num>0)) (2,j,3) e3
 let p:=nd p (M5 x.smin&&decide (x.smin.num≤0)) (2,j,4) e3
 let p:=nd p (M5 x.smax&&decide (x.smax.num≥0)) (2,j,5) e3
 let p:=nd p (Fu 0 1048576 x.limit) (2,j,6) e3
 let p:=nd p (Fu x.limit 1048576 x.emer) (2,j,7) e3
 sE c.hours x.away.l (2,j,8) p
def s_ (c:CaseD) (j:Nat) (x:StoreD) (p:Ks):Ks :=
 let p:=ib ((c.stores.l.map (·.name)).take j) 4 j x.name p
 let p:=nd p (nc c x.bus) (4,j,1) Alh
 let p:=nd p (Fu 0 1048576 x.capacity) (4,j,2) e3
 let p:=nd p (Fu 0 x.capacity x.initial) (4,j,3) e3
 let p:=nd p (Fu 0 x.capacity x.final) (4,j,4) e3
 let p:=nd p (Fu 0 1048576 x.charge) (4,j,5) e3
 let p:=nd p (Fu 0 1048576 x.discharge) (4,j,6) e3
 nd p (M5 x.eff&&(decide (x.eff.num>0)&&decide (x.eff.num≤x.eff.den))) (4,j,7) e3
def Arf (c:CaseD) (j:Nat) (x:TieD) (p:Ks):Ks :=
 let p:=ib ((c.ties.l.map (·.name)).take j) 5 j x.name p
 let p:=nd p (nc c x.bus) (5,j,1) Alh
 let p:=wh c.hours x.imp.l 0 1048576 (5,j,2) p
 let p:=wh c.hours x.exp.l 0 1048576 (5,j,3) p
 wh c.hours x.price.l (-1048576) 1048576 (5,j,4) p
theorem GA (a:SegD):a.av.length=2:=rfl
theorem Rj (a:MoveD):a.av.length=3:=rfl
def ic (s:SegD):Bool:=Fu 1 1048576 s.width&&Fu (-1048576) 1048576 s.price
def fZ (a:Int):List SegD→Int
 | []=>a
 | s::r=>fZ (wrap .i64 (a+s.width)) r
def f4:List SegD→Bool
 | a::b::r=>decide (b.price≥a.price)&&f4 (b::r)
 | _=>true
theorem QM (a b:SegD) (r:List SegD):f4 (a::b::r)=(decide (b.price≥a.price)&&f4 (b::r)):=by rw[f4]
theorem sa (a:SegD):f4 [a]=true:=by rw[f4];intros;simp_all
theorem Ac0:f4 []=true:=by rw[f4];intros;simp_all
def Aoj (u:UnitD) (j:Nat) (p:Ks):Ks :=
 let p:=nd p (decide ((u.segs.l.length:Int)≤8)) (3,j,4) e8
 let p:=nd p (u.segs.l.all ic) (3,j,4) e3
 let p:=nd p (f4 u.segs.l) (3,j,4) Aua
 nd p (fZ 0 u.segs.l==wrap .i64 (u.max - u.min)) (3,j,4) e4
theorem lL {u:UnitD} {f:LA→Nat→O R}:Bb 2 (drop 4 u.av) f=f (u.segs.l.flatMap SegD.av) u.segs.l.length:=by simp[UnitD.av,A9]
theorem As6 {u:UnitD} {f:Int→O R}:Aw .i64 (drop 3 u.av) f=f u.max:=by simp[UnitD.av,Cj]
theorem As7 {u:UnitD} {f:Int→O R}:Aw .i64 (drop 2 u.av) f=f u.min:=by simp[UnitD.av,Cj]
theorem wx {l:List SegD} {j:Nat} (h:j<l.length) {f:Int→O R}:Aw .i64 (drop 1 (drop ((Int.toNat (j:Int))*2) (l.flatMap SegD.av))) f=f l[j].price:=by
 rw[A1d,Bi GA _ _ h];simp[SegD.av,Cj]
theorem Ali {l:List SegD} {j:Nat} (h:j<l.length) {f:Int→O R}:Aw .i64 (drop ((Int.toNat (j:Int))*2) (l.flatMap SegD.av)) f=f l[j].width:=by
 rw[A1d,Bi GA _ _ h];simp[SegD.av,Cj]
def Ac1 (c:CaseD) (j:Nat) (u:UnitD) (p:Ks):Ks :=
 let p:=ib ((c.units.l.map (·.name)).take j) 3 j u.name p
 let p:=nd p (nc c u.bus) (3,j,1) Alh
 let p:=nd p (Fu 0 1048576 u.min) (3,j,2) e3
 let p:=nd p (Fu u.min 1048576 u.max) (3,j,3) e3
 let p:=Aoj u j p
 let p:=nd p (Fu 0 1048576 u.noLoad) (3,j,5) e3
 let p:=nd p (Fu 0 1048576 u.rampUp) (3,j,6) e3
 let p:=nd p (Fu 0 1048576 u.rampDown) (3,j,7) e3
 let p:=nd p (Fu u.min u.max u.startRamp) (3,j,8) e3
 let p:=nd p (Fu u.min u.max u.stopRamp) (3,j,9) e3
 let p:=nd p (Fu 0 24 u.upTime) (3,j,10) e3
 let p:=nd p (Fu 0 24 u.downTime) (3,j,11) e3
 let p:=nd p (Fu 0 24 u.startTime) (3,j,12) e3
 let p:=nd p (Fu 0 1048576 u.hotCost) (3,j,13) e3
 let p:=nd p (Fu 0 1048576 u.coldCost) (3,j,14) e3
 let p:=nd p (Fu 0 24 u.hotHours) (3,j,15) e3
 let p:=nd p (Fu 0 1048576 u.reserve) (3,j,16) e3
 let p:=nd p (Fu 0 1048576 u.reservePrice) (3,j,17) e3
 let p:=sE c.hours u.away.l (3,j,18) p
 let p:=nd p (Fu 0 2 u.state) (3,j,19) Alh
 let p:=nd p (u.state != 1||u.startTime != 0) (3,j,19) Ax0
 let p:=nd p (Fu 1 48 u.hours) (3,j,20) e3
 let p:=nd p (u.state != 1||decide (u.hours≤u.startTime)) (3,j,20) e3
 cond (u.state==2) (nd p (Fu u.min u.max u.output) (3,j,21) e3) (nd p (Fu 0 0 u.output) (3,j,21) e3)
def Arg (c:CaseD) (m:MoveD):Bool:=decide (0≤m.unit)&&decide (m.unit<(c.units.l.length:Int))
def Ac2 (m:MoveD):Bool:=Fu 0 1048576 m.up&&Fu 0 1048576 m.down
def Ags (c:CaseD) (o:OutD) (j:Nat) (p:Ks):Ks :=
 let p:=nd p ((o.moves.l.length:Int)==0||o.corr) (6,j,3) Ax0
 let p:=nd p (decide ((o.moves.l.length:Int)≤16)) (6,j,3) e8
 let p:=nd p (o.moves.l.all (Arg c)) (6,j,3) Alh
 let p:=nd p (uX (o.moves.l.map (·.unit))) (6,j,3) Aua
 nd p (o.moves.l.all Ac2) (6,j,3) e3
theorem Ai9 {u:OutD} {f:LA→Nat→O R}:Bb 3 (drop 3 u.av) f=f (u.moves.l.flatMap MoveD.av) u.moves.l.length:=by simp[OutD.av,A9]
theorem Aub {u:OutD} {f:Bool→O R}:OP (drop 2 u.av) f=f u.corr:=by simp[OutD.av,An5]
def Alj (c:CaseD) (j:Nat) (x:OutD) (p:Ks):Ks :=
 let p:=ib ((c.outs.l.map (·.name)).take j) 6 j x.name p
 let p:=nd p ((x.lines.l.length:Int)==1||(x.lines.l.length:Int)==2) (6,j,1) e4
 let p:=nd p (x.lines.l.all fun n=>decide (0≤n)&&decide (n<(c.lines.l.length:Int))) (6,j,1) Alh
 let p:=nd p (uX x.lines.l) (6,j,1) Aua
 Ags c x j p
theorem lM {c:CaseD} {j:Nat} {x:OutD} {y:(Int×Int×Int)×{ e:Int // e≠0 }}:Alj c j x (some y)=some y:=rfl
theorem Arh {u:OutD} {f:LA→Nat→O R}:Bb 1 (drop 1 u.av) f=f (Ax u.lines.l) u.lines.l.length:=by simp[OutD.av,A9,Cc]
def A8 (l:List Lu):LA:=l.map fun s=>.str s
theorem Um (l:List Lu):(A8 l).length=l.length:=by simp[A8]
theorem Oa {l:List Lu} {i:Nat} (h:i<l.length) {f:Lu→O R}:Li (drop i (A8 l)) f=f l[i]:=by
 rw[A8,A17 (by simpa using h)];simp[FD]
theorem Dc {c:CaseD}:take 8 c.av=c.av:=rfl
theorem Hq {c:CaseD}:ble 8 (List.length c.av)=true:=rfl
theorem NF {N:Nat} {c:CaseD} {o:Bool} {K:Nat→LA→O R} (k:c.buses.l.length≤1000000):∀ (m j fuel:Nat),j+m=c.buses.l.length→m<fuel →
  Gs N K o c.av fuel j (j:Int) (A8 ((c.buses.l.take j).map (·.name)))=K c.buses.l.length (A8 (c.buses.l.map (·.name)))
 | 0,j,fuel+1,n,_=>by
  rw[Gs];unfold Ol
  have d:j=c.buses.l.length:=by omega
  rw[Ep,Hy (by omega),cf,A1c (by omega),d]
 | m+1,j,fuel+1,n,u=>by
  rw[Gs];unfold Ol
  have h:j<c.buses.l.length:=by omega
  have q:(ble (j+1) 140737488355328&&ble ((j+1)*16) 140737488355328)=true:=by rw[Ft,Ft];simp;omega
  have s:take (j*1) (A8 ((c.buses.l.take j).map (·.name)))++[.str c.buses.l[j].name]=A8 ((c.buses.l.take (j+1)).map (·.name)):=by
   rw[A1c (by simp[Um];omega),A13 h,A2q];simp[A8]
  have t:∀ f:Lu→O R,Li (drop (j*3) (List.flatMap BusD.av c.buses.l)) f=f c.buses.l[j].name:=fun f=>by rw[Bi Md _ _ h];simp[BusD.av,FD]
  rw[Ep,Hf h,ct,Ep,Ab h,ct,A1d,t,q,ct,s,Fx (by omega),NF k m (j+1) fuel (by omega) (by omega)]
theorem JC {N:Nat} {c:CaseD} {o:Bool} {K:Nat→LA→O R} (hs:Small c N):F7 N c.av o 1 K=K (c.buses.l.map (·.name)).length (A8 (c.buses.l.map (·.name))):=by
 rw[Ia];unfold Kt
 have:=NF (R:=R) (N:=N) (c:=c) (o:=o) (K:=K) hs.top.1 c.buses.l.length 0 N (by omega) hs.bus.1
 simpa[A8] using this
theorem NG {N:Nat} {c:CaseD} {o:Bool} {K:Nat→LA→O R} (k:c.lines.l.length≤1000000):∀ (m j fuel:Nat),j+m=c.lines.l.length→m<fuel →
  Gt N K o c.av fuel j (j:Int) (A8 ((c.lines.l.take j).map (·.name)))=K c.lines.l.length (A8 (c.lines.l.map (·.name)))
 | 0,j,fuel+1,n,_=>by
  rw[Gt];unfold Om
  have d:j=c.lines.l.length:=by omega
  rw[G6,Hy (by omega),cf,A1c (by omega),d]
 | m+1,j,fuel+1,n,u=>by
  rw[Gt];unfold Om
  have h:j<c.lines.l.length:=by omega
  have q:(ble (j+1) 140737488355328&&ble ((j+1)*16) 140737488355328)=true:=by rw[Ft,Ft];simp;omega
  have s:take (j*1) (A8 ((c.lines.l.take j).map (·.name)))++[.str c.lines.l[j].name]=A8 ((c.lines.l.take (j+1)).map (·.name)):=by
   rw[A1c (by simp[Um];omega),A13 h,A2q];simp[A8]
  have t:∀ f:Lu→O R,Li (drop (j*12) (List.flatMap LineD.av c.lines.l)) f=f c.lines.l[j].name:=fun f=>by rw[Bi Dh _ _ h];simp[LineD.av,FD]
  rw[G6,Hf h,ct,G6,Ab h,ct,A1d,t,q,ct,s,Fx (by omega),NG k m (j+1) fuel (by omega) (by omega)]
theorem AH {N:Nat} {c:CaseD} {o:Bool} {K:Nat→LA→O R} (hs:Small c N):F7 N c.av o 2 K=K (c.lines.l.map (·.name)).length (A8 (c.lines.l.map (·.name))):=by
 rw[Ia];unfold Kt
 have:=NG (R:=R) (N:=N) (c:=c) (o:=o) (K:=K) hs.top.2.1 c.lines.l.length 0 N (by omega) hs.lin.1
 simpa[A8] using this
theorem NH {N:Nat} {c:CaseD} {o:Bool} {K:Nat→LA→O R} (k:c.units.l.length≤1000000):∀ (m j fuel:Nat),j+m=c.units.l.length→m<fuel →
  Gu N K o c.av fuel j (j:Int) (A8 ((c.units.l.take j).map (·.name)))=K c.units.l.length (A8 (c.units.l.map (·.name)))
 | 0,j,fuel+1,n,_=>by
  rw[Gu];unfold On
  have d:j=c.units.l.length:=by omega
  rw[Jw,Hy (by omega),cf,A1c (by omega),d]
 | m+1,j,fuel+1,n,u=>by
  rw[Gu];unfold On
  have h:j<c.units.l.length:=by omega
  have q:(ble (j+1) 140737488355328&&ble ((j+1)*16) 140737488355328)=true:=by rw[Ft,Ft];simp;omega
  have s:take (j*1) (A8 ((c.units.l.take j).map (·.name)))++[.str c.units.l[j].name]=A8 ((c.units.l.take (j+1)).map (·.name)):=by
   rw[A1c (by simp[Um];omega),A13 h,A2q];simp[A8]
  have t:∀ f:Lu→O R,Li (drop (j*22) (List.flatMap UnitD.av c.units.l)) f=f c.units.l[j].name:=fun f=>by rw[Bi Fl _ _ h];simp[UnitD.av,FD]
  rw[Jw,Hf h,ct,Jw,Ab h,ct,A1d,t,q,ct,s,Fx (by omega),NH k m (j+1) fuel (by omega) (by omega)]
theorem AI {N:Nat} {c:CaseD} {o:Bool} {K:Nat→LA→O R} (hs:Small c N):F7 N c.av o 3 K=K (c.units.l.map (·.name)).length (A8 (c.units.l.map (·.name))):=by
 rw[Ia];unfold Kt
 have:=NH (R:=R) (N:=N) (c:=c) (o:=o) (K:=K) hs.top.2.2.1 c.units.l.length 0 N (by omega) hs.uni.1
 simpa[A8] using this
theorem JD {N:Nat} {c:CaseD} {o:Bool} {K:Nat→LA→O R} (k:c.stores.l.length≤1000000):∀ (m j fuel:Nat),j+m=c.stores.l.length→m<fuel →
  Gv N K o c.av fuel j (j:Int) (A8 ((c.stores.l.take j).map (·.name)))=K c.stores.l.length (A8 (c.stores.l.map (·.name)))
 | 0,j,fuel+1,n,_=>by
  rw[Gv];unfold Oo
  have d:j=c.stores.l.length:=by omega
  rw[Mb,Hy (by omega),cf,A1c (by omega),d]
 | m+1,j,fuel+1,n,u=>by
  rw[Gv];unfold Oo
  have h:j<c.stores.l.length:=by omega
  have q:(ble (j+1) 140737488355328&&ble ((j+1)*16) 140737488355328)=true:=by rw[Ft,Ft];simp;omega
  have s:take (j*1) (A8 ((c.stores.l.take j).map (·.name)))++[.str c.stores.l[j].name]=A8 ((c.stores.l.take (j+1)).map (·.name)):=by
   rw[A1c (by simp[Um];omega),A13 h,A2q];simp[A8]
  have t:∀ f:Lu→O R,Li (drop (j*9) (List.flatMap StoreD.av c.stores.l)) f=f c.stores.l[j].name:=fun f=>by rw[Bi Hp _ _ h];simp[StoreD.av,FD]
  rw[Mb,Hf h,ct,Mb,Ab h,ct,A1d,t,q,ct,s,Fx (by omega),JD k m (j+1) fuel (by omega) (by omega)]
theorem Vl {N:Nat} {c:CaseD} {o:Bool} {K:Nat→LA→O R} (hs:Small c N):F7 N c.av o 4 K=K (c.stores.l.map (·.name)).length (A8 (c.stores.l.map (·.name))):=by
 rw[Ia];unfold Kt
 have:=JD (R:=R) (N:=N) (c:=c) (o:=o) (K:=K) hs.top.2.2.2.1 c.stores.l.length 0 N (by omega) hs.sto.1
 simpa[A8] using this
theorem TF {N:Nat} {c:CaseD} {o:Bool} {K:Nat→LA→O R} (k:c.ties.l.length≤1000000):∀ (m j fuel:Nat),j+m=c.ties.l.length→m<fuel →
  Gw N K o c.av fuel j (j:Int) (A8 ((c.ties.l.take j).map (·.name)))=K c.ties.l.length (A8 (c.ties.l.map (·.name)))
 | 0,j,fuel+1,n,_=>by
  rw[Gw];unfold Oq
  have d:j=c.ties.l.length:=by omega
  rw[Tl,Hy (by omega),cf,A1c (by omega),d]
 | m+1,j,fuel+1,n,u=>by
  rw[Gw];unfold Oq
  have h:j<c.ties.l.length:=by omega
  have q:(ble (j+1) 140737488355328&&ble ((j+1)*16) 140737488355328)=true:=by rw[Ft,Ft];simp;omega
  have s:take (j*1) (A8 ((c.ties.l.take j).map (·.name)))++[.str c.ties.l[j].name]=A8 ((c.ties.l.take (j+1)).map (·.name)):=by
   rw[A1c (by simp[Um];omega),A13 h,A2q];simp[A8]
  have t:∀ f:Lu→O R,Li (drop (j*5) (List.flatMap TieD.av c.ties.l)) f=f c.ties.l[j].name:=fun f=>by rw[Bi Hu _ _ h];simp[TieD.av,FD]
  rw[Tl,Hf h,ct,Tl,Ab h,ct,A1d,t,q,ct,s,Fx (by omega),TF k m (j+1) fuel (by omega) (by omega)]
theorem GB {N:Nat} {c:CaseD} {o:Bool} {K:Nat→LA→O R} (hs:Small c N):F7 N c.av o 5 K=K (c.ties.l.map (·.name)).length (A8 (c.ties.l.map (·.name))):=by
 rw[Ia];unfold Kt
 have:=TF (R:=R) (N:=N) (c:=c) (o:=o) (K:=K) hs.top.2.2.2.2.1 c.ties.l.length 0 N (by omega) hs.tie.1
 simpa[A8] using this
theorem TG {N:Nat} {c:CaseD} {o:Bool} {K:Nat→LA→O R} (k:c.outs.l.length≤1000000):∀ (m j fuel:Nat),j+m=c.outs.l.length→m<fuel →
  Gy N K o c.av fuel j (j:Int) (A8 ((c.outs.l.take j).map (·.name)))=K c.outs.l.length (A8 (c.outs.l.map (·.name)))
 | 0,j,fuel+1,n,_=>by
  rw[Gy];unfold Ot
  have d:j=c.outs.l.length:=by omega
  rw[M4,Hy (by omega),cf,A1c (by omega),d]
 | m+1,j,fuel+1,n,u=>by
  rw[Gy];unfold Ot
  have h:j<c.outs.l.length:=by omega
  have q:(ble (j+1) 140737488355328&&ble ((j+1)*16) 140737488355328)=true:=by rw[Ft,Ft];simp;omega
  have s:take (j*1) (A8 ((c.outs.l.take j).map (·.name)))++[.str c.outs.l[j].name]=A8 ((c.outs.l.take (j+1)).map (·.name)):=by
   rw[A1c (by simp[Um];omega),A13 h,A2q];simp[A8]
  have t:∀ f:Lu→O R,Li (drop (j*4) (List.flatMap OutD.av c.outs.l)) f=f c.outs.l[j].name:=fun f=>by rw[Bi G9 _ _ h];simp[OutD.av,FD]
  rw[M4,Hf h,ct,M4,Ab h,ct,A1d,t,q,ct,s,Fx (by omega),TG k m (j+1) fuel (by omega) (by omega)]
theorem GC {N:Nat} {c:CaseD} {o:Bool} {K:Nat→LA→O R} (hs:Small c N):F7 N c.av o 6 K=K (c.outs.l.map (·.name)).length (A8 (c.outs.l.map (·.name))):=by
 rw[Ia];unfold Kt
 have:=TG (R:=R) (N:=N) (c:=c) (o:=o) (K:=K) hs.top.2.2.2.2.2 c.outs.l.length 0 N (by omega) hs.out.1
 simpa[A8] using this
theorem Wx {N:Nat} {L:List Lu} {k:Int} {n:Nat} {K:LA→O R} (hn:n<L.length) (hs:n<4611686018427387904):∀ (m j fuel:Nat) (p:Ks),j+m=n→m<fuel →
  Dv N K k (n:Int) L.length (A8 L) fuel (j:Int) (Di p)=K (Di (nd p (((L.take n).drop j).all fun x=>!(x==L[n])) (k,n,0) ⟨10,by decide⟩))
 | 0,j,fuel+1,p,d,_=>by
  rw[Dv];unfold Ju
  rw[Hy (by omega),cf,R5 (l:=L.take n) (by simp;omega),A29,PJ]
 | m+1,j,fuel+1,p,d,q=>by
  rw[Dv];unfold Ju
  have h:j<L.length:=by omega
  have f:j<(L.take n).length:=by simp;omega
  rw[Hf (by omega),ct,Ab h,ct,A1d,A1w,A1x,Oa h,Ab hn,ct,A1d,A1w,A1x,Oa hn,Ad (by decide),Fx (by omega),Wx hn hs m (j+1) fuel _ (by omega) (by omega),Ma f,A12,Acf]
  have e:(L.take n)[j]=L[j]:=by simp
  rw[e]
theorem D7 {N:Nat} {c:CaseD} {L:List Lu} {o:Bool} {p:Ks} {k:Int} {n:Nat} {K:LA→O R} (hN:64≤N) (hL:∀ K:Nat→LA→O R,F7 N c.av o k K=K L.length (A8 L)) (hn:n<L.length) (hs:T4 n N) :
  C2 N c.av o k (n:Int) (Di p) K=K (Di (ib (L.take n) k n L[n] p)):=by
 rw[Z7];unfold O7
 rw[Dc,Hq,ct,hL,Ab hn,ct,A1d,A1w,A1x,Oa hn,dS hN,Ad (by decide)]
 have:=Wx (R:=R) (N:=N) (L:=L) (k:=k) (n:=n) (K:=K) hn hs.2 n 0 N (nd p (Ba L[n]) (k,n,0) ⟨9,by decide⟩) (by omega) hs.1
 simpa[ib] using this
theorem QN {N fuel:Nat} {c:CaseD} {o:Bool} {p:Ks} {K:LA→O R} (hs:Small c N):Bp N K o c.av (fuel+6) 2 (Di p)=K (Di
  (nd (nd (nd (nd (nd p (decide ((c.lines.l.length:Int)≤64)) (0,0,3) e8) (decide ((c.units.l.length:Int)≤16)) (0,0,4) e8) (decide ((c.stores.l.length:Int)≤8)) (0,0,5) e8) (decide ((c.ties.l.length:Int)≤8)) (0,0,6) e8) (decide ((c.outs.l.length:Int)≤64)) (0,0,7) e8)):=by
 have most:∀ (k:Nat) (n:Int) (K:Int→O R),k<7→([0,32,64,16,8,8,64]:List Int)[k]?=some n→Qa N (k:Int) K=K n:=by
  intro k n K d f
  rw[PM];unfold ZQ
  rw[Ab d,ct]
  have e:[(.int .i64 (0:Int)),(.int .i64 (32:Int)),(.int .i64 (64:Int)),(.int .i64 (16:Int)),(.int .i64 (8:Int)),(.int .i64 (8:Int)),(.int .i64 (64:Int))]=Ax [0,32,64,16,8,8,64]:=rfl
  rw[e,A1d,A1w,A1x,rf (by simpa using d)]
  rw[A1g (by simpa using d)] at f
  simp only[A3g] at f
  rw[f]
 have m2:∀ K:Int→O R,Qa N 2 K=K 64:=fun K=>most 2 64 K (by omega) rfl
 have m3:∀ K:Int→O R,Qa N 3 K=K 16:=fun K=>most 3 16 K (by omega) rfl
 have m4:∀ K:Int→O R,Qa N 4 K=K 8:=fun K=>most 4 8 K (by omega) rfl
 have m5:∀ K:Int→O R,Qa N 5 K=K 8:=fun K=>most 5 8 K (by omega) rfl
 have m6:∀ K:Int→O R,Qa N 6 K=K 64:=fun K=>most 6 64 K (by omega) rfl
 have w2:wrap .i64 (2+1)=3:=rfl
 have w3:wrap .i64 (3+1)=4:=rfl
 have q:wrap .i64 (4+1)=5:=rfl
 have s:wrap .i64 (5+1)=6:=rfl
 have t:wrap .i64 (6+1)=7:=rfl
 rw[Bp];unfold Ch
 rw[show decide ((2:Int)≤6)=true from rfl,ct,Hq,ct,Dc,AH hs,m2,Ad (by decide),w2]
 rw[Bp];unfold Ch
 rw[show decide ((3:Int)≤6)=true from rfl,ct,Hq,ct,Dc,AI hs,m3,Ad (by decide),w3]
 rw[Bp];unfold Ch
 rw[show decide ((4:Int)≤6)=true from rfl,ct,Hq,ct,Dc,Vl hs,m4,Ad (by decide),q]
 rw[Bp];unfold Ch
 rw[show decide ((5:Int)≤6)=true from rfl,ct,Hq,ct,Dc,GB hs,m5,Ad (by decide),s]
 rw[Bp];unfold Ch
 rw[show decide ((6:Int)≤6)=true from rfl,ct,Hq,ct,Dc,GC hs,m6,Ad (by decide),t]
 rw[Bp];unfold Ch
 rw[show decide ((7:Int)≤6)=false from rfl,cf]
 simp only[A1i]
theorem QO {N:Nat} {c:CaseD} {o:Bool} {p:Ks} {K:LA→O R} (hs:Small c N):Jt N c.av o (Di p) K=K (Di (Agr c p)):=by
 have hN:=hs.n64
 rw[Ws];unfold Mz
 have:=fun p=>QN (fuel:=N - 6) (o:=o) (p:=p) (K:=K) hs
 rw[show N - 6+6=N by omega] at this
 simp only[Jv,Ed (show 8≤N by omega),Ad (show(3:Int)≠0 by decide),Ad (show(8:Int)≠0 by decide),Hq,ct,Dc,fL,Ep,Er rfl hs.res,this]
 rfl
end
end Gx.Cf
namespace Go.Proofs
open Go.Shelf Go.RowKit
open Go.RowKit
def Tryz.laysC172_ren : Go.Shelf.Ren := ⟨fun | 172 => 166 | 244 => 198 | 245 => 199 | 247 => 220 | 279 => 221 | 280 => 222 | 281 => 223 | 282 => 224 | 287 => 238 | 316 => 239 | 171 => 129 | 205 => 240 | 321 => 250 | 322 => 251 | 243 => 141 | 246 => 158 | 283 => 186 | 284 => 187 | 285 => 188 | 286 => 189 | 129 => 214 | 317 => 213 | 318 => 215 | 319 => 216 | 320 => 217 | 337 => 236 | 338 => 237 | n => n, fun | 9 => 9 | 3 => 3 | 75 => 213 | 76 => 214 | 4 => 4 | 5 => 5 | 167 => 258 | 37 => 23 | 0 => 0 | 85 => 259 | 2 => 2 | 168 => 261 | 53 => 98 | 175 => 280 | 46 => 180 | 210 => 284 | 127 => 293 | 145 => 299 | 143 => 297 | 21 => 21 | 171 => 239 | 173 => 242 | 212 => 254 | 51 => 185 | 20 => 20 | 213 => 255 | 232 => 294 | 233 => 295 | 80 => 278 | n => n, fun | 15 => 2 | 16 => 3 | 17 => 1 | 18 => 4 | 19 => 5 | n => n⟩
theorem Tryz.laysC172 : Go.Proofs.LaysC.n172 Tryz.prog Tryz.laysC172_ren := {
  mixed := by kernel_rfl
  f129 := Tryz.func214.trans (congrArg some (by kernel_rfl))
  f171 := Tryz.func129.trans (congrArg some (by kernel_rfl))
  f172 := Tryz.func166.trans (congrArg some (by kernel_rfl))
  f205 := Tryz.func240.trans (congrArg some (by kernel_rfl))
  f243 := Tryz.func141.trans (congrArg some (by kernel_rfl))
  f244 := Tryz.func198.trans (congrArg some (by kernel_rfl))
  f245 := Tryz.func199.trans (congrArg some (by kernel_rfl))
  f246 := Tryz.func158.trans (congrArg some (by kernel_rfl))
  f247 := Tryz.func220.trans (congrArg some (by kernel_rfl))
  f279 := Tryz.func221.trans (congrArg some (by kernel_rfl))
  f280 := Tryz.func222.trans (congrArg some (by kernel_rfl))
  f281 := Tryz.func223.trans (congrArg some (by kernel_rfl))
  f282 := Tryz.func224.trans (congrArg some (by kernel_rfl))
  f283 := Tryz.func186.trans (congrArg some (by kernel_rfl))
  f284 := Tryz.func187.trans (congrArg some (by kernel_rfl))
  f285 := Tryz.func188.trans (congrArg some (by kernel_rfl))
  f286 := Tryz.func189.trans (congrArg some (by kernel_rfl))
  f287 := Tryz.func238.trans (congrArg some (by kernel_rfl))
  f316 := Tryz.func239.trans (congrArg some (by kernel_rfl))
  f317 := Tryz.func213.trans (congrArg some (by kernel_rfl))
  f318 := Tryz.func215.trans (congrArg some (by kernel_rfl))
  f319 := Tryz.func216.trans (congrArg some (by kernel_rfl))
  f320 := Tryz.func217.trans (congrArg some (by kernel_rfl))
  f321 := Tryz.func250.trans (congrArg some (by kernel_rfl))
  f322 := Tryz.func251.trans (congrArg some (by kernel_rfl))
  f337 := Tryz.func236.trans (congrArg some (by kernel_rfl))
  f338 := Tryz.func237.trans (congrArg some (by kernel_rfl))
  t0 := Tryz.underlying0
  a0 := Tryz.isAgg0
  z0 := Tryz.sizeOf0
  v0 := Tryz.zeroValue0
  t2 := Tryz.underlying2
  a2 := Tryz.isAgg2
  z2 := Tryz.sizeOf2
  v2 := Tryz.zeroValue2
  t3 := Tryz.underlying3
  a3 := Tryz.isAgg3
  z3 := Tryz.sizeOf3
  v3 := Tryz.zeroValue3
  t4 := Tryz.underlying4
  a4 := Tryz.isAgg4
  z4 := Tryz.sizeOf4
  v4 := Tryz.zeroValue4
  t5 := Tryz.underlying5
  a5 := Tryz.isAgg5
  z5 := Tryz.sizeOf5
  v5 := Tryz.zeroValue5
  t9 := Tryz.underlying9
  a9 := Tryz.isAgg9
  z9 := Tryz.sizeOf9
  v9 := Tryz.zeroValue9
  t20 := Tryz.underlying20
  a20 := Tryz.isAgg20
  z20 := Tryz.sizeOf20
  v20 := Tryz.zeroValue20
  t21 := Tryz.underlying21
  a21 := Tryz.isAgg21
  z21 := Tryz.sizeOf21
  v21 := Tryz.zeroValue21
  t37 := Tryz.underlying23
  a37 := Tryz.isAgg23
  z37 := Tryz.sizeOf23
  v37 := Tryz.zeroValue23
  t46 := Tryz.underlying180
  a46 := Tryz.isAgg180
  z46 := Tryz.sizeOf180
  v46 := Tryz.zeroValue180
  t51 := Tryz.underlying185
  a51 := Tryz.isAgg185
  z51 := Tryz.sizeOf185
  v51 := Tryz.zeroValue185
  t53 := Tryz.underlying98
  a53 := Tryz.isAgg98
  z53 := Tryz.sizeOf98
  v53 := Tryz.zeroValue98
  t75 := Tryz.underlying213
  a75 := Tryz.isAgg213
  z75 := Tryz.sizeOf213
  v75 := Tryz.zeroValue213
  t76 := Tryz.underlying214
  a76 := Tryz.isAgg214
  z76 := Tryz.sizeOf214
  v76 := Tryz.zeroValue214
  t85 := Tryz.underlying259
  a85 := Tryz.isAgg259
  z85 := Tryz.sizeOf259
  v85 := Tryz.zeroValue259
  t127 := Tryz.underlying293
  a127 := Tryz.isAgg293
  z127 := Tryz.sizeOf293
  v127 := Tryz.zeroValue293
  t143 := Tryz.underlying297
  a143 := Tryz.isAgg297
  z143 := Tryz.sizeOf297
  v143 := Tryz.zeroValue297
  t145 := Tryz.underlying299
  a145 := Tryz.isAgg299
  z145 := Tryz.sizeOf299
  v145 := Tryz.zeroValue299
  t167 := Tryz.underlying258
  a167 := Tryz.isAgg258
  z167 := Tryz.sizeOf258
  v167 := Tryz.zeroValue258
  t168 := Tryz.underlying261
  a168 := Tryz.isAgg261
  z168 := Tryz.sizeOf261
  v168 := Tryz.zeroValue261
  t171 := Tryz.underlying239
  a171 := Tryz.isAgg239
  z171 := Tryz.sizeOf239
  v171 := Tryz.zeroValue239
  t173 := Tryz.underlying242
  a173 := Tryz.isAgg242
  z173 := Tryz.sizeOf242
  v173 := Tryz.zeroValue242
  t175 := Tryz.underlying280
  a175 := Tryz.isAgg280
  z175 := Tryz.sizeOf280
  v175 := Tryz.zeroValue280
  t210 := Tryz.underlying284
  a210 := Tryz.isAgg284
  z210 := Tryz.sizeOf284
  v210 := Tryz.zeroValue284
  t212 := Tryz.underlying254
  a212 := Tryz.isAgg254
  z212 := Tryz.sizeOf254
  v212 := Tryz.zeroValue254
  t213 := Tryz.underlying255
  a213 := Tryz.isAgg255
  z213 := Tryz.sizeOf255
  t232 := Tryz.underlying294
  a232 := Tryz.isAgg294
  z232 := Tryz.sizeOf294
  v232 := Tryz.zeroValue294
  t233 := Tryz.underlying295
  a233 := Tryz.isAgg295
  z233 := Tryz.sizeOf295
  v233 := Tryz.zeroValue295
  g15 := by kernel_rfl
  g16 := by kernel_rfl
  g17 := by kernel_rfl
  g18 := by kernel_rfl
  g19 := by kernel_rfl
  t80 := Tryz.underlying278
  a80 := Tryz.isAgg278
  z80 := Tryz.sizeOf278
  v80 := Tryz.zeroValue278
  i0 := by kernel_rfl
  i2 := by kernel_rfl
  i3 := by kernel_rfl
  i4 := by kernel_rfl
  i5 := by kernel_rfl
  i9 := by kernel_rfl
  i20 := by kernel_rfl
  i21 := by kernel_rfl
  i37 := by kernel_rfl
  i46 := by kernel_rfl
  i51 := by kernel_rfl
  i53 := by kernel_rfl
  i75 := by kernel_rfl
  i76 := by kernel_rfl
  i80 := by kernel_rfl
  i85 := by kernel_rfl
  i127 := by kernel_rfl
  i143 := by kernel_rfl
  i145 := by kernel_rfl
  i167 := by kernel_rfl
  i168 := by kernel_rfl
  i171 := by kernel_rfl
  i173 := by kernel_rfl
  i175 := by kernel_rfl
  i210 := by kernel_rfl
  i212 := by kernel_rfl
  i232 := by kernel_rfl
  i233 := by kernel_rfl
  m15 := by kernel_rfl
  m16 := by kernel_rfl
  m17 := by kernel_rfl
  m18 := by kernel_rfl
  m19 := by kernel_rfl
  c0 := by kernel_rfl
  c2 := by kernel_rfl
  c3 := by kernel_rfl
  c4 := by kernel_rfl
  c5 := by kernel_rfl
  c9 := by kernel_rfl
  c20 := by kernel_rfl
  c21 := by kernel_rfl
  c37 := by kernel_rfl
  c46 := by kernel_rfl
  c51 := by kernel_rfl
  c53 := by kernel_rfl
  c75 := by kernel_rfl
  c76 := by kernel_rfl
  c80 := by kernel_rfl
  c85 := by kernel_rfl
  c127 := by kernel_rfl
  c143 := by kernel_rfl
  c145 := by kernel_rfl
  c167 := by kernel_rfl
  c168 := by kernel_rfl
  c171 := by kernel_rfl
  c173 := by kernel_rfl
  c175 := by kernel_rfl
  c210 := by kernel_rfl
  c212 := by kernel_rfl
  c213 := by kernel_rfl
  c232 := by kernel_rfl
  c233 := by kernel_rfl }
def Tryz.lays145_ren : Go.Shelf.Ren := ⟨fun | 145 => 21 | 220 => 52 | 219 => 104 | 217 => 105 | 225 => 132 | 224 => 133 | 267 => 134 | 266 => 135 | 314 => 146 | n => n, fun | 9 => 9 | 4 => 4 | 59 => 63 | 3 => 3 | 5 => 5 | 46 => 180 | 146 => 194 | 51 => 185 | n => n, fun | 1 => 0 | n => n⟩
theorem Tryz.lays145 : Go.Proofs.Lays.n145 Tryz.prog Tryz.lays145_ren := {
  mixed := by kernel_rfl
  f145 := Tryz.func21.trans (congrArg some (by kernel_rfl))
  f217 := Tryz.func105.trans (congrArg some (by kernel_rfl))
  f219 := Tryz.func104.trans (congrArg some (by kernel_rfl))
  f220 := Tryz.func52.trans (congrArg some (by kernel_rfl))
  f224 := Tryz.func133.trans (congrArg some (by kernel_rfl))
  f225 := Tryz.func132.trans (congrArg some (by kernel_rfl))
  f266 := Tryz.func135.trans (congrArg some (by kernel_rfl))
  f267 := Tryz.func134.trans (congrArg some (by kernel_rfl))
  f314 := Tryz.func146.trans (congrArg some (by kernel_rfl))
  t3 := Tryz.underlying3
  a3 := Tryz.isAgg3
  z3 := Tryz.sizeOf3
  v3 := Tryz.zeroValue3
  t4 := Tryz.underlying4
  a4 := Tryz.isAgg4
  z4 := Tryz.sizeOf4
  v4 := Tryz.zeroValue4
  t5 := Tryz.underlying5
  a5 := Tryz.isAgg5
  z5 := Tryz.sizeOf5
  v5 := Tryz.zeroValue5
  t9 := Tryz.underlying9
  a9 := Tryz.isAgg9
  z9 := Tryz.sizeOf9
  v9 := Tryz.zeroValue9
  t46 := Tryz.underlying180
  a46 := Tryz.isAgg180
  z46 := Tryz.sizeOf180
  v46 := Tryz.zeroValue180
  t51 := Tryz.underlying185
  a51 := Tryz.isAgg185
  z51 := Tryz.sizeOf185
  v51 := Tryz.zeroValue185
  t59 := Tryz.underlying63
  a59 := Tryz.isAgg63
  z59 := Tryz.sizeOf63
  v59 := Tryz.zeroValue63
  t146 := Tryz.underlying194
  a146 := Tryz.isAgg194
  z146 := Tryz.sizeOf194
  v146 := Tryz.zeroValue194
  g1 := by kernel_rfl }
def Tryz.lays105_ren : Go.Shelf.Ren := ⟨fun | 105 => 211 | 212 => 230 | 99 => 231 | 165 => 232 | 166 => 233 | 170 => 234 | 169 => 235 | 263 => 246 | 264 => 247 | 206 => 219 | 240 => 248 | 241 => 249 | 276 => 254 | 277 => 255 | n => n, fun | 9 => 9 | 3 => 3 | 4 => 4 | 20 => 20 | 0 => 0 | 46 => 180 | 109 => 272 | 5 => 5 | 72 => 276 | 76 => 214 | 51 => 185 | 146 => 194 | 53 => 98 | 148 => 291 | 70 => 274 | 37 => 23 | 75 => 213 | 127 => 293 | 164 => 301 | 80 => 278 | n => n, fun | n => n⟩
theorem Tryz.lays105 : Go.Proofs.Lays.n105 Tryz.prog Tryz.lays105_ren := {
  mixed := by kernel_rfl
  f99 := Tryz.func231.trans (congrArg some (by kernel_rfl))
  f105 := Tryz.func211.trans (congrArg some (by kernel_rfl))
  f165 := Tryz.func232.trans (congrArg some (by kernel_rfl))
  f166 := Tryz.func233.trans (congrArg some (by kernel_rfl))
  f169 := Tryz.func235.trans (congrArg some (by kernel_rfl))
  f170 := Tryz.func234.trans (congrArg some (by kernel_rfl))
  f206 := Tryz.func219.trans (congrArg some (by kernel_rfl))
  f212 := Tryz.func230.trans (congrArg some (by kernel_rfl))
  f240 := Tryz.func248.trans (congrArg some (by kernel_rfl))
  f241 := Tryz.func249.trans (congrArg some (by kernel_rfl))
  f263 := Tryz.func246.trans (congrArg some (by kernel_rfl))
  f264 := Tryz.func247.trans (congrArg some (by kernel_rfl))
  f276 := Tryz.func254.trans (congrArg some (by kernel_rfl))
  f277 := Tryz.func255.trans (congrArg some (by kernel_rfl))
  t0 := Tryz.underlying0
  a0 := Tryz.isAgg0
  z0 := Tryz.sizeOf0
  v0 := Tryz.zeroValue0
  t3 := Tryz.underlying3
  a3 := Tryz.isAgg3
  z3 := Tryz.sizeOf3
  v3 := Tryz.zeroValue3
  t4 := Tryz.underlying4
  a4 := Tryz.isAgg4
  z4 := Tryz.sizeOf4
  v4 := Tryz.zeroValue4
  t5 := Tryz.underlying5
  a5 := Tryz.isAgg5
  z5 := Tryz.sizeOf5
  v5 := Tryz.zeroValue5
  t9 := Tryz.underlying9
  a9 := Tryz.isAgg9
  z9 := Tryz.sizeOf9
  v9 := Tryz.zeroValue9
  t20 := Tryz.underlying20
  a20 := Tryz.isAgg20
  z20 := Tryz.sizeOf20
  v20 := Tryz.zeroValue20
  t37 := Tryz.underlying23
  a37 := Tryz.isAgg23
  z37 := Tryz.sizeOf23
  v37 := Tryz.zeroValue23
  t46 := Tryz.underlying180
  a46 := Tryz.isAgg180
  z46 := Tryz.sizeOf180
  v46 := Tryz.zeroValue180
  t51 := Tryz.underlying185
  a51 := Tryz.isAgg185
  z51 := Tryz.sizeOf185
  v51 := Tryz.zeroValue185
  t53 := Tryz.underlying98
  a53 := Tryz.isAgg98
  z53 := Tryz.sizeOf98
  v53 := Tryz.zeroValue98
  t70 := Tryz.underlying274
  a70 := Tryz.isAgg274
  z70 := Tryz.sizeOf274
  v70 := Tryz.zeroValue274
  t72 := Tryz.underlying276
  a72 := Tryz.isAgg276
  z72 := Tryz.sizeOf276
  v72 := Tryz.zeroValue276
  t75 := Tryz.underlying213
  a75 := Tryz.isAgg213
  z75 := Tryz.sizeOf213
  v75 := Tryz.zeroValue213
  t76 := Tryz.underlying214
  a76 := Tryz.isAgg214
  z76 := Tryz.sizeOf214
  v76 := Tryz.zeroValue214
  t109 := Tryz.underlying272
  a109 := Tryz.isAgg272
  z109 := Tryz.sizeOf272
  v109 := Tryz.zeroValue272
  t127 := Tryz.underlying293
  a127 := Tryz.isAgg293
  z127 := Tryz.sizeOf293
  v127 := Tryz.zeroValue293
  t146 := Tryz.underlying194
  a146 := Tryz.isAgg194
  z146 := Tryz.sizeOf194
  v146 := Tryz.zeroValue194
  t148 := Tryz.underlying291
  a148 := Tryz.isAgg291
  z148 := Tryz.sizeOf291
  v148 := Tryz.zeroValue291
  t164 := Tryz.underlying301
  a164 := Tryz.isAgg301
  z164 := Tryz.sizeOf301
  v164 := Tryz.zeroValue301 }
theorem Tryz.Builder_Extra_105 : Builder.Extra Tryz.prog Tryz.lays105_ren := {
  sizeBuilder := by kernel_rfl
  liesBuilder := by kernel_rfl
  t5 := Tryz.underlying5
  a5 := Tryz.isAgg5
  z5 := Tryz.sizeOf5
  v5 := Tryz.zeroValue5
  infoByte := by kernel_rfl
  cellsByte := by kernel_rfl
  sizeByte := by kernel_rfl
  neB5 := by decide }
end Go.Proofs
namespace Gx
open Go Go.Proofs Go.RowKit
noncomputable section
variable {R:Type} (N:Nat)
def Rk (_N:Nat) (s t:Lu) (r0:Lu→Lu→Bool→O R):O R:=cond (ble s.length 4294967280) (r0 (Lib.cut s t).1 (Lib.cut s t).2.1 (Lib.cut s t).2.2) none
def strings_Cut:=(Ac (@Rk R)).1
theorem Ob:@strings_Cut R=@Rk R:=(Ac _).2
def Jp (a:LA) (h:A1) (k:KF R):O R :=
 match a,h with
 | [.str s,.str t],[]=>strings_Cut N s t fun x y b=>k (.tup [.str x,.str y,.bool b]) []
 | _,_=>none
def WM:Tw:=⟨fun {R} a h k=>@Jp R N a h k,fun {R} a h k=>by
 unfold Jp
 split
 ·rw[Ob,Ob];unfold Rk;cases ble _ 4294967280<;>rfl
 ·rfl⟩
def Oc (_N:Nat) (s:Lu) (c:Int) (r0:Lu→O R):O R:=cond (decide (0≤c)&&(decide (c≤9223372036854775807)&&decide ((s.length:Int)*c≤140737488355328))) (r0 (Lib.repeatL s c.toNat)) none
def strings_Repeat:=(Ac (@Oc R)).1
theorem Nc:@strings_Repeat R=@Oc R:=(Ac _).2
def Gd (a:LA) (h:A1) (k:KF R):O R :=
 match a,h with
 | [.str s,.int .i64 c],[]=>strings_Repeat N s c fun x=>k (.str x) []
 | _,_=>none
def JE:Tw:=⟨fun {R} a h k=>@Gd R N a h k,fun {R} a h k=>by
 unfold Gd
 split
 ·rename_i s c
  rw[Nc,Nc];unfold Oc;cases (decide (0≤c)&&(decide (c≤9223372036854775807)&&decide ((s.length:Int)*c≤140737488355328)))<;>rfl
 ·rfl⟩
def Ox (_N:Nat) (s:Lu) (r0:Int→O R):O R:=cond (ble s.length 9223372036854775806) (match Lib.atoiAll s with | .ok v=>r0 v | _=>none) none
def DW:=(Ac (@Ox R)).1
theorem Me:@DW R=@Ox R:=(Ac _).2
def Ih (a:LA) (h:A1) (k:KF R):O R :=
 match a,h with
 | [.str s],[]=>DW N s fun x=>k (.tup [.int .i64 x,.undef]) []
 | _,_=>none
def TH:Tw:=⟨fun {R} a h k=>@Ih R N a h k,fun {R} a h k=>by
 unfold Ih
 split
 ·rw[Me,Me];unfold Ox;cases ble _ 9223372036854775806
  ·rfl
  ·cases Lib.atoiAll _<;>rfl
 ·rfl⟩
end
theorem Ac3 (w:World) (n:Nat):Below w.heap.size w (w.drewN n):=⟨rfl,rfl,rfl,A1h _,fun _ _=>rfl⟩
theorem WN (N:Nat):k8 Tryz.prog 21 (WM N):=by
 intro args h res h' f
 have d:Jp N args h (fun v h'=>some (v,h'))=some (res,h'):=f
 unfold Jp at d
 split at d
 ·rename_i s t
  rw[Ob,Rk] at d
  obtain⟨q,k⟩:=uc d
  simp at q k
  obtain⟨rfl,rfl⟩:=k
  refine ZN fun J β w vs G hr=>?_
  obtain⟨u,v,rfl,e1,l⟩:=r9 hr
  simp only[Rep] at e1 l;subst e1 l
  obtain⟨m,x⟩:=G.int (g:=0) (by decide)
  refine(Any.strings_Cut Tryz.lays145 ⟨⟨s⟩⟩ ⟨⟨t⟩⟩ m w (show s.length<4294967281 by omega) x).mono ?_
  rintro e w' ⟨rfl,n,rfl⟩
  refine⟨_,rfl,Ac3 w n,fun J β w=>?_⟩
  rw[Rep]
  exact⟨_,rfl,by simp[Reps,Rep]⟩
 ·cases d
theorem JF (N:Nat):k8 Tryz.prog 211 (JE N):=by
 intro args h res h' f
 have d:Gd N args h (fun v h'=>some (v,h'))=some (res,h'):=f
 unfold Gd at d
 split at d
 ·rename_i s c
  rw[Nc,Oc] at d
  obtain⟨k,q⟩:=uc d
  simp only[A1f,decide_eq_true_eq] at k
  simp at q
  obtain⟨rfl,rfl⟩:=q
  refine ZN fun J β w vs G hr=>?_
  obtain⟨u,v,rfl,e1,t⟩:=r9 hr
  simp only[Rep] at e1 t;subst e1 t
  obtain⟨n,rfl⟩:∃ n:Nat,c=n:=⟨c.toNat,by omega⟩
  by_cases x:s.length=0
  ·have hs:s=[]:=A3u x
   subst hs
   have hn:n≤9223372036854775807:=by have:=k.2.1;omega
   ·refine(Any.strings_Repeat Tryz.lays105 Tryz.Builder_Extra_105 ⟨⟨[]⟩⟩ n w hn (by show 0*n≤_;omega)).mono ?_
    rintro e w' ⟨rfl,l⟩
    exact⟨_,rfl,l,fun J β w=>by rw[Rep];rfl⟩
  ·have y:s.length*n≤140737488355328:=by have:=k.2.2;rw[←Int.natCast_mul] at this;omega
   have z:n≤s.length*n:=Nat.le_mul_of_pos_left n (by omega)
   refine(Any.strings_Repeat Tryz.lays105 Tryz.Builder_Extra_105 ⟨⟨s⟩⟩ n w (by omega) y).mono ?_
   rintro e w' ⟨rfl,l⟩
   exact⟨_,rfl,l,fun J β w=>by rw[Rep];rfl⟩
 ·cases d
theorem strconv_Atoi_ok (N:Nat):k8 Tryz.prog 166 (TH N):=by
 intro args h res h' k
 have d:Ih N args h (fun v h'=>some (v,h'))=some (res,h'):=k
 unfold Ih at d
 split at d
 ·rename_i s
  rw[Me,Ox] at d
  obtain⟨l,f⟩:=uc d
  simp at l
  split at f
  ·rename_i v n
   simp at f
   obtain⟨rfl,rfl⟩:=f
   refine ZN fun J β w vs G hr=>?_
   obtain⟨u,rfl,e1⟩:=r8 hr
   rw[Rep] at e1;subst e1
   refine(Any.strconv_Atoi_ok Tryz.laysC172 ⟨⟨s⟩⟩ l v n w).mono ?_
   rintro e w' ⟨rfl,q⟩
   refine⟨_,rfl,?_,fun J β w=>by rw[Rep];exact⟨_,rfl,by rw[Reps];exact⟨_,_,rfl,by rw[Rep],by rw[Reps];exact⟨_,_,rfl,by rw[Rep];trivial,by rw[Reps]⟩⟩⟩⟩
   rcases q with rfl | ⟨t,rfl⟩
   ·exact Below.refl _ _
   ·exact Lib.bytesWorld_below _ _ _
  ·cases f
 ·cases d
noncomputable def LH (N:Nat):=Anx (WM N) (WN N)
noncomputable def lN (N:Nat):=Anx (JE N) (JF N)
noncomputable def sb (N:Nat):=Anx (TH N) (strconv_Atoi_ok N)
end Gx
namespace Gx
def wy (b:UInt8):Bool:=b==10||(b==35||(b==32||(b==9||b==13)))
def lO (ws:List Lu) (w:Lu):List Lu:=if w=[] then ws else ws++[w]
def Fy:Lu→List Lu→Lu→Bool→List (List Lu)
 | [],ws,w,_=>[lO ws w]
 | b::r,ws,w,cm =>
  if b=10 then lO ws w::Fy r [] [] false
  else if b=35 then Fy r (lO ws w) [] true
  else if wy b=true then Fy r (lO ws w) [] cm
  else Fy r ws (if cm then w else w++[b]) cm
def H3 (s:Lu):List (List Lu):=Fy s [] [] false
end Gx
namespace Gx
open Go Go.Proofs Go.RowKit
def wz (l:List Lu):AV:=.imm (l.map .str) l.length 1 false false
noncomputable section
variable {R:Type} (N:Nat)
def GD (_N:Nat) (s:Lu) (r0:Nat→LA→O R):O R:=cond (ble s.length 1000000000) (r0 (H3 s).length ((H3 s).map wz)) none
def lP:=(Ac (@GD R)).1
theorem Zc:@lP R=@GD R:=(Ac _).2
def Zd (a:LA) (h:A1) (k:KF R):O R :=
 match a,h with
 | [.str s],[]=>lP N s fun n c=>k (.own 300000 0 n) [(300000,bQ 1 c)]
 | _,_=>none
def ig:Tw:=⟨fun {R} a h k=>@Zd R N a h k,fun {R} a h k=>by
 unfold Zd
 split
 ·rw[Zc,Zc];unfold GD;cases ble _ 1000000000<;>rfl
 ·rfl⟩
end
end Gx
namespace Go.Proofs.Ln
open Go Go.RowKit
def f5 (w:List UInt8):Value:=.string ⟨⟨w⟩⟩
structure LnI (B:Nat) (w0 wr:World) (g cap:Nat) (xs:List Value) (rows:List (List (List UInt8))):Prop where
 len:xs.length=rows.length
 own:wr.ownsRow B 24 1 (.slice (some ⟨g,0,none⟩) rows.length cap) rows.length xs
 row:∀ (i:Nat) x l,xs[i]?=some x→rows[i]?=some l→wr.ownsRow B 9 1 x l.length (l.map f5)
 vs:∀ (i:Nat) x,xs[i]?=some x→x.ownBlock≠some g
 sep:∀ (i j:Nat) x y k,xs[i]?=some x→xs[j]?=some y→x.ownBlock=some k→y.ownBlock=some k→i=j
 bel:Below B w0 wr
variable {B:Nat} {w0 wr w2:World} {g cap:Nat} {xs:List Value} {rows:List (List (List UInt8))}
theorem LnI.lt (h:LnI B w0 wr g cap xs rows) {i:Nat} {x:Value} {k:Nat} (hx:xs[i]?=some x) (d:x.ownBlock=some k):B≤k∧k<wr.heap.size:=by
 have hi:=(List.getElem?_eq_some_iff.1 hx).1
 have hr:rows[i]?=some (rows[i]'(by rw[←h.len];exact hi)):=List.getElem?_eq_getElem _
 exact(h.row i x _ hx hr).lt k d
theorem LnI.glt (h:LnI B w0 wr g cap xs rows):B≤g∧g<wr.heap.size:=h.own.lt g rfl
theorem Aok (w:World) (o:Obj) {k:Nat} (d:k<w.heap.size):(w.alloc o).heap[k]?=w.heap[k]?:=by
 show(w.heap.push o)[k]?=_
 rw[Array.getElem?_push,if_neg (by omega)]
theorem ny {o:Obj} {r:Option Nat} (h:Below B w0 wr) (hB:B≤wr.heap.size) (d:(wr.alloc o).grownBy w2 r) (hr:∀ k,r=some k→B≤k):Below B w0 w2 :=
 ⟨d.os.trans h.os,d.tape.trans h.tape,d.output.trans h.output,Nat.le_trans h.size (by have:=d.size;simp at this;omega),fun k f=>by
  rw[d.block k (by simp;omega) (fun e=>by have:=hr k e.symm;omega),Aok wr o (by omega)];exact h.block k f⟩
theorem Alk (w:World):LnI w.heap.size w (w.alloc (.cells #[.slice none 0 0] 24)) w.heap.size 1 [.slice none 0 0] [[]]:=by
 refine⟨rfl,World.ownsRow_lit w #[.slice none 0 0] 1 (Nat.le_refl _) (by decide) rfl,fun i x l hx d=>?_,fun i x hx=>?_,fun i j x y k hx n f=>?_,⟨rfl,rfl,rfl,by simp,fun k f=>Aok w _ f⟩⟩
 ·match i,hx,d with
  | 0,hx,d=>simp at hx d;subst hx d;exact World.ownsRow_nil _ _ _ _
 ·match i,hx with
  | 0,hx=>simp at hx;subst hx;simp[Value.ownBlock]
 ·match i,hx with
  | 0,hx=>simp at hx;subst hx;simp[Value.ownBlock] at f
theorem Vm {α:Type} {l:List α} {a x:α} {i:Nat} (h:(l++[a])[i]?=some x):l[i]?=some x∨i=l.length∧x=a:=by
 by_cases hi:i<l.length
 ·left;rwa [List.getElem?_append_left hi] at h
 ·right
  rw[List.getElem?_append_right (by omega)] at h
  have:i - l.length=0:=by
   rcases Nat.eq_zero_or_pos (i - l.length) with q | q
   ·exact q
   ·rw[List.getElem?_eq_none (by simp;omega)] at h;cases h
  rw[this] at h;simp at h
  exact⟨by omega,h.symm⟩
theorem LnI.more {o:Obj} {g' cap':Nat} (h:LnI B w0 wr g cap xs rows) (u:w2.ownsRow B 24 1 (.slice (some ⟨g',0,none⟩) (rows.length+1) cap') (rows.length+1) (xs++[.slice none 0 0])) (f:(wr.alloc o).grownBy w2 (some g)) (n:g'=g∨wr.heap.size+1≤g') :
  LnI B w0 w2 g' cap' (xs++[.slice none 0 0]) (rows++[[]]):=by
 have hB:=h.glt
 refine⟨by simp[h.len],by rw[List.length_append];exact u,fun i x l hx s=>?_,fun i x hx=>?_,fun i j x y k hx v t d=>?_,ny h.bel (by omega) f fun k e=>by cases e;exact hB.1⟩
 ·rcases Vm hx with q | ⟨q,rfl⟩
  ·rcases Vm s with r | ⟨r,_⟩
   ·exact((h.row i x l q r).alloc _).kept f (.inr (h.vs i x q))
   ·have:=(List.getElem?_eq_some_iff.1 q).1;have:=h.len;omega
  ·rcases Vm s with r | ⟨_,rfl⟩
   ·have:=(List.getElem?_eq_some_iff.1 r).1;have:=h.len;omega
   ·exact World.ownsRow_nil _ _ _ _
 ·rcases Vm hx with q | ⟨_,rfl⟩
  ·rcases n with rfl | n
   ·exact h.vs i x q
   ·exact fun e=>by have:=(h.lt q e).2;omega
  ·simp[Value.ownBlock]
 ·rcases Vm hx with q | ⟨_,rfl⟩
  ·rcases Vm v with r | ⟨_,rfl⟩
   ·exact h.sep i j x y k q r t d
   ·simp[Value.ownBlock] at d
  ·simp[Value.ownBlock] at t
theorem LnI.push {o:Obj} {x x':Value} {ws:List (List UInt8)} {v:List UInt8} (h:LnI B w0 wr g cap (xs++[x]) (rows++[ws])) (S:w2.ownsRow B 9 1 x' (ws.length+1) (ws.map f5++[f5 v])) (D:(wr.alloc o).grownBy w2 x.ownBlock) (I:x'.ownBlock=x.ownBlock∨∃ k,x'.ownBlock=some k∧wr.heap.size+1≤k) :
  LnI B w0 (w2.setCell ⟨g,rows.length,none⟩ x') g cap (xs++[x']) (rows++[ws++[v]]):=by
 have hB:=h.glt
 have F:xs.length=rows.length:=by have:=h.len;simpa using this
 have f:(xs++[x])[rows.length]?=some x:=by rw[←F];simp
 have A:x'.ownBlock≠some g:=fun e=>by
  rcases I with q | ⟨k,q,n⟩
  ·rw[q] at e;exact h.vs _ _ f e
  ·rw[q] at e;cases e;omega
 have T:w2.ownsRow B 24 1 (.slice (some ⟨g,0,none⟩) (rows++[ws]).length cap) (rows++[ws]).length (xs++[x]):=(h.own.alloc _).kept D (.inr fun e=>h.vs _ _ f e.symm)
 obtain⟨s1,s2⟩:=T.stored rows.length x'
 have e1:(xs++[x]).set rows.length x'=xs++[x']:=by rw[←F,List.set_append_right _ _ (Nat.le_refl _)];simp
 have U:(rows++[ws]).length=(rows++[ws++[v]]).length:=by simp
 rw[e1,U] at s1
 have old:∀ (i:Nat) y,xs[i]?=some y→(xs++[x])[i]?=some y∧i<rows.length:=fun i y q=>by
  have hi:=(List.getElem?_eq_some_iff.1 q).1
  exact⟨by rw[List.getElem?_append_left hi];exact q,by omega⟩
 refine⟨by simp[F],s1,fun i y l C s=>?_,fun i y C=>?_,fun i j y z k C G n t=>?_,?_⟩
 ·rcases Vm C with q | ⟨rfl,rfl⟩
  ·obtain⟨u,M⟩:=old i y q
   have hr:(rows++[ws])[i]?=some l:=by
    rw[List.getElem?_append_left M] at s ⊢;exact s
   refine ownsRow_setCell_other (((h.row i y l u hr).alloc _).kept D ?_) (h.vs i y u) _
   cases n:y.ownBlock with
   | none=>exact .inl rfl
   | some k=>exact .inr fun e=>by have:=h.sep i _ y x k u f n e.symm;omega
  ·rw[F,List.getElem?_append_right (Nat.le_refl _)] at s
   simp at s;subst s
   rw[List.length_append,List.map_append]
   exact ownsRow_setCell_other S A _
 ·rcases Vm C with q | ⟨_,rfl⟩
  ·exact h.vs i y (old i y q).1
  ·exact A
 ·have key:∀ (i:Nat) y k,xs[i]?=some y→y.ownBlock=some k→x'.ownBlock=some k→False:=fun i y k q n e=>by
   obtain⟨u,M⟩:=old i y q
   rcases I with r | ⟨X,r,t⟩
   ·rw[r] at e;have:=h.sep i _ y x k u f n e;omega
   ·rw[r] at e;cases e;have:=(h.lt u n).2;omega
  rcases Vm C with q | ⟨p,rfl⟩
  ·rcases Vm G with r | ⟨_,rfl⟩
   ·exact h.sep i j y z k (old i y q).1 (old j z r).1 n t
   ·exact absurd (key i y k q n t) id
  ·rcases Vm G with r | ⟨r,_⟩
   ·exact absurd (key j z k r t n) id
   ·omega
 ·have d:=ny h.bel (by omega) D fun k e=>(h.lt f e).1
  exact⟨s2.os.trans d.os,s2.tape.trans d.tape,s2.output.trans d.output,Nat.le_trans d.size s2.size,fun k n=>by
   have G:k<w2.heap.size:=by
    have V:=D.size
    simp at V
    omega
   rw[s2.block k G (by simp;omega)];exact d.block k n⟩
section
variable {P:Program} (w:World)
theorem Ari (base:Nat) (t ty e:TypeId) (i:TypeInfo) (z:Value) (size bytes:Nat) (T:P.underlying t=some (.slice e)) (hi:P.info? e=some i) (U:i.zero=some z)
  (s:i.size=size) (F:i.bytes=bytes) (V:z.cells.size=size) (X:0<size)
  (v:Value) (n:Nat) (xs:List Value) (d:w.ownsRow base e size v n xs)
  (a:Addr) (m c:Nat) (news:List Value) (G:news.length=m*size) (f:∀ j u,news[j]?=some u→w.cell? (a.add j)=some u) (h1:∀ u ∈ news,u.oneCell'=true)
  (hm:0<m) (y:n+m≤maxLen) (l:(n+m)*bytes≤140737488355328) (A:base≤w.heap.size) :
  ∃ v' w',(Builtin.append_ #[t,t] ty #[v,.slice (some a) m c]).run P w=.ok v' w'∧w'.ownsRow base e size v' (n+m) (xs++news)∧w'.ownsRow base e size v n xs∧w.grownBy w' v.ownBlock ∧
   (v'.ownBlock=v.ownBlock∨∃ k,v'.ownBlock=some k∧w.heap.size≤k):=by
 obtain⟨v',w',hr,h2,Y,h4⟩:=run_append_own (P:=P) w base t ty e i z size bytes T hi U s F V X v n xs d a m c news G f h1 y l A
 subst s
 subst F
 refine⟨v',w',hr,h2,?_⟩
 rcases d.2 with⟨rfl,rfl⟩ | ⟨g,cap,cur,rfl,hbg,hg,I,hcm,M,C⟩
 ·have hx:xs=[]:=List.eq_nil_of_length_eq_zero (by simpa using d.1)
  subst hx
  have q:=run_append_nil (P:=P) w t ty e i z T hi U a m c news G f hm (by simp only[maxLen] at y;omega) (by have hb:=l;simp only[Nat.zero_add] at hb;omega)
  rw[hr] at q
  injection q with e1 e2
  subst e1
  exact⟨World.ownsRow_nil _ _ _ _,Y,.inr ⟨w.heap.size,rfl,Nat.le_refl _⟩⟩
 ·by_cases x:n+m≤cap
  ·have S:n*i.size+news.length≤cur.size:=by rw[G,M,←Nat.add_mul];exact Nat.mul_le_mul_right _ x
   have q:=run_append_room (P:=P) w t ty e i T hi g n cap cur hg a m c news G f h1 x S
   rw[hr] at q
   injection q with e1 e2
   subst e1
   refine⟨⟨d.1,?_⟩,Y,.inl rfl⟩
   rcases h2.2 with⟨h5,_⟩ | ⟨g',cap',cur',hv,hb',hg',hn',hc',hs',ht'⟩
   ·cases h5
   ·cases hv
    refine .inr ⟨g,cap,cur',rfl,hb',hg',I,hc',hs',?_⟩
    have:cur'.toList.take (n*i.size)=(cur'.toList.take ((n+m)*i.size)).take (n*i.size):=by
     rw[List.take_take,Nat.min_eq_left (Nat.mul_le_mul_right _ (by omega))]
    rw[this,ht',←d.1]
    exact List.take_left
  ·have D:∀ j u,xs[j]?=some u→w.cell? ((⟨g,0,none⟩:Addr).add j)=some u:=d.cells (g:=g) rfl
   have q:=run_append_grow (P:=P) w t ty e i z T hi U ⟨g,0,none⟩ n cap xs d.1 D a m c news G f (by omega) (by simp only[maxLen] at y;omega) (growslice_fits (by omega) l)
   rw[hr] at q
   injection q with e1 e2
   subst e1 e2
   refine⟨?_,Y,.inr ⟨w.heap.size,rfl,Nat.le_refl _⟩⟩
   have hlt:=(Array.getElem?_eq_some_iff.1 hg).1
   exact⟨d.1,.inr ⟨g,cap,cur,rfl,hbg,(heap_alloc_old w.drew _ hlt).trans hg,I,hcm,M,C⟩⟩
theorem Mf {ops:Array Oper} {P1:List Oper} {o:Oper} {a:Act} {Q:Exit→Act→World→Prop} (A:o.guard=none) (s x:Operand) (t:TypeId)
  (I:o.op=.call { callee:=.builtin .append,args:=#[s,x],argTypes:=#[t,t] })
  (base:Nat) (e:TypeId) (i:TypeInfo) (z:Value) (size bytes:Nat) (M:P.underlying t=some (.slice e)) (hi:P.info? e=some i) (S:i.zero=some z)
  (f:i.size=size) (C:i.bytes=bytes) (D:z.cells.size=size) (F:0<size)
  (v:Value) (n:Nat) (xs:List Value) (hs:a.eval s=v) (y:w.ownsRow base e size v n xs)
  (ad:Addr) (m c:Nat) (news:List Value) (hx:a.eval x=.slice (some ad) m c) (T:news.length=m*size) (l:∀ j u,news[j]?=some u→w.cell? (ad.add j)=some u) (U:∀ u ∈ news,u.oneCell'=true)
  (V:0<m) (G:n+m≤maxLen) (d:(n+m)*bytes≤140737488355328) (q:base≤w.heap.size)
  (h:∀ v' w',w'.ownsRow base e size v' (n+m) (xs++news)→w'.ownsRow base e size v n xs→w.grownBy w' v.ownBlock→(v'.ownBlock=v.ownBlock∨∃ k,v'.ownBlock=some k∧w.heap.size≤k)→wpList P ops Q P1 (a.put o.dst v') w'):wpList P ops Q (o::P1) a w :=
 wpList_plain A fun K hK=>by
  obtain⟨v',w',hr,X,Y,h4,h5⟩:=Ari (P:=P) w base t o.type e i z size bytes M hi S f C D F v n xs y ad m c news T l U V G d q
  unfold Oper.wp execOp
  simp only[I,resolve,invoke,builtin,Sem.run_bind,Sem.run_pure,Result.andThen_ok,List.map_toArray,List.map_cons,List.map_nil,hs,hx,hr]
  exact hK _ _ (h v' w' X Y h4 h5)
end
end Go.Proofs.Ln
namespace Go.Proofs.Ln
open Go Go.RowKit Gx
theorem Auc:(Tryz.prog.info? 24).map (fun i=>(i.zero,i.size,i.bytes))=some (some (.slice none 0 0),1,24):=by kernel_rfl
theorem Avx:(Tryz.prog.info? 9).map (fun i=>(i.zero,i.size,i.bytes))=some (some (.string ⟨#[]⟩),1,16):=by kernel_rfl
theorem NI {w:World} {B e:Nat} {v:Value} {n:Nat} {xs:List Value} (h:w.ownsRow B e 1 v (n+1) xs):∃ g cap,v=.slice (some ⟨g,0,none⟩) (n+1) cap:=by
 rcases h.2 with⟨_,h⟩ | ⟨g,cap,_,h,_⟩
 ·omega
 ·exact⟨g,cap,h⟩
theorem WO {w:World} {v:Value} {t:TypeId}:∀ (j:Nat) u,[v][j]?=some u→(w.alloc (.cells #[v] t)).cell? ((⟨w.heap.size,0,none⟩:Addr).add j)=some u:=fun j u h=>by
 match j,h with
 | 0,h =>
  simp at h;subst h
  show World.cell? _ ⟨w.heap.size,0,none⟩=_
  unfold World.cell?;rw[heap_alloc_new];rfl
theorem xA {w:World} {v:Value} {t:TypeId} {n:Nat} (hn:w.heap.size=n):∀ (j:Nat) u,[v][j]?=some u→(w.alloc (.cells #[v] t)).cell? ((⟨n,0,none⟩:Addr).add j)=some u:=by subst hn;exact WO
theorem Aol {g g' cap' n z:Nat} (h:(Value.slice (some ⟨g',0,none⟩) n cap').ownBlock=some g∨∃ k,(Value.slice (some ⟨g',0,none⟩) n cap').ownBlock=some k∧z≤k):g'=g∨z≤g':=by
 rcases h with h | ⟨k,h,d⟩
 ·exact .inl (Option.some.inj h)
 ·rw[show g'=k from Option.some.inj h];exact .inr d
set_option maxRecDepth 100000 in
set_option maxHeartbeats 4000000 in
theorem Aom (s:List UInt8) (hs:s.length≤1000000000) (w:World) :
  Calls Tryz.prog 7 #[.string ⟨⟨s⟩⟩] w fun e w'=>∃ g cap xs,e=.returned (.slice (some ⟨g,0,none⟩) (H3 s).length cap)∧LnI w.heap.size w w' g cap xs (H3 s):=by
 have start:=Alk w
 obtain⟨i9,h9,A,C,D⟩:=info_parts Avx
 obtain⟨i24,X,Y,hz1,hz2⟩:=info_parts Auc
 go_enter Tryz.func7,Tryz.ntmps7
 go_wp2
 go_loopw [3,4,5,6] (fun v3 v4 v5 v6 wr=>∃ (k:Nat) (wd:List UInt8) (cm:Bool) (g cap:Nat) (xs:List Value) (x:Value) (rows:List (List (List UInt8))) (ws:List (List UInt8)),
   v6=.int .i64 k∧v5=.bool cm∧v4=.string ⟨⟨wd⟩⟩∧v3=.slice (some ⟨g,0,none⟩) (rows.length+1) cap∧LnI w.heap.size w wr g cap (xs++[x]) (rows++[ws])∧k≤s.length∧rows++Fy (s.drop k) ws wd cm=H3 s∧wd.length≤k∧rows.length≤k∧ws.length≤k)
  (fun _ _ _ v6 _=>s.length - (intOf v6).toNat)
 case atStart=>exact⟨0,[],false,_,_,[],_,[],[],rfl,rfl,rfl,rfl,start,Nat.zero_le _,rfl,Nat.le_refl _,Nat.le_refl _,Nat.le_refl _⟩
 case round =>
  obtain⟨k,wd,cm,g,cap,xs,x,rows,ws,rfl,rfl,rfl,rfl,hI,hk,hL,hw1,hw2,hw3⟩:=hrel
  have hxl:xs.length=rows.length:=by have:=hI.len;simpa using this
  have F:(xs++[x])[rows.length]?=some x:=by rw[←hxl];simp
  have hcell:wr.cell? ⟨g,rows.length,none⟩=some x:=by
   have:=hI.own.cellAt rows.length (by simp)
   rw[this,F]
  have q:wr.ownsRow w.heap.size 9 1 x ws.length (ws.map f5):=hI.row rows.length x ws F (by simp)
  have hown:wr.ownsRow w.heap.size 24 1 (.slice (some ⟨g,0,none⟩) (rows.length+1) cap) (rows.length+1) (xs++[x]):=by have:=hI.own;simpa using this
  have d:∀ (o:Obj) (w2:World),(wr.alloc o).grownBy w2 x.ownBlock→w2.frozen? ⟨g,rows.length,none⟩=false∧w2.cell? ⟨g,rows.length,none⟩=some x:=fun o w2 t=>by
   have:=(hI.own.alloc o).kept t (.inr (fun e=>hI.vs rows.length x F e.symm))
   exact⟨this.frozenAt _,by rw[this.cellAt rows.length (by simp),F]⟩
  have hBw:=hI.glt
  rcases Nat.lt_or_ge k s.length with hlt | hge
  ·have qk:(((k:Nat):Int)==((s.length:Nat):Int))=false:=by rw[beq_eq_false_iff_ne];omega
   have hd:s.drop k=s[k]::s.drop (k+1):=List.drop_eq_getElem_cons hlt
   rw[hd] at hL
   obtain⟨b,hb⟩:∃ b,s[k]=b:=⟨_,rfl⟩
   rw[hb] at hL
   have hbv:(⟨⟨s⟩⟩:ByteArray)[k]'hlt=b:=hb
   rcases Classical.em (b=10) with rfl | G
   ·rw[Fy,if_pos rfl] at hL
    rcases wd with _ | ⟨c,wd⟩
    ·have hL:rows++ws::Fy (s.drop (k+1)) [] [] false=H3 s:=hL
     go_wp2_with (first
      | (at_builtin;refine Mf _ rfl _ _ 25 rfl w.heap.size 24 i24 _ 1 24 Tryz.underlying25 X Y hz1 hz2 rfl (by decide) _ (rows.length+1) (xs++[x]) rfl (hown.alloc _) ⟨wr.heap.size,0,none⟩ 1 1 [.slice none 0 0] rfl rfl (xA (by simp)) ?d2 (by decide) ?d3 ?d4 ?d5 ?_)
      | go_in)
     case d2=>exact fun u f=>by simp at f;subst f;rfl
     case d3=>simp only[maxLen];omega
     case d4=>omega
     case d5=>simp;omega
     intro v'' w4 y _ M z
     obtain⟨g',cap',rfl⟩:=NI y
     have hI4:=hI.more (by simpa using y) M (by simpa using Aol z)
     go_wp2
     go_roundw
     case rel=>exact⟨k+1,[],false,g',cap',(xs++[x]),_,rows++[ws],[],by simp,rfl,rfl,by simp,hI4,by omega,by simpa using hL,by simp,by simp;omega,by simp⟩
     case measure=>simp[intOf];omega
    ·have hL:rows++(ws++[c::wd])::Fy (s.drop (k+1)) [] [] false=H3 s:=hL
     go_wp2_with (first
      | (at_builtin;refine Mf _ rfl _ _ 24 rfl w.heap.size 9 i9 _ 1 16 Tryz.underlying24 h9 A C D rfl (by decide) x ws.length (ws.map f5) rfl (q.alloc _) ⟨wr.heap.size,0,none⟩ 1 1 [f5 (c::wd)] rfl rfl WO ?c2 (by decide) ?c3 ?c4 ?c5 ?_)
      | go_in)
     case c2=>exact fun u f=>by simp at f;subst f;rfl
     case c3=>simp only[maxLen];omega
     case c4=>omega
     case c5=>simp;omega
     intro v' w2 hn _ t l
     obtain⟨S,T⟩:=d _ _ t
     have hI3:=hI.push hn t (by simpa using l)
     obtain⟨U,c1,rfl⟩:=NI hn
     have V:(w2.setCell ⟨g,rows.length,none⟩ (.slice (some ⟨U,0,none⟩) (ws.length+1) c1)).ownsRow w.heap.size 24 1 (.slice (some ⟨g,0,none⟩) (rows.length+1) cap) (rows.length+1) (xs++[.slice (some ⟨U,0,none⟩) (ws.length+1) c1]):=by have:=hI3.own;simpa using this
     have hBw3:=hI3.glt
     go_wp2_with (first
      | (at_builtin;refine Mf _ rfl _ _ 25 rfl w.heap.size 24 i24 _ 1 24 Tryz.underlying25 X Y hz1 hz2 rfl (by decide) _ (rows.length+1) (xs++[.slice (some ⟨U,0,none⟩) (ws.length+1) c1]) rfl (V.alloc _) ⟨w2.heap.size,0,none⟩ 1 1 [.slice none 0 0] rfl rfl (xA (by simp)) ?d2 (by decide) ?d3 ?d4 ?d5 ?_)
      | go_in)
     case d2=>exact fun u f=>by simp at f;subst f;rfl
     case d3=>simp only[maxLen];omega
     case d4=>omega
     case d5=>have:=t.size;simp at this ⊢;omega
     intro v'' w4 y _ M z
     obtain⟨g',cap',rfl⟩:=NI y
     have hI4:=hI3.more (by simpa using y) M (by simpa using Aol z)
     go_wp2
     go_roundw
     case rel=>exact⟨k+1,[],false,g',cap',(xs++[.slice (some ⟨U,0,none⟩) (ws.length+1) c1]),_,rows++[ws++[c::wd]],[],by simp,rfl,rfl,by simp,hI4,by omega,by simpa using hL,by simp,by simp;omega,by simp⟩
     case measure=>simp[intOf];omega
   ·rw[Fy,if_neg G] at hL
    have n10:(b.toNat:Int)≠10:=fun e=>G (UInt8.toNat_inj.1 (by exact Int.ofNat.inj e))
    have q10:((b.toNat:Int)==10)=false:=beq_false_of_ne n10
    rcases Classical.em (b=35) with rfl | I
    ·rw[if_pos rfl] at hL
     rcases wd with _ | ⟨c,wd⟩
     ·have hL:rows++Fy (s.drop (k+1)) ws [] true=H3 s:=hL
      go_wp2
      go_roundw
      case rel=>exact⟨k+1,[],true,g,cap,xs,x,rows,ws,by simp,rfl,rfl,by simp,hI,by omega,hL,by simp,by omega,by omega⟩
      case measure=>simp[intOf];omega
     ·have hL:rows++Fy (s.drop (k+1)) (ws++[c::wd]) [] true=H3 s:=hL
      go_wp2_with (first
       | (at_builtin;refine Mf _ rfl _ _ 24 rfl w.heap.size 9 i9 _ 1 16 Tryz.underlying24 h9 A C D rfl (by decide) x ws.length (ws.map f5) rfl (q.alloc _) ⟨wr.heap.size,0,none⟩ 1 1 [f5 (c::wd)] rfl rfl WO ?c2 (by decide) ?c3 ?c4 ?c5 ?_)
       | go_in)
      case c2=>exact fun u f=>by simp at f;subst f;rfl
      case c3=>simp only[maxLen];omega
      case c4=>omega
      case c5=>simp;omega
      intro v' w2 hn _ t l
      obtain⟨S,T⟩:=d _ _ t
      have hI3:=hI.push hn t (by simpa using l)
      obtain⟨U,c1,rfl⟩:=NI hn
      go_wp2
      go_roundw
      case rel=>exact⟨k+1,[],true,g,cap,xs,_,rows,ws++[c::wd],by simp,rfl,rfl,by simp,hI3,by omega,hL,by simp,by omega,by simp;omega⟩
      case measure=>simp[intOf];omega
    ·rw[if_neg I] at hL
     have n35:(b.toNat:Int)≠35:=fun e=>I (UInt8.toNat_inj.1 (by exact Int.ofNat.inj e))
     have q35:((b.toNat:Int)==35)=false:=beq_false_of_ne n35
     rcases Classical.em (wy b=true) with n | n
     ·rw[if_pos n] at hL
      have hb3:b=32∨b=9∨b=13:=by
       unfold wy at n;simpa[G,I] using n
      rcases wd with _ | ⟨c,wd⟩
      ·have hL:rows++Fy (s.drop (k+1)) ws [] cm=H3 s:=hL
       rcases hb3 with rfl | rfl | rfl
       all_goals cases cm
       all_goals go_wp2
       all_goals go_roundw
       all_goals first
        | exact⟨k+1,[],_,g,cap,xs,x,rows,ws,by simp,rfl,rfl,by simp,hI,by omega,hL,by simp,by omega,by omega⟩
        | (simp[intOf];omega)
      ·have hL:rows++Fy (s.drop (k+1)) (ws++[c::wd]) [] cm=H3 s:=hL
       rcases hb3 with rfl | rfl | rfl
       all_goals cases cm
       all_goals go_wp2_with (first
        | (at_builtin;refine Mf _ rfl _ _ 24 rfl w.heap.size 9 i9 _ 1 16 Tryz.underlying24 h9 A C D rfl (by decide) x ws.length (ws.map f5) rfl (q.alloc _) ⟨wr.heap.size,0,none⟩ 1 1 [f5 (c::wd)] rfl rfl WO (fun u f=>by simp at f;subst f;rfl) (by decide) (by simp only[maxLen];omega) (by omega) (by simp;omega) ?_)
        | go_in)
       all_goals intro v' w2 hn _ t l
       all_goals obtain⟨S,T⟩:=d _ _ t
       all_goals have hI3:=hI.push hn t (by simpa using l)
       all_goals obtain⟨U,c1,rfl⟩:=NI hn
       all_goals go_wp2
       all_goals go_roundw
       all_goals first
        | exact⟨k+1,[],_,g,cap,xs,_,rows,ws++[c::wd],by simp,rfl,rfl,by simp,hI3,by omega,hL,by simp,by omega,by simp;omega⟩
        | (simp[intOf];omega)
     ·rw[if_neg n] at hL
      have hne:b≠32∧b≠9∧b≠13:=by
       unfold wy at n;simpa[G,I] using n
      obtain⟨h32,h9b,h13⟩:=hne
      have n32:(b.toNat:Int)≠32:=fun e=>h32 (UInt8.toNat_inj.1 (by exact Int.ofNat.inj e))
      have q32:((b.toNat:Int)==32)=false:=beq_false_of_ne n32
      have p32:((b.toNat:Int) != 32)=true:=by rw[bne,q32];rfl
      have n9:(b.toNat:Int)≠9:=fun e=>h9b (UInt8.toNat_inj.1 (by exact Int.ofNat.inj e))
      have q9:((b.toNat:Int)==9)=false:=beq_false_of_ne n9
      have p9:((b.toNat:Int) != 9)=true:=by rw[bne,q9];rfl
      have n13:(b.toNat:Int)≠13:=fun e=>h13 (UInt8.toNat_inj.1 (by exact Int.ofNat.inj e))
      have q13:((b.toNat:Int)==13)=false:=beq_false_of_ne n13
      have p13:((b.toNat:Int) != 13)=true:=by rw[bne,q13];rfl
      cases cm
      ·have hL:rows++Fy (s.drop (k+1)) ws (wd++[b]) false=H3 s:=hL
       have hsl:∀ w:World,(Instr.slice 9 (.string ⟨⟨s⟩⟩) (some (.int .i64 (k:Int))) (some (.int .i64 ((k:Int)+1))) none).run Tryz.prog w=.ok (.string ⟨⟨[b]⟩⟩) w:=fun w=>by
        rw[run_slice_string w 9 ⟨⟨s⟩⟩ .i64 .i64 (k:Int) ((k:Int)+1) Tryz.underlying9 (by omega) (by omega) (by show(k:Int)+1≤((s.length:Nat):Int);omega)]
        congr 2
        apply ByteArray.ext
        rw[ByteArray.data_extract]
        apply Array.toList_inj.1
        rw[Array.toList_extract,show((k:Int)+1).toNat=k+1 by omega,Int.toNat_natCast]
        show List.take (k+1 - k) (List.drop k s)=[b]
        rw[hd,hb,Nat.add_sub_cancel_left];rfl
       have had:∀ w:World,(Op.stringOp .add ⟨⟨wd⟩⟩ ⟨⟨[b]⟩⟩).run Tryz.prog w=.ok (.string ⟨⟨wd++[b]⟩⟩) w:=fun w=>by
        rw[run_string_add_sum w _ _ (by show wd.length+1≤9223372036854775807;omega)]
        congr 2
       clear hd hb
       go_wp2
       go_roundw
       case rel=>exact⟨k+1,wd++[b],false,g,cap,xs,x,rows,ws,by simp,rfl,rfl,by simp,hI,by omega,hL,by simp;omega,by omega,by omega⟩
       case measure=>simp[intOf];omega
      ·have hL:rows++Fy (s.drop (k+1)) ws wd true=H3 s:=hL
       go_wp2
       go_roundw
       case rel=>exact⟨k+1,wd,true,g,cap,xs,x,rows,ws,by simp,rfl,rfl,by simp,hI,by omega,hL,by omega,by omega,by omega⟩
       case measure=>simp[intOf];omega
  ·obtain rfl:k=s.length:=by omega
   rw[List.drop_eq_nil_of_le (Nat.le_refl _),Fy] at hL
   rcases wd with _ | ⟨c,wd⟩
   ·go_wp2
    go_ret
    have hL:rows++[ws]=H3 s:=hL
    rw[←hL]
    exact⟨g,cap,xs++[x],by simp,hI⟩
   ·have hL:rows++[ws++[c::wd]]=H3 s:=hL
    go_wp2_with (first
     | (at_builtin;refine Mf _ rfl _ _ 24 rfl w.heap.size 9 i9 _ 1 16 Tryz.underlying24 h9 A C D rfl (by decide) x ws.length (ws.map f5) rfl (q.alloc _) ⟨wr.heap.size,0,none⟩ 1 1 [f5 (c::wd)] rfl rfl WO ?c2 (by decide) ?c3 ?c4 ?c5 ?_)
     | go_in)
    case c2=>exact fun u f=>by simp at f;subst f;rfl
    case c3=>simp only[maxLen];omega
    case c4=>omega
    case c5=>simp;omega
    intro v' w2 hn _ t l
    obtain⟨S,T⟩:=d _ _ t
    have hI3:=hI.push hn t (by simpa using l)
    obtain⟨U,c1,rfl⟩:=NI hn
    go_wp2
    go_ret
    rw[←hL]
    exact⟨g,cap,_,by simp,hI3⟩
end Go.Proofs.Ln
namespace Gx
open Go Go.Proofs Go.Proofs.Ln Go.RowKit
theorem Aon {P:Program} {f:Nat} {args:LA} {c:LA} {n:Nat} (F:c.length=n)
  (C:∀ (J:Bool→Nat→Prop) (β:Cu) (w:World) (vs:List Value),GlobOk J w→Reps J β [] w args vs→Calls P f vs.toArray w fun e w'=>∃ (g cap:Nat) (cs:Array Value) (ty:TypeId) (G:Nat→Prop),e=.returned (.slice (some ⟨g,0,none⟩) n cap)∧Below w.heap.size w w'∧w.heap.size≤g∧w'.heap[g]?=some (.cells cs ty (0,0))∧n≤cap∧cs.size=cap∧(∀ k,G k→w.heap.size≤k∧k<w'.heap.size∧k≠g)∧RepCs G w' c (fun j=>cs[j]?) 0) :
  Aiy P f args [] (.own 300000 0 n) [(300000,bQ 1 c)]:=by
 intro J β w vs S hr
 refine(C J β w vs S.gl hr).mono ?_
 rintro e w' ⟨g,cap,cs,ty,G,rfl,B,I,z,hn,hs,hG,t⟩
 have d:∀ {b:Nat} {x:Blk},Ak [(300000,bQ 1 c)] b=some x→b=300000∧x=bQ 1 c:=fun {b x} h=>by
  rw[Ak] at h
  cases q:beq 300000 b with
  | true=>rw[q,cond_true] at h;exact⟨(A1n q).symm,(Option.some.inj h).symm⟩
  | false=>rw[q,cond_false,Ak] at h;cases h
 have u:(fun b=>if b=300000 then some (g,0) else β b) 300000=some (g,0):=by simp
 refine⟨_,(fun o k=>J o k∨G k),(fun b=>if b=300000 then some (g,0) else β b),rfl,⟨⟨fun o k h=>?_,fun k h=>?_,S.gl.to (fun _ h=>.inl h) (fun k l=>B.block k (S.jlt _ k l)),fun b x h _ _=>?_,fun b x h _ v=>?_,fun b M x x' k o o' h h' _ _ _ _ _=>?_⟩,B.os,B.tape,B.output,B.size,fun k l _=>B.block k l,fun k v l=>?_,fun _ _ h=>.inl h,fun o k h=>?_,fun k=>?_,fun b x0 x h=>by simp[Ak] at h,fun b x h=>?_⟩,?_⟩
 ·rcases h with h | h
  ·exact A22 (S.jlt o k h) B.size
  ·exact(hG k h).2.1
 ·exact h.imp (S.jft k) id
 ·obtain⟨rfl,rfl⟩:=d h
  refine .inr ⟨g,0,cs,ty,(0,0),u,z,FrTy.un0,by show 0+c.length≤_;omega,⟨fun _=>?_,fun y=>by cases y⟩,fun _ o s=>?_,fun y=>by cases y⟩
  ·show RepCs (fun k=>J false k∨G k) w' c (fun j=>cs[0+j]?) 0
   exact RepCs.keep (fun _ h=>.inr h) (fun _ _=>rfl) (fun j=>by rw[A1w]) t
  ·rcases s with s | s
   ·have:=S.jlt o g s;omega
   ·exact(hG g s).2.2 rfl
 ·obtain⟨rfl,rfl⟩:=d h;cases v
 ·rw[(d h).1,(d h').1]
 ·obtain⟨b,x,o,h,_,_,A⟩:=v
  obtain⟨rfl,rfl⟩:=d h
  rw[u] at A;cases A
  have D:g<w.heap.size:=l
  omega
 ·rcases h with h | h
  ·exact .inl h
  ·exact .inr (.inr (hG k h).1)
 ·by_cases l:k<w.heap.size
  ·simp[Be,B.block k l]
  ·simp[Be,A2x (A4b l)]
 ·obtain⟨rfl,rfl⟩:=d h;rfl
 ·rw[Rep]
  refine⟨_,_,cap,⟨rfl,rfl⟩,rfl,hn,.inr ⟨g,0,rfl,.inr ⟨u,?_,by show 0+n*1≤c.length;omega⟩⟩⟩
  rw[Fc z,hs];simp[bQ]
theorem Arj {G:Nat→Prop} {w:World} {B:Nat} {x:Value} {l:List Lu} (h:w.ownsRow B 9 1 x l.length (l.map f5)) (hG:∀ k,x.ownBlock=some k→G k):RepC G w (wz l) x:=by
 unfold wz
 rw[RepC]
 rcases h.2 with⟨rfl,n⟩ | ⟨g,cap,cur,rfl,_,q,hn,_,hs,t⟩
 ·have:l=[]:=A3u n
  subst this
  exact⟨rfl,none,0,rfl,A1h _,(fun h=>by cases h),.inl rfl⟩
 ·refine⟨by simp,some ⟨g,0,none⟩,cap,rfl,hn,(fun h=>by cases h),.inr ⟨_,rfl,hG g rfl,?_⟩⟩
  rw[Cb]
  intro j y f
  rw[A3a,A4p] at f
  obtain⟨s,d,rfl⟩:=f
  refine⟨f5 s,?_,by rw[RepC];rfl⟩
  have:=h.cells (g:=g) rfl j (f5 s) (by rw[A3a,d];rfl)
  simpa using this
theorem zT (N:Nat):k8 Tryz.prog 7 (ig N):=by
 intro args h res h' f
 have d:Zd N args h (fun v h'=>some (v,h'))=some (res,h'):=f
 unfold Zd at d
 split at d
 ·rename_i s
  rw[Zc,GD] at d
  obtain⟨A,C⟩:=uc d
  simp only[A6g] at A
  simp only[A3g,A6b] at C
  obtain⟨rfl,rfl⟩:=C
  refine Aon (by simp) fun J β w vs G hr=>?_
  obtain⟨u,rfl,e1⟩:=r8 hr
  simp only[Rep] at e1;subst e1
  refine(Aom s A w).mono ?_
  rintro e w' ⟨g,cap,xs,rfl,hI⟩
  rcases hI.own.2 with⟨n,_⟩ | ⟨g',cap',cur,n,_,I,hn,_,hs,M⟩
  ·cases n
  ·cases n
   refine⟨g,cap,cur,24,fun k=>∃ (i:Nat) (x:Value),xs[i]?=some x∧x.ownBlock=some k,rfl,hI.bel,hI.glt.1,I,hn,by omega,fun k ⟨i,x,q,t⟩=>⟨(hI.lt q t).1,(hI.lt q t).2,fun e=>hI.vs i x q (by rw[t,e])⟩,?_⟩
   rw[Cb]
   intro j y D
   rw[A3a,A4p] at D
   obtain⟨l,F,rfl⟩:=D
   have z:=(A1s.1 F).1
   have hx:xs[j]?=some (xs[j]'(by rw[hI.len];exact z)):=A1g _
   refine⟨_,?_,Arj (hI.row j _ l hx F) fun k S=>⟨j,_,hx,S⟩⟩
   have:(cur.toList.take ((H3 s).length*1))[j]?=xs[j]?:=by rw[M]
   rw[List.getElem?_take_of_lt (by omega),hx] at this
   simpa using this
 ·cases d
noncomputable def Ac4 (N:Nat):=Anx (ig N) (zT N)
end Gx
namespace Gx
open Go
mutual
def Ax1:AV→AV→Bool
 | .int k n,.int k' n'=>P2 k k'&&decide (n=n')
 | .bool b,.bool b'=>b==b'
 | .str s,.str s'=>s==s'
 | .nsl,.nsl=>true
 | .imm c n s t o,.imm c' n' s' t' o'=>beq n n'&&(beq s s'&&(t==t'&&(o==o'&&pm c c')))
 | .iptr c o,.iptr c' o'=>o==o'&&pm c c'
 | .pagg c o,.pagg c' o'=>o==o'&&pm c c'
 | .own b f n,.own b' f' n'=>beq b b'&&(beq f f'&&beq n n')
 | .optr b f,.optr b' f'=>beq b b'&&beq f f'
 | .agg c,.agg c'=>pm c c'
 | .tup c,.tup c'=>pm c c'
 | .fn f c,.fn f' c'=>beq f f'&&pm c c'
 | .nilptr,.nilptr=>true
 | .nilfn,.nilfn=>true
 | .undef,.undef=>true
 | .omap b,.omap b'=>beq b b'
 | _,_=>false
def pm:List AV→List AV→Bool
 | [],[]=>true
 | x::r,y::q=>Ax1 x y&&pm r q
 | _,_=>false
end
mutual
theorem Agt:∀ a b,Ax1 a b=true→a=b:=by
 intro a b h
 cases a<;>cases b<;>simp only[Ax1,A1f,A5m,beq_iff_eq,P2,decide_eq_true_eq,reduceCtorEq,A3r] at h
 case int.int=>rw[h.1,h.2]
 case bool.bool=>rw[h]
 case str.str=>rw[h]
 case nsl.nsl=>rfl
 case imm.imm=>rw[h.1,h.2.1,h.2.2.1,h.2.2.2.1,DX _ _ h.2.2.2.2]
 case iptr.iptr=>rw[h.1,DX _ _ h.2]
 case pagg.pagg=>rw[h.1,DX _ _ h.2]
 case own.own=>rw[h.1,h.2.1,h.2.2]
 case optr.optr=>rw[h.1,h.2]
 case agg.agg=>rw[DX _ _ h]
 case tup.tup=>rw[DX _ _ h]
 case fn.fn=>rw[h.1,DX _ _ h.2]
 case nilptr.nilptr=>rfl
 case nilfn.nilfn=>rfl
 case undef.undef=>rfl
 case omap.omap=>rw[h]
theorem DX:∀ a b,pm a b=true→a=b:=by
 intro a b h
 cases a<;>cases b<;>simp only[pm,A1f,A3r] at h
 ·rfl
 ·rw[Agt _ _ h.1,DX _ _ h.2]
end
def Ax2:Option (Nat×Nat)→Option (Nat×Nat)→Bool
 | none,none=>true
 | some (a,b),some (c,d)=>beq a c&&beq b d
 | _,_=>false
def Ayi (x y:Blk):Bool:=x.dead==y.dead&&(x.sealed==y.sealed&&(x.pure==y.pure&&(x.taint==y.taint&&(beq x.sz y.sz&&(x.mp==y.mp&&(Ax2 x.ty y.ty&&pm x.cells y.cells))))))
def As8:A1→A1→Bool
 | [],[]=>true
 | (i,x)::r,(j,y)::q=>beq i j&&(Ayi x y&&As8 r q)
 | _,_=>false
theorem Aud:∀ a b,Ax2 a b=true→a=b:=by
 intro a b h
 match a,b,h with
 | none,none,_=>rfl
 | some (a,b),some (c,d),h=>simp only[Ax2,A1f,A5m] at h;rw[h.1,h.2]
 | none,some _,h=>cases h
 | some _,none,h=>simp[Ax2] at h
theorem Aue (x y:Blk) (h:Ayi x y=true):x=y:=by
 unfold Ayi at h
 simp only[A1f,A5m,beq_iff_eq] at h
 obtain⟨k,l,n,q,s,t,d,f⟩:=h
 have:=Aud _ _ d;have:=DX _ _ f
 cases x;cases y;simp_all
theorem Agu:∀ a b,As8 a b=true→a=b:=by
 intro a
 induction a with
 | nil=>intro b h;cases b<;>simp[As8] at h ⊢
 | cons p r d =>
  intro b h
  cases b with
  | nil=>simp[As8] at h
  | cons q s =>
   obtain⟨i,x⟩:=p;obtain⟨j,y⟩:=q
   simp only[As8,A1f,A5m] at h
   rw[h.1,Aue _ _ h.2.1,d _ h.2.2]
structure Pt where
 f:Nat
 args:List AV
 h:A1
 res:AV
 h':A1
def Ej (P:Program) (p:Pt):Prop:=Aiy P p.f p.args p.h p.res p.h'
def Ac5 (P:Program):List Pt→Prop
 | []=>True
 | p::r=>Ej P p∧Ac5 P r
def WP (f:Nat) (a:LA) (h:A1):List Pt→Option Pt
 | []=>none
 | p::r=>cond (beq p.f f&&(pm p.args a&&As8 p.h h)) (some p) (WP f a h r)
def Aoo {R:Type} (k:AV→A1→O R) (alt:O R):Option Pt→O R
 | some p=>k p.res p.h'
 | none=>alt
def Auf (l:List Pt) (f:Nat) (t:Tw):Tw:=⟨fun {R} a h k=>Aoo k (t.runK a h k) (WP f a h l),fun {R} a h k=>by
 cases WP f a h l with
 | none=>exact t.eq a h k
 | some p=>rfl⟩
theorem xB {P:Program} {f:Nat} {a:LA} {h:A1}:∀ {l:List Pt},Ac5 P l→∀ {p},WP f a h l=some p→Aiy P f a h p.res p.h'
 | [],_,p,e=>by simp[WP] at e
 | q::r,H,p,e=>by
  unfold WP at e
  cases d:beq q.f f&&(pm q.args a&&As8 q.h h) with
  | false=>rw[d] at e;exact xB H.2 e
  | true =>
   rw[d] at e
   simp only[cond_true,A3g] at e
   subst e
   simp only[A1f,A5m] at d
   have:=DX _ _ d.2.1;have:=Agu _ _ d.2.2
   obtain⟨rfl,_,_⟩:=d
   subst_vars;exact H.1
theorem Ark {P:Program} {l:List Pt} (H:Ac5 P l) {f:Nat} {t:Tw} (d:k8 P f t):k8 P f (Auf l f t):=by
 intro a h res h' e
 have e:Aoo (fun v h'=>some (v,h')) (t.runK a h fun v h'=>some (v,h')) (WP f a h l)=some (res,h'):=e
 cases hq:WP f a h l with
 | none=>rw[hq] at e;exact d a h res h' e
 | some p =>
  rw[hq] at e
  simp only[Aoo,A3g,A6b] at e
  obtain⟨rfl,rfl⟩:=e
  exact xB H hq
def Avj (P:Program) (muts:Nat→List Bool) (N:Nat) (l:List Pt) (fs:List (Nat×Hints)):Nat→List (Nat×Tw)
 | 0=>[]
 | d+1=>fs.map fun p=>(p.1,Auf l p.1 ⟨fun args h k=>wa P muts (Avj P muts N l fs d) p.2 N p.1 args h k,fun args h k=>by rw[ML,ML];exact fG ..⟩)
theorem Aop {P:Program} (f:P.follows .mixedOrders=true) (muts:Nat→List Bool) (N:Nat) {l:List Pt} (H:Ac5 P l) (fs:List (Nat×Hints)):∀ d,rX P (Avj P muts N l fs d)
 | 0=>trivial
 | d+1=>by
  rw[Avj]
  have key:∀ (q:List (Nat×Hints)),rX P (q.map fun p=>((p.1,Auf l p.1 ⟨fun args h k=>wa P muts (Avj P muts N l fs d) p.2 N p.1 args h k,fun args h k=>by rw[ML,ML];exact fG ..⟩):Nat×Tw)):=by
   intro q
   induction q with
   | nil=>trivial
   | cons p r n =>
    refine⟨Ark H ?_,n⟩
    intro args h res h' s
    exact VN (Aop f muts N H fs d) f ((ML ..).symm.trans s)
  exact key fs
def Aug (f:Nat):List (Nat×Hints)→Hints
 | []=>⟨.leaf,[],[],[],[]⟩
 | p::r=>cond (beq p.1 f) p.2 (Aug f r)
def nz (p:Pt):Option (AV×A1)→Bool
 | some (v,h)=>Ax1 p.res v&&As8 p.h' h
 | none=>false
theorem Hj {P:Program} (k:P.follows .mixedOrders=true) {muts:Nat→List Bool} {N:Nat} {l:List Pt} (H:Ac5 P l) {fs:List (Nat×Hints)} (d:Nat) {p:Pt}
  (e:nz p (wa P muts (Avj P muts N l fs d) (Aug p.f fs) N p.f p.args p.h fun v h=>some (v,h))=true):Ej P p:=by
 cases hq:wa P muts (Avj P muts N l fs d) (Aug p.f fs) N p.f p.args p.h fun v h=>some (v,h) with
 | none=>rw[hq] at e;cases e
 | some q =>
  rw[hq] at e
  obtain⟨v,h⟩:=q
  simp only[nz,A1f] at e
  have:=Agt _ _ e.1;have:=Agu _ _ e.2
  subst_vars
  exact VN (Aop k muts N H fs d) k ((ML ..).symm.trans hq)
end Gx
namespace Gx
open Go Go.Proofs Go.RowKit
noncomputable section
variable {R:Type} (N:Nat)
def Ce (_N:Nat) (s:Lu) (c:Int) (r0:Int→O R):O R:=r0 (Lib.indexByte s c.toNat.toUInt8)
def Ge:=(Ac (@Ce R)).1
theorem Bz:@Ge R=@Ce R:=(Ac _).2
def Bn (a:LA) (h:A1) (k:KF R):O R :=
 match a,h with
 | [.str s,.int .u8 c],[]=>Ge N s c fun x=>k (.int .i64 x) []
 | _,_=>none
def Jf:Tw:=⟨fun {R} a h k=>@Bn R N a h k,fun {R} a h k=>by
 unfold Bn
 split
 ·rw[Bz,Bz];rfl
 ·rfl⟩
end
theorem Jg (N:Nat):k8 Tryz.prog 105 (Jf N):=by
 intro args h res h' f
 have d:Bn N args h (fun v h'=>some (v,h'))=some (res,h'):=f
 unfold Bn at d
 split at d
 ·rename_i s c
  rw[Bz,Ce] at d
  simp at d
  obtain⟨rfl,rfl⟩:=d
  refine ZN fun J β w vs G hr=>?_
  obtain⟨u,v,rfl,e1,k⟩:=r9 hr
  simp only[Rep] at e1 k;subst e1 k
  refine(Any.stringslite_IndexByte { Tryz.lays145 with } ⟨⟨s⟩⟩ c w).mono ?_
  rintro e w' ⟨rfl,rfl⟩
  exact⟨_,rfl,Below.refl _ _,fun J β w=>by rw[Rep]⟩
 ·cases d
noncomputable def Vn (N:Nat):=Anx (Jf N) (Jg N)
end Gx
namespace Gx
open Go Go.Proofs
theorem zU {P:Program} {p:Pt} {o:Option (AV×A1)} (h:∀ v h',o=some (v,h')→Aiy P p.f p.args p.h v h') (e:nz p o=true):Ej P p:=by
 cases hq:o with
 | none=>rw[hq] at e;cases e
 | some q =>
  rw[hq] at e
  obtain⟨v,h'⟩:=q
  simp only[nz,A1f] at e
  have d:=Agt _ _ e.1;have k:=Agu _ _ e.2
  unfold Ej;rw[d,k]
  exact h _ _ hq
def Auh (a:LA) (h:A1):Option (AV×A1):=match a,h with
 | [.str s,.str t],[]=>Rk 0 s t fun x y b=>some (.tup [.str x,.str y,.bool b],[])
 | _,_=>none
theorem Arl (a:LA) (h:A1) (v:AV) (h':A1) (d:Auh a h=some (v,h')):Aiy Tryz.prog 21 a h v h':=by
 refine WN 0 _ _ _ _ (show Jp 0 a h (fun v h'=>some (v,h'))=some (v,h') from ?_)
 unfold Auh at d;unfold Jp
 split at d
 ·rw[Ob];exact d
 ·cases d
theorem WQ {p:Pt} (d:p.f=21) (e:nz p (Auh p.args p.h)=true):Ej Tryz.prog p:=zU (fun v h' k=>by rw[d];exact Arl _ _ _ _ k) e
def Aoq (a:LA) (h:A1):Option (AV×A1):=match a,h with
 | [.str s],[]=>Ox 0 s fun x=>some (.tup [.int .i64 x,.undef],[])
 | _,_=>none
theorem Aor (a:LA) (h:A1) (v:AV) (h':A1) (d:Aoq a h=some (v,h')):Aiy Tryz.prog 166 a h v h':=by
 refine strconv_Atoi_ok 0 _ _ _ _ (show Ih 0 a h (fun v h'=>some (v,h'))=some (v,h') from ?_)
 unfold Aoq at d;unfold Ih
 split at d
 ·rw[Me];exact d
 ·cases d
theorem aA {p:Pt} (d:p.f=166) (e:nz p (Aoq p.args p.h)=true):Ej Tryz.prog p:=zU (fun v h' k=>by rw[d];exact Aor _ _ _ _ k) e
def zV (a:LA) (h:A1):Option (AV×A1):=match a,h with
 | [.str s,.int .i64 c],[]=>Oc 0 s c fun x=>some (.str x,[])
 | _,_=>none
theorem Agv (a:LA) (h:A1) (v:AV) (h':A1) (d:zV a h=some (v,h')):Aiy Tryz.prog 211 a h v h':=by
 refine JF 0 _ _ _ _ (show Gd 0 a h (fun v h'=>some (v,h'))=some (v,h') from ?_)
 unfold zV at d;unfold Gd
 split at d
 ·rw[Nc];exact d
 ·cases d
theorem All {p:Pt} (d:p.f=211) (e:nz p (zV p.args p.h)=true):Ej Tryz.prog p:=zU (fun v h' k=>by rw[d];exact Agv _ _ _ _ k) e
def Agw (a:LA) (h:A1):Option (AV×A1):=match a,h with
 | [.str s,.int .u8 c],[]=>Ce 0 s c fun x=>some (.int .i64 x,[])
 | _,_=>none
theorem Alm (a:LA) (h:A1) (v:AV) (h':A1) (d:Agw a h=some (v,h')):Aiy Tryz.prog 105 a h v h':=by
 refine Jg 0 _ _ _ _ (show Bn 0 a h (fun v h'=>some (v,h'))=some (v,h') from ?_)
 unfold Agw at d;unfold Bn
 split at d
 ·rw[Bz];exact d
 ·cases d
theorem NJ {p:Pt} (d:p.f=105) (e:nz p (Agw p.args p.h)=true):Ej Tryz.prog p:=zU (fun v h' k=>by rw[d];exact Alm _ _ _ _ k) e
end Gx
namespace Gx
open Go Go.Proofs
set_option maxRecDepth 100000
set_option linter.unusedVariables false
def Ayj:Hints:={ H:=hL }
def Aui:Hints:={ H:=(hS hL (hS hL (hS hL (hS hL (hS (hS hL (hS (hP [0,2,5,6,7] hL) hL)) hL))))),modes:=[(3,0),(0,0),(0,0)],cob:=[13,1000002] }
def Ayk:Hints:={ H:=(hS hL (hS hL (hS (hS hL (hS (hP [0,1,5] hL) hL)) hL))) }
def Arm:Hints:={ H:=hL }
def Auj:Hints:={ H:=hL,nils:=[(2,1)],modes:=[(2,1)] }
def zW:Hints:={ H:=hL }
def Aos:Hints:={ H:=hL,free:=[100001,100002,100003,100004,100005,100006,100007,100008,100009,100010,100011,100012,100013,100014,100015,100016,100017] }
def zX:Hints:={ H:=hL }
def Auk:Hints:={ H:=hL }
def Aot:Hints:={ H:=(hS hL (hS hL (hS hL (hS (hS hL (hS (hP [0,1,5,6,14] hL) hL)) (hS hL (hS hL (hS (hS hL (hS (hP [0,9,47,48,49] hL) hL)) hL))))))),nils:=[(4,1)],modes:=[(2,1)] }
def Aou:Hints:={ H:=hL }
def zY:Hints:={ H:=hL }
def Avy:Hints:={ H:=hL }
def Avz:Hints:={ H:=hL }
def Arn:Hints:={ H:=hL }
def Aul:Hints:={ H:=(hS hL (hS hL (hS (hS hL (hS (hP [1,5,10,11] hL) hL)) hL))),nils:=[(4,1),(5,1)],modes:=[(2,1)] }
def Aro:Hints:={ H:=hL }
def Av0:Hints:={ H:=hL,free:=[100001,100002,100003,100004,100005,100006,100007,100008,100009,100010,100011,100012,100013,100014,100015,100016,100017],cob:=[2] }
def Av1:Hints:={ H:=hL,free:=[100001,100002,100003,100004,100005,100006,100007,100008,100009,100010,100011,100012,100013,100014,100015,100016,100017],cob:=[2] }
def Arp:Hints:={ H:=hL }
def Av2:Hints:={ H:=(hS hL (hS hL (hS (hS hL (hS (hP [0,28,29] hL) hL)) hL))) }
def Av3:Hints:={ H:=hL }
def Aov:Hints:={ H:=hL }
def As9:Hints:={ H:=hL,cob:=[4000020] }
def xC:Hints:={ H:=hL }
def Ata:Hints:={ H:=hL,free:=[100001,100002,100003,100004,100005,100006,100007,100008,100009,100010,100011,100012,100013,100014,100015,100016,100017] }
def Av4:Hints:={ H:=hL }
def Av5:Hints:={ H:=hL }
def Av6:Hints:={ H:=hL,modes:=[(3,0)] }
def Av7:Hints:={ H:=(hS hL (hS hL (hS (hS (hP [0,1,5] hL) hL) hL))),nils:=[(4,1),(5,1)],modes:=[(2,1)] }
def Av8:Hints:={ H:=hL }
def Atb:Hints:={ H:=(hS hL (hS (hS hL (hS (hP [0,1,7,8] hL) hL)) hL)) }
def Atc:Hints:={ H:=hL,modes:=[(3,0),(0,0)] }
def d7:Hints:={ H:=(hS hL (hS hL (hS hL (hS hL (hS hL (hS hL (hS (hS hL (hS (hP [1,5,35,36,37] hL) hL)) hL))))))) }
def Ac6:Hints:={ H:=hL,modes:=[(3,0),(3,0),(0,0)] }
def Atd:Hints:={ H:=hL }
def Ac7:Hints:={ H:=hL }
def Ac8:Hints:={ H:=(hS hL (hS hL (hS (hS hL (hS (hP [3,7] hL) hL)) hL))) }
def WR:Hints:={ H:=(hS hL (hS hL (hS hL (hS hL (hS (hS (hP [0,2,3,4,5] hL) hL) hL))))),modes:=[(3,0)] }
def sc:Hints:={ H:=hL,modes:=[(3,0)] }
def ii:Hints:={ H:=hL }
def Ac9:Hints:={ H:=hL,modes:=[(3,0)],cob:=[1] }
def d8:Hints:={ H:=hL,modes:=[(3,0)] }
def Ada:Hints:={ H:=(hS hL (hS hL (hS (hS (hP [0,3] hL) hL) (hS (hS (hP [0,3] hL) hL) hL)))) }
def oA:Hints:={ H:=hL,modes:=[(3,0),(0,0)] }
def Aja:Hints:={ H:=(hS hL (hS hL (hS hL (hS hL (hS (hS hL (hS (hP [2,3,7,8,26,27,28] hL) hL)) hL))))),modes:=[(3,0),(3,0),(0,0)] }
def Ajb:Hints:={ H:=hL,modes:=[(3,0)] }
def WS:Hints:={ H:=hL }
def Adb:Hints:={ H:=hL }
def CL:Hints:={ H:=hL }
def sd:Hints:={ H:=(hS hL (hS hL (hS (hS (hP [1,2,4,5] hL) hL) hL))) }
def xD:Hints:={ H:=hL }
def xE:Hints:={ H:=hL }
def se:Hints:={ H:=hL }
def Adc:Hints:={ H:=hL }
def ij:Hints:={ H:=hL }
def Ade:Hints:={ H:=hL }
def Wy:Hints:={ H:=hL }
def Ajc:Hints:={ H:=hL }
def ik:Hints:={ H:=hL,nils:=[(3,1)],modes:=[(3,0),(1,1)] }
def JG:Hints:={ H:=(hS hL (hS hL (hS hL (hS hL (hS (hS (hP [0,1,4,5,6,7] hL) hL) hL))))),modes:=[(3,0)] }
def Aow:Hints:={ H:=hL }
def Adf:Hints:={ H:=hL,modes:=[(3,0),(0,0)],cob:=[2,3] }
def Ate:Hints:={ H:=(hS hL (hS hL (hS hL (hS (hS hL (hS (hP [0,4,5,6,7,8] hL) hL)) hL)))),nils:=[(2,2),(4,2)],modes:=[(2,2),(0,0)] }
def Atf:Hints:={ H:=hL,modes:=[(3,0),(3,0),(0,0)] }
def Atg:Hints:={ H:=hL,modes:=[(3,0)] }
def Ajd:Hints:={ H:=hL,modes:=[(3,0)] }
def sf:Hints:={ H:=(hS hL (hS hL (hS hL (hS hL (hS (hS hL (hS (hP [1,5,29,30,31] (hS hL (hS hL (hS (hS (hS hL (hS hL (hS hL (hS (hS hL (hS (hP [1,5,6,7,8,29,30,31,38,39,40] hL) hL)) hL)))) hL) hL)))) hL)) hL))))),nils:=[(4,1)],modes:=[(2,1)] }
def WT:Hints:={ H:=hL }
def Adg:Hints:={ H:=(hS hL (hS (hS hL (hS (hP [0,6] hL) hL)) hL)) }
def CM:Hints:={ H:=hL }
def Sw:Hints:={ H:=hL,nils:=[(2,1)],modes:=[(2,1)] }
def xF:Hints:={ H:=(hS hL (hS hL (hS hL (hS hL (hS hL (hS (hS hL (hS (hP [0,1,5,6,24,25,26] hL) hL)) hL)))))),nils:=[(4,1)],modes:=[(2,1)] }
def Adh:Hints:={ H:=hL,nils:=[(2,1)],modes:=[(2,1)] }
def JH:Hints:={ H:=hL }
def Adi:Hints:={ H:=hL }
def Wz:Hints:={ H:=hL }
def Aje:Hints:={ H:=hL }
def JI:Hints:={ H:=(hS hL (hS hL (hS hL (hS (hS hL (hS (hP [0,1,5] hL) hL)) hL)))) }
def Av9:Hints:={ H:=hL }
def Od:Hints:={ H:=(hS hL (hS hL (hS (hS (hP [0,3] hL) hL) hL))),nils:=[(2,1)],modes:=[(2,1)] }
def WU:Hints:={ H:=hL }
def W0:Hints:={ H:=(hS hL (hS hL (hS (hS hL (hS (hP [3,6,7,8] hL) hL)) hL))) }
def A0a:Pt:=⟨21,[.str [99,97,115,101,32,50,32,114,101,115,101,114,118,101,32,48,32,48,10,98,117,115,32,97,32,100,101,109,97,110,100,32,49,48,77,87,32,48,46,48,50,71,87,32,115,104,101,100,32,48,10],.str [10]],[],.tup [.str [99,97,115,101,32,50,32,114,101,115,101,114,118,101,32,48,32,48],.str [98,117,115,32,97,32,100,101,109,97,110,100,32,49,48,77,87,32,48,46,48,50,71,87,32,115,104,101,100,32,48,10],.bool true],[]⟩
theorem A0u:Ej Tryz.prog A0a:=WQ (by kernel_rfl) (by kernel_rfl)
def A0b:Pt:=⟨105,[.str [99,97,115,101,32,50,32,114,101,115,101,114,118,101,32,48,32,48],.int .u8 35],[],iv (-1),[]⟩
theorem A0v:Ej Tryz.prog A0b:=NJ (by kernel_rfl) (by kernel_rfl)
def Aum:Pt:=⟨165,[.pagg [.bool false,.imm [.int .u32 10] 1 1 false true] true,iv 9],[],.agg [.bool false,.own 300000 0 1],[(300000,⟨false,false,true,false,1,[.int .u32 1000000000,.int .u32 0],false,none⟩)]⟩
theorem Avk:Ej Tryz.prog Aum:=Hj follows (muts:=muts) (N:=1000000) (l:=[]) trivial (fs:=[(164,CL),(165,sd),(168,se),(185,sf),(196,CM),(197,Sw),(212,Od)]) 5 (by kernel_rfl)
def A0c:Pt:=⟨166,[.str [50]],[],.tup [iv 2,.undef],[]⟩
theorem A0w:Ej Tryz.prog A0c:=aA (by kernel_rfl) (by kernel_rfl)
def A0d:Pt:=⟨149,[.str [50]],[],.pagg [.bool false,.imm [.int .u32 2] 1 1 false false] false,[]⟩
theorem A0x:Ej Tryz.prog A0d:=Hj follows (muts:=muts) (N:=1000000) (l:=[Aum,A0c]) ⟨Avk,A0w,trivial⟩ (fs:=[(149,WR),(162,WS),(164,CL),(165,sd),(166,xD),(167,xE),(168,se),(185,sf),(194,WT),(196,CM),(197,Sw),(200,xF),(212,Od),(219,WU)]) 5 (by kernel_rfl)
def A0e:Pt:=⟨151,[.pagg [.bool false,.imm [.int .u32 2] 1 1 false false,.imm [.int .u32 1] 1 1 false false] false,.pagg [.bool false,.imm [.int .u32 1073741824] 1 1 false false,.imm [.int .u32 1] 1 1 false false] false],[],iv (-1),[]⟩
theorem A0y:Ej Tryz.prog A0e:=Hj follows (muts:=muts) (N:=1000000) (l:=[]) trivial (fs:=[(151,ii),(170,ij),(172,Wy),(173,Ajc),(174,ik),(203,JH),(205,Wz),(206,Aje),(207,JI),(212,Od),(225,W0)]) 6 (by kernel_rfl)
def A0f:Pt:=⟨137,[.pagg [.bool false,.imm [.int .u32 2] 1 1 false false,.imm [.int .u32 1] 1 1 false false] false],[],.tup [iv 2,.bool true],[]⟩
theorem A0z:Ej Tryz.prog A0f:=Hj follows (muts:=muts) (N:=1000000) (l:=[A0e]) ⟨A0y,trivial⟩ (fs:=[(137,d7),(150,sc),(151,ii),(152,Ac9),(153,d8),(164,CL),(169,Adc),(170,ij),(171,Ade),(172,Wy),(174,ik),(176,JG),(196,CM),(197,Sw),(202,Adh),(203,JH),(204,Adi),(205,Wz),(207,JI),(212,Od),(225,W0)]) 7 (by kernel_rfl)
def A0g:Pt:=⟨166,[.str [48]],[],.tup [iv 0,.undef],[]⟩
theorem A00:Ej Tryz.prog A0g:=aA (by kernel_rfl) (by kernel_rfl)
def A0h:Pt:=⟨149,[.str [48]],[],.pagg [.bool false,.imm [] 0 1 false false] false,[]⟩
theorem A01:Ej Tryz.prog A0h:=Hj follows (muts:=muts) (N:=1000000) (l:=[Aum,A0g]) ⟨Avk,A00,trivial⟩ (fs:=[(149,WR),(162,WS),(164,CL),(165,sd),(166,xD),(167,xE),(168,se),(185,sf),(194,WT),(196,CM),(197,Sw),(200,xF),(212,Od),(219,WU)]) 5 (by kernel_rfl)
def A0i:Pt:=⟨166,[.str [49]],[],.tup [iv 1,.undef],[]⟩
theorem A02:Ej Tryz.prog A0i:=aA (by kernel_rfl) (by kernel_rfl)
def Arq:Pt:=⟨149,[.str [49]],[],.pagg [.bool false,.imm [.int .u32 1] 1 1 false false] false,[]⟩
theorem Aun:Ej Tryz.prog Arq:=Hj follows (muts:=muts) (N:=1000000) (l:=[Aum,A0i]) ⟨Avk,A02,trivial⟩ (fs:=[(149,WR),(162,WS),(164,CL),(165,sd),(166,xD),(167,xE),(168,se),(185,sf),(194,WT),(196,CM),(197,Sw),(200,xF),(212,Od),(219,WU)]) 5 (by kernel_rfl)
def Arr:Pt:=⟨155,[.str [48]],[],.tup [.pagg [.bool false,.imm [] 0 1 false false,.imm [.int .u32 1] 1 1 false false] false,iv 0],[]⟩
theorem Auo:Ej Tryz.prog Arr:=Hj follows (muts:=muts) (N:=1000000) (l:=[A0h,Arq]) ⟨A01,Aun,trivial⟩ (fs:=[(147,Ac7),(148,Ac8),(149,WR),(153,d8),(155,oA),(162,WS),(163,Adb),(172,Wy),(176,JG),(178,Aow),(179,Adf),(194,WT),(195,Adg),(197,Sw),(203,JH),(205,Wz),(207,JI),(212,Od),(219,WU),(225,W0)]) 7 (by kernel_rfl)
def Ars:Pt:=⟨137,[.pagg [.bool false,.imm [] 0 1 false false,.imm [.int .u32 1] 1 1 false false] false],[],.tup [iv 0,.bool true],[]⟩
theorem Aup:Ej Tryz.prog Ars:=Hj follows (muts:=muts) (N:=1000000) (l:=[]) trivial (fs:=[(137,d7),(150,sc),(151,ii),(152,Ac9),(153,d8),(164,CL),(169,Adc),(170,ij),(171,Ade),(172,Wy),(174,ik),(176,JG),(196,CM),(197,Sw),(202,Adh),(203,JH),(204,Adi),(205,Wz),(207,JI),(212,Od),(225,W0)]) 7 (by kernel_rfl)
def Awa:Pt:=⟨24,[.optr 100000 0],[(100000,⟨false,false,false,false,0,[.own 100001 0 5,iv 0,iv 0,iv 0,.own 100002 0 0,.own 100003 0 0,.own 100004 0 0,.own 100005 0 0,.own 100006 0 0,.own 100007 0 0,.own 100008 0 0,.bool false,.own 100009 0 0,.own 100010 0 0,.own 100011 0 0,.own 100012 0 0,.own 100013 0 0,.own 100014 0 0,.own 100015 0 0],false,none⟩),(100001,⟨false,false,true,false,1,[.str [99,97,115,101],.str [50],.str [114,101,115,101,114,118,101],.str [48],.str [48]],false,none⟩),(100002,⟨false,false,true,false,1,[],false,none⟩),(100003,⟨false,false,true,false,3,[],false,none⟩),(100004,⟨false,false,true,false,12,[],false,none⟩),(100005,⟨false,false,true,false,22,[],false,none⟩),(100006,⟨false,false,true,false,9,[],false,none⟩),(100007,⟨false,false,true,false,5,[],false,none⟩),(100008,⟨false,false,true,false,4,[],false,none⟩),(100009,⟨false,false,true,false,1,[],false,none⟩),(100010,⟨false,false,true,false,1,[],false,none⟩),(100011,⟨false,false,true,false,1,[],false,none⟩),(100012,⟨false,false,true,false,1,[],false,none⟩),(100013,⟨false,false,true,false,1,[],false,none⟩),(100014,⟨false,false,true,false,1,[],false,none⟩),(100015,⟨false,false,true,false,1,[],false,none⟩)],.tup [],[(100000,⟨false,false,false,false,0,[.own 300000 0 5,iv 5,iv 0,iv 2,.own 300015 0 2,.own 300002 0 0,.own 300003 0 0,.own 300004 0 0,.own 300005 0 0,.own 300006 0 0,.own 300007 0 0,.bool true,.own 300008 0 0,.own 300009 0 0,.own 300010 0 0,.own 300011 0 0,.own 300012 0 0,.own 300013 0 0,.own 300014 0 0],false,none⟩),(300000,⟨false,false,true,false,1,[.str [99,97,115,101],.str [50],.str [114,101,115,101,114,118,101],.str [48],.str [48]],false,none⟩),(300001,⟨false,false,true,false,1,[],false,none⟩),(300002,⟨false,false,true,false,3,[],false,none⟩),(300003,⟨false,false,true,false,12,[],false,none⟩),(300004,⟨false,false,true,false,22,[],false,none⟩),(300005,⟨false,false,true,false,9,[],false,none⟩),(300006,⟨false,false,true,false,5,[],false,none⟩),(300007,⟨false,false,true,false,4,[],false,none⟩),(300008,⟨false,false,true,false,1,[],false,none⟩),(300009,⟨false,false,true,false,1,[],false,none⟩),(300010,⟨false,false,true,false,1,[],false,none⟩),(300011,⟨false,false,true,false,1,[],false,none⟩),(300012,⟨false,false,true,false,1,[],false,none⟩),(300013,⟨false,false,true,false,1,[],false,none⟩),(300014,⟨false,false,true,false,1,[],false,none⟩),(300015,⟨false,false,true,false,1,[iv 0,iv 0],false,none⟩)]⟩
theorem Ayl:Ej Tryz.prog Awa:=Hj follows (muts:=muts) (N:=1000000) (l:=[A0d,A0f,Arr,Ars]) ⟨A0x,A0z,Auo,Aup,trivial⟩ (fs:=[(23,zW),(24,Aos),(25,zX),(56,zY),(58,Avz),(59,Arn),(60,Aul),(61,Aro),(68,Arp),(106,As9),(107,xC),(136,Atc),(137,d7),(138,Ac6),(147,Ac7),(148,Ac8),(149,WR),(154,Ada),(155,oA),(162,WS),(163,Adb),(194,WT),(195,Adg),(219,WU)]) 9 (by kernel_rfl)
def Awb:Pt:=⟨21,[.str [98,117,115,32,97,32,100,101,109,97,110,100,32,49,48,77,87,32,48,46,48,50,71,87,32,115,104,101,100,32,48,10],.str [10]],[],.tup [.str [98,117,115,32,97,32,100,101,109,97,110,100,32,49,48,77,87,32,48,46,48,50,71,87,32,115,104,101,100,32,48],.str [],.bool true],[]⟩
theorem Aym:Ej Tryz.prog Awb:=WQ (by kernel_rfl) (by kernel_rfl)
def Awc:Pt:=⟨105,[.str [98,117,115,32,97,32,100,101,109,97,110,100,32,49,48,77,87,32,48,46,48,50,71,87,32,115,104,101,100,32,48],.int .u8 35],[],iv (-1),[]⟩
theorem Ayn:Ej Tryz.prog Awc:=NJ (by kernel_rfl) (by kernel_rfl)
def Awd:Pt:=⟨54,[.str [98,117,115,32,97,32,100,101,109,97,110,100,32,49,48,77,87,32,48,46,48,50,71,87,32,115,104,101,100,32,48],.fn 55 []],[],.own 300000 0 7,[(300000,⟨false,false,true,false,1,[.str [98,117,115],.str [97],.str [100,101,109,97,110,100],.str [49,48,77,87],.str [48,46,48,50,71,87],.str [115,104,101,100],.str [48]],false,none⟩)]⟩
theorem Ayo:Ej Tryz.prog Awd:=Hj follows (muts:=muts) (N:=1000000) (l:=[]) trivial (fs:=[(54,Aot),(55,Aou)]) 3 (by kernel_rfl)
def Awe:Pt:=⟨166,[.str [49,48]],[],.tup [iv 10,.undef],[]⟩
theorem Ayp:Ej Tryz.prog Awe:=aA (by kernel_rfl) (by kernel_rfl)
def Awf:Pt:=⟨149,[.str [49,48]],[],.pagg [.bool false,.imm [.int .u32 10] 1 1 false false] false,[]⟩
theorem Ayq:Ej Tryz.prog Awf:=Hj follows (muts:=muts) (N:=1000000) (l:=[Aum,Awe]) ⟨Avk,Ayp,trivial⟩ (fs:=[(149,WR),(162,WS),(164,CL),(165,sd),(166,xD),(167,xE),(168,se),(185,sf),(194,WT),(196,CM),(197,Sw),(200,xF),(212,Od),(219,WU)]) 5 (by kernel_rfl)
def Awg:Pt:=⟨155,[.str [49,48]],[],.tup [.pagg [.bool false,.imm [.int .u32 10] 1 1 false false,.imm [.int .u32 1] 1 1 false false] false,iv 0],[]⟩
theorem Ayr:Ej Tryz.prog Awg:=Hj follows (muts:=muts) (N:=1000000) (l:=[Arq,Awf]) ⟨Aun,Ayq,trivial⟩ (fs:=[(147,Ac7),(148,Ac8),(149,WR),(153,d8),(155,oA),(162,WS),(163,Adb),(172,Wy),(176,JG),(178,Aow),(179,Adf),(194,WT),(195,Adg),(197,Sw),(203,JH),(205,Wz),(207,JI),(212,Od),(219,WU),(225,W0)]) 7 (by kernel_rfl)
def Awh:Pt:=⟨184,[.pagg [iv 1,iv 1] false],[],.pagg [.bool false,.imm [.int .u32 1] 1 1 false false,.imm [.int .u32 1] 1 1 false false] false,[]⟩
theorem Ays:Ej Tryz.prog Awh:=Hj follows (muts:=muts) (N:=1000000) (l:=[]) trivial (fs:=[(153,d8),(164,CL),(172,Wy),(176,JG),(179,Adf),(184,Ajd),(196,CM),(197,Sw),(203,JH),(205,Wz),(207,JI),(212,Od),(225,W0)]) 7 (by kernel_rfl)
def Awi:Pt:=⟨156,[.str [77,87]],[],.tup [.pagg [.bool false,.imm [.int .u32 1] 1 1 false false,.imm [.int .u32 1] 1 1 false false] false,.pagg [iv 1,iv 0,iv 0,iv 0] false,iv 0],[]⟩
theorem Ayt:Ej Tryz.prog Awi:=Hj follows (muts:=muts) (N:=1000000) (l:=[Awh]) ⟨Ays,trivial⟩ (fs:=[(150,sc),(156,Aja),(157,Ajb),(164,CL),(172,Wy),(176,JG),(180,Ate),(181,Atf),(183,Atg),(184,Ajd),(196,CM),(197,Sw),(205,Wz),(212,Od),(225,W0)]) 6 (by kernel_rfl)
def Awj:Pt:=⟨151,[.pagg [.bool false,.imm [.int .u32 10] 1 1 false false,.imm [.int .u32 1] 1 1 false false] false,.pagg [.bool false,.imm [.int .u32 1073741824] 1 1 false false,.imm [.int .u32 1] 1 1 false false] false],[],iv (-1),[]⟩
theorem Ayu:Ej Tryz.prog Awj:=Hj follows (muts:=muts) (N:=1000000) (l:=[]) trivial (fs:=[(151,ii),(170,ij),(172,Wy),(173,Ajc),(174,ik),(203,JH),(205,Wz),(206,Aje),(207,JI),(212,Od),(225,W0)]) 6 (by kernel_rfl)
def Awk:Pt:=⟨137,[.pagg [.bool false,.imm [.int .u32 10] 1 1 false false,.imm [.int .u32 1] 1 1 false false] false],[],.tup [iv 10,.bool true],[]⟩
theorem Ayv:Ej Tryz.prog Awk:=Hj follows (muts:=muts) (N:=1000000) (l:=[Awj]) ⟨Ayu,trivial⟩ (fs:=[(137,d7),(150,sc),(151,ii),(152,Ac9),(153,d8),(164,CL),(169,Adc),(170,ij),(171,Ade),(172,Wy),(174,ik),(176,JG),(196,CM),(197,Sw),(202,Adh),(203,JH),(204,Adi),(205,Wz),(207,JI),(212,Od),(225,W0)]) 7 (by kernel_rfl)
def Awl:Pt:=⟨107,[.optr 100000 0,.pagg [iv 1,iv 0,iv 0,iv 0] false],[(100000,⟨false,false,false,false,0,[.own 100001 0 7,iv 3,iv 0,iv 2,.own 100002 0 2,.own 100003 0 0,.own 100004 0 0,.own 100005 0 0,.own 100006 0 0,.own 100007 0 0,.own 100008 0 0,.bool true,.own 100009 0 0,.own 100010 0 1,.own 100011 0 0,.own 100012 0 0,.own 100013 0 0,.own 100014 0 0,.own 100015 0 0],false,none⟩),(100001,⟨false,false,true,false,1,[.str [98,117,115],.str [97],.str [100,101,109,97,110,100],.str [49,48,77,87],.str [48,46,48,50,71,87],.str [115,104,101,100],.str [48]],false,none⟩),(100002,⟨false,false,true,false,1,[iv 0,iv 0],false,none⟩),(100003,⟨false,false,true,false,3,[],false,none⟩),(100004,⟨false,false,true,false,12,[],false,none⟩),(100005,⟨false,false,true,false,22,[],false,none⟩),(100006,⟨false,false,true,false,9,[],false,none⟩),(100007,⟨false,false,true,false,5,[],false,none⟩),(100008,⟨false,false,true,false,4,[],false,none⟩),(100009,⟨false,false,true,false,1,[],false,none⟩),(100010,⟨false,false,true,false,1,[.str [97]],false,none⟩),(100011,⟨false,false,true,false,1,[],false,none⟩),(100012,⟨false,false,true,false,1,[],false,none⟩),(100013,⟨false,false,true,false,1,[],false,none⟩),(100014,⟨false,false,true,false,1,[],false,none⟩),(100015,⟨false,false,true,false,1,[],false,none⟩)],iv 10,[(100000,⟨false,false,false,false,0,[.own 100001 0 7,iv 4,iv 0,iv 2,.own 100002 0 2,.own 100003 0 0,.own 100004 0 0,.own 100005 0 0,.own 100006 0 0,.own 100007 0 0,.own 100008 0 0,.bool true,.own 100009 0 0,.own 100010 0 1,.own 100011 0 0,.own 100012 0 0,.own 100013 0 0,.own 100014 0 0,.own 100015 0 0],false,none⟩),(100001,⟨false,false,true,false,1,[.str [98,117,115],.str [97],.str [100,101,109,97,110,100],.str [49,48,77,87],.str [48,46,48,50,71,87],.str [115,104,101,100],.str [48]],false,none⟩),(100002,⟨false,false,true,false,1,[iv 0,iv 0],false,none⟩),(100003,⟨false,false,true,false,3,[],false,none⟩),(100004,⟨false,false,true,false,12,[],false,none⟩),(100005,⟨false,false,true,false,22,[],false,none⟩),(100006,⟨false,false,true,false,9,[],false,none⟩),(100007,⟨false,false,true,false,5,[],false,none⟩),(100008,⟨false,false,true,false,4,[],false,none⟩),(100009,⟨false,false,true,false,1,[],false,none⟩),(100010,⟨false,false,true,false,1,[.str [97]],false,none⟩),(100011,⟨false,false,true,false,1,[],false,none⟩),(100012,⟨false,false,true,false,1,[],false,none⟩),(100013,⟨false,false,true,false,1,[],false,none⟩),(100014,⟨false,false,true,false,1,[],false,none⟩),(100015,⟨false,false,true,false,1,[],false,none⟩)]⟩
theorem Ayw:Ej Tryz.prog Awl:=Hj follows (muts:=muts) (N:=1000000) (l:=[Awg,Awi,Awk]) ⟨Ayr,Ayt,Ayv,trivial⟩ (fs:=[(23,zW),(25,zX),(56,zY),(107,xC),(137,d7),(138,Ac6),(154,Ada),(155,oA),(156,Aja),(157,Ajb),(172,Wy),(176,JG),(197,Sw),(205,Wz),(212,Od),(225,W0)]) 7 (by kernel_rfl)
def Awm:Pt:=⟨21,[.str [48,46,48,50],.str [47]],[],.tup [.str [48,46,48,50],.str [],.bool false],[]⟩
theorem Ayx:Ej Tryz.prog Awm:=WQ (by kernel_rfl) (by kernel_rfl)
def Awn:Pt:=⟨21,[.str [48,46,48,50],.str [46]],[],.tup [.str [48],.str [48,50],.bool true],[]⟩
theorem Ayy:Ej Tryz.prog Awn:=WQ (by kernel_rfl) (by kernel_rfl)
def Awo:Pt:=⟨211,[.str [48],iv 2],[],.str [48,48],[]⟩
theorem Ayz:Ej Tryz.prog Awo:=All (by kernel_rfl) (by kernel_rfl)
def Awp:Pt:=⟨166,[.str [48,48,50]],[],.tup [iv 2,.undef],[]⟩
theorem Ay0:Ej Tryz.prog Awp:=aA (by kernel_rfl) (by kernel_rfl)
def Awq:Pt:=⟨149,[.str [48,48,50]],[],.pagg [.bool false,.imm [.int .u32 2] 1 1 false false] false,[]⟩
theorem Ay1:Ej Tryz.prog Awq:=Hj follows (muts:=muts) (N:=1000000) (l:=[Aum,Awp]) ⟨Avk,Ay0,trivial⟩ (fs:=[(149,WR),(162,WS),(164,CL),(165,sd),(166,xD),(167,xE),(168,se),(185,sf),(194,WT),(196,CM),(197,Sw),(200,xF),(212,Od),(219,WU)]) 5 (by kernel_rfl)
def Awr:Pt:=⟨166,[.str [49,48,48]],[],.tup [iv 100,.undef],[]⟩
theorem Ay2:Ej Tryz.prog Awr:=aA (by kernel_rfl) (by kernel_rfl)
def Aws:Pt:=⟨149,[.str [49,48,48]],[],.pagg [.bool false,.imm [.int .u32 100] 1 1 false false] false,[]⟩
theorem Ay3:Ej Tryz.prog Aws:=Hj follows (muts:=muts) (N:=1000000) (l:=[Aum,Awr]) ⟨Avk,Ay2,trivial⟩ (fs:=[(149,WR),(162,WS),(164,CL),(165,sd),(166,xD),(167,xE),(168,se),(185,sf),(194,WT),(196,CM),(197,Sw),(200,xF),(212,Od),(219,WU)]) 5 (by kernel_rfl)
def Awt:Pt:=⟨155,[.str [48,46,48,50]],[],.tup [.pagg [.bool false,.imm [.int .u32 1] 1 1 false false,.imm [.int .u32 50] 1 1 false false] false,iv 0],[]⟩
theorem Ay4:Ej Tryz.prog Awt:=Hj follows (muts:=muts) (N:=1000000) (l:=[Awm,Awn,Awo,Awq,Aws]) ⟨Ayx,Ayy,Ayz,Ay1,Ay3,trivial⟩ (fs:=[(21,Arm),(147,Ac7),(148,Ac8),(149,WR),(153,d8),(155,oA),(162,WS),(163,Adb),(172,Wy),(176,JG),(178,Aow),(179,Adf),(194,WT),(195,Adg),(197,Sw),(203,JH),(205,Wz),(207,JI),(211,Av9),(212,Od),(219,WU),(225,W0)]) 7 (by kernel_rfl)
def Awu:Pt:=⟨184,[.pagg [iv 1000,iv 1] false],[],.pagg [.bool false,.imm [.int .u32 1000] 1 1 false false,.imm [.int .u32 1] 1 1 false false] false,[]⟩
theorem Ay5:Ej Tryz.prog Awu:=Hj follows (muts:=muts) (N:=1000000) (l:=[]) trivial (fs:=[(153,d8),(164,CL),(172,Wy),(176,JG),(179,Adf),(184,Ajd),(196,CM),(197,Sw),(203,JH),(205,Wz),(207,JI),(212,Od),(225,W0)]) 7 (by kernel_rfl)
def Awv:Pt:=⟨156,[.str [71,87]],[],.tup [.pagg [.bool false,.imm [.int .u32 1000] 1 1 false false,.imm [.int .u32 1] 1 1 false false] false,.pagg [iv 1,iv 0,iv 0,iv 0] false,iv 0],[]⟩
theorem Ay6:Ej Tryz.prog Awv:=Hj follows (muts:=muts) (N:=1000000) (l:=[Awu]) ⟨Ay5,trivial⟩ (fs:=[(150,sc),(156,Aja),(157,Ajb),(164,CL),(172,Wy),(176,JG),(180,Ate),(181,Atf),(183,Atg),(184,Ajd),(196,CM),(197,Sw),(205,Wz),(212,Od),(225,W0)]) 6 (by kernel_rfl)
def Aww:Pt:=⟨151,[.pagg [.bool false,.imm [.int .u32 20] 1 1 false false,.imm [.int .u32 1] 1 1 false false] false,.pagg [.bool false,.imm [.int .u32 1073741824] 1 1 false false,.imm [.int .u32 1] 1 1 false false] false],[],iv (-1),[]⟩
theorem Ay7:Ej Tryz.prog Aww:=Hj follows (muts:=muts) (N:=1000000) (l:=[]) trivial (fs:=[(151,ii),(170,ij),(172,Wy),(173,Ajc),(174,ik),(203,JH),(205,Wz),(206,Aje),(207,JI),(212,Od),(225,W0)]) 6 (by kernel_rfl)
def Awx:Pt:=⟨137,[.pagg [.bool false,.imm [.int .u32 20] 1 1 false false,.imm [.int .u32 1] 1 1 false false] false],[],.tup [iv 20,.bool true],[]⟩
theorem Ay8:Ej Tryz.prog Awx:=Hj follows (muts:=muts) (N:=1000000) (l:=[Aww]) ⟨Ay7,trivial⟩ (fs:=[(137,d7),(150,sc),(151,ii),(152,Ac9),(153,d8),(164,CL),(169,Adc),(170,ij),(171,Ade),(172,Wy),(174,ik),(176,JG),(196,CM),(197,Sw),(202,Adh),(203,JH),(204,Adi),(205,Wz),(207,JI),(212,Od),(225,W0)]) 7 (by kernel_rfl)
def Awy:Pt:=⟨107,[.optr 100000 0,.pagg [iv 1,iv 0,iv 0,iv 0] false],[(100000,⟨false,false,false,false,0,[.own 100001 0 7,iv 4,iv 0,iv 2,.own 100002 0 2,.own 100003 0 0,.own 100004 0 0,.own 100005 0 0,.own 100006 0 0,.own 100007 0 0,.own 100008 0 0,.bool true,.own 100009 0 0,.own 100010 0 1,.own 100011 0 0,.own 100012 0 0,.own 100013 0 0,.own 100014 0 0,.own 100015 0 0],false,none⟩),(100001,⟨false,false,true,false,1,[.str [98,117,115],.str [97],.str [100,101,109,97,110,100],.str [49,48,77,87],.str [48,46,48,50,71,87],.str [115,104,101,100],.str [48]],false,none⟩),(100002,⟨false,false,true,false,1,[iv 0,iv 0],false,none⟩),(100003,⟨false,false,true,false,3,[],false,none⟩),(100004,⟨false,false,true,false,12,[],false,none⟩),(100005,⟨false,false,true,false,22,[],false,none⟩),(100006,⟨false,false,true,false,9,[],false,none⟩),(100007,⟨false,false,true,false,5,[],false,none⟩),(100008,⟨false,false,true,false,4,[],false,none⟩),(100009,⟨false,false,true,false,1,[],false,none⟩),(100010,⟨false,false,true,false,1,[.str [97]],false,none⟩),(100011,⟨false,false,true,false,1,[],false,none⟩),(100012,⟨false,false,true,false,1,[],false,none⟩),(100013,⟨false,false,true,false,1,[],false,none⟩),(100014,⟨false,false,true,false,1,[],false,none⟩),(100015,⟨false,false,true,false,1,[],false,none⟩)],iv 20,[(100000,⟨false,false,false,false,0,[.own 100001 0 7,iv 5,iv 0,iv 2,.own 100002 0 2,.own 100003 0 0,.own 100004 0 0,.own 100005 0 0,.own 100006 0 0,.own 100007 0 0,.own 100008 0 0,.bool true,.own 100009 0 0,.own 100010 0 1,.own 100011 0 0,.own 100012 0 0,.own 100013 0 0,.own 100014 0 0,.own 100015 0 0],false,none⟩),(100001,⟨false,false,true,false,1,[.str [98,117,115],.str [97],.str [100,101,109,97,110,100],.str [49,48,77,87],.str [48,46,48,50,71,87],.str [115,104,101,100],.str [48]],false,none⟩),(100002,⟨false,false,true,false,1,[iv 0,iv 0],false,none⟩),(100003,⟨false,false,true,false,3,[],false,none⟩),(100004,⟨false,false,true,false,12,[],false,none⟩),(100005,⟨false,false,true,false,22,[],false,none⟩),(100006,⟨false,false,true,false,9,[],false,none⟩),(100007,⟨false,false,true,false,5,[],false,none⟩),(100008,⟨false,false,true,false,4,[],false,none⟩),(100009,⟨false,false,true,false,1,[],false,none⟩),(100010,⟨false,false,true,false,1,[.str [97]],false,none⟩),(100011,⟨false,false,true,false,1,[],false,none⟩),(100012,⟨false,false,true,false,1,[],false,none⟩),(100013,⟨false,false,true,false,1,[],false,none⟩),(100014,⟨false,false,true,false,1,[],false,none⟩),(100015,⟨false,false,true,false,1,[],false,none⟩)]⟩
theorem Ay9:Ej Tryz.prog Awy:=Hj follows (muts:=muts) (N:=1000000) (l:=[Awt,Awv,Awx]) ⟨Ay4,Ay6,Ay8,trivial⟩ (fs:=[(23,zW),(25,zX),(56,zY),(107,xC),(137,d7),(138,Ac6),(154,Ada),(155,oA),(156,Aja),(157,Ajb),(172,Wy),(176,JG),(197,Sw),(205,Wz),(212,Od),(225,W0)]) 7 (by kernel_rfl)
def Awz:Pt:=⟨62,[.optr 100000 0],[(100000,⟨false,false,false,false,0,[.own 100001 0 7,iv 1,iv 0,iv 2,.own 100002 0 2,.own 100003 0 0,.own 100004 0 0,.own 100005 0 0,.own 100006 0 0,.own 100007 0 0,.own 100008 0 0,.bool true,.own 100009 0 0,.own 100010 0 0,.own 100011 0 0,.own 100012 0 0,.own 100013 0 0,.own 100014 0 0,.own 100015 0 0],false,none⟩),(100001,⟨false,false,true,false,1,[.str [98,117,115],.str [97],.str [100,101,109,97,110,100],.str [49,48,77,87],.str [48,46,48,50,71,87],.str [115,104,101,100],.str [48]],false,none⟩),(100002,⟨false,false,true,false,1,[iv 0,iv 0],false,none⟩),(100003,⟨false,false,true,false,3,[],false,none⟩),(100004,⟨false,false,true,false,12,[],false,none⟩),(100005,⟨false,false,true,false,22,[],false,none⟩),(100006,⟨false,false,true,false,9,[],false,none⟩),(100007,⟨false,false,true,false,5,[],false,none⟩),(100008,⟨false,false,true,false,4,[],false,none⟩),(100009,⟨false,false,true,false,1,[],false,none⟩),(100010,⟨false,false,true,false,1,[],false,none⟩),(100011,⟨false,false,true,false,1,[],false,none⟩),(100012,⟨false,false,true,false,1,[],false,none⟩),(100013,⟨false,false,true,false,1,[],false,none⟩),(100014,⟨false,false,true,false,1,[],false,none⟩),(100015,⟨false,false,true,false,1,[],false,none⟩)],.tup [],[(100000,⟨false,false,false,false,0,[.own 300000 0 7,iv 7,iv 0,iv 2,.own 300001 0 2,.own 300002 0 1,.own 300003 0 0,.own 300004 0 0,.own 300005 0 0,.own 300006 0 0,.own 300007 0 0,.bool true,.own 300008 0 0,.own 300009 0 1,.own 300010 0 0,.own 300011 0 0,.own 300012 0 0,.own 300013 0 0,.own 300014 0 0],false,none⟩),(300000,⟨false,false,true,false,1,[.str [98,117,115],.str [97],.str [100,101,109,97,110,100],.str [49,48,77,87],.str [48,46,48,50,71,87],.str [115,104,101,100],.str [48]],false,none⟩),(300001,⟨false,false,true,false,1,[iv 0,iv 0],false,none⟩),(300002,⟨false,false,true,false,3,[.str [97],.imm [iv 10,iv 20] 2 1 false false,iv 0],false,none⟩),(300003,⟨false,false,true,false,12,[],false,none⟩),(300004,⟨false,false,true,false,22,[],false,none⟩),(300005,⟨false,false,true,false,9,[],false,none⟩),(300006,⟨false,false,true,false,5,[],false,none⟩),(300007,⟨false,false,true,false,4,[],false,none⟩),(300008,⟨false,false,true,false,1,[],false,none⟩),(300009,⟨false,false,true,false,1,[.str [97]],false,none⟩),(300010,⟨false,false,true,false,1,[],false,none⟩),(300011,⟨false,false,true,false,1,[],false,none⟩),(300012,⟨false,false,true,false,1,[],false,none⟩),(300013,⟨false,false,true,false,1,[],false,none⟩),(300014,⟨false,false,true,false,1,[],false,none⟩)]⟩
theorem Aza:Ej Tryz.prog Awz:=Hj follows (muts:=muts) (N:=1000000) (l:=[Arr,Ars,Awl,Awy]) ⟨Auo,Aup,Ayw,Ay9,trivial⟩ (fs:=[(23,zW),(25,zX),(56,zY),(59,Arn),(60,Aul),(61,Aro),(62,Av0),(86,Av2),(87,Av3),(107,xC),(108,Ata),(109,Av4),(128,Atb),(137,d7),(138,Ac6),(139,Atd),(154,Ada),(155,oA)]) 7 (by kernel_rfl)
def Aw0:Pt:=⟨21,[.str [],.str [10]],[],.tup [.str [],.str [],.bool false],[]⟩
theorem Azb:Ej Tryz.prog Aw0:=WQ (by kernel_rfl) (by kernel_rfl)
def Aw1:Pt:=⟨105,[.str [],.int .u8 35],[],iv (-1),[]⟩
theorem Azc:Ej Tryz.prog Aw1:=NJ (by kernel_rfl) (by kernel_rfl)
def Aw2:Pt:=⟨11,[.str [99,97,115,101,32,50,32,114,101,115,101,114,118,101,32,48,32,48,10,98,117,115,32,97,32,100,101,109,97,110,100,32,49,48,77,87,32,48,46,48,50,71,87,32,115,104,101,100,32,48,10]],[],.tup [.pagg [iv 2,.imm [iv 0,iv 0] 2 1 false false,.imm [.str [97],.imm [iv 10,iv 20] 2 1 false false,iv 0] 1 3 false false,.imm [] 0 12 false false,.imm [] 0 22 false false,.imm [] 0 9 false false,.imm [] 0 5 false false,.imm [] 0 4 false false] false,iv 0,iv 0],[]⟩
theorem Azd:Ej Tryz.prog Aw2:=Hj follows (muts:=muts) (N:=1000000) (l:=[A0a,A0b,Awa,Awb,Awc,Awd,Awz,Aw0,Aw1]) ⟨A0u,A0v,Ayl,Aym,Ayn,Ayo,Aza,Azb,Azc,trivial⟩ (fs:=[(11,Aui),(21,Arm),(22,Auj),(23,zW),(24,Aos),(25,zX),(53,Auk),(54,Aot),(55,Aou),(56,zY),(62,Av0),(68,Arp),(105,Aov)]) 6 (by kernel_rfl)
def Aw3:Pt:=⟨21,[.str [99,97,115,101,32,49,32,114,101,115,101,114,118,101,32,48,10,108,105,110,101,32,108,32,97,32,98,32,120,32,49,32,115,104,105,102,116,32,48,32,48,32,108,105,109,105,116,32,49,32,49,32,97,119,97,121],.str [10]],[],.tup [.str [99,97,115,101,32,49,32,114,101,115,101,114,118,101,32,48],.str [108,105,110,101,32,108,32,97,32,98,32,120,32,49,32,115,104,105,102,116,32,48,32,48,32,108,105,109,105,116,32,49,32,49,32,97,119,97,121],.bool true],[]⟩
theorem Aze:Ej Tryz.prog Aw3:=WQ (by kernel_rfl) (by kernel_rfl)
def Aw4:Pt:=⟨105,[.str [99,97,115,101,32,49,32,114,101,115,101,114,118,101,32,48],.int .u8 35],[],iv (-1),[]⟩
theorem Azf:Ej Tryz.prog Aw4:=NJ (by kernel_rfl) (by kernel_rfl)
def Aw5:Pt:=⟨151,[.pagg [.bool false,.imm [.int .u32 1] 1 1 false false,.imm [.int .u32 1] 1 1 false false] false,.pagg [.bool false,.imm [.int .u32 1073741824] 1 1 false false,.imm [.int .u32 1] 1 1 false false] false],[],iv (-1),[]⟩
theorem Azg:Ej Tryz.prog Aw5:=Hj follows (muts:=muts) (N:=1000000) (l:=[]) trivial (fs:=[(151,ii),(170,ij),(172,Wy),(173,Ajc),(174,ik),(203,JH),(205,Wz),(206,Aje),(207,JI),(212,Od),(225,W0)]) 6 (by kernel_rfl)
def Aw6:Pt:=⟨137,[.pagg [.bool false,.imm [.int .u32 1] 1 1 false false,.imm [.int .u32 1] 1 1 false false] false],[],.tup [iv 1,.bool true],[]⟩
theorem Azh:Ej Tryz.prog Aw6:=Hj follows (muts:=muts) (N:=1000000) (l:=[Aw5]) ⟨Azg,trivial⟩ (fs:=[(137,d7),(150,sc),(151,ii),(152,Ac9),(153,d8),(164,CL),(169,Adc),(170,ij),(171,Ade),(172,Wy),(174,ik),(176,JG),(196,CM),(197,Sw),(202,Adh),(203,JH),(204,Adi),(205,Wz),(207,JI),(212,Od),(225,W0)]) 7 (by kernel_rfl)
def Aw7:Pt:=⟨24,[.optr 100000 0],[(100000,⟨false,false,false,false,0,[.own 100001 0 4,iv 0,iv 0,iv 0,.own 100002 0 0,.own 100003 0 0,.own 100004 0 0,.own 100005 0 0,.own 100006 0 0,.own 100007 0 0,.own 100008 0 0,.bool false,.own 100009 0 0,.own 100010 0 0,.own 100011 0 0,.own 100012 0 0,.own 100013 0 0,.own 100014 0 0,.own 100015 0 0],false,none⟩),(100001,⟨false,false,true,false,1,[.str [99,97,115,101],.str [49],.str [114,101,115,101,114,118,101],.str [48]],false,none⟩),(100002,⟨false,false,true,false,1,[],false,none⟩),(100003,⟨false,false,true,false,3,[],false,none⟩),(100004,⟨false,false,true,false,12,[],false,none⟩),(100005,⟨false,false,true,false,22,[],false,none⟩),(100006,⟨false,false,true,false,9,[],false,none⟩),(100007,⟨false,false,true,false,5,[],false,none⟩),(100008,⟨false,false,true,false,4,[],false,none⟩),(100009,⟨false,false,true,false,1,[],false,none⟩),(100010,⟨false,false,true,false,1,[],false,none⟩),(100011,⟨false,false,true,false,1,[],false,none⟩),(100012,⟨false,false,true,false,1,[],false,none⟩),(100013,⟨false,false,true,false,1,[],false,none⟩),(100014,⟨false,false,true,false,1,[],false,none⟩),(100015,⟨false,false,true,false,1,[],false,none⟩)],.tup [],[(100000,⟨false,false,false,false,0,[.own 300000 0 4,iv 4,iv 0,iv 1,.own 300015 0 1,.own 300002 0 0,.own 300003 0 0,.own 300004 0 0,.own 300005 0 0,.own 300006 0 0,.own 300007 0 0,.bool true,.own 300008 0 0,.own 300009 0 0,.own 300010 0 0,.own 300011 0 0,.own 300012 0 0,.own 300013 0 0,.own 300014 0 0],false,none⟩),(300000,⟨false,false,true,false,1,[.str [99,97,115,101],.str [49],.str [114,101,115,101,114,118,101],.str [48]],false,none⟩),(300001,⟨false,false,true,false,1,[],false,none⟩),(300002,⟨false,false,true,false,3,[],false,none⟩),(300003,⟨false,false,true,false,12,[],false,none⟩),(300004,⟨false,false,true,false,22,[],false,none⟩),(300005,⟨false,false,true,false,9,[],false,none⟩),(300006,⟨false,false,true,false,5,[],false,none⟩),(300007,⟨false,false,true,false,4,[],false,none⟩),(300008,⟨false,false,true,false,1,[],false,none⟩),(300009,⟨false,false,true,false,1,[],false,none⟩),(300010,⟨false,false,true,false,1,[],false,none⟩),(300011,⟨false,false,true,false,1,[],false,none⟩),(300012,⟨false,false,true,false,1,[],false,none⟩),(300013,⟨false,false,true,false,1,[],false,none⟩),(300014,⟨false,false,true,false,1,[],false,none⟩),(300015,⟨false,false,true,false,1,[iv 0],false,none⟩)]⟩
theorem Azi:Ej Tryz.prog Aw7:=Hj follows (muts:=muts) (N:=1000000) (l:=[Arq,Arr,Ars,Aw6]) ⟨Aun,Auo,Aup,Azh,trivial⟩ (fs:=[(23,zW),(24,Aos),(25,zX),(56,zY),(58,Avz),(59,Arn),(60,Aul),(61,Aro),(68,Arp),(106,As9),(107,xC),(136,Atc),(137,d7),(138,Ac6),(147,Ac7),(148,Ac8),(149,WR),(154,Ada),(155,oA),(162,WS),(163,Adb),(194,WT),(195,Adg),(219,WU)]) 9 (by kernel_rfl)
def Aw8:Pt:=⟨21,[.str [108,105,110,101,32,108,32,97,32,98,32,120,32,49,32,115,104,105,102,116,32,48,32,48,32,108,105,109,105,116,32,49,32,49,32,97,119,97,121],.str [10]],[],.tup [.str [108,105,110,101,32,108,32,97,32,98,32,120,32,49,32,115,104,105,102,116,32,48,32,48,32,108,105,109,105,116,32,49,32,49,32,97,119,97,121],.str [],.bool false],[]⟩
theorem Azj:Ej Tryz.prog Aw8:=WQ (by kernel_rfl) (by kernel_rfl)
def Aw9:Pt:=⟨105,[.str [108,105,110,101,32,108,32,97,32,98,32,120,32,49,32,115,104,105,102,116,32,48,32,48,32,108,105,109,105,116,32,49,32,49,32,97,119,97,121],.int .u8 35],[],iv (-1),[]⟩
theorem Azk:Ej Tryz.prog Aw9:=NJ (by kernel_rfl) (by kernel_rfl)
def Axa:Pt:=⟨54,[.str [108,105,110,101,32,108,32,97,32,98,32,120,32,49,32,115,104,105,102,116,32,48,32,48,32,108,105,109,105,116,32,49,32,49,32,97,119,97,121],.fn 55 []],[],.own 300000 0 13,[(300000,⟨false,false,true,false,1,[.str [108,105,110,101],.str [108],.str [97],.str [98],.str [120],.str [49],.str [115,104,105,102,116],.str [48],.str [48],.str [108,105,109,105,116],.str [49],.str [49],.str [97,119,97,121]],false,none⟩)]⟩
theorem Azl:Ej Tryz.prog Axa:=Hj follows (muts:=muts) (N:=1000000) (l:=[]) trivial (fs:=[(54,Aot),(55,Aou)]) 3 (by kernel_rfl)
def Axb:Pt:=⟨63,[.optr 100000 0],[(100000,⟨false,false,false,false,0,[.own 100001 0 13,iv 1,iv 0,iv 1,.own 100002 0 1,.own 100003 0 0,.own 100004 0 0,.own 100005 0 0,.own 100006 0 0,.own 100007 0 0,.own 100008 0 0,.bool true,.own 100009 0 0,.own 100010 0 0,.own 100011 0 0,.own 100012 0 0,.own 100013 0 0,.own 100014 0 0,.own 100015 0 0],false,none⟩),(100001,⟨false,false,true,false,1,[.str [108,105,110,101],.str [108],.str [97],.str [98],.str [120],.str [49],.str [115,104,105,102,116],.str [48],.str [48],.str [108,105,109,105,116],.str [49],.str [49],.str [97,119,97,121]],false,none⟩),(100002,⟨false,false,true,false,1,[iv 0],false,none⟩),(100003,⟨false,false,true,false,3,[],false,none⟩),(100004,⟨false,false,true,false,12,[],false,none⟩),(100005,⟨false,false,true,false,22,[],false,none⟩),(100006,⟨false,false,true,false,9,[],false,none⟩),(100007,⟨false,false,true,false,5,[],false,none⟩),(100008,⟨false,false,true,false,4,[],false,none⟩),(100009,⟨false,false,true,false,1,[],false,none⟩),(100010,⟨false,false,true,false,1,[],false,none⟩),(100011,⟨false,false,true,false,1,[],false,none⟩),(100012,⟨false,false,true,false,1,[],false,none⟩),(100013,⟨false,false,true,false,1,[],false,none⟩),(100014,⟨false,false,true,false,1,[],false,none⟩),(100015,⟨false,false,true,false,1,[],false,none⟩)],.tup [],[(100000,⟨false,false,false,false,0,[.own 300000 0 13,iv 3,iv 12,iv 1,.own 300001 0 1,.own 300002 0 0,.own 300003 0 1,.own 300004 0 0,.own 300005 0 0,.own 300006 0 0,.own 300007 0 0,.bool true,.own 300008 0 0,.own 300009 0 0,.own 300010 0 1,.own 300011 0 0,.own 300012 0 0,.own 300013 0 0,.own 300014 0 0],false,none⟩),(300000,⟨false,false,true,false,1,[.str [108,105,110,101],.str [108],.str [97],.str [98],.str [120],.str [49],.str [115,104,105,102,116],.str [48],.str [48],.str [108,105,109,105,116],.str [49],.str [49],.str [97,119,97,121]],false,none⟩),(300001,⟨false,false,true,false,1,[iv 0],false,none⟩),(300002,⟨false,false,true,false,3,[],false,none⟩),(300003,⟨false,false,true,false,12,[.str [108],iv 0,iv 0,iv 0,iv 0,iv 0,iv 0,iv 0,iv 0,iv 0,iv 0,.imm [] 0 1 false false],false,none⟩),(300004,⟨false,false,true,false,22,[],false,none⟩),(300005,⟨false,false,true,false,9,[],false,none⟩),(300006,⟨false,false,true,false,5,[],false,none⟩),(300007,⟨false,false,true,false,4,[],false,none⟩),(300008,⟨false,false,true,false,1,[],false,none⟩),(300009,⟨false,false,true,false,1,[],false,none⟩),(300010,⟨false,false,true,false,1,[.str [108]],false,none⟩),(300011,⟨false,false,true,false,1,[],false,none⟩),(300012,⟨false,false,true,false,1,[],false,none⟩),(300013,⟨false,false,true,false,1,[],false,none⟩),(300014,⟨false,false,true,false,1,[],false,none⟩)]⟩
theorem Azm:Ej Tryz.prog Axb:=Hj follows (muts:=muts) (N:=1000000) (l:=[]) trivial (fs:=[(23,zW),(25,zX),(56,zY),(57,Avy),(59,Arn),(61,Aro),(63,Av1),(86,Av2),(87,Av3),(107,xC),(108,Ata),(110,Av5),(111,Av6),(112,Av7),(113,Av8),(128,Atb),(139,Atd)]) 7 (by kernel_rfl)
def Axc:Pt:=⟨11,[.str [99,97,115,101,32,49,32,114,101,115,101,114,118,101,32,48,10,108,105,110,101,32,108,32,97,32,98,32,120,32,49,32,115,104,105,102,116,32,48,32,48,32,108,105,109,105,116,32,49,32,49,32,97,119,97,121]],[],.tup [.pagg [iv 0,.nsl,.nsl,.nsl,.nsl,.nsl,.nsl,.nsl] false,iv 2,iv 12],[]⟩
theorem Azn:Ej Tryz.prog Axc:=Hj follows (muts:=muts) (N:=1000000) (l:=[Aw3,Aw4,Aw7,Aw8,Aw9,Axa,Axb]) ⟨Aze,Azf,Azi,Azj,Azk,Azl,Azm,trivial⟩ (fs:=[(11,Aui),(21,Arm),(22,Auj),(23,zW),(24,Aos),(25,zX),(53,Auk),(54,Aot),(55,Aou),(56,zY),(63,Av1),(68,Arp),(105,Aov)]) 6 (by kernel_rfl)
def Axd:Pt:=⟨21,[.str [98,117,115,32,97],.str [10]],[],.tup [.str [98,117,115,32,97],.str [],.bool false],[]⟩
theorem Azo:Ej Tryz.prog Axd:=WQ (by kernel_rfl) (by kernel_rfl)
def Axe:Pt:=⟨105,[.str [98,117,115,32,97],.int .u8 35],[],iv (-1),[]⟩
theorem Azp:Ej Tryz.prog Axe:=NJ (by kernel_rfl) (by kernel_rfl)
def Azq:Pt:=⟨10,[],[],.bool true,[]⟩
theorem Azr:Ej Tryz.prog Azq:=Hj follows (muts:=muts) (N:=1000000) (l:=[Aw2,Axc,Axd,Axe]) ⟨Azd,Azn,Azo,Azp,trivial⟩ (fs:=[(10,Ayj),(11,Aui),(20,Ayk),(21,Arm),(22,Auj),(23,zW),(24,Aos),(25,zX),(53,Auk),(54,Aot),(55,Aou),(56,zY),(57,Avy),(105,Aov)]) 7 (by kernel_rfl)
theorem lR:Aiy Tryz.prog 10 [] [] (.bool true) []:=Azr
end Gx
namespace Gx
open Go Go.Proofs
noncomputable section
variable {R:Type} (N:Nat)
def QP (_N:Nat) (r0:Bool→O R):O R:=r0 true
def AJ:=(Ac (@QP R)).1
theorem Oe:@AJ R=@QP R:=(Ac _).2
def vE:Bd Tryz.prog:=⟨10,fun
 | [],[]=>some fun _ k=>AJ N fun b=>k (.bool b) []
 | _,_=>none,(fun a h g e R k=>by
  split at e
  ·cases e;dsimp only;rw[Oe,Oe];rfl
  ·cases e),(fun a h g res h' e hh=>by
  split at e
  ·cases e;dsimp only at hh;rw[Oe] at hh;cases hh;exact lR
  ·cases e)⟩
end
end Gx
namespace Gx
open Go Go.Proofs
set_option maxRecDepth 100000
noncomputable section
variable {R:Type} (N:Nat)
def Vo (k0:Int→LA→O R) (r0:LA→Int→O R) (b:Bool) (a:LA) (i:Int) (aj:LA):O R :=
 (cond (ble 8 (a.length)) (C2 N (a.take 8) b 1 i aj fun ak=>cond (ble 8 (a.length)) (Bb 3 (a.drop 2) fun al am=>cond (Ag i am) (Bb 1 ((al.drop ((i.toNat)*3)).drop 1) fun an ao=>Dl N (a.take 8) b an ao false b 0 1048576 1 i 1 ak fun ap=>Bb 3 (a.drop 2) fun aq ar=>cond (Ag i ar) (Aw .i64 ((aq.drop ((i.toNat)*3)).drop 2) fun au=>As N 0 1048576 [(.int .i64 au)] 1 false true fun av=>Aa N av 1 i 2 3 ap fun aw=>k0 (wrap .i64 (i+1)) aw) none) none) none) none)
def Vp (k7:Int→LA→O R) (k9:Int→Int→LA→O R) (r0:LA→Int→O R) (c d:Nat) (b:Bool) (a f g:LA) (k10:Int→Int→Nat→Int→LA→LA→O R) (o l:Int) (j:Nat) (m:Int) (w x:LA):O R :=
 (cond (decide (m<(d:Int))) (Bb 4 (a.drop 7) fun ax ay=>cond (Ag l ay) (Bb 1 ((ax.drop ((l.toNat)*4)).drop 1) fun az ba=>cond (Ag m d) (Aw .i64 (g.drop (0+((m.toNat)*1))) fun bb=>PV N az ba false b bb fun bc=>cond bc (cond ((ble (j+1) 140737488355328)&&(ble ((j+1)*8) 140737488355328)) (k10 o l (j+1) (wrap .i64 (m+1)) w ((x.take (j*1))++[(.int .i64 m)])) none) (k10 o l j (wrap .i64 (m+1)) w x)) none) none) (Bb 3 (a.drop 2) fun ce bd=>Sq N (bd:Int) (f.take (c*2)) c false true (x.take (j*1)) j false true fun be=>Aa N (!be) 6 l o 13 w fun bf=>k9 o (wrap .i64 (l+1)) bf))
def K3 (k7:Int→LA→O R) (k9:Int→Int→LA→O R) (r0:LA→Int→O R) (c d:Nat) (b:Bool) (a f g:LA):Nat→Int→Int→Nat→Int→LA→LA→O R
 | 0=>fun _ _ _ _ _ _=>none
 | n+1=>Vp N k7 k9 r0 c d b a f g (K3 k7 k9 r0 c d b a f g n)
def Ze (N:Nat) (k7:Int→LA→O R) (r0:LA→Int→O R) (c d:Nat) (b:Bool) (a f g:LA) (k9:Int→Int→LA→O R) (q10:Int→Int→Nat→Int→LA→LA→O R) (ae af:Int) (ag:LA):O R :=
 (Bb 4 (a.drop 7) fun cf bg=>cond (decide (af<(bg:Int))) (q10 ae af 0 0 ag []) (k7 (wrap .i64 (ae+1)) ag))
def Jy (k7:Int→LA→O R) (r0:LA→Int→O R) (c d:Nat) (b:Bool) (a f g:LA):Nat→Int→Int→LA→O R
 | 0=>fun _ _ _=>none
 | n+1=>Ze N k7 r0 c d b a f g (Jy k7 r0 c d b a f g n) (K3 N k7 (Jy k7 r0 c d b a f g n) r0 c d b a f g N)
def LI (k7:Int→LA→O R) (r0:LA→Int→O R) (b:Bool) (a:LA) (q9:Nat→Nat→LA→LA→Int→Int→LA→O R) (p:Int) (y:LA):O R :=
 (cond (ble 8 (a.length)) (MW N (a.take 8) b p fun c d f g=>q9 c d f g p 0 y) none)
def DY (k7:Int→LA→O R) (r0:LA→Int→O R) (b:Bool) (a:LA) (p:Int) (y:LA):O R:=(LI N k7 r0 b a (fun c d f g=>Jy N k7 r0 c d b a f g N) p y)
def Sx (N:Nat) (r0:LA→Int→O R) (b:Bool) (a:LA) (k7:Int→LA→O R) (q8:Int→LA→O R) (ah:Int) (h:LA):O R :=
 (Aw .i64 a fun bh=>cond ((decide (ah<bh))==true) (Aw .i64 (h.drop 3) fun bi=>cond (cond true (bi==0) false) (q8 ah h) (cond (ble 3 (h.length)) (Aw .i64 (h.drop 3) fun bj=>cond ((beq ((h.take 3).length) 3)&&((ble 3 3)&&(!false))) (cond (ble 3 ((setCells [(.int .i64 0),(.int .i64 0),(.int .i64 0)] 0 (h.take 3)).length)) (r0 ((setCells [(.int .i64 0),(.int .i64 0),(.int .i64 0)] 0 (h.take 3)).take 3) bj) none) none) none)) (cond (ble 3 (h.length)) (Aw .i64 (h.drop 3) fun bk=>cond ((beq ((h.take 3).length) 3)&&((ble 3 3)&&(!false))) (cond (ble 3 ((setCells [(.int .i64 0),(.int .i64 0),(.int .i64 0)] 0 (h.take 3)).length)) (r0 ((setCells [(.int .i64 0),(.int .i64 0),(.int .i64 0)] 0 (h.take 3)).take 3) bk) none) none) none))
def Ef (r0:LA→Int→O R) (b:Bool) (a:LA):Nat→Int→LA→O R
 | 0=>fun _ _=>none
 | n+1=>Sx N r0 b a (Ef r0 b a n) (DY N (Ef r0 b a n) r0 b a)
def Zf (r0:LA→Int→O R) (b:Bool) (a:LA) (k6:Int→LA→O R) (q7:Int→LA→O R) (z:Int) (q:LA):O R :=
 (Bb 4 (a.drop 7) fun cg bl=>cond ((decide (z<(bl:Int)))==true) (Aw .i64 (q.drop 3) fun bm=>cond (cond true (bm==0) false) (cond (ble 8 (a.length)) (Iq N (a.take 8) b z q fun bn=>k6 (wrap .i64 (z+1)) bn) none) (q7 0 q)) (q7 0 q))
def Nd (r0:LA→Int→O R) (b:Bool) (a:LA):Nat→Int→LA→O R
 | 0=>fun _ _=>none
 | n+1=>Zf N r0 b a (Nd r0 b a n) (Ef N r0 b a N)
def Zg (r0:LA→Int→O R) (b:Bool) (a:LA) (k5:Int→LA→O R) (q6:Int→LA→O R) (aa:Int) (r:LA):O R :=
 (Bb 5 (a.drop 6) fun ch bo=>cond ((decide (aa<(bo:Int)))==true) (Aw .i64 (r.drop 3) fun bp=>cond (cond true (bp==0) false) (cond (ble 8 (a.length)) (Th N (a.take 8) b aa r fun bq=>k5 (wrap .i64 (aa+1)) bq) none) (q6 0 r)) (q6 0 r))
def Nf (r0:LA→Int→O R) (b:Bool) (a:LA):Nat→Int→LA→O R
 | 0=>fun _ _=>none
 | n+1=>Zg N r0 b a (Nf r0 b a n) (Nd N r0 b a N)
def Zh (r0:LA→Int→O R) (b:Bool) (a:LA) (k4:Int→LA→O R) (q5:Int→LA→O R) (ab:Int) (s:LA):O R :=
 (Bb 9 (a.drop 5) fun ci br=>cond ((decide (ab<(br:Int)))==true) (Aw .i64 (s.drop 3) fun bs=>cond (cond true (bs==0) false) (cond (ble 8 (a.length)) (Pb N (a.take 8) b ab s fun bt=>k4 (wrap .i64 (ab+1)) bt) none) (q5 0 s)) (q5 0 s))
def Ng (r0:LA→Int→O R) (b:Bool) (a:LA):Nat→Int→LA→O R
 | 0=>fun _ _=>none
 | n+1=>Zh N r0 b a (Ng r0 b a n) (Nf N r0 b a N)
def Zi (r0:LA→Int→O R) (b:Bool) (a:LA) (k3:Int→LA→O R) (q4:Int→LA→O R) (ac:Int) (t:LA):O R :=
 (Bb 22 (a.drop 4) fun cj bu=>cond ((decide (ac<(bu:Int)))==true) (Aw .i64 (t.drop 3) fun bv=>cond (cond true (bv==0) false) (cond (ble 8 (a.length)) (L9 N (a.take 8) b ac t fun bw=>k3 (wrap .i64 (ac+1)) bw) none) (q4 0 t)) (q4 0 t))
def Nh (r0:LA→Int→O R) (b:Bool) (a:LA):Nat→Int→LA→O R
 | 0=>fun _ _=>none
 | n+1=>Zi N r0 b a (Nh r0 b a n) (Ng N r0 b a N)
def Zj (r0:LA→Int→O R) (b:Bool) (a:LA) (k2:Int→LA→O R) (q3:Int→LA→O R) (ad:Int) (u:LA):O R :=
 (Bb 12 (a.drop 3) fun ck bx=>cond ((decide (ad<(bx:Int)))==true) (Aw .i64 (u.drop 3) fun bz=>cond (cond true (bz==0) false) (cond (ble 8 (a.length)) (L0 N (a.take 8) b ad u fun ca=>k2 (wrap .i64 (ad+1)) ca) none) (q3 0 u)) (q3 0 u))
def Ni (r0:LA→Int→O R) (b:Bool) (a:LA):Nat→Int→LA→O R
 | 0=>fun _ _=>none
 | n+1=>Zj N r0 b a (Ni r0 b a n) (Nh N r0 b a N)
def Zk (N:Nat) (r0:LA→Int→O R) (b:Bool) (a:LA) (k0:Int→LA→O R) (q1:Int→LA→O R) (q2:Int→LA→O R) (ai:Int) (v:LA):O R :=
 (Bb 3 (a.drop 2) fun cl cb=>cond ((decide (ai<(cb:Int)))==true) (Aw .i64 (v.drop 3) fun cc=>cond (cond true (cc==0) false) (q1 ai v) (q2 0 v)) (q2 0 v))
def Jz (r0:LA→Int→O R) (b:Bool) (a:LA):Nat→Int→LA→O R
 | 0=>fun _ _=>none
 | n+1=>Zk N r0 b a (Jz r0 b a n) (Vo N (Jz r0 b a n) r0 b a) (Ni N r0 b a N)
def QQ (r0:LA→Int→O R) (q0:Int→LA→O R) (a:LA) (b:Bool):O R :=
 (cond (ble 8 (a.length)) (Jt N (a.take 8) b [(.int .i64 0),(.int .i64 0),(.int .i64 0),(.int .i64 0)] fun cd=>q0 0 cd) none)
def NK:=(Ac fun N a b r0=>QQ (R:=R) N r0 (Jz N r0 b a N) a b).1
theorem d9 (a b r0):(@NK R N a b r0)=(QQ N r0 (Jz N r0 b a N) a b):=by rw[NK,(Ac _).2]
def io:Hints:={ H:=(hK 3 (hS (hK 1 (hS (hP [1,2,4,5] (hJ [1,2,4,5] hL hL)) hL)) (hS (hK 1 (hS (hP [1,2,4,6] hL) hL)) (hS (hK 1 (hS (hP [1,2,4,7] hL) hL)) (hS (hK 1 (hS (hP [1,2,4,8] hL) hL)) (hS (hK 1 (hS (hP [1,2,4,9] hL) hL)) (hS (hK 1 (hS (hP [1,2,4,10] hL) hL)) (hS (hK 1 (hS (hP [1,2,4,11] (hJ [1,2,4,11] hL (hS (hS (hK 2 (hS (hP [1,2,4,11,12,13,14] (hK 1 (hS (hS (hK 1 (hS (hK 1 (hS (hP [1,2,4,11,12,13,14,15,16] hL) hL)) hL)) hL) hL))) hL)) hL) hL))) hL)) hL)))))))),nils:=[(15,1)],modes:=[(3,0),(0,0)] }
def oB:Wp:=[bD N,F8 N,P9 N,Eb N,Bx N,fJ N,fK N,bL N,gz N,V' N,Aci N,ki N,pf N]
def Fg (F:KF R):=Mw Tryz.f39 io (oB N) [] N F
def zZ (b:Bool) (a:LA) (K:St→O R):=fun i aj=>K ⟨[(1,(op 0)),(2,(op 1)),(4,(op 2)),(5,(iv i))],(hq [(bP b 0 a),(bQ 0 [(iv 0),(iv 0),(iv 0)]),(bQ 0 aj)])⟩
def vF (c d:Nat) (b:Bool) (a f g:LA) (K:St→O R):=fun o l j m w x=>K ⟨[(1,(op 0)),(2,(op 1)),(4,(op 2)),(11,(iv o)),(12,(.own 300003 0 c)),(13,(.own 300004 0 d)),(14,(iv l)),(15,(.own 300005 0 j)),(16,(iv m))],(hq [(bP b 0 a),(bQ 0 [(iv 0),(iv 0),(iv 0)]),(bQ 0 w),(bQ 2 f),(bQ 1 g),(bQ 1 x)])⟩
def QR (c d:Nat) (b:Bool) (a f g:LA) (K:St→O R):=fun ae af ag=>K ⟨[(1,(op 0)),(2,(op 1)),(4,(op 2)),(11,(iv ae)),(12,(.own 300003 0 c)),(13,(.own 300004 0 d)),(14,(iv af))],(hq [(bP b 0 a),(bQ 0 [(iv 0),(iv 0),(iv 0)]),(bQ 0 ag),(bQ 2 f),(bQ 1 g)])⟩
def z6 (b:Bool) (a:LA) (K:St→O R):=fun p y=>K ⟨[(1,(op 0)),(2,(op 1)),(4,(op 2)),(11,(iv p))],(hq [(bP b 0 a),(bQ 0 [(iv 0),(iv 0),(iv 0)]),(bQ 0 y)])⟩
def Nj (b:Bool) (a:LA) (K:St→O R):=fun ah h=>K ⟨[(1,(op 0)),(2,(op 1)),(4,(op 2)),(11,(iv ah))],(hq [(bP b 0 a),(bQ 0 [(iv 0),(iv 0),(iv 0)]),(bQ 0 h)])⟩
def z7 (b:Bool) (a:LA) (K:St→O R):=fun z q=>K ⟨[(1,(op 0)),(2,(op 1)),(4,(op 2)),(10,(iv z))],(hq [(bP b 0 a),(bQ 0 [(iv 0),(iv 0),(iv 0)]),(bQ 0 q)])⟩
def z8 (b:Bool) (a:LA) (K:St→O R):=fun aa r=>K ⟨[(1,(op 0)),(2,(op 1)),(4,(op 2)),(9,(iv aa))],(hq [(bP b 0 a),(bQ 0 [(iv 0),(iv 0),(iv 0)]),(bQ 0 r)])⟩
def z_ (b:Bool) (a:LA) (K:St→O R):=fun ab s=>K ⟨[(1,(op 0)),(2,(op 1)),(4,(op 2)),(8,(iv ab))],(hq [(bP b 0 a),(bQ 0 [(iv 0),(iv 0),(iv 0)]),(bQ 0 s)])⟩
def za (b:Bool) (a:LA) (K:St→O R):=fun ac t=>K ⟨[(1,(op 0)),(2,(op 1)),(4,(op 2)),(7,(iv ac))],(hq [(bP b 0 a),(bQ 0 [(iv 0),(iv 0),(iv 0)]),(bQ 0 t)])⟩
def zb (b:Bool) (a:LA) (K:St→O R):=fun ad u=>K ⟨[(1,(op 0)),(2,(op 1)),(4,(op 2)),(6,(iv ad))],(hq [(bP b 0 a),(bQ 0 [(iv 0),(iv 0),(iv 0)]),(bQ 0 u)])⟩
def ip (b:Bool) (a:LA) (K:St→O R):=fun ai v=>K ⟨[(1,(op 0)),(2,(op 1)),(4,(op 2)),(5,(iv ai))],(hq [(bP b 0 a),(bQ 0 [(iv 0),(iv 0),(iv 0)]),(bQ 0 v)])⟩
theorem pn (Q0) (F:KF R) (b a):zZ b a (Bq (Fg N F (pz 87105) [Q0]))=(Vo N (ip b a Q0) (N7 F) b a):=by kernel_rfl
theorem lS (Q7 Q9) (F:KF R) (c d b a f g):∀ n,vF c d b a f g (Ap (Fg N F (pz 24019179469541444) [Q7,Q9]) n)=(K3 N (Nj b a Q7) (QR c d b a f g Q9) (N7 F) c d b a f g n):=Fs fun n e=>(Cs (Vp N (Nj b a Q7) (QR c d b a f g Q9) (N7 F) c d b a f g) e:_)
theorem po (Q7) (F:KF R) (c d b a f g):∀ n,QR c d b a f g (Ap (Fg N F (pz 366503592980) [Q7]) n)=(Jy N (Nj b a Q7) (N7 F) c d b a f g n):=Fs fun n e=>(BL (Ze N (Nj b a Q7) (N7 F) c d b a f g) e ((lW ..).trans ((lS ..).trans (pK (K3 _ _ · _ _ _ _ _ _ _ _) e))):_)
theorem pp (Q7) (F:KF R) (b a):z6 b a (Bq (Fg N F (pz 357913665) [Q7]))=(DY N (Nj b a Q7) (N7 F) b a):=(Cs (LI N (Nj b a Q7) (N7 F) b a) (Af6 fun c d f g=>(lW ..).trans (po ..)):_)
theorem pt (F:KF R) (b a):∀ n,Nj b a (Ap (Fg N F (pz 22369604) []) n)=(Ef N (N7 F) b a n):=Fs fun n e=>(BL (Sx N (N7 F) b a) e ((jW ..).trans ((pp ..).trans (pK (DY _ · _ _ _) e))):_)
theorem pu (F:KF R) (b a):∀ n,z7 b a (Ap (Fg N F (pz 5592388) []) n)=(Nd N (N7 F) b a n):=Fs fun n e=>(BL (Zf N (N7 F) b a) e ((lW ..).trans (pt ..)):_)
theorem pv (F:KF R) (b a):∀ n,z8 b a (Ap (Fg N F (pz 1398084) []) n)=(Nf N (N7 F) b a n):=Fs fun n e=>(BL (Zg N (N7 F) b a) e ((lW ..).trans (pu ..)):_)
theorem pw (F:KF R) (b a):∀ n,z_ b a (Ap (Fg N F (pz 349508) []) n)=(Ng N (N7 F) b a n):=Fs fun n e=>(BL (Zh N (N7 F) b a) e ((lW ..).trans (pv ..)):_)
theorem qA (F:KF R) (b a):∀ n,za b a (Ap (Fg N F (pz 87364) []) n)=(Nh N (N7 F) b a n):=Fs fun n e=>(BL (Zi N (N7 F) b a) e ((lW ..).trans (pw ..)):_)
theorem qB (F:KF R) (b a):∀ n,zb b a (Ap (Fg N F (pz 21828) []) n)=(Ni N (N7 F) b a n):=Fs fun n e=>(BL (Zj N (N7 F) b a) e ((lW ..).trans (qA ..)):_)
theorem qC (F:KF R) (b a):∀ n,ip b a (Ap (Fg N F (pz 5444) []) n)=(Jz N (N7 F) b a n):=Fs fun n e=>(Aya (Zk N (N7 F) b a) e ((jW ..).trans ((pn ..).trans (pK (Vo _ · _ _ _) e))) ((lW ..).trans (qB ..)):_)
def Adj:=Cp N 39 (oB N) io (fun
 | [(.pagg a b)],[]=>some fun _ k=>NK N a b (N7 k)
 | _,_=>none) fun _ _=>by split;intro R F;exact(Cs (QQ N (N7 F) · _ _) ((lW ..).trans (qC ..)):_).trans (d9 ..).symm;trivial
def QS (k2:Int→Int→Nat→LA→O R) (r0:LA→O R) (l:Int) (a:LA) (b:Nat) (c:Bool) (h:Int) (d f:Nat) (g i:LA) (au av:Int) (w:Nat) (aw:LA):O R :=
 (Ae N l a b false c av fun ba bo=>Ae N (wrap .i64 (l - 1)) a b false c bo fun bp bq=>cond (l==0) none (U5 N (w:Int) ba (Int.tmod (wrap .i64 ((wrap .i64 (ba+1))+bp)) l) h a b false c bq fun bb br=>cond ((beq (bb.length) 12)&&(ble 12 12)) (cond ((ble (w+1) 140737488355328)&&(ble ((w+1)*120) 140737488355328)) (k2 (wrap .i64 (au - 1)) br (w+1) ((aw.take (w*12))++((setCells [(.str ([]:Lu)),(.int .i64 0),(.int .i64 0),(.int .i64 0),(.int .i64 0),(.int .i64 0),(.int .i64 0),(.int .i64 0),(.int .i64 0),(.int .i64 0),(.int .i64 0),.nsl] 0 bb).take 12))) none) none))
def QT (k7:Int→Int→Nat→LA→O R) (r0:LA→O R) (a:LA) (b:Nat) (c:Bool) (h:Int) (d f m j q s:Nat) (g i o p r t:LA) (aj ax:Int) (u:Nat) (aa:LA):O R :=
 (P8 N (u:Int) (m:Int) (j:Int) a b false c ax fun ab bc=>cond ((beq 0 0)&&((beq (ab.length) 4)&&(beq 4 4))) (cond ((ble (0+u) 140737488355328)&&(ble ((0+u)*72) 140737488355328)) (cond (ble 4 (ab.length)) (cond ((beq ((ab.take 4).length) 4)&&(ble 4 4)) (cond ((ble ((0+u)+1) 140737488355328)&&(ble (((0+u)+1)*72) 140737488355328)) (NK N [(.int .i64 h),(.imm (g.take (d*1)) d 1 false true),(.imm (i.take (f*3)) f 3 false true),(.imm (o.take (m*12)) m 12 false true),(.imm (p.take (j*22)) j 22 false true),(.imm (r.take (q*9)) q 9 false true),(.imm (t.take (s*5)) s 5 false true),(.imm (take (((0+u)+1)*4) (((aa.take (u*4)).take ((0+u)*4))++((setCells [(.str ([]:Lu)),.nsl,(.bool false),.nsl] 0 (ab.take 4)).take 4))) ((0+u)+1) 4 false true)] true fun bs bt=>cond ((beq (bs.length) 3)&&((ble 3 3)&&(!false))) (cond (bt==0) (k7 (wrap .i64 (aj - 1)) bc ((0+u)+1) (((aa.take (u*4)).take ((0+u)*4))++((setCells [(.str ([]:Lu)),.nsl,(.bool false),.nsl] 0 (ab.take 4)).take 4))) (k7 (wrap .i64 (aj - 1)) bc u aa)) none) none) none) none) none) none)
def AK (N:Nat) (r0:LA→O R) (a:LA) (b:Nat) (c:Bool) (h:Int) (d f m j q s:Nat) (g i o p r t:LA) (k7:Int→Int→Nat→LA→O R) (q8:Int→Int→Nat→LA→O R) (ak ay:Int) (x:Nat) (ac:LA):O R :=
 (cond ((decide (ak>0))==true) (cond (cond true (decide ((m:Int)>0)) false) (q8 ak ay x ac) (r0 [(.int .i64 h),(.imm (g.take (d*1)) d 1 false false),(.imm (i.take (f*3)) f 3 false false),(.imm (o.take (m*12)) m 12 false false),(.imm (p.take (j*22)) j 22 false false),(.imm (r.take (q*9)) q 9 false false),(.imm (t.take (s*5)) s 5 false false),(.imm (ac.take (x*4)) x 4 false false)])) (r0 [(.int .i64 h),(.imm (g.take (d*1)) d 1 false false),(.imm (i.take (f*3)) f 3 false false),(.imm (o.take (m*12)) m 12 false false),(.imm (p.take (j*22)) j 22 false false),(.imm (r.take (q*9)) q 9 false false),(.imm (t.take (s*5)) s 5 false false),(.imm (ac.take (x*4)) x 4 false false)]))
def Iv (r0:LA→O R) (a:LA) (b:Nat) (c:Bool) (h:Int) (d f m j q s:Nat) (g i o p r t:LA):Nat→Int→Int→Nat→LA→O R
 | 0=>fun _ _ _ _=>none
 | n+1=>AK N r0 a b c h d f m j q s g i o p r t (Iv r0 a b c h d f m j q s g i o p r t n) (QT N (Iv r0 a b c h d f m j q s g i o p r t n) r0 a b c h d f m j q s g i o p r t)
def WV (r0:LA→O R) (a:LA) (b:Nat) (c:Bool) (h:Int) (d f m j q:Nat) (g i o p r:LA) (q7:Nat→LA→Int→Int→Nat→LA→O R) (ad:Int) (s:Nat) (t:LA):O R :=
 (Ae N 4 a b false c ad fun bu bv=>q7 s t bu bv 0 [])
def QU (r0:LA→O R) (a:LA) (b:Nat) (c:Bool) (h:Int) (d f m j q:Nat) (g i o p r:LA) (ad:Int) (s:Nat) (t:LA):O R:=(WV N r0 a b c h d f m j q g i o p r (fun s t=>Iv N r0 a b c h d f m j q s g i o p r t N) ad s t)
def JJ (r0:LA→O R) (l:Int) (a:LA) (b:Nat) (c:Bool) (h:Int) (d f m j:Nat) (g i o p:LA) (q6:Nat→LA→Int→Nat→LA→O R) (ae:Int) (q:Nat) (r:LA):O R :=
 (Ae N 3 a b false c ae fun bw bd=>cond (bw==2) (Ae N l a b false c bd fun bx bz=>Gr N h 12 a b false c bz fun be ca cb=>Gr N h 12 a b false c ca fun bf cc cd=>Gr N h 40 a b false c cc fun bg ce cf=>q6 q r ce 1 [(.str ([116,48]:Lu)),(.int .i64 bx),(.imm (cb.take (be*1)) be 1 false false),(.imm (cd.take (bf*1)) bf 1 false false),(.imm (cf.take (bg*1)) bg 1 false false)]) (q6 q r bd 0 []))
def GF (r0:LA→O R) (l:Int) (a:LA) (b:Nat) (c:Bool) (h:Int) (d f m j:Nat) (g i o p:LA) (ae:Int) (q:Nat) (r:LA):O R:=(JJ N r0 l a b c h d f m j g i o p (fun q r=>QU N r0 a b c h d f m j q g i o p r) ae q r)
def AL (r0:LA→O R) (l:Int) (a:LA) (b:Nat) (c:Bool) (h:Int) (d f:Nat) (g i:LA) (k4:Int→Int→Nat→Nat→LA→LA→O R) (q5:Nat→Nat→LA→LA→Int→Nat→LA→O R) (al am:Int) (m j:Nat) (o p:LA):O R :=
 (cond (decide (al>0)) (U6 N (j:Int) l h a b false c am fun bh cg=>cond ((beq (bh.length) 22)&&(ble 22 22)) (cond ((ble (j+1) 140737488355328)&&(ble ((j+1)*216) 140737488355328)) (k4 (wrap .i64 (al - 1)) cg m (j+1) o ((p.take (j*22))++((setCells [(.str ([]:Lu)),(.int .i64 0),(.int .i64 0),(.int .i64 0),.nsl,(.int .i64 0),(.int .i64 0),(.int .i64 0),(.int .i64 0),(.int .i64 0),(.int .i64 0),(.int .i64 0),(.int .i64 0),(.int .i64 0),(.int .i64 0),(.int .i64 0),(.int .i64 0),(.int .i64 0),.nsl,(.int .i64 0),(.int .i64 0),(.int .i64 0)] 0 bh).take 22))) none) none) (Ae N 3 a b false c am fun ch bi=>cond (ch==2) (Ae N l a b false c bi fun ci cj=>Ae N 20 a b false c cj fun az ck=>Ae N 8 a b false c ck fun cl cm=>Ae N 8 a b false c cm fun cn co=>Ae N 4 a b false c co fun cp cq=>Ae N (wrap .i64 (az+1)) a b false c cq fun cr cs=>Ae N (wrap .i64 (az+1)) a b false c cs fun ct cu=>q5 m j o p cu 1 [(.str ([115,48]:Lu)),(.int .i64 ci),(.int .i64 az),(.int .i64 cr),(.int .i64 ct),(.int .i64 cl),(.int .i64 cn),(.int .i64 (wrap .i64 (1+cp))),(.int .i64 4)]) (q5 m j o p bi 0 [])))
def Qn (r0:LA→O R) (l:Int) (a:LA) (b:Nat) (c:Bool) (h:Int) (d f:Nat) (g i:LA):Nat→Int→Int→Nat→Nat→LA→LA→O R
 | 0=>fun _ _ _ _ _ _=>none
 | n+1=>AL N r0 l a b c h d f g i (Qn r0 l a b c h d f g i n) (fun m j o p=>GF N r0 l a b c h d f m j g i o p)
def AM (r0:LA→O R) (l:Int) (a:LA) (b:Nat) (c:Bool) (h:Int) (d f:Nat) (g i:LA) (k2:Int→Int→Nat→LA→O R) (q3:Int→Int→Nat→LA→O R) (q4:Int→Int→Nat→Nat→LA→LA→O R) (an af:Int) (ag:Nat) (ah:LA):O R :=
 (cond ((decide (an>0))==true) (cond (cond true (decide (l>1)) false) (q3 an af ag ah) (Ae N 3 a b false c af fun cv cw=>q4 (wrap .i64 (1+cv)) cw ag 0 ah [])) (Ae N 3 a b false c af fun cx cy=>q4 (wrap .i64 (1+cx)) cy ag 0 ah []))
def Qo (r0:LA→O R) (l:Int) (a:LA) (b:Nat) (c:Bool) (h:Int) (d f:Nat) (g i:LA):Nat→Int→Int→Nat→LA→O R
 | 0=>fun _ _ _ _=>none
 | n+1=>AM N r0 l a b c h d f g i (Qo r0 l a b c h d f g i n) (QS N (Qo r0 l a b c h d f g i n) r0 l a b c h d f g i) (Qn N r0 l a b c h d f g i N)
def JK (r0:LA→O R) (a:LA) (b:Nat) (c:Bool) (h:Int) (d f:Nat) (g i:LA) (k1:Int→Int→Int→Nat→LA→O R) (q2:Int→Int→Int→Nat→LA→O R) (l z ao:Int) (v:Nat) (ap:LA):O R :=
 (cond (decide (z<l)) (Ae N z a b false c ao fun cz da=>U5 N (v:Int) cz z h a b false c da fun bj db=>cond ((beq (bj.length) 12)&&(ble 12 12)) (cond ((ble (v+1) 140737488355328)&&(ble ((v+1)*120) 140737488355328)) (k1 l (wrap .i64 (z+1)) db (v+1) ((ap.take (v*12))++((setCells [(.str ([]:Lu)),(.int .i64 0),(.int .i64 0),(.int .i64 0),(.int .i64 0),(.int .i64 0),(.int .i64 0),(.int .i64 0),(.int .i64 0),(.int .i64 0),(.int .i64 0),.nsl] 0 bj).take 12))) none) none) (Ae N 5 a b false c ao fun dc dd=>q2 l dc dd v ap))
def Ya (r0:LA→O R) (a:LA) (b:Nat) (c:Bool) (h:Int) (d f:Nat) (g i:LA):Nat→Int→Int→Int→Nat→LA→O R
 | 0=>fun _ _ _ _ _=>none
 | n+1=>JK N r0 a b c h d f g i (Ya r0 a b c h d f g i n) (fun l=>Qo N r0 l a b c h d f g i N)
def AN (r0:LA→O R) (a:LA) (b:Nat) (c:Bool) (d:Nat) (g:LA) (k0:Int→Int→Int→Nat→LA→O R) (q1:Int→Nat→LA→Int→Int→Int→Nat→LA→O R) (ai aq h:Int) (f:Nat) (i:LA):O R :=
 (cond (decide (ai>0)) (PK N ([98]:Lu) (f:Int) fun bk=>Gr N h 14 a b false c aq fun ar de bl=>Ae N 2 a b false c de fun df bm=>cond (df==1) (Ae N 200 a b false c bm fun dg dh=>cond ((ble (f+1) 140737488355328)&&(ble ((f+1)*48) 140737488355328)) (k0 (wrap .i64 (ai - 1)) dh h (f+1) ((i.take (f*3))++[(.str bk),(.imm (bl.take (ar*1)) ar 1 false false),(.int .i64 (wrap .i64 (100+dg)))])) none) (cond ((ble (f+1) 140737488355328)&&(ble ((f+1)*48) 140737488355328)) (k0 (wrap .i64 (ai - 1)) bm h (f+1) ((i.take (f*3))++[(.str bk),(.imm (bl.take (ar*1)) ar 1 false false),(.int .i64 0)])) none)) (q1 h f i (f:Int) 1 aq 0 []))
def Nk (r0:LA→O R) (a:LA) (b:Nat) (c:Bool) (d:Nat) (g:LA):Nat→Int→Int→Int→Nat→LA→O R
 | 0=>fun _ _ _ _ _=>none
 | n+1=>AN N r0 a b c d g (Nk r0 a b c d g n) (fun h f i=>Ya N r0 a b c h d f g i N)
def iq (r0:LA→O R) (q0:Nat→LA→Int→Int→Int→Nat→LA→O R) (a:LA) (b:Nat) (y c:Bool):O R :=
 (Af9 N a b false c (Ae N 3 a b false c 0 fun bn di=>Gr N (wrap .i64 (1+bn)) 5 a b false c di fun d dj g=>Ae N 4 a b false c dj fun dk dl=>q0 d g (wrap .i64 (1+dk)) dl (wrap .i64 (1+bn)) 0 []))
def JL:=(Ac fun N a b y c r0=>iq (R:=R) N r0 (fun d g=>Nk N r0 a b c d g N) a b y c).1
theorem oC (a b y c r0):(@JL R N a b y c r0)=(iq N r0 (fun d g=>Nk N r0 a b c d g N) a b y c):=by rw[JL,(Ac _).2]
def si:Hints:={ H:=(hK 4 (hS (hK 1 (hS (hP [2,3,4,5] hL) hL)) (hK 1 (hS (hK 1 (hS (hP [2,3,4,7,8] hL) hL)) (hS (hK 1 (hS (hP [2,3,4,7,9] (hJ [2,3,4,7,9] hL hL)) hL)) (hS (hK 1 (hS (hP [2,3,4,7,11] hL) hL)) (hJ [2,3,4,7] hL (hJ [2,3,4] hL (hS (hK 1 (hS (hP [2,3,4,13] (hJ [2,3,4,13] hL hL)) hL)) hL))))))))),modes:=[(3,0)],cob:=[23,44,192] }
def xG:Wp:=[An7 N,Ly N,pN N,ZP N,rk N,rn N,kf N,Adj N]
def Nl (F:KF R):=Mw Tryz.f13 si (xG N) [] N F
def Agx (l:Int) (a:LA) (b:Nat) (c:Bool) (h:Int) (d f:Nat) (g i:LA) (K:St→O R):=fun au av w aw=>K ⟨[(2,(op 0)),(3,(op 1)),(4,(op 2)),(7,(iv l)),(9,(iv au))],(hq [(bN 0 [(iv 0),.nsl,.nsl,.nsl,.nsl,.nsl,.nsl,.nsl]),(bN 0 [(.imm a b 1 false c),(iv av)]),(bN 0 [(iv h),(.own 300003 0 d),(.own 300004 0 f),(.own 300005 0 w),(.own 300006 0 0),(.own 300007 0 0),(.own 300008 0 0),(.own 300009 0 0)]),(bQ 1 g),(bQ 3 i),(bQ 12 aw),(bQ 22 []),(bQ 9 []),(bQ 5 []),(bQ 4 [])])⟩
def Agy (a:LA) (b:Nat) (c:Bool) (h:Int) (d f m j q s:Nat) (g i o p r t:LA) (K:St→O R):=fun aj ax u aa=>K ⟨[(2,(op 0)),(3,(op 1)),(4,(op 2)),(13,(iv aj))],(hq [(bN 0 [(iv 0),.nsl,.nsl,.nsl,.nsl,.nsl,.nsl,.nsl]),(bN 0 [(.imm a b 1 false c),(iv ax)]),(bN 0 [(iv h),(.own 300003 0 d),(.own 300004 0 f),(.own 300005 0 m),(.own 300006 0 j),(.own 300007 0 q),(.own 300008 0 s),(.own 300009 0 u)]),(bQ 1 g),(bQ 3 i),(bQ 12 o),(bQ 22 p),(bQ 9 r),(bQ 5 t),(bQ 4 aa)])⟩
def sj (a:LA) (b:Nat) (c:Bool) (h:Int) (d f m j q s:Nat) (g i o p r t:LA) (K:St→O R):=fun ak ay x ac=>K ⟨[(2,(op 0)),(3,(op 1)),(4,(op 2)),(13,(iv ak))],(hq [(bN 0 [(iv 0),.nsl,.nsl,.nsl,.nsl,.nsl,.nsl,.nsl]),(bN 0 [(.imm a b 1 false c),(iv ay)]),(bN 0 [(iv h),(.own 300003 0 d),(.own 300004 0 f),(.own 300005 0 m),(.own 300006 0 j),(.own 300007 0 q),(.own 300008 0 s),(.own 300009 0 x)]),(bQ 1 g),(bQ 3 i),(bQ 12 o),(bQ 22 p),(bQ 9 r),(bQ 5 t),(bQ 4 ac)])⟩
def Agz (a:LA) (b:Nat) (c:Bool) (h:Int) (d f m j q:Nat) (g i o p r:LA) (K:St→O R):=fun ad s t=>K ⟨[(2,(op 0)),(3,(op 1)),(4,(op 2))],(hq [(bN 0 [(iv 0),.nsl,.nsl,.nsl,.nsl,.nsl,.nsl,.nsl]),(bN 0 [(.imm a b 1 false c),(iv ad)]),(bN 0 [(iv h),(.own 300003 0 d),(.own 300004 0 f),(.own 300005 0 m),(.own 300006 0 j),(.own 300007 0 q),(.own 300008 0 s),(.own 300009 0 0)]),(bQ 1 g),(bQ 3 i),(bQ 12 o),(bQ 22 p),(bQ 9 r),(bQ 5 t),(bQ 4 [])])⟩
def Ag0 (l:Int) (a:LA) (b:Nat) (c:Bool) (h:Int) (d f m j:Nat) (g i o p:LA) (K:St→O R):=fun ae q r=>K ⟨[(2,(op 0)),(3,(op 1)),(4,(op 2)),(7,(iv l))],(hq [(bN 0 [(iv 0),.nsl,.nsl,.nsl,.nsl,.nsl,.nsl,.nsl]),(bN 0 [(.imm a b 1 false c),(iv ae)]),(bN 0 [(iv h),(.own 300003 0 d),(.own 300004 0 f),(.own 300005 0 m),(.own 300006 0 j),(.own 300007 0 q),(.own 300008 0 0),(.own 300009 0 0)]),(bQ 1 g),(bQ 3 i),(bQ 12 o),(bQ 22 p),(bQ 9 r),(bQ 5 []),(bQ 4 [])])⟩
def Ag1 (l:Int) (a:LA) (b:Nat) (c:Bool) (h:Int) (d f:Nat) (g i:LA) (K:St→O R):=fun al am m j o p=>K ⟨[(2,(op 0)),(3,(op 1)),(4,(op 2)),(7,(iv l)),(11,(iv al))],(hq [(bN 0 [(iv 0),.nsl,.nsl,.nsl,.nsl,.nsl,.nsl,.nsl]),(bN 0 [(.imm a b 1 false c),(iv am)]),(bN 0 [(iv h),(.own 300003 0 d),(.own 300004 0 f),(.own 300005 0 m),(.own 300006 0 j),(.own 300007 0 0),(.own 300008 0 0),(.own 300009 0 0)]),(bQ 1 g),(bQ 3 i),(bQ 12 o),(bQ 22 p),(bQ 9 []),(bQ 5 []),(bQ 4 [])])⟩
def sk (l:Int) (a:LA) (b:Nat) (c:Bool) (h:Int) (d f:Nat) (g i:LA) (K:St→O R):=fun an af ag ah=>K ⟨[(2,(op 0)),(3,(op 1)),(4,(op 2)),(7,(iv l)),(9,(iv an))],(hq [(bN 0 [(iv 0),.nsl,.nsl,.nsl,.nsl,.nsl,.nsl,.nsl]),(bN 0 [(.imm a b 1 false c),(iv af)]),(bN 0 [(iv h),(.own 300003 0 d),(.own 300004 0 f),(.own 300005 0 ag),(.own 300006 0 0),(.own 300007 0 0),(.own 300008 0 0),(.own 300009 0 0)]),(bQ 1 g),(bQ 3 i),(bQ 12 ah),(bQ 22 []),(bQ 9 []),(bQ 5 []),(bQ 4 [])])⟩
def Ag2 (a:LA) (b:Nat) (c:Bool) (h:Int) (d f:Nat) (g i:LA) (K:St→O R):=fun l z ao v ap=>K ⟨[(2,(op 0)),(3,(op 1)),(4,(op 2)),(7,(iv l)),(8,(iv z))],(hq [(bN 0 [(iv 0),.nsl,.nsl,.nsl,.nsl,.nsl,.nsl,.nsl]),(bN 0 [(.imm a b 1 false c),(iv ao)]),(bN 0 [(iv h),(.own 300003 0 d),(.own 300004 0 f),(.own 300005 0 v),(.own 300006 0 0),(.own 300007 0 0),(.own 300008 0 0),(.own 300009 0 0)]),(bQ 1 g),(bQ 3 i),(bQ 12 ap),(bQ 22 []),(bQ 9 []),(bQ 5 []),(bQ 4 [])])⟩
def Ag3 (a:LA) (b:Nat) (c:Bool) (d:Nat) (g:LA) (K:St→O R):=fun ai aq h f i=>K ⟨[(2,(op 0)),(3,(op 1)),(4,(op 2)),(5,(iv ai))],(hq [(bN 0 [(iv 0),.nsl,.nsl,.nsl,.nsl,.nsl,.nsl,.nsl]),(bN 0 [(.imm a b 1 false c),(iv aq)]),(bN 0 [(iv h),(.own 300003 0 d),(.own 300004 0 f),(.own 300005 0 0),(.own 300006 0 0),(.own 300007 0 0),(.own 300008 0 0),(.own 300009 0 0)]),(bQ 1 g),(bQ 3 i),(bQ 12 []),(bQ 22 []),(bQ 9 []),(bQ 5 []),(bQ 4 [])])⟩
theorem vG (Q2) (F:KF R) (l a b c h d f g i):Agx l a b c h d f g i (Bq (Nl N F (pz 22369345) [Q2]))=(QS N (sk l a b c h d f g i Q2) (P6 F) l a b c h d f g i):=by kernel_rfl
theorem vH (Q7) (F:KF R) (a b c h d f m j q s g i o p r t):Agy a b c h d f m j q s g i o p r t (Bq (Nl N F (pz 5726622785) [Q7]))=(QT N (sj a b c h d f m j q s g i o p r t Q7) (P6 F) a b c h d f m j q s g i o p r t):=by kernel_rfl
theorem vI (F:KF R) (a b c h d f m j q s g i o p r t):∀ n,sj a b c h d f m j q s g i o p r t (Ap (Nl N F (pz 357913924) []) n)=(Iv N (P6 F) a b c h d f m j q s g i o p r t n):=Fs fun n e=>(BL (AK N (P6 F) a b c h d f m j q s g i o p r t) e ((jW ..).trans ((vH ..).trans (pK (QT _ · _ _ _ _ _ _ _ _ _ _ _ _ _ _ _ _ _) e))):_)
theorem vJ (F:KF R) (a b c h d f m j q g i o p r):Agz a b c h d f m j q g i o p r (Bq (Nl N F (pz 5592405) []))=(QU N (P6 F) a b c h d f m j q g i o p r):=(Cs (WV N (P6 F) a b c h d f m j q g i o p r) (VO fun s t=>(lW ..).trans (vI ..)):_)
theorem vK (F:KF R) (l a b c h d f m j g i o p):Ag0 l a b c h d f m j g i o p (Bq (Nl N F (pz 1398101) []))=(GF N (P6 F) l a b c h d f m j g i o p):=(Cs (JJ N (P6 F) l a b c h d f m j g i o p) (VO fun q r=>(jW ..).trans (vJ ..)):_)
theorem vL (F:KF R) (l a b c h d f g i):∀ n,Ag1 l a b c h d f g i (Ap (Nl N F (pz 5592388) []) n)=(Qn N (P6 F) l a b c h d f g i n):=Fs fun n e=>(BL (AL N (P6 F) l a b c h d f g i) e (Af6 fun m j o p=>(jW ..).trans (vK ..)):_)
theorem vM (F:KF R) (l a b c h d f g i):∀ n,sk l a b c h d f g i (Ap (Nl N F (pz 1398084) []) n)=(Qo N (P6 F) l a b c h d f g i n):=Fs fun n e=>(Aya (AM N (P6 F) l a b c h d f g i) e ((jW ..).trans ((vG ..).trans (pK (QS _ · _ _ _ _ _ _ _ _ _ _) e))) ((lW ..).trans (vL ..)):_)
theorem vN (F:KF R) (a b c h d f g i):∀ n,Ag2 a b c h d f g i (Ap (Nl N F (pz 349508) []) n)=(Ya N (P6 F) a b c h d f g i n):=Fs fun n e=>(BL (JK N (P6 F) a b c h d f g i) e (Aqw fun l=>(lW ..).trans (vM ..)):_)
theorem vO (F:KF R) (a b c d g):∀ n,Ag3 a b c d g (Ap (Nl N F (pz 21828) []) n)=(Nk N (P6 F) a b c d g n):=Fs fun n e=>(BL (AN N (P6 F) a b c d g) e (Aq6 fun h f i=>(lW ..).trans (vN ..)):_)
def xH:=Cp N 13 (xG N) si (fun
 | [(.imm a b 1 y c)],[]=>some fun _ k=>JL N a b y c (P6 k)
 | _,_=>none) fun _ _=>by split;intro R F;exact(Cs (iq N (P6 F) · _ _ _ _) (VO fun d g=>(lW ..).trans (vO ..)):_).trans (oC ..).symm;trivial
def Vq (N:Nat) (r0:Bool→O R) (c:LA) (g:Nat) (b:Bool) (a:LA) (k1:Bool→Int→Int→O R) (m:Bool) (j h:Int):O R :=
 (cond (decide (h<j)) (cond (Ag h g) (cond (ble 5 ((c.drop ((h.toNat)*5)).length)) (cond ((beq 0 0)&&((beq (((c.drop ((h.toNat)*5)).take 5).length) 5)&&(beq 5 5))) (cond (m==true) (Bb 1 (((c.drop ((h.toNat)*5)).take 5).drop 2) fun z p=>Aw .i64 a fun q=>cond ((cond true ((p:Int)==q) false)==true) (Bb 1 (((c.drop ((h.toNat)*5)).take 5).drop 3) fun aa r=>Aw .i64 a fun s=>cond ((cond true ((r:Int)==s) false)==true) (Bb 1 (((c.drop ((h.toNat)*5)).take 5).drop 4) fun ab t=>Aw .i64 a fun u=>k1 (cond true ((t:Int)==u) false) j (wrap .i64 (h+1))) (k1 false j (wrap .i64 (h+1)))) (k1 false j (wrap .i64 (h+1)))) (k1 false j (wrap .i64 (h+1)))) none) none) none) (r0 m))
def Oy (r0:Bool→O R) (c:LA) (g:Nat) (b:Bool) (a:LA):Nat→Bool→Int→Int→O R
 | 0=>fun _ _ _=>none
 | n+1=>Vq N r0 c g b a (Oy r0 c g b a n)
def Vr (N:Nat) (r0:Bool→O R) (d:LA) (f:Nat) (b:Bool) (a:LA) (k0:Bool→Int→Int→O R) (q1:LA→Nat→Bool→Int→Int→O R) (o:Bool) (l i:Int):O R :=
 (cond (decide (i<l)) (cond (Ag i f) (cond (ble 3 ((d.drop ((i.toNat)*3)).length)) (cond ((beq 0 0)&&((beq (((d.drop ((i.toNat)*3)).take 3).length) 3)&&(beq 3 3))) (cond (o==true) (Bb 1 (((d.drop ((i.toNat)*3)).take 3).drop 1) fun ac v=>Aw .i64 a fun w=>k0 (cond true ((v:Int)==w) false) l (wrap .i64 (i+1))) (k0 false l (wrap .i64 (i+1)))) none) none) none) (Bb 5 (a.drop 6) fun c g=>q1 c g o (g:Int) 0))
def K4 (r0:Bool→O R) (d:LA) (f:Nat) (b:Bool) (a:LA):Nat→Bool→Int→Int→O R
 | 0=>fun _ _ _=>none
 | n+1=>Vr N r0 d f b a (K4 r0 d f b a n) (fun c g=>Oy N r0 c g b a N)
def JM (N:Nat) (r0:Bool→O R) (q0:LA→Nat→Bool→Int→Int→O R) (a:LA) (b:Bool):O R :=
 (Bb 1 (a.drop 1) fun ad x=>Aw .i64 a fun y=>Bb 3 (a.drop 2) fun d f=>q0 d f ((x:Int)==y) (f:Int) 0)
def GG:=(Ac fun N a b r0=>JM (R:=R) N r0 (fun d f=>K4 N r0 d f b a N) a b).1
theorem WW (a b r0):(@GG R N a b r0)=(JM N r0 (fun d f=>K4 N r0 d f b a N) a b):=by rw[GG,(Ac _).2]
def d_:Hints:={ H:=(hK 2 (hS (hK 1 (hS (hP [1,3,15,16,17] hL) hL)) (hS (hK 1 (hS (hP [1,3,32,33,34] hL) hL)) hL))) }
def eA (F:KF R):=Mw Tryz.f47 d_ [] [] N F
def vP (c:LA) (g:Nat) (b:Bool) (a:LA) (K:St→O R):=fun m j h=>K ⟨[(1,(op 0)),(3,(.bool m)),(32,(.imm c g 5 false b)),(33,(iv j)),(34,(iv h))],(hq [(bP b 0 a)])⟩
def vR (d:LA) (f:Nat) (b:Bool) (a:LA) (K:St→O R):=fun o l i=>K ⟨[(1,(op 0)),(3,(.bool o)),(15,(.imm d f 3 false b)),(16,(iv l)),(17,(iv i))],(hq [(bP b 0 a)])⟩
theorem lT (F:KF R) (c g b a):∀ n,vP c g b a (Ap (eA N F (pz 5444) []) n)=(Oy N (Bh F) c g b a n):=Fs fun n e=>(Cs (Vq N (Bh F) c g b a) e:_)
theorem lU (F:KF R) (d f b a):∀ n,vR d f b a (Ap (eA N F (pz 1348) []) n)=(K4 N (Bh F) d f b a n):=Fs fun n e=>(BL (Vr N (Bh F) d f b a) e (VO fun c g=>(lW ..).trans (lT ..)):_)
def zc:=Cp N 47 [] d_ (fun
 | [(.pagg a b)],[]=>some fun _ k=>GG N a b (Bh k)
 | _,_=>none) fun _ _=>by split;intro R F;exact(Cs (JM N (Bh F) · _ _) (VO fun d f=>(lW ..).trans (lU ..)):_).trans (WW ..).symm;trivial
def Vs (N:Nat) (r0:Int→O R) (b:LA) (a:Nat) (d f:Bool) (c:Lu) (k0:Int→O R) (g:Int):O R :=
 (cond (decide (g<(a:Int))) (cond (Ag g a) (Li (b.drop ((g.toNat)*1)) fun h=>cond (h==c) (r0 g) (k0 (wrap .i64 (g+1)))) none) (r0 (-1)))
def Mp (r0:Int→O R) (b:LA) (a:Nat) (d f:Bool) (c:Lu):Nat→Int→O R
 | 0=>fun _=>none
 | n+1=>Vs N r0 b a d f c (Mp r0 b a d f c n)
def aB (N:Nat) (r0:Int→O R) (q0:Int→O R) (b:LA) (a:Nat) (d f:Bool) (c:Lu):O R :=
 (q0 0)
def iw:=(Ac fun N b a d f c r0=>aB (R:=R) N r0 (Mp N r0 b a d f c N) b a d f c).1
theorem ix (b a d f c r0):(@iw R N b a d f c r0)=(aB N r0 (Mp N r0 b a d f c N) b a d f c):=by rw[iw,(Ac _).2]
def oD:Hints:={ H:=(hK 1 (hS (hK 1 (hS (hP [0,1,5] hL) hL)) hL)) }
def Adk (F:KF R):=Mw Tryz.f49 oD [] [] N F
def Adl (b:LA) (a:Nat) (d f:Bool) (c:Lu) (K:St→O R):=fun g=>K ⟨[(0,(.imm b a 1 d f)),(1,(.str c)),(5,(iv g))],[]⟩
theorem sr (F:KF R) (b a d f c):∀ n,Adl b a d f c (Ap (Adk N F (pz 324) []) n)=(Mp N (Jc F) b a d f c n):=Fs fun n e=>(Cs (Vs N (Jc F) b a d f c) e:_)
def Ag4:=Cp N 49 [] oD (fun
 | [(.imm b a 1 d f),(.str c)],[]=>some fun _ k=>iw N b a d f c (Jc k)
 | _,_=>none) fun _ _=>by split;intro R F;exact(Cs (aB N (Jc F) · _ _ _ _ _) ((lW ..).trans (sr ..)):_).trans (ix ..).symm;trivial
def zd (N:Nat) (a b:Int) (r0:Bool→O R):O R :=
 (cond ((decide (a≥0))==true) (r0 (cond true (decide (a<b)) false)) (r0 false))
def GH:=(Ac (@zd R)).1
theorem su:@GH R=@zd R:=(Ac _).2
def Aox:=Cp N 97 [] Ca (fun
 | [(.int .i64 a),(.int .i64 b)],[]=>some fun _ k=>GH N a b (Bh k)
 | _,_=>none) fun _ _=>by split;intro R F;dsimp only;rw[su];kernel_rfl;trivial
def Zl (k4:Bool→Int→Int→O R) (r0:Bool→O R) (d:LA) (f:Nat) (a:Bool) (g:Int) (i:LA) (p:Nat) (b:LA) (k6:Bool→Int→Int→Int→O R) (al:Bool) (ae af x:Int):O R :=
 (cond (decide (x<af)) (cond (Ag x p) (cond (ble 3 ((i.drop ((x.toNat)*3)).length)) (cond ((!a)||(A2 ((i.drop ((x.toNat)*3)).take 3))) (cond ((beq (((i.drop ((x.toNat)*3)).take 3).length) 3)&&((ble 3 3)&&(!false))) (cond (al==true) (Aw .i64 (setCells [(.int .i64 0),(.int .i64 0),(.int .i64 0)] 0 ((i.drop ((x.toNat)*3)).take 3)) fun au=>Bb 22 (b.drop 4) fun bn av=>GH N au (av:Int) fun aw=>k6 (cond true aw false) ae af (wrap .i64 (x+1))) (k6 false ae af (wrap .i64 (x+1)))) none) none) none) none) (k4 al g (wrap .i64 (ae+1))))
def Rl (k4:Bool→Int→Int→O R) (r0:Bool→O R) (d:LA) (f:Nat) (a:Bool) (g:Int) (i:LA) (p:Nat) (b:LA):Nat→Bool→Int→Int→Int→O R
 | 0=>fun _ _ _ _=>none
 | n+1=>Zl N k4 r0 d f a g i p b (Rl k4 r0 d f a g i p b n)
def Zm (k4:Bool→Int→Int→O R) (r0:Bool→O R) (d:LA) (f:Nat) (a:Bool) (g:Int) (u:LA) (q:Nat) (b:LA) (k5:Bool→Int→Int→Int→LA→O R) (q6:LA→Nat→Bool→Int→Int→Int→O R) (am:Bool) (ag ah ab:Int) (ai:LA):O R :=
 (cond (decide (ab<ah)) (cond (Ag ab q) (Aw .i64 (u.drop ((ab.toNat)*1)) fun ax=>cond (am==true) (Bb 12 (b.drop 3) fun bo ay=>GH N ax (ay:Int) fun az=>k5 (cond true az false) ag ah (wrap .i64 (ab+1)) ai) (k5 false ag ah (wrap .i64 (ab+1)) ai)) none) (Bb 3 (ai.drop 3) fun i p=>q6 i p am ag (p:Int) 0))
def Nm (k4:Bool→Int→Int→O R) (r0:Bool→O R) (d:LA) (f:Nat) (a:Bool) (g:Int) (u:LA) (q:Nat) (b:LA):Nat→Bool→Int→Int→Int→LA→O R
 | 0=>fun _ _ _ _ _=>none
 | n+1=>Zm N k4 r0 d f a g u q b (Nm k4 r0 d f a g u q b n) (fun i p=>Rl N k4 r0 d f a g i p b N)
def Zn (N:Nat) (r0:Bool→O R) (d:LA) (f:Nat) (a:Bool) (b:LA) (k4:Bool→Int→Int→O R) (q5:Int→LA→Nat→Bool→Int→Int→Int→LA→O R) (an:Bool) (g y:Int):O R :=
 (cond (decide (y<g)) (cond (Ag y f) (cond (ble 4 ((d.drop ((y.toNat)*4)).length)) (cond ((beq 0 0)&&((beq (((d.drop ((y.toNat)*4)).take 4).length) 4)&&(beq 4 4))) (Bb 1 (((d.drop ((y.toNat)*4)).take 4).drop 1) fun u q=>q5 g u q an y (q:Int) 0 ((d.drop ((y.toNat)*4)).take 4)) none) none) none) (r0 an))
def H4 (r0:Bool→O R) (d:LA) (f:Nat) (a:Bool) (b:LA):Nat→Bool→Int→Int→O R
 | 0=>fun _ _ _=>none
 | n+1=>Zn N r0 d f a b (H4 r0 d f a b n) (fun g u q=>Nm N (H4 r0 d f a b n) r0 d f a g u q b N)
def Zo (r0:Bool→O R) (c:Int) (m:LA) (r:Nat) (a:Bool) (b:LA) (k3:Bool→Int→Int→O R) (q4:LA→Nat→Bool→Int→Int→O R) (ao:Bool) (aj z:Int):O R :=
 (cond (decide (z<aj)) (cond (Ag z r) (cond (ble 5 ((m.drop ((z.toNat)*5)).length)) (cond ((beq 0 0)&&((beq (((m.drop ((z.toNat)*5)).take 5).length) 5)&&(beq 5 5))) (cond (ao==true) (Aw .i64 (((m.drop ((z.toNat)*5)).take 5).drop 1) fun ba=>GH N ba c fun bb=>k3 (cond true bb false) aj (wrap .i64 (z+1))) (k3 false aj (wrap .i64 (z+1)))) none) none) none) (Bb 4 (b.drop 7) fun d f=>q4 d f ao (f:Int) 0))
def J3 (r0:Bool→O R) (c:Int) (m:LA) (r:Nat) (a:Bool) (b:LA):Nat→Bool→Int→Int→O R
 | 0=>fun _ _ _=>none
 | n+1=>Zo N r0 c m r a b (J3 r0 c m r a b n) (fun d f=>H4 N r0 d f a b N)
def Zp (r0:Bool→O R) (c:Int) (o:LA) (s:Nat) (a:Bool) (b:LA) (k2:Bool→Int→Int→O R) (q3:LA→Nat→Bool→Int→Int→O R) (ap:Bool) (ak aa:Int):O R :=
 (cond (decide (aa<ak)) (cond (Ag aa s) (cond (ble 9 ((o.drop ((aa.toNat)*9)).length)) (cond ((beq 0 0)&&((beq (((o.drop ((aa.toNat)*9)).take 9).length) 9)&&(beq 9 9))) (cond (ap==true) (Aw .i64 (((o.drop ((aa.toNat)*9)).take 9).drop 1) fun bc=>GH N bc c fun bd=>k2 (cond true bd false) ak (wrap .i64 (aa+1))) (k2 false ak (wrap .i64 (aa+1)))) none) none) none) (Bb 5 (b.drop 6) fun m r=>q3 m r ap (r:Int) 0))
def J4 (r0:Bool→O R) (c:Int) (o:LA) (s:Nat) (a:Bool) (b:LA):Nat→Bool→Int→Int→O R
 | 0=>fun _ _ _=>none
 | n+1=>Zp N r0 c o s a b (J4 r0 c o s a b n) (fun m r=>J3 N r0 c m r a b N)
def Zq (r0:Bool→O R) (c:Int) (j:LA) (t:Nat) (a:Bool) (b:LA) (k1:Bool→Int→Int→O R) (q2:LA→Nat→Bool→Int→Int→O R) (aq:Bool) (ac v:Int):O R :=
 (cond (decide (v<ac)) (cond (Ag v t) (cond (ble 22 ((j.drop ((v.toNat)*22)).length)) (cond ((beq 0 0)&&((beq (((j.drop ((v.toNat)*22)).take 22).length) 22)&&(beq 22 22))) (cond (aq==true) (Aw .i64 (((j.drop ((v.toNat)*22)).take 22).drop 1) fun be=>GH N be c fun bf=>cond ((cond true bf false)==true) (Aw .i64 (((j.drop ((v.toNat)*22)).take 22).drop 19) fun bg=>GH N bg 3 fun bh=>k1 (cond true bh false) ac (wrap .i64 (v+1))) (k1 false ac (wrap .i64 (v+1)))) (k1 false ac (wrap .i64 (v+1)))) none) none) none) (Bb 9 (b.drop 5) fun o s=>q2 o s aq (s:Int) 0))
def J5 (r0:Bool→O R) (c:Int) (j:LA) (t:Nat) (a:Bool) (b:LA):Nat→Bool→Int→Int→O R
 | 0=>fun _ _ _=>none
 | n+1=>Zq N r0 c j t a b (J5 r0 c j t a b n) (fun o s=>J4 N r0 c o s a b N)
def Zr (r0:Bool→O R) (h:LA) (l:Nat) (a:Bool) (b:LA) (k0:Int→Bool→Int→Int→O R) (q1:Int→LA→Nat→Bool→Int→Int→O R) (c:Int) (ar:Bool) (ad w:Int):O R :=
 (cond (decide (w<ad)) (cond (Ag w l) (cond (ble 12 ((h.drop ((w.toNat)*12)).length)) (cond ((beq 0 0)&&((beq (((h.drop ((w.toNat)*12)).take 12).length) 12)&&(beq 12 12))) (cond (ar==true) (Aw .i64 (((h.drop ((w.toNat)*12)).take 12).drop 1) fun bi=>GH N bi c fun bj=>cond ((cond true bj false)==true) (Aw .i64 (((h.drop ((w.toNat)*12)).take 12).drop 2) fun bk=>GH N bk c fun bl=>k0 c (cond true bl false) ad (wrap .i64 (w+1))) (k0 c false ad (wrap .i64 (w+1)))) (k0 c false ad (wrap .i64 (w+1)))) none) none) none) (Bb 22 (b.drop 4) fun j t=>q1 c j t ar (t:Int) 0))
def Nn (r0:Bool→O R) (h:LA) (l:Nat) (a:Bool) (b:LA):Nat→Int→Bool→Int→Int→O R
 | 0=>fun _ _ _ _=>none
 | n+1=>Zr N r0 h l a b (Nn r0 h l a b n) (fun c j t=>J5 N r0 c j t a b N)
def QV (N:Nat) (r0:Bool→O R) (q0:LA→Nat→Int→Bool→Int→Int→O R) (b:LA) (a:Bool):O R :=
 (Bb 3 (b.drop 2) fun bp bm=>Bb 12 (b.drop 3) fun h l=>q0 h l (bm:Int) true (l:Int) 0)
def EK:=(Ac fun N b a r0=>QV (R:=R) N r0 (fun h l=>Nn N r0 h l a b N) b a).1
theorem eC (b a r0):(@EK R N b a r0)=(QV N r0 (fun h l=>Nn N r0 h l a b N) b a):=by rw[EK,(Ac _).2]
def iy:Hints:={ H:=(hK 2 (hS (hK 1 (hS (hP [1,3,4,23,24,25] hL) hL)) (hS (hK 1 (hS (hP [1,3,4,44,45,46] hL) hL)) (hS (hK 1 (hS (hP [1,3,4,64,65,66] hL) hL)) (hS (hK 1 (hS (hP [1,3,4,79,80,81] hL) hL)) (hS (hK 1 (hS (hP [1,4,94,95,96] (hK 2 (hS (hS (hK 1 (hS (hK 1 (hS (hP [1,4,14,94,95,96,101,102,103] hL) hL)) (hK 1 (hS (hP [1,4,94,95,96,117,118,119] hL) hL)))) hL) hL))) hL)) hL)))))) }
def oE:Wp:=[Aox N]
def No (F:KF R):=Mw Tryz.f50 iy (oE N) [] N F
def ze (d:LA) (f:Nat) (a:Bool) (g:Int) (i:LA) (p:Nat) (b:LA) (K:St→O R):=fun al ae af x=>K ⟨[(1,(op 0)),(4,(.bool al)),(94,(.imm d f 4 false a)),(95,(iv g)),(96,(iv ae)),(117,(.imm i p 3 false a)),(118,(iv af)),(119,(iv x))],(hq [(bP a 0 b)])⟩
def zf (d:LA) (f:Nat) (a:Bool) (g:Int) (u:LA) (q:Nat) (b:LA) (K:St→O R):=fun am ag ah ab ai=>K ⟨[(1,(op 0)),(4,(.bool am)),(14,(op 1)),(94,(.imm d f 4 false a)),(95,(iv g)),(96,(iv ag)),(101,(.imm u q 1 false a)),(102,(iv ah)),(103,(iv ab))],(hq [(bP a 0 b),(bP a 0 ai)])⟩
def Vt (d:LA) (f:Nat) (a:Bool) (b:LA) (K:St→O R):=fun an g y=>K ⟨[(1,(op 0)),(4,(.bool an)),(94,(.imm d f 4 false a)),(95,(iv g)),(96,(iv y))],(hq [(bP a 0 b)])⟩
def zg (c:Int) (m:LA) (r:Nat) (a:Bool) (b:LA) (K:St→O R):=fun ao aj z=>K ⟨[(1,(op 0)),(3,(iv c)),(4,(.bool ao)),(79,(.imm m r 5 false a)),(80,(iv aj)),(81,(iv z))],(hq [(bP a 0 b)])⟩
def zh (c:Int) (o:LA) (s:Nat) (a:Bool) (b:LA) (K:St→O R):=fun ap ak aa=>K ⟨[(1,(op 0)),(3,(iv c)),(4,(.bool ap)),(64,(.imm o s 9 false a)),(65,(iv ak)),(66,(iv aa))],(hq [(bP a 0 b)])⟩
def zi (c:Int) (j:LA) (t:Nat) (a:Bool) (b:LA) (K:St→O R):=fun aq ac v=>K ⟨[(1,(op 0)),(3,(iv c)),(4,(.bool aq)),(44,(.imm j t 22 false a)),(45,(iv ac)),(46,(iv v))],(hq [(bP a 0 b)])⟩
def zj (h:LA) (l:Nat) (a:Bool) (b:LA) (K:St→O R):=fun c ar ad w=>K ⟨[(1,(op 0)),(3,(iv c)),(4,(.bool ar)),(23,(.imm h l 12 false a)),(24,(iv ad)),(25,(iv w))],(hq [(bP a 0 b)])⟩
theorem qD (Q4) (F:KF R) (d f a g i p b):∀ n,ze d f a g i p b (Ap (No N F (pz 91621445716) [Q4]) n)=(Rl N (Vt d f a b Q4) (Bh F) d f a g i p b n):=Fs fun n e=>(Cs (Zl N (Vt d f a b Q4) (Bh F) d f a g i p b) e:_)
theorem qE (Q4) (F:KF R) (d f a g u q b):∀ n,zf d f a g u q b (Ap (No N F (pz 91621445700) [Q4]) n)=(Nm N (Vt d f a b Q4) (Bh F) d f a g u q b n):=Fs fun n e=>(BL (Zm N (Vt d f a b Q4) (Bh F) d f a g u q b) e (VO fun i p=>(lW ..).trans (qD ..)):_)
theorem qF (F:KF R) (d f a b):∀ n,Vt d f a b (Ap (No N F (pz 349508) []) n)=(H4 N (Bh F) d f a b n):=Fs fun n e=>(BL (Zn N (Bh F) d f a b) e (Aq6 fun g u q=>(lW ..).trans ((qE ..).trans (pK (Nm _ · _ _ _ _ _ _ _ _ _) e))):_)
theorem qG (F:KF R) (c m r a b):∀ n,zg c m r a b (Ap (No N F (pz 87364) []) n)=(J3 N (Bh F) c m r a b n):=Fs fun n e=>(BL (Zo N (Bh F) c m r a b) e (VO fun d f=>(lW ..).trans (qF ..)):_)
theorem qH (F:KF R) (c o s a b):∀ n,zh c o s a b (Ap (No N F (pz 21828) []) n)=(J4 N (Bh F) c o s a b n):=Fs fun n e=>(BL (Zp N (Bh F) c o s a b) e (VO fun m r=>(lW ..).trans (qG ..)):_)
theorem qI (F:KF R) (c j t a b):∀ n,zi c j t a b (Ap (No N F (pz 5444) []) n)=(J5 N (Bh F) c j t a b n):=Fs fun n e=>(BL (Zq N (Bh F) c j t a b) e (VO fun o s=>(lW ..).trans (qH ..)):_)
theorem qJ (F:KF R) (h l a b):∀ n,zj h l a b (Ap (No N F (pz 1348) []) n)=(Nn N (Bh F) h l a b n):=Fs fun n e=>(BL (Zr N (Bh F) h l a b) e (Aq6 fun c j t=>(lW ..).trans (qI ..)):_)
def Adm:=Cp N 50 (oE N) iy (fun
 | [(.pagg b a)],[]=>some fun _ k=>EK N b a (Bh k)
 | _,_=>none) fun _ _=>by split;intro R F;exact(Cs (QV N (Bh F) · _ _) (VO fun h l=>(lW ..).trans (qJ ..)):_).trans (eC ..).symm;trivial
def GI (r0:Lu→O R) (a:LA) (b:Nat) (d c:Bool) (k1:Nat→Lu→LA→O R) (i:Nat) (h:Lu) (j:LA):O R :=
 (T5 N (j.take (i*1)) i false true [(.int .u32 10)] 1 false true fun l m u q r=>M8 N (r.take (m*1)) m false true fun f v=>cond ((decide (0≤f))&&((decide (f≤(wrap .u64 (f+1))))&&((decide ((wrap .u64 (f+1))≤10))&&(decide ((10:Int)≤(10:Int)))))) (cond (ble ((List.length (take (((wrap .u64 (f+1)).toNat) - (f.toNat)) (drop (f.toNat) ([48,49,50,51,52,53,54,55,56,57]:Lu))))+(h.length)) 140737488355328) (cond ((l:Int)==0) (r0 ((take (((wrap .u64 (f+1)).toNat) - (f.toNat)) (drop (f.toNat) ([48,49,50,51,52,53,54,55,56,57]:Lu)))++h)) (k1 l ((take (((wrap .u64 (f+1)).toNat) - (f.toNat)) (drop (f.toNat) ([48,49,50,51,52,53,54,55,56,57]:Lu)))++h) q)) none) none)
def Sy (r0:Lu→O R) (a:LA) (b:Nat) (d c:Bool):Nat→Nat→Lu→LA→O R
 | 0=>fun _ _ _=>none
 | n+1=>GI N r0 a b d c (Sy r0 a b d c n)
def GJ (r0:Lu→O R) (a:LA) (b:Nat) (d c:Bool) (k0:O R) (k1:Nat→Lu→LA→O R):O R :=
 (T5 N a b false c [(.int .u32 10)] 1 false true fun o p w s t=>M8 N (t.take (p*1)) p false true fun g x=>cond ((decide (0≤g))&&((decide (g≤(wrap .u64 (g+1))))&&((decide ((wrap .u64 (g+1))≤10))&&(decide ((10:Int)≤(10:Int)))))) (cond (ble (List.length (take (((wrap .u64 (g+1)).toNat) - (g.toNat)) (drop (g.toNat) ([48,49,50,51,52,53,54,55,56,57]:Lu)))) 140737488355328) (cond ((o:Int)==0) (r0 ((take (((wrap .u64 (g+1)).toNat) - (g.toNat)) (drop (g.toNat) ([48,49,50,51,52,53,54,55,56,57]:Lu)))++([]:Lu))) (k1 o ((take (((wrap .u64 (g+1)).toNat) - (g.toNat)) (drop (g.toNat) ([48,49,50,51,52,53,54,55,56,57]:Lu)))++([]:Lu)) s)) none) none)
def Sz (r0:Lu→O R) (a:LA) (b:Nat) (d c:Bool):Nat→O R
 | 0=>none
 | n+1=>GJ N r0 a b d c (Sz r0 a b d c n) (Sy N r0 a b d c n)
def JN (N:Nat) (r0:Lu→O R) (q0:O R) (a:LA) (b:Nat) (d c:Bool):O R :=
 q0
def Yb:=(Ac fun N a b d c r0=>JN (R:=R) N r0 (Sz N r0 a b d c N) a b d c).1
theorem WX (a b d c r0):(@Yb R N a b d c r0)=(JN N r0 (Sz N r0 a b d c N) a b d c):=by rw[Yb,(Ac _).2]
def eD:Hints:={ H:=(hK 2 (hS (hP [0,3] hL) hL)) }
def iz:Wp:=[yt N,iQ N]
def eE (F:KF R):=Mw Tryz.f143 eD (iz N) [] N F
def vS (a:LA) (b:Nat) (d c:Bool) (K:St→O R):=fun i h j=>K ⟨[(0,(.own 300000 0 i)),(3,(.str h))],(hq [(bQ 1 j)])⟩
def vT (a:LA) (b:Nat) (d c:Bool) (K:St→O R):=K ⟨[(0,(.imm a b 1 d c)),(3,(.str ([]:Lu)))],[]⟩
theorem lV (F:KF R) (a b d c):∀ n,vS a b d c (Ap (eE N F (pz 84) []) n)=(Sy N (gk F) a b d c n):=Fs fun n e=>(Cs (GI N (gk F) a b d c) e:_)
theorem lX (F:KF R) (a b d c):∀ n,vT a b d c (Ap (eE N F (pz 84) []) n)=(Sz N (gk F) a b d c n):=Fs fun n e=>(BL (GJ N (gk F) a b d c) e (lV ..):_)
def zk:=Cp N 143 (iz N) eD (fun
 | [(.imm a b 1 d c)],[]=>some fun _ k=>Yb N a b d c (gk k)
 | _,_=>none) fun _ _=>by split;intro R F;exact(Cs (JN N (gk F) · _ _ _ _) ((lW ..).trans (lX ..)):_).trans (WX ..).symm;trivial
def GK (a:LA) (b:Bool) (r0:Lu→O R):O R :=
 (cond (ble 2 (a.length)) (iN N (a.take 2) b fun c=>cond ((beq (c.length) 2)&&((ble 2 (a.length))&&(!false))) (OP (setCells a 0 c) fun e=>cond e (Bb 1 ((setCells a 0 c).drop 1) fun f g=>Yb N f g false (b||false) fun d=>cond (ble (1+(d.length)) 140737488355328) (r0 (([45]:Lu)++d)) none) (Bb 1 ((setCells a 0 c).drop 1) fun h i=>Yb N h i false (b||false) fun j=>r0 j)) none) none)
def S4:=(Ac (@GK R)).1
theorem JO:@S4 R=@GK R:=(Ac _).2
def qK:=Cp N 130 [Agl N,zk N] Ca (fun
 | [(.pagg a b)],[]=>some fun _ k=>S4 N a b (gk k)
 | _,_=>none) fun _ _=>by split;intro R F;dsimp only;rw[JO];kernel_rfl;trivial
def Iw (k0:Int→Lu→Bool→O R) (r0:Lu→Bool→O R) (b:LA) (a:Nat) (c d:Bool) (f:Lu) (g:Bool) (j:Int) (l:Lu) (o:Bool):O R :=
 (cond (Ag j a) (Aw .i64 (b.drop ((j.toNat)*1)) fun q=>AE N q fun r=>S4 N r false fun p=>cond (ble (1+(p.length)) 140737488355328) (cond (ble ((l.length)+(List.length (([32]:Lu)++p))) 140737488355328) (k0 (wrap .i64 (j+1)) (l++(([32]:Lu)++p)) o) none) none) none)
def Lq (N:Nat) (r0:Lu→Bool→O R) (b:LA) (a:Nat) (c d:Bool) (f:Lu) (g:Bool) (k0:Int→Lu→Bool→O R) (q1:Int→Lu→Bool→O R) (h:Int) (i:Lu) (m:Bool):O R :=
 (cond (decide (h<(a:Int))) (cond (m==false) (cond (Ag h a) (Aw .i64 (b.drop ((h.toNat)*1)) fun s=>cond ((cond false true (decide (s<(-1073741824))))==false) (cond (Ag h a) (Aw .i64 (b.drop ((h.toNat)*1)) fun t=>q1 h i (cond false true (decide (t>1073741824)))) none) (q1 h i true)) none) (q1 h i true)) (r0 i m))
def Cw (r0:Lu→Bool→O R) (b:LA) (a:Nat) (c d:Bool) (f:Lu) (g:Bool):Nat→Int→Lu→Bool→O R
 | 0=>fun _ _ _=>none
 | n+1=>Lq N r0 b a c d f g (Cw r0 b a c d f g n) (Iw N (Cw r0 b a c d f g n) r0 b a c d f g)
def Rm (N:Nat) (r0:Lu→Bool→O R) (q0:Int→Lu→Bool→O R) (b:LA) (a:Nat) (c d:Bool) (f:Lu) (g:Bool):O R :=
 (q0 0 f g)
def Ah:=(Ac fun N b a c d f g r0=>Rm (R:=R) N r0 (Cw N r0 b a c d f g N) b a c d f g).1
theorem CN (b a c d f g r0):(@Ah R N b a c d f g r0)=(Rm N r0 (Cw N r0 b a c d f g N) b a c d f g):=by rw[Ah,(Ac _).2]
def GL:Hints:={ H:=(hK 1 (hS (hP [0,1,4] (hK 1 (hS (hS (hJ [0,1,4] hL hL) hL) hL))) hL)) }
def JP:Wp:=[ur N,qK N]
def GM (F:KF R):=Mw Tryz.f98 GL (JP N) [100000] N F
def f6 (b:LA) (a:Nat) (c d:Bool) (f:Lu) (g:Bool) (K:St→O R):=fun j l o=>K ⟨[(0,(.optr 100000 0)),(1,(.imm b a 1 c d)),(4,(iv j))],[(100000,(bN 0 [(.str l),(.bool o)]))]⟩
def GN (b:LA) (a:Nat) (c d:Bool) (f:Lu) (g:Bool) (K:St→O R):=fun h i m=>K ⟨[(0,(.optr 100000 0)),(1,(.imm b a 1 c d)),(4,(iv h))],[(100000,(bN 0 [(.str i),(.bool m)]))]⟩
theorem UA (Q0) (F:KF R) (b a c d f g):f6 b a c d f g (Bq (GM N F (pz 20545) [Q0]))=(Iw N (GN b a c d f g Q0) (P7 F) b a c d f g):=by kernel_rfl
theorem UB (F:KF R) (b a c d f g):∀ n,GN b a c d f g (Ap (GM N F (pz 20) []) n)=(Cw N (P7 F) b a c d f g n):=Fs fun n e=>(BL (Lq N (P7 F) b a c d f g) e ((jW ..).trans ((UA ..).trans (pK (Iw _ · _ _ _ _ _ _ _) e))):_)
def J6:=Cp N 98 (JP N) GL (fun
 | [(.optr 100000 0),(.imm b a 1 c d)],[(100000,⟨false,false,false,false,0,[(.str f),(.bool g)],false,none⟩)]=>some fun _ k=>Ah N b a c d f g (P7 k)
 | _,_=>none) fun _ _=>by split;intro R F;exact(Cs (Rm N (P7 F) · _ _ _ _ _ _) ((lW ..).trans (UB ..)):_).trans (CN ..).symm;trivial
def Lr (N:Nat) (r0:Lu→O R) (c:LA) (b:Nat) (d f a:Bool) (k0:Int→Lu→O R) (h:Int) (i:Lu):O R :=
 (cond (decide (h<(b:Int))) (cond (Ag h b) (Li (c.drop ((h.toNat)*1)) fun j=>cond (ble (1+(j.length)) 140737488355328) (cond (ble ((i.length)+(List.length (([32]:Lu)++j))) 140737488355328) (k0 (wrap .i64 (h+1)) (i++(([32]:Lu)++j))) none) none) none) (r0 i))
def Ek (r0:Lu→O R) (c:LA) (b:Nat) (d f a:Bool):Nat→Int→Lu→O R
 | 0=>fun _ _=>none
 | n+1=>Lr N r0 c b d f a (Ek r0 c b d f a n)
def Rn (N:Nat) (r0:Lu→O R) (q0:Int→Lu→O R) (c:LA) (b:Nat) (d f:Bool) (g:Lu) (a:Bool):O R :=
 (q0 0 g)
def An:=(Ac fun N c b d f g a r0=>Rn (R:=R) N r0 (Ek N r0 c b d f a N) c b d f g a).1
theorem CO (c b d f g a r0):(@An R N c b d f g a r0)=(Rn N r0 (Ek N r0 c b d f a N) c b d f g a):=by rw[An,(Ac _).2]
def GO:Hints:={ H:=(hK 1 (hS (hP [0,1,4] hL) hL)) }
def f7 (F:KF R):=Mw Tryz.f99 GO [] [100000] N F
def Np (a:Bool) (F:KF R):Lu→O R:=(fun l=>F (.tup []) [(100000,(bN 0 [(.str l),(.bool a)]))])
def f8 (c:LA) (b:Nat) (d f a:Bool) (K:St→O R):=fun h i=>K ⟨[(0,(.optr 100000 0)),(1,(.imm c b 1 d f)),(4,(iv h))],[(100000,(bN 0 [(.str i),(.bool a)]))]⟩
theorem UC (F:KF R) (c b d f a):∀ n,f8 c b d f a (Ap (f7 N F (pz 20) []) n)=(Ek N (Np a F) c b d f a n):=Fs fun n e=>(Cs (Lr N (Np a F) c b d f a) e:_)
def Pf:=Cp N 99 [] GO (fun
 | [(.optr 100000 0),(.imm c b 1 d f)],[(100000,⟨false,false,false,false,0,[(.str g),(.bool a)],false,none⟩)]=>some fun _ k=>An N c b d f g a (Np a k)
 | _,_=>none) fun _ _=>by split;rename_i c b d f g a;intro R F;exact(Cs (Rn N (Np a F) · c b d f g a) ((lW ..).trans (UC ..)):_).trans (CO ..).symm;trivial
def Hv (k0:Int→Lu→Bool→O R) (r0:Lu→Bool→O R) (b:LA) (a:Nat) (c d:Bool) (f:Lu) (g:Bool) (j:Int) (p:Lu) (q:Bool):O R :=
 (cond (Ag j a) (Aw .i64 (b.drop ((j.toNat)*2)) fun r=>Ah N [(.int .i64 r)] 1 false true p q fun h s=>cond (Ag j a) (Aw .i64 ((b.drop ((j.toNat)*2)).drop 1) fun t=>Ah N [(.int .i64 t)] 1 false true h s fun i u=>cond (ble ((h.length)+1) 140737488355328) (cond ((decide (0≤(wrap .i64 ((((h.length):Nat):Int)+1))))&&((decide ((wrap .i64 ((((h.length):Nat):Int)+1))≤(((i.length):Nat):Int)))&&((decide ((((i.length):Nat):Int)≤(((i.length):Nat):Int)))&&(decide ((((i.length):Nat):Int)≤(((i.length):Nat):Int)))))) (cond (ble ((List.length (h++([47]:Lu)))+(List.length (take ((i.length) - ((wrap .i64 ((((h.length):Nat):Int)+1)).toNat)) (drop ((wrap .i64 ((((h.length):Nat):Int)+1)).toNat) i)))) 140737488355328) (k0 (wrap .i64 (j+1)) ((h++([47]:Lu))++(take ((i.length) - ((wrap .i64 ((((h.length):Nat):Int)+1)).toNat)) (drop ((wrap .i64 ((((h.length):Nat):Int)+1)).toNat) i))) u) none) none) none) none) none)
def J7 (N:Nat) (r0:Lu→Bool→O R) (b:LA) (a:Nat) (c d:Bool) (f:Lu) (g:Bool) (k0:Int→Lu→Bool→O R) (q1:Int→Lu→Bool→O R) (l:Int) (m:Lu) (o:Bool):O R :=
 (cond (decide (l<(a:Int))) (cond (o==false) (cond (Ag l a) (Aw .i64 ((b.drop ((l.toNat)*2)).drop 1) fun v=>q1 l m (cond false true (decide (v<1)))) none) (q1 l m true)) (r0 m o))
def Ci (r0:Lu→Bool→O R) (b:LA) (a:Nat) (c d:Bool) (f:Lu) (g:Bool):Nat→Int→Lu→Bool→O R
 | 0=>fun _ _ _=>none
 | n+1=>J7 N r0 b a c d f g (Ci r0 b a c d f g n) (Hv N (Ci r0 b a c d f g n) r0 b a c d f g)
def Pg (N:Nat) (r0:Lu→Bool→O R) (q0:Int→Lu→Bool→O R) (b:LA) (a:Nat) (c d:Bool) (f:Lu) (g:Bool):O R :=
 (q0 0 f g)
def C3:=(Ac fun N b a c d f g r0=>Pg (R:=R) N r0 (Ci N r0 b a c d f g N) b a c d f g).1
theorem AO (b a c d f g r0):(@C3 R N b a c d f g r0)=(Pg N r0 (Ci N r0 b a c d f g N) b a c d f g):=by rw[C3,(Ac _).2]
def CP:Hints:={ H:=(hK 1 (hS (hP [0,1,4] (hK 1 (hS (hS (hJ [0,1,4] hL hL) hL) hL))) hL)) }
def GP:Wp:=[J6 N]
def CQ (F:KF R):=Mw Tryz.f102 CP (GP N) [100000] N F
def bT (b:LA) (a:Nat) (c d:Bool) (f:Lu) (g:Bool) (K:St→O R):=fun j p q=>K ⟨[(0,(.optr 100000 0)),(1,(.imm b a 2 c d)),(4,(iv j))],[(100000,(bN 0 [(.str p),(.bool q)]))]⟩
def CS (b:LA) (a:Nat) (c d:Bool) (f:Lu) (g:Bool) (K:St→O R):=fun l m o=>K ⟨[(0,(.optr 100000 0)),(1,(.imm b a 2 c d)),(4,(iv l))],[(100000,(bN 0 [(.str m),(.bool o)]))]⟩
theorem QW (Q0) (F:KF R) (b a c d f g):bT b a c d f g (Bq (CQ N F (pz 20545) [Q0]))=(Hv N (CS b a c d f g Q0) (P7 F) b a c d f g):=by kernel_rfl
theorem QX (F:KF R) (b a c d f g):∀ n,CS b a c d f g (Ap (CQ N F (pz 20) []) n)=(Ci N (P7 F) b a c d f g n):=Fs fun n e=>(BL (J7 N (P7 F) b a c d f g) e ((jW ..).trans ((QW ..).trans (pK (Hv _ · _ _ _ _ _ _ _) e))):_)
def GQ:=Cp N 102 (GP N) CP (fun
 | [(.optr 100000 0),(.imm b a 2 c d)],[(100000,⟨false,false,false,false,0,[(.str f),(.bool g)],false,none⟩)]=>some fun _ k=>C3 N b a c d f g (P7 k)
 | _,_=>none) fun _ _=>by split;intro R F;exact(Cs (Pg N (P7 F) · _ _ _ _ _ _) ((lW ..).trans (QX ..)):_).trans (AO ..).symm;trivial
def Vu (c:LA) (f:Bool) (a:LA) (b:Bool) (d:Lu) (e:Bool) (r0:Lu→Bool→O R):O R :=
 (cond (ble ((d.length)+4) 140737488355328) (Li a fun n=>Bb 3 (c.drop 2) fun o p=>Aw .i64 (a.drop 1) fun g=>cond (Ag g p) (Li (o.drop ((g.toNat)*3)) fun q=>Bb 3 (c.drop 2) fun r s=>Aw .i64 (a.drop 2) fun h=>cond (Ag h s) (Li (r.drop ((h.toNat)*3)) fun t=>An N [(.str n),(.str q),(.str t),(.str ([120]:Lu))] 4 false true (d++([108,105,110,101]:Lu)) e fun u=>cond (ble 2 ((a.drop 3).length)) (cond ((!b)||(A2 ((a.drop 3).take 2))) (cond ((beq (((a.drop 3).take 2).length) 2)&&(ble 2 2)) (C3 N ((setCells [(.int .i64 0),(.int .i64 0)] 0 ((a.drop 3).take 2)).take 2) 1 false true u e fun v i=>An N [(.str ([115,104,105,102,116]:Lu))] 1 false true v i fun w=>cond (ble 2 ((a.drop 5).length)) (cond ((!b)||(A2 ((a.drop 5).take 2))) (cond (ble 2 ((a.drop 7).length)) (cond ((!b)||(A2 ((a.drop 7).take 2))) (cond ((beq (((a.drop 5).take 2).length) 2)&&(ble 2 4)) (cond ((beq (((a.drop 7).take 2).length) 2)&&(ble 4 ((setCells [(.int .i64 0),(.int .i64 0),(.int .i64 0),(.int .i64 0)] 0 ((a.drop 5).take 2)).length))) (C3 N ((setCells (setCells [(.int .i64 0),(.int .i64 0),(.int .i64 0),(.int .i64 0)] 0 ((a.drop 5).take 2)) 2 ((a.drop 7).take 2)).take 4) 2 false true w i fun x j=>An N [(.str ([108,105,109,105,116]:Lu))] 1 false true x j fun y=>Aw .i64 (a.drop 9) fun z=>Aw .i64 (a.drop 10) fun aa=>Ah N [(.int .i64 z),(.int .i64 aa)] 2 false true y j fun ab l=>An N [(.str ([97,119,97,121]:Lu))] 1 false true ab l fun ac=>Bb 1 (a.drop 11) fun ad ae=>Ah N ad ae false b ac l fun m af=>cond (ble ((m.length)+1) 140737488355328) (r0 (m++([10]:Lu)) af) none) none) none) none) none) none) none) none) none) none) none) none) none)
def Ro:=(Ac (@Vu R)).1
theorem AP:@Ro R=@Vu R:=(Ac _).2
def f9:=Cp N 100 [Pf N,GQ N,J6 N] Ca (fun
 | [(.optr 100000 0),(.pagg c f),(.pagg a b)],[(100000,⟨false,false,false,false,0,[(.str d),(.bool e)],false,none⟩)]=>some fun _ k=>Ro N c f a b d e (P7 k)
 | _,_=>none) fun _ _=>by split;intro R F;dsimp only;rw[AP];kernel_rfl;trivial
def J8 (r0:Lu→Bool→O R) (b:Bool) (a:LA) (k0:Int→Lu→Bool→O R) (f:Int) (j:Lu) (i:Bool):O R :=
 (Bb 2 (a.drop 4) fun cg z=>cond (decide (f<(z:Int))) (Bb 2 (a.drop 4) fun aa ab=>cond (Ag f ab) (Aw .i64 (aa.drop ((f.toNat)*2)) fun ac=>Bb 2 (a.drop 4) fun ad ae=>cond (Ag f ae) (Aw .i64 ((ad.drop ((f.toNat)*2)).drop 1) fun af=>Ah N [(.int .i64 ac),(.int .i64 af)] 2 false true j i fun ag ah=>k0 (wrap .i64 (f+1)) ag ah) none) none) (An N [(.str ([110,111,108,111,97,100]:Lu))] 1 false true j i fun ai=>Aw .i64 (a.drop 5) fun aj=>Ah N [(.int .i64 aj)] 1 false true ai i fun ak l=>An N [(.str ([114,97,109,112]:Lu))] 1 false true ak l fun al=>Aw .i64 (a.drop 6) fun am=>Aw .i64 (a.drop 7) fun an=>Ah N [(.int .i64 am),(.int .i64 an)] 2 false true al l fun ao m=>An N [(.str ([115,116,97,114,116]:Lu))] 1 false true ao m fun ap=>Aw .i64 (a.drop 8) fun aq=>Ah N [(.int .i64 aq)] 1 false true ap m fun ar o=>An N [(.str ([115,116,111,112]:Lu))] 1 false true ar o fun au=>Aw .i64 (a.drop 9) fun av=>Ah N [(.int .i64 av)] 1 false true au o fun aw p=>An N [(.str ([116,105,109,101,115]:Lu))] 1 false true aw p fun ax=>Aw .i64 (a.drop 10) fun ay=>Aw .i64 (a.drop 11) fun az=>Aw .i64 (a.drop 12) fun ba=>Ah N [(.int .i64 ay),(.int .i64 az),(.int .i64 ba)] 3 false true ax p fun bb q=>An N [(.str ([99,111,115,116]:Lu))] 1 false true bb q fun bc=>Aw .i64 (a.drop 13) fun bd=>Aw .i64 (a.drop 14) fun be=>Aw .i64 (a.drop 15) fun bf=>Ah N [(.int .i64 bd),(.int .i64 be),(.int .i64 bf)] 3 false true bc q fun bg r=>An N [(.str ([114,101,115,101,114,118,101]:Lu))] 1 false true bg r fun bh=>Aw .i64 (a.drop 16) fun bi=>Aw .i64 (a.drop 17) fun bj=>Ah N [(.int .i64 bi),(.int .i64 bj)] 2 false true bh r fun bk s=>An N [(.str ([97,119,97,121]:Lu))] 1 false true bk s fun bl=>Bb 1 (a.drop 18) fun bm bn=>Ah N bm bn false b bl s fun bo t=>Aw .i64 (a.drop 19) fun u=>cond (Ag u 3) (Li (drop (0+((u.toNat)*1)) [(.str ([111,102,102]:Lu)),(.str ([115,116,97,114,116,105,110,103]:Lu)),(.str ([111,110]:Lu))]) fun bp=>An N [(.str ([115,116,97,116,101]:Lu)),(.str bp)] 2 false true bo t fun bq=>Aw .i64 (a.drop 20) fun br=>Aw .i64 (a.drop 21) fun bs=>Ah N [(.int .i64 br),(.int .i64 bs)] 2 false true bq t fun v bt=>cond (ble ((v.length)+1) 140737488355328) (r0 (v++([10]:Lu)) bt) none) none))
def C5 (r0:Lu→Bool→O R) (b:Bool) (a:LA):Nat→Int→Lu→Bool→O R
 | 0=>fun _ _ _=>none
 | n+1=>J8 N r0 b a (C5 r0 b a n)
def Ph (r0:Lu→Bool→O R) (q0:Int→Lu→Bool→O R) (g:LA) (h:Bool) (a:LA) (b:Bool) (c:Lu) (d:Bool):O R :=
 (cond (ble ((c.length)+4) 140737488355328) (Li a fun bu=>Bb 3 (g.drop 2) fun bv bw=>Aw .i64 (a.drop 1) fun w=>cond (Ag w bw) (Li (bv.drop ((w.toNat)*3)) fun bx=>An N [(.str bu),(.str bx),(.str ([109,105,110]:Lu))] 3 false true (c++([117,110,105,116]:Lu)) d fun bz=>Aw .i64 (a.drop 2) fun ca=>Ah N [(.int .i64 ca)] 1 false true bz d fun cb x=>An N [(.str ([109,97,120]:Lu))] 1 false true cb x fun cc=>Aw .i64 (a.drop 3) fun cd=>Ah N [(.int .i64 cd)] 1 false true cc x fun ce y=>An N [(.str ([115,101,103,109,101,110,116,115]:Lu))] 1 false true ce y fun cf=>q0 0 cf y) none) none)
def Mg:=(Ac fun N g h a b c d r0=>Ph (R:=R) N r0 (C5 N r0 b a N) g h a b c d).1
theorem AQ (g h a b c d r0):(@Mg R N g h a b c d r0)=(Ph N r0 (C5 N r0 b a N) g h a b c d):=by rw[Mg,(Ac _).2]
def CT:Hints:={ H:=(hK 7 (hS (hK 1 (hS (hP [0,5,6] hL) hL)) hL)) }
def GR:Wp:=[Pf N,J6 N]
def bU (F:KF R):=Mw Tryz.f101 CT (GR N) [100000] N F
def bV (b:Bool) (a:LA) (K:St→O R):=fun f j i=>K ⟨[(0,(.optr 100000 0)),(5,(op 0)),(6,(iv f))],[(100000,(bN 0 [(.str j),(.bool i)])),(300000,(bP b 0 a))]⟩
theorem QY (F:KF R) (b a):∀ n,bV b a (Ap (bU N F (pz 1398084) []) n)=(C5 N (P7 F) b a n):=Fs fun n e=>(Cs (J8 N (P7 F) b a) e:_)
def f_:=Cp N 101 (GR N) CT (fun
 | [(.optr 100000 0),(.pagg g h),(.pagg a b)],[(100000,⟨false,false,false,false,0,[(.str c),(.bool d)],false,none⟩)]=>some fun _ k=>Mg N g h a b c d (P7 k)
 | _,_=>none) fun _ _=>by split;intro R F;exact(Cs (Ph N (P7 F) · _ _ _ _ _ _) ((lW ..).trans (QY ..)):_).trans (AQ ..).symm;trivial
def H5 (r0:Lu→Bool→O R) (d:Bool) (c:LA) (f:Bool) (a:LA) (b:Bool) (k1:Int→Lu→Bool→O R) (g:Int) (l:Lu) (m:Bool):O R :=
 (Bb 3 (a.drop 3) fun aq q=>cond (decide (g<(q:Int))) (Bb 22 (c.drop 4) fun r s=>Bb 3 (a.drop 3) fun t u=>cond (Ag g u) (Aw .i64 (t.drop ((g.toNat)*3)) fun o=>cond (Ag o s) (Li (r.drop ((o.toNat)*22)) fun v=>An N [(.str v)] 1 false true l m fun w=>Bb 3 (a.drop 3) fun x y=>cond (Ag g y) (Aw .i64 ((x.drop ((g.toNat)*3)).drop 1) fun z=>Bb 3 (a.drop 3) fun aa ab=>cond (Ag g ab) (Aw .i64 ((aa.drop ((g.toNat)*3)).drop 2) fun ac=>Ah N [(.int .i64 z),(.int .i64 ac)] 2 false true w m fun ad ae=>k1 (wrap .i64 (g+1)) ad ae) none) none) none) none) (cond (ble ((l.length)+1) 140737488355328) (r0 (l++([10]:Lu)) m) none))
def D8 (r0:Lu→Bool→O R) (d:Bool) (c:LA) (f:Bool) (a:LA) (b:Bool):Nat→Int→Lu→Bool→O R
 | 0=>fun _ _ _=>none
 | n+1=>H5 N r0 d c f a b (D8 r0 d c f a b n)
def H6 (r0:Lu→Bool→O R) (b d:Bool) (c:LA) (f:Bool) (a:LA) (k0:Int→Lu→O R) (q1:Int→Lu→Bool→O R) (i:Int) (j:Lu):O R :=
 (Bb 1 (a.drop 1) fun ar af=>cond (decide (i<(af:Int))) (Bb 12 (c.drop 3) fun ag ah=>Bb 1 (a.drop 1) fun ai aj=>cond (Ag i aj) (Aw .i64 (ai.drop ((i.toNat)*1)) fun p=>cond (Ag p ah) (Li (ag.drop ((p.toNat)*12)) fun ak=>An N [(.str ak)] 1 false true j b fun al=>k0 (wrap .i64 (i+1)) al) none) none) (OP (a.drop 2) fun am=>cond am (An N [(.str ([99,111,114,114,101,99,116,105,118,101]:Lu))] 1 false true j b fun an=>q1 0 an b) (cond (ble ((j.length)+1) 140737488355328) (r0 (j++([10]:Lu)) b) none)))
def C9 (r0:Lu→Bool→O R) (b d:Bool) (c:LA) (f:Bool) (a:LA):Nat→Int→Lu→O R
 | 0=>fun _ _=>none
 | n+1=>H6 N r0 b d c f a (C9 r0 b d c f a n) (D8 N r0 d c f a b N)
def Ls (r0:Lu→Bool→O R) (q0:Int→Lu→O R) (c:LA) (d:Bool) (a:LA) (f:Bool) (h:Lu) (b:Bool):O R :=
 (cond (ble ((h.length)+6) 140737488355328) (Li a fun ao=>An N [(.str ao),(.str ([108,105,110,101,115]:Lu))] 2 false true (h++([111,117,116,97,103,101]:Lu)) b fun ap=>q0 0 ap) none)
def Ix:=(Ac fun N c d a f h b r0=>Ls (R:=R) N r0 (C9 N r0 b d c f a N) c d a f h b).1
theorem Vv (c d a f h b r0):(@Ix R N c d a f h b r0)=(Ls N r0 (C9 N r0 b d c f a N) c d a f h b):=by rw[Ix,(Ac _).2]
def W1:Hints:={ H:=(hK 3 (hS (hK 1 (hS (hP [0,4,5,6] hL) hL)) (hS (hK 1 (hS (hK 2 (hS (hP [0,4,5,7] hL) hL)) hL)) hL))) }
def AR:Wp:=[Pf N,J6 N]
def W2 (F:KF R):=Mw Tryz.f103 W1 (AR N) [100000] N F
def UD (d:Bool) (c:LA) (f:Bool) (a:LA) (b:Bool) (K:St→O R):=fun g l m=>K ⟨[(0,(.optr 100000 0)),(4,(op 0)),(5,(op 1)),(7,(iv g))],[(100000,(bN 0 [(.str l),(.bool m)])),(300000,(bP d 0 c)),(300001,(bP f 0 a))]⟩
def UE (b d:Bool) (c:LA) (f:Bool) (a:LA) (K:St→O R):=fun i j=>K ⟨[(0,(.optr 100000 0)),(4,(op 0)),(5,(op 1)),(6,(iv i))],[(100000,(bN 0 [(.str j),(.bool b)])),(300000,(bP d 0 c)),(300001,(bP f 0 a))]⟩
theorem LJ (F:KF R) (d c f a b):∀ n,UD d c f a b (Ap (W2 N F (pz 1397012) []) n)=(D8 N (P7 F) d c f a b n):=Fs fun n e=>(Cs (H5 N (P7 F) d c f a b) e:_)
theorem LK (F:KF R) (b d c f a):∀ n,UE b d c f a (Ap (W2 N F (pz 5444) []) n)=(C9 N (P7 F) b d c f a n):=Fs fun n e=>(BL (H6 N (P7 F) b d c f a) e ((lW ..).trans (LJ ..)):_)
def WY:=Cp N 103 (AR N) W1 (fun
 | [(.optr 100000 0),(.pagg c d),(.pagg a f)],[(100000,⟨false,false,false,false,0,[(.str h),(.bool b)],false,none⟩)]=>some fun _ k=>Ix N c d a f h b (P7 k)
 | _,_=>none) fun _ _=>by split;intro R F;exact(Cs (Ls N (P7 F) · _ _ _ _ _ _) ((lW ..).trans (LK ..)):_).trans (Vv ..).symm;trivial
def J9 (r0:Lu→Bool→O R) (g:LA) (m:Nat) (a:Bool) (b:LA) (k5:Int→Int→Lu→Bool→O R) (af u:Int) (ag:Lu) (ah:Bool):O R :=
 (cond (decide (u<af)) (cond (Ag u m) (cond (ble 4 ((g.drop ((u.toNat)*4)).length)) (cond ((beq 0 0)&&((beq (((g.drop ((u.toNat)*4)).take 4).length) 4)&&(beq 4 4))) (cond (ble 8 (b.length)) (cond (ble 4 (((g.drop ((u.toNat)*4)).take 4).length)) (Ix N (b.take 8) a (((g.drop ((u.toNat)*4)).take 4).take 4) a ag ah fun bg bh=>k5 af (wrap .i64 (u+1)) bg bh) none) none) none) none) none) (r0 ag ah))
def Fm (r0:Lu→Bool→O R) (g:LA) (m:Nat) (a:Bool) (b:LA):Nat→Int→Int→Lu→Bool→O R
 | 0=>fun _ _ _ _=>none
 | n+1=>J9 N r0 g m a b (Fm r0 g m a b n)
def Ka (r0:Lu→Bool→O R) (d:LA) (o:Nat) (a:Bool) (b:LA) (k4:Int→Int→Lu→Bool→O R) (q5:LA→Nat→Int→Int→Lu→Bool→O R) (ai s:Int) (z:Lu) (aa:Bool):O R :=
 (cond (decide (s<ai)) (cond (Ag s o) (cond (ble 5 ((d.drop ((s.toNat)*5)).length)) (cond ((beq 0 0)&&((beq (((d.drop ((s.toNat)*5)).take 5).length) 5)&&(beq 5 5))) (cond (ble ((z.length)+3) 140737488355328) (Li ((d.drop ((s.toNat)*5)).take 5) fun bi=>Bb 3 (b.drop 2) fun bj bk=>Aw .i64 (((d.drop ((s.toNat)*5)).take 5).drop 1) fun ar=>cond (Ag ar bk) (Li (bj.drop ((ar.toNat)*3)) fun bl=>An N [(.str bi),(.str bl),(.str ([105,109,112,111,114,116]:Lu))] 3 false true (z++([116,105,101]:Lu)) aa fun bm=>Bb 1 (((d.drop ((s.toNat)*5)).take 5).drop 2) fun bn bo=>Ah N bn bo false a bm aa fun bp au=>An N [(.str ([101,120,112,111,114,116]:Lu))] 1 false true bp au fun bq=>Bb 1 (((d.drop ((s.toNat)*5)).take 5).drop 3) fun br bs=>Ah N br bs false a bq au fun bt av=>An N [(.str ([112,114,105,99,101]:Lu))] 1 false true bt av fun bu=>Bb 1 (((d.drop ((s.toNat)*5)).take 5).drop 4) fun bv bw=>Ah N bv bw false a bu av fun aw bx=>cond (ble ((aw.length)+1) 140737488355328) (k4 ai (wrap .i64 (s+1)) (aw++([10]:Lu)) bx) none) none) none) none) none) none) (Bb 4 (b.drop 7) fun g m=>q5 g m (m:Int) 0 z aa))
def Dw (r0:Lu→Bool→O R) (d:LA) (o:Nat) (a:Bool) (b:LA):Nat→Int→Int→Lu→Bool→O R
 | 0=>fun _ _ _ _=>none
 | n+1=>Ka N r0 d o a b (Dw r0 d o a b n) (fun g m=>Fm N r0 g m a b N)
def Kb (r0:Lu→Bool→O R) (c:LA) (p:Nat) (a:Bool) (b:LA) (k3:Int→Int→Lu→Bool→O R) (q4:LA→Nat→Int→Int→Lu→Bool→O R) (aj h:Int) (ab:Lu) (ac:Bool):O R :=
 (cond (decide (h<aj)) (cond (Ag h p) (cond (ble 9 ((c.drop ((h.toNat)*9)).length)) (cond ((beq 0 0)&&((beq (((c.drop ((h.toNat)*9)).take 9).length) 9)&&(beq 9 9))) (cond (ble ((ab.length)+5) 140737488355328) (Li ((c.drop ((h.toNat)*9)).take 9) fun bz=>Bb 3 (b.drop 2) fun ca cb=>Aw .i64 (((c.drop ((h.toNat)*9)).take 9).drop 1) fun ax=>cond (Ag ax cb) (Li (ca.drop ((ax.toNat)*3)) fun cc=>An N [(.str bz),(.str cc),(.str ([99,97,112,97,99,105,116,121]:Lu))] 3 false true (ab++([115,116,111,114,101]:Lu)) ac fun cd=>Aw .i64 (((c.drop ((h.toNat)*9)).take 9).drop 2) fun ce=>Ah N [(.int .i64 ce)] 1 false true cd ac fun cf ay=>An N [(.str ([108,101,118,101,108]:Lu))] 1 false true cf ay fun cg=>Aw .i64 (((c.drop ((h.toNat)*9)).take 9).drop 3) fun ch=>Aw .i64 (((c.drop ((h.toNat)*9)).take 9).drop 4) fun ci=>Ah N [(.int .i64 ch),(.int .i64 ci)] 2 false true cg ay fun cj az=>An N [(.str ([114,97,116,101]:Lu))] 1 false true cj az fun ck=>Aw .i64 (((c.drop ((h.toNat)*9)).take 9).drop 5) fun cl=>Aw .i64 (((c.drop ((h.toNat)*9)).take 9).drop 6) fun cm=>Ah N [(.int .i64 cl),(.int .i64 cm)] 2 false true ck az fun cn ba=>An N [(.str ([101,102,102,105,99,105,101,110,99,121]:Lu))] 1 false true cn ba fun co=>cond (ble 2 ((((c.drop ((h.toNat)*9)).take 9).drop 7).length)) (cond ((!a)||(A2 ((((c.drop ((h.toNat)*9)).take 9).drop 7).take 2))) (cond ((beq (((((c.drop ((h.toNat)*9)).take 9).drop 7).take 2).length) 2)&&(ble 2 2)) (C3 N ((setCells [(.int .i64 0),(.int .i64 0)] 0 ((((c.drop ((h.toNat)*9)).take 9).drop 7).take 2)).take 2) 1 false true co ba fun bb cp=>cond (ble ((bb.length)+1) 140737488355328) (k3 aj (wrap .i64 (h+1)) (bb++([10]:Lu)) cp) none) none) none) none) none) none) none) none) none) (Bb 5 (b.drop 6) fun d o=>q4 d o (o:Int) 0 ab ac))
def Dx (r0:Lu→Bool→O R) (c:LA) (p:Nat) (a:Bool) (b:LA):Nat→Int→Int→Lu→Bool→O R
 | 0=>fun _ _ _ _=>none
 | n+1=>Kb N r0 c p a b (Dx r0 c p a b n) (fun d o=>Dw N r0 d o a b N)
def Kc (r0:Lu→Bool→O R) (i:LA) (q:Nat) (a:Bool) (b:LA) (k2:Int→Int→Lu→Bool→O R) (q3:LA→Nat→Int→Int→Lu→Bool→O R) (ak v:Int) (al:Lu) (am:Bool):O R :=
 (cond (decide (v<ak)) (cond (Ag v q) (cond (ble 22 ((i.drop ((v.toNat)*22)).length)) (cond ((beq 0 0)&&((beq (((i.drop ((v.toNat)*22)).take 22).length) 22)&&(beq 22 22))) (cond (ble 8 (b.length)) (cond (ble 22 (((i.drop ((v.toNat)*22)).take 22).length)) (Mg N (b.take 8) a (((i.drop ((v.toNat)*22)).take 22).take 22) a al am fun cq cr=>k2 ak (wrap .i64 (v+1)) cq cr) none) none) none) none) none) (Bb 9 (b.drop 5) fun c p=>q3 c p (p:Int) 0 al am))
def Fn (r0:Lu→Bool→O R) (i:LA) (q:Nat) (a:Bool) (b:LA):Nat→Int→Int→Lu→Bool→O R
 | 0=>fun _ _ _ _=>none
 | n+1=>Kc N r0 i q a b (Fn r0 i q a b n) (fun c p=>Dx N r0 c p a b N)
def Kd (r0:Lu→Bool→O R) (j:LA) (r:Nat) (a:Bool) (b:LA) (k1:Int→Int→Lu→Bool→O R) (q2:LA→Nat→Int→Int→Lu→Bool→O R) (an w:Int) (ao:Lu) (ap:Bool):O R :=
 (cond (decide (w<an)) (cond (Ag w r) (cond (ble 12 ((j.drop ((w.toNat)*12)).length)) (cond ((beq 0 0)&&((beq (((j.drop ((w.toNat)*12)).take 12).length) 12)&&(beq 12 12))) (cond (ble 8 (b.length)) (cond (ble 12 (((j.drop ((w.toNat)*12)).take 12).length)) (Ro N (b.take 8) a (((j.drop ((w.toNat)*12)).take 12).take 12) a ao ap fun cs ct=>k1 an (wrap .i64 (w+1)) cs ct) none) none) none) none) none) (Bb 22 (b.drop 4) fun i q=>q2 i q (q:Int) 0 ao ap))
def Fo (r0:Lu→Bool→O R) (j:LA) (r:Nat) (a:Bool) (b:LA):Nat→Int→Int→Lu→Bool→O R
 | 0=>fun _ _ _ _=>none
 | n+1=>Kd N r0 j r a b (Fo r0 j r a b n) (fun i q=>Fn N r0 i q a b N)
def Ke (r0:Lu→Bool→O R) (f:LA) (l:Nat) (a:Bool) (b:LA) (k0:Int→Int→Lu→Bool→O R) (q1:LA→Nat→Int→Int→Lu→Bool→O R) (aq t:Int) (ad:Lu) (ae:Bool):O R :=
 (cond (decide (t<aq)) (cond (Ag t l) (cond (ble 3 ((f.drop ((t.toNat)*3)).length)) (cond ((beq 0 0)&&((beq (((f.drop ((t.toNat)*3)).take 3).length) 3)&&(beq 3 3))) (cond (ble ((ad.length)+3) 140737488355328) (Li ((f.drop ((t.toNat)*3)).take 3) fun cu=>An N [(.str cu),(.str ([100,101,109,97,110,100]:Lu))] 2 false true (ad++([98,117,115]:Lu)) ae fun cv=>Bb 1 (((f.drop ((t.toNat)*3)).take 3).drop 1) fun cw cx=>Ah N cw cx false a cv ae fun cy bc=>An N [(.str ([115,104,101,100]:Lu))] 1 false true cy bc fun cz=>Aw .i64 (((f.drop ((t.toNat)*3)).take 3).drop 2) fun da=>Ah N [(.int .i64 da)] 1 false true cz bc fun bd db=>cond (ble ((bd.length)+1) 140737488355328) (k0 aq (wrap .i64 (t+1)) (bd++([10]:Lu)) db) none) none) none) none) none) (Bb 12 (b.drop 3) fun j r=>q1 j r (r:Int) 0 ad ae))
def C6 (r0:Lu→Bool→O R) (f:LA) (l:Nat) (a:Bool) (b:LA):Nat→Int→Int→Lu→Bool→O R
 | 0=>fun _ _ _ _=>none
 | n+1=>Ke N r0 f l a b (C6 r0 f l a b n) (fun j r=>Fo N r0 j r a b N)
def Pi (r0:Lu→Bool→O R) (q0:LA→Nat→Int→Int→Lu→Bool→O R) (b:LA) (a:Bool) (x:Lu) (y:Bool):O R :=
 (cond (ble ((x.length)+4) 140737488355328) (Aw .i64 b fun dc=>Ah N [(.int .i64 dc)] 1 false true (x++([99,97,115,101]:Lu)) y fun dd be=>An N [(.str ([114,101,115,101,114,118,101]:Lu))] 1 false true dd be fun de=>Bb 1 (b.drop 1) fun df dg=>Ah N df dg false a de be fun bf dh=>cond (ble ((bf.length)+1) 140737488355328) (Bb 3 (b.drop 2) fun f l=>q0 f l (l:Int) 0 (bf++([10]:Lu)) dh) none) none)
def Ii:=(Ac fun N b a x y r0=>Pi (R:=R) N r0 (fun f l=>C6 N r0 f l a b N) b a x y).1
theorem AS (b a x y r0):(@Ii R N b a x y r0)=(Pi N r0 (fun f l=>C6 N r0 f l a b N) b a x y):=by rw[Ii,(Ac _).2]
def CU:Hints:={ H:=(hK 6 (hS (hK 1 (hS (hP [0,3,43,44,45] hL) hL)) (hS (hK 1 (hS (hP [0,3,82,83,84] hL) hL)) (hS (hK 1 (hS (hP [0,3,94,95,96] hL) hL)) (hS (hK 1 (hS (hP [0,3,106,107,108] hL) hL)) (hS (hK 1 (hS (hP [0,3,173,174,175] hL) hL)) (hK 1 (hS (hP [0,3,225,226,227] hL) hL)))))))) }
def GS:Wp:=[J6 N,Pf N,f9 N,f_ N,GQ N,WY N]
def Fp (F:KF R):=Mw Tryz.f51 CU (GS N) [100000] N F
def bW (g:LA) (m:Nat) (a:Bool) (b:LA) (K:St→O R):=fun af u ag ah=>K ⟨[(0,(.optr 100000 0)),(3,(op 0)),(225,(.imm g m 4 false a)),(226,(iv af)),(227,(iv u))],[(100000,(bN 0 [(.str ag),(.bool ah)])),(300000,(bP a 0 b))]⟩
def bX (d:LA) (o:Nat) (a:Bool) (b:LA) (K:St→O R):=fun ai s z aa=>K ⟨[(0,(.optr 100000 0)),(3,(op 0)),(173,(.imm d o 5 false a)),(174,(iv ai)),(175,(iv s))],[(100000,(bN 0 [(.str z),(.bool aa)])),(300000,(bP a 0 b))]⟩
def bY (c:LA) (p:Nat) (a:Bool) (b:LA) (K:St→O R):=fun aj h ab ac=>K ⟨[(0,(.optr 100000 0)),(3,(op 0)),(106,(.imm c p 9 false a)),(107,(iv aj)),(108,(iv h))],[(100000,(bN 0 [(.str ab),(.bool ac)])),(300000,(bP a 0 b))]⟩
def bZ (i:LA) (q:Nat) (a:Bool) (b:LA) (K:St→O R):=fun ak v al am=>K ⟨[(0,(.optr 100000 0)),(3,(op 0)),(94,(.imm i q 22 false a)),(95,(iv ak)),(96,(iv v))],[(100000,(bN 0 [(.str al),(.bool am)])),(300000,(bP a 0 b))]⟩
def b_ (j:LA) (r:Nat) (a:Bool) (b:LA) (K:St→O R):=fun an w ao ap=>K ⟨[(0,(.optr 100000 0)),(3,(op 0)),(82,(.imm j r 12 false a)),(83,(iv an)),(84,(iv w))],[(100000,(bN 0 [(.str ao),(.bool ap)])),(300000,(bP a 0 b))]⟩
def cA (f:LA) (l:Nat) (a:Bool) (b:LA) (K:St→O R):=fun aq t ad ae=>K ⟨[(0,(.optr 100000 0)),(3,(op 0)),(43,(.imm f l 3 false a)),(44,(iv aq)),(45,(iv t))],[(100000,(bN 0 [(.str ad),(.bool ae)])),(300000,(bP a 0 b))]⟩
theorem QZ (F:KF R) (g m a b):∀ n,bW g m a b (Ap (Fp N F (pz 89478484) []) n)=(Fm N (P7 F) g m a b n):=Fs fun n e=>(Cs (J9 N (P7 F) g m a b) e:_)
theorem Q_ (F:KF R) (d o a b):∀ n,bX d o a b (Ap (Fp N F (pz 89478468) []) n)=(Dw N (P7 F) d o a b n):=Fs fun n e=>(BL (Ka N (P7 F) d o a b) e (VO fun g m=>(lW ..).trans (QZ ..)):_)
theorem Q' (F:KF R) (c p a b):∀ n,bY c p a b (Ap (Fp N F (pz 22369604) []) n)=(Dx N (P7 F) c p a b n):=Fs fun n e=>(BL (Kb N (P7 F) c p a b) e (VO fun d o=>(lW ..).trans (Q_ ..)):_)
theorem RA (F:KF R) (i q a b):∀ n,bZ i q a b (Ap (Fp N F (pz 5592388) []) n)=(Fn N (P7 F) i q a b n):=Fs fun n e=>(BL (Kc N (P7 F) i q a b) e (VO fun c p=>(lW ..).trans (Q' ..)):_)
theorem RC (F:KF R) (j r a b):∀ n,b_ j r a b (Ap (Fp N F (pz 1398084) []) n)=(Fo N (P7 F) j r a b n):=Fs fun n e=>(BL (Kd N (P7 F) j r a b) e (VO fun i q=>(lW ..).trans (RA ..)):_)
theorem RD (F:KF R) (f l a b):∀ n,cA f l a b (Ap (Fp N F (pz 349508) []) n)=(C6 N (P7 F) f l a b n):=Fs fun n e=>(BL (Ke N (P7 F) f l a b) e (VO fun j r=>(lW ..).trans (RC ..)):_)
def fa:=Cp N 51 (GS N) CU (fun
 | [(.optr 100000 0),(.pagg b a)],[(100000,⟨false,false,false,false,0,[(.str x),(.bool y)],false,none⟩)]=>some fun _ k=>Ii N b a x y (P7 k)
 | _,_=>none) fun _ _=>by split;intro R F;exact(Cs (Pi N (P7 F) · _ _ _ _) (VO fun f l=>(lW ..).trans (RD ..)):_).trans (AS ..).symm;trivial
def Vw (k2:Bool→Int→O R) (r0:Lu→Int→O R) (c:Nat) (b:Bool) (a f:LA) (k3:Bool→Int→Int→O R) (p:Bool) (l h:Int):O R :=
 (cond (decide (h<(c:Int))) (cond (Ag h c) (Li (f.drop (0+((h.toNat)*1))) fun s=>MQ N s fun t=>cond (!t) (r0 ([]:Lu) 9) (cond (p==false) (cond ((decide ((0:Int)≤(0:Int)))&&((decide (0≤h))&&((decide (h≤(c:Int)))&&(decide ((c:Int)≤(c:Int)))))) (cond (Ag h c) (Li (f.drop (0+((h.toNat)*1))) fun u=>iw N (f.take ((h.toNat)*1)) (h.toNat) false true u fun v=>k3 (cond false true (decide (v≥0))) l (wrap .i64 (h+1))) none) none) (k3 true l (wrap .i64 (h+1))))) none) (k2 p (wrap .i64 (l+1))))
def K5 (k2:Bool→Int→O R) (r0:Lu→Int→O R) (c:Nat) (b:Bool) (a f:LA):Nat→Bool→Int→Int→O R
 | 0=>fun _ _ _=>none
 | n+1=>Vw N k2 r0 c b a f (K5 k2 r0 c b a f n)
def Vx (r0:Lu→Int→O R) (d:LA) (g:Nat) (b:Bool) (a:LA) (k4:Int→Int→O R) (m i:Int):O R :=
 (cond (decide (i<m)) (cond (Ag i g) (cond (ble 4 ((d.drop ((i.toNat)*4)).length)) (cond ((beq 0 0)&&((beq (((d.drop ((i.toNat)*4)).take 4).length) 4)&&(beq 4 4))) (OP (((d.drop ((i.toNat)*4)).take 4).drop 2) fun w=>cond ((!w)==true) (Bb 3 (((d.drop ((i.toNat)*4)).take 4).drop 3) fun af x=>cond (cond true (decide ((x:Int)>0)) false) (r0 ([]:Lu) 16) (k4 m (wrap .i64 (i+1)))) (k4 m (wrap .i64 (i+1)))) none) none) none) (cond (ble 8 (a.length)) (Ii N (a.take 8) b ([]:Lu) false fun r y=>cond y (r0 ([]:Lu) 3) (cond (decide ((((r.length):Nat):Int)>1048576)) (r0 ([]:Lu) 8) (r0 r 0))) none))
def K6 (r0:Lu→Int→O R) (d:LA) (g:Nat) (b:Bool) (a:LA):Nat→Int→Int→O R
 | 0=>fun _ _=>none
 | n+1=>Vx N r0 d g b a (K6 r0 d g b a n)
def Vy (r0:Lu→Int→O R) (b:Bool) (a:LA) (k2:Bool→Int→O R) (q3:Nat→LA→Bool→Int→Int→O R) (q4:LA→Nat→Int→Int→O R) (q:Bool) (o:Int):O R :=
 (cond (decide (o≤6)) (cond (ble 8 (a.length)) (F7 N (a.take 8) b o fun c f=>q3 c f q o 0) none) (cond q (r0 ([]:Lu) 10) (cond (ble 8 (a.length)) (EK N (a.take 8) b fun z=>cond (!z) (r0 ([]:Lu) 12) (Bb 4 (a.drop 7) fun d g=>q4 d g (g:Int) 0)) none)))
def K8 (r0:Lu→Int→O R) (b:Bool) (a:LA):Nat→Bool→Int→O R
 | 0=>fun _ _=>none
 | n+1=>Vy N r0 b a (K8 r0 b a n) (fun c f=>K5 N (K8 r0 b a n) r0 c b a f N) (fun d g=>K6 N r0 d g b a N)
def GU (r0:Lu→Int→O R) (b:Bool) (a:LA) (q2:Bool→Int→O R):O R :=
 (cond (ble 8 (a.length)) (GG N (a.take 8) b fun aa=>cond (!aa) (r0 ([]:Lu) 4) (q2 false 1)) none)
def Zs (r0:Lu→Int→O R) (b:Bool) (a:LA):O R:=(GU N r0 b a (K8 N r0 b a N))
def Vz (r0:Lu→Int→O R) (b:Bool) (a:LA) (k0:Int→O R) (q1:O R) (j:Int):O R :=
 (cond (decide (j≤6)) (cond (ble 8 (a.length)) (F7 N (a.take 8) b j fun ab ag=>Qa N j fun ac=>cond (decide ((ab:Int)>ac)) (r0 ([]:Lu) 8) (k0 (wrap .i64 (j+1)))) none) (Aw .i64 a fun ad=>cond ((decide (ad<1))==false) (Aw .i64 a fun ae=>cond (cond false true (decide (ae>24))) (r0 ([]:Lu) 3) q1) (r0 ([]:Lu) 3)))
def Lc (r0:Lu→Int→O R) (b:Bool) (a:LA):Nat→Int→O R
 | 0=>fun _=>none
 | n+1=>Vz N r0 b a (Lc r0 b a n) (Zs N r0 b a)
def JQ (N:Nat) (r0:Lu→Int→O R) (q0:Int→O R) (a:LA) (b:Bool):O R :=
 (q0 1)
def GV:=(Ac fun N a b r0=>JQ (R:=R) N r0 (Lc N r0 b a N) a b).1
theorem WZ (a b r0):(@GV R N a b r0)=(JQ N r0 (Lc N r0 b a N) a b):=by rw[GV,(Ac _).2]
def eF:Hints:={ H:=(hK 1 (hS (hK 1 (hS (hP [1,4] hL) hL)) (hJ [1] hL (hK 2 (hS (hK 1 (hS (hP [1,5,6] (hK 1 (hS (hS (hK 2 (hS (hP [1,5,6,7,8] hL) hL)) hL) hL))) hL)) (hK 2 (hS (hK 1 (hS (hP [1,70,71,72] hL) hL)) hL))))))) }
def jA:Wp:=[VV N,rq N,zc N,Adm N,rz N,Ag4 N,fa N]
def S5 (F:KF R):=Mw Tryz.f18 eF (jA N) [] N F
def vU (c:Nat) (b:Bool) (a f:LA) (K:St→O R):=fun p l h=>K ⟨[(1,(op 0)),(5,(.bool p)),(6,(iv l)),(7,(.own 300001 0 c)),(8,(iv h))],(hq [(bP b 0 a),(bQ 1 f)])⟩
def vV (d:LA) (g:Nat) (b:Bool) (a:LA) (K:St→O R):=fun m i=>K ⟨[(1,(op 0)),(70,(.imm d g 4 false b)),(71,(iv m)),(72,(iv i))],(hq [(bP b 0 a)])⟩
def LL (b:Bool) (a:LA) (K:St→O R):=fun q o=>K ⟨[(1,(op 0)),(5,(.bool q)),(6,(iv o))],(hq [(bP b 0 a)])⟩
def vW (b:Bool) (a:LA) (K:St→O R):=K ⟨[(1,(op 0))],(hq [(bP b 0 a)])⟩
def vX (b:Bool) (a:LA) (K:St→O R):=fun j=>K ⟨[(1,(op 0)),(4,(iv j))],(hq [(bP b 0 a)])⟩
theorem lY (Q2) (F:KF R) (c b a f):∀ n,vU c b a f (Ap (S5 N F (pz 1431372820) [Q2]) n)=(K5 N (LL b a Q2) (SR F) c b a f n):=Fs fun n e=>(Cs (Vw N (LL b a Q2) (SR F) c b a f) e:_)
theorem lZ (F:KF R) (d g b a):∀ n,vV d g b a (Ap (S5 N F (pz 5592388) []) n)=(K6 N (SR F) d g b a n):=Fs fun n e=>(Cs (Vx N (SR F) d g b a) e:_)
theorem l7 (F:KF R) (b a):∀ n,LL b a (Ap (S5 N F (pz 87364) []) n)=(K8 N (SR F) b a n):=Fs fun n e=>(Aya (Vy N (SR F) b a) e (VO fun c f=>(lW ..).trans ((lY ..).trans (pK (K5 _ · _ _ _ _ _ _) e))) (VO fun d g=>(lW ..).trans (lZ ..)):_)
theorem l8 (F:KF R) (b a):vW b a (Bq (S5 N F (pz 85) []))=(Zs N (SR F) b a):=(Cs (GU N (SR F) b a) ((lW ..).trans (l7 ..)):_)
theorem l_ (F:KF R) (b a):∀ n,vX b a (Ap (S5 N F (pz 324) []) n)=(Lc N (SR F) b a n):=Fs fun n e=>(BL (Vz N (SR F) b a) e ((jW ..).trans (l8 ..)):_)
def zl:=Cp N 18 (jA N) eF (fun
 | [(.pagg a b)],[]=>some fun _ k=>GV N a b (SR k)
 | _,_=>none) fun _ _=>by split;intro R F;exact(Cs (JQ N (SR F) · _ _) ((lW ..).trans (l_ ..)):_).trans (WZ ..).symm;trivial
def W_ (a:LA) (b:Nat) (d c:Bool) (r0:Lu→O R):O R :=
 (JL N a b false c fun e=>GV N e false fun f g=>r0 f)
def RE:=(Ac (@W_ R)).1
theorem XA:@RE R=@W_ R:=(Ac _).2
def zm:=Cp N 8 [xH N,zl N] Ca (fun
 | [(.imm a b 1 d c)],[]=>some fun _ k=>RE N a b d c (gk k)
 | _,_=>none) fun _ _=>by split;intro R F;dsimp only;rw[XA];kernel_rfl;trivial
def T6 (a:Lu) (b:Int) (r0:Int→O R):O R :=
 (Ge N a b fun c=>r0 c)
def V0:=(Ac (@T6 R)).1
theorem W3:@V0 R=@T6 R:=(Ac _).2
def cC:=Cp N 53 [Vn N] Ca (fun
 | [(.str a),(.int .u8 b)],[]=>some fun _ k=>V0 N a b (Jc k)
 | _,_=>none) fun _ _=>by split;intro R F;dsimp only;rw[W3];kernel_rfl;trivial
def LM (N:Nat) (a:Int) (r0:Bool→O R):O R :=
 (cond ((a==32)==false) (cond ((cond false true (a==9))==false) (r0 (cond false true (a==13))) (r0 true)) (r0 true))
def DZ:=(Ac (@LM R)).1
theorem NL:@DZ R=@LM R:=(Ac _).2
def sv:=Cp N 55 [] Ca (fun
 | [(.int .i32 a)],[]=>some fun _ k=>DZ N a (Bh k)
 | _,_=>none) fun _ _=>by split;intro R F;dsimp only;rw[NL];kernel_rfl;trivial
def H7 (N:Nat) (r0:Nat→LA→O R) (a:Lu) (b:Nat) (c:LA) (k2:Int→Int→LA→O R) (l g:Int) (j:LA):O R :=
 (cond (decide (g<l)) (cond (Ag g b) (cond (ble 2 ((c.drop (0+((g.toNat)*2))).length)) (cond ((beq (((c.drop (0+((g.toNat)*2))).take 2).length) 2)&&((ble 2 2)&&(!false))) (Aw .i64 (setCells [(.int .i64 0),(.int .i64 0)] 0 ((c.drop (0+((g.toNat)*2))).take 2)) fun m=>Aw .i64 ((setCells [(.int .i64 0),(.int .i64 0)] 0 ((c.drop (0+((g.toNat)*2))).take 2)).drop 1) fun o=>cond ((decide (0≤m))&&((decide (m≤o))&&((decide (o≤(((a.length):Nat):Int)))&&(decide ((((a.length):Nat):Int)≤(((a.length):Nat):Int)))))) (cond (Ag g b) (cond ((beq 1 1)&&((ble ((0+((g.toNat)*1))+1) (j.length))&&(!false))) (k2 l (wrap .i64 (g+1)) (j.set (0+((g.toNat)*1)) (.str (take ((o.toNat) - (m.toNat)) (drop (m.toNat) a))))) none) none) none) none) none) none) (r0 b j))
def D9 (r0:Nat→LA→O R) (a:Lu) (b:Nat) (c:LA):Nat→Int→Int→LA→O R
 | 0=>fun _ _ _=>none
 | n+1=>H7 N r0 a b c (D9 r0 a b c n)
def Nq (N:Nat) (r0:Nat→LA→O R) (a:Lu) (q2:Nat→LA→Int→Int→LA→O R) (b:Nat) (c:LA):O R :=
 (cond ((decide (0≤(b:Int)))&&((decide ((b:Int)≤(b:Int)))&&((decide ((b:Int)≤140737488355328))&&(decide (((b:Int)*((16:Nat):Int))≤140737488355328))))) (q2 b c (b:Int) 0 (replicate b (.str ([]:Lu)))) none)
def Ja (r0:Nat→LA→O R) (a:Lu) (b:Nat) (c:LA):O R:=(Nq N r0 a (fun b c=>D9 N r0 a b c N) b c)
def H8 (r0:Nat→LA→O R) (a:Lu) (k0:Nat→Int→LA→Int→O R) (q1:Nat→LA→O R) (d:Nat) (h:Int) (i:LA) (f:Int):O R :=
 (cond (decide (f<(((a.length):Nat):Int))) (DZ N (((BM a f).1:Nat):Int) fun p=>cond p (cond (decide (h≥0)) (cond ((ble (d+1) 140737488355328)&&(ble ((d+1)*16) 140737488355328)) (k0 (d+1) (y_ .i64 (-1) h) ((i.take (d*2))++[(.int .i64 h),(.int .i64 f)]) (f+(((BM a f).2:Nat):Int))) none) (k0 d h i (f+(((BM a f).2:Nat):Int)))) (cond (decide (h<0)) (k0 d f i (f+(((BM a f).2:Nat):Int))) (k0 d h i (f+(((BM a f).2:Nat):Int))))) (cond (decide (h≥0)) (cond ((ble (d+1) 140737488355328)&&(ble ((d+1)*16) 140737488355328)) (q1 (d+1) ((i.take (d*2))++[(.int .i64 h),(.int .i64 (((a.length):Nat):Int))])) none) (q1 d i)))
def Da (r0:Nat→LA→O R) (a:Lu):Nat→Nat→Int→LA→Int→O R
 | 0=>fun _ _ _ _=>none
 | n+1=>H8 N r0 a (Da r0 a n) (Ja N r0 a)
def Lt (N:Nat) (r0:Nat→LA→O R) (q0:Nat→Int→LA→Int→O R) (a:Lu):O R :=
 (q0 0 (-1) [] 0)
def Gf:=(Ac fun N a r0=>Lt (R:=R) N r0 (Da N r0 a N) a).1
theorem V1 (a r0):(@Gf R N a r0)=(Lt N r0 (Da N r0 a N) a):=by rw[Gf,(Ac _).2]
def W4:Hints:={ H:=(hK 3 (hS (hK 1 (hS (hP [0,1,5,6,14] hL) hL)) (hJ [0,5] hL (hK 1 (hS (hK 1 (hS (hP [0,9,47,48,49] hL) hL)) hL))))),nils:=[(4,1)],modes:=[(2,1)] }
def AT:Wp:=[sv N]
def O0 (F:KF R):=Mw Tryz.f54 W4 (AT N) [] N F
def UF (a:Lu) (b:Nat) (c:LA) (K:St→O R):=fun l g j=>K ⟨[(0,(.str a)),(9,(.own 300000 0 b)),(47,(.own 300001 0 b)),(48,(iv l)),(49,(iv g))],(hq [(bQ 1 j),(bQ 2 c)])⟩
def UG (a:Lu) (K:St→O R):=fun b c=>K ⟨[(0,(.str a)),(5,(.own 300000 0 b))],(hq [(bQ 2 c)])⟩
def UH (a:Lu) (K:St→O R):=fun d h i f=>K ⟨[(0,(.str a)),(1,(.fn 55 [])),(5,(.own 300000 0 d)),(6,(iv h)),(14,(.omap 300001))],(hq [(bQ 2 i),⟨false,false,true,false,1,[(.str a),(iv f)],true,none⟩])⟩
theorem LN (F:KF R) (a b c):∀ n,UF a b c (Ap (O0 N F (pz 349508) []) n)=(D9 N (Ex F) a b c n):=Fs fun n e=>(Cs (H7 N (Ex F) a b c) e:_)
theorem LO (F:KF R) (a):UG a (Bq (O0 N F (pz 1365) []))=(Ja N (Ex F) a):=(Cs (Nq N (Ex F) a) (VO fun b c=>(lW ..).trans (LN ..)):_)
theorem LP (F:KF R) (a):∀ n,UH a (Ap (O0 N F (pz 5444) []) n)=(Da N (Ex F) a n):=Fs fun n e=>(BL (H8 N (Ex F) a) e ((jW ..).trans (LO ..)):_)
def XB:=Cp N 54 (AT N) W4 (fun
 | [(.str a),(.fn 55 [])],[]=>some fun _ k=>Gf N a (Ex k)
 | _,_=>none) fun _ _=>by split;intro R F;exact(Cs (Lt N (Ex F) · _) ((lW ..).trans (LP ..)):_).trans (V1 ..).symm;trivial
def lc (a:Lu) (r0:Nat→LA→O R):O R :=
 (V0 N a 35 fun b=>cond (decide (b≥0)) (cond ((decide ((0:Int)≤(0:Int)))&&((decide (0≤b))&&((decide (b≤(((a.length):Nat):Int)))&&(decide ((((a.length):Nat):Int)≤(((a.length):Nat):Int)))))) (Gf N (take (b.toNat) a) fun c d=>r0 c d) none) (Gf N a fun e f=>r0 e f))
def jB:=(Ac (@lc R)).1
theorem jC:@jB R=@lc R:=(Ac _).2
def Ag5:=Cp N 22 [cC N,XB N] Ab9 (fun
 | [(.str a)],[]=>some fun _ k=>jB N a (Ex k)
 | _,_=>none) fun _ _=>by split;intro R F;dsimp only;rw[jC];kernel_rfl;trivial
def XC (N:Nat) (s:RB) (r0:Bool→O R):O R :=
 (r0 (s.er==0))
def Ld:=(Ac (@XC R)).1
theorem JR:@Ld R=@XC R:=(Ac _).2
def TI:=Cp N 25 [] Ca (PI fun
 | [(.optr 100000 0)],s=>some fun _ k=>Ld N s (An2 s k)
 | _,_=>none) (TX fun _ s=>by split;intro R F;dsimp only;rw[JR];kernel_rfl;trivial)
def V2 (s:RB) (r0:Bool→O R):O R :=
 (Ld N s fun a=>cond (a==true) (r0 (cond true (decide (s.nx<(s.nw:Int))) false)) (r0 false))
def Fa:=(Ac (@V2 R)).1
theorem V3:@Fa R=@V2 R:=(Ac _).2
def Of:=Cp N 23 [TI N] Ca (PI fun
 | [(.optr 100000 0)],s=>some fun _ k=>Fa N s (An2 s k)
 | _,_=>none) (TX fun _ s=>by split;intro R F;dsimp only;rw[V3];kernel_rfl;trivial)
def XD (N:Nat) (a:Int) (s:RB) (r0:Int→O R):O R :=
 (cond (s.er==0) (r0 a) (r0 s.er))
def Am:=(Ac (@XD R)).1
theorem jD:@Am R=@XD R:=(Ac _).2
def Bl:=Cp N 57 [] Ca (PI fun
 | [(.optr 100000 0),(.int .i64 a)],s=>some fun _ k=>Am N a s (As2 s k)
 | _,_=>none) (TX fun _ s=>by split;intro R F;dsimp only;rw[jD];kernel_rfl;trivial)
def GW (s:RB) (r0:Lu→Bool→Int→Int→O R):O R :=
 (Fa N s fun a=>cond (!a) (Am N 2 s fun b=>r0 ([]:Lu) false s.nx b) (cond (Ag (wrap .i64 ((wrap .i64 (s.nx+1)) - 1)) s.nw) (Li (s.cw.drop (0+(((wrap .i64 ((wrap .i64 (s.nx+1)) - 1)).toNat)*1))) fun c=>r0 c true (wrap .i64 (s.nx+1)) s.er) none))
def Bt:=(Ac (@GW R)).1
theorem JT:@Bt R=@GW R:=(Ac _).2
def ld (s:RB) (F:KF R):Lu→Bool→Int→Int→O R:=(fun d e f g=>F (.tup [(.str d),(.bool e)]) [(100000,(bN 0 [(.own 100001 0 s.nw),(iv f),(iv g),(iv s.th),(.own 100002 0 s.nR),(.own 100003 0 s.nB),(.own 100004 0 s.nL),(.own 100005 0 s.nU),(.own 100006 0 s.nS),(.own 100007 0 s.nT),(.own 100008 0 s.nO),(.bool s.bg),(.own 100009 0 s.zA),(.own 100010 0 s.zB),(.own 100011 0 s.zC),(.own 100012 0 s.zD),(.own 100013 0 s.zE),(.own 100014 0 s.zF),(.own 100015 0 s.zG)])),(100001,(bQ 1 s.cw)),(100002,(bQ 1 s.cR)),(100003,(bQ 3 s.cB)),(100004,(bQ 12 s.cL)),(100005,(bQ 22 s.cU)),(100006,(bQ 9 s.cS)),(100007,(bQ 5 s.cT)),(100008,(bQ 4 s.cO)),(100009,(bQ 1 s.yA)),(100010,(bQ 1 s.yB)),(100011,(bQ 1 s.yC)),(100012,(bQ 1 s.yD)),(100013,(bQ 1 s.yE)),(100014,(bQ 1 s.yF)),(100015,(bQ 1 s.yG))])
def Bu:=Cp N 56 [Of N,Bl N] Ca (PI fun
 | [(.optr 100000 0)],s=>some fun _ k=>Bt N s (ld s k)
 | _,_=>none) (TX fun _ s=>by split;intro R F;dsimp only;rw[JT];kernel_rfl;trivial)
def Dj (N:Nat) (a b:Lu) (r0:Bool→O R):O R :=
 (cond ((decide ((((a.length):Nat):Int)≥(((b.length):Nat):Int)))==true) (cond ((decide ((0:Int)≤(0:Int)))&&((decide (0≤(((b.length):Nat):Int)))&&((decide ((((b.length):Nat):Int)≤(((a.length):Nat):Int)))&&(decide ((((a.length):Nat):Int)≤(((a.length):Nat):Int)))))) (r0 (cond true ((take (b.length) a)==b) false)) none) (r0 false))
def Gg:=(Ac (@Dj R)).1
theorem El:@Gg R=@Dj R:=(Ac _).2
def V4:=Cp N 219 [] Ca (fun
 | [(.str a),(.str b)],[]=>some fun _ k=>Gg N a b (Bh k)
 | _,_=>none) fun _ _=>by split;intro R F;dsimp only;rw[El];kernel_rfl;trivial
def Mq (N:Nat) (r0:Int→O R) (b:LA) (a:Nat) (c d:Bool) (k0:Int→Int→Int→O R) (g h f:Int):O R :=
 (cond (decide (f<h)) (cond (Ag f a) (Aw .u32 (b.drop ((f.toNat)*1)) fun i=>cond (decide ((wrap .i64 (32*f))<0)) none (k0 (nP .u64 g (wrap .u64 ((wrap .u64 i)*2 ^ (min ((wrap .i64 (32*f)).toNat) 64)))) h (wrap .i64 (f+1)))) none) (r0 g))
def Le (r0:Int→O R) (b:LA) (a:Nat) (c d:Bool):Nat→Int→Int→Int→O R
 | 0=>fun _ _ _=>none
 | n+1=>Mq N r0 b a c d (Le r0 b a c d n)
def jE (N:Nat) (r0:Int→O R) (q0:Int→Int→Int→O R) (b:LA) (a:Nat) (c d:Bool):O R :=
 (q0 0 (a:Int) 0)
def jF:=(Ac fun N b a c d r0=>jE (R:=R) N r0 (Le N r0 b a c d N) b a c d).1
theorem oF (b a c d r0):(@jF R N b a c d r0)=(jE N r0 (Le N r0 b a c d N) b a c d):=by rw[jF,(Ac _).2]
def sx:Hints:={ H:=(hK 2 (hS (hK 1 (hS (hP [3,6,7,8] hL) hL)) hL)) }
def Ag6 (F:KF R):=Mw Tryz.f225 sx [] [] N F
def RF (F:KF R):Int→O R:=(fun j=>F (.int .u64 j) [])
def Ag7 (b:LA) (a:Nat) (c d:Bool) (K:St→O R):=fun g h f=>K ⟨[(3,(.int .u64 g)),(6,(.imm b a 1 c d)),(7,(iv h)),(8,(iv f))],[]⟩
theorem vY (F:KF R) (b a c d):∀ n,Ag7 b a c d (Ap (Ag6 N F (pz 1348) []) n)=(Le N (RF F) b a c d n):=Fs fun n e=>(Cs (Mq N (RF F) b a c d) e:_)
def Aln:=Cp N 225 [] sx (fun
 | [(.imm b a 1 c d)],[]=>some fun _ k=>jF N b a c d (RF k)
 | _,_=>none) fun _ _=>by split;intro R F;exact(Cs (jE N (RF F) · _ _ _ _) ((lW ..).trans (vY ..)):_).trans (oF ..).symm;trivial
def fb (b:LA) (c:Nat) (d a:Bool) (r0:Int→Bool→O R):O R :=
 (Gb N b c d a fun f e=>cond (decide ((e:Int)>2)) (r0 0 false) (jF N f e false a fun g=>r0 g true))
def NM:=(Ac (@fb R)).1
theorem eG:@NM R=@fb R:=(Ac _).2
def Adn:=Cp N 205 [AG N,Aln N] Ca (fun
 | [(.imm b c 1 d a)],[]=>some fun _ k=>NM N b c d a (Ace k)
 | _,_=>none) fun _ _=>by split;intro R F;dsimp only;rw[eG];kernel_rfl;trivial
def AU (N:Nat) (r0:Int→Int→Bool→O R) (b a:Int) (d:Bool) (c:LA) (e:Bool):O R :=
 (cond e (r0 0 0 false) (cond (a==0) (r0 0 1 true) (OP c fun f=>cond f (r0 (wrap .i64 ((0:Int) - (wrap .i64 b))) (wrap .i64 a) true) (r0 (wrap .i64 b) (wrap .i64 a) true))))
def aC (r0:Int→Int→Bool→O R) (q0:Int→Int→Bool→O R) (c:LA) (d:Bool):O R :=
 (Bb 1 (c.drop 1) fun g h=>NM N g h false d fun b i=>Bb 1 (c.drop 2) fun j l=>NM N j l false d fun a m=>cond ((!i)==false) (cond ((cond false true (!m))==false) (cond ((cond false true (decide (b≥2147483648)))==false) (q0 b a (cond false true (decide (a≥2147483648)))) (q0 b a true)) (q0 b a true)) (q0 b a true))
def GX:=(Ac fun N c d r0=>aC (R:=R) N r0 (fun b a=>AU N r0 b a d c) c d).1
theorem jG (c d r0):(@GX R N c d r0)=(aC N r0 (fun b a=>AU N r0 b a d c) c d):=by rw[GX,(Ac _).2]
def oG:Hints:={ H:=(hK 3 (hS (hS (hJ [1,5,6,21] hL hL) hL) hL)) }
def sy:Wp:=[Adn N]
def Ado (F:KF R):=Mw Tryz.f172 oG (sy N) [] N F
def XE (F:KF R):Int→Int→Bool→O R:=(fun n o p=>F (.tup [(iv n),(iv o),(.bool p)]) [])
def Adp (b a:Int) (d:Bool) (c:LA) (K:St→O R):=fun e=>K ⟨[(1,(op 0)),(5,(.int .u64 b)),(6,(.int .u64 a)),(21,(.bool e))],(hq [(bP d 0 c)])⟩
theorem tA (F:KF R) (b a d c):Adp b a d c (Bq (Ado N F (pz 5441) []))=(AU N (XE F) b a d c):=by kernel_rfl
def tB:=Cp N 172 (sy N) oG (fun
 | [(.pagg c d)],[]=>some fun _ k=>GX N c d (XE k)
 | _,_=>none) fun _ _=>by split;intro R F;exact(Cs (aC N (XE F) · _ _) (VO fun b a=>(jW ..).trans (tA ..)):_).trans (jG ..).symm;trivial
def Yc (N:Nat) (a:Int) (r0:Bool→O R):O R :=
 (r0 (a != a))
def To:=(Ac (@Yc R)).1
theorem CV:@To R=@Yc R:=(Ac _).2
def jH:=Cp N 206 [] Ca (fun
 | [(.int .i64 a)],[]=>some fun _ k=>To N a (Bh k)
 | _,_=>none) fun _ _=>by split;intro R F;dsimp only;rw[CV];kernel_rfl;trivial
def T7 (a b:Int) (r0:Int→O R):O R :=
 (To N a fun d=>To N b fun c=>cond d (cond c (r0 0) (r0 (-1))) (cond c (r0 1) (cond (decide (a<b)) (r0 (-1)) (cond (decide (a>b)) (r0 1) (r0 0)))))
def Pj:=(Ac (@T7 R)).1
theorem W5:@Pj R=@T7 R:=(Ac _).2
def cD:=Cp N 173 [jH N] Ca (fun
 | [(.int .i64 a),(.int .i64 b)],[]=>some fun _ k=>Pj N a b (Jc k)
 | _,_=>none) fun _ _=>by split;intro R F;dsimp only;rw[W5];kernel_rfl;trivial
def LQ (N:Nat) (r0:Int→O R) (c:Bool) (a:LA) (d:Bool) (b:LA):O R :=
 (cond (ble 3 (a.length)) none none)
def JU (r0:Int→O R) (q0:O R) (a:LA) (c:Bool) (b:LA) (d:Bool):O R :=
 (cond (ble 3 (a.length)) (i_ N (a.take 3) c fun e=>cond (ble 3 (b.length)) (i_ N (b.take 3) d fun f=>cond (e != f) (Tn N e f fun g=>r0 g) (cond (ble 3 (a.length)) (GX N (a.take 3) c fun h i j=>cond (ble 3 (b.length)) (GX N (b.take 3) d fun l m n=>cond (j==true) (cond (cond true n false) (Pj N (wrap .i64 (h*m)) (wrap .i64 (l*i)) fun o=>r0 o) q0) q0) none) none)) none) none)
def Yd:=(Ac fun N a c b d r0=>JU (R:=R) N r0 (LQ N r0 c a d b) a c b d).1
theorem XF (a c b d r0):(@Yd R N a c b d r0)=(JU N r0 (LQ N r0 c a d b) a c b d):=by rw[Yd,(Ac _).2]
def eH:Hints:={ H:=(hK 4 (hJ [2,3] hL hL)) }
def jI:Wp:=[Ale N,ia N,tB N,cD N]
def vZ (F:KF R):=Mw Tryz.f151 eH (jI N) [] N F
def v7 (c:Bool) (a:LA) (d:Bool) (b:LA) (K:St→O R):=K ⟨[(2,(op 0)),(3,(op 1))],(hq [(bP c 0 a),(bP d 0 b)])⟩
theorem lf (F:KF R) (c a d b):v7 c a d b (Bq (vZ N F (pz 1365) []))=(LQ N (Jc F) c a d b):=by kernel_rfl
def zn:=Cp N 151 (jI N) eH (fun
 | [(.pagg a c),(.pagg b d)],[]=>some fun _ k=>Yd N a c b d (Jc k)
 | _,_=>none) fun _ _=>by split;intro R F;exact(Cs (JU N (Jc F) · _ _ _ _) ((jW ..).trans (lf ..)):_).trans (XF ..).symm;trivial
def Og (r0:LA→O R) (a b c:Int) (k1:Int→Int→O R) (d f:Int):O R :=
 (cond (f != 0) (cond (f==0) none (k1 f (Int.tmod d f))) (cond (d==0) none (K0 N (wrap .u64 (Int.tdiv c d)) fun g i=>cond (d==0) none (K0 N (wrap .u64 (Int.tdiv (wrap .u64 b) d)) fun h j=>r0 [(.bool (decide (a<0))),(.imm (i.take (g*1)) g 1 false false),(.imm (j.take (h*1)) h 1 false false)]))))
def Dn (r0:LA→O R) (a b c:Int):Nat→Int→Int→O R
 | 0=>fun _ _=>none
 | n+1=>Og N r0 a b c (Dn r0 a b c n)
def BU (N:Nat) (r0:LA→O R) (a b:Int) (q1:Int→Int→Int→O R) (c:Int):O R :=
 (q1 c (wrap .u64 b) c)
def V5 (r0:LA→O R) (a b:Int) (c:Int):O R:=(BU N r0 a b (fun c=>Dn N r0 a b c N) c)
def D_ (N:Nat) (r0:LA→O R) (q0:Int→O R) (a b:Int):O R :=
 (cond (decide (a<0)) (q0 (wrap .u64 ((0:Int) - (wrap .u64 a)))) (q0 (wrap .u64 a)))
def Un:=(Ac fun N a b r0=>D_ (R:=R) N r0 (V5 N r0 a b) a b).1
theorem TJ (a b r0):(@Un R N a b r0)=(D_ N r0 (V5 N r0 a b) a b):=by rw[Un,(Ac _).2]
def XG:Hints:={ H:=(hK 2 (hJ [0,1,4,5] hL (hK 1 (hS (hS (hP [0,1,4,5,6,7] hL) hL) hL)))),modes:=[(3,0)] }
def eI:Wp:=[TD N]
def XH (F:KF R):=Mw Tryz.f176 XG (eI N) [] N F
def tC (a b c:Int) (K:St→O R):=fun d f=>K ⟨[(0,(iv a)),(1,(iv b)),(4,(op 0)),(5,(.int .u64 c)),(6,(.int .u64 d)),(7,(.int .u64 f))],(hq [(bN 0 [(.bool false),.nsl,.nsl])])⟩
def tD (a b:Int) (K:St→O R):=fun c=>K ⟨[(0,(iv a)),(1,(iv b)),(4,(op 0)),(5,(.int .u64 c))],(hq [(bN 0 [(.bool false),.nsl,.nsl])])⟩
theorem jJ (F:KF R) (a b c):∀ n,tC a b c (Ap (XH N F (pz 5456) []) n)=(Dn N (P6 F) a b c n):=Fs fun n e=>(Cs (Og N (P6 F) a b c) e:_)
theorem jK (F:KF R) (a b):tD a b (Bq (XH N F (pz 85) []))=(V5 N (P6 F) a b):=(Cs (BU N (P6 F) a b) (Aqw fun c=>(lW ..).trans (jJ ..)):_)
def v8:=Cp N 176 (eI N) XG (fun
 | [(.int .i64 a),(.int .i64 b)],[]=>some fun _ k=>Un N a b (P6 k)
 | _,_=>none) fun _ _=>by split;intro R F;exact(Cs (D_ N (P6 F) · _ _) ((jW ..).trans (jK ..)):_).trans (TJ ..).symm;trivial
def tE (a:LA) (b:Bool) (r0:LA→O R):O R :=
 (cond (ble 3 (a.length)) (GX N (a.take 3) b fun d e f=>cond f (Un N d e fun c=>cond ((beq 0 0)&&((beq (c.length) 3)&&(beq 3 3))) (cond (ble 3 (c.length)) (r0 (c.take 3)) none) none) (cond (ble 3 (a.length)) none none)) none)
def aD:=(Ac (@tE R)).1
theorem oH:@aD R=@tE R:=(Ac _).2
def lh:=Cp N 153 [tB N,v8 N] Aca (fun
 | [(.pagg a b)],[]=>some fun _ k=>aD N a b (P6 k)
 | _,_=>none) fun _ _=>by split;intro R F;dsimp only;rw[oH];kernel_rfl;trivial
def zo (c:LA) (d:Bool) (r0:LA→O R):O R :=
 (OP c fun g=>Bb 1 (c.drop 1) fun h i=>Bb 1 (c.drop 2) fun j l=>cond (beq (c.length) 3) (aD N [(.bool g),(.imm h i 1 false d),(.imm j l 1 false d)] (d||(d||false)) fun a=>cond ((beq 0 0)&&((beq (a.length) 3)&&(beq 3 3))) (cond (ble 2 (a.length)) (lG N (a.take 2) false fun e b f=>cond ((beq 2 2)&&((ble 2 (a.length))&&(!false))) (cond (ble 3 ((Du a 0 [(.bool e),(.imm (f.take (b*1)) b 1 false false)]).length)) (cond ((beq 0 0)&&((beq (((Du a 0 [(.bool e),(.imm (f.take (b*1)) b 1 false false)]).take 3).length) 3)&&(beq 3 3))) (cond (ble 3 (((Du a 0 [(.bool e),(.imm (f.take (b*1)) b 1 false false)]).take 3).length)) (r0 (((Du a 0 [(.bool e),(.imm (f.take (b*1)) b 1 false false)]).take 3).take 3)) none) none) none) none) none) none) none)
def zp:=(Ac (@zo R)).1
theorem tF:@zp R=@zo R:=(Ac _).2
def Aoy:=Cp N 152 [lh N,Acv N] { H:=hL,modes:=[(3,0)],cob:=[1] } (fun
 | [(.pagg c d)],[]=>some fun _ k=>zp N c d (P6 k)
 | _,_=>none) fun _ _=>by split;intro R F;dsimp only;rw[tF];kernel_rfl;trivial
def zq (b:LA) (d:Bool) (c:LA) (a:Bool) (r0:LA→Bool→O R):O R :=
 (OP b fun i=>Bb 1 (b.drop 1) fun j l=>cond (beq (b.length) 2) (OP c fun f=>Bb 1 (c.drop 1) fun g h=>cond (beq (c.length) 2) (Z' N [(.bool f),(.imm g h 1 false a)] (a||false) fun m=>cond (m==0) (r0 [(.bool false),.nsl,.nsl] false) (aD N [(.bool (!(i==f))),(.imm j l 1 false d),(.imm g h 1 false a)] (d||(a||false)) fun e=>cond ((beq 0 0)&&((beq (e.length) 3)&&(beq 3 3))) (cond (ble 3 (e.length)) (r0 (e.take 3) true) none) none)) none) none)
def zr:=(Ac (@zq R)).1
theorem tG:@zr R=@zq R:=(Ac _).2
def Alo (F:KF R):LA→Bool→O R:=(fun n o=>F (.tup [(.pagg n false),(.bool o)]) [])
def Aoz:=Cp N 179 [wu N,lh N] { H:=hL,modes:=[(3,0),(0,0)],cob:=[2,3] } (fun
 | [(.pagg b d),(.pagg c a)],[]=>some fun _ k=>zr N b d c a (Alo k)
 | _,_=>none) fun _ _=>by split;intro R F;dsimp only;rw[tG];kernel_rfl;trivial
end
end Gx
