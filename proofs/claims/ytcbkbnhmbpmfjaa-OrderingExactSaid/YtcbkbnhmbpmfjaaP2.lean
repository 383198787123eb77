/- A part of the proof: what it holds is said by each theorem. -/
import Derived.Shelf.Sort.Plain
import Derived.Ground.Names2Prog
import Derived.Shelf.Slices.Delete
import Derived.Maps.RangeWalk
import Derived.Maps.OwnSet
import Derived.Maps.AppendAt
import Derived.Sort.OwnSortedInts
import Derived.Sort.KeysCollected
import Derived.OwnWalk
import Derived.Test.YtcbkbnhmbpmfjaaP1
set_option linter.unusedVariables false
set_option linter.defProp false
set_option linter.unusedSimpArgs false
namespace Gx
open Go Go.Proofs
open IntKind (wrap)
set_option maxRecDepth 100000
noncomputable section
variable {R:Type} (N:Nat)
def UM (N:Nat) (b:LA) (c:Nat) (d e:Bool) (r0:O R):O R :=
 r0
def AS:=(A0 (@UM R)).1
theorem HM:@AS R=@UM R:=(A0 _).2
def LK (b:LA) (c:Nat) (d e:Bool) (F:KF R):O R:=F (op 0) (hq [(bN 0 [(.imm b c 1 d e),(iv 0)])])
theorem LL (b:LA) (c:Nat) (d e:Bool) (F:KF R):Qr [] Ws N 9 [(.imm b c 1 d e)] [] F=(AS N b c d e (LK b c d e F)):=by
 rw[HM]
 kernel_rfl
def HN (a:LA) (h:Ag) (k:KF R):O R :=
 match a,h with
 | [(.imm b c 1 d e)],[]=>(AS N b c d e (LK b c d e k))
 | _,_=>none
theorem LM:By N 9 @HN:=by
 intro R Q a h k j;unfold HN;split;exact Ee (LL ..) (LL ..) trivial;exact Ef
def LN:=D3 (LM N)
def LO:=Qs (LM N)
def FE (N:Nat) (c b:Int) (r0:Int→O R):O R :=
 (cond ((wrap .u64 b)==0) none (r0 (wrap .i64 (Int.tmod (wrap .u64 c) (wrap .u64 b)))))
def Kf:=(A0 (@FE R)).1
theorem Xm:@Kf R=@FE R:=(A0 _).2
def LP (F:KF R):Int→O R:=(fun d=>F (iv d) [])
theorem LQ (c b:Int) (F:KF R):Qr [] Ws N 18 [(iv c),(iv b)] [] F=(Kf N c b (LP F)):=by
 rw[Xm]
 kernel_rfl
def HO (a:LA) (h:Ag) (k:KF R):O R :=
 match a,h with
 | [(.int .i64 c),(.int .i64 b)],[]=>(Kf N c b (LP k))
 | _,_=>none
theorem LR:By N 18 @HO:=by
 intro R Q a h k j;unfold HO;split;exact Ee (LQ ..) (LQ ..) trivial;exact Ef
def LS:=D3 (LR N)
def LT:=Qs (LR N)
def Jj (g:Int) (c:LA) (b:Nat) (e f:Bool) (d:Int) (r0:Int→Int→O R):O R :=
 (cond (decide (d≥((b:Nat):Int))) (r0 0 d) (cond (Af (wrap .i64 ((wrap .i64 (d+1)) - 1)) b) (L6 .i64 (c.drop (((wrap .i64 ((wrap .i64 (d+1)) - 1)).toNat)*1)) fun i=>(Kf N i g (fun l=>(r0 l (wrap .i64 (d+1)))))) none))
def Cu:=(A0 (@Jj R)).1
theorem Iw:@Cu R=@Jj R:=(A0 _).2
def HP:JN:=[(18,LS N)]
def Rz (c:LA) (b:Nat) (e f:Bool) (F:KF R):Int→Int→O R:=(fun m n=>F (iv m) [(100000,(bN 0 [(.imm c b 1 e f),(iv n)]))])
theorem R2 (g:Int) (c:LA) (b:Nat) (e f:Bool) (d:Int) (F:KF R):Qr (HP N) Ws N 24 [(.optr 100000 0),(iv g)] [(100000,(bN 0 [(.imm c b 1 e f),(iv d)]))] F=(Cu N g c b e f d (Rz c b e f F)):=by
 rw[Iw]
 kernel_rfl
def Ox (a:LA) (h:Ag) (k:KF R):O R :=
 match a,h with
 | [(.optr 100000 0),(.int .i64 g)],[(100000,⟨false,false,false,false,0,[(.imm c b 1 e f),(.int .i64 d)],false,none,0,0⟩)]=>(Cu N g c b e f d (Rz c b e f k))
 | _,_=>none
theorem R3:By N 24 @Ox:=by
 intro R Q a h k j;unfold Ox;split;exact Ee (R2 ..) (R2 ..) ⟨LT N,trivial⟩;exact Ef
def R4:=D3 (R3 N)
def R5:=Qs (R3 N)
def Gm (N:Nat) (r0:LA→Nat→Bool→O R) (d:LA) (c:Nat) (g e:Bool) (f b:Int):O R :=
 (cond ((decide ((0:Int)≤(0:Int)))&&((decide (0≤b))&&((decide (b≤((c:Nat):Int)))&&(decide (((c:Nat):Int)≤((c:Nat):Int)))))) (cond ((!e)||(Cc (d.take ((b.toNat)*1)))) (cond ((Nat.ble (0+(b.toNat)) 140737488355328)&&(Nat.ble ((0+(b.toNat))*8) 140737488355328)) (cond ((Nat.ble ((0+(b.toNat))+1) 140737488355328)&&(Nat.ble (((0+(b.toNat))+1)*8) 140737488355328)) (cond ((decide (0≤b))&&((decide (b≤((c:Nat):Int)))&&((decide (((c:Nat):Int)≤((c:Nat):Int)))&&(decide (((c:Nat):Int)≤((c:Nat):Int)))))) (cond ((!e)||(Cc ((d.drop ((b.toNat)*1)).take ((c - (b.toNat))*1)))) (cond ((Nat.ble (((0+(b.toNat))+1)+(c - (b.toNat))) 140737488355328)&&(Nat.ble ((((0+(b.toNat))+1)+(c - (b.toNat)))*8) 140737488355328)) (r0 (List.take ((((0+(b.toNat))+1)+(c - (b.toNat)))*1) ((List.take (((0+(b.toNat))+1)*1) (((d.take ((b.toNat)*1)).take ((0+(b.toNat))*1))++[(.int .i64 f)]))++((d.drop ((b.toNat)*1)).take ((c - (b.toNat))*1)))) (((0+(b.toNat))+1)+(c - (b.toNat))) false) none) none) none) none) none) none) none)
def Ix (N:Nat) (r0:LA→Nat→Bool→O R) (d:LA) (c:Nat) (g e:Bool) (f:Int) (k0:Int→O R) (q1:O R) (b:Int):O R :=
 (cond ((decide (b<((c:Nat):Int)))==true) (cond (Af b c) (L6 .i64 (d.drop ((b.toNat)*1)) fun i=>(cond (cond true (decide (i<f)) false) (k0 (wrap .i64 (b+1))) (cond ((decide (b<((c:Nat):Int)))==true) (cond (Af b c) (L6 .i64 (d.drop ((b.toNat)*1)) fun l=>(cond (cond true (l==f) false) (r0 d c e) q1)) none) q1))) none) (cond ((decide (b<((c:Nat):Int)))==true) (cond (Af b c) (L6 .i64 (d.drop ((b.toNat)*1)) fun m=>(cond (cond true (m==f) false) (r0 d c e) q1)) none) q1))
def De (r0:LA→Nat→Bool→O R) (d:LA) (c:Nat) (g e:Bool) (f:Int):Nat→Int→O R
 | 0,_=>none
 | n+1,b=>(Ix N r0 d c g e f (De r0 d c g e f n) (Gm N r0 d c g e f b) b)
def Jk (N:Nat) (r0:LA→Nat→Bool→O R) (q0:Int→O R) (d:LA) (c:Nat) (g e:Bool) (f:Int):O R :=
 (q0 0)
def Eg:=(A0 (fun (N:Nat) (d:LA) (c:Nat) (g e:Bool) (f:Int) (r0:LA→Nat→Bool→O R)=>(Jk N r0 (fun b=>(De N r0 d c g e f N b)) d c g e f))).1
theorem Oy (d c g e f r0):(@Eg R N d c g e f r0)=(Jk N r0 (fun b=>(De N r0 d c g e f N b)) d c g e f):=by rw[Eg,(A0 _).2]
def R6:Hints:={ H:=(hS hL (hS hL (hS (hS (hP [0,1,5] hL) hL) (hJ [0,1,5] hL hL)))),nils:=[(4,1)],modes:=[(1,1)] }
def R7 (F:KF R):=CL Try.f13 R6 [] [] N F
def Df (F:KF R):LA→Nat→Bool→O R:=(fun o p q=>F (.imm o p 1 false q) [])
def DU (d:LA) (c:Nat) (g e:Bool) (f b:Int):St:=⟨[(0,(.imm d c 1 g e)),(1,(iv f)),(5,(iv b))],[]⟩
def DV (F:KF R):=R7 N F [1,1,1,1] []
def DW (d:LA) (c:Nat) (g e:Bool) (f b:Int):St:=⟨[(0,(.imm d c 1 g e)),(1,(iv f)),(5,(iv b))],[]⟩
def DX (F:KF R):=R7 N F [1,1,0,0] []
theorem Xn (F:KF R) (d:LA) (c:Nat) (g e:Bool) (f b:Int):HK (DV N F) (DU d c g e f b)=(Gm N (Df F) d c g e f b):=by
 kernel_rfl
theorem L8 (F:KF R) (d:LA) (c:Nat) (g e:Bool) (f:Int):∀ (n:Nat) (b:Int),Ap (DX N F) n (DW d c g e f b)=(De N (Df F) d c g e f n b)
 | 0,_=>by kernel_rfl
 | n+1,b=>Eq.trans (by kernel_rfl) (RN (Ix N (Df F) d c g e f · · b) (funext fun b=>(L8 F d c g e f n b)) ((Vx ..).trans (Xn N F d c g e f b)):_)
theorem R8 (d:LA) (c:Nat) (g e:Bool) (f:Int) (F:KF R):Qr [] R6 N 13 [(.imm d c 1 g e),(iv f)] [] F=(Eg N d c g e f (Df F)):=by
 rw[Oy]
 exact Eq.trans (by kernel_rfl) (Fz (Jk N (Df F) · d c g e f) (funext fun b=>(An ..).trans (L8 N F d c g e f N b)):_)
def Oz (a:LA) (h:Ag) (k:KF R):O R :=
 match a,h with
 | [(.imm d c 1 g e),(.int .i64 f)],[]=>(Eg N d c g e f (Df k))
 | _,_=>none
theorem R9:By N 13 @Oz:=by
 intro R Q a h k j;unfold Oz;split;exact Ee (R8 ..) (R8 ..) trivial;exact Ef
def DY:=D3 (R9 N)
def DZ:=Qs (R9 N)
def Hp (k0:Nat→Int→Int→Bool→LA→O R) (r0:LA→Nat→Bool→O R) (b:Int) (f:Nat) (l:Int) (c:LA) (d:Nat) (e:Bool) (m:Int) (i:Bool) (g:LA):O R :=
 (Cu N b c d false e m (fun o v=>(Cu N (wrap .i64 (b - 1)) c d false e v (fun q w=>(cond (b==0) none (cond (Af o f) (KD 1 (g.drop (0+((o.toNat)*1))) fun x y=>(Eg N x y false i (Int.tmod (wrap .i64 ((wrap .i64 (o+1))+q)) b) (fun s t r=>(cond (Af (Int.tmod (wrap .i64 ((wrap .i64 (o+1))+q)) b) f) (KD 1 (g.drop (0+(((Int.tmod (wrap .i64 ((wrap .i64 (o+1))+q)) b).toNat)*1))) fun z aa=>(Eg N z aa false i o (fun ab ac u=>(cond (Af o f) (cond ((Nat.beq 1 1)&&((Nat.ble ((0+((o.toNat)*1))+1) (g.length))&&(!false))) (cond (Af (Int.tmod (wrap .i64 ((wrap .i64 (o+1))+q)) b) f) (cond ((Nat.beq 1 1)&&((Nat.ble ((0+(((Int.tmod (wrap .i64 ((wrap .i64 (o+1))+q)) b).toNat)*1))+1) ((g.set (0+((o.toNat)*1)) (.imm s t 1 false r)).length))&&(!false))) (k0 f (wrap .i64 (l - 1)) w ((i||(r||false))||(u||false)) ((g.set (0+((o.toNat)*1)) (.imm s t 1 false r)).set (0+(((Int.tmod (wrap .i64 ((wrap .i64 (o+1))+q)) b).toNat)*1)) (.imm ab ac 1 false u))) none) none) none) none)))) none)))) none))))))
def Er (N:Nat) (r0:LA→Nat→Bool→O R) (b:Int) (c:LA) (d:Nat) (e:Bool) (k0:Nat→Int→Int→Bool→LA→O R) (q1:O R) (f:Nat) (l m:Int) (i:Bool) (g:LA):O R :=
 (cond ((decide (l>0))==true) (cond (cond true (decide (b>1)) false) q1 (r0 (g.take (f*1)) f i)) (r0 (g.take (f*1)) f i))
def B0 (r0:LA→Nat→Bool→O R) (b:Int) (c:LA) (d:Nat) (e:Bool):Nat→Nat→Int→Int→Bool→LA→O R
 | 0,_,_,_,_,_=>none
 | n+1,f,l,m,i,g=>(Er N r0 b c d e (B0 r0 b c d e n) (Hp N (B0 r0 b c d e n) r0 b f l c d e m i g) f l m i g)
def Lc (r0:LA→Nat→Bool→O R) (q0:Int→Nat→Int→Int→Bool→LA→O R) (c:LA) (d:Nat) (p e:Bool):O R :=
 (AS N c d false e (Cu N 10 c d false e 0 (fun b ad=>(cond ((decide (0≤b))&&((decide (b≤b))&&((decide (b≤140737488355328))&&(decide ((b*((24:Nat):Int))≤140737488355328))))) (Cu N 20 c d false e ad (fun ae af=>(q0 b (b.toNat) ae af false (List.replicate (b.toNat) .nsl)))) none))))
def G3:=(A0 (fun (N:Nat) (c:LA) (d:Nat) (p e:Bool) (r0:LA→Nat→Bool→O R)=>(Lc N r0 (fun b f l m i g=>(B0 N r0 b c d e N f l m i g)) c d p e))).1
theorem Sa (c d p e r0):(@G3 R N c d p e r0)=(Lc N r0 (fun b f l m i g=>(B0 N r0 b c d e N f l m i g)) c d p e):=by rw[G3,(A0 _).2]
def Ug:Hints:={ H:=(hS hL (hS hL (hS hL (hS hL (hS (hS hL (hS (hP [3,4,5,6] (hJ [3,4,5,6] hL hL)) hL)) hL))))),nils:=[(2,1)],modes:=[(1,1)] }
def Wt:JN:=[(9,LN N),(24,R4 N),(13,DY N)]
def Uh (F:KF R):=CL Try.f8 Ug (Wt N) [] N F
def C7 (F:KF R):LA→Nat→Bool→O R:=(fun ag ah ai=>F (.imm ag ah 1 false ai) [])
def HQ (b:Int) (f:Nat) (l:Int) (c:LA) (d:Nat) (e:Bool) (m:Int) (i:Bool) (g:LA):St:=⟨[(3,(op 0)),(4,(iv b)),(5,(.own 300001 0 f)),(6,(iv l))],(hq [(bN 0 [(.imm c d 1 false e),(iv m)]),(bP i 1 g)])⟩
def HR (F:KF R) (Q0:St→O R):=Uh N F [1,1,1,1,0,1,0,0,1] [Q0]
def Ui (b:Int) (c:LA) (d:Nat) (e:Bool) (f:Nat) (l m:Int) (i:Bool) (g:LA):St:=⟨[(3,(op 0)),(4,(iv b)),(5,(.own 300001 0 f)),(6,(iv l))],(hq [(bN 0 [(.imm c d 1 false e),(iv m)]),(bP i 1 g)])⟩
def Uj (F:KF R):=Uh N F [1,1,1,1,0,1,0] []
theorem Yt (Q0:St→O R) (F:KF R) (b:Int) (f:Nat) (l:Int) (c:LA) (d:Nat) (e:Bool) (m:Int) (i:Bool) (g:LA):HK (HR N F Q0) (HQ b f l c d e m i g)=(Hp N (fun f l m i g=>Q0 (Ui b c d e f l m i g)) (C7 F) b f l c d e m i g):=by
 kernel_rfl
theorem M8 (F:KF R) (b:Int) (c:LA) (d:Nat) (e:Bool):∀ (n f:Nat) (l m:Int) (i:Bool) (g:LA),Ap (Uj N F) n (Ui b c d e f l m i g)=(B0 N (C7 F) b c d e n f l m i g)
 | 0,_,_,_,_,_=>by kernel_rfl
 | n+1,f,l,m,i,g=>have e0:=(funext fun f=>funext fun l=>funext fun m=>funext fun i=>funext fun g=>(M8 F b c d e n f l m i g))
  Eq.trans (by kernel_rfl) (RN (Er N (C7 F) b c d e · · f l m i g) e0 ((Vx ..).trans ((Yt N (Ap (Uj N F) n) F b f l c d e m i g).trans (Fz (Hp N · (C7 F) b f l c d e m i g) e0))):_)
theorem Uk (c:LA) (d:Nat) (p e:Bool) (F:KF R):Qr (Wt N) Ug N 8 [(.imm c d 1 p e)] [] F=(G3 N c d p e (C7 F)):=by
 rw[Sa]
 exact Eq.trans (by kernel_rfl) (Fz (Lc N (C7 F) · c d p e) (funext fun b=>funext fun f=>funext fun l=>funext fun m=>funext fun i=>funext fun g=>(An ..).trans (M8 N F b c d e N f l m i g)):_)
def Sb (a:LA) (h:Ag) (k:KF R):O R :=
 match a,h with
 | [(.imm c d 1 p e)],[]=>(G3 N c d p e (C7 k))
 | _,_=>none
theorem Ul:By N 8 @Sb:=by
 intro R Q a h k j;unfold Sb;split;exact Ee (Uk ..) (Uk ..) ⟨LO N,R5 N,DZ N,trivial⟩;exact Ef
def HS:=D3 (Ul N)
def HT:=Qs (Ul N)
def Ns (N:Nat) (e:LA) (b:Nat) (f d:Bool) (c:Int) (r0:LA→Nat→Bool→O R):O R :=
 (cond (decide (((b:Nat):Int)>c)) (cond ((decide ((0:Int)≤(0:Int)))&&((decide (0≤c))&&((decide (c≤((b:Nat):Int)))&&(decide (((b:Nat):Int)≤((b:Nat):Int)))))) (r0 (e.take ((c.toNat)*1)) (c.toNat) false) none) (r0 e b f))
def Hq:=(A0 (@Ns R)).1
theorem O0:@Hq R=@Ns R:=(A0 _).2
def D_:Hints:={ H:=hL,nils:=[(4,1)],modes:=[(2,1)] }
def Sc (d:Bool) (F:KF R):LA→Nat→Bool→O R:=(fun g i l=>F (.imm g i 1 l d) [])
theorem Sd (e:LA) (b:Nat) (f d:Bool) (c:Int) (F:KF R):Qr [] D_ N 15 [(.imm e b 1 f d),(iv c)] [] F=(Hq N e b f d c (Sc d F)):=by
 rw[O0]
 kernel_rfl
def O1 (a:LA) (h:Ag) (k:KF R):O R :=
 match a,h with
 | [(.imm e b 1 f d),(.int .i64 c)],[]=>(Hq N e b f d c (Sc d k))
 | _,_=>none
theorem Se:By N 15 @O1:=by
 intro R Q a h k j;unfold O1;split;exact Ee (Sd ..) (Sd ..) trivial;exact Ef
def EA:=D3 (Se N)
def EB:=Qs (Se N)
def Nt (N:Nat) (b:Int) (r0:Bool→O R):O R :=
 (r0 (b != b))
def Hr:=(A0 (@Nt R)).1
theorem O2:@Hr R=@Nt R:=(A0 _).2
def Sf (F:KF R):Bool→O R:=(fun c=>F (.bool c) [])
theorem Sg (b:Int) (F:KF R):Qr [] Ws N 67 [(iv b)] [] F=(Hr N b (Sf F)):=by
 rw[O2]
 kernel_rfl
def O3 (a:LA) (h:Ag) (k:KF R):O R :=
 match a,h with
 | [(.int .i64 b)],[]=>(Hr N b (Sf k))
 | _,_=>none
theorem Sh:By N 67 @O3:=by
 intro R Q a h k j;unfold O3;split;exact Ee (Sg ..) (Sg ..) trivial;exact Ef
def EC:=D3 (Sh N)
def ED:=Qs (Sh N)
def Ch (r0:Int→Bool→O R) (d:LA) (c:Nat) (f g:Bool) (e:Int) (k0:Int→Int→Int→O R) (l b i:Int):O R :=
 (cond (decide (b<i)) (cond (Af (wrap .i64 (Int.fdiv (wrap .u64 (wrap .i64 (b+i))) (2 ^ 1))) c) (L6 .i64 (d.drop (((wrap .i64 (Int.fdiv (wrap .u64 (wrap .i64 (b+i))) (2 ^ 1))).toNat)*1)) fun m=>(Ho N m e (fun o=>(cond o (k0 l (wrap .i64 ((wrap .i64 (Int.fdiv (wrap .u64 (wrap .i64 (b+i))) (2 ^ 1)))+1)) i) (k0 l b (wrap .i64 (Int.fdiv (wrap .u64 (wrap .i64 (b+i))) (2 ^ 1)))))))) none) (cond ((decide (b<l))==true) (cond (Af b c) (L6 .i64 (d.drop ((b.toNat)*1)) fun p=>(cond ((p==e)==false) (cond (Af b c) (L6 .i64 (d.drop ((b.toNat)*1)) fun q=>(Hr N q (fun r=>(cond (r==true) (Hr N e (fun s=>(r0 b (cond true (cond false true (cond true s false)) false)))) (r0 b false))))) none) (r0 b true))) none) (r0 b false)))
def Az (r0:Int→Bool→O R) (d:LA) (c:Nat) (f g:Bool) (e:Int):Nat→Int→Int→Int→O R
 | 0,_,_,_=>none
 | n+1,l,b,i=>(Ch N r0 d c f g e (Az r0 d c f g e n) l b i)
def B7 (N:Nat) (r0:Int→Bool→O R) (q0:Int→Int→Int→O R) (d:LA) (c:Nat) (f g:Bool) (e:Int):O R :=
 (q0 ((c:Nat):Int) 0 ((c:Nat):Int))
def A8:=(A0 (fun (N:Nat) (d:LA) (c:Nat) (f g:Bool) (e:Int) (r0:Int→Bool→O R)=>(B7 N r0 (fun l b i=>(Az N r0 d c f g e N l b i)) d c f g e))).1
theorem Es (d c f g e r0):(@A8 R N d c f g e r0)=(B7 N r0 (fun l b i=>(Az N r0 d c f g e N l b i)) d c f g e):=by rw[A8,(A0 _).2]
def E7:Hints:={ H:=(hS hL (hS hL (hS hL (hS (hS (hP [0,1,6,7,8] hL) hL) hL)))) }
def Fe:JN:=[(66,DS N),(67,EC N)]
def Ld (F:KF R):=CL Try.f51 E7 (Fe N) [] N F
def Bb (F:KF R):Int→Bool→O R:=(fun t u=>F (.tup [(iv t),(.bool u)]) [])
def Le (d:LA) (c:Nat) (f g:Bool) (e l b i:Int):St:=⟨[(0,(.imm d c 1 f g)),(1,(iv e)),(6,(iv l)),(7,(iv b)),(8,(iv i))],[]⟩
def Lf (F:KF R):=Ld N F [1,1,1,0,0] []
theorem D4 (F:KF R) (d:LA) (c:Nat) (f g:Bool) (e:Int):∀ (n:Nat) (l b i:Int),Ap (Lf N F) n (Le d c f g e l b i)=(Az N (Bb F) d c f g e n l b i)
 | 0,_,_,_=>by kernel_rfl
 | n+1,l,b,i=>Eq.trans (by kernel_rfl) (Fz (Ch N (Bb F) d c f g e · l b i) (funext fun l=>funext fun b=>funext fun i=>(D4 F d c f g e n l b i)):_)
theorem E8 (d:LA) (c:Nat) (f g:Bool) (e:Int) (F:KF R):Qr (Fe N) E7 N 51 [(.imm d c 1 f g),(iv e)] [] F=(A8 N d c f g e (Bb F)):=by
 rw[Es]
 exact Eq.trans (by kernel_rfl) (Fz (B7 N (Bb F) · d c f g e) (funext fun l=>funext fun b=>funext fun i=>(An ..).trans (D4 N F d c f g e N l b i)):_)
def Et (a:LA) (h:Ag) (k:KF R):O R :=
 match a,h with
 | [(.imm d c 1 f g),(.int .i64 e)],[]=>(A8 N d c f g e (Bb k))
 | _,_=>none
theorem E9:By N 51 @Et:=by
 intro R Q a h k j;unfold Et;split;exact Ee (E8 ..) (E8 ..) ⟨DT N,ED N,trivial⟩;exact Ef
def Lg:=D3 (E9 N)
def Lh:=Qs (E9 N)
def Qt (N:Nat) (k0:Int→Int→O R) (r0:Bool→O R) (d:LA) (b:Nat) (e c:Bool) (p:LA) (o:Nat) (f:Int) (k1:Int→Int→Int→Int→O R) (r s t l:Int):O R :=
 (cond (decide (l<t)) (cond (Af l o) (L6 .i64 (p.drop ((l.toNat)*1)) fun z=>(cond ((decide (z<0))==false) (cond ((cond false true (decide (z≥((b:Nat):Int))))==false) (cond ((cond false true (z==r))==false) (cond ((decide (l>0))==true) (cond (Af (wrap .i64 (l - 1)) o) (L6 .i64 (p.drop (((wrap .i64 (l - 1)).toNat)*1)) fun ab=>(cond (cond false true (cond true (decide (ab≥z)) false)) (r0 false) (k1 r s t (wrap .i64 (l+1))))) none) (k1 r s t (wrap .i64 (l+1)))) (r0 false)) (r0 false)) (r0 false))) none) (k0 f (wrap .i64 (s+1))))
def G4 (k0:Int→Int→O R) (r0:Bool→O R) (d:LA) (b:Nat) (e c:Bool) (p:LA) (o:Nat) (f:Int):Nat→Int→Int→Int→Int→O R
 | 0,_,_,_,_=>none
 | n+1,r,s,t,l=>(Qt N k0 r0 d b e c p o f (G4 k0 r0 d b e c p o f n) r s t l)
def Qu (k2:Int→Int→O R) (r0:Bool→O R) (d:LA) (b:Nat) (e c:Bool) (g:Int) (v:LA) (u:Nat) (k3:Int→Int→Int→Int→O R) (w x y q:Int):O R :=
 (cond (decide (q<y)) (cond (Af q u) (L6 .i64 (v.drop ((q.toNat)*1)) fun aa=>(cond (Af aa b) (KD 1 (d.drop ((aa.toNat)*1)) fun ac ad=>(A8 N ac ad false c w (fun ag ae=>(cond (!ae) (r0 false) (k3 w x y (wrap .i64 (q+1))))))) none)) none) (k2 g (wrap .i64 (x+1))))
def G5 (k2:Int→Int→O R) (r0:Bool→O R) (d:LA) (b:Nat) (e c:Bool) (g:Int) (v:LA) (u:Nat):Nat→Int→Int→Int→Int→O R
 | 0,_,_,_,_=>none
 | n+1,w,x,y,q=>(Qu N k2 r0 d b e c g v u (G5 k2 r0 d b e c g v u n) w x y q)
def Qv (N:Nat) (r0:Bool→O R) (d:LA) (b:Nat) (e c:Bool) (k2:Int→Int→O R) (q3:LA→Nat→Int→Int→Int→Int→O R) (g m:Int):O R :=
 (cond (decide (m<g)) (cond (Af m b) (KD 1 (d.drop ((m.toNat)*1)) fun v u=>(q3 v u m m ((u:Nat):Int) 0)) none) (r0 true))
def Ff (r0:Bool→O R) (d:LA) (b:Nat) (e c:Bool):Nat→Int→Int→O R
 | 0,_,_=>none
 | n+1,g,m=>(Qv N r0 d b e c (Ff r0 d b e c n) (fun v u w x y q=>(G5 N (Ff r0 d b e c n) r0 d b e c g v u N w x y q)) g m)
def Qw (N:Nat) (r0:Bool→O R) (d:LA) (b:Nat) (e c:Bool) (k0:Int→Int→O R) (q1:LA→Nat→Int→Int→Int→Int→O R) (q2:Int→Int→O R) (f i:Int):O R :=
 (cond (decide (i<f)) (cond (Af i b) (KD 1 (d.drop ((i.toNat)*1)) fun p o=>(q1 p o i i ((o:Nat):Int) 0)) none) (q2 ((b:Nat):Int) 0))
def Fg (r0:Bool→O R) (d:LA) (b:Nat) (e c:Bool):Nat→Int→Int→O R
 | 0,_,_=>none
 | n+1,f,i=>(Qw N r0 d b e c (Fg r0 d b e c n) (fun p o r s t l=>(G4 N (Fg r0 d b e c n) r0 d b e c p o f N r s t l)) (fun g m=>(Ff N r0 d b e c N g m)) f i)
def Vy (N:Nat) (r0:Bool→O R) (q0:Int→Int→O R) (d:LA) (b:Nat) (e c:Bool):O R :=
 (cond (decide (((b:Nat):Int)>16384)) (r0 false) (q0 ((b:Nat):Int) 0))
def Gh:=(A0 (fun (N:Nat) (d:LA) (b:Nat) (e c:Bool) (r0:Bool→O R)=>(Vy N r0 (fun f i=>(Fg N r0 d b e c N f i)) d b e c))).1
theorem Yu (d b e c r0):(@Gh R N d b e c r0)=(Vy N r0 (fun f i=>(Fg N r0 d b e c N f i)) d b e c):=by rw[Gh,(A0 _).2]
def CM:Hints:={ H:=(hS hL (hS hL (hS (hS hL (hS (hP [0,16,17,18] (hS hL (hS hL (hS (hS (hS hL (hS hL (hS (hP [0,3,4,16,17,18,23,24,25] hL) hL))) hL) hL)))) hL)) (hS (hS hL (hS (hP [0,58,59,60] (hS hL (hS hL (hS (hS (hS hL (hS hL (hS (hP [0,7,58,59,60,65,66,67] hL) hL))) hL) hL)))) hL)) hL)))) }
def HU:JN:=[(51,Lg N)]
def M9 (F:KF R):=CL Try.f30 CM (HU N) [] N F
def Bs (F:KF R):Bool→O R:=(fun af=>F (.bool af) [])
def P_ (d:LA) (b:Nat) (e c:Bool) (p:LA) (o:Nat) (f r s t l:Int):St:=⟨[(0,(.imm d b 1 e c)),(3,(iv r)),(4,(.imm p o 1 false c)),(16,(.imm d b 1 e c)),(17,(iv f)),(18,(iv s)),(23,(.imm p o 1 false c)),(24,(iv t)),(25,(iv l))],[]⟩
def P' (F:KF R) (Q0:St→O R):=M9 N F [1,1,0,1,0,0,1,1,0,0,1,1,0] [Q0]
def QA (d:LA) (b:Nat) (e c:Bool) (g:Int) (v:LA) (u:Nat) (w x y q:Int):St:=⟨[(0,(.imm d b 1 e c)),(7,(iv w)),(58,(.imm d b 1 e c)),(59,(iv g)),(60,(iv x)),(65,(.imm v u 1 false c)),(66,(iv y)),(67,(iv q))],[]⟩
def QB (F:KF R) (Q2:St→O R):=M9 N F [1,1,1,0,1,0,0,1,1,0,0,1,1,0] [Q2]
def Um (d:LA) (b:Nat) (e c:Bool) (g m:Int):St:=⟨[(0,(.imm d b 1 e c)),(58,(.imm d b 1 e c)),(59,(iv g)),(60,(iv m))],[]⟩
def CN (F:KF R):=M9 N F [1,1,1,0,1,0] []
def Un (d:LA) (b:Nat) (e c:Bool) (f i:Int):St:=⟨[(0,(.imm d b 1 e c)),(16,(.imm d b 1 e c)),(17,(iv f)),(18,(iv i))],[]⟩
def CO (F:KF R):=M9 N F [1,1,0,1,0] []
theorem Uo (Q0:St→O R) (F:KF R) (d:LA) (b:Nat) (e c:Bool) (p:LA) (o:Nat) (f:Int):∀ (n:Nat) (r s t l:Int),Ap (P' N F Q0) n (P_ d b e c p o f r s t l)=(G4 N (fun f i=>Q0 (Un d b e c f i)) (Bs F) d b e c p o f n r s t l)
 | 0,_,_,_,_=>by kernel_rfl
 | n+1,r,s,t,l=>Eq.trans (by kernel_rfl) (Fz (Qt N (fun f i=>Q0 (Un d b e c f i)) (Bs F) d b e c p o f · r s t l) (funext fun r=>funext fun s=>funext fun t=>funext fun l=>(Uo Q0 F d b e c p o f n r s t l)):_)
theorem Up (Q2:St→O R) (F:KF R) (d:LA) (b:Nat) (e c:Bool) (g:Int) (v:LA) (u:Nat):∀ (n:Nat) (w x y q:Int),Ap (QB N F Q2) n (QA d b e c g v u w x y q)=(G5 N (fun g m=>Q2 (Um d b e c g m)) (Bs F) d b e c g v u n w x y q)
 | 0,_,_,_,_=>by kernel_rfl
 | n+1,w,x,y,q=>Eq.trans (by kernel_rfl) (Fz (Qu N (fun g m=>Q2 (Um d b e c g m)) (Bs F) d b e c g v u · w x y q) (funext fun w=>funext fun x=>funext fun y=>funext fun q=>(Up Q2 F d b e c g v u n w x y q)):_)
theorem Uq (F:KF R) (d:LA) (b:Nat) (e c:Bool):∀ (n:Nat) (g m:Int),Ap (CN N F) n (Um d b e c g m)=(Ff N (Bs F) d b e c n g m)
 | 0,_,_=>by kernel_rfl
 | n+1,g,m=>have e0:=(funext fun g=>funext fun m=>(Uq F d b e c n g m))
  Eq.trans (by kernel_rfl) (RN (Qv N (Bs F) d b e c · · g m) e0 (funext fun v=>funext fun u=>funext fun w=>funext fun x=>funext fun y=>funext fun q=>(An ..).trans ((Up N (Ap (CN N F) n) F d b e c g v u N w x y q).trans (Fz (G5 N · (Bs F) d b e c g v u N w x y q) e0))):_)
theorem Ur (F:KF R) (d:LA) (b:Nat) (e c:Bool):∀ (n:Nat) (f i:Int),Ap (CO N F) n (Un d b e c f i)=(Fg N (Bs F) d b e c n f i)
 | 0,_,_=>by kernel_rfl
 | n+1,f,i=>have e0:=(funext fun f=>funext fun i=>(Ur F d b e c n f i))
  Eq.trans (by kernel_rfl) (bj (Qw N (Bs F) d b e c · · · f i) e0 (funext fun p=>funext fun o=>funext fun r=>funext fun s=>funext fun t=>funext fun l=>(An ..).trans ((Uo N (Ap (CO N F) n) F d b e c p o f N r s t l).trans (Fz (G4 N · (Bs F) d b e c p o f N r s t l) e0))) (funext fun g=>funext fun m=>(An ..).trans (Uq N F d b e c N g m)):_)
theorem CP (d:LA) (b:Nat) (e c:Bool) (F:KF R):Qr (HU N) CM N 30 [(.imm d b 1 e c)] [] F=(Gh N d b e c (Bs F)):=by
 rw[Yu]
 exact Eq.trans (by kernel_rfl) (Fz (Vy N (Bs F) · d b e c) (funext fun f=>funext fun i=>(An ..).trans (Ur N F d b e c N f i)):_)
def Yv (a:LA) (h:Ag) (k:KF R):O R :=
 match a,h with
 | [(.imm d b 1 e c)],[]=>(Gh N d b e c (Bs k))
 | _,_=>none
theorem CQ:By N 30 @Yv:=by
 intro R Q a h k j;unfold Yv;split;exact Ee (CP ..) (CP ..) ⟨Lh N,trivial⟩;exact Ef
def Js:=D3 (CQ N)
def Jt:=Qs (CQ N)
def L9 (N:Nat) (k0:Int→Int→LA→O R) (r0:LA→O R) (b:Nat) (c:LA) (e d:Bool) (f:Int) (q:LA) (o:Nat) (k1:Int→Int→Int→Int→LA→O R) (l r s m:Int) (p:LA):O R :=
 (cond (decide (m<s)) (cond (Af m o) (L6 .i64 (q.drop ((m.toNat)*1)) fun t=>(cond (Af l b) (S_ (p.drop (l.toNat)) fun u=>(k1 l r s (wrap .i64 (m+1)) (p.set (l.toNat) (Bd (P6 u t) 0 0)))) none)) none) (k0 f (wrap .i64 (r+1)) p))
def E1 (k0:Int→Int→LA→O R) (r0:LA→O R) (b:Nat) (c:LA) (e d:Bool) (f:Int) (q:LA) (o:Nat):Nat→Int→Int→Int→Int→LA→O R
 | 0,_,_,_,_,_=>none
 | n+1,l,r,s,m,p=>(L9 N k0 r0 b c e d f q o (E1 k0 r0 b c e d f q o n) l r s m p)
def Ma (N:Nat) (r0:LA→O R) (b:Nat) (c:LA) (e d:Bool) (k0:Int→Int→LA→O R) (q1:LA→Nat→Int→Int→Int→Int→LA→O R) (f g:Int) (i:LA):O R :=
 (cond (decide (g<f)) (cond (Af g b) (KD 1 (c.drop ((g.toNat)*1)) fun q o=>(cond (Af g b) (q1 q o g g ((o:Nat):Int) 0 (i.set (g.toNat) (Bd [] 0 0))) none)) none) (r0 i))
def Cy (r0:LA→O R) (b:Nat) (c:LA) (e d:Bool):Nat→Int→Int→LA→O R
 | 0,_,_,_=>none
 | n+1,f,g,i=>(Ma N r0 b c e d (Cy r0 b c e d n) (fun q o l r s m p=>(E1 N (Cy r0 b c e d n) r0 b c e d f q o N l r s m p)) f g i)
def Na (N:Nat) (r0:LA→O R) (q0:Int→Int→LA→O R) (c:LA) (b:Nat) (e d:Bool):O R :=
 (cond ((decide (0≤((b:Nat):Int)))&&((decide (((b:Nat):Int)=((b:Nat):Int)))&&((decide (((b:Nat):Int)≤140737488355328))&&(decide ((((b:Nat):Int)*((8:Nat):Int))≤140737488355328))))) (q0 ((b:Nat):Int) 0 (List.replicate b .nsl)) none)
def Eh:=(A0 (fun (N:Nat) (c:LA) (b:Nat) (e d:Bool) (r0:LA→O R)=>(Na N r0 (fun f g i=>(Cy N r0 b c e d N f g i)) c b e d))).1
theorem Us (c b e d r0):(@Eh R N c b e d r0)=(Na N r0 (fun f g i=>(Cy N r0 b c e d N f g i)) c b e d):=by rw[Eh,(A0 _).2]
def Wu:Hints:={ H:=(hS hL (hS hL (hS (hS hL (hS (hP [3,11,12,13] (hS hL (hS hL (hS (hS (hS hL (hS hL (hS hL (hS (hP [3,4,11,12,13,22,23,24] hL) hL)))) hL) hL)))) hL)) hL))),nils:=[(2,1)],modes:=[(2,1)],cob:=[2000010] }
def Wv (F:KF R):=CL Try.f32 Wu [] [] N F
def Cz (b:Nat) (F:KF R):LA→O R:=(fun v=>F (.nd 300000 (.whole b)) (hq [⟨false,false,true,false,2,v,true,none,0,0⟩]))
def KE (b:Nat) (c:LA) (e d:Bool) (f:Int) (q:LA) (o:Nat) (l r s m:Int) (p:LA):St:=⟨[(3,(.nd 300000 (.whole b))),(4,(iv l)),(11,(.imm c b 1 e d)),(12,(iv f)),(13,(iv r)),(22,(.imm q o 1 false d)),(23,(iv s)),(24,(iv m))],(hq [⟨false,false,true,false,2,p,true,none,0,0⟩])⟩
def KG (F:KF R) (Q0:St→O R):=Wv N F [1,1,0,1,0,0,1,1,0,0,1,1,1,0] [Q0]
def Nu (b:Nat) (c:LA) (e d:Bool) (f g:Int) (i:LA):St:=⟨[(3,(.nd 300000 (.whole b))),(11,(.imm c b 1 e d)),(12,(iv f)),(13,(iv g))],(hq [⟨false,false,true,false,2,i,true,none,0,0⟩])⟩
def Ww (F:KF R):=Wv N F [1,1,0,1,0] []
theorem O4 (Q0:St→O R) (F:KF R) (b:Nat) (c:LA) (e d:Bool) (f:Int) (q:LA) (o:Nat):∀ (n:Nat) (l r s m:Int) (p:LA),Ap (KG N F Q0) n (KE b c e d f q o l r s m p)=(E1 N (fun f g i=>Q0 (Nu b c e d f g i)) (Cz b F) b c e d f q o n l r s m p)
 | 0,_,_,_,_,_=>by kernel_rfl
 | n+1,l,r,s,m,p=>Eq.trans (by kernel_rfl) (Fz (L9 N (fun f g i=>Q0 (Nu b c e d f g i)) (Cz b F) b c e d f q o · l r s m p) (funext fun l=>funext fun r=>funext fun s=>funext fun m=>funext fun p=>(O4 Q0 F b c e d f q o n l r s m p)):_)
theorem O5 (F:KF R) (b:Nat) (c:LA) (e d:Bool):∀ (n:Nat) (f g:Int) (i:LA),Ap (Ww N F) n (Nu b c e d f g i)=(Cy N (Cz b F) b c e d n f g i)
 | 0,_,_,_=>by kernel_rfl
 | n+1,f,g,i=>have e0:=(funext fun f=>funext fun g=>funext fun i=>(O5 F b c e d n f g i))
  Eq.trans (by kernel_rfl) (RN (Ma N (Cz b F) b c e d · · f g i) e0 (funext fun q=>funext fun o=>funext fun l=>funext fun r=>funext fun s=>funext fun m=>funext fun p=>(An ..).trans ((O4 N (Ap (Ww N F) n) F b c e d f q o N l r s m p).trans (Fz (E1 N · (Cz b F) b c e d f q o N l r s m p) e0))):_)
theorem Wx (c:LA) (b:Nat) (e d:Bool) (F:KF R):Qr [] Wu N 32 [(.imm c b 1 e d)] [] F=(Eh N c b e d (Cz b F)):=by
 rw[Us]
 exact Eq.trans (by kernel_rfl) (Fz (Na N (Cz b F) · c b e d) (funext fun f=>funext fun g=>funext fun i=>(An ..).trans (O5 N F b c e d N f g i)):_)
def Ut (a:LA) (h:Ag) (k:KF R):O R :=
 match a,h with
 | [(.imm c b 1 e d)],[]=>(Eh N c b e d (Cz b k))
 | _,_=>none
theorem Wy:By N 32 @Ut:=by
 intro R Q a h k j;unfold Ut;split;exact Ee (Wx ..) (Wx ..) trivial;exact Ef
def Jl:=D3 (Wy N)
def Jm:=Qs (Wy N)
end
end Gx

namespace Go.Proofs
open Go.Shelf
open Go.RowKit Go.Lib Go.Sort
def Try.lays189_ren : Go.Shelf.Ren := ⟨fun | 189 => 68 | 125 => 79 | 257 => 78 | 128 => 99 | 129 => 100 | 294 => 91 | 295 => 92 | 296 => 93 | 297 => 94 | 298 => 95 | 299 => 96 | 216 => 66 | 300 => 97 | 301 => 98 | 328 => 110 | 329 => 111 | 330 => 112 | 331 => 113 | 332 => 114 | 215 => 77 | 343 => 120 | n => n, fun | 28 => 22 | 3 => 3 | 46 => 100 | 0 => 0 | 51 => 92 | 53 => 66 | 4 => 4 | 183 => 123 | 182 => 122 | 131 => 88 | 5 => 5 | 9 => 9 | 218 => 137 | 222 => 141 | 228 => 147 | 229 => 148 | n => n, fun | n => n⟩
theorem Try.lays189 : Go.Proofs.Lays.n189 Try.prog Try.lays189_ren := {
  mixed := by kernel_rfl
  f125 := Try.func79.trans (congrArg some (by kernel_rfl))
  f128 := Try.func99.trans (congrArg some (by kernel_rfl))
  f129 := Try.func100.trans (congrArg some (by kernel_rfl))
  f189 := Try.func68.trans (congrArg some (by kernel_rfl))
  f215 := Try.func77.trans (congrArg some (by kernel_rfl))
  f216 := Try.func66.trans (congrArg some (by kernel_rfl))
  f257 := Try.func78.trans (congrArg some (by kernel_rfl))
  f294 := Try.func91.trans (congrArg some (by kernel_rfl))
  f295 := Try.func92.trans (congrArg some (by kernel_rfl))
  f296 := Try.func93.trans (congrArg some (by kernel_rfl))
  f297 := Try.func94.trans (congrArg some (by kernel_rfl))
  f298 := Try.func95.trans (congrArg some (by kernel_rfl))
  f299 := Try.func96.trans (congrArg some (by kernel_rfl))
  f300 := Try.func97.trans (congrArg some (by kernel_rfl))
  f301 := Try.func98.trans (congrArg some (by kernel_rfl))
  f328 := Try.func110.trans (congrArg some (by kernel_rfl))
  f329 := Try.func111.trans (congrArg some (by kernel_rfl))
  f330 := Try.func112.trans (congrArg some (by kernel_rfl))
  f331 := Try.func113.trans (congrArg some (by kernel_rfl))
  f332 := Try.func114.trans (congrArg some (by kernel_rfl))
  f343 := Try.func120.trans (congrArg some (by kernel_rfl))
  t0 := Try.underlying0
  a0 := Try.isAgg0
  z0 := Try.sizeOf0
  v0 := Try.zeroValue0
  t3 := Try.underlying3
  a3 := Try.isAgg3
  z3 := Try.sizeOf3
  v3 := Try.zeroValue3
  t4 := Try.underlying4
  a4 := Try.isAgg4
  z4 := Try.sizeOf4
  v4 := Try.zeroValue4
  t5 := Try.underlying5
  a5 := Try.isAgg5
  z5 := Try.sizeOf5
  v5 := Try.zeroValue5
  t9 := Try.underlying9
  a9 := Try.isAgg9
  z9 := Try.sizeOf9
  v9 := Try.zeroValue9
  t28 := Try.underlying22
  a28 := Try.isAgg22
  z28 := Try.sizeOf22
  v28 := Try.zeroValue22
  t46 := Try.underlying100
  a46 := Try.isAgg100
  z46 := Try.sizeOf100
  v46 := Try.zeroValue100
  t51 := Try.underlying92
  a51 := Try.isAgg92
  z51 := Try.sizeOf92
  v51 := Try.zeroValue92
  t53 := Try.underlying66
  a53 := Try.isAgg66
  z53 := Try.sizeOf66
  v53 := Try.zeroValue66
  t131 := Try.underlying88
  a131 := Try.isAgg88
  z131 := Try.sizeOf88
  v131 := Try.zeroValue88
  t182 := Try.underlying122
  a182 := Try.isAgg122
  z182 := Try.sizeOf122
  v182 := Try.zeroValue122
  t183 := Try.underlying123
  a183 := Try.isAgg123
  z183 := Try.sizeOf123
  v183 := Try.zeroValue123
  t218 := Try.underlying137
  a218 := Try.isAgg137
  z218 := Try.sizeOf137
  v218 := Try.zeroValue137
  t222 := Try.underlying141
  a222 := Try.isAgg141
  z222 := Try.sizeOf141
  v222 := Try.zeroValue141
  t228 := Try.underlying147
  a228 := Try.isAgg147
  z228 := Try.sizeOf147
  v228 := Try.zeroValue147
  t229 := Try.underlying148
  a229 := Try.isAgg148
  z229 := Try.sizeOf148
  v229 := Try.zeroValue148 }
open Go.Sort Go.RowKit in
theorem Try.slices_Sort_int (blk off cap : Nat) (zs : List Int) (w : World) (hH : Holds (Value.int .i64) w blk off zs.toArray) (hblk : blk < w.heap.size) (hsz : zs.length < 4611686018427387904) :
    Calls Try.prog 68 #[.slice (some ⟨blk, off, none⟩) zs.length cap] w fun e w' =>
      e = .returned (.tuple #[]) ∧ ∃ n os, w' = grow (putRow (Value.int .i64) (Sort.ahead w n) blk off (zs.mergeSort fun x y => decide (x ≤ y)).toArray) os := Any.slices_Sort_int Try.lays189 blk off cap zs w hH hblk hsz
def Try.laysNm223_ren : Go.Shelf.Ren := ⟨fun | 23 => 41 | n => n, fun | 22 => 22 | 3 => 3 | 4 => 4 | 0 => 0 | n => n, fun | n => n⟩
theorem Try.laysNm223 : Go.Proofs.Lays2.n23 Try.prog Try.laysNm223_ren := {
  mixed := by kernel_rfl
  f23 := Try.func41.trans (congrArg some (by kernel_rfl))
  t0 := Try.underlying0
  a0 := Try.isAgg0
  z0 := Try.sizeOf0
  v0 := Try.zeroValue0
  t3 := Try.underlying3
  a3 := Try.isAgg3
  z3 := Try.sizeOf3
  v3 := Try.zeroValue3
  t4 := Try.underlying4
  a4 := Try.isAgg4
  z4 := Try.sizeOf4
  v4 := Try.zeroValue4
  t22 := Try.underlying22
  a22 := Try.isAgg22
  z22 := Try.sizeOf22
  v22 := Try.zeroValue22
  i3 := by kernel_rfl }
theorem Try.slices_Delete_int (blk off cap i j : Nat) (zs : List Int) (w : World) (hH : Holds (Value.int .i64) w blk off zs.toArray) (hcap : zs.length ≤ cap) (hm : cap ≤ 9223372036854775807) (hij : i ≤ j) (hj : j ≤ zs.length) :
    Calls Try.prog 41 #[.slice (some ⟨blk, off, none⟩) zs.length cap, .int .i64 i, .int .i64 j] w fun e w' => e = .returned (.slice (some ⟨blk, off, none⟩) (zs.length - (j - i)) cap) ∧ ∃ q, w' = putRow (Value.int .i64) (Sort.ahead w q) blk off (zs.take i ++ zs.drop j ++ List.replicate (j - i) 0).toArray := Any.slices_Delete_int Try.laysNm223 blk off cap i j zs w hH hcap hm hij hj
end Go.Proofs

namespace Go.Proofs.Nb
open Go.RowKit Go.Maps Go.Sort Go.MapKept
theorem bS:Keyed Try.prog 3:=int_keyed Try.underlying3
theorem bT:(Try.prog.info? 3).map (fun i=>(i.zero,i.size,i.bytes))=some (some (.int .i64 0),1,8):=by kernel_rfl
section
variable {H:Type} {D0:DataW H} {left:Lit→Bool} {ss:List Int}
def CollectedI (D0:DataW H) (left:Lit→Bool) (ss:List Int):Prop:=ss.Nodup∧∀ x,x ∈ ss↔(has D0 (.int .i64 x)=true∧left (.int .i64 x)=false)
theorem CollectedI.start (D0:DataW H):CollectedI D0 (has D0) []:=⟨List.nodup_nil,fun x=>by cases has D0 (.int .i64 x)<;>simp⟩
theorem CollectedI.step (h:CollectedI D0 left ss) {x:Int} {y:DataW H} (hlk:left (.int .i64 x)=true) (hat:∀ zd,D0.atKey (.int .i64 x) zd=y):CollectedI D0 (fun z=>left z&&!z.sameKey (.int .i64 x)) (ss++[x]):=by
 have hhas:has D0 (.int .i64 x)=true:=has_true_of_atKey hat
 have hnew:x ∉ ss:=fun hx=>by have:=((h.2 x).1 hx).2;rw[hlk] at this;cases this
 refine⟨List.nodup_append.2 ⟨h.1,by simp,fun a ha b hb=>by simp at hb;subst hb;exact fun e=>hnew (e▸ha)⟩,fun y=>?_⟩
 by_cases hy:y=x
 ·subst hy;simp[hhas,Lit.sameKey]
 ·simp[h.2 y,hy,Lit.sameKey]
end
theorem TA {w w1:World} {a:Addr} {v:Value} (hg:w.grownBy w1 none) (h:w.cell? a=some v):w1.cell? a=some v:=by
 have hlt:a.block<w.heap.size:=by
  rcases Nat.lt_or_ge a.block w.heap.size with hl | hl
  ·exact hl
  ·simp[World.cell?,Array.getElem?_eq_none hl] at h
 have:=hg.block a.block hlt (by simp)
 unfold World.cell? at h ⊢
 rw[this];exact h
set_option maxRecDepth 100000 in
set_option maxHeartbeats 1000000 in
theorem walk {H:Type} (k b kk n:Nat) (c:Int) (D0:DataW H) (w:World) (h0:0≤c) (h1:c<(b:Int)) (hcell:w.cell? ⟨k,c.toNat,none⟩=some (.map (some kk))) (hown:w.ownsMap Try.prog 3 (plainElem Try.prog 4) kk n D0) (hmax:Maps.size D0≤16777216) :
  Calls Try.prog 52 #[.slice (some ⟨k,0,none⟩) b b,.int .i64 c] w fun e w'=>∃ (ss:List Int),e=.returned (.slice (some ⟨w.heap.size,0,none⟩) ss.length (Maps.size D0))∧ss.Nodup∧(∀ x,x ∈ ss↔has D0 (.int .i64 x)=true) ∧
   w'.ownsRow w.heap.size 3 1 (.slice (some ⟨w.heap.size,0,none⟩) ss.length (Maps.size D0)) ss.length ((ss.mergeSort (fun x y=>decide (x≤y))).map (Value.int .i64))∧Below w.heap.size w w':=by
 obtain⟨i0,hi,hz0,hz1,hz2⟩:=info_parts bT
 have hbl:=hown.lt
 have hc2:c<b:=h1
 go_enter Try.func52,Try.ntmps52
 go_wp2_with (first
  | (at_len;refine wpList_len_own _ rfl _ 68 rfl 3 4 Try.underlying68 _ kk n _ rfl hown ?_)
  | (at_make;refine wpList_make_own _ rfl _ _ 22 rfl w.heap.size 3 i0 (.int .i64 0) 1 Try.underlying22 hi hz0 hz1 _ _ _ (Maps.size D0) rfl rfl rfl (by rw[hz2];omega) (by unfold maxLen;omega) (Nat.le_refl _) ?_;intro w1 hrow1 hg1;have hcell1:=TA hg1 hcell)
  | (at_range;refine wpList_range_own _ rfl _ 68 rfl 3 4 bS Try.underlying68 _ kk n _ rfl (hown.kept hg1 (by simp)) ?_;intro w0 hrg0 hg0 hs0)
  | go_in)
 go_frame
 go_loopw [5] (fun v wr=>∃ (left:Lit→Bool) (cnt:Nat) (ss:List Int),wr.ranges Try.prog 3 (plainElem Try.prog 4) kk w1.heap.size n D0 left cnt∧ss.length+cnt≤Maps.size D0 ∧
   v=.slice (some ⟨w.heap.size,0,none⟩) ss.length (Maps.size D0)∧wr.ownsRow w.heap.size 3 1 v ss.length (ss.map (Value.int .i64))∧CollectedI D0 left ss∧Below w.heap.size w wr)
  (fun _ wr=>wr.rangeLeft kk w1.heap.size)
 case atStart =>
  exact⟨_,_,[],hrg0,by simp,rfl,hrow1.kept hg0 (Or.inr (by simp[Value.ownBlock])),CollectedI.start D0,
   ((Below.refl _ _).grown hg1 (Nat.le_refl _) (fun j hj=>by cases hj)).grown hg0 hg1.size (fun j hj=>by cases hj)⟩
 case round =>
  obtain⟨left,cnt,ss,hrg,hcs,rfl,hrow,hC,hnx⟩:=hrel
  go_wp2_with (first
   | (at_next;refine wpList_next_ranges _ rfl _ rfl 3 bS (plainElem Try.prog 4) (Value.int .i64) (id:Value→Value) (fun key kl hk=>by obtain⟨x,hx,_⟩:=Maps.keyOf_int_inv Try.underlying3 hk;exact⟨x,hx⟩) (fun v y hv=>⟨v,rfl⟩) kk w1.heap.size n _ _ _ rfl hrg ?_ ?_)
   | go_in)
  ·intro hc0 hl0
   rcases hrow.2 with⟨hnil,_⟩ | ⟨g,cap,cur,hv,hbase,hb,e1,e2,e3,e4⟩
   ·cases hnil
   cases hv
   have hH:Holds (Value.int .i64) _ w.heap.size 0 ss.toArray:=holds_of_blockI hb (by simpa using e4)
   have hgl:=(Array.getElem?_eq_some_iff.1 hb).1
   have hsort:=Try.slices_Sort_int w.heap.size 0 (Maps.size D0) ss _ hH hgl (by omega)
   go_wp2_with (go_at_call 68;refine hsort.mono ?_;rintro e w' ⟨rfl,nn,os,rfl⟩)
   go_ret
   refine⟨ss,rfl,hC.1,fun x=>by rw[hC.2 x,hl0];simp,ownsRow_sortedI (by simp) hbase hb e1 e2 e3,hnx.grown (grownBy_sortedI _) hnx.size (fun j hj=>by cases hj;exact hbase)⟩
  ·intro x cc kl yd yp w2 cnt2 hkey hlk hv hat hrg2 hlt hg2 hs2 hen
   obtain⟨x',ex,rfl,_⟩:=Maps.keyOf_int_inv Try.underlying3 hkey
   obtain rfl:x=x':=by simpa using ex
   have hrow2:=hrow.kept hg2 (Or.inr (row_ne_iter hrow hrg).symm)
   clear hs2
   go_wp2_with (first
    | (at_builtin;refine wpList_append_fits _ rfl _ _ 22 rfl w.heap.size 3 i0 1 Try.underlying22 hi hz1 w.heap.size _ (Maps.size D0) _ rfl (hrow2.alloc _) ⟨w2.heap.size,0,none⟩ 1 1 [Value.int .i64 x] rfl rfl (cell_one_new _ _ _) (by simp[Value.oneCell']) (by omega) ?_;intro w3 hown3 hg3;go_frame)
    | go_in)
   have hrg3:=(hrg2.alloc _).kept hg3 (by simp only[ne_eq,Option.some.injEq];omega) (by have h5:=row_ne_iter hrow2 hrg2;simp only[Value.ownBlock] at h5;exact h5)
   refine⟨⟨_,cnt2,ss++[x],hrg3,by simp;omega,by simp,by simpa using hown3,hC.step hlk hat,?_⟩,?_⟩
   ·exact((hnx.grown hg2 hnx.size (fun j hj=>by cases hj;exact hg1.size)).alloc (by have:=hnx.size;have:=hg2.size;omega) _).grown hg3 (by have:=hnx.size;have:=hg2.size;simp;omega) (fun j hj=>by cases hj;exact Nat.le_refl _)
   ·rw[hrg3.left_eq,hrg.left_eq];exact hlt
end Go.Proofs.Nb

namespace Gx
open Go Go.Proofs Go.RowKit
noncomputable section
variable {R:Type} (N:Nat)
def Ab (l:List Int):LA:=l.map fun n=>.int .i64 n
def UN:AV→Int
 | .int _ n=>n
 | _=>0
def Yw:AV→Bool
 | .int .i64 n=>decide (-9223372036854775808≤n)&&decide (n≤9223372036854775807)
 | _=>false
def KH (n:Int):List Int→List Int
 | []=>[n]
 | m::r=>if n≤m then n::m::r else m::KH n r
def Wz (l:List Int):List Int:=l.foldr KH []
def Si (c:LA):LA:=Ab (Wz (c.map UN))
def Cd (_N:Nat) (b:Nat) (c:Int) (v:LA) (r0:Nat→LA→LA→O R):O R :=
 cond (Af c b) (S_ (v.drop c.toNat) fun l=>cond (Nat.ble l.length 16777216&&l.all Yw) (r0 l.length v (Si l)) none) none
def Do:=(A0 (@Cd R)).1
theorem Cb:@Do R=@Cd R:=(A0 _).2
def Dc (a:LA) (h:Ag) (k:KF R):O R :=
 match a,h with
 | [(.nd 100000 (.whole b)),(.int .i64 c)],[(100000,⟨false,false,true,false,2,v,true,none,0,0⟩)]=>Do N b c v fun n v' l=>k (.own 300000 0 n) [(100000,⟨false,false,true,false,2,v',true,none,0,0⟩),(300000,(bQ 1 l))]
 | _,_=>none
def Fh:Tw:=⟨fun {R} a h k=>@Dc R N a h k,fun {R} a h k=>by
 unfold Dc
 split
 ·rename_i b c v
  rw[Cb,Cb];unfold Cd S_
  cases Af c b
  ·rfl
  ·cases (v.drop c.toNat).head? with
   | none=>rfl
   | some y =>
    simp only[cond_true,Option.bind_some]
    cases N7 y with
    | none=>rfl
    | some l=>simp only[Option.bind_some];cases (Nat.ble l.length 16777216&&l.all Yw)<;>rfl
 ·rfl⟩
def Co (_N:Nat) (n:Nat) (i j:Int) (c:LA) (r0:Nat→LA→O R):O R :=
 cond (decide (0≤i)&&(decide (i≤j)&&(decide (j≤(n:Int))&&(Nat.ble 1 n&&(Nat.ble n 16777216&&(c.take n).all Yw))))) (r0 (n - (j - i).toNat) (c.take i.toNat++(c.take n).drop j.toNat)) none
def Gt:=(A0 (@Co R)).1
theorem Cv:@Gt R=@Co R:=(A0 _).2
def Cw (a:LA) (h:Ag) (k:KF R):O R :=
 match a,h with
 | [(.own 100000 0 n),(.int .i64 i),(.int .i64 j)],[(100000,⟨false,false,true,false,1,c,false,some (3,140737488355328),0,0⟩)]=>Gt N n i j c fun n' c'=>k (.own 300000 0 n') [(300000,⟨false,false,true,false,1,c',false,some (3,140737488355328),0,0⟩)]
 | _,_=>none
def Ib:Tw:=⟨fun {R} a h k=>@Cw R N a h k,fun {R} a h k=>by
 unfold Cw
 split
 ·rename_i n i j c
  rw[Cv,Cv];unfold Co
  cases (decide (0≤i)&&(decide (i≤j)&&(decide (j≤(n:Int))&&(Nat.ble 1 n&&(Nat.ble n 16777216&&(c.take n).all Yw)))))<;>rfl
 ·rfl⟩
end
theorem XF {x:AV} (h:Yw x=true):∃ n,x=.int .i64 n∧-9223372036854775808≤n∧n≤9223372036854775807:=by
 unfold Yw at h
 split at h
 ·simp at h;exact⟨_,rfl,h⟩
 ·cases h
theorem HV:∀ {c:LA},c.all Yw=true→c=Ab (c.map UN)∧∀ n ∈ c.map UN,-9223372036854775808≤n∧n≤9223372036854775807
 | [],_=>⟨rfl,by simp⟩
 | x::r,h=>by
  simp only[List.all_cons,Bool.and_eq_true] at h
  obtain⟨n,rfl,h1⟩:=XF h.1
  obtain⟨h2,h3⟩:=HV h.2
  refine⟨by simp only[List.map_cons,Ab,UN];rw[show List.map (fun n=>AV.int IntKind.i64 n) (List.map UN r)=r from h2.symm],fun m hm=>?_⟩
  rw[List.map_cons] at hm
  rcases List.mem_cons.1 hm with rfl | hm
  ·exact h1
  ·exact h3 m hm
theorem O6 (l:List Int):(Ab l).map UN=l:=by
 unfold Ab;rw[List.map_map]
 exact List.map_id'' (fun x=>rfl) l
theorem FDone.of {J J':Bool→Nat→Prop} {β β':As} {h H:Ag} {w w':World} (A:Step J β h w J' β' H w') (hl:∀ b x,Ad H b=some x→x.dead=false):FDone ⟨J,β,h,w⟩ J' β' H w' :=
 ⟨A.sim,A.os,A.tape,A.output,A.size,A.frame,A.wr,A.ext.jsub,A.jup,fun k=>A.ext.size 0 k 0 trivial,fun b x0 x h0 hx hd=>by
  obtain⟨x',⟨h1,h2⟩,h3⟩:=A.ext.blk b x0 h0
  change Ad H b=some x at hx
  rw[hx] at h1;simp at h1;subst h1
  rcases h3 with h3 | ⟨h3,h4,h5,h6⟩
  ·rw[hd] at h3;cases h3
  ·exact⟨⟨h4.o,h2⟩,h5,h6,h3⟩,hl⟩
theorem SimH.oneB {J:Bool→Nat→Prop} {β β1:As} {h:Ag} {w w':World} (S:SimH J β h w) (hk:∀ o,Kl (J o) w w') (hs:w.heap.size≤w'.heap.size) {b:Nat} {x:Blk} (hm:x.mp=false) (M:RT J β1 [(b,x)] w' b x):SimH J β1 [(b,x)] w':=by
 refine⟨fun o k hj=>Nat.lt_of_lt_of_le (S.jlt o k hj) hs,S.jft,S.gl.to (fun _ h=>h) (hk false),fun c y hy _ _=>?_,fun c y hy _ hmy=>?_,fun c c' y y' j hy hy' _ _ _ _ _=>?_⟩
 ·obtain⟨rfl,rfl⟩:=Bq hy;exact M
 ·obtain⟨rfl,rfl⟩:=Bq hy;rw[hm] at hmy;cases hmy
 ·rw[(Bq hy).1,(Bq hy').1]
theorem VP {J:Bool→Nat→Prop} {β:As} {h:Ag} {w w':World} (S:SimH J β h w) (B:Below w.heap.size w w') {d g:Nat} (hn:Ad h d=none) (hl:∀ b x,Ad h b=some x→x.dead=false) {sz:Nat} {c:LA} {cs:Array Value} {ty:TypeId}
  (hg:w.heap.size≤g) (hk:w'.heap[g]?=some (.cells cs ty (0,0))) (hlen:c.length≤cs.size) (hc:RepCs (J false) w' c (fun j=>cs[j]?) 0) :
  ∃ J' β',FDone ⟨J,β,h,w⟩ J' β' (Bz h d (bQ sz c)) w'∧β' d=some (g,0):=by
 have kJ:∀ o,Kl (J o) w w':=fun o k hj=>B.block k (S.jlt o k hj)
 have S1:SimH J (fun _=>some (g,0)) [(d,bQ sz c)] w':=by
  refine S.oneB kJ B.size rfl (.inr ⟨g,0,cs,ty,(0,0),rfl,hk,⟨.inl rfl,TyOk.none⟩,by show 0+c.length≤_;omega,⟨fun _=>RepCs.keep (fun _ h=>h) (fun _ _=>rfl) (fun j=>by rw[Nat.zero_add]) hc,fun hp=>by cases hp⟩,fun _ q hj=>?_,fun hp=>by cases hp⟩)
  have:=S.jlt q g hj;omega
 have A:=Step.merge (J1:=J) (H:=Bz h d (bQ sz c)) (D:=[d]) (ids:=[]) S S1 (fun b hb=>by rw[Aa,if_neg (by simpa using hb)])
  (fun b z hb hz _=>by
   simp at hb;subst hb
   rw[Aa,if_pos rfl] at hz;simp at hz;subst hz;exact⟨_,Ez,Bumped.rfl⟩)
  (fun b y hy=>by
   obtain⟨rfl,rfl⟩:=Bq hy
   exact⟨by simp,_,by rw[Aa,if_pos rfl],Bumped.rfl⟩)
  (fun b z hb _=>by simp at hb;subst hb;rw[hn];simp)
  (fun b z hb=>by simp at hb) (fun b hb=>by simp at hb) B.os B.tape B.output B.size (fun k hk' _=>B.block k hk')
  (fun k hm hk'=>by
   obtain⟨b,y,hy,_,_,ht⟩:=hm
   obtain⟨rfl,rfl⟩:=Bq hy
   obtain⟨o,ho⟩:=ht.ord rfl
   simp at ho;omega)
  (fun _ _ hj=>.inl hj) (fun k=>by
   by_cases hk':k<w.heap.size
   ·simp[Ai,B.block k hk']
   ·simp[Ai,Array.getElem?_eq_none (Nat.le_of_not_lt hk')])
 refine⟨_,_,FDone.of A.1 (fun b x hx=>?_),by simp⟩
 rw[Aa] at hx
 by_cases e:b=d
 ·rw[if_pos e] at hx;simp at hx;subst hx;rfl
 ·rw[if_neg e] at hx;exact hl b x hx
theorem QC {n x:Int}:∀ {l:List Int},x ∈ KH n l↔x=n∨x ∈ l
 | []=>by simp[KH]
 | m::r=>by
  rw[KH]
  split
  ·simp
  ·rw[List.mem_cons,QC,List.mem_cons]
   constructor
   ·rintro(h | h | h)
    ·exact .inr (.inl h)
    ·exact .inl h
    ·exact .inr (.inr h)
   ·rintro(h | h | h)
    ·exact .inr (.inl h)
    ·exact .inl h
    ·exact .inr (.inr h)
theorem LU (n:Int):∀ (l:List Int),(KH n l).Perm (n::l)
 | []=>.refl _
 | m::r=>by
  rw[KH]
  split
  ·exact .refl _
  ·exact((LU n r).cons m).trans (.swap n m r)
theorem Qx:∀ (l:List Int),(Wz l).Perm l
 | []=>.refl _
 | m::r=>(LU m _).trans ((Qx r).cons m)
theorem CS {n:Int}:∀ {l:List Int},l.Pairwise (·≤·)→(KH n l).Pairwise (·≤·)
 | [],_=>by simp[KH]
 | m::r,h=>by
  rw[List.pairwise_cons] at h
  rw[KH]
  split
  ·rename_i hle
   refine List.pairwise_cons.2 ⟨fun x hx=>?_,List.pairwise_cons.2 h⟩
   rcases List.mem_cons.1 hx with rfl | hx
   ·exact hle
   ·have:=h.1 x hx;omega
  ·rename_i hle
   refine List.pairwise_cons.2 ⟨fun x hx=>?_,CS h.2⟩
   rcases QC.1 hx with rfl | hx
   ·omega
   ·exact h.1 x hx
theorem Qy:∀ (l:List Int),(Wz l).Pairwise (·≤·)
 | []=>by simp[Wz]
 | m::r=>CS (Qy r)
theorem EE {ss l:List Int} (h:ss.Perm l):ss.mergeSort (fun x y=>decide (x≤y))=Wz l:=by
 have h1:(ss.mergeSort (fun x y=>decide (x≤y))).Perm (Wz l):=(List.mergeSort_perm _ _).trans (h.trans (Qx l).symm)
 have h2:=List.pairwise_mergeSort (le:=fun x y:Int=>decide (x≤y)) (fun a b c=>by simp;omega) (fun a b=>by simp;omega) ss
 refine List.Perm.eq_of_pairwise (le:=fun a b:Int=>a≤b) (fun a b _ _ h3 h4=>by omega) (h2.imp (by simp)) (Qy l) h1
open Go.WideElems (Fit rd rg rg_of rd_key) in
open Go.WideShapes in
theorem XG {w:World} {kk clk:Nat} {es:Array MapEntry} {li:List Int} (hk:w.heap[kk]?=some (.map es clk)) (hr:Xd (Ab li) es clk) (hw:∀ n ∈ li,-9223372036854775808≤n∧n≤9223372036854775807) (hl:li.length≤16777216) :
  ∃ D0:DataW Unit,w.ownsMap Try.prog 3 (plainElem Try.prog 4) kk es.size D0∧Go.Maps.size D0=li.length∧∀ x,Go.Maps.has D0 (.int .i64 x)=true↔x ∈ li:=by
 obtain⟨⟨l,h1,h2⟩,hst⟩:=hr
 have hll:l=li:=by
  have:=congrArg (List.map UN) h1
  rw[O6] at this
  rw[show(l.map fun n=>AV.int IntKind.i64 n)=Ab l from rfl,O6] at this
  exact this.symm
 subst hll
 have hent:∀ x ∈ es.toList,∃ n,n ∈ l∧x.key=.int .i64 n∧x.val=.bool true:=fun x hx=>Oi (c:=[]) h2 hx
 have hrd:∀ x ∈ es.toList,∃ n,n ∈ l∧x.key=.int .i64 n∧rd (H:=Unit) Try.prog 3 (plainElem Try.prog 4) x=some (.int .i64 n,.lit (.bool true)):=by
  intro x hx
  obtain⟨n,hn,hk1,hv⟩:=hent x hx
  have hwf:(Lit.int .i64 n).wf=true:=by
   have:=hw n hn
   simp[Lit.wf,IntKind.min,IntKind.max,IntKind.signed,IntKind.bits];omega
  refine⟨n,hn,hk1,?_⟩
  unfold rd
  rw[hk1,hv,Go.Maps.keyOf_int_mk Try.underlying3 hwf,plainElem_bool Try.underlying4]
  rfl
 have hF:Fit (H:=Unit) Try.prog 3 (plainElem Try.prog 4) es clk:=by
  have hsz:es.size=l.length:=by have:=congrArg List.length h2;simpa using this
  exact⟨by unfold maxLen;omega,hst,fun x hx=>by obtain⟨n,_,_,h⟩:=hrd x hx;exact⟨_,h⟩⟩
 refine⟨.map ((es.toList.map (rg Try.prog 3 (plainElem Try.prog 4))).foldr DataW.insert []),⟨es,clk,hk,hF,Nat.le_refl _,rfl⟩,?_,fun x=>?_⟩
 ·rw[Go.Maps.size_eq,(sorted_perm _).length_eq,List.length_map]
  have:=congrArg List.length h2
  simpa using this
 ·rw[Go.Maps.has_eq,List.any_eq_true]
  constructor
  ·rintro⟨p,hp,hs⟩
   obtain⟨e,he,rfl⟩:=List.mem_map.1 (mem_sorted.1 hp)
   obtain⟨n,hn,_,hq⟩:=hrd e he
   rw[rg_of hq] at hs
   simp[Lit.sameKey] at hs
   subst hs;exact hn
  ·intro hx
   obtain⟨e,he,hke⟩:=OS h2 hx
   obtain⟨n,hn,hk2,hq⟩:=hrd e he
   rw[hke] at hk2;simp at hk2;subst hk2
   exact⟨_,mem_sorted.2 (List.mem_map.2 ⟨e,he,rfl⟩),by rw[rg_of hq];simp[Lit.sameKey]⟩
theorem Ju (N:Nat):VN Try.prog 52 (Fh N):=by
 intro args h res h' hh0
 have hh:Dc N args h (fun v h'=>some (v,h'))=some (res,h'):=hh0
 unfold Dc at hh
 split at hh
 ·rename_i b c v
  rw[Cb,Cd] at hh
  obtain⟨h1,h2⟩:=uc hh
  unfold S_ at h2
  obtain⟨y,h3,h4⟩:=ub h2
  obtain⟨l,h5,h6⟩:=ub h4
  obtain⟨h7,h8⟩:=uc h6
  simp only[Bool.and_eq_true] at h7
  have h71:=Nat.le_of_ble_eq_true h7.1
  obtain⟨h72,h73⟩:=HV h7.2
  simp at h8
  obtain⟨rfl,rfl⟩:=h8
  obtain⟨i1,i2⟩:=Ey h1
  intro J β w vs S hr
  obtain⟨u,cv,rfl,e1,e2⟩:=PZ hr
  rw[Rep] at e2;subst e2
  have hb:Ad [(100000,(⟨false,false,true,false,2,v,true,none,0,0⟩:Blk))] 100000=some ⟨false,false,true,false,2,v,true,none,0,0⟩:=Ez
  obtain⟨k,o,hβ,hN,_,_,_,_⟩:=Hk S hb rfl rfl
  obtain⟨_,k',o',g1,_,g2,rfl⟩:=BR hb rfl e1
  rw[hβ] at g1;simp at g1;obtain⟨rfl,rfl⟩:=g1
  obtain⟨_,cs,ty,fr,hk,hfr,hcs,hdl,hall,huq⟩:=hN
  rw[List.head?_drop] at h3
  have g2:v.length=b:=g2
  have hcs:cs.size=v.length:=hcs
  have hdl:(dec o).length=v.length:=hdl
  have hlt:c.toNat<b:=by omega
  obtain⟨en,hen⟩:∃ e,(dec o)[c.toNat]?=some e:=⟨_,List.getElem?_eq_getElem (by omega)⟩
  obtain⟨cell,hc1,hv,hI⟩:=hall _ _ hen
  have hc1:v[c.toNat]?=some cell:=hc1
  rw[h3] at hc1;simp at hc1;subst hc1
  have hI:InnerIs (J false) w 0 en y:=hI
  have hv:cs[c.toNat]?=some (Ro 0 en):=hv
  match en,hen,hI,hv with
  | none,_,hI,_=>rcases hI with rfl | rfl<;>simp[N7] at h5
  | some (false,_,_,_,_),_,hI,_=>simp[InnerIs] at hI;subst hI;simp[N7] at h5
  | some (true,kk,a,n',cap),hen,hI,hv =>
   obtain⟨l1,es,clk,q1,hI⟩:=hI
   rcases hI with⟨rfl,rfl,q2⟩ | ⟨t,rfl,rfl,_⟩
   ·simp[N7,Bd] at h5;subst h5
    rw[h72] at q2
    obtain⟨D0,w1,w2,w3⟩:=XG q1 q2 h73 (by simpa using h71)
    have hcell:w.cell? ⟨k,c.toNat,none⟩=some (.map (some kk)):=by rw[C5 hk];exact hv
    refine(Nb.walk k b kk es.size c D0 w i1 (by omega) hcell w1 (by rw[w2];simpa using h71)).mono ?_
    rintro e w' ⟨ss,rfl,s1,s2,s3,s4⟩
    have hnd:(l1.map UN).Nodup:=by
     obtain⟨⟨lj,j1,j2⟩,hst⟩:=q2
     have hjl:lj=l1.map UN:=by
      have:=congrArg (List.map UN) j1
      rw[O6] at this
      rw[show(lj.map fun n=>AV.int IntKind.i64 n)=Ab lj from rfl,O6] at this
      exact this.symm
     rw[←hjl]
     have h3':(es.toList.map (·.key)).Nodup:=hst.2.2
     have h4':es.toList.map (·.key)=lj.map fun n=>(.int .i64 n:Value):=by
      have:=congrArg (List.map Prod.fst) j2
      rw[List.map_map,List.map_map] at this
      exact this
     rw[h4'] at h3'
     exact List.Pairwise.of_map (fun n=>(.int .i64 n:Value)) (fun a b hab e=>hab (by rw[e])) h3'
    have hp:ss.Perm (l1.map UN):=(List.perm_ext_iff_of_nodup s1 hnd).2 (fun x=>by rw[s2 x,w3 x])
    have hlen:ss.length=l1.length:=by have:=hp.length_eq;simpa using this
    rw[EE hp] at s3
    rcases s3.2 with⟨z,_⟩ | ⟨g,cap',cur,z,z1,z2,z3,z4,z5,z6⟩
    ·cases z
    ·simp at z;obtain⟨rfl,rfl⟩:=z
     have hsl:(Wz (l1.map UN)).length=ss.length:=by rw[(Qx _).length_eq,hp.length_eq]
     have hc:RepCs (J false) w' (Si l1) (fun j=>cur[j]?) 0:=by
      rw[Aw]
      intro j x hj
      unfold Si Ab at hj
      rw[List.getElem?_map] at hj
      cases hq:(Wz (l1.map UN))[j]? with
      | none=>rw[hq] at hj;simp at hj
      | some m =>
       rw[hq] at hj;simp at hj;subst hj
       have hjl:=(List.getElem?_eq_some_iff.1 hq).1
       refine⟨.int .i64 m,?_,by rw[RepC]⟩
       have:=congrArg (fun q=>q[j]?) z6
       rw[List.getElem?_take_of_lt (by omega),List.getElem?_map,hq,Array.getElem?_toList] at this
       simpa using this
     have hcl:(Si l1).length≤cur.size:=by unfold Si Ab;rw[List.length_map,hsl,z5];omega
     obtain⟨J',β',F,hb'⟩:=VP (d:=300000) (sz:=1) S s4 rfl (fun b x hx=>by obtain⟨rfl,rfl⟩:=Bq hx;rfl) z1 z2 hcl hc
     refine⟨_,J',β',rfl,F,?_⟩
     rw[Rep]
     refine⟨bQ 1 (Si l1),_,_,⟨rfl,rfl⟩,by rw[hlen],by rw[←hlen];exact z3,.inr ⟨w.heap.size,0,rfl,.inr ⟨hb',?_,?_⟩⟩⟩
     ·rw[Av z2,z5];show 0+0+Go.Maps.size D0*1≤_;omega
     ·show 0+l1.length*1≤(Si l1).length
      unfold Si Ab;rw[List.length_map,hsl];omega
   ·simp[N7,Bd,Nat.beq] at h5
 ·simp at hh
theorem Tp (N:Nat):VN Try.prog 41 (Ib N):=by
 intro args h res h' hh0
 have hh:Cw N args h (fun v h'=>some (v,h'))=some (res,h'):=hh0
 unfold Cw at hh
 split at hh
 ·rename_i n i j c
  rw[Cv,Co] at hh
  obtain⟨h1,h2⟩:=uc hh
  simp only[Bool.and_eq_true,decide_eq_true_eq] at h1
  obtain⟨a1,a2,a3,a4,a5,a6⟩:=h1
  have a4:=Nat.le_of_ble_eq_true a4
  have a5:=Nat.le_of_ble_eq_true a5
  obtain⟨a7,a8⟩:=HV a6
  simp at h2
  obtain⟨rfl,rfl⟩:=h2
  intro J β w vs S hr
  rw[Reps] at hr
  obtain⟨u,us,rfl,e1,hr⟩:=hr
  obtain⟨iv',jv',rfl,e2,e3⟩:=PZ hr
  simp only[Rep] at e2 e3;subst e2 e3
  have hb:Ad [(100000,(⟨false,false,true,false,1,c,false,some (3,140737488355328),0,0⟩:Blk))] 100000=some ⟨false,false,true,false,1,c,false,some (3,140737488355328),0,0⟩:=Ez
  rw[Rep] at e1
  obtain⟨x,A,cap,⟨hx,_⟩,rfl,hcap,e1⟩:=e1
  rw[hb] at hx;simp at hx;subst hx
  rcases e1 with e1 | ⟨k,o,rfl,e1⟩
  ·omega
  rcases e1 with e1 | ⟨hβ,g1,g2⟩
  ·cases e1
  rcases S.blk 100000 _ hb rfl rfl with⟨hz,_⟩ | ⟨k',o',cs,ty,fr,hβ',k1,k2,k3,k4,k5,_⟩
  ·rw[hβ] at hz;cases hz
  rw[hβ] at hβ';simp at hβ';obtain⟨rfl,rfl⟩:=hβ'
  obtain⟨hty,ho,hsz⟩:=k2.2 3 140737488355328 rfl
  subst ho
  have k3:0+c.length≤cs.size:=k3
  have g2:0+n*1≤c.length:=g2
  rw[Av k1] at g1
  have g1:0+0+cap*1≤cs.size:=g1
  have k4':RepCs (J false) w c (fun j=>cs[0+j]?) 0:=k4.1 rfl
  generalize hzs:(c.take n).map UN=zs at *
  have hzl:zs.length=n:=by rw[←hzs];simp;omega
  have hcz:∀ (q:Nat) m,zs[q]?=some m→cs[0+q]?=some (.int .i64 m):=by
   intro q m hq
   have hql:=(List.getElem?_eq_some_iff.1 hq).1
   have h9:(c.take n)[q]?=some (.int .i64 m):=by rw[a7];unfold Ab;rw[List.getElem?_map,hq];rfl
   rw[List.getElem?_take_of_lt (by omega)] at h9
   obtain⟨v,hv,hvr⟩:=k4'.at h9
   rw[RepC] at hvr;subst hvr
   exact hv
  have hH:Go.Sort.Holds (Value.int .i64) w k 0 zs.toArray:=by
   intro q hq
   have hq':q<zs.length:=by simpa using hq
   refine⟨?_,?_⟩
   ·rw[C5 k1,hcz q zs[q] (by simp[hq'])]
    simp[hq']
   ·simp only[World.frozen?,k1]
    have:=k2.1.at (0+q) (by omega)
    cases fr;simp at this ⊢;omega
  have hcall:=Try.slices_Delete_int k 0 cap i.toNat j.toNat zs w hH (by omega) (by omega) (by omega) (by omega)
  rw[hzl,Int.toNat_of_nonneg a1,Int.toNat_of_nonneg (by omega)] at hcall
  refine hcall.mono ?_
  rintro e w' ⟨rfl,q,rfl⟩
  generalize hnew:zs.take i.toNat++zs.drop j.toNat++List.replicate (j.toNat - i.toNat) 0=nw
  have hnl:nw.length=n:=by rw[←hnew];simp;omega
  have O:OnlyBlk w (Go.Sort.putRow (Value.int .i64) (Go.Sort.ahead w q) k 0 nw.toArray) k cs (Go.Sort.putCells (Value.int .i64) 0 nw.toArray cs) ty fr:=by
   refine⟨k1,?_,by simp[Go.Sort.putCells],fun q2 hq2=>?_,?_,rfl,rfl,rfl⟩
   ·simp[Go.Sort.putRow,Go.Sort.mapBlock,Go.Sort.ahead,Array.getElem?_modify,k1,Go.Sort.onCells]
   ·simp[Go.Sort.putRow,Go.Sort.mapBlock,Go.Sort.ahead,Array.getElem?_modify,Ne.symm hq2]
   ·simp[Go.Sort.putRow,Go.Sort.mapBlock,Go.Sort.ahead]
  have hcs':∀ (q2:Nat) m,nw[q2]?=some m→(Go.Sort.putCells (Value.int .i64) 0 nw.toArray cs)[q2]?=some (.int .i64 m):=by
   intro q2 m hm
   have hml:=(List.getElem?_eq_some_iff.1 hm).1
   have:q2<cs.size:=by omega
   simp[Go.Sort.putCells,this,hml]
   rw[List.getElem?_eq_getElem hml] at hm
   simpa using hm
  have unJ:=S.unJ hb rfl rfl hβ
  have kJ:∀ g,Kl (J g) w (Go.Sort.putRow (Value.int .i64) (Go.Sort.ahead w q) k 0 nw.toArray):=fun g q2 hj=>O.other q2 (fun e=>by subst e;exact unJ g hj)
  have hcl:(c.take i.toNat++(c.take n).drop j.toNat)=Ab (zs.take i.toNat++zs.drop j.toNat):=by
   have h8:c.take i.toNat=(c.take n).take i.toNat:=by rw[List.take_take,Nat.min_eq_left (by omega)]
   rw[h8,a7];unfold Ab;simp
  have hrc:RepCs (J false) (Go.Sort.putRow (Value.int .i64) (Go.Sort.ahead w q) k 0 nw.toArray) (c.take i.toNat++(c.take n).drop j.toNat) (fun q2=>(Go.Sort.putCells (Value.int .i64) 0 nw.toArray cs)[0+q2]?) 0:=by
   rw[hcl,Aw]
   intro q2 x hx
   unfold Ab at hx
   rw[List.getElem?_map] at hx
   cases hm:(zs.take i.toNat++zs.drop j.toNat)[q2]? with
   | none=>rw[hm] at hx;simp at hx
   | some m =>
    rw[hm] at hx;simp at hx;subst hx
    refine⟨.int .i64 m,?_,by rw[RepC]⟩
    simp only[Nat.zero_add]
    refine hcs' q2 m ?_
    rw[←hnew,List.getElem?_append_left (List.getElem?_eq_some_iff.1 hm).1];exact hm
  have hlen:(c.take i.toNat++(c.take n).drop j.toNat).length=n - (j - i).toNat:=by
   rw[hcl];unfold Ab;rw[List.length_map,List.length_append,List.length_take,List.length_drop];omega
  have S2:SimH J (fun _=>some (k,0)) [(300000,⟨false,false,true,false,1,c.take i.toNat++(c.take n).drop j.toNat,false,some (3,140737488355328),0,0⟩)] (Go.Sort.putRow (Value.int .i64) (Go.Sort.ahead w q) k 0 nw.toArray):=by
   refine S.oneB kJ (by rw[O.size];exact Nat.le_refl _) rfl (.inr ⟨k,0,_,ty,fr,rfl,O.new,⟨by rw[O.sz];exact k2.1,fun t m ht=>?_⟩,?_,⟨fun _=>hrc,fun hp=>by cases hp⟩,fun _ g hj=>unJ g hj,fun hp=>by cases hp⟩)
   ·simp at ht;obtain⟨rfl,rfl⟩:=ht
    rw[O.sz];exact⟨hty,rfl,hsz⟩
   ·show 0+(c.take i.toNat++(c.take n).drop j.toNat).length≤_
    rw[hlen,O.sz];omega
  have hmut:N' β [(100000,(⟨false,false,true,false,1,c,false,some (3,140737488355328),0,0⟩:Blk))] k:=⟨100000,_,hb,rfl,rfl,Terr.at hβ⟩
  refine⟨_,J,fun _=>some (k,0),rfl,⟨S2,O.os,O.tape,O.output,by rw[O.size];exact Nat.le_refl _,fun q2 _ hm=>O.other q2 (fun e=>by subst e;exact hm hmut),fun q2 hm _=>?_,fun _ _ h=>h,fun _ _ h=>.inl h,fun q2=>?_,fun b x0 x h0 hx _=>?_,fun b x hx=>by obtain⟨rfl,rfl⟩:=Bq hx;rfl⟩,?_⟩
  ·obtain⟨b,y,hy,_,_,ht⟩:=hm
   obtain⟨rfl,rfl⟩:=Bq hy
   obtain⟨o2,ho2⟩:=ht.ord rfl
   simp at ho2;obtain⟨rfl,_⟩:=ho2;exact hmut
  ·by_cases e:q2=k
   ·subst e;show Ai w q2≤_;rw[Av O.old,Av O.new,O.sz];exact Nat.le_refl _
   ·show Ai w q2≤_;simp only[Ai,O.other q2 e];exact Nat.le_refl _
  ·obtain⟨rfl,rfl⟩:=Bq h0
   obtain⟨h9,_⟩:=Bq hx
   omega
  ·rw[Rep]
   refine⟨⟨false,false,true,false,1,c.take i.toNat++(c.take n).drop j.toNat,false,some (3,140737488355328),0,0⟩,_,cap,⟨Ez,rfl⟩,by rw[show n - (j - i).toNat=n - (j.toNat - i.toNat) by omega],by omega,.inr ⟨k,0,rfl,.inr ⟨rfl,?_,?_⟩⟩⟩
   ·rw[Av O.new,O.sz];exact g1
   ·show 0+(n - (j - i).toNat)*1≤(c.take i.toNat++(c.take n).drop j.toNat).length
    rw[hlen];omega
 ·simp at hh
end Gx

namespace Gx
open Go Go.Proofs
open IntKind (wrap)
set_option maxRecDepth 100000
noncomputable section
variable {R:Type} (N:Nat)
def E5 (N:Nat) (k0:Int→Int→Int→LA→O R) (r0:Nat→Int→LA→LA→O R) (b:Nat) (c:Int) (d:Nat) (e g:Int) (f:LA) (k1:Int→Int→Nat→Int→Int→LA→O R) (q r:Int) (s:Nat) (t p:Int) (m:LA):O R :=
 (cond (decide (p<t)) (cond (Af p s) (L6 .i64 (f.drop (0+((p.toNat)*1))) fun u=>(cond (Af e b) (S_ (m.drop (e.toNat)) fun aa=>(cond (!(V5 aa u)) (cond (Af e b) (cond (Af u b) (S_ (m.drop (e.toNat)) fun w=>(cond (Nat.beq (e.toNat) (e.toNat)) (b_ ((m.set (e.toNat) (Bd (P6 w u) 1 0)).drop (e.toNat)) fun x=>(S_ (((m.set (e.toNat) (Bd (P6 w u) 1 0)).set (e.toNat) (Bd x 0 0)).drop (u.toNat)) fun y=>(cond (Nat.beq (u.toNat) (u.toNat)) (b_ ((((m.set (e.toNat) (Bd (P6 w u) 1 0)).set (e.toNat) (Bd x 0 0)).set (u.toNat) (Bd (P6 y e) 1 0)).drop (u.toNat)) fun ab=>(k1 (wrap .i64 (q+1)) r s t (wrap .i64 (p+1)) ((((m.set (e.toNat) (Bd (P6 w u) 1 0)).set (e.toNat) (Bd x 0 0)).set (u.toNat) (Bd (P6 y e) 1 0)).set (u.toNat) (Bd ab 0 0)))) none))) none)) none) none) (k1 q r s t (wrap .i64 (p+1)) m))) none)) none) (k0 q g (wrap .i64 (r+1)) m))
def Bt (k0:Int→Int→Int→LA→O R) (r0:Nat→Int→LA→LA→O R) (b:Nat) (c:Int) (d:Nat) (e g:Int) (f:LA):Nat→Int→Int→Nat→Int→Int→LA→O R
 | 0,_,_,_,_,_,_=>none
 | n+1,q,r,s,t,p,m=>(E5 N k0 r0 b c d e g f (Bt k0 r0 b c d e g f n) q r s t p m)
def E6 (N:Nat) (r0:Nat→Int→LA→LA→O R) (b:Nat) (c:Int) (d:Nat) (f:LA) (k0:Int→Int→Int→LA→O R) (q1:Int→Int→Int→Nat→Int→Int→LA→O R) (o g i:Int) (l:LA):O R :=
 (cond (decide (i<g)) (cond (Af i d) (L6 .i64 (f.drop (0+((i.toNat)*1))) fun e=>(cond (Af e b) (S_ (l.drop (e.toNat)) fun z=>(cond (Af c b) (S_ ((l.set (e.toNat) (Bd (FP z c) 0 0)).drop (c.toNat)) fun ac=>(cond ((decide ((0:Int)≤(0:Int)))&&((decide (0≤i))&&((decide (i≤((d:Nat):Int)))&&(decide (((d:Nat):Int)≤((d:Nat):Int)))))) (q1 e o i (i.toNat) (((i.toNat):Nat):Int) 0 ((l.set (e.toNat) (Bd (FP z c) 0 0)).set (c.toNat) (Bd (FP ac e) 0 0))) none)) none)) none)) none) (r0 d o l f))
def A4 (r0:Nat→Int→LA→LA→O R) (b:Nat) (c:Int) (d:Nat) (f:LA):Nat→Int→Int→Int→LA→O R
 | 0,_,_,_,_=>none
 | n+1,o,g,i,l=>(E6 N r0 b c d f (A4 r0 b c d f n) (fun e q r s t p m=>(Bt N (A4 r0 b c d f n) r0 b c d e g f N q r s t p m)) o g i l)
def Ei (r0:Nat→Int→LA→LA→O R) (q0:Nat→LA→Int→Int→Int→LA→O R) (b:Nat) (c:Int) (v:LA):O R :=
 (Do N b c v (fun d ad f=>(q0 d f 0 ((d:Nat):Int) 0 ad)))
def Bc:=(A0 (fun (N b:Nat) (c:Int) (v:LA) (r0:Nat→Int→LA→LA→O R)=>(Ei N r0 (fun d f o g i l=>(A4 N r0 b c d f N o g i l)) b c v))).1
theorem Ic (b c v r0):(@Bc R N b c v r0)=(Ei N r0 (fun d f o g i l=>(A4 N r0 b c d f N o g i l)) b c v):=by rw[Bc,(A0 _).2]
def Jv:Hints:={ H:=(hS hL (hS hL (hS (hS hL (hS (hP [0,1,4,5,13,14,15] (hS hL (hS hL (hS (hS (hS hL (hS hL (hS hL (hS hL (hS (hP [0,1,4,5,7,13,14,15,32,33,34] hL) hL))))) hL) hL)))) hL)) hL))),nils:=[(4,1)],modes:=[(2,1),(0,0)] }
def Km:JN:=[(52,Fh N)]
def Jw (F:KF R):=CL Try.f33 Jv (Km N) [100000] N F
def A5 (F:KF R):Nat→Int→LA→LA→O R:=(fun ae af ag ah=>F (.tup [(.own 300000 0 ae),(iv af)]) [(100000,⟨false,false,true,false,2,ag,true,none,0,0⟩),(300000,(bQ 1 ah))])
def Uu (b:Nat) (c:Int) (d:Nat) (e g:Int) (f:LA) (q r:Int) (s:Nat) (t p:Int) (m:LA):St:=⟨[(0,(.nd 100000 (.whole b))),(1,(iv c)),(4,(.own 300000 0 d)),(5,(iv q)),(7,(iv e)),(13,(.own 300000 0 d)),(14,(iv g)),(15,(iv r)),(32,(.own 300000 0 s)),(33,(iv t)),(34,(iv p))],[(100000,⟨false,false,true,false,2,m,true,none,0,0⟩),(300000,(bQ 1 f))]⟩
def Uv (F:KF R) (Q0:St→O R):=Jw N F [1,1,0,1,0,0,1,1,0,0,1,1,1,1,0] [Q0]
def Fi (b:Nat) (c:Int) (d:Nat) (f:LA) (o g i:Int) (l:LA):St:=⟨[(0,(.nd 100000 (.whole b))),(1,(iv c)),(4,(.own 300000 0 d)),(5,(iv o)),(13,(.own 300000 0 d)),(14,(iv g)),(15,(iv i))],[(100000,⟨false,false,true,false,2,l,true,none,0,0⟩),(300000,(bQ 1 f))]⟩
def Jx (F:KF R):=Jw N F [1,1,0,1,0] []
theorem G6 (Q0:St→O R) (F:KF R) (b:Nat) (c:Int) (d:Nat) (e g:Int) (f:LA):∀ (n:Nat) (q r:Int) (s:Nat) (t p:Int) (m:LA),Ap (Uv N F Q0) n (Uu b c d e g f q r s t p m)=(Bt N (fun o g i l=>Q0 (Fi b c d f o g i l)) (A5 F) b c d e g f n q r s t p m)
 | 0,_,_,_,_,_,_=>by kernel_rfl
 | n+1,q,r,s,t,p,m=>Eq.trans (by kernel_rfl) (Fz (E5 N (fun o g i l=>Q0 (Fi b c d f o g i l)) (A5 F) b c d e g f · q r s t p m) (funext fun q=>funext fun r=>funext fun s=>funext fun t=>funext fun p=>funext fun m=>(G6 Q0 F b c d e g f n q r s t p m)):_)
theorem G7 (F:KF R) (b:Nat) (c:Int) (d:Nat) (f:LA):∀ (n:Nat) (o g i:Int) (l:LA),Ap (Jx N F) n (Fi b c d f o g i l)=(A4 N (A5 F) b c d f n o g i l)
 | 0,_,_,_,_=>by kernel_rfl
 | n+1,o,g,i,l=>have e0:=(funext fun o=>funext fun g=>funext fun i=>funext fun l=>(G7 F b c d f n o g i l))
  Eq.trans (by kernel_rfl) (RN (E6 N (A5 F) b c d f · · o g i l) e0 (funext fun e=>funext fun q=>funext fun r=>funext fun s=>funext fun t=>funext fun p=>funext fun m=>(An ..).trans ((G6 N (Ap (Jx N F) n) F b c d e g f N q r s t p m).trans (Fz (Bt N · (A5 F) b c d e g f N q r s t p m) e0))):_)
theorem Jy (b:Nat) (c:Int) (v:LA) (F:KF R):Qr (Km N) Jv N 33 [(.nd 100000 (.whole b)),(iv c)] [(100000,⟨false,false,true,false,2,v,true,none,0,0⟩)] F=(Bc N b c v (A5 F)):=by
 rw[Ic]
 exact Eq.trans (by kernel_rfl) (Fz (Ei N (A5 F) · b c v) (funext fun d=>funext fun f=>funext fun o=>funext fun g=>funext fun i=>funext fun l=>(An ..).trans (G7 N F b c d f N o g i l)):_)
def If (a:LA) (h:Ag) (k:KF R):O R :=
 match a,h with
 | [(.nd 100000 (.whole b)),(.int .i64 c)],[(100000,⟨false,false,true,false,2,v,true,none,0,0⟩)]=>(Bc N b c v (A5 k))
 | _,_=>none
theorem Jz:By N 33 @If:=by
 intro R Q a h k j;unfold If;split;exact Ee (Jy ..) (Jy ..) ⟨Ju N,trivial⟩;exact Ef
def Dp:=D3 (Jz N)
def Dq:=Qs (Jz N)
def Iy (k1:Nat→Nat→LA→LA→LA→O R) (r0:Nat→Int→LA→O R) (b:Nat) (k2:Nat→Nat→Int→Nat→Int→Int→LA→LA→LA→O R) (p l:Nat) (f:Int) (w:Nat) (x m:Int) (q o y:LA):O R :=
 (cond (decide (m<x)) (cond (Af m w) (L6 .i64 (o.drop (0+((m.toNat)*1))) fun ab=>(cond (Af ab b) (S_ (q.drop (ab.toNat)) fun ae=>(cond (Af f p) (L6 .i64 (o.drop (0+((f.toNat)*1))) fun ac=>(cond (Af ac b) (S_ (q.drop (ac.toNat)) fun af=>(cond (decide (((ae.length:Nat):Int)<((af.length:Nat):Int))) (k2 p l m w x (wrap .i64 (m+1)) q o y) (k2 p l f w x (wrap .i64 (m+1)) q o y))) none)) none)) none)) none) (cond (Af f p) (L6 .i64 (o.drop (0+((f.toNat)*1))) fun ad=>(Gt N p f (wrap .i64 (f+1)) o (fun ag ah=>(Bc N b ad q (fun an ao ai ap=>(cond ((Nat.ble (l+1) 140737488355328)&&(Nat.ble ((l+1)*8) 140737488355328)) (k1 ag (l+1) ai ah ((y.take (l*1))++[(.int .i64 ad)])) none)))))) none))
def Dg (k1:Nat→Nat→LA→LA→LA→O R) (r0:Nat→Int→LA→O R) (b:Nat):Nat→Nat→Nat→Int→Nat→Int→Int→LA→LA→LA→O R
 | 0,_,_,_,_,_,_,_,_,_=>none
 | n+1,p,l,f,w,x,m,q,o,y=>(Iy N k1 r0 b (Dg k1 r0 b n) p l f w x m q o y)
def Iz (N:Nat) (r0:Nat→Int→LA→O R) (b:Nat) (k1:Nat→Nat→LA→LA→LA→O R) (q2:Nat→Nat→Int→Nat→Int→Int→LA→LA→LA→O R) (g r:Nat) (t u s:LA):O R :=
 (cond (decide (((g:Nat):Int)>0)) (q2 g r 0 g ((g:Nat):Int) 0 t u s) (r0 r 0 s))
def Dh (r0:Nat→Int→LA→O R) (b:Nat):Nat→Nat→Nat→LA→LA→LA→O R
 | 0,_,_,_,_,_=>none
 | n+1,g,r,t,u,s=>(Iz N r0 b (Dh r0 b n) (fun p l f w x m q o y=>(Dg N (Dh r0 b n) r0 b N p l f w x m q o y)) g r t u s)
def I0 (N:Nat) (r0:Nat→Int→LA→O R) (c:LA) (b:Nat) (e d:Bool) (z:LA) (k0:Int→Int→LA→O R) (q1:Nat→Nat→LA→LA→LA→O R) (aa i:Int) (v:LA):O R :=
 (cond (decide (i<aa)) (cond (Af i b) (cond ((Nat.beq 1 1)&&((Nat.ble ((0+((i.toNat)*1))+1) (v.length))&&(!false))) (k0 aa (wrap .i64 (i+1)) (v.set (0+((i.toNat)*1)) (.int .i64 i))) none) none) (cond ((decide ((0:Int)≤(0:Int)))&&((decide (0≤((b:Nat):Int)))&&((decide (((b:Nat):Int)≤140737488355328))&&(decide ((((b:Nat):Int)*((8:Nat):Int))≤140737488355328))))) (q1 b 0 z v []) none))
def Di (r0:Nat→Int→LA→O R) (c:LA) (b:Nat) (e d:Bool) (z:LA):Nat→Int→Int→LA→O R
 | 0,_,_,_=>none
 | n+1,aa,i,v=>(I0 N r0 c b e d z (Di r0 c b e d z n) (fun g r t u s=>(Dh N r0 b N g r t u s)) aa i v)
def Jn (r0:Nat→Int→LA→O R) (q0:LA→Int→Int→LA→O R) (c:LA) (b:Nat) (e d:Bool):O R :=
 (Gh N c b false d (fun aj=>(cond (!aj) (r0 0 1 []) (Eh N c b false d (fun z=>(cond ((decide (0≤((b:Nat):Int)))&&((decide (((b:Nat):Int)≤((b:Nat):Int)))&&((decide (((b:Nat):Int)≤140737488355328))&&((decide ((((b:Nat):Int)*((8:Nat):Int))≤140737488355328))&&(Nat.beq 1 1))))) (q0 z ((b:Nat):Int) 0 (List.replicate b (.int .i64 0))) none))))))
def Ej:=(A0 (fun (N:Nat) (c:LA) (b:Nat) (e d:Bool) (r0:Nat→Int→LA→O R)=>(Jn N r0 (fun z aa i v=>(Di N r0 c b e d z N aa i v)) c b e d))).1
theorem O7 (c b e d r0):(@Ej R N c b e d r0)=(Jn N r0 (fun z aa i v=>(Di N r0 c b e d z N aa i v)) c b e d):=by rw[Ej,(A0 _).2]
def Sj:Hints:={ H:=(hS hL (hS hL (hS hL (hS hL (hS (hS hL (hS (hP [0,4,5,21,22] hL) hL)) (hS hL (hS (hS (hP [4,5,7] (hS hL (hS (hS hL (hS (hS hL (hS (hP [4,5,7,8,36,37,38] hL) hL)) hL)) hL))) hL) hL))))))),nils:=[(2,1)],modes:=[(2,1),(0,0)],cob:=[3000019] }
def Uw:JN:=[(30,Js N),(32,Jl N),(41,Ib N),(33,Dp N)]
def Kg (F:KF R):=CL Try.f21 Sj (Uw N) [] N F
def Bg (F:KF R):Nat→Int→LA→O R:=(fun ak al am=>F (.tup [(.own 300000 0 ak),(iv al)]) (hq [(bQ 1 am)]))
def EF (b p l:Nat) (f:Int) (w:Nat) (x m:Int) (q o y:LA):St:=⟨[(4,(.nd 300000 (.whole b))),(5,(.own 300001 0 p)),(7,(.own 300002 0 l)),(8,(iv f)),(36,(.own 300001 0 w)),(37,(iv x)),(38,(iv m))],(hq [⟨false,false,true,false,2,q,true,none,0,0⟩,⟨false,false,true,false,1,o,false,(some (3,140737488355328)),0,0⟩,(bQ 1 y)])⟩
def EG (F:KF R) (Q1:St→O R):=Kg N F [1,1,1,1,1,1,0,0,0,1,0,1,0,1,0] [Q1]
def Kh (b g r:Nat) (t u s:LA):St:=⟨[(4,(.nd 300000 (.whole b))),(5,(.own 300001 0 g)),(7,(.own 300002 0 r))],(hq [⟨false,false,true,false,2,t,true,none,0,0⟩,⟨false,false,true,false,1,u,false,(some (3,140737488355328)),0,0⟩,(bQ 1 s)])⟩
def Sk (F:KF R):=Kg N F [1,1,1,1,1,1,0,0] []
def EH (c:LA) (b:Nat) (e d:Bool) (z:LA) (aa i:Int) (v:LA):St:=⟨[(0,(.imm c b 1 e d)),(4,(.nd 300000 (.whole b))),(5,(.own 300001 0 b)),(21,(iv aa)),(22,(iv i))],(hq [⟨false,false,true,false,2,z,true,none,0,0⟩,⟨false,false,true,false,1,v,false,(some (3,140737488355328)),0,0⟩])⟩
def EI (F:KF R):=Kg N F [1,1,1,1,0,1,0] []
theorem Mb (Q1:St→O R) (F:KF R) (b:Nat):∀ (n:Nat) (p l:Nat) (f:Int) (w:Nat) (x m:Int) (q o y:LA),Ap (EG N F Q1) n (EF b p l f w x m q o y)=(Dg N (fun g r t u s=>Q1 (Kh b g r t u s)) (Bg F) b n p l f w x m q o y)
 | 0,_,_,_,_,_,_,_,_,_=>by kernel_rfl
 | n+1,p,l,f,w,x,m,q,o,y=>Eq.trans (by kernel_rfl) (Fz (Iy N (fun g r t u s=>Q1 (Kh b g r t u s)) (Bg F) b · p l f w x m q o y) (funext fun p=>funext fun l=>funext fun f=>funext fun w=>funext fun x=>funext fun m=>funext fun q=>funext fun o=>funext fun y=>(Mb Q1 F b n p l f w x m q o y)):_)
theorem Mc (F:KF R) (b:Nat):∀ (n:Nat) (g r:Nat) (t u s:LA),Ap (Sk N F) n (Kh b g r t u s)=(Dh N (Bg F) b n g r t u s)
 | 0,_,_,_,_,_=>by kernel_rfl
 | n+1,g,r,t,u,s=>have e0:=(funext fun g=>funext fun r=>funext fun t=>funext fun u=>funext fun s=>(Mc F b n g r t u s))
  Eq.trans (by kernel_rfl) (RN (Iz N (Bg F) b · · g r t u s) e0 (funext fun p=>funext fun l=>funext fun f=>funext fun w=>funext fun x=>funext fun m=>funext fun q=>funext fun o=>funext fun y=>(An ..).trans ((Mb N (Ap (Sk N F) n) F b N p l f w x m q o y).trans (Fz (Dg N · (Bg F) b N p l f w x m q o y) e0))):_)
theorem Md (F:KF R) (c:LA) (b:Nat) (e d:Bool) (z:LA):∀ (n:Nat) (aa i:Int) (v:LA),Ap (EI N F) n (EH c b e d z aa i v)=(Di N (Bg F) c b e d z n aa i v)
 | 0,_,_,_=>by kernel_rfl
 | n+1,aa,i,v=>Eq.trans (by kernel_rfl) (RN (I0 N (Bg F) c b e d z · · aa i v) (funext fun aa=>funext fun i=>funext fun v=>(Md F c b e d z n aa i v)) (funext fun g=>funext fun r=>funext fun t=>funext fun u=>funext fun s=>(An ..).trans (Mc N F b N g r t u s)):_)
theorem Sl (c:LA) (b:Nat) (e d:Bool) (F:KF R):Qr (Uw N) Sj N 21 [(.imm c b 1 e d)] [] F=(Ej N c b e d (Bg F)):=by
 rw[O7]
 exact Eq.trans (by kernel_rfl) (Fz (Jn N (Bg F) · c b e d) (funext fun z=>funext fun aa=>funext fun i=>funext fun v=>(An ..).trans (Md N F c b e d z N aa i v)):_)
def O8 (a:LA) (h:Ag) (k:KF R):O R :=
 match a,h with
 | [(.imm c b 1 e d)],[]=>(Ej N c b e d (Bg k))
 | _,_=>none
theorem Sm:By N 21 @O8:=by
 intro R Q a h k j;unfold O8;split;exact Ee (Sl ..) (Sl ..) ⟨Jt N,Jm N,Tp N,Dq N,trivial⟩;exact Ef
def Sn:=D3 (Sm N)
def So:=Qs (Sm N)
def I3 (N:Nat) (r0:Nat→Bool→LA→O R) (b:Int) (g:Nat) (d:LA) (c:Nat) (e f:Bool) (k1:Int→Int→LA→O R) (q l:Int) (o:LA):O R :=
 (cond (decide (l<q)) (cond (Af l c) (L6 .i64 (d.drop ((l.toNat)*1)) fun r=>(cond ((decide (r<0))==false) (cond ((cond false true (decide (r≥b)))==false) (cond (Af r g) (L6 .i64 (o.drop (0+((r.toNat)*1))) fun s=>(cond (cond false true (decide (s≥0))) (r0 0 false []) (cond (Af r g) (cond ((Nat.beq 1 1)&&((Nat.ble ((0+((r.toNat)*1))+1) (o.length))&&(!false))) (k1 q (wrap .i64 (l+1)) (o.set (0+((r.toNat)*1)) (.int .i64 l))) none) none))) none) (r0 0 false [])) (r0 0 false []))) none) (r0 g true o))
def Eu (r0:Nat→Bool→LA→O R) (b:Int) (g:Nat) (d:LA) (c:Nat) (e f:Bool):Nat→Int→Int→LA→O R
 | 0,_,_,_=>none
 | n+1,q,l,o=>(I3 N r0 b g d c e f (Eu r0 b g d c e f n) q l o)
def I4 (N:Nat) (r0:Nat→Bool→LA→O R) (d:LA) (c:Nat) (e f:Bool) (b:Int) (k0:Nat→Int→Int→LA→O R) (q1:Int→Int→LA→O R) (g:Nat) (p i:Int) (m:LA):O R :=
 (cond (decide (i<p)) (cond (Af i g) (cond ((Nat.beq 1 1)&&((Nat.ble ((0+((i.toNat)*1))+1) (m.length))&&(!false))) (k0 g p (wrap .i64 (i+1)) (m.set (0+((i.toNat)*1)) (.int .i64 (-1)))) none) none) (q1 ((c:Nat):Int) 0 m))
def Dj (r0:Nat→Bool→LA→O R) (d:LA) (c:Nat) (e f:Bool) (b:Int):Nat→Nat→Int→Int→LA→O R
 | 0,_,_,_,_=>none
 | n+1,g,p,i,m=>(I4 N r0 d c e f b (Dj r0 d c e f b n) (fun q l o=>(Eu N r0 b g d c e f N q l o)) g p i m)
def Jo (N:Nat) (r0:Nat→Bool→LA→O R) (q0:Nat→Int→Int→LA→O R) (d:LA) (c:Nat) (e f:Bool) (b:Int):O R :=
 (cond (((c:Nat):Int) != b) (r0 0 false []) (cond ((decide (0≤b))&&((decide (b≤b))&&((decide (b≤140737488355328))&&(decide ((b*((8:Nat):Int))≤140737488355328))))) (q0 (b.toNat) (((b.toNat):Nat):Int) 0 (List.replicate (b.toNat) (.int .i64 0))) none))
def Ek:=(A0 (fun (N:Nat) (d:LA) (c:Nat) (e f:Bool) (b:Int) (r0:Nat→Bool→LA→O R)=>(Jo N r0 (fun g p i m=>(Dj N r0 d c e f b N g p i m)) d c e f b))).1
theorem O9 (d c e f b r0):(@Ek R N d c e f b r0)=(Jo N r0 (fun g p i m=>(Dj N r0 d c e f b N g p i m)) d c e f b):=by rw[Ek,(A0 _).2]
def Sp:Hints:={ H:=(hS hL (hS hL (hS hL (hS (hS hL (hS (hP [0,1,6,17,18] hL) hL)) (hS (hS hL (hS (hP [1,6,25,26,27] hL) hL)) hL))))),nils:=[(4,1)],modes:=[(2,1),(0,0)] }
def Sq (F:KF R):=CL Try.f31 Sp [] [] N F
def Ci (F:KF R):Nat→Bool→LA→O R:=(fun t u v=>F (.tup [(.own 300000 0 t),(.bool u)]) (hq [(bQ 1 v)]))
def EJ (b:Int) (g:Nat) (d:LA) (c:Nat) (e f:Bool) (q l:Int) (o:LA):St:=⟨[(1,(iv b)),(6,(.own 300000 0 g)),(25,(.imm d c 1 e f)),(26,(iv q)),(27,(iv l))],(hq [(bQ 1 o)])⟩
def EK (F:KF R):=Sq N F [1,1,1,1,0,1,0] []
def EL (d:LA) (c:Nat) (e f:Bool) (b:Int) (g:Nat) (p i:Int) (m:LA):St:=⟨[(0,(.imm d c 1 e f)),(1,(iv b)),(6,(.own 300000 0 g)),(17,(iv p)),(18,(iv i))],(hq [(bQ 1 m)])⟩
def EM (F:KF R):=Sq N F [1,1,1,0,1,0] []
theorem Me (F:KF R) (b:Int) (g:Nat) (d:LA) (c:Nat) (e f:Bool):∀ (n:Nat) (q l:Int) (o:LA),Ap (EK N F) n (EJ b g d c e f q l o)=(Eu N (Ci F) b g d c e f n q l o)
 | 0,_,_,_=>by kernel_rfl
 | n+1,q,l,o=>Eq.trans (by kernel_rfl) (Fz (I3 N (Ci F) b g d c e f · q l o) (funext fun q=>funext fun l=>funext fun o=>(Me F b g d c e f n q l o)):_)
theorem Mf (F:KF R) (d:LA) (c:Nat) (e f:Bool) (b:Int):∀ (n g:Nat) (p i:Int) (m:LA),Ap (EM N F) n (EL d c e f b g p i m)=(Dj N (Ci F) d c e f b n g p i m)
 | 0,_,_,_,_=>by kernel_rfl
 | n+1,g,p,i,m=>Eq.trans (by kernel_rfl) (RN (I4 N (Ci F) d c e f b · · g p i m) (funext fun g=>funext fun p=>funext fun i=>funext fun m=>(Mf F d c e f b n g p i m)) (funext fun q=>funext fun l=>funext fun o=>(An ..).trans (Me N F b g d c e f N q l o)):_)
theorem Sr (d:LA) (c:Nat) (e f:Bool) (b:Int) (F:KF R):Qr [] Sp N 31 [(.imm d c 1 e f),(iv b)] [] F=(Ek N d c e f b (Ci F)):=by
 rw[O9]
 exact Eq.trans (by kernel_rfl) (Fz (Jo N (Ci F) · d c e f b) (funext fun g=>funext fun p=>funext fun i=>funext fun m=>(An ..).trans (Mf N F d c e f b N g p i m)):_)
def Pa (a:LA) (h:Ag) (k:KF R):O R :=
 match a,h with
 | [(.imm d c 1 e f),(.int .i64 b)],[]=>(Ek N d c e f b (Ci k))
 | _,_=>none
theorem Ss:By N 31 @Pa:=by
 intro R Q a h k j;unfold Pa;split;exact Ee (Sr ..) (Sr ..) trivial;exact Ef
def Su:=D3 (Ss N)
def Sv:=Qs (Ss N)
def Ux (N:Nat) (k0:Int→Int→LA→LA→O R) (r0:Nat→Int→LA→O R) (g b:Nat) (m:Int) (d:LA) (c:Nat) (f e:Bool) (i:Int) (v:Nat) (l w x:LA) (k1:Int→Int→Int→LA→O R) (t u r:Int) (p:LA):O R :=
 (cond (decide (r<u)) (cond (Af r v) (L6 .i64 (x.drop (0+((r.toNat)*1))) fun ab=>(cond (Af m b) (L6 .i64 (p.drop (0+((m.toNat)*1))) fun ad=>(cond ((decide (ad<0))==false) (cond (Af ab g) (L6 .i64 (l.drop (0+((ab.toNat)*1))) fun ae=>(cond (Af m b) (L6 .i64 (p.drop (0+((m.toNat)*1))) fun ac=>(cond (Af ac g) (L6 .i64 (l.drop (0+((ac.toNat)*1))) fun af=>(cond (cond false true (decide (ae<af))) (cond (Af m b) (cond ((Nat.beq 1 1)&&((Nat.ble ((0+((m.toNat)*1))+1) (p.length))&&(!false))) (k1 t u (wrap .i64 (r+1)) (p.set (0+((m.toNat)*1)) (.int .i64 ab))) none) none) (k1 t u (wrap .i64 (r+1)) p))) none)) none)) none) (cond (Af m b) (cond ((Nat.beq 1 1)&&((Nat.ble ((0+((m.toNat)*1))+1) (p.length))&&(!false))) (k1 t u (wrap .i64 (r+1)) (p.set (0+((m.toNat)*1)) (.int .i64 ab))) none) none))) none)) none) (k0 i (wrap .i64 (t+1)) w p))
def Gu (k0:Int→Int→LA→LA→O R) (r0:Nat→Int→LA→O R) (g b:Nat) (m:Int) (d:LA) (c:Nat) (f e:Bool) (i:Int) (v:Nat) (l w x:LA):Nat→Int→Int→Int→LA→O R
 | 0,_,_,_,_=>none
 | n+1,t,u,r,p=>(Ux N k0 r0 g b m d c f e i v l w x (Gu k0 r0 g b m d c f e i v l w x n) t u r p)
def Uy (r0:Nat→Int→LA→O R) (g b:Nat) (d:LA) (c:Nat) (f e:Bool) (l:LA) (k0:Int→Int→LA→LA→O R) (q1:Int→Nat→LA→LA→Int→Int→Int→LA→O R) (i o:Int) (s q:LA):O R :=
 (cond (decide (o<i)) (cond (Af o c) (L6 .i64 (d.drop ((o.toNat)*1)) fun m=>(cond (Af m b) (cond ((Nat.beq 1 1)&&((Nat.ble ((0+((m.toNat)*1))+1) (q.length))&&(!false))) (Bc N b m s (fun v am w x=>(q1 m v w x o ((v:Nat):Int) 0 (q.set (0+((m.toNat)*1)) (.int .i64 (-1)))))) none) none)) none) (r0 b 0 q))
def Gv (r0:Nat→Int→LA→O R) (g b:Nat) (d:LA) (c:Nat) (f e:Bool) (l:LA):Nat→Int→Int→LA→LA→O R
 | 0,_,_,_,_=>none
 | n+1,i,o,s,q=>(Uy N r0 g b d c f e l (Gv r0 g b d c f e l n) (fun m v w x t u r p=>(Gu N (Gv r0 g b d c f e l n) r0 g b m d c f e i v l w x N t u r p)) i o s q)
def Yx (r0:Nat→Int→LA→O R) (q0:Nat→LA→Int→Int→LA→LA→O R) (y:LA) (b:Nat) (aa z:Bool) (d:LA) (c:Nat) (f e:Bool):O R :=
 (Gh N y b false z (fun ag=>(cond (!ag) (r0 0 1 []) (Ek N d c false e ((b:Nat):Int) (fun g ah l=>(cond (!ah) (r0 0 11 []) (Eh N y b false z (fun ai=>(cond ((decide (0≤((b:Nat):Int)))&&((decide (((b:Nat):Int)≤((b:Nat):Int)))&&((decide (((b:Nat):Int)≤140737488355328))&&(decide ((((b:Nat):Int)*((8:Nat):Int))≤140737488355328))))) (q0 g l ((c:Nat):Int) 0 ai (List.replicate b (.int .i64 0))) none)))))))))
def Qz:=(A0 (fun (N:Nat) (y:LA) (b:Nat) (aa z:Bool) (d:LA) (c:Nat) (f e:Bool) (r0:Nat→Int→LA→O R)=>(Yx N r0 (fun g l i o s q=>(Gv N r0 g b d c f e l N i o s q)) y b aa z d c f e))).1
theorem CT (y b aa z d c f e r0):(@Qz R N y b aa z d c f e r0)=(Yx N r0 (fun g l i o s q=>(Gv N r0 g b d c f e l N i o s q)) y b aa z d c f e):=by rw[Qz,(A0 _).2]
def HW:Hints:={ H:=(hS hL (hS hL (hS hL (hS hL (hS hL (hS hL (hS (hS hL (hS (hP [6,8,9,33,34,35] (hS hL (hS hL (hS (hS (hS hL (hS hL (hS hL (hS hL (hS (hP [6,8,9,11,33,34,35,48,49,50] hL) hL))))) hL) hL)))) hL)) hL))))))),nils:=[(4,1)],modes:=[(2,1),(0,0)] }
def LV:JN:=[(30,Js N),(31,Su N),(32,Jl N),(33,Dp N)]
def HX (F:KF R):=CL Try.f11 HW (LV N) [] N F
def Fj (F:KF R):Nat→Int→LA→O R:=(fun aj ak al=>F (.tup [(.own 300000 0 aj),(iv ak)]) (hq [(bQ 1 al)]))
def TC (g b:Nat) (m:Int) (d:LA) (c:Nat) (f e:Bool) (i:Int) (v:Nat) (l w x:LA) (t u r:Int) (p:LA):St:=⟨[(6,(.own 300000 0 g)),(8,(.nd 300001 (.whole b))),(9,(.own 300002 0 b)),(11,(iv m)),(33,(.imm d c 1 f e)),(34,(iv i)),(35,(iv t)),(48,(.own 300003 0 v)),(49,(iv u)),(50,(iv r))],(hq [(bQ 1 l),⟨false,false,true,false,2,w,true,none,0,0⟩,(bQ 1 p),(bQ 1 x)])⟩
def TD (F:KF R) (Q0:St→O R):=HX N F [1,1,1,1,1,1,0,1,0,0,1,1,0,0,1,1,1,1,0] [Q0]
def Xo (g b:Nat) (d:LA) (c:Nat) (f e:Bool) (l:LA) (i o:Int) (s q:LA):St:=⟨[(6,(.own 300000 0 g)),(8,(.nd 300001 (.whole b))),(9,(.own 300002 0 b)),(33,(.imm d c 1 f e)),(34,(iv i)),(35,(iv o))],(hq [(bQ 1 l),⟨false,false,true,false,2,s,true,none,0,0⟩,(bQ 1 q)])⟩
def HY (F:KF R):=HX N F [1,1,1,1,1,1,0,1,0] []
theorem W0 (Q0:St→O R) (F:KF R) (g b:Nat) (m:Int) (d:LA) (c:Nat) (f e:Bool) (i:Int) (v:Nat) (l w x:LA):∀ (n:Nat) (t u r:Int) (p:LA),Ap (TD N F Q0) n (TC g b m d c f e i v l w x t u r p)=(Gu N (fun i o s q=>Q0 (Xo g b d c f e l i o s q)) (Fj F) g b m d c f e i v l w x n t u r p)
 | 0,_,_,_,_=>by kernel_rfl
 | n+1,t,u,r,p=>Eq.trans (by kernel_rfl) (Fz (Ux N (fun i o s q=>Q0 (Xo g b d c f e l i o s q)) (Fj F) g b m d c f e i v l w x · t u r p) (funext fun t=>funext fun u=>funext fun r=>funext fun p=>(W0 Q0 F g b m d c f e i v l w x n t u r p)):_)
theorem W1 (F:KF R) (g b:Nat) (d:LA) (c:Nat) (f e:Bool) (l:LA):∀ (n:Nat) (i o:Int) (s q:LA),Ap (HY N F) n (Xo g b d c f e l i o s q)=(Gv N (Fj F) g b d c f e l n i o s q)
 | 0,_,_,_,_=>by kernel_rfl
 | n+1,i,o,s,q=>have e0:=(funext fun i=>funext fun o=>funext fun s=>funext fun q=>(W1 F g b d c f e l n i o s q))
  Eq.trans (by kernel_rfl) (RN (Uy N (Fj F) g b d c f e l · · i o s q) e0 (funext fun m=>funext fun v=>funext fun w=>funext fun x=>funext fun t=>funext fun u=>funext fun r=>funext fun p=>(An ..).trans ((W0 N (Ap (HY N F) n) F g b m d c f e i v l w x N t u r p).trans (Fz (Gu N · (Fj F) g b m d c f e i v l w x N t u r p) e0))):_)
theorem HZ (y:LA) (b:Nat) (aa z:Bool) (d:LA) (c:Nat) (f e:Bool) (F:KF R):Qr (LV N) HW N 11 [(.imm y b 1 aa z),(.imm d c 1 f e)] [] F=(Qz N y b aa z d c f e (Fj F)):=by
 rw[CT]
 exact Eq.trans (by kernel_rfl) (Fz (Yx N (Fj F) · y b aa z d c f e) (funext fun g=>funext fun l=>funext fun i=>funext fun o=>funext fun s=>funext fun q=>(An ..).trans (W1 N F g b d c f e l N i o s q)):_)
def CU (a:LA) (h:Ag) (k:KF R):O R :=
 match a,h with
 | [(.imm y b 1 aa z),(.imm d c 1 f e)],[]=>(Qz N y b aa z d c f e (Fj k))
 | _,_=>none
theorem H_:By N 11 @CU:=by
 intro R Q a h k j;unfold CU;split;exact Ee (HZ ..) (HZ ..) ⟨Jt N,Sv N,Jm N,Dq N,trivial⟩;exact Ef
def H':=D3 (H_ N)
def IA:=Qs (H_ N)
def Uz (r0:Int→Int→O R) (b:Nat) (d:LA) (c:Nat) (f e:Bool) (k0:Int→Int→Int→LA→O R) (i l g:Int) (m:LA):O R :=
 (cond (decide (g<l)) (cond (Af g c) (L6 .i64 (d.drop ((g.toNat)*1)) fun r=>(Bc N b r m (fun z s t aa=>(k0 (wrap .i64 (i+s)) l (wrap .i64 (g+1)) t)))) none) (r0 i 0))
def I5 (r0:Int→Int→O R) (b:Nat) (d:LA) (c:Nat) (f e:Bool):Nat→Int→Int→Int→LA→O R
 | 0,_,_,_,_=>none
 | n+1,i,l,g,m=>(Uz N r0 b d c f e (I5 r0 b d c f e n) i l g m)
def Yy (r0:Int→Int→O R) (q0:Int→Int→Int→LA→O R) (o:LA) (b:Nat) (q p:Bool) (d:LA) (c:Nat) (f e:Bool):O R :=
 (Gh N o b false p (fun u=>(cond (!u) (r0 0 1) (Ek N d c false e ((b:Nat):Int) (fun ab v ac=>(cond (!v) (r0 0 11) (Eh N o b false p (fun w=>(q0 0 ((c:Nat):Int) 0 w)))))))))
def Q3:=(A0 (fun (N:Nat) (o:LA) (b:Nat) (q p:Bool) (d:LA) (c:Nat) (f e:Bool) (r0:Int→Int→O R)=>(Yy N r0 (fun i l g m=>(I5 N r0 b d c f e N i l g m)) o b q p d c f e))).1
theorem CV (o b q p d c f e r0):(@Q3 R N o b q p d c f e r0)=(Yy N r0 (fun i l g m=>(I5 N r0 b d c f e N i l g m)) o b q p d c f e):=by rw[Q3,(A0 _).2]
def IB:Hints:={ H:=(hS hL (hS hL (hS hL (hS hL (hS hL (hS (hS hL (hS (hP [8,9,28,29,30] hL) hL)) hL)))))) }
def LW:JN:=[(30,Js N),(31,Su N),(32,Jl N),(33,Dp N)]
def TE (F:KF R):=CL Try.f14 IB (LW N) [] N F
def Mg (F:KF R):Int→Int→O R:=(fun x y=>F (.tup [(iv x),(iv y)]) [])
def TF (b:Nat) (d:LA) (c:Nat) (f e:Bool) (i l g:Int) (m:LA):St:=⟨[(8,(.nd 300000 (.whole b))),(9,(iv i)),(28,(.imm d c 1 f e)),(29,(iv l)),(30,(iv g))],(hq [⟨false,false,true,false,2,m,true,none,0,0⟩])⟩
def TG (F:KF R):=TE N F [1,1,1,1,1,0,1,0] []
theorem W2 (F:KF R) (b:Nat) (d:LA) (c:Nat) (f e:Bool):∀ (n:Nat) (i l g:Int) (m:LA),Ap (TG N F) n (TF b d c f e i l g m)=(I5 N (Mg F) b d c f e n i l g m)
 | 0,_,_,_,_=>by kernel_rfl
 | n+1,i,l,g,m=>Eq.trans (by kernel_rfl) (Fz (Uz N (Mg F) b d c f e · i l g m) (funext fun i=>funext fun l=>funext fun g=>funext fun m=>(W2 F b d c f e n i l g m)):_)
theorem IC (o:LA) (b:Nat) (q p:Bool) (d:LA) (c:Nat) (f e:Bool) (F:KF R):Qr (LW N) IB N 14 [(.imm o b 1 q p),(.imm d c 1 f e)] [] F=(Q3 N o b q p d c f e (Mg F)):=by
 rw[CV]
 exact Eq.trans (by kernel_rfl) (Fz (Yy N (Mg F) · o b q p d c f e) (funext fun i=>funext fun l=>funext fun g=>funext fun m=>(An ..).trans (W2 N F b d c f e N i l g m)):_)
def CW (a:LA) (h:Ag) (k:KF R):O R :=
 match a,h with
 | [(.imm o b 1 q p),(.imm d c 1 f e)],[]=>(Q3 N o b q p d c f e (Mg k))
 | _,_=>none
theorem ID:By N 14 @CW:=by
 intro R Q a h k j;unfold CW;split;exact Ee (IC ..) (IC ..) ⟨Jt N,Sv N,Jm N,Dq N,trivial⟩;exact Ef
def IE:=D3 (ID N)
def IF:=Qs (ID N)
def I6 (N:Nat) (r0:Bool→O R) (d:LA) (b:Nat) (f g:Bool) (e:LA) (c:Nat) (i l:Bool) (k0:Int→O R) (m:Int):O R :=
 (cond (decide (m<((b:Nat):Int))) (cond (Af m b) (L6 .i64 (d.drop ((m.toNat)*1)) fun o=>(cond (Af m c) (L6 .i64 (e.drop ((m.toNat)*1)) fun p=>(cond (o != p) (r0 false) (k0 (wrap .i64 (m+1))))) none)) none) (r0 true))
def Dk (r0:Bool→O R) (d:LA) (b:Nat) (f g:Bool) (e:LA) (c:Nat) (i l:Bool):Nat→Int→O R
 | 0,_=>none
 | n+1,m=>(I6 N r0 d b f g e c i l (Dk r0 d b f g e c i l n) m)
def Jp (N:Nat) (r0:Bool→O R) (q0:Int→O R) (d:LA) (b:Nat) (f g:Bool) (e:LA) (c:Nat) (i l:Bool):O R :=
 (cond (((b:Nat):Int) != ((c:Nat):Int)) (r0 false) (q0 0))
def Cx:=(A0 (fun (N:Nat) (d:LA) (b:Nat) (f g:Bool) (e:LA) (c:Nat) (i l:Bool) (r0:Bool→O R)=>(Jp N r0 (fun m=>(Dk N r0 d b f g e c i l N m)) d b f g e c i l))).1
theorem Pb (d b f g e c i l r0):(@Cx R N d b f g e c i l r0)=(Jp N r0 (fun m=>(Dk N r0 d b f g e c i l N m)) d b f g e c i l):=by rw[Cx,(A0 _).2]
def EN (F:KF R):=CL Try.f34 LJ [] [] N F
def Ev (F:KF R):Bool→O R:=(fun q=>F (.bool q) [])
def EO (d:LA) (b:Nat) (f g:Bool) (e:LA) (c:Nat) (i l:Bool) (m:Int):St:=⟨[(0,(.imm d b 1 f g)),(1,(.imm e c 1 i l)),(5,(iv m))],[]⟩
def EP (F:KF R):=EN N F [1,1,0,1,0] []
theorem Mh (F:KF R) (d:LA) (b:Nat) (f g:Bool) (e:LA) (c:Nat) (i l:Bool):∀ (n:Nat) (m:Int),Ap (EP N F) n (EO d b f g e c i l m)=(Dk N (Ev F) d b f g e c i l n m)
 | 0,_=>by kernel_rfl
 | n+1,m=>Eq.trans (by kernel_rfl) (Fz (I6 N (Ev F) d b f g e c i l · m) (funext fun m=>(Mh F d b f g e c i l n m)):_)
theorem Sw (d:LA) (b:Nat) (f g:Bool) (e:LA) (c:Nat) (i l:Bool) (F:KF R):Qr [] LJ N 34 [(.imm d b 1 f g),(.imm e c 1 i l)] [] F=(Cx N d b f g e c i l (Ev F)):=by
 rw[Pb]
 exact Eq.trans (by kernel_rfl) (Fz (Jp N (Ev F) · d b f g e c i l) (funext fun m=>(An ..).trans (Mh N F d b f g e c i l N m)):_)
def Pc (a:LA) (h:Ag) (k:KF R):O R :=
 match a,h with
 | [(.imm d b 1 f g),(.imm e c 1 i l)],[]=>(Cx N d b f g e c i l (Ev k))
 | _,_=>none
theorem Sx:By N 34 @Pc:=by
 intro R Q a h k j;unfold Pc;split;exact Ee (Sw ..) (Sw ..) trivial;exact Ef
def Sy:=D3 (Sx N)
def Sz:=Qs (Sx N)
def Q4 (r0:Bool→O R):O R :=
 (Ej N [(.imm [(.int .i64 1)] 1 1 false false),(.imm [(.int .i64 0),(.int .i64 2)] 2 1 false false),(.imm [(.int .i64 1)] 1 1 false false)] 3 false true (fun b e c=>(Qz N [(.imm [(.int .i64 1)] 1 1 false false),(.imm [(.int .i64 0),(.int .i64 2)] 2 1 false false),(.imm [(.int .i64 1)] 1 1 false false)] 3 false true (c.take (b*1)) b false true (fun d f g=>(Q3 N [(.imm [(.int .i64 1),(.int .i64 2),(.int .i64 3)] 3 1 false false),(.imm [(.int .i64 0)] 1 1 false false),(.imm [(.int .i64 0)] 1 1 false false),(.imm [(.int .i64 0)] 1 1 false false)] 4 false true [(.int .i64 0),(.int .i64 1),(.int .i64 2),(.int .i64 3)] 4 false true (fun i l=>(cond ((e==0)==true) (cond ((cond true (f==0) false)==true) (cond ((cond true (l==0) false)==true) (Cx N (c.take (b*1)) b false true [(.int .i64 0),(.int .i64 1),(.int .i64 2)] 3 false true (fun m=>(cond ((cond true m false)==true) (Cx N (g.take (d*1)) d false true [(.int .i64 1),(.int .i64 2),(.int .i64 (-1))] 3 false true (fun n=>(cond ((cond true n false)==true) (r0 (cond true (i==3) false)) (r0 false)))) (r0 false)))) (r0 false)) (r0 false)) (r0 false))))))))
def G8:=(A0 (@Q4 R)).1
theorem S3:@G8 R=@Q4 R:=(A0 _).2
def KI:JN:=[(21,Sn N),(11,H' N),(14,IE N),(34,Sy N)]
def U0 (F:KF R):Bool→O R:=(fun o=>F (.bool o) [])
theorem U1 (F:KF R):Qr (KI N) Ws N 12 [] [] F=(G8 N (U0 F)):=by
 rw[S3]
 kernel_rfl
def S4 (a:LA) (h:Ag) (k:KF R):O R :=
 match a,h with
 | [],[]=>(G8 N (U0 k))
 | _,_=>none
theorem U2:By N 12 @S4:=by
 intro R Q a h k j;unfold S4;split;exact Ee (U1 ..) (U1 ..) ⟨So N,IA N,IF N,Sz N,trivial⟩;exact Ef
def IG:=D3 (U2 N)
def IH:=Qs (U2 N)
end
end Gx

namespace Gx
open Go Go.Proofs
open IntKind (wrap)
set_option maxRecDepth 100000
noncomputable section
variable {R:Type} (N:Nat)
def Ki (N:Nat) (r0:Bool→O R) (c:LA) (b:Nat) (d e:Bool) (k0:Int→O R) (f:Int):O R :=
 (cond (decide (f<((b:Nat):Int))) (cond (Af f b) (KD 1 (c.drop ((f.toNat)*1)) fun l g=>(cond (decide (((g:Nat):Int)>40)) (r0 false) (k0 (wrap .i64 (f+1))))) none) (r0 true))
def D5 (r0:Bool→O R) (c:LA) (b:Nat) (d e:Bool):Nat→Int→O R
 | 0,_=>none
 | n+1,f=>(Ki N r0 c b d e (D5 r0 c b d e n) f)
def Li (N:Nat) (r0:Bool→O R) (q0:Int→O R) (c:LA) (b:Nat) (d e:Bool):O R :=
 (cond (decide (((b:Nat):Int)>20)) (r0 false) (q0 0))
def Fk:=(A0 (fun (N:Nat) (c:LA) (b:Nat) (d e:Bool) (r0:Bool→O R)=>(Li N r0 (fun f=>(D5 N r0 c b d e N f)) c b d e))).1
theorem S5 (c b d e r0):(@Fk R N c b d e r0)=(Li N r0 (fun f=>(D5 N r0 c b d e N f)) c b d e):=by rw[Fk,(A0 _).2]
def U3:Hints:={ H:=(hS hL (hS hL (hS (hS hL (hS (hP [0,3] hL) hL)) hL))) }
def II (F:KF R):=CL Try.f16 U3 [] [] N F
def Fl (F:KF R):Bool→O R:=(fun i=>F (.bool i) [])
def IJ (c:LA) (b:Nat) (d e:Bool) (f:Int):St:=⟨[(0,(.imm c b 1 d e)),(3,(iv f))],[]⟩
def IK (F:KF R):=II N F [1,1,0,1,0] []
theorem Nc (F:KF R) (c:LA) (b:Nat) (d e:Bool):∀ (n:Nat) (f:Int),Ap (IK N F) n (IJ c b d e f)=(D5 N (Fl F) c b d e n f)
 | 0,_=>by kernel_rfl
 | n+1,f=>Eq.trans (by kernel_rfl) (Fz (Ki N (Fl F) c b d e · f) (funext fun f=>(Nc F c b d e n f)):_)
theorem U4 (c:LA) (b:Nat) (d e:Bool) (F:KF R):Qr [] U3 N 16 [(.imm c b 1 d e)] [] F=(Fk N c b d e (Fl F)):=by
 rw[S5]
 exact Eq.trans (by kernel_rfl) (Fz (Li N (Fl F) · c b d e) (funext fun f=>(An ..).trans (Nc N F c b d e N f)):_)
def S6 (a:LA) (h:Ag) (k:KF R):O R :=
 match a,h with
 | [(.imm c b 1 d e)],[]=>(Fk N c b d e (Fl k))
 | _,_=>none
theorem U5:By N 16 @S6:=by
 intro R Q a h k j;unfold S6;split;exact Ee (U4 ..) (U4 ..) trivial;exact Ef
def IL:=D3 (U5 N)
def IM:=Qs (U5 N)
def Hs (r0:LA→LA→O R) (b:Nat) (k0:Int→Int→LA→LA→O R) (e c:Int) (f d:LA):O R :=
 (cond (decide (c<e)) (Do N b c f (fun i l m=>(cond (Af c b) (cond ((Nat.beq 1 1)&&((Nat.ble ((0+((c.toNat)*1))+1) (d.length))&&(!false))) (k0 e (wrap .i64 (c+1)) l (d.set (0+((c.toNat)*1)) (.imm (m.take (i*1)) i 1 false false))) none) none))) (r0 f d))
def C1 (r0:LA→LA→O R) (b:Nat):Nat→Int→Int→LA→LA→O R
 | 0,_,_,_,_=>none
 | n+1,e,c,f,d=>(Hs N r0 b (C1 r0 b n) e c f d)
def Ht (N:Nat) (r0:LA→LA→O R) (q0:Int→Int→LA→LA→O R) (b:Nat) (g:LA):O R :=
 (cond ((decide (0≤((b:Nat):Int)))&&((decide (((b:Nat):Int)≤((b:Nat):Int)))&&((decide (((b:Nat):Int)≤140737488355328))&&(decide ((((b:Nat):Int)*((24:Nat):Int))≤140737488355328))))) (q0 ((b:Nat):Int) 0 g (List.replicate b .nsl)) none)
def E2:=(A0 (fun (N b:Nat) (g:LA) (r0:LA→LA→O R)=>(Ht N r0 (fun e c f d=>(C1 N r0 b N e c f d)) b g))).1
theorem Nd (b g r0):(@E2 R N b g r0)=(Ht N r0 (fun e c f d=>(C1 N r0 b N e c f d)) b g):=by rw[E2,(A0 _).2]
def Pd:Hints:={ H:=(hS hL (hS hL (hS (hS hL (hS (hP [0,3,9,10] hL) hL)) hL))),nils:=[(2,1)],modes:=[(2,1)] }
def S7:JN:=[(52,Fh N)]
def AT (F:KF R):=CL Try.f40 Pd (S7 N) [100000] N F
def D6 (b:Nat) (F:KF R):LA→LA→O R:=(fun o p=>F (.own 300000 0 b) [(100000,⟨false,false,true,false,2,o,true,none,0,0⟩),(300000,(bQ 1 p))])
def AU (b:Nat) (e c:Int) (f d:LA):St:=⟨[(0,(.nd 100000 (.whole b))),(3,(.own 300000 0 b)),(9,(iv e)),(10,(iv c))],[(100000,⟨false,false,true,false,2,f,true,none,0,0⟩),(300000,(bQ 1 d))]⟩
def AW (F:KF R):=AT N F [1,1,0,1,0] []
theorem Kn (F:KF R) (b:Nat):∀ (n:Nat) (e c:Int) (f d:LA),Ap (AW N F) n (AU b e c f d)=(C1 N (D6 b F) b n e c f d)
 | 0,_,_,_,_=>by kernel_rfl
 | n+1,e,c,f,d=>Eq.trans (by kernel_rfl) (Fz (Hs N (D6 b F) b · e c f d) (funext fun e=>funext fun c=>funext fun f=>funext fun d=>(Kn F b n e c f d)):_)
theorem Pe (b:Nat) (g:LA) (F:KF R):Qr (S7 N) Pd N 40 [(.nd 100000 (.whole b))] [(100000,⟨false,false,true,false,2,g,true,none,0,0⟩)] F=(E2 N b g (D6 b F)):=by
 rw[Nd]
 exact Eq.trans (by kernel_rfl) (Fz (Ht N (D6 b F) · b g) (funext fun e=>funext fun c=>funext fun f=>funext fun d=>(An ..).trans (Kn N F b N e c f d)):_)
def Nf (a:LA) (h:Ag) (k:KF R):O R :=
 match a,h with
 | [(.nd 100000 (.whole b))],[(100000,⟨false,false,true,false,2,g,true,none,0,0⟩)]=>(E2 N b g (D6 b k))
 | _,_=>none
theorem Pf:By N 40 @Nf:=by
 intro R Q a h k j;unfold Nf;split;exact Ee (Pe ..) (Pe ..) ⟨Ju N,trivial⟩;exact Ef
def AX:=D3 (Pf N)
def AY:=Qs (Pf N)
def Nv (d:LA) (b:Nat) (f e:Bool) (c:Int) (r0:LA→Nat→Int→O R):O R :=
 (Gh N d b false e (fun g=>(cond (!g) (r0 [] 0 1) (cond ((decide (c<0))==false) (cond (cond false true (decide (c≥((b:Nat):Int)))) (r0 [] 0 3) (Eh N d b false e (fun i=>(Bc N b c i (fun q r l s=>(E2 N b l (fun t m=>(r0 (m.take (b*1)) b 0)))))))) (r0 [] 0 3)))))
def Hu:=(A0 (@Nv R)).1
theorem Pg:@Hu R=@Nv R:=(A0 _).2
def EQ:Hints:={ H:=hL,nils:=[(4,1)],modes:=[(1,1),(0,0)] }
def IN:JN:=[(30,Js N),(32,Jl N),(33,Dp N),(40,AX N)]
def S8 (F:KF R):LA→Nat→Int→O R:=(fun n o p=>F (.tup [(.imm n o 1 false false),(iv p)]) [])
theorem S9 (d:LA) (b:Nat) (f e:Bool) (c:Int) (F:KF R):Qr (IN N) EQ N 20 [(.imm d b 1 f e),(iv c)] [] F=(Hu N d b f e c (S8 F)):=by
 rw[Pg]
 kernel_rfl
def Ph (a:LA) (h:Ag) (k:KF R):O R :=
 match a,h with
 | [(.imm d b 1 f e),(.int .i64 c)],[]=>(Hu N d b f e c (S8 k))
 | _,_=>none
theorem Ta:By N 20 @Ph:=by
 intro R Q a h k j;unfold Ph;split;exact Ee (S9 ..) (S9 ..) ⟨Jt N,Jm N,Dq N,AY N,trivial⟩;exact Ef
def ER:=D3 (Ta N)
def ES:=Qs (Ta N)
def U6 (N:Nat) (r0:Bool→O R) (c:LA) (b:Nat) (e f:Bool) (d:Int) (k0:Int→O R) (g:Int):O R :=
 (cond (decide (g<((b:Nat):Int))) (cond (Af g b) (L6 .i64 (c.drop ((g.toNat)*1)) fun i=>(cond (i==d) (r0 true) (k0 (wrap .i64 (g+1))))) none) (r0 false))
def I7 (r0:Bool→O R) (c:LA) (b:Nat) (e f:Bool) (d:Int):Nat→Int→O R
 | 0,_=>none
 | n+1,g=>(U6 N r0 c b e f d (I7 r0 c b e f d n) g)
def Yz (N:Nat) (r0:Bool→O R) (q0:Int→O R) (c:LA) (b:Nat) (e f:Bool) (d:Int):O R :=
 (q0 0)
def Ng:=(A0 (fun (N:Nat) (c:LA) (b:Nat) (e f:Bool) (d:Int) (r0:Bool→O R)=>(Yz N r0 (fun g=>(I7 N r0 c b e f d N g)) c b e f d))).1
theorem CX (c b e f d r0):(@Ng R N c b e f d r0)=(Yz N r0 (fun g=>(I7 N r0 c b e f d N g)) c b e f d):=by rw[Ng,(A0 _).2]
def IP:Hints:={ H:=(hS hL (hS (hS hL (hS (hP [0,1,5] hL) hL)) hL)) }
def TH (F:KF R):=CL Try.f55 IP [] [] N F
def Mi (F:KF R):Bool→O R:=(fun l=>F (.bool l) [])
def TI (c:LA) (b:Nat) (e f:Bool) (d g:Int):St:=⟨[(0,(.imm c b 1 e f)),(1,(iv d)),(5,(iv g))],[]⟩
def TJ (F:KF R):=TH N F [1,0,1,0] []
theorem W3 (F:KF R) (c:LA) (b:Nat) (e f:Bool) (d:Int):∀ (n:Nat) (g:Int),Ap (TJ N F) n (TI c b e f d g)=(I7 N (Mi F) c b e f d n g)
 | 0,_=>by kernel_rfl
 | n+1,g=>Eq.trans (by kernel_rfl) (Fz (U6 N (Mi F) c b e f d · g) (funext fun g=>(W3 F c b e f d n g)):_)
theorem IQ (c:LA) (b:Nat) (e f:Bool) (d:Int) (F:KF R):Qr [] IP N 55 [(.imm c b 1 e f),(iv d)] [] F=(Ng N c b e f d (Mi F)):=by
 rw[CX]
 exact Eq.trans (by kernel_rfl) (Fz (Yz N (Mi F) · c b e f d) (funext fun g=>(An ..).trans (W3 N F c b e f d N g)):_)
def CY (a:LA) (h:Ag) (k:KF R):O R :=
 match a,h with
 | [(.imm c b 1 e f),(.int .i64 d)],[]=>(Ng N c b e f d (Mi k))
 | _,_=>none
theorem IR:By N 55 @CY:=by
 intro R Q a h k j;unfold CY;split;exact Ee (IQ ..) (IQ ..) trivial;exact Ef
def IS:=D3 (IR N)
def IT:=Qs (IR N)
def Nw (N:Nat) (k0:Int→O R) (r0:Bool→O R) (c:LA) (b:Nat) (e d:Bool) (k1:Int→Int→O R) (f g:Int):O R :=
 (cond (Af f b) (KD 1 (c.drop ((f.toNat)*1)) fun ae r=>(cond (decide (g<((r:Nat):Int))) (cond (Af f b) (KD 1 (c.drop ((f.toNat)*1)) fun s t=>(cond (Af g t) (L6 .i64 (s.drop ((g.toNat)*1)) fun p=>(cond ((decide (p<0))==false) (cond ((cond false true (decide (p≥((b:Nat):Int))))==false) (cond ((cond false true (p==f))==false) (cond ((decide (g>0))==true) (cond (Af f b) (KD 1 (c.drop ((f.toNat)*1)) fun u v=>(cond (Af (wrap .i64 (g - 1)) v) (L6 .i64 (u.drop (((wrap .i64 (g - 1)).toNat)*1)) fun w=>(cond (cond false true (cond true (decide (p≤w)) false)) (r0 false) (k1 f (wrap .i64 (g+1))))) none)) none) (k1 f (wrap .i64 (g+1)))) (r0 false)) (r0 false)) (r0 false))) none)) none) (k0 (wrap .i64 (f+1))))) none)
def F0 (k0:Int→O R) (r0:Bool→O R) (c:LA) (b:Nat) (e d:Bool):Nat→Int→Int→O R
 | 0,_,_=>none
 | n+1,f,g=>(Nw N k0 r0 c b e d (F0 k0 r0 c b e d n) f g)
def Nx (k2:Int→O R) (r0:Bool→O R) (c:LA) (b:Nat) (e d:Bool) (k3:Int→Int→O R) (i o:Int):O R :=
 (cond (Af i b) (KD 1 (c.drop ((i.toNat)*1)) fun af x=>(cond (decide (o<((x:Nat):Int))) (cond (Af i b) (KD 1 (c.drop ((i.toNat)*1)) fun y z=>(cond (Af o z) (L6 .i64 (y.drop ((o.toNat)*1)) fun q=>(cond (Af q b) (KD 1 (c.drop ((q.toNat)*1)) fun aa ab=>(Ng N aa ab false d i (fun ac=>(cond (!ac) (r0 false) (k3 i (wrap .i64 (o+1))))))) none)) none)) none) (k2 (wrap .i64 (i+1))))) none)
def F1 (k2:Int→O R) (r0:Bool→O R) (c:LA) (b:Nat) (e d:Bool):Nat→Int→Int→O R
 | 0,_,_=>none
 | n+1,i,o=>(Nx N k2 r0 c b e d (F1 k2 r0 c b e d n) i o)
def Ny (N:Nat) (r0:Bool→O R) (c:LA) (b:Nat) (e d:Bool) (k2:Int→O R) (q3:Int→Int→O R) (m:Int):O R :=
 (cond (decide (m<((b:Nat):Int))) (q3 m 0) (r0 true))
def F2 (r0:Bool→O R) (c:LA) (b:Nat) (e d:Bool):Nat→Int→O R
 | 0,_=>none
 | n+1,m=>(Ny N r0 c b e d (F2 r0 c b e d n) (fun i o=>(F1 N (F2 r0 c b e d n) r0 c b e d N i o)) m)
def Nz (N:Nat) (r0:Bool→O R) (c:LA) (b:Nat) (e d:Bool) (k0:Int→O R) (q1:Int→Int→O R) (q2:Int→O R) (l:Int):O R :=
 (cond (decide (l<((b:Nat):Int))) (q1 l 0) (q2 0))
def El (r0:Bool→O R) (c:LA) (b:Nat) (e d:Bool):Nat→Int→O R
 | 0,_=>none
 | n+1,l=>(Nz N r0 c b e d (El r0 c b e d n) (fun f g=>(F0 N (El r0 c b e d n) r0 c b e d N f g)) (fun m=>(F2 N r0 c b e d N m)) l)
def Q5 (N:Nat) (r0:Bool→O R) (q0:Int→O R) (c:LA) (b:Nat) (e d:Bool):O R :=
 (cond (decide (((b:Nat):Int)>16384)) (r0 false) (q0 0))
def E3:=(A0 (fun (N:Nat) (c:LA) (b:Nat) (e d:Bool) (r0:Bool→O R)=>(Q5 N r0 (fun l=>(El N r0 c b e d N l)) c b e d))).1
theorem W4 (c b e d r0):(@E3 R N c b e d r0)=(Q5 N r0 (fun l=>(El N r0 c b e d N l)) c b e d):=by rw[E3,(A0 _).2]
def Y0:Hints:={ H:=(hS hL (hS hL (hS (hS hL (hS (hP [0,3] (hS hL (hS (hS (hS hL (hS (hP [0,3,4] hL) hL)) hL) hL))) hL)) (hS (hS hL (hS (hP [0,6] (hS hL (hS (hS (hS hL (hS (hP [0,6,7] hL) hL)) hL) hL))) hL)) hL)))) }
def CZ:JN:=[(55,IS N)]
def Lj (F:KF R):=CL Try.f39 Y0 (CZ N) [] N F
def Bj (F:KF R):Bool→O R:=(fun ad=>F (.bool ad) [])
def NO (c:LA) (b:Nat) (e d:Bool) (f g:Int):St:=⟨[(0,(.imm c b 1 e d)),(3,(iv f)),(4,(iv g))],[]⟩
def NP (F:KF R) (Q0:St→O R):=Lj N F [1,1,0,1,0,0,1,0,0,1,0] [Q0]
def NQ (c:LA) (b:Nat) (e d:Bool) (i o:Int):St:=⟨[(0,(.imm c b 1 e d)),(6,(iv i)),(7,(iv o))],[]⟩
def NR (F:KF R) (Q2:St→O R):=Lj N F [1,1,1,0,1,0,0,1,0,0,1,0] [Q2]
def Q6 (c:LA) (b:Nat) (e d:Bool) (m:Int):St:=⟨[(0,(.imm c b 1 e d)),(6,(iv m))],[]⟩
def Y1 (F:KF R):=Lj N F [1,1,1,0,1,0] []
def Q7 (c:LA) (b:Nat) (e d:Bool) (l:Int):St:=⟨[(0,(.imm c b 1 e d)),(3,(iv l))],[]⟩
def Y2 (F:KF R):=Lj N F [1,1,0,1,0] []
theorem Tb (Q0:St→O R) (F:KF R) (c:LA) (b:Nat) (e d:Bool):∀ (n:Nat) (f g:Int),Ap (NP N F Q0) n (NO c b e d f g)=(F0 N (fun l=>Q0 (Q7 c b e d l)) (Bj F) c b e d n f g)
 | 0,_,_=>by kernel_rfl
 | n+1,f,g=>Eq.trans (by kernel_rfl) (Fz (Nw N (fun l=>Q0 (Q7 c b e d l)) (Bj F) c b e d · f g) (funext fun f=>funext fun g=>(Tb Q0 F c b e d n f g)):_)
theorem Tc (Q2:St→O R) (F:KF R) (c:LA) (b:Nat) (e d:Bool):∀ (n:Nat) (i o:Int),Ap (NR N F Q2) n (NQ c b e d i o)=(F1 N (fun m=>Q2 (Q6 c b e d m)) (Bj F) c b e d n i o)
 | 0,_,_=>by kernel_rfl
 | n+1,i,o=>Eq.trans (by kernel_rfl) (Fz (Nx N (fun m=>Q2 (Q6 c b e d m)) (Bj F) c b e d · i o) (funext fun i=>funext fun o=>(Tc Q2 F c b e d n i o)):_)
theorem Td (F:KF R) (c:LA) (b:Nat) (e d:Bool):∀ (n:Nat) (m:Int),Ap (Y1 N F) n (Q6 c b e d m)=(F2 N (Bj F) c b e d n m)
 | 0,_=>by kernel_rfl
 | n+1,m=>have e0:=(funext fun m=>(Td F c b e d n m))
  Eq.trans (by kernel_rfl) (RN (Ny N (Bj F) c b e d · · m) e0 (funext fun i=>funext fun o=>(An ..).trans ((Tc N (Ap (Y1 N F) n) F c b e d N i o).trans (Fz (F1 N · (Bj F) c b e d N i o) e0))):_)
theorem Te (F:KF R) (c:LA) (b:Nat) (e d:Bool):∀ (n:Nat) (l:Int),Ap (Y2 N F) n (Q7 c b e d l)=(El N (Bj F) c b e d n l)
 | 0,_=>by kernel_rfl
 | n+1,l=>have e0:=(funext fun l=>(Te F c b e d n l))
  Eq.trans (by kernel_rfl) (bj (Nz N (Bj F) c b e d · · · l) e0 (funext fun f=>funext fun g=>(An ..).trans ((Tb N (Ap (Y2 N F) n) F c b e d N f g).trans (Fz (F0 N · (Bj F) c b e d N f g) e0))) (funext fun m=>(An ..).trans (Td N F c b e d N m)):_)
theorem Y3 (c:LA) (b:Nat) (e d:Bool) (F:KF R):Qr (CZ N) Y0 N 39 [(.imm c b 1 e d)] [] F=(E3 N c b e d (Bj F)):=by
 rw[W4]
 exact Eq.trans (by kernel_rfl) (Fz (Q5 N (Bj F) · c b e d) (funext fun l=>(An ..).trans (Te N F c b e d N l)):_)
def W5 (a:LA) (h:Ag) (k:KF R):O R :=
 match a,h with
 | [(.imm c b 1 e d)],[]=>(E3 N c b e d (Bj k))
 | _,_=>none
theorem Y4:By N 39 @W5:=by
 intro R Q a h k j;unfold W5;split;exact Ee (Y3 ..) (Y3 ..) ⟨IT N,trivial⟩;exact Ef
def Hv:=D3 (Y4 N)
def Hw:=Qs (Y4 N)
def N0 (N:Nat) (k0:Int→LA→O R) (r0:LA→O R) (c:LA) (b:Nat) (d e:Bool) (k1:Int→Int→LA→O R) (f l:Int) (m:LA):O R :=
 (cond (Af f b) (KD 1 (c.drop ((f.toNat)*1)) fun w q=>(cond (decide (l<((q:Nat):Int))) (cond (Af f b) (B8 1 m (f.toNat) fun x r=>(cond (Af f b) (KD 1 (c.drop ((f.toNat)*1)) fun s t=>(cond (Af l t) (L6 .i64 (s.drop ((l.toNat)*1)) fun o=>(cond (Af o r) (B8 1 m (f.toNat) fun p u=>(cond (Nat.blt ((o.toNat)*1) p.length) (k1 f (wrap .i64 (l+1)) (m.set (f.toNat) (Bd (p.set ((o.toNat)*1) (.bool true)) u 1))) none)) none)) none)) none)) none) (k0 (wrap .i64 (f+1)) m))) none)
def F3 (k0:Int→LA→O R) (r0:LA→O R) (c:LA) (b:Nat) (d e:Bool):Nat→Int→Int→LA→O R
 | 0,_,_,_=>none
 | n+1,f,l,m=>(N0 N k0 r0 c b d e (F3 k0 r0 c b d e n) f l m)
def N1 (N:Nat) (r0:LA→O R) (c:LA) (b:Nat) (d e:Bool) (k0:Int→LA→O R) (q1:Int→Int→LA→O R) (g:Int) (i:LA):O R :=
 (cond (decide (g<((b:Nat):Int))) (cond ((decide (0≤((b:Nat):Int)))&&((decide (((b:Nat):Int)≤((b:Nat):Int)))&&((decide (((b:Nat):Int)≤140737488355328))&&(decide ((((b:Nat):Int)*((1:Nat):Int))≤140737488355328))))) (cond (Af g b) (cond (Nat.ble 1 b) (q1 g 0 (i.set (g.toNat) (Bd (List.take (b*1) (List.replicate b (.bool false))) b 1))) none) none) none) (r0 i))
def Em (r0:LA→O R) (c:LA) (b:Nat) (d e:Bool):Nat→Int→LA→O R
 | 0,_,_=>none
 | n+1,g,i=>(N1 N r0 c b d e (Em r0 c b d e n) (fun f l m=>(F3 N (Em r0 c b d e n) r0 c b d e N f l m)) g i)
def Q8 (N:Nat) (r0:LA→O R) (q0:Int→LA→O R) (c:LA) (b:Nat) (d e:Bool):O R :=
 (cond ((decide (0≤((b:Nat):Int)))&&((decide (((b:Nat):Int)=((b:Nat):Int)))&&((decide (((b:Nat):Int)≤140737488355328))&&(decide ((((b:Nat):Int)*((24:Nat):Int))≤140737488355328))))) (q0 0 (List.replicate b .nsl)) none)
def F4:=(A0 (fun (N:Nat) (c:LA) (b:Nat) (d e:Bool) (r0:LA→O R)=>(Q8 N r0 (fun g i=>(Em N r0 c b d e N g i)) c b d e))).1
theorem W6 (c b d e r0):(@F4 R N c b d e r0)=(Q8 N r0 (fun g i=>(Em N r0 c b d e N g i)) c b d e):=by rw[F4,(A0 _).2]
def Y5:Hints:={ H:=(hS hL (hS hL (hS (hS hL (hS (hP [0,3,4] (hS hL (hS (hS (hS hL (hS hL (hS (hP [0,3,4,5] hL) hL))) hL) hL))) hL)) hL))),nils:=[(2,1)],modes:=[(2,1)],cob:=[2000008] }
def Y6 (F:KF R):=CL Try.f53 Y5 [] [] N F
def Dr (b:Nat) (F:KF R):LA→O R:=(fun v=>F (.nd 300000 (.whole b)) (hq [⟨false,false,true,false,3,v,true,none,0,0⟩]))
def NS (c:LA) (b:Nat) (d e:Bool) (f l:Int) (m:LA):St:=⟨[(0,(.imm c b 1 d e)),(3,(.nd 300000 (.whole b))),(4,(iv f)),(5,(iv l))],(hq [⟨false,false,true,false,3,m,true,none,0,0⟩])⟩
def NT (F:KF R) (Q0:St→O R):=Y6 N F [1,1,0,1,0,0,1,0,0,1,1,0] [Q0]
def Q9 (c:LA) (b:Nat) (d e:Bool) (g:Int) (i:LA):St:=⟨[(0,(.imm c b 1 d e)),(3,(.nd 300000 (.whole b))),(4,(iv g))],(hq [⟨false,false,true,false,3,i,true,none,0,0⟩])⟩
def Y7 (F:KF R):=Y6 N F [1,1,0,1,0] []
theorem Tf (Q0:St→O R) (F:KF R) (c:LA) (b:Nat) (d e:Bool):∀ (n:Nat) (f l:Int) (m:LA),Ap (NT N F Q0) n (NS c b d e f l m)=(F3 N (fun g i=>Q0 (Q9 c b d e g i)) (Dr b F) c b d e n f l m)
 | 0,_,_,_=>by kernel_rfl
 | n+1,f,l,m=>Eq.trans (by kernel_rfl) (Fz (N0 N (fun g i=>Q0 (Q9 c b d e g i)) (Dr b F) c b d e · f l m) (funext fun f=>funext fun l=>funext fun m=>(Tf Q0 F c b d e n f l m)):_)
theorem Tg (F:KF R) (c:LA) (b:Nat) (d e:Bool):∀ (n:Nat) (g:Int) (i:LA),Ap (Y7 N F) n (Q9 c b d e g i)=(Em N (Dr b F) c b d e n g i)
 | 0,_,_=>by kernel_rfl
 | n+1,g,i=>have e0:=(funext fun g=>funext fun i=>(Tg F c b d e n g i))
  Eq.trans (by kernel_rfl) (RN (N1 N (Dr b F) c b d e · · g i) e0 (funext fun f=>funext fun l=>funext fun m=>(An ..).trans ((Tf N (Ap (Y7 N F) n) F c b d e N f l m).trans (Fz (F3 N · (Dr b F) c b d e N f l m) e0))):_)
theorem Y8 (c:LA) (b:Nat) (d e:Bool) (F:KF R):Qr [] Y5 N 53 [(.imm c b 1 d e)] [] F=(F4 N c b d e (Dr b F)):=by
 rw[W6]
 exact Eq.trans (by kernel_rfl) (Fz (Q8 N (Dr b F) · c b d e) (funext fun g=>funext fun i=>(An ..).trans (Tg N F c b d e N g i)):_)
def W7 (a:LA) (h:Ag) (k:KF R):O R :=
 match a,h with
 | [(.imm c b 1 d e)],[]=>(F4 N c b d e (Dr b k))
 | _,_=>none
theorem Y9:By N 53 @W7:=by
 intro R Q a h k j;unfold W7;split;exact Ee (Y8 ..) (Y8 ..) trivial;exact Ef
def Lk:=D3 (Y9 N)
def Ll:=Qs (Y9 N)
def B3 (N:Nat) (k0:Int→Int→LA→O R) (k1:Int→Int→Int→LA→O R) (r0:Int→LA→O R) (c:Nat) (b d:Int) (t p:Int) (u:Bool) (r:LA):O R :=
 (cond u (cond (Af d c) (B8 1 r (d.toNat) fun av ac=>(cond (Af p c) (B8 1 r (p.toNat) fun aw ad=>(cond (Af p ac) (B8 1 r (d.toNat) fun w y=>(cond (Nat.blt ((p.toNat)*1) w.length) (cond (Af d ad) (B8 1 (r.set (d.toNat) (Bd (w.set ((p.toNat)*1) (.bool true)) y 1)) (p.toNat) fun z ae=>(cond (Nat.blt ((d.toNat)*1) z.length) (k1 (wrap .i64 (t+1)) d (wrap .i64 (p+1)) ((r.set (d.toNat) (Bd (w.set ((p.toNat)*1) (.bool true)) y 1)).set (p.toNat) (Bd (z.set ((d.toNat)*1) (.bool true)) ae 1))) none)) none) none)) none)) none)) none) (k1 t d (wrap .i64 (p+1)) r))
def Fm (N:Nat) (k0:Int→Int→LA→O R) (r0:Int→LA→O R) (c:Nat) (b:Int) (k1:Int→Int→Int→LA→O R) (q3:Int→Int→Bool→LA→O R) (o d l:Int) (e:LA):O R :=
 (cond (decide (l<d)) (cond (Af b c) (B8 1 e (b.toNat) fun ax af=>(cond (Af d af) (B8 1 e (b.toNat) fun ag ay=>(ZB (ag.drop ((d.toNat)*1)) fun ah=>(cond (ah==true) (cond (Af b c) (B8 1 e (b.toNat) fun az ai=>(cond (Af l ai) (B8 1 e (b.toNat) fun aj ba=>(ZB (aj.drop ((l.toNat)*1)) fun ak=>(cond ((cond true ak false)==true) (cond (Af d c) (B8 1 e (d.toNat) fun bb al=>(cond (Af l al) (B8 1 e (d.toNat) fun am bc=>(ZB (am.drop ((l.toNat)*1)) fun an=>(q3 o l (cond true (!an) false) e))) none)) none) (q3 o l false e)))) none)) none) (q3 o l false e)))) none)) none) (k0 o (wrap .i64 (d+1)) e))
def A9 (k0:Int→Int→LA→O R) (r0:Int→LA→O R) (c:Nat) (b:Int):Nat→Int→Int→Int→LA→O R
 | 0,_,_,_,_=>none
 | n+1,o,d,l,e=>(Fm N k0 r0 c b (A9 k0 r0 c b n) (fun t p u r=>(B3 N k0 (A9 k0 r0 c b n) r0 c b d t p u r)) o d l e)
def Fn (N:Nat) (r0:Int→LA→O R) (c:Nat) (b:Int) (k2:Int→Int→LA→O R) (s m:Int) (q:LA):O R :=
 (cond (decide (m<((c:Nat):Int))) (cond (Af b c) (B8 1 q (b.toNat) fun bd ao=>(cond (Af m c) (B8 1 q (m.toNat) fun be ap=>(cond (Af m ao) (B8 1 q (b.toNat) fun x aa=>(cond (Nat.blt ((m.toNat)*1) x.length) (cond (Af b ap) (B8 1 (q.set (b.toNat) (Bd (x.set ((m.toNat)*1) (.bool false)) aa 1)) (m.toNat) fun ab aq=>(cond (Nat.blt ((b.toNat)*1) ab.length) (k2 s (wrap .i64 (m+1)) ((q.set (b.toNat) (Bd (x.set ((m.toNat)*1) (.bool false)) aa 1)).set (m.toNat) (Bd (ab.set ((b.toNat)*1) (.bool false)) aq 1))) none)) none) none)) none)) none)) none) (r0 s q))
def Cp (r0:Int→LA→O R) (c:Nat) (b:Int):Nat→Int→Int→LA→O R
 | 0,_,_,_=>none
 | n+1,s,m,q=>(Fn N r0 c b (Cp r0 c b n) s m q)
def Fo (N:Nat) (r0:Int→LA→O R) (c:Nat) (b:Int) (k0:Int→Int→LA→O R) (q1:Int→Int→Int→LA→O R) (q2:Int→Int→LA→O R) (f g:Int) (i:LA):O R :=
 (cond (decide (g<((c:Nat):Int))) (q1 f g 0 i) (q2 f 0 i))
def Ba (r0:Int→LA→O R) (c:Nat) (b:Int):Nat→Int→Int→LA→O R
 | 0,_,_,_=>none
 | n+1,f,g,i=>(Fo N r0 c b (Ba r0 c b n) (fun o d l e=>(A9 N (Ba r0 c b n) r0 c b N o d l e)) (fun s m q=>(Cp N r0 c b N s m q)) f g i)
def Fa (N:Nat) (r0:Int→LA→O R) (q0:Int→Int→LA→O R) (c:Nat) (b:Int) (v:LA):O R :=
 (q0 0 0 v)
def Bk:=(A0 (fun (N c:Nat) (b:Int) (v:LA) (r0:Int→LA→O R)=>(Fa N r0 (fun f g i=>(Ba N r0 c b N f g i)) c b v))).1
theorem J3 (c b v r0):(@Bk R N c b v r0)=(Fa N r0 (fun f g i=>(Ba N r0 c b N f g i)) c b v):=by rw[Bk,(A0 _).2]
def Ko:Hints:={ H:=(hS hL (hS hL (hS (hS hL (hS (hP [0,1,5,6] (hS hL (hS (hS (hS hL (hS (hP [0,1,5,6,7] (hS hL (hS (hS (hJ [0,1,5,6,7,45] hL hL) hL) hL))) hL)) hL) hL))) hL)) (hS (hS hL (hS (hP [0,1,5,8] hL) hL)) hL)))) }
def Dv (F:KF R):=CL Try.f54 Ko [] [100000] N F
def Aq (F:KF R):Int→LA→O R:=(fun ar au=>F (iv ar) [(100000,⟨false,false,true,false,3,au,true,none,0,0⟩)])
def V6 (c:Nat) (b d t p:Int) (u:Bool) (r:LA):St:=⟨[(0,(.nd 100000 (.whole c))),(1,(iv b)),(5,(iv t)),(6,(iv d)),(7,(iv p)),(45,(.bool u))],[(100000,⟨false,false,true,false,3,r,true,none,0,0⟩)]⟩
def V7 (F:KF R) (Q0 Q1:St→O R):=Dv N F [1,1,0,1,0,0,1,0,0,1,0,0,1,0,0,1] [Q0,Q1]
def Kp (c:Nat) (b o d l:Int) (e:LA):St:=⟨[(0,(.nd 100000 (.whole c))),(1,(iv b)),(5,(iv o)),(6,(iv d)),(7,(iv l))],[(100000,⟨false,false,true,false,3,e,true,none,0,0⟩)]⟩
def Kq (F:KF R) (Q0:St→O R):=Dv N F [1,1,0,1,0,0,1,0,0,1,0] [Q0]
def V8 (c:Nat) (b s m:Int) (q:LA):St:=⟨[(0,(.nd 100000 (.whole c))),(1,(iv b)),(5,(iv s)),(8,(iv m))],[(100000,⟨false,false,true,false,3,q,true,none,0,0⟩)]⟩
def V9 (F:KF R):=Dv N F [1,1,1,0,1,0] []
def Cq (c:Nat) (b f g:Int) (i:LA):St:=⟨[(0,(.nd 100000 (.whole c))),(1,(iv b)),(5,(iv f)),(6,(iv g))],[(100000,⟨false,false,true,false,3,i,true,none,0,0⟩)]⟩
def Kr (F:KF R):=Dv N F [1,1,0,1,0] []
theorem Ra (Q0 Q1:St→O R) (F:KF R) (c:Nat) (b d:Int):∀ (t p:Int) (u:Bool) (r:LA),HK (V7 N F Q0 Q1) (V6 c b d t p u r)=(B3 N (fun f g i=>Q0 (Cq c b f g i)) (fun o d l e=>Q1 (Kp c b o d l e)) (Aq F) c b d t p u r):=by
 intro t p u r
 kernel_rfl
theorem Hx (Q0:St→O R) (F:KF R) (c:Nat) (b:Int):∀ (n:Nat) (o d l:Int) (e:LA),Ap (Kq N F Q0) n (Kp c b o d l e)=(A9 N (fun f g i=>Q0 (Cq c b f g i)) (Aq F) c b n o d l e)
 | 0,_,_,_,_=>by kernel_rfl
 | n+1,o,d,l,e=>have e0:=(funext fun o=>funext fun d=>funext fun l=>funext fun e=>(Hx Q0 F c b n o d l e))
  Eq.trans (by kernel_rfl) (RN (Fm N (fun f g i=>Q0 (Cq c b f g i)) (Aq F) c b · · o d l e) e0 (funext fun t=>funext fun p=>funext fun u=>funext fun r=>(Vx ..).trans ((Ra N Q0 (Ap (Kq N F Q0) n) F c b d t p u r).trans (Fz (B3 N (fun f g i=>Q0 (Cq c b f g i)) · (Aq F) c b d t p u r) e0))):_)
theorem Hy (F:KF R) (c:Nat) (b:Int):∀ (n:Nat) (s m:Int) (q:LA),Ap (V9 N F) n (V8 c b s m q)=(Cp N (Aq F) c b n s m q)
 | 0,_,_,_=>by kernel_rfl
 | n+1,s,m,q=>Eq.trans (by kernel_rfl) (Fz (Fn N (Aq F) c b · s m q) (funext fun s=>funext fun m=>funext fun q=>(Hy F c b n s m q)):_)
theorem Hz (F:KF R) (c:Nat) (b:Int):∀ (n:Nat) (f g:Int) (i:LA),Ap (Kr N F) n (Cq c b f g i)=(Ba N (Aq F) c b n f g i)
 | 0,_,_,_=>by kernel_rfl
 | n+1,f,g,i=>have e0:=(funext fun f=>funext fun g=>funext fun i=>(Hz F c b n f g i))
  Eq.trans (by kernel_rfl) (bj (Fo N (Aq F) c b · · · f g i) e0 (funext fun o=>funext fun d=>funext fun l=>funext fun e=>(An ..).trans ((Hx N (Ap (Kr N F) n) F c b N o d l e).trans (Fz (A9 N · (Aq F) c b N o d l e) e0))) (funext fun s=>funext fun m=>funext fun q=>(An ..).trans (Hy N F c b N s m q)):_)
theorem Ks (c:Nat) (b:Int) (v:LA) (F:KF R):Qr [] Ko N 54 [(.nd 100000 (.whole c)),(iv b)] [(100000,⟨false,false,true,false,3,v,true,none,0,0⟩)] F=(Bk N c b v (Aq F)):=by
 rw[J3]
 exact Eq.trans (by kernel_rfl) (Fz (Fa N (Aq F) · c b v) (funext fun f=>funext fun g=>funext fun i=>(An ..).trans (Hz N F c b N f g i)):_)
def J4 (a:LA) (h:Ag) (k:KF R):O R :=
 match a,h with
 | [(.nd 100000 (.whole c)),(.int .i64 b)],[(100000,⟨false,false,true,false,3,v,true,none,0,0⟩)]=>(Bk N c b v (Aq k))
 | _,_=>none
theorem Kt:By N 54 @J4:=by
 intro R Q a h k j;unfold J4;split;exact Ee (Ks ..) (Ks ..) trivial;exact Ef
def Dw:=D3 (Kt N)
def Dx:=Qs (Kt N)
def Ga (N:Nat) (k0:Int→LA→O R) (r0:LA→O R) (b:Nat) (c:LA) (k1:Int→Int→LA→O R) (d g:Int) (i:LA):O R :=
 (cond (decide (g<((b:Nat):Int))) (cond (Af d b) (B8 1 c (d.toNat) fun s m=>(cond (Af g m) (B8 1 c (d.toNat) fun o t=>(ZB (o.drop ((g.toNat)*1)) fun p=>(cond p (cond (Af d b) (B8 1 i (d.toNat) fun u l=>(B8 1 i (d.toNat) fun q v=>(cond ((Nat.ble (l+1) 140737488355328)&&(Nat.ble ((l+1)*8) 140737488355328)) (cond (Af d b) (cond (Nat.ble 1 (l+1)) (k1 d (wrap .i64 (g+1)) ((i.set (d.toNat) .undef).set (d.toNat) (Bd (List.take ((l+1)*1) ((q.take (l*1))++[(.int .i64 g)])) (l+1) 1))) none) none) none))) none) (k1 d (wrap .i64 (g+1)) i)))) none)) none) (k0 (wrap .i64 (d+1)) i))
def Ce (k0:Int→LA→O R) (r0:LA→O R) (b:Nat) (c:LA):Nat→Int→Int→LA→O R
 | 0,_,_,_=>none
 | n+1,d,g,i=>(Ga N k0 r0 b c (Ce k0 r0 b c n) d g i)
def Gb (N:Nat) (r0:LA→O R) (b:Nat) (c:LA) (k0:Int→LA→O R) (q1:Int→Int→LA→O R) (f:Int) (e:LA):O R :=
 (cond (decide (f<((b:Nat):Int))) (q1 f 0 e) (cond ((List.all e FU)&&true) (r0 e) none))
def Bo (r0:LA→O R) (b:Nat) (c:LA):Nat→Int→LA→O R
 | 0,_,_=>none
 | n+1,f,e=>(Gb N r0 b c (Bo r0 b c n) (fun d g i=>(Ce N (Bo r0 b c n) r0 b c N d g i)) f e)
def F5 (N:Nat) (r0:LA→O R) (q0:Int→LA→O R) (b:Nat) (c:LA):O R :=
 (cond ((decide (0≤((b:Nat):Int)))&&((decide (((b:Nat):Int)=((b:Nat):Int)))&&((decide (((b:Nat):Int)≤140737488355328))&&(decide ((((b:Nat):Int)*((24:Nat):Int))≤140737488355328))))) (q0 0 (List.replicate b .nsl)) none)
def Dl:=(A0 (fun (N b:Nat) (c:LA) (r0:LA→O R)=>(F5 N r0 (fun f e=>(Bo N r0 b c N f e)) b c))).1
theorem Ku (b c r0):(@Dl R N b c r0)=(F5 N r0 (fun f e=>(Bo N r0 b c N f e)) b c):=by rw[Dl,(A0 _).2]
def Mj:Hints:={ H:=(hS hL (hS hL (hS (hS hL (hS (hP [0,3,4] (hS hL (hS (hS (hS hL (hS (hP [0,3,4,5] hL) hL)) hL) hL))) hL)) hL))),nils:=[(2,1)],modes:=[(1,1)],cob:=[2000008] }
def Mk (F:KF R):=CL Try.f49 Mj [] [100000] N F
def Be (b:Nat) (c:LA) (F:KF R):LA→O R:=(fun r=>F (.imm r b 1 false false) [(100000,⟨false,false,true,false,3,c,true,none,0,0⟩)])
def Xp (b:Nat) (c:LA) (d g:Int) (i:LA):St:=⟨[(0,(.nd 100000 (.whole b))),(3,(.nd 300000 (.whole b))),(4,(iv d)),(5,(iv g))],[(100000,⟨false,false,true,false,3,c,true,none,0,0⟩),(300000,⟨false,false,true,false,3,i,true,none,0,0⟩)]⟩
def Xq (F:KF R) (Q0:St→O R):=Mk N F [1,1,0,1,0,0,1,0,0,1,0] [Q0]
def Gw (b:Nat) (c:LA) (f:Int) (e:LA):St:=⟨[(0,(.nd 100000 (.whole b))),(3,(.nd 300000 (.whole b))),(4,(iv f))],[(100000,⟨false,false,true,false,3,c,true,none,0,0⟩),(300000,⟨false,false,true,false,3,e,true,none,0,0⟩)]⟩
def Ml (F:KF R):=Mk N F [1,1,0,1,0] []
theorem Ig (Q0:St→O R) (F:KF R) (b:Nat) (c:LA):∀ (n:Nat) (d g:Int) (i:LA),Ap (Xq N F Q0) n (Xp b c d g i)=(Ce N (fun f e=>Q0 (Gw b c f e)) (Be b c F) b c n d g i)
 | 0,_,_,_=>by kernel_rfl
 | n+1,d,g,i=>Eq.trans (by kernel_rfl) (Fz (Ga N (fun f e=>Q0 (Gw b c f e)) (Be b c F) b c · d g i) (funext fun d=>funext fun g=>funext fun i=>(Ig Q0 F b c n d g i)):_)
theorem Ih (F:KF R) (b:Nat) (c:LA):∀ (n:Nat) (f:Int) (e:LA),Ap (Ml N F) n (Gw b c f e)=(Bo N (Be b c F) b c n f e)
 | 0,_,_=>by kernel_rfl
 | n+1,f,e=>have e0:=(funext fun f=>funext fun e=>(Ih F b c n f e))
  Eq.trans (by kernel_rfl) (RN (Gb N (Be b c F) b c · · f e) e0 (funext fun d=>funext fun g=>funext fun i=>(An ..).trans ((Ig N (Ap (Ml N F) n) F b c N d g i).trans (Fz (Ce N · (Be b c F) b c N d g i) e0))):_)
theorem Mm (b:Nat) (c:LA) (F:KF R):Qr [] Mj N 49 [(.nd 100000 (.whole b))] [(100000,⟨false,false,true,false,3,c,true,none,0,0⟩)] F=(Dl N b c (Be b c F)):=by
 rw[Ku]
 exact Eq.trans (by kernel_rfl) (Fz (F5 N (Be b c F) · b c) (funext fun f=>funext fun e=>(An ..).trans (Ih N F b c N f e)):_)
def Kv (a:LA) (h:Ag) (k:KF R):O R :=
 match a,h with
 | [(.nd 100000 (.whole b))],[(100000,⟨false,false,true,false,3,c,true,none,0,0⟩)]=>(Dl N b c (Be b c k))
 | _,_=>none
theorem Mn:By N 49 @Kv:=by
 intro R Q a h k j;unfold Kv;split;exact Ee (Mm ..) (Mm ..) trivial;exact Ef
def Xr:=D3 (Mn N)
def Xs:=Qs (Mn N)
end
end Gx

namespace Gx
open Go Go.Proofs
open IntKind (wrap)
set_option maxRecDepth 100000
noncomputable section
variable {R:Type} (N:Nat)
def Mo (d:LA) (b:Nat) (f e:Bool) (c:Int) (r0:LA→Nat→Int→O R):O R :=
 (E3 N d b false e (fun g=>(cond (!g) (r0 [] 0 1) (cond ((decide (c<0))==false) (cond (cond false true (decide (c≥((b:Nat):Int)))) (r0 [] 0 3) (F4 N d b false e (fun i=>(Bk N b c i (fun q l=>(Dl N b l (fun m=>(r0 m b 0)))))))) (r0 [] 0 3)))))
def Gi:=(A0 (@Mo R)).1
theorem Nh:@Gi R=@Mo R:=(A0 _).2
def AZ:Hints:={ H:=hL,nils:=[(4,1)],modes:=[(1,1),(0,0)] }
def ET:JN:=[(39,Hv N),(53,Lk N),(54,Dw N),(49,Xr N)]
def Pi (F:KF R):LA→Nat→Int→O R:=(fun n o p=>F (.tup [(.imm n o 1 false false),(iv p)]) [])
theorem Pj (d:LA) (b:Nat) (f e:Bool) (c:Int) (F:KF R):Qr (ET N) AZ N 35 [(.imm d b 1 f e),(iv c)] [] F=(Gi N d b f e c (Pi F)):=by
 rw[Nh]
 kernel_rfl
def Ni (a:LA) (h:Ag) (k:KF R):O R :=
 match a,h with
 | [(.imm d b 1 f e),(.int .i64 c)],[]=>(Gi N d b f e c (Pi k))
 | _,_=>none
theorem Pk:By N 35 @Ni:=by
 intro R Q a h k j;unfold Ni;split;exact Ee (Pj ..) (Pj ..) ⟨Hw N,Ll N,Dx N,Xs N,trivial⟩;exact Ef
def A_:=D3 (Pk N)
def BA:=Qs (Pk N)
def Fp (N:Nat) (r0:Int→O R) (d:Nat) (c:Int) (b:LA) (k0:Int→Int→O R) (f e:Int):O R :=
 (cond (decide (e<((d:Nat):Int))) (cond (Af c d) (B8 1 b (c.toNat) fun o g=>(cond (Af e g) (B8 1 b (c.toNat) fun i p=>(ZB (i.drop ((e.toNat)*1)) fun l=>(cond l (k0 (wrap .i64 (f+1)) (wrap .i64 (e+1))) (k0 f (wrap .i64 (e+1)))))) none)) none) (r0 f))
def B4 (r0:Int→O R) (d:Nat) (c:Int) (b:LA):Nat→Int→Int→O R
 | 0,_,_=>none
 | n+1,f,e=>(Fp N r0 d c b (B4 r0 d c b n) f e)
def Fb (N:Nat) (r0:Int→O R) (q0:Int→Int→O R) (d:Nat) (c:Int) (b:LA):O R :=
 (q0 0 0)
def Cf:=(A0 (fun (N d:Nat) (c:Int) (b:LA) (r0:Int→O R)=>(Fb N r0 (fun f e=>(B4 N r0 d c b N f e)) d c b))).1
theorem J5 (d c b r0):(@Cf R N d c b r0)=(Fb N r0 (fun f e=>(B4 N r0 d c b N f e)) d c b):=by rw[Cf,(A0 _).2]
def Kw:Hints:={ H:=(hS hL (hS hL (hS (hS hL (hS (hP [0,1,5,6] hL) hL)) hL))) }
def Wa (F:KF R):=CL Try.f56 Kw [] [100000] N F
def Cr (b:LA) (F:KF R):Int→O R:=(fun m=>F (iv m) [(100000,⟨false,false,true,false,3,b,true,none,0,0⟩)])
def Wb (d:Nat) (c:Int) (b:LA) (f e:Int):St:=⟨[(0,(.nd 100000 (.whole d))),(1,(iv c)),(5,(iv f)),(6,(iv e))],[(100000,⟨false,false,true,false,3,b,true,none,0,0⟩)]⟩
def Wc (F:KF R):=Wa N F [1,1,0,1,0] []
theorem H0 (F:KF R) (d:Nat) (c:Int) (b:LA):∀ (n:Nat) (f e:Int),Ap (Wc N F) n (Wb d c b f e)=(B4 N (Cr b F) d c b n f e)
 | 0,_,_=>by kernel_rfl
 | n+1,f,e=>Eq.trans (by kernel_rfl) (Fz (Fp N (Cr b F) d c b · f e) (funext fun f=>funext fun e=>(H0 F d c b n f e)):_)
theorem Kx (d:Nat) (c:Int) (b:LA) (F:KF R):Qr [] Kw N 56 [(.nd 100000 (.whole d)),(iv c)] [(100000,⟨false,false,true,false,3,b,true,none,0,0⟩)] F=(Cf N d c b (Cr b F)):=by
 rw[J5]
 exact Eq.trans (by kernel_rfl) (Fz (Fb N (Cr b F) · d c b) (funext fun f=>funext fun e=>(An ..).trans (H0 N F d c b N f e)):_)
def J6 (a:LA) (h:Ag) (k:KF R):O R :=
 match a,h with
 | [(.nd 100000 (.whole d)),(.int .i64 c)],[(100000,⟨false,false,true,false,3,b,true,none,0,0⟩)]=>(Cf N d c b (Cr b k))
 | _,_=>none
theorem Ky:By N 56 @J6:=by
 intro R Q a h k j;unfold J6;split;exact Ee (Kx ..) (Kx ..) trivial;exact Ef
def Wd:=D3 (Ky N)
def We:=Qs (Ky N)
def H1 (k0:Nat→LA→LA→O R) (r0:Nat→Int→LA→O R) (c:LA) (b:Nat) (e d:Bool) (k1:Nat→Int→Int→LA→LA→O R) (f:Nat) (o g:Int) (l p:LA):O R :=
 (cond (decide (g<((b:Nat):Int))) (Ng N (p.take (f*1)) f false true g (fun r=>(cond ((!r)==true) (cond ((decide (o<0))==false) (Cf N b g l (fun s=>(Cf N b o l (fun t=>(cond (cond true (cond false true (decide (s<t))) false) (k1 f g (wrap .i64 (g+1)) l p) (k1 f o (wrap .i64 (g+1)) l p)))))) (k1 f g (wrap .i64 (g+1)) l p)) (k1 f o (wrap .i64 (g+1)) l p)))) (cond ((Nat.ble (f+1) 140737488355328)&&(Nat.ble ((f+1)*8) 140737488355328)) (Bk N b o l (fun aa u=>(k0 (f+1) u ((p.take (f*1))++[(.int .i64 o)])))) none))
def C2 (k0:Nat→LA→LA→O R) (r0:Nat→Int→LA→O R) (c:LA) (b:Nat) (e d:Bool):Nat→Nat→Int→Int→LA→LA→O R
 | 0,_,_,_,_,_=>none
 | n+1,f,o,g,l,p=>(H1 N k0 r0 c b e d (C2 k0 r0 c b e d n) f o g l p)
def H2 (N:Nat) (r0:Nat→Int→LA→O R) (c:LA) (b:Nat) (e d:Bool) (k0:Nat→LA→LA→O R) (q1:Nat→Int→Int→LA→LA→O R) (i:Nat) (q m:LA):O R :=
 (cond (decide (((i:Nat):Int)<((b:Nat):Int))) (q1 i (-1) 0 q m) (r0 i 0 m))
def Bu (r0:Nat→Int→LA→O R) (c:LA) (b:Nat) (e d:Bool):Nat→Nat→LA→LA→O R
 | 0,_,_,_=>none
 | n+1,i,q,m=>(H2 N r0 c b e d (Bu r0 c b e d n) (fun f o g l p=>(C2 N (Bu r0 c b e d n) r0 c b e d N f o g l p)) i q m)
def H3 (r0:Nat→Int→LA→O R) (q0:Nat→LA→LA→O R) (c:LA) (b:Nat) (e d:Bool):O R :=
 (E3 N c b false d (fun v=>(cond (!v) (r0 0 1 []) (F4 N c b false d (fun w=>(q0 0 w []))))))
def E4:=(A0 (fun (N:Nat) (c:LA) (b:Nat) (e d:Bool) (r0:Nat→Int→LA→O R)=>(H3 N r0 (fun i q m=>(Bu N r0 c b e d N i q m)) c b e d))).1
theorem Nj (c b e d r0):(@E4 R N c b e d r0)=(H3 N r0 (fun i q m=>(Bu N r0 c b e d N i q m)) c b e d):=by rw[E4,(A0 _).2]
def Pl:Hints:={ H:=(hS hL (hS hL (hS hL (hS hL (hS (hS (hP [0,4,5] (hS hL (hS (hS hL (hS (hS hL (hS (hP [0,4,5,6,7] hL) hL)) hL)) hL))) hL) hL))))),nils:=[(2,1),(5,1)],modes:=[(2,1),(0,0)] }
def Th:JN:=[(39,Hv N),(53,Lk N),(55,IS N),(56,Wd N),(54,Dw N)]
def Pm (F:KF R):=CL Try.f36 Pl (Th N) [] N F
def Bv (F:KF R):Nat→Int→LA→O R:=(fun x y z=>F (.tup [(.own 300000 0 x),(iv y)]) (hq [(bQ 1 z)]))
def BB (c:LA) (b:Nat) (e d:Bool) (f:Nat) (o g:Int) (l p:LA):St:=⟨[(0,(.imm c b 1 e d)),(4,(.nd 300000 (.whole b))),(5,(.own 300001 0 f)),(6,(iv o)),(7,(iv g))],(hq [⟨false,false,true,false,3,l,true,none,0,0⟩,(bQ 1 p)])⟩
def BC (F:KF R) (Q0:St→O R):=Pm N F [1,1,1,1,0,0,0,1,0,1,0,1,0] [Q0]
def I8 (c:LA) (b:Nat) (e d:Bool) (i:Nat) (q m:LA):St:=⟨[(0,(.imm c b 1 e d)),(4,(.nd 300000 (.whole b))),(5,(.own 300001 0 i))],(hq [⟨false,false,true,false,3,q,true,none,0,0⟩,(bQ 1 m)])⟩
def Pn (F:KF R):=Pm N F [1,1,1,1,0,0] []
theorem Kz (Q0:St→O R) (F:KF R) (c:LA) (b:Nat) (e d:Bool):∀ (n f:Nat) (o g:Int) (l p:LA),Ap (BC N F Q0) n (BB c b e d f o g l p)=(C2 N (fun i q m=>Q0 (I8 c b e d i q m)) (Bv F) c b e d n f o g l p)
 | 0,_,_,_,_,_=>by kernel_rfl
 | n+1,f,o,g,l,p=>Eq.trans (by kernel_rfl) (Fz (H1 N (fun i q m=>Q0 (I8 c b e d i q m)) (Bv F) c b e d · f o g l p) (funext fun f=>funext fun o=>funext fun g=>funext fun l=>funext fun p=>(Kz Q0 F c b e d n f o g l p)):_)
theorem K0 (F:KF R) (c:LA) (b:Nat) (e d:Bool):∀ (n i:Nat) (q m:LA),Ap (Pn N F) n (I8 c b e d i q m)=(Bu N (Bv F) c b e d n i q m)
 | 0,_,_,_=>by kernel_rfl
 | n+1,i,q,m=>have e0:=(funext fun i=>funext fun q=>funext fun m=>(K0 F c b e d n i q m))
  Eq.trans (by kernel_rfl) (RN (H2 N (Bv F) c b e d · · i q m) e0 (funext fun f=>funext fun o=>funext fun g=>funext fun l=>funext fun p=>(An ..).trans ((Kz N (Ap (Pn N F) n) F c b e d N f o g l p).trans (Fz (C2 N · (Bv F) c b e d N f o g l p) e0))):_)
theorem Po (c:LA) (b:Nat) (e d:Bool) (F:KF R):Qr (Th N) Pl N 36 [(.imm c b 1 e d)] [] F=(E4 N c b e d (Bv F)):=by
 rw[Nj]
 exact Eq.trans (by kernel_rfl) (Fz (H3 N (Bv F) · c b e d) (funext fun i=>funext fun q=>funext fun m=>(An ..).trans (K0 N F c b e d N i q m)):_)
def Nk (a:LA) (h:Ag) (k:KF R):O R :=
 match a,h with
 | [(.imm c b 1 e d)],[]=>(E4 N c b e d (Bv k))
 | _,_=>none
theorem Pp:By N 36 @Nk:=by
 intro R Q a h k j;unfold Nk;split;exact Ee (Po ..) (Po ..) ⟨Hw N,Ll N,IT N,We N,Dx N,trivial⟩;exact Ef
def BD:=D3 (Pp N)
def BE:=Qs (Pp N)
def Gc (N:Nat) (k0:Int→O R) (r0:Bool→O R) (c:LA) (b:Nat) (d e:Bool) (k2:Int→Int→O R) (g i:Int):O R :=
 (cond (decide (i<g)) (cond (Af i b) (L6 .i64 (c.drop ((i.toNat)*1)) fun m=>(cond (Af g b) (L6 .i64 (c.drop ((g.toNat)*1)) fun o=>(cond (m==o) (r0 false) (k2 g (wrap .i64 (i+1))))) none)) none) (k0 (wrap .i64 (g+1))))
def C8 (k0:Int→O R) (r0:Bool→O R) (c:LA) (b:Nat) (d e:Bool):Nat→Int→Int→O R
 | 0,_,_=>none
 | n+1,g,i=>(Gc N k0 r0 c b d e (C8 k0 r0 c b d e n) g i)
def Gd (N:Nat) (k0:Int→O R) (r0:Bool→O R) (c:LA) (b:Nat) (d e:Bool) (q2:Int→Int→O R) (l:Int):O R :=
 (q2 l 0)
def En (k0:Int→O R) (r0:Bool→O R) (c:LA) (b:Nat) (d e:Bool) (l:Int):O R:=(Gd N k0 r0 c b d e (fun g i=>(C8 N k0 r0 c b d e N g i)) l)
def Ge (N:Nat) (r0:Bool→O R) (c:LA) (b:Nat) (d e:Bool) (k0:Int→O R) (q1:Int→O R) (f:Int):O R :=
 (cond (decide (f<((b:Nat):Int))) (cond (Af f b) (L6 .i64 (c.drop ((f.toNat)*1)) fun p=>(cond ((decide (p<0))==false) (cond (Af f b) (L6 .i64 (c.drop ((f.toNat)*1)) fun q=>(cond (cond false true (decide (q≥((b:Nat):Int)))) (r0 false) (q1 f))) none) (r0 false))) none) (r0 true))
def Bf (r0:Bool→O R) (c:LA) (b:Nat) (d e:Bool):Nat→Int→O R
 | 0,_=>none
 | n+1,f=>(Ge N r0 c b d e (Bf r0 c b d e n) (fun l=>(En N (Bf r0 c b d e n) r0 c b d e l)) f)
def F6 (N:Nat) (r0:Bool→O R) (q0:Int→O R) (c:LA) (b:Nat) (d e:Bool):O R :=
 (q0 0)
def Ew:=(A0 (fun (N:Nat) (c:LA) (b:Nat) (d e:Bool) (r0:Bool→O R)=>(F6 N r0 (fun f=>(Bf N r0 c b d e N f)) c b d e))).1
theorem K1 (c b d e r0):(@Ew R N c b d e r0)=(F6 N r0 (fun f=>(Bf N r0 c b d e N f)) c b d e):=by rw[Ew,(A0 _).2]
def Mp:Hints:={ H:=(hS hL (hS (hS hL (hS (hP [0,3] (hS hL (hS (hS (hJ [0,3] hL (hS hL (hS (hP [0,3,4] hL) hL))) hL) hL))) hL)) hL)) }
def Gy (F:KF R):=CL Try.f69 Mp [] [] N F
def Ay (F:KF R):Bool→O R:=(fun r=>F (.bool r) [])
def Xt (c:LA) (b:Nat) (d e:Bool) (g i:Int):St:=⟨[(0,(.imm c b 1 d e)),(3,(iv g)),(4,(iv i))],[]⟩
def Xu (F:KF R) (Q0:St→O R):=Gy N F [1,0,1,0,0,1,0,0,1,1,0] [Q0]
def Xv (c:LA) (b:Nat) (d e:Bool) (l:Int):St:=⟨[(0,(.imm c b 1 d e)),(3,(iv l))],[]⟩
def Xw (F:KF R) (Q0:St→O R):=Gy N F [1,0,1,0,0,1,0,0,1] [Q0]
def C9 (c:LA) (b:Nat) (d e:Bool) (f:Int):St:=⟨[(0,(.imm c b 1 d e)),(3,(iv f))],[]⟩
def Mq (F:KF R):=Gy N F [1,0,1,0] []
theorem Ii (Q0:St→O R) (F:KF R) (c:LA) (b:Nat) (d e:Bool):∀ (n:Nat) (g i:Int),Ap (Xu N F Q0) n (Xt c b d e g i)=(C8 N (fun f=>Q0 (C9 c b d e f)) (Ay F) c b d e n g i)
 | 0,_,_=>by kernel_rfl
 | n+1,g,i=>Eq.trans (by kernel_rfl) (Fz (Gc N (fun f=>Q0 (C9 c b d e f)) (Ay F) c b d e · g i) (funext fun g=>funext fun i=>(Ii Q0 F c b d e n g i)):_)
theorem Tq (Q0:St→O R) (F:KF R) (c:LA) (b:Nat) (d e:Bool):∀ (l:Int),HK (Xw N F Q0) (Xv c b d e l)=(En N (fun f=>Q0 (C9 c b d e f)) (Ay F) c b d e l):=by
 intro l
 exact Eq.trans (by kernel_rfl) (Fz (Gd N (fun f=>Q0 (C9 c b d e f)) (Ay F) c b d e · l) (funext fun g=>funext fun i=>(An ..).trans (Ii N Q0 F c b d e N g i)):_)
theorem Ij (F:KF R) (c:LA) (b:Nat) (d e:Bool):∀ (n:Nat) (f:Int),Ap (Mq N F) n (C9 c b d e f)=(Bf N (Ay F) c b d e n f)
 | 0,_=>by kernel_rfl
 | n+1,f=>have e0:=(funext fun f=>(Ij F c b d e n f))
  Eq.trans (by kernel_rfl) (RN (Ge N (Ay F) c b d e · · f) e0 (funext fun l=>(Vx ..).trans ((Tq N (Ap (Mq N F) n) F c b d e l).trans (Fz (En N · (Ay F) c b d e l) e0))):_)
theorem Mr (c:LA) (b:Nat) (d e:Bool) (F:KF R):Qr [] Mp N 69 [(.imm c b 1 d e)] [] F=(Ew N c b d e (Ay F)):=by
 rw[K1]
 exact Eq.trans (by kernel_rfl) (Fz (F6 N (Ay F) · c b d e) (funext fun f=>(An ..).trans (Ij N F c b d e N f)):_)
def K2 (a:LA) (h:Ag) (k:KF R):O R :=
 match a,h with
 | [(.imm c b 1 d e)],[]=>(Ew N c b d e (Ay k))
 | _,_=>none
theorem Ms:By N 69 @K2:=by
 intro R Q a h k j;unfold K2;split;exact Ee (Mr ..) (Mr ..) trivial;exact Ef
def Xx:=D3 (Ms N)
def Xy:=Qs (Ms N)
def Xz (c:LA) (b:Nat) (f d:Bool) (e:Int) (r0:Bool→O R):O R :=
 (cond ((((b:Nat):Int)==e)==true) (Ew N c b false d (fun g=>(r0 (cond true g false)))) (r0 false))
def Ls:=(A0 (@Xz R)).1
theorem W8:@Ls R=@Xz R:=(A0 _).2
def QD:JN:=[(69,Xx N)]
def Za (F:KF R):Bool→O R:=(fun i=>F (.bool i) [])
theorem Zb (c:LA) (b:Nat) (f d:Bool) (e:Int) (F:KF R):Qr (QD N) Ws N 57 [(.imm c b 1 f d),(iv e)] [] F=(Ls N c b f d e (Za F)):=by
 rw[W8]
 kernel_rfl
def W9 (a:LA) (h:Ag) (k:KF R):O R :=
 match a,h with
 | [(.imm c b 1 f d),(.int .i64 e)],[]=>(Ls N c b f d e (Za k))
 | _,_=>none
theorem Zc:By N 57 @W9:=by
 intro R Q a h k j;unfold W9;split;exact Ee (Zb ..) (Zb ..) ⟨Xy N,trivial⟩;exact Ef
def Zd:=D3 (Zc N)
def Ze:=Qs (Zc N)
def Rb (r0:Int→Int→O R) (d:LA) (c:Nat) (f e:Bool) (b:Nat) (k0:Int→Int→LA→O R) (i g:Int) (l:LA):O R :=
 (cond (decide (g<((c:Nat):Int))) (cond (Af g c) (L6 .i64 (d.drop ((g.toNat)*1)) fun q=>(Bk N b q l (fun r s=>(k0 (wrap .i64 (i+r)) (wrap .i64 (g+1)) s)))) none) (r0 i 0))
def G9 (r0:Int→Int→O R) (d:LA) (c:Nat) (f e:Bool) (b:Nat):Nat→Int→Int→LA→O R
 | 0,_,_,_=>none
 | n+1,i,g,l=>(Rb N r0 d c f e b (G9 r0 d c f e b n) i g l)
def Vz (r0:Int→Int→O R) (q0:Int→Int→LA→O R) (m:LA) (b:Nat) (p o:Bool) (d:LA) (c:Nat) (f e:Bool):O R :=
 (E3 N m b false o (fun t=>(cond (!t) (r0 0 1) (Ls N d c false e ((b:Nat):Int) (fun u=>(cond (!u) (r0 0 11) (F4 N m b false o (fun v=>(q0 0 0 v)))))))))
def Pq:=(A0 (fun (N:Nat) (m:LA) (b:Nat) (p o:Bool) (d:LA) (c:Nat) (f e:Bool) (r0:Int→Int→O R)=>(Vz N r0 (fun i g l=>(G9 N r0 d c f e b N i g l)) m b p o d c f e))).1
theorem Zf (m b p o d c f e r0):(@Pq R N m b p o d c f e r0)=(Vz N r0 (fun i g l=>(G9 N r0 d c f e b N i g l)) m b p o d c f e):=by rw[Pq,(A0 _).2]
def C_:Hints:={ H:=(hS hL (hS hL (hS hL (hS hL (hS hL (hS (hS hL (hS (hP [1,6,7,8] hL) hL)) hL)))))) }
def IU:JN:=[(39,Hv N),(57,Zd N),(53,Lk N),(54,Dw N)]
def QE (F:KF R):=CL Try.f37 C_ (IU N) [] N F
def J7 (F:KF R):Int→Int→O R:=(fun w x=>F (.tup [(iv w),(iv x)]) [])
def QF (d:LA) (c:Nat) (f e:Bool) (b:Nat) (i g:Int) (l:LA):St:=⟨[(1,(.imm d c 1 f e)),(6,(.nd 300000 (.whole b))),(7,(iv i)),(8,(iv g))],(hq [⟨false,false,true,false,3,l,true,none,0,0⟩])⟩
def QG (F:KF R):=QE N F [1,1,1,1,1,0,1,0] []
theorem U7 (F:KF R) (d:LA) (c:Nat) (f e:Bool) (b:Nat):∀ (n:Nat) (i g:Int) (l:LA),Ap (QG N F) n (QF d c f e b i g l)=(G9 N (J7 F) d c f e b n i g l)
 | 0,_,_,_=>by kernel_rfl
 | n+1,i,g,l=>Eq.trans (by kernel_rfl) (Fz (Rb N (J7 F) d c f e b · i g l) (funext fun i=>funext fun g=>funext fun l=>(U7 F d c f e b n i g l)):_)
theorem C' (m:LA) (b:Nat) (p o:Bool) (d:LA) (c:Nat) (f e:Bool) (F:KF R):Qr (IU N) C_ N 37 [(.imm m b 1 p o),(.imm d c 1 f e)] [] F=(Pq N m b p o d c f e (J7 F)):=by
 rw[Zf]
 exact Eq.trans (by kernel_rfl) (Fz (Vz N (J7 F) · m b p o d c f e) (funext fun i=>funext fun g=>funext fun l=>(An ..).trans (U7 N F d c f e b N i g l)):_)
def Zg (a:LA) (h:Ag) (k:KF R):O R :=
 match a,h with
 | [(.imm m b 1 p o),(.imm d c 1 f e)],[]=>(Pq N m b p o d c f e (J7 k))
 | _,_=>none
theorem DA:By N 37 @Zg:=by
 intro R Q a h k j;unfold Zg;split;exact Ee (C' ..) (C' ..) ⟨Hw N,Ze N,Ll N,Dx N,trivial⟩;exact Ef
def QH:=D3 (DA N)
def QI:=Qs (DA N)
def Rc (k0:Int→LA→LA→O R) (r0:Nat→Int→LA→O R) (d:LA) (c:Nat) (f e:Bool) (b:Nat) (g:Int) (k1:Int→Int→LA→LA→O R) (q m:Int) (p r:LA):O R :=
 (cond (decide (m>q)) (cond (Af g b) (B8 1 p (g.toNat) fun ah w=>(cond (Af m c) (L6 .i64 (d.drop ((m.toNat)*1)) fun v=>(cond (Af v w) (B8 1 p (g.toNat) fun x ai=>(ZB (x.drop ((v.toNat)*1)) fun y=>(cond y (cond (Af m c) (L6 .i64 (d.drop ((m.toNat)*1)) fun z=>(cond (Af g b) (cond ((Nat.beq 1 1)&&((Nat.ble ((0+((g.toNat)*1))+1) (r.length))&&(!false))) (k1 q (wrap .i64 (m - 1)) p (r.set (0+((g.toNat)*1)) (.int .i64 z))) none) none)) none) (k1 q (wrap .i64 (m - 1)) p r)))) none)) none)) none) (Bk N b g p (fun aj aa=>(k0 (wrap .i64 (q+1)) aa r))))
def Ha (k0:Int→LA→LA→O R) (r0:Nat→Int→LA→O R) (d:LA) (c:Nat) (f e:Bool) (b:Nat) (g:Int):Nat→Int→Int→LA→LA→O R
 | 0,_,_,_,_=>none
 | n+1,q,m,p,r=>(Rc N k0 r0 d c f e b g (Ha k0 r0 d c f e b g n) q m p r)
def Rd (N:Nat) (r0:Nat→Int→LA→O R) (d:LA) (c:Nat) (f e:Bool) (b:Nat) (k0:Int→LA→LA→O R) (q1:Int→Int→Int→LA→LA→O R) (i:Int) (o l:LA):O R :=
 (cond (decide (i<((c:Nat):Int))) (cond (Af i c) (L6 .i64 (d.drop ((i.toNat)*1)) fun g=>(cond (Af g b) (cond ((Nat.beq 1 1)&&((Nat.ble ((0+((g.toNat)*1))+1) (l.length))&&(!false))) (q1 g i (wrap .i64 (((c:Nat):Int) - 1)) o (l.set (0+((g.toNat)*1)) (.int .i64 (-1)))) none) none)) none) (r0 b 0 l))
def Fq (r0:Nat→Int→LA→O R) (d:LA) (c:Nat) (f e:Bool) (b:Nat):Nat→Int→LA→LA→O R
 | 0,_,_,_=>none
 | n+1,i,o,l=>(Rd N r0 d c f e b (Fq r0 d c f e b n) (fun g q m p r=>(Ha N (Fq r0 d c f e b n) r0 d c f e b g N q m p r)) i o l)
def V0 (r0:Nat→Int→LA→O R) (q0:Int→LA→LA→O R) (s:LA) (b:Nat) (u t:Bool) (d:LA) (c:Nat) (f e:Bool):O R :=
 (E3 N s b false t (fun ab=>(cond (!ab) (r0 0 1 []) (Ls N d c false e ((b:Nat):Int) (fun ac=>(cond (!ac) (r0 0 11 []) (F4 N s b false t (fun ad=>(cond ((decide (0≤((b:Nat):Int)))&&((decide (((b:Nat):Int)≤((b:Nat):Int)))&&((decide (((b:Nat):Int)≤140737488355328))&&(decide ((((b:Nat):Int)*((8:Nat):Int))≤140737488355328))))) (q0 0 ad (List.replicate b (.int .i64 0))) none)))))))))
def Pr:=(A0 (fun (N:Nat) (s:LA) (b:Nat) (u t:Bool) (d:LA) (c:Nat) (f e:Bool) (r0:Nat→Int→LA→O R)=>(V0 N r0 (fun i o l=>(Fq N r0 d c f e b N i o l)) s b u t d c f e))).1
theorem Zh (s b u t d c f e r0):(@Pr R N s b u t d c f e r0)=(V0 N r0 (fun i o l=>(Fq N r0 d c f e b N i o l)) s b u t d c f e):=by rw[Pr,(A0 _).2]
def DB:Hints:={ H:=(hS hL (hS hL (hS hL (hS hL (hS hL (hS (hS hL (hS (hP [1,6,7,8] (hS hL (hS (hS (hS hL (hS hL (hS (hS hL (hS (hP [1,6,7,8,9,10] hL) hL)) hL))) hL) hL))) hL)) hL)))))),nils:=[(4,1)],modes:=[(2,1),(0,0)] }
def IV:JN:=[(39,Hv N),(57,Zd N),(53,Lk N),(54,Dw N)]
def DC (F:KF R):=CL Try.f38 DB (IV N) [] N F
def D9 (F:KF R):Nat→Int→LA→O R:=(fun ae af ag=>F (.tup [(.own 300000 0 ae),(iv af)]) (hq [(bQ 1 ag)]))
def QJ (d:LA) (c:Nat) (f e:Bool) (b:Nat) (g q m:Int) (p r:LA):St:=⟨[(1,(.imm d c 1 f e)),(6,(.nd 300000 (.whole b))),(7,(.own 300001 0 b)),(8,(iv q)),(9,(iv g)),(10,(iv m))],(hq [⟨false,false,true,false,3,p,true,none,0,0⟩,(bQ 1 r)])⟩
def QK (F:KF R) (Q0:St→O R):=DC N F [1,1,1,1,1,0,1,0,0,1,0,0,1,1,0,1,0] [Q0]
def U8 (d:LA) (c:Nat) (f e:Bool) (b:Nat) (i:Int) (o l:LA):St:=⟨[(1,(.imm d c 1 f e)),(6,(.nd 300000 (.whole b))),(7,(.own 300001 0 b)),(8,(iv i))],(hq [⟨false,false,true,false,3,o,true,none,0,0⟩,(bQ 1 l)])⟩
def DD (F:KF R):=DC N F [1,1,1,1,1,0,1,0] []
theorem U9 (Q0:St→O R) (F:KF R) (d:LA) (c:Nat) (f e:Bool) (b:Nat) (g:Int):∀ (n:Nat) (q m:Int) (p r:LA),Ap (QK N F Q0) n (QJ d c f e b g q m p r)=(Ha N (fun i o l=>Q0 (U8 d c f e b i o l)) (D9 F) d c f e b g n q m p r)
 | 0,_,_,_,_=>by kernel_rfl
 | n+1,q,m,p,r=>Eq.trans (by kernel_rfl) (Fz (Rc N (fun i o l=>Q0 (U8 d c f e b i o l)) (D9 F) d c f e b g · q m p r) (funext fun q=>funext fun m=>funext fun p=>funext fun r=>(U9 Q0 F d c f e b g n q m p r)):_)
theorem Va (F:KF R) (d:LA) (c:Nat) (f e:Bool) (b:Nat):∀ (n:Nat) (i:Int) (o l:LA),Ap (DD N F) n (U8 d c f e b i o l)=(Fq N (D9 F) d c f e b n i o l)
 | 0,_,_,_=>by kernel_rfl
 | n+1,i,o,l=>have e0:=(funext fun i=>funext fun o=>funext fun l=>(Va F d c f e b n i o l))
  Eq.trans (by kernel_rfl) (RN (Rd N (D9 F) d c f e b · · i o l) e0 (funext fun g=>funext fun q=>funext fun m=>funext fun p=>funext fun r=>(An ..).trans ((U9 N (Ap (DD N F) n) F d c f e b g N q m p r).trans (Fz (Ha N · (D9 F) d c f e b g N q m p r) e0))):_)
theorem DE (s:LA) (b:Nat) (u t:Bool) (d:LA) (c:Nat) (f e:Bool) (F:KF R):Qr (IV N) DB N 38 [(.imm s b 1 u t),(.imm d c 1 f e)] [] F=(Pr N s b u t d c f e (D9 F)):=by
 rw[Zh]
 exact Eq.trans (by kernel_rfl) (Fz (V0 N (D9 F) · s b u t d c f e) (funext fun i=>funext fun o=>funext fun l=>(An ..).trans (Va N F d c f e b N i o l)):_)
def Zi (a:LA) (h:Ag) (k:KF R):O R :=
 match a,h with
 | [(.imm s b 1 u t),(.imm d c 1 f e)],[]=>(Pr N s b u t d c f e (D9 k))
 | _,_=>none
theorem DF:By N 38 @Zi:=by
 intro R Q a h k j;unfold Zi;split;exact Ee (DE ..) (DE ..) ⟨Hw N,Ze N,Ll N,Dx N,trivial⟩;exact Ef
def QL:=D3 (DF N)
def QM:=Qs (DF N)
def Re (N:Nat) (r0:Bool→O R) (d:LA) (b:Nat) (f g:Bool) (e:LA) (c:Nat) (i l:Bool) (k0:Int→O R) (m:Int):O R :=
 (cond (decide (m<((b:Nat):Int))) (cond (Af m b) (L6 .i64 (d.drop ((m.toNat)*1)) fun o=>(cond (Af m c) (L6 .i64 (e.drop ((m.toNat)*1)) fun p=>(cond (o != p) (r0 false) (k0 (wrap .i64 (m+1))))) none)) none) (r0 true))
def Hb (r0:Bool→O R) (d:LA) (b:Nat) (f g:Bool) (e:LA) (c:Nat) (i l:Bool):Nat→Int→O R
 | 0,_=>none
 | n+1,m=>(Re N r0 d b f g e c i l (Hb r0 d b f g e c i l n) m)
def V1 (N:Nat) (r0:Bool→O R) (q0:Int→O R) (d:LA) (b:Nat) (f g:Bool) (e:LA) (c:Nat) (i l:Bool):O R :=
 (cond (((b:Nat):Int) != ((c:Nat):Int)) (r0 false) (q0 0))
def Ps:=(A0 (fun (N:Nat) (d:LA) (b:Nat) (f g:Bool) (e:LA) (c:Nat) (i l:Bool) (r0:Bool→O R)=>(V1 N r0 (fun m=>(Hb N r0 d b f g e c i l N m)) d b f g e c i l))).1
theorem Zj (d b f g e c i l r0):(@Ps R N d b f g e c i l r0)=(V1 N r0 (fun m=>(Hb N r0 d b f g e c i l N m)) d b f g e c i l):=by rw[Ps,(A0 _).2]
def QN (F:KF R):=CL Try.f50 LJ [] [] N F
def J8 (F:KF R):Bool→O R:=(fun q=>F (.bool q) [])
def QO (d:LA) (b:Nat) (f g:Bool) (e:LA) (c:Nat) (i l:Bool) (m:Int):St:=⟨[(0,(.imm d b 1 f g)),(1,(.imm e c 1 i l)),(5,(iv m))],[]⟩
def QP (F:KF R):=QN N F [1,1,0,1,0] []
theorem Vb (F:KF R) (d:LA) (b:Nat) (f g:Bool) (e:LA) (c:Nat) (i l:Bool):∀ (n:Nat) (m:Int),Ap (QP N F) n (QO d b f g e c i l m)=(Hb N (J8 F) d b f g e c i l n m)
 | 0,_=>by kernel_rfl
 | n+1,m=>Eq.trans (by kernel_rfl) (Fz (Re N (J8 F) d b f g e c i l · m) (funext fun m=>(Vb F d b f g e c i l n m)):_)
theorem DG (d:LA) (b:Nat) (f g:Bool) (e:LA) (c:Nat) (i l:Bool) (F:KF R):Qr [] LJ N 50 [(.imm d b 1 f g),(.imm e c 1 i l)] [] F=(Ps N d b f g e c i l (J8 F)):=by
 rw[Zj]
 exact Eq.trans (by kernel_rfl) (Fz (V1 N (J8 F) · d b f g e c i l) (funext fun m=>(An ..).trans (Vb N F d b f g e c i l N m)):_)
def Zk (a:LA) (h:Ag) (k:KF R):O R :=
 match a,h with
 | [(.imm d b 1 f g),(.imm e c 1 i l)],[]=>(Ps N d b f g e c i l (J8 k))
 | _,_=>none
theorem DH:By N 50 @Zk:=by
 intro R Q a h k j;unfold Zk;split;exact Ee (DG ..) (DG ..) trivial;exact Ef
def QQ:=D3 (DH N)
def QR:=Qs (DH N)
def Rf (r0:Bool→O R) (d:LA) (b:Nat) (i e:Bool) (f:LA) (c:Nat) (l g:Bool) (k0:Int→O R) (m:Int):O R :=
 (cond (decide (m<((b:Nat):Int))) (cond (Af m b) (KD 1 (d.drop ((m.toNat)*1)) fun o p=>(cond (Af m c) (KD 1 (f.drop ((m.toNat)*1)) fun q r=>(Ps N o p false e q r false g (fun s=>(cond (!s) (r0 false) (k0 (wrap .i64 (m+1))))))) none)) none) (r0 true))
def Hc (r0:Bool→O R) (d:LA) (b:Nat) (i e:Bool) (f:LA) (c:Nat) (l g:Bool):Nat→Int→O R
 | 0,_=>none
 | n+1,m=>(Rf N r0 d b i e f c l g (Hc r0 d b i e f c l g n) m)
def V2 (N:Nat) (r0:Bool→O R) (q0:Int→O R) (d:LA) (b:Nat) (i e:Bool) (f:LA) (c:Nat) (l g:Bool):O R :=
 (cond (((b:Nat):Int) != ((c:Nat):Int)) (r0 false) (q0 0))
def Pt:=(A0 (fun (N:Nat) (d:LA) (b:Nat) (i e:Bool) (f:LA) (c:Nat) (l g:Bool) (r0:Bool→O R)=>(V2 N r0 (fun m=>(Hc N r0 d b i e f c l g N m)) d b i e f c l g))).1
theorem Zl (d b i e f c l g r0):(@Pt R N d b i e f c l g r0)=(V2 N r0 (fun m=>(Hc N r0 d b i e f c l g N m)) d b i e f c l g):=by rw[Pt,(A0 _).2]
def IW:JN:=[(50,QQ N)]
def QS (F:KF R):=CL Try.f29 LJ (IW N) [] N F
def J9 (F:KF R):Bool→O R:=(fun t=>F (.bool t) [])
def QT (d:LA) (b:Nat) (i e:Bool) (f:LA) (c:Nat) (l g:Bool) (m:Int):St:=⟨[(0,(.imm d b 1 i e)),(1,(.imm f c 1 l g)),(5,(iv m))],[]⟩
def QU (F:KF R):=QS N F [1,1,0,1,0] []
theorem Vc (F:KF R) (d:LA) (b:Nat) (i e:Bool) (f:LA) (c:Nat) (l g:Bool):∀ (n:Nat) (m:Int),Ap (QU N F) n (QT d b i e f c l g m)=(Hc N (J9 F) d b i e f c l g n m)
 | 0,_=>by kernel_rfl
 | n+1,m=>Eq.trans (by kernel_rfl) (Fz (Rf N (J9 F) d b i e f c l g · m) (funext fun m=>(Vc F d b i e f c l g n m)):_)
theorem DI (d:LA) (b:Nat) (i e:Bool) (f:LA) (c:Nat) (l g:Bool) (F:KF R):Qr (IW N) LJ N 29 [(.imm d b 1 i e),(.imm f c 1 l g)] [] F=(Pt N d b i e f c l g (J9 F)):=by
 rw[Zl]
 exact Eq.trans (by kernel_rfl) (Fz (V2 N (J9 F) · d b i e f c l g) (funext fun m=>(An ..).trans (Vc N F d b i e f c l g N m)):_)
def Zm (a:LA) (h:Ag) (k:KF R):O R :=
 match a,h with
 | [(.imm d b 1 i e),(.imm f c 1 l g)],[]=>(Pt N d b i e f c l g (J9 k))
 | _,_=>none
theorem DJ:By N 29 @Zm:=by
 intro R Q a h k j;unfold Zm;split;exact Ee (DI ..) (DI ..) ⟨QR N,trivial⟩;exact Ef
def QV:=D3 (DJ N)
def QW:=Qs (DJ N)
def N2 (b:LA) (c:Nat) (l d:Bool) (e:LA) (f:Nat) (m g:Bool) (i:Int) (r0:Bool→O R):O R :=
 (Hu N b c false d i (fun r s t=>(Gi N b c false d i (fun u v w=>(Ej N b c false d (fun n x y=>(E4 N b c false d (fun o z aa=>(Q3 N b c false d e f false g (fun ab ac=>(Pq N b c false d e f false g (fun ad ae=>(Qz N b c false d e f false g (fun p af ag=>(Pr N b c false d e f false g (fun q ah ai=>(Gh N b c false d (fun aj=>(E3 N b c false d (fun ak=>(cond ((aj==ak)==true) (Pt N r s false false u v false false (fun al=>(cond ((cond true al false)==true) (cond ((cond true (t==w) false)==true) (Cx N (y.take (n*1)) n false true (aa.take (o*1)) o false true (fun am=>(cond ((cond true am false)==true) (cond ((cond true (x==z) false)==true) (cond ((cond true (ab==ad) false)==true) (cond ((cond true (ac==ae) false)==true) (Cx N (ag.take (p*1)) p false true (ai.take (q*1)) q false true (fun an=>(cond ((cond true an false)==true) (r0 (cond true (af==ah) false)) (r0 false)))) (r0 false)) (r0 false)) (r0 false)) (r0 false)))) (r0 false)) (r0 false)))) (r0 false))))))))))))))))))))))
def Ar:=(A0 (@N2 R)).1
theorem Pu:@Ar R=@N2 R:=(A0 _).2
def IX:JN:=[(20,ER N),(35,A_ N),(21,Sn N),(36,BD N),(14,IE N),(37,QH N),(11,H' N),(38,QL N),(30,Js N),(39,Hv N),(29,QV N),(34,Sy N)]
def Ti (F:KF R):Bool→O R:=(fun ao=>F (.bool ao) [])
theorem Tj (b:LA) (c:Nat) (l d:Bool) (e:LA) (f:Nat) (m g:Bool) (i:Int) (F:KF R):Qr (IX N) Ws N 17 [(.imm b c 1 l d),(.imm e f 1 m g),(iv i)] [] F=(Ar N b c l d e f m g i (Ti F)):=by
 rw[Pu]
 kernel_rfl
def Pv (a:LA) (h:Ag) (k:KF R):O R :=
 match a,h with
 | [(.imm b c 1 l d),(.imm e f 1 m g),(.int .i64 i)],[]=>(Ar N b c l d e f m g i (Ti k))
 | _,_=>none
theorem Tk:By N 17 @Pv:=by
 intro R Q a h k j;unfold Pv;split;exact Ee (Tj ..) (Tj ..) ⟨ES N,BA N,So N,BE N,IF N,QI N,IA N,QM N,Jt N,Hw N,QW N,Sz N,trivial⟩;exact Ef
def EU:=D3 (Tk N)
def EV:=Qs (Tk N)
end
end Gx

namespace Gx
open Go Go.Proofs
open IntKind (wrap)
set_option maxRecDepth 100000
noncomputable section
variable {R:Type} (N:Nat)
def F7 (r0:Nat→Int→LA→O R) (g:Int) (b:LA) (c:Nat) (d e:Bool) (k0:Nat→Int→Int→LA→O R) (f:Nat) (i m:Int) (l:LA):O R :=
 (cond (decide (i<g)) (Cu N (wrap .i64 (i+1)) b c d e m (fun o q=>(cond ((decide ((0:Int)≤(0:Int)))&&((decide (0≤o))&&((decide (o≤((f:Nat):Int)))&&(decide (((f:Nat):Int)≤((f:Nat):Int)))))) (cond ((Nat.ble (0+(o.toNat)) 140737488355328)&&(Nat.ble ((0+(o.toNat))*8) 140737488355328)) (cond ((Nat.ble ((0+(o.toNat))+1) 140737488355328)&&(Nat.ble (((0+(o.toNat))+1)*8) 140737488355328)) (cond ((decide (0≤o))&&((decide (o≤((f:Nat):Int)))&&((decide (((f:Nat):Int)≤((f:Nat):Int)))&&(decide (((f:Nat):Int)≤((f:Nat):Int)))))) (cond ((Nat.ble (((0+(o.toNat))+1)+(f - (o.toNat))) 140737488355328)&&(Nat.ble ((((0+(o.toNat))+1)+(f - (o.toNat)))*8) 140737488355328)) (k0 (((0+(o.toNat))+1)+(f - (o.toNat))) (wrap .i64 (i+1)) q ((List.take (((0+(o.toNat))+1)*1) (((l.take ((o.toNat)*1)).take ((0+(o.toNat))*1))++[(.int .i64 i)]))++((l.drop (0+((o.toNat)*1))).take ((f - (o.toNat))*1)))) none) none) none) none) none))) (r0 f m l))
def Cj (r0:Nat→Int→LA→O R) (g:Int) (b:LA) (c:Nat) (d e:Bool):Nat→Nat→Int→Int→LA→O R
 | 0,_,_,_,_=>none
 | n+1,f,i,m,l=>(F7 N r0 g b c d e (Cj r0 g b c d e n) f i m l)
def Jq (N:Nat) (r0:Nat→Int→LA→O R) (q0:Nat→Int→Int→LA→O R) (g:Int) (b:LA) (c:Nat) (d e:Bool) (p:Int):O R :=
 (q0 0 0 p [])
def Bn:=(A0 (fun (N:Nat) (g:Int) (b:LA) (c:Nat) (d e:Bool) (p:Int) (r0:Nat→Int→LA→O R)=>(Jq N r0 (fun f i m l=>(Cj N r0 g b c d e N f i m l)) g b c d e p))).1
theorem Pw (g b c d e p r0):(@Bn R N g b c d e p r0)=(Jq N r0 (fun f i m l=>(Cj N r0 g b c d e N f i m l)) g b c d e p):=by rw[Bn,(A0 _).2]
def Tl:Hints:={ H:=(hS hL (hS hL (hS (hS hL (hS (hP [0,1,5,6] hL) hL)) hL))),nils:=[(4,1),(5,1)],modes:=[(2,1)] }
def Vd:JN:=[(24,R4 N)]
def EW (F:KF R):=CL Try.f10 Tl (Vd N) [100000] N F
def Ex (b:LA) (c:Nat) (d e:Bool) (F:KF R):Nat→Int→LA→O R:=(fun r s t=>F (.own 300000 0 r) [(100000,(bN 0 [(.imm b c 1 d e),(iv s)])),(300000,(bQ 1 t))])
def EX (g:Int) (b:LA) (c:Nat) (d e:Bool) (f:Nat) (i m:Int) (l:LA):St:=⟨[(0,(.optr 100000 0)),(1,(iv g)),(5,(.own 300000 0 f)),(6,(iv i))],[(100000,(bN 0 [(.imm b c 1 d e),(iv m)])),(300000,(bQ 1 l))]⟩
def EY (F:KF R):=EW N F [1,1,0,1,0] []
theorem Mt (F:KF R) (g:Int) (b:LA) (c:Nat) (d e:Bool):∀ (n f:Nat) (i m:Int) (l:LA),Ap (EY N F) n (EX g b c d e f i m l)=(Cj N (Ex b c d e F) g b c d e n f i m l)
 | 0,_,_,_,_=>by kernel_rfl
 | n+1,f,i,m,l=>Eq.trans (by kernel_rfl) (Fz (F7 N (Ex b c d e F) g b c d e · f i m l) (funext fun f=>funext fun i=>funext fun m=>funext fun l=>(Mt F g b c d e n f i m l)):_)
theorem Tm (g:Int) (b:LA) (c:Nat) (d e:Bool) (p:Int) (F:KF R):Qr (Vd N) Tl N 10 [(.optr 100000 0),(iv g)] [(100000,(bN 0 [(.imm b c 1 d e),(iv p)]))] F=(Bn N g b c d e p (Ex b c d e F)):=by
 rw[Pw]
 exact Eq.trans (by kernel_rfl) (Fz (Jq N (Ex b c d e F) · g b c d e p) (funext fun f=>funext fun i=>funext fun m=>funext fun l=>(An ..).trans (Mt N F g b c d e N f i m l)):_)
def Px (a:LA) (h:Ag) (k:KF R):O R :=
 match a,h with
 | [(.optr 100000 0),(.int .i64 g)],[(100000,⟨false,false,false,false,0,[(.imm b c 1 d e),(.int .i64 p)],false,none,0,0⟩)]=>(Bn N g b c d e p (Ex b c d e k))
 | _,_=>none
theorem Tn:By N 10 @Px:=by
 intro R Q a h k j;unfold Px;split;exact Ee (Tm ..) (Tm ..) ⟨R5 N,trivial⟩;exact Ef
def EZ:=D3 (Tn N)
def E_:=Qs (Tn N)
def Fr (g:LA) (i:Nat) (s l:Bool) (m:LA) (n:Nat) (t c:Bool) (o:LA) (p:Nat) (u q:Bool) (d:LA) (e:Nat) (v f:Bool) (b:Int) (r0:Bool→O R):O R :=
 (G3 N o p false q (fun w r x=>(AS N d e false f (Hq N m n false c 40 (fun y z ao=>(G8 N (fun ac=>(cond (ac==true) (Fk N g i false l (fun ad=>(cond ((!ad)==false) (Ar N g i false l y z false c b (fun ae=>(cond ((cond true (cond false true ae) false)==true) (Kf N b 11 (fun af=>(Ar N w r false x y z false c (wrap .i64 (af - 1)) (fun ag=>(cond ((cond true ag false)==true) (Bn N ((r:Nat):Int) d e false f 0 (fun aa ap ah=>(Ar N w r false x (ah.take (aa*1)) aa false true b (fun ai=>(r0 (cond true ai false)))))) (r0 false)))))) (r0 false)))) (Kf N b 11 (fun aj=>(Ar N w r false x y z false c (wrap .i64 (aj - 1)) (fun ak=>(cond ((cond true ak false)==true) (Bn N ((r:Nat):Int) d e false f 0 (fun ab aq al=>(Ar N w r false x (al.take (ab*1)) ab false true b (fun am=>(r0 (cond true am false)))))) (r0 false))))))))) (r0 false)))))))))
def Cs:=(A0 (@Fr R)).1
theorem Hd:@Cs R=@Fr R:=(A0 _).2
def Tr:JN:=[(8,HS N),(9,LN N),(15,EA N),(12,IG N),(16,IL N),(17,EU N),(18,LS N),(10,EZ N)]
def H4 (F:KF R):Bool→O R:=(fun an=>F (.bool an) [])
theorem H5 (g:LA) (i:Nat) (s l:Bool) (m:LA) (n:Nat) (t c:Bool) (o:LA) (p:Nat) (u q:Bool) (d:LA) (e:Nat) (v f:Bool) (b:Int) (F:KF R):Qr (Tr N) Ws N 5 [(.imm g i 1 s l),(.imm m n 1 t c),(.imm o p 1 u q),(.imm d e 1 v f),(iv b)] [] F=(Cs N g i s l m n t c o p u q d e v f b (H4 F)):=by
 rw[Hd]
 kernel_rfl
def He (a:LA) (h:Ag) (k:KF R):O R :=
 match a,h with
 | [(.imm g i 1 s l),(.imm m n 1 t c),(.imm o p 1 u q),(.imm d e 1 v f),(.int .i64 b)],[]=>(Cs N g i s l m n t c o p u q d e v f b (H4 k))
 | _,_=>none
theorem H6:By N 5 @He:=by
 intro R Q a h k j;unfold He;split;exact Ee (H5 ..) (H5 ..) ⟨HT N,LO N,EB N,IH N,IM N,EV N,LT N,E_ N,trivial⟩;exact Ef
def Rg:=D3 (H6 N)
def Rh:=Qs (H6 N)
end
end Gx

namespace Gx
open Go
open IntKind (wrap)
section
variable {R:Type}
theorem QX {n:Int} (h1:-9223372036854775808≤n) (h2:n≤9223372036854775807):wrap .i64 n=n:=by
 rw[IntKind.wrap_i64];omega
theorem wS {j:Nat} (h:j<4611686018427387904):wrap .i64 ((j:Int)+1)=((j+1:Nat):Int):=by rw[QX (by omega) (by omega)];omega
theorem A6 {j n:Nat} (h:j<n):Af (j:Int) n=true:=by simp[Af];omega
theorem Ik {a b:Int} (h:a<b):decide (a<b)=true:=by simpa using h
theorem H7 {a b:Int} (h:¬ a<b):decide (a<b)=false:=by simpa using h
theorem Bw (l:List Int):(Ab l).length=l.length:=by simp[Ab]
theorem LX (l:List Int) (i:Nat) (x:Int):(Ab l).set i (.int .i64 x)=Ab (l.set i x):=by simp[Ab,List.map_set]
theorem TK (l:List Int) (n:Nat):(Ab l).take n=Ab (l.take n):=by simp[Ab]
theorem VQ {l:List Int} {i:Nat} {x:Int} (h:l[i]?=some x):(Ab l)[i]?=some (.int .i64 x):=by simp[Ab,h]
theorem XH {l:List Int} {i:Nat} {x:Int} (h:l[i]?=some x) (K:Int→O R):L6 .i64 ((Ab l).drop i) K=K x:=by
 unfold L6
 rw[List.head?_drop,VQ h]
 simp[asInt,Hg]
theorem ZC {l:List Int} {i:Int} {x:Int} (h:l[i.toNat]?=some x) (K:Int→O R):L6 .i64 ((Ab l).drop (0+i.toNat*1)) K=K x:=by rw[Nat.mul_one,Nat.zero_add];exact XH h K
def GR (c:LA) (rows:List (List Int)):Prop:=c.length=rows.length∧∀ (i:Nat) (r:List Int),rows[i]?=some r→∃ x,c[i]?=some x∧P0 1 x=some (Ab r,r.length)
theorem aY {c:LA} {rows:List (List Int)} (h:GR c rows) {i:Nat} {r:List Int} (hi:rows[i]?=some r) (K:LA→Nat→O R):KD 1 (c.drop i) K=K (Ab r) r.length:=by
 obtain⟨x,h1,h2⟩:=h.2 i r hi
 unfold KD
 rw[List.head?_drop,h1]
 simp[h2]
def SA (S:List (List Int)):LA:=S.map fun l=>Bd (Ab l) 0 0
theorem XI (S:List (List Int)):(SA S).length=S.length:=by simp[SA]
theorem IY (S:List (List Int)) (i:Nat) (l:List Int):(SA S).set i (Bd (Ab l) 0 0)=SA (S.set i l):=by simp[SA,List.map_set]
theorem Ri {S:List (List Int)} {i:Nat} {l:List Int} (h:S[i]?=some l) (K:LA→O R):S_ ((SA S).drop i) K=K (Ab l):=by
 unfold S_
 rw[List.head?_drop]
 simp[SA,h,N7,Bd]
theorem UO {c:LA} {i:Nat} {l:LA} (h:i<c.length) (K:LA→O R):b_ ((c.set i (Bd l 1 0)).drop i) K=K l:=by
 unfold b_
 rw[List.head?_drop,List.getElem?_set_self h]
 simp[MJ,Bd]
def VR (l:List Int) (x:Int):List Int:=if x ∈ l then l else l++[x]
theorem XJ (l:List Int) (x:Int):V5 (Ab l) x=decide (x ∈ l):=by
 have:=Is l x
 unfold Ab
 by_cases h:x ∈ l
 ·rw[this.2 h];simp[h]
 ·simp[h]
  cases hb:V5 (l.map fun m=>.int .i64 m) x with
  | false=>rfl
  | true=>exact absurd (this.1 hb) h
theorem TL (l:List Int) (x:Int):P6 (Ab l) x=Ab (VR l x):=by
 unfold P6 VR
 rw[XJ]
 by_cases h:x ∈ l
 ·simp[h]
 ·simp[h,Ab]
theorem XK (l:List Int) (x:Int):FP (Ab l) x=Ab (l.erase x):=Vt l x
def Sets (n:Nat) (Q:Nat→Nat→Prop) (S:List (List Int)):Prop:=S.length=n∧∀ (i:Nat) (l:List Int),S[i]?=some l→l.Nodup∧∀ x,x ∈ l↔∃ j:Nat,x=(j:Int)∧j<n∧Q i j
theorem Sets.congr {n:Nat} {Q Q':Nat→Nat→Prop} {S:List (List Int)} (h:Sets n Q S) (he:∀ i j,i<n→j<n→(Q' i j↔Q i j)):Sets n Q' S:=by
 refine⟨h.1,fun i l hl=>?_⟩
 have hi:i<n:=by rw[←h.1];exact(List.getElem?_eq_some_iff.1 hl).1
 obtain⟨h1,h2⟩:=h.2 i l hl
 refine⟨h1,fun x=>?_⟩
 rw[h2]
 constructor
 ·rintro⟨j,rfl,hj,hq⟩;exact⟨j,rfl,hj,(he i j hi hj).2 hq⟩
 ·rintro⟨j,rfl,hj,hq⟩;exact⟨j,rfl,hj,(he i j hi hj).1 hq⟩
theorem Sets.get {n:Nat} {Q:Nat→Nat→Prop} {S:List (List Int)} (h:Sets n Q S) {i:Nat} (hi:i<n):∃ l,S[i]?=some l:=⟨_,List.getElem?_eq_getElem (by rw[h.1];exact hi)⟩
theorem Sets.mem {n:Nat} {Q:Nat→Nat→Prop} {S:List (List Int)} (h:Sets n Q S) {i j:Nat} {l:List Int} (hl:S[i]?=some l) (hj:j<n):(j:Int) ∈ l↔Q i j:=by
 rw[(h.2 i l hl).2]
 constructor
 ·rintro⟨k,hk,_,hq⟩;have:k=j:=by omega
  subst this;exact hq
 ·intro hq;exact⟨j,rfl,hj,hq⟩
theorem Sets.add {n:Nat} {Q:Nat→Nat→Prop} {S:List (List Int)} (h:Sets n Q S) {w x:Nat} {l:List Int} (hl:S[w]?=some l) (hx:x<n):Sets n (fun i j=>Q i j∨(i=w∧j=x)) (S.set w (VR l (x:Int))):=by
 have hw:=(List.getElem?_eq_some_iff.1 hl).1
 refine⟨by rw[List.length_set];exact h.1,fun i m hm=>?_⟩
 by_cases e:i=w
 ·subst e
  rw[List.getElem?_set_self hw] at hm;simp at hm;subst hm
  obtain⟨h1,h2⟩:=h.2 i l hl
  unfold VR
  split
  ·rename_i hin
   refine⟨h1,fun y=>?_⟩
   rw[h2]
   constructor
   ·rintro⟨j,rfl,hj,hq⟩;exact⟨j,rfl,hj,.inl hq⟩
   ·rintro⟨j,rfl,hj,hq | ⟨_,rfl⟩⟩
    ·exact⟨j,rfl,hj,hq⟩
    ·exact(h2 _).1 hin
  ·rename_i hin
   refine⟨List.nodup_append.2 ⟨h1,by simp,fun a ha b hb=>by simp at hb;subst hb;exact fun e=>hin (e▸ha)⟩,fun y=>?_⟩
   rw[List.mem_append,h2,List.mem_singleton]
   constructor
   ·rintro(⟨j,rfl,hj,hq⟩ | rfl)
    ·exact⟨j,rfl,hj,.inl hq⟩
    ·exact⟨x,rfl,hx,.inr ⟨rfl,rfl⟩⟩
   ·rintro⟨j,rfl,hj,hq | ⟨_,rfl⟩⟩
    ·exact .inl ⟨j,rfl,hj,hq⟩
    ·exact .inr rfl
 ·rw[List.getElem?_set_ne (Ne.symm e)] at hm
  obtain⟨h1,h2⟩:=h.2 i m hm
  refine⟨h1,fun y=>?_⟩
  rw[h2]
  constructor
  ·rintro⟨j,rfl,hj,hq⟩;exact⟨j,rfl,hj,.inl hq⟩
  ·rintro⟨j,rfl,hj,hq | ⟨e2,_⟩⟩
   ·exact⟨j,rfl,hj,hq⟩
   ·exact absurd e2 e
theorem Sets.del {n:Nat} {Q:Nat→Nat→Prop} {S:List (List Int)} (h:Sets n Q S) {w x:Nat} {l:List Int} (hl:S[w]?=some l):Sets n (fun i j=>Q i j∧¬ (i=w∧j=x)) (S.set w (l.erase (x:Int))):=by
 have hw:=(List.getElem?_eq_some_iff.1 hl).1
 refine⟨by rw[List.length_set];exact h.1,fun i m hm=>?_⟩
 by_cases e:i=w
 ·subst e
  rw[List.getElem?_set_self hw] at hm;simp at hm;subst hm
  obtain⟨h1,h2⟩:=h.2 i l hl
  refine⟨h1.erase _,fun y=>?_⟩
  rw[h1.mem_erase_iff,h2]
  constructor
  ·rintro⟨hy,j,rfl,hj,hq⟩;exact⟨j,rfl,hj,hq,fun ⟨_,e⟩=>hy (by rw[e])⟩
  ·rintro⟨j,rfl,hj,hq,hne⟩;exact⟨fun e=>hne ⟨rfl,by omega⟩,j,rfl,hj,hq⟩
 ·rw[List.getElem?_set_ne (Ne.symm e)] at hm
  obtain⟨h1,h2⟩:=h.2 i m hm
  refine⟨h1,fun y=>?_⟩
  rw[h2]
  constructor
  ·rintro⟨j,rfl,hj,hq⟩;exact⟨j,rfl,hj,hq,fun ⟨e2,_⟩=>e e2⟩
  ·rintro⟨j,rfl,hj,hq,_⟩;exact⟨j,rfl,hj,hq⟩
def B5 (n:Nat) (A:Nat→Nat→Bool) (v:Nat):List Nat:=(List.range n).filter (A v)
def At (l:List Nat):List Int:=l.map fun (x:Nat)=>(x:Int)
theorem Fc {n:Nat} {A:Nat→Nat→Bool} {v x:Nat}:x ∈ B5 n A v↔x<n∧A v x=true:=by simp[B5]
theorem TM (n:Nat) (A:Nat→Nat→Bool) (v:Nat):(At (B5 n A v)).Pairwise (·≤·):=by
 unfold At B5
 rw[List.pairwise_map]
 exact(List.pairwise_lt_range.sublist List.filter_sublist).imp (fun h=>by omega)
theorem LY (n:Nat) (A:Nat→Nat→Bool) (v:Nat):(B5 n A v).Nodup:=List.nodup_range.sublist List.filter_sublist
theorem Sets.sort {n:Nat} {A:Nat→Nat→Bool} {S:List (List Int)} (h:Sets n (fun i j=>A i j=true) S) {v:Nat} {l:List Int} (hl:S[v]?=some l):Wz l=At (B5 n A v)∧l.length=(B5 n A v).length:=by
 obtain⟨h1,h2⟩:=h.2 v l hl
 have hnd:(At (B5 n A v)).Nodup:=by
  unfold At
  exact List.Pairwise.map _ (fun a b hab e=>hab (by omega)) (LY n A v)
 have hp:l.Perm (At (B5 n A v)):=(List.perm_ext_iff_of_nodup h1 hnd).2 (fun x=>by
  rw[h2]
  unfold At
  rw[List.mem_map]
  constructor
  ·rintro⟨j,rfl,hj,hq⟩;exact⟨j,Fc.2 ⟨hj,hq⟩,rfl⟩
  ·rintro⟨j,hj,rfl⟩;exact⟨j,rfl,(Fc.1 hj).1,(Fc.1 hj).2⟩)
 refine⟨?_,by rw[hp.length_eq];simp[At]⟩
 have h3:(Wz l).Perm (At (B5 n A v)):=(Qx l).trans hp
 exact List.Perm.eq_of_pairwise (le:=fun a b:Int=>a≤b) (fun a b _ _ h3 h4=>by omega) (Qy l) (TM n A v) h3
end
end Gx

namespace Gx
open Go
open IntKind (wrap)
section
variable {R:Type}
theorem IZ {l:List Nat} {i x:Nat} (h:l[i]?=some x):(At l)[i]?=some (x:Int):=by simp[At,h]
theorem Bm (l:List Nat):(At l).length=l.length:=by simp[At]
theorem D7 {α:Type} {l:List α} {i:Nat} {x:α} (h:l[i]?=some x):l.take (i+1)=l.take i++[x]:=by rw[List.take_add_one,h];rfl
def Ve (Q:Nat→Nat→Prop) (w:Nat) (P:List Nat) (i j:Nat):Prop:=Q i j∨(i=w∧j ∈ P)∨(j=w∧i ∈ P)
theorem I_ {N n w k:Nat} {c g:Int} {d:Nat} {nb:List Nat} {Q:Nat→Nat→Prop} {f:Nat→Bool} {k0:Int→Int→Int→LA→O R} {r0:Nat→Int→LA→LA→O R} {Y:O R}
  (hn:n≤1000) (hw:w<n) (hk:nb[k]?=some w) (hnb:∀ x ∈ nb,x<n) (hnd:nb.Nodup) (hl:nb.length≤1000) (hf:∀ x,x ∈ nb.take k→(Q w x↔f x=false)) (hs:∀ x,x ∈ nb.take k→Q w x→Q x w) :
  ∀ (fuel p:Nat) (q:Int) (S:List (List Int)),Sets n (Ve Q w (nb.take p)) S→p≤k→k - p<fuel→0≤q→q+(k:Int) - p≤1000000000000 →
   (∀ S',Sets n (Ve Q w (nb.take k)) S'→k0 (q+(((nb.take k).drop p).countP f:Nat)) g ((k+1:Nat):Int) (SA S')=Y) →
   Bt N k0 r0 n c d (w:Int) g (Ab (At nb)) fuel q (k:Int) k (k:Int) (p:Int) (SA S)=Y
 | 0,p,q,S,_,_,h,_,_,_=>by omega
 | fuel+1,p,q,S,hS,hp,hfu,hq0,hq,hK=>by
  rw[Bt,E5]
  have hkl:=(List.getElem?_eq_some_iff.1 hk).1
  by_cases hlt:p<k
  ·obtain⟨x,hx⟩:∃ x,nb[p]?=some x:=⟨_,List.getElem?_eq_getElem (by omega)⟩
   have hxn:=hnb x (List.mem_of_getElem? hx)
   have hxk:x ∈ nb.take k:=List.mem_of_getElem? (i:=p) (by rw[List.getElem?_take_of_lt hlt];exact hx)
   have hxw:x≠w:=fun e=>by
    subst e
    obtain⟨h1,h2⟩:=List.getElem?_eq_some_iff.1 hx
    obtain⟨h3,h4⟩:=List.getElem?_eq_some_iff.1 hk
    have:=(List.getElem_inj hnd).1 (h2.trans h4.symm)
    omega
   have hxp:x ∉ nb.take p:=fun hm=>by
    obtain⟨j,hj⟩:=List.getElem?_of_mem hm
    rw[List.getElem?_take] at hj
    split at hj
    ·obtain⟨h1,h2⟩:=List.getElem?_eq_some_iff.1 hx
     obtain⟨h3,h4⟩:=List.getElem?_eq_some_iff.1 hj
     have:=(List.getElem_inj hnd).1 (h4.trans h2.symm)
     omega
    ·cases hj
   have hdrop:(nb.take k).drop p=x::(nb.take k).drop (p+1):=by
    rw[List.drop_eq_getElem_cons (by simp;omega)]
    congr 1
    obtain⟨h1,h2⟩:=List.getElem?_eq_some_iff.1 hx
    simp[h2]
   obtain⟨lw,hlw⟩:=hS.get hw
   have hlwl:=(List.getElem?_eq_some_iff.1 hlw).1
   rw[Ik (by omega),cond_true,A6 (by omega:p<k),cond_true,ZC (i:=(p:Int)) (by simpa using IZ hx),A6 hw,cond_true]
   simp only[Int.toNat_natCast]
   rw[Ri hlw,XJ,wS (by omega)]
   have hmem:(x:Int) ∈ lw↔Ve Q w (nb.take p) w x:=hS.mem hlw hxn
   have hmem2:(x:Int) ∈ lw↔f x=false:=by
    rw[hmem]
    unfold Ve
    constructor
    ·rintro(h | ⟨_,h⟩ | ⟨h,_⟩)
     ·exact(hf x hxk).1 h
     ·exact absurd h hxp
     ·exact absurd h hxw
    ·intro h;exact .inl ((hf x hxk).2 h)
   by_cases hin:(x:Int) ∈ lw
   ·have hfx:=hmem2.1 hin
    simp only[hin,decide_true,Bool.not_true,cond_false]
    refine I_ hn hw hk hnb hnd hl hf hs fuel (p+1) q S (hS.congr fun i j hi hj=>?_) (by omega) (by omega) hq0 (by omega) (fun S' hS'=>?_)
    ·rw[D7 hx]
     have h0:=hmem.1 hin
     have h5:Q w x:=(hf x hxk).2 hfx
     unfold Ve at h0 ⊢
     constructor
     ·rintro(h | ⟨rfl,h⟩ | ⟨rfl,h⟩)
      ·exact .inl h
      ·rcases List.mem_append.1 h with h | h
       ·exact .inr (.inl ⟨rfl,h⟩)
       ·simp at h;subst h;exact .inl h5
      ·rcases List.mem_append.1 h with h | h
       ·exact .inr (.inr ⟨rfl,h⟩)
       ·simp at h;subst h
        exact .inl (hs _ hxk h5)
     ·rintro(h | ⟨rfl,h⟩ | ⟨rfl,h⟩)
      ·exact .inl h
      ·exact .inr (.inl ⟨rfl,by simp[h]⟩)
      ·exact .inr (.inr ⟨rfl,by simp[h]⟩)
    ·have:=hK S' hS'
     rw[hdrop,List.countP_cons,hfx] at this
     simpa using this
   ·have hfx:f x=true:=by cases h:f x with | true=>rfl | false=>exact absurd (hmem2.2 h) hin
    simp only[hin,decide_false,Bool.not_false,cond_true]
    have S1:=hS.add hlw hxn
    rw[A6 hxn,cond_true,Ri hlw]
    simp only[Nat.beq_refl,cond_true]
    rw[UO (by rw[XI];exact hlwl),TL]
    obtain⟨lx,hlx⟩:=S1.get hxn
    rw[List.set_set,IY,Ri hlx,UO (by rw[XI];rw[S1.1];exact hxn),TL,List.set_set,IY,QX (by omega) (by omega)]
    have S2:=S1.add hlx hw
    refine I_ hn hw hk hnb hnd hl hf hs fuel (p+1) (q+1) _ (S2.congr fun i j hi hj=>?_) (by omega) (by omega) (by omega) (by omega) (fun S' hS'=>?_)
    ·rw[D7 hx]
     unfold Ve
     simp only[List.mem_append,List.mem_singleton]
     constructor
     ·rintro(h | ⟨rfl,h | rfl⟩ | ⟨rfl,h | rfl⟩)
      ·exact .inl (.inl (.inl h))
      ·exact .inl (.inl (.inr (.inl ⟨rfl,h⟩)))
      ·exact .inl (.inr ⟨rfl,rfl⟩)
      ·exact .inl (.inl (.inr (.inr ⟨rfl,h⟩)))
      ·exact .inr ⟨rfl,rfl⟩
     ·rintro(((h | ⟨rfl,h⟩ | ⟨rfl,h⟩) | ⟨rfl,rfl⟩) | ⟨rfl,rfl⟩)
      ·exact .inl h
      ·exact .inr (.inl ⟨rfl,.inl h⟩)
      ·exact .inr (.inr ⟨rfl,.inl h⟩)
      ·exact .inr (.inl ⟨rfl,.inr rfl⟩)
      ·exact .inr (.inr ⟨rfl,.inr rfl⟩)
    ·have:=hK S' hS'
     rw[hdrop,List.countP_cons,hfx] at this
     rw[←this]
     congr 1
     simp;omega
  ·have:p=k:=by omega
   subst this
   rw[H7 (by omega),cond_false,wS (by omega)]
   have:=hK S hS
   simpa using this
end
end Gx

namespace Gx
open Go
open IntKind (wrap)
section
variable {R:Type}
structure Gr (A:Nat→Nat→Bool):Prop where
 sym:∀ i j,A i j=A j i
 irr:∀ i,A i i=false
def Du (A:Nat→Nat→Bool) (v:Nat):Nat→Nat→Bool:=fun i j=>(i != v&&j != v)&&(A i j||(i != j&&(A v i&&A v j)))
theorem Py {A:Nat→Nat→Bool} (h:Gr A) (v:Nat):Gr (Du A v):=by
 refine⟨fun i j=>?_,fun i=>?_⟩
 ·unfold Du
  rw[h.sym i j,Bool.and_comm (i != v),Bool.and_comm (A v i)]
  congr 2
  rw[bne_comm]
 ·unfold Du;simp[h.irr]
def My (A:Nat→Nat→Bool):List Nat→List Nat→Nat
 | _,[]=>0
 | pre,w::r=>pre.countP (fun x=>!A w x)+My A (pre++[w]) r
def JA (A:Nat→Nat→Bool) (v:Nat) (P:List Nat) (i j:Nat):Prop:=(A i j=true∨(i≠j∧i ∈ P∧j ∈ P))∧¬ ((i=v∧j ∈ P)∨(j=v∧i ∈ P))
theorem QY {N n v:Nat} {A:Nat→Nat→Bool} {r0:Nat→Int→LA→LA→O R} {Y:O R} (hA:Gr A) (hn:n≤1000) (hN:2000≤N) (hv:v<n) :
  ∀ (fuel k:Nat) (o:Int) (S:List (List Int)),Sets n (JA A v ((B5 n A v).take k)) S→k≤(B5 n A v).length→(B5 n A v).length - k<fuel→0≤o→o≤1000*k →
   (∀ S',Sets n (fun i j=>Du A v i j=true) S'→r0 (B5 n A v).length (o+(My A ((B5 n A v).take k) ((B5 n A v).drop k):Nat)) (SA S') (Ab (At (B5 n A v)))=Y) →
   A4 N r0 n (v:Int) (B5 n A v).length (Ab (At (B5 n A v))) fuel o ((B5 n A v).length:Int) (k:Int) (SA S)=Y
 | 0,k,o,S,_,_,h,_,_,_=>by omega
 | fuel+1,k,o,S,hS,hk,hfu,ho0,ho,hK=>by
  have hnb:∀ x ∈ B5 n A v,x<n:=fun x hx=>(Fc.1 hx).1
  have hnd:=LY n A v
  have hlen:(B5 n A v).length≤n:=by unfold B5;exact Nat.le_trans (List.length_filter_le _ _) (by simp)
  rw[A4,E6]
  by_cases hlt:k<(B5 n A v).length
  ·obtain⟨w,hw⟩:∃ w,(B5 n A v)[k]?=some w:=⟨_,List.getElem?_eq_getElem hlt⟩
   have hwm:=List.mem_of_getElem? hw
   have hwn:=hnb w hwm
   have hAw:=(Fc.1 hwm).2
   have hwv:w≠v:=fun e=>by subst e;rw[hA.irr] at hAw;cases hAw
   have hwk:w ∉ (B5 n A v).take k:=fun hm=>by
    obtain⟨j,hj⟩:=List.getElem?_of_mem hm
    rw[List.getElem?_take] at hj
    split at hj
    ·obtain⟨h1,h2⟩:=List.getElem?_eq_some_iff.1 hw
     obtain⟨h3,h4⟩:=List.getElem?_eq_some_iff.1 hj
     have:=(List.getElem_inj hnd).1 (h4.trans h2.symm)
     omega
    ·cases hj
   have hvk:∀ m,v ∉ (B5 n A v).take m:=fun m hm=>by
    have:=(Fc.1 (List.mem_of_mem_take hm)).2
    rw[hA.irr] at this;cases this
   obtain⟨lw,hlw⟩:=hS.get hwn
   have S1:=hS.del (x:=v) hlw
   obtain⟨lv,hlv⟩:=S1.get hv
   have S2:=S1.del (x:=w) hlv
   rw[Ik (by omega),cond_true,A6 hlt,cond_true,ZC (i:=(k:Int)) (by simpa using IZ hw),A6 hwn,cond_true]
   simp only[Int.toNat_natCast]
   rw[Ri hlw,XK,A6 hv,cond_true,IY,Ri hlv,XK,IY]
   have hb:(decide ((0:Int)≤0)&&(decide ((0:Int)≤(k:Int))&&(decide ((k:Int)≤(((B5 n A v).length:Nat):Int))&&decide ((((B5 n A v).length:Nat):Int)≤(((B5 n A v).length:Nat):Int)))))=true:=by simp;omega
   rw[hb,cond_true]
   have inner:=I_ (R:=R) (N:=N) (n:=n) (w:=w) (k:=k) (c:=(v:Int)) (g:=((B5 n A v).length:Int)) (d:=(B5 n A v).length) (nb:=B5 n A v)
    (Q:=fun i j=>(JA A v ((B5 n A v).take k) i j∧¬ (i=w∧j=v))∧¬ (i=v∧j=w)) (f:=fun x=>!A w x)
    (k0:=A4 N r0 n (v:Int) (B5 n A v).length (Ab (At (B5 n A v))) fuel) (r0:=r0) (Y:=Y) hn hwn hw hnb hnd (by omega)
    (fun x hx=>by
     have hxv:x≠v:=fun e=>by subst e;exact hvk k hx
     unfold JA
     simp only[Bool.not_eq_false',hwk,hxv,hwv,false_and,and_false,or_false,not_false_eq_true,and_true])
    (fun x hx h=>by
     have hxv:x≠v:=fun e=>by subst e;exact hvk k hx
     have hxw:x≠w:=fun e=>by subst e;exact hwk hx
     unfold JA at h ⊢
     simp only[hwk,hxv,hwv,false_and,and_false,or_false,not_false_eq_true,and_true] at h ⊢
     rw[hA.sym];exact h)
   have e0:((k:Nat):Int)=((((k:Nat):Int).toNat:Nat):Int):=by simp
   refine inner N 0 o _ (S2.congr fun i j hi hj=>?_) (Nat.zero_le _) (by omega) ho0 (by omega) (fun S' hS'=>?_)
   ·unfold Ve;simp
   ·have h9:(1000:Int)*((k+1:Nat):Int)=1000*k+1000:=by omega
    have h10:(((B5 n A v).take k).countP (fun x=>!A w x))≤1000:=Nat.le_trans List.countP_le_length (by simp;omega)
    refine QY hA hn hN hv fuel (k+1) _ S' (hS'.congr fun i j hi hj=>?_) (by omega) (by omega) (by simp;omega) (by simp;omega) (fun S'' hS''=>?_)
    ·rw[D7 hw]
     unfold Ve JA
     simp only[List.mem_append,List.mem_singleton]
     constructor
     ·rintro⟨h1,h2⟩
      simp only[not_or,not_and] at h2
      by_cases hiw:i=w
      ·subst hiw
       by_cases hjk:j ∈ (B5 n A v).take k
       ·exact .inr (.inl ⟨rfl,hjk⟩)
       ·left
        have hjv:j≠v:=fun e=>by have:=(h2.2 e);simp at this
        refine⟨⟨⟨?_,?_⟩,fun h=>hjv h.2⟩,fun h=>hwv h.1⟩
        ·rcases h1 with h1 | ⟨h3,_,h5 | h5⟩
         ·exact .inl h1
         ·exact absurd h5 hjk
         ·exact absurd h5.symm h3
        ·rintro(⟨h3,_⟩ | ⟨h3,_⟩)
         ·exact hwv h3
         ·exact hjv h3
      ·by_cases hjw:j=w
       ·subst hjw
        by_cases hik:i ∈ (B5 n A v).take k
        ·exact .inr (.inr ⟨rfl,hik⟩)
        ·left
         have hiv:i≠v:=fun e=>by have:=(h2.1 e);simp at this
         refine⟨⟨⟨?_,?_⟩,fun h=>hwv h.2⟩,fun h=>hiv h.1⟩
         ·rcases h1 with h1 | ⟨h3,h4 | h4,_⟩
          ·exact .inl h1
          ·exact absurd h4 hik
          ·exact absurd h4 h3
         ·rintro(⟨h3,_⟩ | ⟨h3,_⟩)
          ·exact hiv h3
          ·exact hwv h3
       ·left
        refine⟨⟨⟨?_,?_⟩,fun h=>hiw h.1⟩,fun h=>hjw h.2⟩
        ·rcases h1 with h1 | ⟨h3,h4 | h4,h5 | h5⟩
         ·exact .inl h1
         ·exact .inr ⟨h3,h4,h5⟩
         ·exact absurd h5 hjw
         ·exact absurd h4 hiw
         ·exact absurd h4 hiw
        ·rintro(⟨h3,h4⟩ | ⟨h3,h4⟩)
         ·exact(h2.1 h3).1 h4
         ·exact(h2.2 h3).1 h4
     ·rintro(⟨⟨⟨h1,h2⟩,h3⟩,h4⟩ | ⟨rfl,h5⟩ | ⟨rfl,h5⟩)
      ·refine⟨?_,?_⟩
       ·rcases h1 with h1 | ⟨h5,h6,h7⟩
        ·exact .inl h1
        ·exact .inr ⟨h5,.inl h6,.inl h7⟩
       ·rintro(⟨h5,h6 | h6⟩ | ⟨h5,h6 | h6⟩)
        ·exact h2 (.inl ⟨h5,h6⟩)
        ·exact h4 ⟨h5,h6⟩
        ·exact h2 (.inr ⟨h5,h6⟩)
        ·exact h3 ⟨h6,h5⟩
      ·refine⟨.inr ⟨fun e=>by subst e;exact hwk h5,.inr rfl,.inl h5⟩,?_⟩
       rintro(⟨h6,_⟩ | ⟨h6,_⟩)
       ·exact hwv h6
       ·subst h6;exact hvk k h5
      ·refine⟨.inr ⟨fun e=>by subst e;exact hwk h5,.inl h5,.inr rfl⟩,?_⟩
       rintro(⟨h6,_⟩ | ⟨h6,_⟩)
       ·subst h6;exact hvk k h5
       ·exact hwv h6
    ·have:=hK S'' hS''
     rw[List.drop_eq_getElem_cons hlt,My] at this
     obtain⟨h1,h2⟩:=List.getElem?_eq_some_iff.1 hw
     rw[h2] at this
     rw[D7 hw,←this]
     congr 1
     simp;omega
  ·have hke:k=(B5 n A v).length:=by omega
   rw[H7 (by omega),cond_false]
   have:=hK S (hS.congr fun i j hi hj=>?_)
   ·rw[hke,List.take_length,List.drop_length,My] at this
    simpa using this
   ·rw[hke,List.take_length]
    unfold JA Du
    have hm:∀ x,x<n→(x ∈ B5 n A v↔A v x=true):=fun x hx=>by rw[Fc];exact⟨fun h=>h.2,fun h=>⟨hx,h⟩⟩
    rw[hm i hi,hm j hj]
    simp only[Bool.and_eq_true,Bool.or_eq_true,bne_iff_ne,ne_eq]
    constructor
    ·rintro⟨⟨h1,h2⟩,h3⟩
     exact⟨h3.imp id (fun h=>⟨h.1,h.2.1,h.2.2⟩),fun h=>by rcases h with⟨h4,_⟩ | ⟨h4,_⟩;exact h1 h4;exact h2 h4⟩
    ·rintro⟨h1,h2⟩
     simp only[not_or,not_and] at h2
     refine⟨⟨fun e=>?_,fun e=>?_⟩,h1⟩
     ·subst e
      rcases h1 with h1 | ⟨_,h4,_⟩
      ·exact h2.1 rfl h1
      ·rw[hA.irr] at h4;cases h4
     ·subst e
      rcases h1 with h1 | ⟨_,_,h4⟩
      ·exact h2.2 rfl (by rw[hA.sym];exact h1)
      ·rw[hA.irr] at h4;cases h4
theorem Lm {N n v:Nat} {A:Nat→Nat→Bool} {S:List (List Int)} {K:Nat→Int→LA→LA→O R} {Y:O R} (hA:Gr A) (hn:n≤1000) (hN:2000≤N) (hv:v<n) (hS:Sets n (fun i j=>A i j=true) S)
  (hK:∀ S',Sets n (fun i j=>Du A v i j=true) S'→K (B5 n A v).length (My A [] (B5 n A v):Nat) (SA S') (Ab (At (B5 n A v)))=Y) :
  Bc N n (v:Int) (SA S) K=Y:=by
 rw[Ic,Ei,Cb,Cd]
 obtain⟨l,hl⟩:=hS.get hv
 obtain⟨h1,h2⟩:=hS.sort hl
 have hlen:(B5 n A v).length≤n:=by unfold B5;exact Nat.le_trans (List.length_filter_le _ _) (by simp)
 have hall:(Ab l).all Yw=true:=by
  rw[List.all_eq_true]
  intro x hx
  unfold Ab at hx
  obtain⟨m,hm,rfl⟩:=List.mem_map.1 hx
  obtain⟨j,rfl,hj,_⟩:=((hS.2 v l hl).2 m).1 hm
  simp[Yw];omega
 have hsl:Si (Ab l)=Ab (At (B5 n A v)):=by unfold Si;rw[O6,h1]
 rw[A6 hv,cond_true]
 simp only[Int.toNat_natCast]
 rw[Ri hl,hall,Bw,h2,hsl]
 have hble:Nat.ble (B5 n A v).length 16777216=true:=by simp;omega
 rw[hble,Bool.and_self,cond_true]
 refine QY hA hn hN hv N 0 0 S (hS.congr fun i j hi hj=>?_) (Nat.zero_le _) (by omega) (Int.le_refl _) (by simp) (fun S' hS'=>?_)
 ·unfold JA;simp
 ·have:=hK S' hS'
  simpa using this
end
end Gx

namespace Gx
open Go
open IntKind (wrap)
section
variable {R:Type}
theorem Da {l:List Int} {k:Nat} (h:k<l.length) (K:Int→O R):L6 .i64 ((Ab l).drop (((k:Nat):Int).toNat*1)) K=K (l.getD k 0):=by
 rw[Int.toNat_natCast,Nat.mul_one]
 exact XH (by rw[List.getD_eq_getElem?_getD,List.getElem?_eq_getElem h];rfl) K
theorem Zn {l:List Int} {k:Nat} (h:k<l.length) (K:Int→O R):L6 .i64 ((Ab l).drop (0+((k:Nat):Int).toNat*1)) K=K (l.getD k 0):=by
 rw[Nat.zero_add];exact Da h K
def Ah (rows:List (List Int)) (i:Nat):List Int:=rows.getD i []
theorem JB {rows:List (List Int)} {i:Nat} (h:i<rows.length):rows[i]?=some (Ah rows i):=by
 unfold Ah;rw[List.getD_eq_getElem?_getD,List.getElem?_eq_getElem h];rfl
theorem K3 {c:LA} {rows:List (List Int)} (h:GR c rows) {k:Nat} (hk:k<rows.length) (K:LA→Nat→O R):KD 1 (c.drop (((k:Nat):Int).toNat*1)) K=K (Ab (Ah rows k)) (Ah rows k).length:=by
 rw[Int.toNat_natCast,Nat.mul_one]
 exact aY h (JB hk) K
theorem ZD {c:LA} {rows:List (List Int)} (h:GR c rows) {k:Nat} (hk:k<rows.length) (K:LA→Nat→O R):KD 1 (c.drop (0+((k:Nat):Int).toNat*1)) K=K (Ab (Ah rows k)) (Ah rows k).length:=by
 rw[Nat.zero_add];exact K3 h hk K
def Mu (n i:Nat) (r:List Int) (k:Nat):Bool:=decide (0≤r.getD k 0)&&(decide (r.getD k 0<(n:Int))&&(decide (r.getD k 0≠(i:Int))&&(decide (k=0)||decide (r.getD (k - 1) 0<r.getD k 0))))
def X0 (rows:List (List Int)) (i:Nat) (k:Nat):Bool:=decide ((i:Int) ∈ Ah rows ((Ah rows i).getD k 0).toNat)
def Dd (k m:Nat) (p:Nat→Bool):Bool:=(List.range' k m).all p
theorem Mv (k:Nat) (p:Nat→Bool):Dd k 0 p=true:=rfl
theorem Kj (k m:Nat) (p:Nat→Bool):Dd k (m+1) p=(p k&&Dd (k+1) m p):=by simp[Dd,List.range'_succ]
theorem D8 {k m:Nat} {p:Nat→Bool}:Dd k m p=true↔∀ i,k≤i→i<k+m→p i=true:=by
 unfold Dd;rw[List.all_eq_true];constructor
 ·intro h i h1 h2;exact h i (by rw[List.mem_range'_1];omega)
 ·intro h i hi;rw[List.mem_range'_1] at hi;exact h i hi.1 hi.2
def vG (rows:List (List Int)):Bool:=Dd 0 rows.length (fun i=>Dd 0 (Ah rows i).length (Mu rows.length i (Ah rows i)))&&Dd 0 rows.length (fun i=>Dd 0 (Ah rows i).length (X0 rows i))
theorem getD_some {l:List Int} {k:Nat} (h:k<l.length):l[k]?=some (l.getD k 0):=by
 rw[List.getD_eq_getElem?_getD,List.getElem?_eq_getElem h];rfl
theorem X1 {n i:Nat} {r:List Int} (h:Dd 0 r.length (Mu n i r)=true):r.Pairwise (·<·):=by
 rw[D8] at h
 have key:∀ (d k:Nat),k+d+1<r.length→r.getD k 0<r.getD (k+d+1) 0:=by
  intro d
  induction d with
  | zero =>
   intro k hk
   have:=h (k+1) (by omega) (by omega)
   simp[Mu] at this
   simpa using this.2.2.2
  | succ d ih =>
   intro k hk
   have h1:=ih k (by omega)
   have:=h (k+(d+1)+1) (by omega) (by omega)
   simp only[Mu,Bool.and_eq_true,Bool.or_eq_true,decide_eq_true_eq] at this
   have h2:=this.2.2.2.resolve_left (by omega)
   have e:k+(d+1)+1 - 1=k+d+1:=by omega
   rw[e] at h2
   omega
 rw[List.pairwise_iff_getElem]
 intro a b ha hb hab
 have:=key (b - a - 1) a (by omega)
 have e:a+(b - a - 1)+1=b:=by omega
 rw[e] at this
 have ea:=getD_some ha
 have eb:=getD_some hb
 rw[List.getElem?_eq_getElem ha] at ea
 rw[List.getElem?_eq_getElem hb] at eb
 injection ea with ea
 injection eb with eb
 omega
theorem YP {N:Nat} (x e:Int) (K:Bool→O R):Ho N x e K=K (decide (x<e)):=by
 rw[Ov];unfold Nr
 rw[M6];unfold L7
 simp
theorem NU {N:Nat} {l:List Int} {e:Int} {f g:Bool} {r0:Int→Bool→O R} {Y:O R} (hs:l.Pairwise (·<·)) (hl:l.length≤1000) (hK:∀ p,r0 p (decide (e ∈ l))=Y) :
  ∀ (fuel b i:Nat),b≤i→i≤l.length→i - b<fuel→(∀ (k:Nat),k<l.length→k<b→l.getD k 0<e)→(∀ (k:Nat),k<l.length→i≤k→e≤l.getD k 0) →
   Az N r0 (Ab l) l.length f g e fuel (l.length:Int) (b:Int) (i:Int)=Y
 | 0,_,_,_,_,h,_,_=>by omega
 | fuel+1,b,i,hbi,hil,hfu,h1,h2=>by
  have hmono:∀ (a c:Nat),a<c→c<l.length→l.getD a 0<l.getD c 0:=by
   intro a c hac hc
   have:=(List.pairwise_iff_getElem.1 hs) a c (by omega) hc hac
   have ea:=getD_some (show a<l.length by omega)
   have ec:=getD_some hc
   rw[List.getElem?_eq_getElem (by omega)] at ea ec
   injection ea with ea
   injection ec with ec
   omega
  have hmem:∀ (k:Nat),k<l.length→l.getD k 0=e→e ∈ l:=by
   intro k hk h
   rw[←h];exact List.mem_of_getElem? (getD_some hk)
  have hmem2:e ∈ l→∃ k:Nat,k<l.length∧l.getD k 0=e:=by
   intro h
   obtain⟨k,hk⟩:=List.getElem?_of_mem h
   have hkl:=(List.getElem?_eq_some_iff.1 hk).1
   exact⟨k,hkl,by rw[getD_some hkl] at hk;injection hk⟩
  rw[Az,Ch]
  by_cases hlt:b<i
  ·have hw:wrap .i64 (Int.fdiv (wrap .u64 (wrap .i64 ((b:Int)+(i:Int)))) (2 ^ 1))=(((b+i)/2:Nat):Int):=by
    have e1:wrap .i64 ((b:Int)+(i:Int))=((b+i:Nat):Int):=by rw[QX (by omega) (by omega)];omega
    have e2:wrap .u64 (((b+i:Nat):Int))=((b+i:Nat):Int):=by rw[IntKind.wrap_u64];omega
    have e3:Int.fdiv (((b+i:Nat):Int)) (2 ^ 1)=(((b+i)/2:Nat):Int):=by
     rw[Int.fdiv_eq_ediv_of_nonneg _ (by decide)];rfl
    rw[e1,e2,e3,QX (by omega) (by omega)]
   have hm:(b+i)/2<l.length:=by omega
   rw[Ik (by omega),cond_true,hw,A6 hm,cond_true,Da hm,YP,wS (by omega)]
   by_cases hx:l.getD ((b+i)/2) 0<e
   ·rw[Ik hx,cond_true]
    refine NU hs hl hK fuel ((b+i)/2+1) i (by omega) hil (by omega) (fun k hk hkb=>?_) h2
    by_cases hke:k=(b+i)/2
    ·subst hke;exact hx
    ·exact Int.lt_trans (hmono k _ (by omega) hm) hx
   ·rw[H7 hx,cond_false]
    refine NU hs hl hK fuel b ((b+i)/2) (by omega) (by omega) (by omega) h1 (fun k hk hkb=>?_)
    by_cases hke:k=(b+i)/2
    ·subst hke;omega
    ·have:=hmono ((b+i)/2) k (by omega) hk;omega
  ·have hbe:b=i:=by omega
   subst hbe
   rw[H7 (by omega),cond_false]
   by_cases hbl:b<l.length
   ·rw[Ik (by omega)]
    simp only[beq_self_eq_true,cond_true]
    rw[A6 hbl,cond_true,Da hbl]
    by_cases hx:l.getD b 0=e
    ·have hin:=hmem b hbl hx
     have:=hK (b:Int)
     rw[decide_eq_true hin] at this
     simp only[hx,beq_self_eq_true,Bool.true_eq_false,beq_iff_eq]
     simpa using this
    ·have hno:e ∉ l:=fun h=>by
      obtain⟨k,hk,hke⟩:=hmem2 h
      by_cases hkb:k<b
      ·have:=h1 k hk hkb;omega
      ·by_cases hkb2:k=b
       ·subst hkb2;exact hx hke
       ·have:=hmono b k (by omega) hk
        have:=h2 b hbl (Nat.le_refl _)
        omega
     have:=hK (b:Int)
     rw[decide_eq_false hno] at this
     have hbf:(l.getD b 0==e)=false:=by simpa using hx
     rw[hbf]
     simp only[beq_self_eq_true,cond_true]
     rw[Da hbl,O2]
     unfold Nt
     simpa using this
   ·have hno:e ∉ l:=fun h=>by
     obtain⟨k,hk,hke⟩:=hmem2 h
     have:=h1 k hk (by omega);omega
    have:=hK (b:Int)
    rw[decide_eq_false hno] at this
    rw[H7 (by omega)]
    simpa using this
theorem bU {N:Nat} {l:List Int} {e:Int} {f g:Bool} {r0:Int→Bool→O R} {Y:O R} (hN:2000≤N) (hs:l.Pairwise (·<·)) (hl:l.length≤1000) (hK:∀ p,r0 p (decide (e ∈ l))=Y) :
  A8 N (Ab l) l.length f g e r0=Y:=by
 rw[Es,B7]
 exact NU hs hl hK N 0 l.length (Nat.zero_le _) (Nat.le_refl _) (by omega) (fun k _ h=>by omega) (fun k h1 h2=>by omega)
end
end Gx

namespace Gx
open Go
open IntKind (wrap)
section
variable {R:Type}
theorem JC {r:List Int} {k:Nat} {n:Nat} (h0:0≤r.getD k 0) (h:r.getD k 0<(n:Int)):r.getD k 0=(((r.getD k 0).toNat:Nat):Int)∧(r.getD k 0).toNat<n:=by omega
theorem ZE {N n i:Nat} {f s:Int} {r:List Int} {d:LA} {e c:Bool} {k0:Int→Int→O R} {r0:Bool→O R} (hr:r.length≤1000) :
  ∀ (fuel l:Nat),l≤r.length→r.length - l<fuel→G4 N k0 r0 d n e c (Ab r) r.length f fuel (i:Int) s (r.length:Int) (l:Int)=cond (Dd l (r.length - l) (Mu n i r)) (k0 f (wrap .i64 (s+1))) (r0 false)
 | 0,_,_,h=>by omega
 | fuel+1,l,hl,hf=>by
  rw[G4,Qt]
  by_cases hlt:l<r.length
  ·rw[Ik (by omega),cond_true,A6 hlt,cond_true,Da hlt]
   have e1:r.length - l=(r.length - (l+1))+1:=by omega
   rw[e1,Kj]
   have ih:=ZE (N:=N) (n:=n) (i:=i) (f:=f) (s:=s) (d:=d) (e:=e) (c:=c) (k0:=k0) (r0:=r0) hr fuel (l+1) (by omega) (by omega)
   unfold Mu at ih ⊢
   by_cases a1:r.getD l 0<0
   ·rw[Ik a1,decide_eq_false (show ¬ 0≤r.getD l 0 by omega)];rfl
   ·rw[H7 a1,decide_eq_true (show 0≤r.getD l 0 by omega)]
    by_cases a2:r.getD l 0<(n:Int)
    ·rw[Ik a2,decide_eq_false (show ¬ r.getD l 0≥(n:Int) by omega)]
     by_cases a3:r.getD l 0=(i:Int)
     ·rw[decide_eq_false (show ¬ r.getD l 0≠(i:Int) by simpa using a3),beq_iff_eq.2 a3];rfl
     ·have hb:(r.getD l 0==(i:Int))=false:=by simpa using a3
      rw[decide_eq_true (show r.getD l 0≠(i:Int) from a3),hb]
      simp only[cond_true,cond_false,beq_self_eq_true,Bool.true_and]
      by_cases a4:l=0
      ·subst a4
       rw[H7 (by omega)]
       rw[wS (by omega),ih]
       rfl
      ·have e2:wrap .i64 ((l:Int) - 1)=((l - 1:Nat):Int):=by rw[QX (by omega) (by omega)];omega
       rw[Ik (by omega)]
       simp only[beq_self_eq_true,cond_true]
       rw[e2,A6 (by omega),cond_true,Da (by omega),decide_eq_false a4,Bool.false_or]
       by_cases a5:r.getD (l - 1) 0<r.getD l 0
       ·rw[decide_eq_false (show ¬ r.getD (l - 1) 0≥r.getD l 0 by omega),decide_eq_true a5]
        simp only[cond_true,cond_false,Bool.true_and]
        rw[wS (by omega),ih]
       ·rw[decide_eq_true (show r.getD (l - 1) 0≥r.getD l 0 by omega),decide_eq_false a5];rfl
    ·rw[H7 a2,decide_eq_true (show r.getD l 0≥(n:Int) by omega)];rfl
  ·have hle:l=r.length:=by omega
   rw[H7 (by omega),cond_false,hle,Nat.sub_self,Mv,cond_true]
theorem ZF {N i:Nat} {g x:Int} {rows:List (List Int)} {d:LA} {e c:Bool} {k2:Int→Int→O R} {r0:Bool→O R} (hN:2000≤N) (hd:GR d rows) (hrl:∀ j,(Ah rows j).length≤1000)
  (hok:∀ j,j<rows.length→Dd 0 (Ah rows j).length (Mu rows.length j (Ah rows j))=true) (hi:i<rows.length) :
  ∀ (fuel q:Nat),q≤(Ah rows i).length→(Ah rows i).length - q<fuel→G5 N k2 r0 d rows.length e c g (Ab (Ah rows i)) (Ah rows i).length fuel (i:Int) x ((Ah rows i).length:Int) (q:Int)=cond (Dd q ((Ah rows i).length - q) (X0 rows i)) (k2 g (wrap .i64 (x+1))) (r0 false)
 | 0,_,_,h=>by omega
 | fuel+1,q,hl,hf=>by
  have hr:=hrl i
  rw[G5,Qu]
  by_cases hlt:q<(Ah rows i).length
  ·rw[Ik (by omega),cond_true,A6 hlt,cond_true,Da hlt]
   have e1:(Ah rows i).length - q=((Ah rows i).length - (q+1))+1:=by omega
   rw[e1,Kj]
   have h1:=(D8.1 (hok i hi)) q (Nat.zero_le _) (by omega)
   simp only[Mu,Bool.and_eq_true,decide_eq_true_eq] at h1
   obtain⟨h2,h3⟩:=JC h1.1 h1.2.1
   unfold X0
   rw[h2,A6 h3,cond_true,K3 hd h3]
   refine bU hN (X1 (hok _ h3)) (hrl _) (fun p=>?_)
   rw[Int.toNat_natCast]
   have ih:=ZF (N:=N) (x:=x) (g:=g) (e:=e) (c:=c) (k2:=k2) (r0:=r0) hN hd hrl hok hi fuel (q+1) (by omega) (by omega)
   unfold X0 at ih
   rw[wS (by omega),ih]
   cases decide ((i:Int) ∈ Ah rows ((Ah rows i).getD q 0).toNat)<;>rfl
  ·have hle:q=(Ah rows i).length:=by omega
   rw[H7 (by omega),cond_false,hle,Nat.sub_self,Mv,cond_true]
theorem ZG {N:Nat} {rows:List (List Int)} {d:LA} {e c:Bool} {r0:Bool→O R} (hN:2000≤N) (hd:GR d rows) (hn:rows.length≤1000) (hrl:∀ j,(Ah rows j).length≤1000)
  (hok:∀ j,j<rows.length→Dd 0 (Ah rows j).length (Mu rows.length j (Ah rows j))=true) :
  ∀ (fuel m:Nat),m≤rows.length→rows.length - m<fuel→Ff N r0 d rows.length e c fuel (rows.length:Int) (m:Int)=r0 (Dd m (rows.length - m) (fun i=>Dd 0 (Ah rows i).length (X0 rows i)))
 | 0,_,_,h=>by omega
 | fuel+1,m,hl,hf=>by
  rw[Ff,Qv]
  by_cases hlt:m<rows.length
  ·have e1:rows.length - m=(rows.length - (m+1))+1:=by omega
   have hr:=hrl m
   rw[Ik (by omega),cond_true,A6 hlt,cond_true,K3 hd hlt]
   have:=ZF (N:=N) (i:=m) (g:=(rows.length:Int)) (x:=(m:Int)) (e:=e) (c:=c) (k2:=Ff N r0 d rows.length e c fuel) (r0:=r0) hN hd hrl hok hlt N 0 (Nat.zero_le _) (by omega)
   refine Eq.trans this ?_
   rw[wS (by omega),ZG hN hd hn hrl hok fuel (m+1) (by omega) (by omega),e1,Kj,Nat.sub_zero]
   cases Dd 0 (Ah rows m).length (X0 rows m)<;>rfl
  ·have hle:m=rows.length:=by omega
   rw[H7 (by omega),cond_false,hle,Nat.sub_self,Mv]
theorem ZH {N:Nat} {rows:List (List Int)} {d:LA} {e c:Bool} {r0:Bool→O R} (hN:2000≤N) (hd:GR d rows) (hn:rows.length≤1000) (hrl:∀ j,(Ah rows j).length≤1000) :
  ∀ (fuel m:Nat),m≤rows.length→rows.length - m<fuel→(∀ j,j<m→Dd 0 (Ah rows j).length (Mu rows.length j (Ah rows j))=true) →
   Fg N r0 d rows.length e c fuel (rows.length:Int) (m:Int)=r0 (Dd m (rows.length - m) (fun i=>Dd 0 (Ah rows i).length (Mu rows.length i (Ah rows i)))&&Dd 0 rows.length (fun i=>Dd 0 (Ah rows i).length (X0 rows i)))
 | 0,_,_,h,_=>by omega
 | fuel+1,m,hl,hf,hj=>by
  rw[Fg,Qw]
  by_cases hlt:m<rows.length
  ·have e1:rows.length - m=(rows.length - (m+1))+1:=by omega
   have hr:=hrl m
   rw[Ik (by omega),cond_true,A6 hlt,cond_true,K3 hd hlt]
   refine Eq.trans (ZE (hrl m) N 0 (Nat.zero_le _) (by omega)) ?_
   rw[Nat.sub_zero,e1,Kj]
   cases hb:Dd 0 (Ah rows m).length (Mu rows.length m (Ah rows m)) with
   | false=>rfl
   | true =>
    rw[cond_true,wS (by omega),ZH hN hd hn hrl fuel (m+1) (by omega) (by omega) (fun j h=>?_),Bool.true_and]
    by_cases hjm:j=m
    ·subst hjm;exact hb
    ·exact hj j (by omega)
  ·have hle:m=rows.length:=by omega
   subst hle
   rw[H7 (by omega),cond_false,Nat.sub_self,Mv,Bool.true_and]
   exact ZG hN hd hn hrl hj N 0 (Nat.zero_le _) (by omega)
theorem Ka {N:Nat} {rows:List (List Int)} {d:LA} {e c:Bool} {r0:Bool→O R} (hN:2000≤N) (hd:GR d rows) (hn:rows.length≤1000) (hrl:∀ j,(Ah rows j).length≤1000) :
  Gh N d rows.length e c r0=r0 (vG rows):=by
 rw[Yu,Vy,H7 (by omega),cond_false]
 have:=ZH (e:=e) (c:=c) (r0:=r0) hN hd hn hrl N 0 (Nat.zero_le _) (by omega) (fun j h=>by omega)
 rw[Nat.sub_zero] at this
 exact this
theorem XL {N:Nat} {l:List Int} {e f:Bool} {v:Int} {r0:Bool→O R} (hl:l.length≤1000) :
  ∀ (fuel k:Nat),k≤l.length→l.length - k<fuel→I7 N r0 (Ab l) l.length e f v fuel (k:Int)=r0 (decide (v ∈ l.drop k))
 | 0,_,_,h=>by omega
 | fuel+1,k,hk,hf=>by
  rw[I7,U6]
  by_cases hlt:k<l.length
  ·rw[Ik (by omega),cond_true,A6 hlt,cond_true,Da hlt]
   have e1:l.drop k=l.getD k 0::l.drop (k+1):=by
    rw[List.drop_eq_getElem_cons hlt];congr 1
    have:=getD_some hlt
    rw[List.getElem?_eq_getElem hlt] at this;injection this
   rw[e1]
   by_cases h:l.getD k 0=v
   ·rw[beq_iff_eq.2 h,cond_true,decide_eq_true]
    rw[h];exact List.mem_cons_self
   ·have hb:(l.getD k 0==v)=false:=by simpa using h
    rw[hb,cond_false,wS (by omega),XL hl fuel (k+1) (by omega) (by omega)]
    congr 1
    have hv:¬ v=l.getD k 0:=fun e=>h e.symm
    by_cases h2:v ∈ l.drop (k+1)
    ·rw[decide_eq_true h2,decide_eq_true (List.mem_cons_of_mem _ h2)]
    ·rw[decide_eq_false h2,decide_eq_false (fun h3=>by rcases List.mem_cons.1 h3 with h3 | h3;exact hv h3;exact h2 h3)]
  ·rw[H7 (by omega),cond_false,List.drop_of_length_le (by omega)];rfl
theorem XM {N:Nat} {l:List Int} {e f:Bool} {v:Int} {r0:Bool→O R} (hN:2000≤N) (hl:l.length≤1000):Ng N (Ab l) l.length e f v r0=r0 (decide (v ∈ l)):=by
 rw[CX,Yz]
 exact XL hl N 0 (Nat.zero_le _) (by omega)
theorem ZI {N i:Nat} {rows:List (List Int)} {d:LA} {e c:Bool} {k0:Int→O R} {r0:Bool→O R} (hd:GR d rows) (hn:rows.length≤1000) (hrl:∀ j,(Ah rows j).length≤1000) (hi:i<rows.length) :
  ∀ (fuel l:Nat),l≤(Ah rows i).length→(Ah rows i).length - l<fuel→F0 N k0 r0 d rows.length e c fuel (i:Int) (l:Int)=cond (Dd l ((Ah rows i).length - l) (Mu rows.length i (Ah rows i))) (k0 ((i+1:Nat):Int)) (r0 false)
 | 0,_,_,h=>by omega
 | fuel+1,l,hl,hf=>by
  have hr:=hrl i
  rw[F0,Nw,A6 hi,cond_true,K3 hd hi]
  by_cases hlt:l<(Ah rows i).length
  ·rw[Ik (by omega),cond_true,cond_true,K3 hd hi,A6 hlt,cond_true,Da hlt]
   have e1:(Ah rows i).length - l=((Ah rows i).length - (l+1))+1:=by omega
   rw[e1,Kj]
   have ih:=ZI (N:=N) (e:=e) (c:=c) (k0:=k0) (r0:=r0) hd hn hrl hi fuel (l+1) (by omega) (by omega)
   unfold Mu at ih ⊢
   by_cases a1:(Ah rows i).getD l 0<0
   ·rw[Ik a1,decide_eq_false (show ¬ 0≤(Ah rows i).getD l 0 by omega)];rfl
   ·rw[H7 a1,decide_eq_true (show 0≤(Ah rows i).getD l 0 by omega)]
    by_cases a2:(Ah rows i).getD l 0<(rows.length:Int)
    ·rw[Ik a2,decide_eq_false (show ¬ (Ah rows i).getD l 0≥(rows.length:Int) by omega)]
     by_cases a3:(Ah rows i).getD l 0=(i:Int)
     ·rw[decide_eq_false (show ¬ (Ah rows i).getD l 0≠(i:Int) by simpa using a3),beq_iff_eq.2 a3];rfl
     ·have hb:((Ah rows i).getD l 0==(i:Int))=false:=by simpa using a3
      rw[decide_eq_true (show(Ah rows i).getD l 0≠(i:Int) from a3),hb]
      simp only[cond_true,cond_false,beq_self_eq_true,Bool.true_and]
      by_cases a4:l=0
      ·subst a4
       rw[H7 (by omega)]
       rw[wS (by omega),ih]
       rfl
      ·have e2:wrap .i64 ((l:Int) - 1)=((l - 1:Nat):Int):=by rw[QX (by omega) (by omega)];omega
       rw[Ik (by omega)]
       simp only[beq_self_eq_true,cond_true]
       rw[K3 hd hi,e2,A6 (by omega),cond_true,Da (by omega),decide_eq_false a4,Bool.false_or]
       by_cases a5:(Ah rows i).getD (l - 1) 0<(Ah rows i).getD l 0
       ·rw[decide_eq_false (show ¬ (Ah rows i).getD l 0≤(Ah rows i).getD (l - 1) 0 by omega),decide_eq_true a5]
        simp only[cond_true,cond_false,Bool.true_and]
        rw[wS (by omega),ih]
       ·rw[decide_eq_true (show(Ah rows i).getD l 0≤(Ah rows i).getD (l - 1) 0 by omega),decide_eq_false a5];rfl
    ·rw[H7 a2,decide_eq_true (show(Ah rows i).getD l 0≥(rows.length:Int) by omega)];rfl
  ·have hle:l=(Ah rows i).length:=by omega
   rw[H7 (by omega),cond_false,hle,Nat.sub_self,Mv,cond_true,wS (by omega)]
theorem ZJ {N i:Nat} {rows:List (List Int)} {d:LA} {e c:Bool} {k2:Int→O R} {r0:Bool→O R} (hN:2000≤N) (hd:GR d rows) (hn:rows.length≤1000) (hrl:∀ j,(Ah rows j).length≤1000)
  (hok:∀ j,j<rows.length→Dd 0 (Ah rows j).length (Mu rows.length j (Ah rows j))=true) (hi:i<rows.length) :
  ∀ (fuel q:Nat),q≤(Ah rows i).length→(Ah rows i).length - q<fuel→F1 N k2 r0 d rows.length e c fuel (i:Int) (q:Int)=cond (Dd q ((Ah rows i).length - q) (X0 rows i)) (k2 ((i+1:Nat):Int)) (r0 false)
 | 0,_,_,h=>by omega
 | fuel+1,q,hl,hf=>by
  have hr:=hrl i
  rw[F1,Nx,A6 hi,cond_true,K3 hd hi]
  by_cases hlt:q<(Ah rows i).length
  ·rw[Ik (by omega),cond_true,cond_true,K3 hd hi,A6 hlt,cond_true,Da hlt]
   have e1:(Ah rows i).length - q=((Ah rows i).length - (q+1))+1:=by omega
   rw[e1,Kj]
   have h1:=(D8.1 (hok i hi)) q (Nat.zero_le _) (by omega)
   simp only[Mu,Bool.and_eq_true,decide_eq_true_eq] at h1
   obtain⟨h2,h3⟩:=JC h1.1 h1.2.1
   unfold X0
   rw[h2,A6 h3,cond_true,K3 hd h3,XM hN (hrl _)]
   rw[Int.toNat_natCast]
   have ih:=ZJ (N:=N) (e:=e) (c:=c) (k2:=k2) (r0:=r0) hN hd hn hrl hok hi fuel (q+1) (by omega) (by omega)
   unfold X0 at ih
   rw[wS (by omega),ih]
   cases decide ((i:Int) ∈ Ah rows ((Ah rows i).getD q 0).toNat)<;>rfl
  ·have hle:q=(Ah rows i).length:=by omega
   rw[H7 (by omega),cond_false,hle,Nat.sub_self,Mv,cond_true,wS (by omega)]
theorem ZK {N:Nat} {rows:List (List Int)} {d:LA} {e c:Bool} {r0:Bool→O R} (hN:2000≤N) (hd:GR d rows) (hn:rows.length≤1000) (hrl:∀ j,(Ah rows j).length≤1000)
  (hok:∀ j,j<rows.length→Dd 0 (Ah rows j).length (Mu rows.length j (Ah rows j))=true) :
  ∀ (fuel m:Nat),m≤rows.length→rows.length - m<fuel→F2 N r0 d rows.length e c fuel (m:Int)=r0 (Dd m (rows.length - m) (fun i=>Dd 0 (Ah rows i).length (X0 rows i)))
 | 0,_,_,h=>by omega
 | fuel+1,m,hl,hf=>by
  rw[F2,Ny]
  by_cases hlt:m<rows.length
  ·have e1:rows.length - m=(rows.length - (m+1))+1:=by omega
   have hr:=hrl m
   rw[Ik (by omega),cond_true]
   refine Eq.trans (ZJ hN hd hn hrl hok hlt N 0 (Nat.zero_le _) (by omega)) ?_
   rw[ZK hN hd hn hrl hok fuel (m+1) (by omega) (by omega),e1,Kj,Nat.sub_zero]
   cases Dd 0 (Ah rows m).length (X0 rows m)<;>rfl
  ·have hle:m=rows.length:=by omega
   rw[H7 (by omega),cond_false,hle,Nat.sub_self,Mv]
theorem ZL {N:Nat} {rows:List (List Int)} {d:LA} {e c:Bool} {r0:Bool→O R} (hN:2000≤N) (hd:GR d rows) (hn:rows.length≤1000) (hrl:∀ j,(Ah rows j).length≤1000) :
  ∀ (fuel m:Nat),m≤rows.length→rows.length - m<fuel→(∀ j,j<m→Dd 0 (Ah rows j).length (Mu rows.length j (Ah rows j))=true) →
   El N r0 d rows.length e c fuel (m:Int)=r0 (Dd m (rows.length - m) (fun i=>Dd 0 (Ah rows i).length (Mu rows.length i (Ah rows i)))&&Dd 0 rows.length (fun i=>Dd 0 (Ah rows i).length (X0 rows i)))
 | 0,_,_,h,_=>by omega
 | fuel+1,m,hl,hf,hj=>by
  rw[El,Nz]
  by_cases hlt:m<rows.length
  ·have e1:rows.length - m=(rows.length - (m+1))+1:=by omega
   have hr:=hrl m
   rw[Ik (by omega),cond_true]
   refine Eq.trans (ZI hd hn hrl hlt N 0 (Nat.zero_le _) (by omega)) ?_
   rw[Nat.sub_zero,e1,Kj]
   cases hb:Dd 0 (Ah rows m).length (Mu rows.length m (Ah rows m)) with
   | false=>rfl
   | true =>
    rw[cond_true,ZL hN hd hn hrl fuel (m+1) (by omega) (by omega) (fun j h=>?_),Bool.true_and]
    by_cases hjm:j=m
    ·subst hjm;exact hb
    ·exact hj j (by omega)
  ·have hle:m=rows.length:=by omega
   subst hle
   rw[H7 (by omega),cond_false,Nat.sub_self,Mv,Bool.true_and]
   exact ZK hN hd hn hrl hj N 0 (Nat.zero_le _) (by omega)
theorem H8 {N:Nat} {rows:List (List Int)} {d:LA} {e c:Bool} {r0:Bool→O R} (hN:2000≤N) (hd:GR d rows) (hn:rows.length≤1000) (hrl:∀ j,(Ah rows j).length≤1000) :
  E3 N d rows.length e c r0=r0 (vG rows):=by
 rw[W4,Q5,H7 (by omega),cond_false]
 have:=ZL (e:=e) (c:=c) (r0:=r0) hN hd hn hrl N 0 (Nat.zero_le _) (by omega) (fun j h=>by omega)
 rw[Nat.sub_zero] at this
 exact this
end
end Gx

namespace Gx
open Go
open IntKind (wrap)
section
variable {R:Type}
def Hf (rows:List (List Int)) (i j:Nat):Bool:=decide ((j:Int) ∈ Ah rows i)
theorem Mw {rows:List (List Int)} {i:Nat} (h:¬ i<rows.length):Ah rows i=[]:=by
 unfold Ah;rw[List.getD_eq_getElem?_getD,List.getElem?_eq_none (by omega)];rfl
theorem JD {l:List Int} {x:Int} (h:x ∈ l):∃ k:Nat,k<l.length∧l.getD k 0=x:=by
 obtain⟨k,hk⟩:=List.getElem?_of_mem h
 have hkl:=(List.getElem?_eq_some_iff.1 hk).1
 exact⟨k,hkl,by rw[getD_some hkl] at hk;injection hk⟩
theorem JE {rows:List (List Int)} (h:vG rows=true) {i:Nat}:Dd 0 (Ah rows i).length (Mu rows.length i (Ah rows i))=true:=by
 unfold vG at h
 rw[Bool.and_eq_true] at h
 by_cases hi:i<rows.length
 ·exact(D8.1 h.1) i (Nat.zero_le _) (by omega)
 ·rw[Mw hi];rfl
theorem BF {rows:List (List Int)} (h:vG rows=true) {i:Nat} {x:Int} (hx:x ∈ Ah rows i):∃ j:Nat,x=(j:Int)∧j<rows.length∧j≠i∧i<rows.length:=by
 have hi:i<rows.length:=by
  by_cases hi:i<rows.length
  ·exact hi
  ·rw[Mw hi] at hx;cases hx
 obtain⟨k,hk,rfl⟩:=JD hx
 have:=(D8.1 (JE h (i:=i))) k (Nat.zero_le _) (by omega)
 simp only[Mu,Bool.and_eq_true,decide_eq_true_eq] at this
 exact⟨((Ah rows i).getD k 0).toNat,by omega,by omega,by omega,hi⟩
theorem YQ {rows:List (List Int)} (h:vG rows=true) {i j:Nat} (hij:Hf rows i j=true):i<rows.length∧j<rows.length:=by
 unfold Hf at hij
 obtain⟨k,h1,h2,_,h4⟩:=BF h (of_decide_eq_true hij)
 omega
theorem JF {rows:List (List Int)} (h:vG rows=true) {i j:Nat} (hij:Hf rows i j=true):Hf rows j i=true:=by
 have hl:=YQ h hij
 unfold Hf at hij ⊢
 obtain⟨k,hk,hke⟩:=JD (of_decide_eq_true hij)
 unfold vG at h
 rw[Bool.and_eq_true] at h
 have:=(D8.1 ((D8.1 h.2) i (Nat.zero_le _) (by omega))) k (Nat.zero_le _) (by omega)
 unfold X0 at this
 rw[hke,Int.toNat_natCast] at this
 exact this
theorem DK {rows:List (List Int)} (h:vG rows=true):Gr (Hf rows):=by
 refine⟨fun i j=>?_,fun i=>?_⟩
 ·cases h1:Hf rows i j with
  | true=>exact(JF h h1).symm
  | false =>
   cases h2:Hf rows j i with
   | false=>rfl
   | true=>rw[JF h h2] at h1;cases h1
 ·cases h1:Hf rows i i with
  | false=>rfl
  | true =>
   obtain⟨k,h2,_,h4,_⟩:=BF h (of_decide_eq_true h1)
   omega
theorem aZ {rows:List (List Int)} (h:vG rows=true) (i:Nat):Ah rows i=At (B5 rows.length (Hf rows) i):=by
 have hp:=X1 (JE h (i:=i))
 have hq:(At (B5 rows.length (Hf rows) i)).Pairwise (·<·):=by
  unfold At B5
  rw[List.pairwise_map]
  exact(List.pairwise_lt_range.sublist List.filter_sublist).imp (fun h=>by omega)
 have hnd:∀ {l:List Int},l.Pairwise (·<·)→l.Nodup:=fun h=>h.imp (fun h=>by omega)
 have hperm:(Ah rows i).Perm (At (B5 rows.length (Hf rows) i)):=(List.perm_ext_iff_of_nodup (hnd hp) (hnd hq)).2 (fun x=>by
  unfold At
  rw[List.mem_map]
  constructor
  ·intro hx
   obtain⟨j,rfl,h2,h3,h4⟩:=BF h hx
   exact⟨j,Fc.2 ⟨h2,decide_eq_true hx⟩,rfl⟩
  ·rintro⟨j,hj,rfl⟩
   exact of_decide_eq_true (Fc.1 hj).2)
 exact List.Perm.eq_of_pairwise (le:=fun a b:Int=>a<b) (fun a b _ _ h3 h4=>by omega) hp hq hperm
theorem FF {rows:List (List Int)} (h:vG rows=true):Sets rows.length (fun i j=>Hf rows i j=true) rows:=by
 refine⟨rfl,fun i l hl=>?_⟩
 have hi:=(List.getElem?_eq_some_iff.1 hl).1
 have e:l=Ah rows i:=by rw[JB hi] at hl;injection hl with hl;exact hl.symm
 subst e
 refine⟨(X1 (JE h (i:=i))).imp (fun h=>by omega),fun x=>?_⟩
 constructor
 ·intro hx
  obtain⟨j,rfl,h2,_,_⟩:=BF h hx
  exact⟨j,rfl,h2,decide_eq_true hx⟩
 ·rintro⟨j,rfl,_,hj⟩;exact of_decide_eq_true hj
theorem BG {rows:List (List Int)} (h:vG rows=true) (i:Nat):(Ah rows i).length≤rows.length:=by
 rw[aZ h i,Bm]
 unfold B5;exact Nat.le_trans (List.length_filter_le _ _) (by simp)
theorem a_ (S T:List (List Int)):SA (S++T)=SA S++SA T:=by simp[SA]
theorem bA {P:List (List Int)} {a:List Int} {t:LA} (K:LA→O R):S_ ((SA (P++[a])++t).drop P.length) K=K (Ab a):=by
 unfold S_
 rw[List.head?_drop,List.getElem?_append_left (by simp[SA])]
 simp[SA,N7,Bd]
theorem bB {P:List (List Int)} {a b:List Int} {t:LA}:(SA (P++[a])++t).set P.length (Bd (Ab b) 0 0)=SA (P++[b])++t:=by
 rw[List.set_append_left _ _ (by simp[SA])]
 congr 1
 rw[IY];congr 1
 rw[List.set_append_right _ _ (Nat.le_refl _)]
 simp
theorem bC {P:List (List Int)} {k:Nat}:(SA P++List.replicate (k+1) AV.nsl).set P.length (Bd [] 0 0)=SA (P++[[]])++List.replicate k AV.nsl:=by
 rw[List.set_append_right _ _ (by simp[SA]),a_]
 simp[SA,List.replicate_succ,Ab]
theorem XN {l:List Int} (h:l.Nodup) {k:Nat} (hk:k<l.length):VR (l.take k) (l.getD k 0)=l.take (k+1):=by
 unfold VR
 rw[D7 (getD_some hk),if_neg]
 intro hm
 obtain⟨j,hj⟩:=List.getElem?_of_mem hm
 rw[List.getElem?_take] at hj
 split at hj
 ·have h2:=getD_some hk
  obtain⟨h3,h4⟩:=List.getElem?_eq_some_iff.1 hj
  obtain⟨h5,h6⟩:=List.getElem?_eq_some_iff.1 h2
  have:=(List.getElem_inj h).1 (h4.trans h6.symm)
  omega
 ·cases hj
theorem ZM {N n:Nat} {f:Int} {r:List Int} {P:List (List Int)} {t c:LA} {e d:Bool} {k0:Int→Int→LA→O R} {r0:LA→O R} (hr:r.length≤1000) (hnd:r.Nodup) (hP:P.length<n) (hn:n≤1000) :
  ∀ (fuel m:Nat),m≤r.length→r.length - m<fuel→E1 N k0 r0 n c e d f (Ab r) r.length fuel (P.length:Int) (P.length:Int) (r.length:Int) (m:Int) (SA (P++[r.take m])++t)=k0 f ((P.length+1:Nat):Int) (SA (P++[r])++t)
 | 0,_,_,h=>by omega
 | fuel+1,m,hm,hf=>by
  rw[E1,L9]
  by_cases hlt:m<r.length
  ·rw[Ik (by omega),cond_true,A6 hlt,cond_true,Da hlt,A6 hP,cond_true,Int.toNat_natCast,bA,TL,bB,XN hnd hlt,wS (by omega)]
   exact ZM hr hnd hP hn fuel (m+1) (by omega) (by omega)
  ·have:m=r.length:=by omega
   subst this
   rw[H7 (by omega),cond_false,List.take_length,wS (by omega)]
theorem ZN {N:Nat} {rows:List (List Int)} {c:LA} {e d:Bool} {r0:LA→O R} (hN:2000≤N) (hc:GR c rows) (hn:rows.length≤1000) (hrl:∀ j,(Ah rows j).length≤1000) (hnd:∀ j,(Ah rows j).Nodup) :
  ∀ (fuel g:Nat),g≤rows.length→rows.length - g<fuel→Cy N r0 rows.length c e d fuel (rows.length:Int) (g:Int) (SA (rows.take g)++List.replicate (rows.length - g) AV.nsl)=r0 (SA rows)
 | 0,_,_,h=>by omega
 | fuel+1,g,hg,hf=>by
  rw[Cy,Ma]
  by_cases hlt:g<rows.length
  ·have hr:=hrl g
   have e1:rows.length - g=(rows.length - (g+1))+1:=by omega
   have e2:(rows.take g).length=g:=by simp;omega
   rw[Ik (by omega),cond_true,A6 hlt,cond_true,K3 hc hlt,cond_true,Int.toNat_natCast,e1]
   have h1:=bC (P:=rows.take g) (k:=rows.length - (g+1))
   rw[e2] at h1
   rw[h1]
   have h2:=ZM (N:=N) (f:=(rows.length:Int)) (P:=rows.take g) (t:=List.replicate (rows.length - (g+1)) AV.nsl) (c:=c) (e:=e) (d:=d) (k0:=Cy N r0 rows.length c e d fuel) (r0:=r0) (n:=rows.length) hr (hnd g) (by omega) hn N 0 (Nat.zero_le _) (by omega)
   rw[e2] at h2
   rw[List.take_zero] at h2
   refine Eq.trans h2 ?_
   rw[←D7 (JB hlt)]
   exact ZN hN hc hn hrl hnd fuel (g+1) (by omega) (by omega)
  ·have:g=rows.length:=by omega
   subst this
   rw[H7 (by omega),cond_false];simp
theorem Rj {N:Nat} {rows:List (List Int)} {c:LA} {e d:Bool} {r0:LA→O R} (hN:2000≤N) (hc:GR c rows) (hn:rows.length≤1000) (hv:vG rows=true):Eh N c rows.length e d r0=r0 (SA rows):=by
 rw[Us,Na]
 have hb:(decide (0≤((rows.length:Nat):Int))&&(decide (((rows.length:Nat):Int)=((rows.length:Nat):Int))&&(decide (((rows.length:Nat):Int)≤140737488355328)&&decide (((rows.length:Nat):Int)*((8:Nat):Int)≤140737488355328))))=true:=by simp;omega
 rw[hb,cond_true]
 have:=ZN (e:=e) (d:=d) (r0:=r0) hN hc hn (fun j=>Nat.le_trans (BG hv j) hn) (fun j=>(X1 (JE hv (i:=j))).imp (fun h=>by omega)) N 0 (Nat.zero_le _) (by omega)
 rw[List.take_zero,Nat.sub_zero] at this
 exact this
end
end Gx

namespace Gx
open Go
open IntKind (wrap)
section
variable {R:Type}
def V_ (n:Nat) (ord:List Int) (k:Nat):Bool:=decide (0≤ord.getD k 0)&&(decide (ord.getD k 0<(n:Int))&&!decide (ord.getD k 0 ∈ ord.take k))
def pG (n:Nat) (ord:List Int):Bool:=decide (ord.length=n)&&Dd 0 ord.length (V_ n ord)
def XO (n:Nat) (ord:List Int) (P:List Int):Prop:=P.length=n∧∀ k:Nat,k<ord.length→P.getD (ord.getD k 0).toNat 0=(k:Int)
theorem Vf {P:List Int} {i j:Nat} {x:Int} (h:i<P.length):(P.set i x).getD j 0=if j=i then x else P.getD j 0:=by
 rw[List.getD_eq_getElem?_getD,List.getD_eq_getElem?_getD]
 by_cases e:j=i
 ·subst e;rw[if_pos rfl,List.getElem?_set_self h];rfl
 ·rw[if_neg e,List.getElem?_set_ne (Ne.symm e)]
theorem QZ {l:List Int} {k m:Nat} (h:k<l.length) (hk:k<m):l.getD k 0 ∈ l.take m :=
 List.mem_of_getElem? (i:=k) (by rw[List.getElem?_take_of_lt hk];exact getD_some h)
theorem XP {l:List Int} {m:Nat} {x:Int} (h:x ∈ l.take m):∃ k:Nat,k<m∧k<l.length∧l.getD k 0=x:=by
 obtain⟨k,hk⟩:=List.getElem?_of_mem h
 rw[List.getElem?_take] at hk
 split at hk
 ·rename_i hkm
  have hkl:=(List.getElem?_eq_some_iff.1 hk).1
  exact⟨k,hkm,hkl,by rw[getD_some hkl] at hk;injection hk⟩
 ·cases hk
theorem Q_ {L:Nat} {x:Nat} (h:x<L):(Nat.beq 1 1&&(Nat.ble (0+((x:Nat):Int).toNat*1+1) L&&!false))=true:=by
 rw[Int.toNat_natCast,Nat.zero_add,Nat.mul_one];simp;omega
theorem bV {L:Nat} {x:Nat} (h:x<L):(Nat.beq 1 1&&(Nat.ble (0+((x:Nat):Int).toNat*1+1) L&&true))=true:=by
 rw[Int.toNat_natCast,Nat.zero_add,Nat.mul_one];simp;omega
theorem VS {l:List Int} {k:Nat} {x:Int}:(Ab l).set (0+((k:Nat):Int).toNat*1) (.int .i64 x)=Ab (l.set k x):=by
 rw[Int.toNat_natCast,Nat.zero_add,Nat.mul_one,LX]
theorem ZO {N n:Nat} {ord:List Int} {e f:Bool} {r0:Nat→Bool→LA→O R} {Y:O R} (hn:n≤1000) (hl:ord.length≤1000) :
  ∀ (fuel l:Nat) (P:List Int),l≤ord.length→ord.length - l<fuel→(Dd l (ord.length - l) (V_ n ord)=true→∀ P,XO n ord P→r0 n true (Ab P)=Y)→P.length=n→(∀ k:Nat,k<l→P.getD (ord.getD k 0).toNat 0=(k:Int)) →
   (∀ x:Nat,x<n→(x:Int) ∉ ord.take l→P.getD x 0=-1)→(∀ k:Nat,k<l→0≤ord.getD k 0) →
   Eu N r0 (n:Int) n (Ab ord) ord.length e f fuel (ord.length:Int) (l:Int) (Ab P)=cond (Dd l (ord.length - l) (V_ n ord)) Y (r0 0 false [])
 | 0,_,_,_,h,_,_,_,_,_=>by omega
 | fuel+1,l,P,hlo,hf,hK,hP,h1,h2,h3=>by
  rw[Eu,I3]
  by_cases hlt:l<ord.length
  ·have e1:ord.length - l=(ord.length - (l+1))+1:=by omega
   rw[Ik (by omega),cond_true,A6 hlt,cond_true,Da hlt,e1,Kj]
   unfold V_
   by_cases a1:ord.getD l 0<0
   ·rw[Ik a1,decide_eq_false (show ¬ 0≤ord.getD l 0 by omega)];rfl
   ·rw[H7 a1,decide_eq_true (show 0≤ord.getD l 0 by omega)]
    by_cases a2:ord.getD l 0<(n:Int)
    ·rw[Ik a2,decide_eq_false (show ¬ ord.getD l 0≥(n:Int) by omega)]
     simp only[cond_true,cond_false,beq_self_eq_true,Bool.true_and]
     obtain⟨z,hz⟩:∃ z:Nat,ord.getD l 0=(z:Int):=⟨_,(JC (r:=ord) (k:=l) (by omega) a2).1⟩
     have hzz:(ord.getD l 0).toNat=z:=by omega
     have hzn:z<n:=by omega
     rw[hz,A6 hzn,cond_true,Zn (by omega)]
     by_cases hin:(z:Int) ∈ ord.take l
     ·obtain⟨k,hk,hkl,hke⟩:=XP hin
      have:=h1 k hk
      rw[hke,Int.toNat_natCast] at this
      rw[this,decide_eq_true hin,decide_eq_true (show(k:Int)≥0 by omega)]
      rfl
     ·have hpk:V_ n ord l=true:=by
       unfold V_
       rw[hz,decide_eq_true (show(0:Int)≤(z:Int) by omega),decide_eq_true (show(z:Int)<(n:Int) by omega),decide_eq_false hin];rfl
      rw[h2 z hzn hin,decide_eq_false hin,decide_eq_false (show ¬ (-1:Int)≥0 by omega)]
      simp only[cond_true,cond_false,Bool.not_false,Bool.true_and]
      rw[bV (x:=z) (by rw[Bw];omega),cond_true,VS,wS (by omega)]
      refine ZO hn hl fuel (l+1) (P.set z l) (by omega) (by omega) (fun h=>hK (by rw[e1,Kj,hpk,h];rfl)) (by simpa using hP) (fun k hk=>?_) (fun x hx hxm=>?_) (fun k hk=>?_)
      ·rw[Vf (by omega)]
       by_cases hkl:k=l
       ·subst hkl;rw[hzz,if_pos rfl]
       ·have hkk:k<l:=by omega
        rw[if_neg,h1 k hkk]
        intro e
        have:=QZ (l:=ord) (k:=k) (m:=l) (by omega) hkk
        have h0:=h3 k hkk
        have e2:ord.getD k 0=(z:Int):=by omega
        rw[e2] at this
        exact hin this
      ·rw[D7 (getD_some hlt),hz] at hxm
       simp only[List.mem_append,List.mem_singleton,not_or] at hxm
       rw[Vf (by omega),if_neg (by omega)]
       exact h2 x hx hxm.1
      ·by_cases hkl:k=l
       ·subst hkl;omega
       ·exact h3 k (by omega)
    ·rw[H7 a2,decide_eq_true (show ord.getD l 0≥(n:Int) by omega)];rfl
  ·have:l=ord.length:=by omega
   subst this
   rw[H7 (by omega),cond_false,Nat.sub_self,Mv,cond_true]
   exact hK (by rw[Nat.sub_self];rfl) P ⟨hP,h1⟩
theorem ZP {N n:Nat} {ord:List Int} {e f:Bool} {r0:Nat→Bool→LA→O R} {Y:O R} (hN:2000≤N) (hn:n≤1000) (hl:ord.length≤1000) (hK:Dd 0 ord.length (V_ n ord)=true→∀ P,XO n ord P→r0 n true (Ab P)=Y) :
  ∀ (fuel i:Nat) (P:List Int),i≤n→n - i<fuel→P.length=n→(∀ x:Nat,x<i→P.getD x 0=-1) →
   Dj N r0 (Ab ord) ord.length e f (n:Int) fuel n (n:Int) (i:Int) (Ab P)=cond (Dd 0 ord.length (V_ n ord)) Y (r0 0 false [])
 | 0,_,_,_,h,_,_=>by omega
 | fuel+1,i,P,hi,hf,hP,h1=>by
  rw[Dj,I4]
  by_cases hlt:i<n
  ·rw[Ik (by omega),cond_true,A6 hlt,cond_true,Q_ (x:=i) (by rw[Bw];omega),cond_true,VS,wS (by omega)]
   refine ZP hN hn hl hK fuel (i+1) _ (by omega) (by omega) (by simpa using hP) (fun x hx=>?_)
   rw[Vf (by omega)]
   by_cases hxi:x=i
   ·rw[if_pos hxi]
   ·rw[if_neg hxi];exact h1 x (by omega)
  ·have:i=n:=by omega
   subst this
   rw[H7 (by omega),cond_false]
   have:=ZO (N:=N) (e:=e) (f:=f) (r0:=r0) (Y:=Y) hn hl N 0 P (Nat.zero_le _) (by omega) (by rw[Nat.sub_zero];exact hK) hP (fun k h=>by omega) (fun x hx _=>h1 x hx) (fun k h=>by omega)
   rw[Nat.sub_zero] at this
   exact this
theorem YR (n:Nat):List.replicate n (AV.int .i64 0)=Ab (List.replicate n 0):=by simp[Ab]
theorem Zo {N n:Nat} {ord:List Int} {e f:Bool} {r0:Nat→Bool→LA→O R} {Y:O R} (hN:2000≤N) (hn:n≤1000) (hl:ord.length≤1000) (hK:pG n ord=true→∀ P,XO n ord P→r0 n true (Ab P)=Y) :
  Ek N (Ab ord) ord.length e f (n:Int) r0=cond (pG n ord) Y (r0 0 false []):=by
 rw[O9,Jo]
 unfold pG at hK ⊢
 by_cases hne:ord.length=n
 ·have e1:(((ord.length:Nat):Int) != (n:Int))=false:=by simp[hne]
  rw[e1,cond_false,decide_eq_true hne,Bool.true_and]
  have hb:(decide (0≤((n:Nat):Int))&&(decide (((n:Nat):Int)≤((n:Nat):Int))&&(decide (((n:Nat):Int)≤140737488355328)&&decide (((n:Nat):Int)*((8:Nat):Int)≤140737488355328))))=true:=by simp;omega
  rw[hb,cond_true,Int.toNat_natCast,YR]
  exact ZP hN hn hl (fun h=>hK (by rw[decide_eq_true hne,h];rfl)) N 0 (List.replicate n 0) (Nat.zero_le _) (by omega) (by simp) (fun k h=>by omega)
 ·have e1:(((ord.length:Nat):Int) != (n:Int))=true:=by simp;omega
  rw[e1,cond_true,decide_eq_false hne];rfl
theorem ZQ {N:Nat} {ord:List Int} {d e:Bool} {k0:Int→O R} {r0:Bool→O R} (hl:ord.length≤1000) {g:Nat} (hg:g<ord.length) :
  ∀ (fuel i:Nat),i≤g→g - i<fuel→C8 N k0 r0 (Ab ord) ord.length d e fuel (g:Int) (i:Int)=cond (decide (ord.getD g 0 ∈ (ord.take g).drop i)) (r0 false) (k0 ((g+1:Nat):Int))
 | 0,_,_,h=>by omega
 | fuel+1,i,hi,hf=>by
  rw[C8,Gc]
  by_cases hlt:i<g
  ·rw[Ik (by omega),cond_true,A6 (by omega),cond_true,Da (by omega),A6 hg,cond_true,Da hg]
   have e1:(ord.take g).drop i=ord.getD i 0::(ord.take g).drop (i+1):=by
    rw[List.drop_eq_getElem_cons (by simp;omega)];congr 1
    have:=getD_some (l:=ord) (k:=i) (by omega)
    rw[List.getElem?_eq_getElem (by omega)] at this
    simp only[List.getElem_take]
    injection this
   rw[e1]
   by_cases h:ord.getD i 0=ord.getD g 0
   ·rw[beq_iff_eq.2 h,cond_true,h,decide_eq_true List.mem_cons_self];rfl
   ·have hb:(ord.getD i 0==ord.getD g 0)=false:=by simpa using h
    rw[hb,cond_false,wS (by omega),ZQ hl hg fuel (i+1) (by omega) (by omega)]
    congr 1
    by_cases h2:ord.getD g 0 ∈ (ord.take g).drop (i+1)
    ·rw[decide_eq_true h2,decide_eq_true (List.mem_cons_of_mem _ h2)]
    ·rw[decide_eq_false h2,decide_eq_false (fun h3=>by rcases List.mem_cons.1 h3 with h3 | h3;exact h h3.symm;exact h2 h3)]
  ·rw[H7 (by omega),cond_false,List.drop_of_length_le (by simp;omega),wS (by omega)];rfl
theorem ZR {N:Nat} {ord:List Int} {d e:Bool} {r0:Bool→O R} (hN:2000≤N) (hl:ord.length≤1000) :
  ∀ (fuel g:Nat),g≤ord.length→ord.length - g<fuel→Bf N r0 (Ab ord) ord.length d e fuel (g:Int)=r0 (Dd g (ord.length - g) (V_ ord.length ord))
 | 0,_,_,h=>by omega
 | fuel+1,g,hi,hf=>by
  rw[Bf,Ge]
  by_cases hlt:g<ord.length
  ·have e1:ord.length - g=(ord.length - (g+1))+1:=by omega
   have ih:=ZR (d:=d) (e:=e) (r0:=r0) hN hl fuel (g+1) (by omega) (by omega)
   rw[Ik (by omega),cond_true,A6 hlt,cond_true,Da hlt,e1,Kj]
   unfold V_ at ih ⊢
   by_cases a1:ord.getD g 0<0
   ·rw[Ik a1,decide_eq_false (show ¬ 0≤ord.getD g 0 by omega)];rfl
   ·rw[H7 a1,decide_eq_true (show 0≤ord.getD g 0 by omega)]
    simp only[beq_self_eq_true,cond_true,Bool.true_and]
    rw[Da hlt]
    by_cases a2:ord.getD g 0<(ord.length:Int)
    ·rw[decide_eq_true a2,decide_eq_false (show ¬ ord.getD g 0≥(ord.length:Int) by omega)]
     simp only[cond_true,cond_false,Bool.true_and]
     rw[En,Gd]
     have:=ZQ (N:=N) (d:=d) (e:=e) (k0:=Bf N r0 (Ab ord) ord.length d e fuel) (r0:=r0) hl hlt N 0 (Nat.zero_le _) (by omega)
     refine Eq.trans this ?_
     rw[List.drop_zero,ih]
     cases decide (ord.getD g 0 ∈ ord.take g)<;>rfl
    ·rw[decide_eq_false a2,decide_eq_true (show ord.getD g 0≥(ord.length:Int) by omega)];rfl
  ·have:g=ord.length:=by omega
   subst this
   rw[H7 (by omega),cond_false,Nat.sub_self,Mv]
theorem RA {N n:Nat} {ord:List Int} {f d:Bool} {r0:Bool→O R} (hN:2000≤N) (hl:ord.length≤1000):Ls N (Ab ord) ord.length f d (n:Int) r0=r0 (pG n ord):=by
 rw[W8,Xz]
 unfold pG
 by_cases hne:ord.length=n
 ·have e1:(((ord.length:Nat):Int)==(n:Int))=true:=by simp[hne]
  rw[e1]
  simp only[beq_self_eq_true,cond_true]
  rw[K1,F6]
  have:=ZR (N:=N) (d:=false) (e:=d) (r0:=fun g=>r0 (cond true g false)) hN hl N 0 (Nat.zero_le _) (by omega)
  refine Eq.trans this ?_
  rw[Nat.sub_zero,decide_eq_true hne,Bool.true_and,cond_true,hne]
 ·have e1:(((ord.length:Nat):Int)==(n:Int))=false:=by simp;omega
  rw[e1,decide_eq_false hne];rfl
end
end Gx

namespace Gx
open Go
open IntKind (wrap)
section
variable {R:Type}
def Kb (n:Nat) (f:Nat→Bool):LA:=(List.range n).map fun j=>AV.bool (f j)
def TB (n k:Nat) (A:Nat→Nat→Bool):LA:=(List.range n).map fun i=>if i<k then Bd (Kb n (A i)) n 1 else AV.nsl
def Wf (A:Nat→Nat→Bool) (x y:Nat) (b:Bool):Nat→Nat→Bool:=fun i j=>if i=x∧j=y then b else A i j
theorem VT (n:Nat) (f:Nat→Bool):(Kb n f).length=n:=by simp[Kb]
theorem N3 {n k:Nat} {A B:Nat→Nat→Bool} (h:∀ i j,i<k→i<n→j<n→A i j=B i j):TB n k A=TB n k B:=by
 unfold TB
 refine List.map_congr_left (fun i hi=>?_)
 have hi:=List.mem_range.1 hi
 by_cases hk:i<k
 ·rw[if_pos hk,if_pos hk];congr 1
  unfold Kb
  exact List.map_congr_left (fun j hj=>by rw[h i j hk hi (List.mem_range.1 hj)])
 ·rw[if_neg hk,if_neg hk]
theorem Bl {n k i:Nat} {A:Nat→Nat→Bool} (hk:i<k) (hi:i<n) (K:LA→Nat→O R):B8 1 (TB n k A) i K=K (Kb n (A i)) n:=by
 unfold B8
 rw[List.head?_drop]
 simp[TB,hi,hk,P0,Bd]
theorem LZ {n j:Nat} {f:Nat→Bool} (hj:j<n) (K:Bool→O R):ZB ((Kb n f).drop (((j:Nat):Int).toNat*1)) K=K (f j):=by
 unfold ZB
 rw[Int.toNat_natCast,Nat.mul_one,List.head?_drop]
 simp[Kb,hj,asBool]
theorem VU {n j:Nat} {f:Nat→Bool} {b:Bool}:(Kb n f).set j (.bool b)=Kb n (fun x=>if x=j then b else f x):=by
 apply List.ext_getElem?
 intro i
 unfold Kb
 rw[List.getElem?_set]
 by_cases hi:i<n
 ·by_cases e:j=i
  ·subst e;simp[hi]
  ·simp[e,hi,Ne.symm e]
 ·by_cases e:j=i
  ·subst e;simp[hi]
  ·simp[e,hi]
theorem XQ {n k i j:Nat} {A:Nat→Nat→Bool} {b:Bool} (hk:i<k) (hi:i<n):(TB n k A).set i (Bd ((Kb n (A i)).set (((j:Nat):Int).toNat*1) (.bool b)) n 1)=TB n k (Wf A i j b):=by
 rw[Int.toNat_natCast,Nat.mul_one,VU]
 apply List.ext_getElem?
 intro m
 unfold TB
 rw[List.getElem?_set]
 by_cases e:i=m
 ·subst e
  simp[hi,hk]
  congr 1
  unfold Kb
  exact List.map_congr_left (fun x _=>by unfold Wf;simp)
 ·rw[if_neg e]
  by_cases hm:m<n
  ·simp[hm]
   split
   ·congr 1
    unfold Kb
    exact List.map_congr_left (fun x _=>by unfold Wf;simp[Ne.symm e])
   ·rfl
  ·simp[hm]
theorem bD {n k:Nat} {A:Nat→Nat→Bool} (hk:k<n) (h:∀ j,A k j=false):(TB n k A).set k (Bd (List.take (n*1) (List.replicate n (AV.bool false))) n 1)=TB n (k+1) A:=by
 apply List.ext_getElem?
 intro m
 unfold TB
 rw[List.getElem?_set]
 by_cases e:k=m
 ·subst e
  simp[hk]
  congr 1
  apply List.ext_getElem?
  intro x
  unfold Kb
  by_cases hx:x<n<;>simp[hx,h]
 ·rw[if_neg e]
  by_cases hm:m<n
  ·simp[hm]
   by_cases h1:m<k
   ·rw[if_pos h1,if_pos (by omega)]
   ·rw[if_neg h1,if_neg (by omega)]
  ·simp[hm]
theorem bk (n:Nat) (A:Nat→Nat→Bool):List.replicate n AV.nsl=TB n 0 A:=by
 apply List.ext_getElem?
 intro m
 unfold TB
 by_cases hm:m<n<;>simp[hm]
theorem bW {n j:Nat} {f:Nat→Bool} (h:j<n):Nat.blt (((j:Nat):Int).toNat*1) (Kb n f).length=true:=by
 rw[VT,Int.toNat_natCast,Nat.mul_one];simp[Nat.blt];omega
def V' (rows:List (List Int)) (f l:Nat) (i j:Nat):Bool:=(decide (i<f)&&Hf rows i j)||(decide (i=f)&&decide ((j:Int) ∈ (Ah rows f).take l))
theorem ZS {N f:Nat} {rows:List (List Int)} {c:LA} {d e:Bool} {k0:Int→LA→O R} {r0:LA→O R} (hc:GR c rows) (hn:rows.length≤1000) (hv:vG rows=true) (hf:f<rows.length) :
  ∀ (fuel l:Nat),l≤(Ah rows f).length→(Ah rows f).length - l<fuel→F3 N k0 r0 c rows.length d e fuel (f:Int) (l:Int) (TB rows.length (f+1) (V' rows f l))=k0 ((f+1:Nat):Int) (TB rows.length (f+1) (V' rows f (Ah rows f).length))
 | 0,_,_,h=>by omega
 | fuel+1,l,hl,hfu=>by
  have hrl:=BG hv f
  rw[F3,N0,A6 hf,cond_true,K3 hc hf]
  by_cases hlt:l<(Ah rows f).length
  ·obtain⟨x,hx,hxn,_,_⟩:=BF hv (List.mem_of_getElem? (getD_some hlt))
   rw[Ik (by omega),cond_true,cond_true,Int.toNat_natCast,Bl (by omega) hf,←Int.toNat_natCast f,K3 hc hf,A6 hlt,cond_true,Da hlt,hx,A6 hxn,cond_true,Int.toNat_natCast f,Bl (by omega) hf,bW hxn,cond_true,XQ (by omega) hf,wS (by omega)]
   have:TB rows.length (f+1) (Wf (V' rows f l) f x true)=TB rows.length (f+1) (V' rows f (l+1)):=N3 (fun i j hi _ _=>by
    unfold Wf V'
    rw[D7 (getD_some hlt),hx]
    by_cases e1:i=f
    ·subst e1
     by_cases e2:j=x
     ·subst e2;simp
     ·have:¬ (j:Int)=(x:Int):=by omega
      simp[e2,this]
    ·simp[e1])
   rw[this]
   exact ZS hc hn hv hf fuel (l+1) (by omega) (by omega)
  ·have:l=(Ah rows f).length:=by omega
   subst this
   rw[H7 (by omega),cond_false,wS (by omega)]
theorem ZT {N:Nat} {rows:List (List Int)} {c:LA} {d e:Bool} {r0:LA→O R} (hN:2000≤N) (hc:GR c rows) (hn:rows.length≤1000) (hv:vG rows=true) :
  ∀ (fuel g:Nat),g≤rows.length→rows.length - g<fuel→Em N r0 c rows.length d e fuel (g:Int) (TB rows.length g (V' rows g 0))=r0 (TB rows.length rows.length (Hf rows))
 | 0,_,_,h=>by omega
 | fuel+1,g,hg,hfu=>by
  rw[Em,N1]
  by_cases hlt:g<rows.length
  ·have hb:(decide (0≤((rows.length:Nat):Int))&&(decide (((rows.length:Nat):Int)≤((rows.length:Nat):Int))&&(decide (((rows.length:Nat):Int)≤140737488355328)&&decide (((rows.length:Nat):Int)*((1:Nat):Int)≤140737488355328))))=true:=by simp;omega
   have hb2:Nat.ble 1 rows.length=true:=by simp;omega
   have hrl:=BG hv g
   rw[Ik (by omega),cond_true,hb,cond_true,A6 hlt,cond_true,hb2,cond_true,Int.toNat_natCast,bD hlt (by intro j;simp[V'])]
   refine Eq.trans (ZS hc hn hv hlt N 0 (Nat.zero_le _) (by omega)) ?_
   have:TB rows.length (g+1) (V' rows g (Ah rows g).length)=TB rows.length (g+1) (V' rows (g+1) 0):=N3 (fun i j hi _ _=>by
    unfold V'
    rw[List.take_length]
    by_cases e1:i=g
    ·subst e1;simp[Hf]
    ·have:i<g:=by omega
     have h2:¬ i=g+1:=by omega
     simp[e1,this,hi,h2])
   rw[this]
   exact ZT hN hc hn hv fuel (g+1) (by omega) (by omega)
  ·have:g=rows.length:=by omega
   subst this
   rw[H7 (by omega),cond_false]
   congr 1
   exact N3 (fun i j hi _ _=>by unfold V';simp[hi])
theorem Zp {N:Nat} {rows:List (List Int)} {c:LA} {d e:Bool} {r0:LA→O R} (hN:2000≤N) (hc:GR c rows) (hn:rows.length≤1000) (hv:vG rows=true):F4 N c rows.length d e r0=r0 (TB rows.length rows.length (Hf rows)):=by
 rw[W6,Q8]
 have hb:(decide (0≤((rows.length:Nat):Int))&&(decide (((rows.length:Nat):Int)=((rows.length:Nat):Int))&&(decide (((rows.length:Nat):Int)≤140737488355328)&&decide (((rows.length:Nat):Int)*((24:Nat):Int)≤140737488355328))))=true:=by simp;omega
 rw[hb,cond_true,bk rows.length (V' rows 0 0)]
 exact ZT hN hc hn hv N 0 (Nat.zero_le _) (by omega)
end
end Gx

namespace Gx
open Go
open IntKind (wrap)
section
variable {R:Type}
theorem UP {n j:Nat} {f:Nat→Bool} (h:j<n):Nat.blt (j*1) (Kb n f).length=true:=by
 have:=bW (f:=f) h
 rwa [Int.toNat_natCast] at this
theorem FG {n k i j:Nat} {A:Nat→Nat→Bool} {b:Bool} (hk:i<k) (hi:i<n):(TB n k A).set i (Bd ((Kb n (A i)).set (j*1) (.bool b)) n 1)=TB n k (Wf A i j b):=by
 have:=XQ (A:=A) (j:=j) (b:=b) hk hi
 rwa [Int.toNat_natCast] at this
def Zq (A:Nat→Nat→Bool) (v a b:Nat) (i j:Nat):Bool:=A i j||(A v i&&A v j&&((decide (i<a)&&decide (j<a)&&decide (i≠j))||(decide (i=a)&&decide (j<b))||(decide (j=a)&&decide (i<b))))
theorem ZU {A:Nat→Nat→Bool} (hA:Gr A) {v a b x:Nat}:Zq A v a b v x=A v x:=by unfold Zq;simp[hA.irr]
theorem bE {A:Nat→Nat→Bool} {v a b:Nat} (h:b<a):Zq A v a b a b=A a b:=by
 unfold Zq;simp;omega
theorem bX {A:Nat→Nat→Bool} {v a b:Nat} (h:(A v a&&(A v b&&!A a b))=true) (hba:b<a):∀ i j,Wf (Wf (Zq A v a b) a b true) b a true i j=Zq A v a (b+1) i j:=by
 intro i j
 simp only[Bool.and_eq_true] at h
 obtain⟨h1,h2,h3⟩:=h
 unfold Wf Zq
 by_cases e1:i=b∧j=a
 ·obtain⟨rfl,rfl⟩:=e1
  simp[h1,h2]
 ·rw[if_neg e1]
  by_cases e2:i=a∧j=b
  ·obtain⟨rfl,rfl⟩:=e2
   simp[h1,h2]
  ·rw[if_neg e2]
   congr 2
   congr 1
   ·congr 1
    by_cases e3:i=a
    ·have:j≠b:=fun e=>e2 ⟨e3,e⟩
     simp[e3];omega
    ·simp[e3]
   ·by_cases e3:j=a
    ·have:i≠b:=fun e=>e1 ⟨e,e3⟩
     simp[e3];omega
    ·simp[e3]
theorem bY {A:Nat→Nat→Bool} (hA:Gr A) {v a b:Nat} (h:(A v a&&(A v b&&!A a b))=false):∀ i j,Zq A v a b i j=Zq A v a (b+1) i j:=by
 intro i j
 unfold Zq
 have hs:=hA.sym a b
 by_cases e1:i=a
 ·subst e1
  by_cases e2:j=b
  ·subst e2
   cases h1:A v i<;>cases h2:A v j<;>cases h3:A i j<;>simp_all
  ·have:decide (j<b+1)=decide (j<b):=by by_cases h:j<b<;>simp[h]<;>omega
   rw[this]
   by_cases e3:j=i
   ·subst e3
    by_cases h5:j<b
    ·simp[h5]
    ·simp[h5,this]
   ·simp[e3]
 ·by_cases e2:j=a
  ·subst e2
   by_cases e3:i=b
   ·subst e3
    cases h1:A v i<;>cases h2:A v j<;>cases h3:A i j<;>simp_all
   ·have:decide (i<b+1)=decide (i<b):=by by_cases h:i<b<;>simp[h]<;>omega
    rw[this];simp[e1]
  ·simp[e1,e2]
theorem bF {A:Nat→Nat→Bool} {v a:Nat}:∀ i j,Zq A v a a i j=Zq A v (a+1) 0 i j:=by
 intro i j
 unfold Zq
 congr 2
 by_cases e1:i=a
 ·subst e1
  by_cases e2:j=i
  ·subst e2;simp
  ·have:¬ i=i+1:=by omega
   simp[e2]
   by_cases h:j<i
   ·simp[h];omega
   ·simp[h];omega
 ·by_cases e2:j=a
  ·subst e2
   simp[e1]
   by_cases h:i<j
   ·simp[h];omega
   ·simp[h];omega
  ·simp[e1,e2]
   by_cases h:i<a<;>by_cases h2:j<a<;>simp[h,h2]<;>omega
theorem RB (a:Nat) (A:Nat→Nat→Bool) (v:Nat):B5 (a+1) A v=B5 a A v++(if A v a then [a] else []):=by
 unfold B5
 rw[List.range_succ,List.filter_append]
 congr 1
 cases h:A v a<;>simp[h]
theorem RC (A:Nat→Nat→Bool) (w:Nat):∀ (l pre:List Nat),My A pre (l++[w])=My A pre l+(pre++l).countP (fun x=>!A w x)
 | [],pre=>by simp[My]
 | x::l,pre=>by
  rw[List.cons_append,My,My,RC A w l (pre++[x])]
  simp;omega
def VV (A:Nat→Nat→Bool) (v a b:Nat):Nat:=if A v a then (B5 b A v).countP (fun x=>!A a x) else 0
theorem ZV (A:Nat→Nat→Bool) (v a b:Nat):VV A v a (b+1)=VV A v a b+if (A v a&&(A v b&&!A a b)) then 1 else 0:=by
 unfold VV
 rw[RB,List.countP_append]
 cases h1:A v a<;>cases h2:A v b<;>cases h3:A a b<;>simp[h3]
theorem ZW (A:Nat→Nat→Bool) (v a:Nat):My A [] (B5 (a+1) A v)=My A [] (B5 a A v)+VV A v a a:=by
 rw[RB]
 unfold VV
 cases h1:A v a with
 | true=>simp only[if_true];rw[RC];simp
 | false=>simp
theorem V3 (n:Nat) (A:Nat→Nat→Bool) (v:Nat):(B5 n A v).length≤n:=by unfold B5;exact Nat.le_trans (List.length_filter_le _ _) (by simp)
theorem XR (A:Nat→Nat→Bool) (v a b:Nat):VV A v a b≤b:=by
 unfold VV
 split
 ·exact Nat.le_trans List.countP_le_length (V3 _ _ _)
 ·omega
theorem ZX {N n v a:Nat} {A:Nat→Nat→Bool} {o:Nat} {k0:Int→Int→LA→O R} {r0:Int→LA→O R} (hA:Gr A) (hn:n≤1000) (hv:v<n) (ha:a<n) (ho:o≤1000000) :
  ∀ (fuel b:Nat),b≤a→a - b<fuel→A9 N k0 r0 n (v:Int) fuel ((o+VV A v a b:Nat):Int) (a:Int) (b:Int) (TB n n (Zq A v a b))=k0 ((o+VV A v a a:Nat):Int) ((a+1:Nat):Int) (TB n n (Zq A v a a))
 | 0,_,_,h=>by omega
 | fuel+1,b,hb,hf=>by
  rw[A9,Fm]
  by_cases hlt:b<a
  ·have hbn:b<n:=by omega
   have had:=XR A v a b
   have ih:=ZX (N:=N) (o:=o) (k0:=k0) (r0:=r0) hA hn hv ha ho fuel (b+1) (by omega) (by omega)
   rw[Ik (by omega),cond_true,A6 hv,cond_true,Int.toNat_natCast v,Bl hv hv,A6 ha,cond_true,Bl hv hv,LZ ha,ZU hA]
   have no:(A v a&&(A v b&&!A a b))=false→B3 N k0 (A9 N k0 r0 n (v:Int) fuel) r0 n (v:Int) (a:Int) ((o+VV A v a b:Nat):Int) (b:Int) false (TB n n (Zq A v a b))=k0 ((o+VV A v a a:Nat):Int) ((a+1:Nat):Int) (TB n n (Zq A v a a)):=by
    intro h
    unfold B3
    rw[cond_false,wS (by omega),←ih,ZV,h]
    have:TB n n (Zq A v a b)=TB n n (Zq A v a (b+1)):=N3 (fun i j _ _ _=>bY hA h i j)
    rw[this];rfl
   cases h1:A v a with
   | false=>exact no (by rw[h1];rfl)
   | true =>
    simp only[beq_self_eq_true,cond_true]
    rw[Bl hv hv,A6 hbn,cond_true,Bl hv hv,LZ hbn,ZU hA]
    cases h2:A v b with
    | false=>exact no (by rw[h2];simp)
    | true =>
     simp only[beq_self_eq_true,cond_true]
     rw[Int.toNat_natCast a,Bl ha ha,A6 hbn,cond_true,Bl ha ha,LZ hbn,bE hlt]
     cases h3:A a b with
     | true=>exact no (by rw[h3];simp)
     | false =>
      have hh:(A v a&&(A v b&&!A a b))=true:=by rw[h1,h2,h3];rfl
      simp only[Bool.not_false]
      unfold B3
      simp only[Int.toNat_natCast]
      rw[cond_true,A6 ha,cond_true,Bl ha ha,A6 hbn,cond_true,Bl hbn hbn,cond_true,Bl ha ha,UP hbn,cond_true,A6 ha,cond_true,FG ha ha,Bl hbn hbn,UP ha,cond_true,FG hbn hbn,wS (by omega),QX (by omega) (by omega)]
      have:TB n n (Wf (Wf (Zq A v a b) a b true) b a true)=TB n n (Zq A v a (b+1)):=N3 (fun i j _ _ _=>bX hh hlt i j)
      rw[this,←ih,ZV,hh]
      congr 1
  ·have:b=a:=by omega
   subst this
   rw[H7 (by omega),cond_false,wS (by omega)]
def YJ (A:Nat→Nat→Bool) (v m:Nat) (i j:Nat):Bool:=A i j&&!(decide (i=v)&&decide (j<m))&&!(decide (j=v)&&decide (i<m))
theorem bZ {A:Nat→Nat→Bool} {v m:Nat}:∀ i j,Wf (Wf (YJ A v m) v m false) m v false i j=YJ A v (m+1) i j:=by
 intro i j
 unfold Wf YJ
 by_cases e1:i=m∧j=v
 ·obtain⟨rfl,rfl⟩:=e1;simp
 ·rw[if_neg e1]
  by_cases e2:i=v∧j=m
  ·obtain⟨rfl,rfl⟩:=e2;simp
  ·rw[if_neg e2]
   by_cases e3:i=v
   ·have h1:j≠m:=fun e=>e2 ⟨e3,e⟩
    have:decide (j<m+1)=decide (j<m):=by by_cases h:j<m<;>simp[h]<;>omega
    rw[this]
    by_cases e4:j=v
    ·have h2:i≠m:=fun e=>e1 ⟨e,e4⟩
     have:decide (i<m+1)=decide (i<m):=by by_cases h:i<m<;>simp[h]<;>omega
     rw[this]
    ·simp[e4]
   ·by_cases e4:j=v
    ·have h2:i≠m:=fun e=>e1 ⟨e,e4⟩
     have:decide (i<m+1)=decide (i<m):=by by_cases h:i<m<;>simp[h]<;>omega
     rw[this];simp[e3]
    ·simp[e3,e4]
theorem ZY {N n v:Nat} {A:Nat→Nat→Bool} {s:Int} {r0:Int→LA→O R} (hn:n≤1000) (hv:v<n) :
  ∀ (fuel m:Nat),m≤n→n - m<fuel→Cp N r0 n (v:Int) fuel s (m:Int) (TB n n (YJ A v m))=r0 s (TB n n (YJ A v n))
 | 0,_,_,h=>by omega
 | fuel+1,m,hm,hf=>by
  rw[Cp,Fn]
  by_cases hlt:m<n
  ·rw[Ik (by omega),cond_true,A6 hv,cond_true]
   simp only[Int.toNat_natCast]
   rw[Bl hv hv,A6 hlt,cond_true,Bl hlt hlt,cond_true,Bl hv hv,UP hlt,cond_true,A6 hv,cond_true,FG hv hv,Bl hlt hlt,UP hv,cond_true,FG hlt hlt,wS (by omega)]
   have:TB n n (Wf (Wf (YJ A v m) v m false) m v false)=TB n n (YJ A v (m+1)):=N3 (fun i j _ _ _=>bZ i j)
   rw[this]
   exact ZY hn hv fuel (m+1) (by omega) (by omega)
  ·have:m=n:=by omega
   subst this
   rw[H7 (by omega),cond_false]
theorem TN (A:Nat→Nat→Bool) (v:Nat):∀ a:Nat,a≤1000→My A [] (B5 a A v)≤1000*a
 | 0,_=>by simp[B5,My]
 | a+1,h=>by
  rw[ZW]
  have:=TN A v a (by omega)
  have:=XR A v a a
  omega
theorem BH (A:Nat→Nat→Bool) (v i j:Nat):Du A v i j=(!decide (i=v)&&!decide (j=v)&&(A i j||(!decide (i=j)&&(A v i&&A v j)))):=by
 unfold Du
 have h:∀ x y:Nat,(x != y)=!decide (x=y):=fun x y=>by
  by_cases e:x=y
  ·subst e;simp
  ·rw[decide_eq_false e];simpa using e
 rw[h,h,h]
theorem ZZ {N n v:Nat} {A:Nat→Nat→Bool} {r0:Int→LA→O R} (hN:2000≤N) (hA:Gr A) (hn:n≤1000) (hv:v<n) :
  ∀ (fuel a:Nat),a≤n→n - a<fuel→Ba N r0 n (v:Int) fuel ((My A [] (B5 a A v):Nat):Int) (a:Int) (TB n n (Zq A v a 0))=r0 ((My A [] (B5 n A v):Nat):Int) (TB n n (Du A v))
 | 0,_,_,h=>by omega
 | fuel+1,a,ha,hf=>by
  rw[Ba,Fo]
  by_cases hlt:a<n
  ·have hle:=TN A v a (by omega)
   have h0:VV A v a 0=0:=by unfold VV;simp[B5]
   have:=ZX (N:=N) (o:=My A [] (B5 a A v)) (k0:=Ba N r0 n (v:Int) fuel) (r0:=r0) hA hn hv hlt (by omega) N 0 (Nat.zero_le _) (by omega)
   rw[h0,Nat.add_zero] at this
   rw[Ik (by omega),cond_true]
   refine Eq.trans this ?_
   rw[←ZW]
   have e:TB n n (Zq A v a a)=TB n n (Zq A v (a+1) 0):=N3 (fun i j _ _ _=>bF i j)
   rw[e]
   exact ZZ hN hA hn hv fuel (a+1) (by omega) (by omega)
  ·have:a=n:=by omega
   subst this
   rw[H7 (by omega),cond_false]
   have e:TB a a (Zq A v a 0)=TB a a (YJ (Zq A v a 0) v 0):=N3 (fun i j _ _ _=>by unfold YJ;simp)
   rw[e]
   refine Eq.trans (ZY hn hv N 0 (Nat.zero_le _) (by omega)) ?_
   congr 1
   refine N3 (fun i j hi _ hj=>?_)
   have hia:¬ i=a:=by omega
   have hja:¬ j=a:=by omega
   rw[BH]
   unfold YJ Zq
   simp only[hi,hj,hia,hja,decide_true,decide_false,Bool.and_true,Bool.true_and,Bool.and_false,Bool.or_false]
   by_cases e1:i=v<;>by_cases e2:j=v<;>by_cases e3:i=j<;>simp[e1,e2,e3]
theorem V4 {N n v:Nat} {A:Nat→Nat→Bool} {r0:Int→LA→O R} (hN:2000≤N) (hA:Gr A) (hn:n≤1000) (hv:v<n):Bk N n (v:Int) (TB n n A) r0=r0 ((My A [] (B5 n A v):Nat):Int) (TB n n (Du A v)):=by
 rw[J3,Fa]
 have:=ZZ (r0:=r0) hN hA hn hv N 0 (Nat.zero_le _) (by omega)
 have e:TB n n A=TB n n (Zq A v 0 0):=N3 (fun i j _ _ _=>by unfold Zq;simp)
 rw[e]
 exact this
def TO (l:List Nat):AV:=if l=[] then AV.nsl else Bd (Ab (At l)) l.length 1
def HB (n:Nat) (L:Nat→List Nat):LA:=(List.range n).map fun i=>TO (L i)
theorem RD {n i:Nat} {L:Nat→List Nat} (hi:i<n) (K:LA→Nat→O R):B8 1 (HB n L) i K=K (Ab (At (L i))) (L i).length:=by
 unfold B8
 rw[List.head?_drop]
 unfold HB TO
 by_cases h:L i=[]<;>simp[hi,h,P0,Bd,Ab,At]
theorem bG {n i g:Nat} {L:Nat→List Nat} (hi:i<n):((HB n L).set i .undef).set i (Bd (List.take (((L i).length+1)*1) ((Ab (At (L i))).take ((L i).length*1)++[AV.int .i64 (g:Int)])) ((L i).length+1) 1)=HB n (fun x=>if x=i then L i++[g] else L x):=by
 rw[List.set_set]
 apply List.ext_getElem?
 intro m
 unfold HB
 rw[List.getElem?_set]
 by_cases e:i=m
 ·subst e
  simp[hi]
  unfold TO
  rw[if_neg (by simp)]
  have h1:(Ab (At (L i))).length=(L i).length:=by rw[Bw,Bm]
  rw[←h1,List.take_length,List.take_of_length_le (by simp)]
  simp[Bd,Ab,At]
 ·rw[if_neg e]
  by_cases hm:m<n<;>simp[hm,Ne.symm e]
theorem JG {n:Nat} {L M:Nat→List Nat} (h:∀ i,i<n→L i=M i):HB n L=HB n M:=by
 unfold HB
 exact List.map_congr_left (fun i hi=>by rw[h i (List.mem_range.1 hi)])
theorem bn (n:Nat):List.replicate n AV.nsl=HB n (fun _=>[]):=by
 apply List.ext_getElem?
 intro m
 unfold HB TO
 by_cases hm:m<n<;>simp[hm]
theorem bH (n:Nat) (L:Nat→List Nat):(HB n L).all FU=true:=by
 unfold HB
 rw[List.all_map,List.all_eq_true]
 intro x _
 simp only[Function.comp,TO]
 split<;>rfl
def Vg (n:Nat) (A:Nat→Nat→Bool):List (List Int):=(List.range n).map fun i=>At (B5 n A i)
theorem Lt (n:Nat) (A:Nat→Nat→Bool):(Vg n A).length=n:=by simp[Vg]
theorem b6 (n:Nat) (A:Nat→Nat→Bool):GR (HB n (B5 n A)) (Vg n A):=by
 refine⟨by simp[HB,Vg],fun i r hr=>?_⟩
 have hi:=(List.getElem?_eq_some_iff.1 hr).1
 rw[Lt] at hi
 unfold Vg at hr
 simp[hi] at hr
 subst hr
 refine⟨TO (B5 n A i),by simp[HB,hi],?_⟩
 unfold TO
 by_cases h:B5 n A i=[]<;>simp[h,P0,Bd,At,Ab]
def RO (n:Nat) (A:Nat→Nat→Bool) (f g:Nat) (i:Nat):List Nat:=if i<f then B5 n A i else if i=f then B5 g A i else []
theorem Z_ {N n f:Nat} {A:Nat→Nat→Bool} {k0:Int→LA→O R} {r0:LA→O R} (hn:n≤1000) (hf:f<n) :
  ∀ (fuel g:Nat),g≤n→n - g<fuel→Ce N k0 r0 n (TB n n A) fuel (f:Int) (g:Int) (HB n (RO n A f g))=k0 ((f+1:Nat):Int) (HB n (RO n A f n))
 | 0,_,_,h=>by omega
 | fuel+1,g,hg,hfu=>by
  rw[Ce,Ga]
  by_cases hlt:g<n
  ·have ih:=Z_ (N:=N) (A:=A) (k0:=k0) (r0:=r0) hn hf fuel (g+1) (by omega) (by omega)
   rw[Ik (by omega),cond_true,A6 hf,cond_true]
   simp only[Int.toNat_natCast f]
   rw[Bl hf hf,A6 hlt,cond_true,Bl hf hf,LZ hlt,wS (by omega)]
   have hgl:RO n A f g f=B5 g A f:=by unfold RO;rw[if_neg (by omega),if_pos rfl]
   cases h:A f g with
   | true =>
    have hle:=V3 g A f
    have hb:(Nat.ble ((B5 g A f).length+1) 140737488355328&&Nat.ble (((B5 g A f).length+1)*8) 140737488355328)=true:=by simp;omega
    have hb2:Nat.ble 1 ((B5 g A f).length+1)=true:=by simp
    have hset:=bG (n:=n) (g:=g) (L:=RO n A f g) hf
    rw[hgl] at hset
    rw[cond_true,cond_true,RD hf,RD hf,hgl,hb,cond_true,cond_true,hb2,cond_true,hset,←ih]
    congr 1
    refine JG (fun i hi=>?_)
    by_cases e:i=f
    ·subst e
     rw[if_pos rfl];unfold RO;rw[if_neg (by omega),if_pos rfl,RB,h];rfl
    ·rw[if_neg e];unfold RO;simp[e]
   | false =>
    rw[cond_false,←ih]
    congr 1
    refine JG (fun i hi=>?_)
    unfold RO
    by_cases e:i=f
    ·subst e
     rw[if_neg (by omega),if_pos rfl,if_neg (by omega),if_pos rfl,RB,h];simp
    ·simp[e]
  ·have:g=n:=by omega
   subst this
   rw[H7 (by omega),cond_false,wS (by omega)]
theorem Z' {N n:Nat} {A:Nat→Nat→Bool} {r0:LA→O R} (hN:2000≤N) (hn:n≤1000) :
  ∀ (fuel f:Nat),f≤n→n - f<fuel→Bo N r0 n (TB n n A) fuel (f:Int) (HB n (RO n A f 0))=r0 (HB n (B5 n A))
 | 0,_,_,h=>by omega
 | fuel+1,f,hf,hfu=>by
  rw[Bo,Gb]
  by_cases hlt:f<n
  ·rw[Ik (by omega),cond_true]
   refine Eq.trans (Z_ hn hlt N 0 (Nat.zero_le _) (by omega)) ?_
   have:HB n (RO n A f n)=HB n (RO n A (f+1) 0):=JG (fun i hi=>by
    unfold RO
    by_cases e:i=f
    ·subst e;rw[if_neg (by omega),if_pos rfl,if_pos (by omega)]
    ·by_cases h:i<f
     ·rw[if_pos h,if_pos (by omega)]
     ·rw[if_neg h,if_neg e,if_neg (by omega)];simp[B5])
   rw[this]
   exact Z' hN hn fuel (f+1) (by omega) (by omega)
  ·have:f=n:=by omega
   subst this
   rw[H7 (by omega),cond_false,bH]
   have:HB f (RO f A f 0)=HB f (B5 f A):=JG (fun i hi=>by unfold RO;rw[if_pos hi])
   rw[this];rfl
theorem JH {N n:Nat} {A:Nat→Nat→Bool} {r0:LA→O R} (hN:2000≤N) (hn:n≤1000):Dl N n (TB n n A) r0=r0 (HB n (B5 n A)):=by
 rw[Ku,F5]
 have hb:(decide (0≤((n:Nat):Int))&&(decide (((n:Nat):Int)=((n:Nat):Int))&&(decide (((n:Nat):Int)≤140737488355328)&&decide (((n:Nat):Int)*((24:Nat):Int)≤140737488355328))))=true:=by simp;omega
 rw[hb,cond_true,bn]
 have:=Z' (A:=A) (r0:=r0) hN hn N 0 (Nat.zero_le _) (by omega)
 have e:HB n (fun _=>[])=HB n (RO n A 0 0):=JG (fun i hi=>by unfold RO;simp[B5])
 rw[e];exact this
theorem aA {N n v:Nat} {A:Nat→Nat→Bool} {r0:Int→O R} (hn:n≤1000) (hv:v<n) :
  ∀ (fuel e:Nat),e≤n→n - e<fuel→B4 N r0 n (v:Int) (TB n n A) fuel (((B5 e A v).length:Nat):Int) (e:Int)=r0 ((B5 n A v).length:Nat)
 | 0,_,_,h=>by omega
 | fuel+1,e,he,hf=>by
  rw[B4,Fp]
  by_cases hlt:e<n
  ·have hle:=V3 e A v
   have ih:=aA (N:=N) (A:=A) (r0:=r0) hn hv fuel (e+1) (by omega) (by omega)
   rw[RB] at ih
   rw[Ik (by omega),cond_true,A6 hv,cond_true]
   simp only[Int.toNat_natCast v]
   rw[Bl hv hv,A6 hlt,cond_true,Bl hv hv,LZ hlt,wS (by omega),wS (by omega)]
   cases h:A v e with
   | true=>rw[h] at ih;simpa using ih
   | false=>rw[h] at ih;simpa using ih
  ·have:e=n:=by omega
   subst this
   rw[H7 (by omega),cond_false]
theorem L_ {N n v:Nat} {A:Nat→Nat→Bool} {r0:Int→O R} (hN:2000≤N) (hn:n≤1000) (hv:v<n):Cf N n (v:Int) (TB n n A) r0=r0 ((B5 n A v).length:Nat):=by
 rw[J5,Fb]
 exact aA hn hv N 0 (Nat.zero_le _) (by omega)
end
end Gx

namespace Gx
open Go
open IntKind (wrap)
section
variable {R:Type}
def Vh (ord:List Int):List Nat:=ord.map Int.toNat
theorem NW {n:Nat} {ord:List Int} (h:pG n ord=true):ord=At (Vh ord)∧(Vh ord).length=n∧(∀ x ∈ Vh ord,x<n)∧(Vh ord).Nodup:=by
 unfold pG at h
 rw[Bool.and_eq_true,D8] at h
 obtain⟨h1,h2⟩:=h
 have h1:=of_decide_eq_true h1
 have h3:∀ x ∈ ord,0≤x∧x<(n:Int):=by
  intro x hx
  obtain⟨k,hk,rfl⟩:=JD hx
  have:=h2 k (Nat.zero_le _) (by omega)
  simp only[V_,Bool.and_eq_true,decide_eq_true_eq] at this
  exact⟨this.1,this.2.1⟩
 refine⟨?_,by simp[Vh,h1],?_,?_⟩
 ·unfold At Vh
  rw[List.map_map]
  conv=>lhs;rw[←List.map_id ord]
  exact List.map_congr_left (fun x hx=>by have:=h3 x hx;simp[Function.comp];omega)
 ·intro x hx
  unfold Vh at hx
  obtain⟨y,hy,rfl⟩:=List.mem_map.1 hx
  have:=h3 y hy;omega
 ·unfold Vh
  have hnd:ord.Nodup:=by
   unfold List.Nodup
   rw[List.pairwise_iff_getElem]
   intro i j hi hj hij e
   have:=h2 j (Nat.zero_le _) (by omega)
   simp only[V_,Bool.and_eq_true,decide_eq_true_eq,Bool.not_eq_true',decide_eq_false_iff_not] at this
   refine this.2.2 ?_
   have h4:=QZ (l:=ord) hi hij
   have ei:=getD_some hi
   have ej:=getD_some hj
   rw[List.getElem?_eq_getElem hi] at ei
   rw[List.getElem?_eq_getElem hj] at ej
   injection ei with ei
   injection ej with ej
   rw[←ej,←e,ei];exact h4
  unfold List.Nodup
  rw[List.pairwise_map]
  refine List.Pairwise.imp_of_mem (R:=(·≠·)) (fun {a b} ha hb hab=>?_) hnd
  have:=h3 a ha;have:=h3 b hb;omega
def JI (n:Nat) (A:Nat→Nat→Bool):List Nat→Nat
 | []=>0
 | v::r=>My A [] (B5 n A v)+JI n (Du A v) r
def XS (rows:List (List Int)) (v:Int):List (List Int)×Int :=
 if vG rows=true then (if 0≤v∧v<(rows.length:Int) then (Vg rows.length (Du (Hf rows) v.toNat),0) else ([],3)) else ([],1)
def bI (rows:List (List Int)) (ord:List Int):Int×Int :=
 if vG rows=true then (if pG rows.length ord=true then ((JI rows.length (Hf rows) (Vh ord):Nat),0) else (0,11)) else (0,1)
theorem X2:GR [] []:=⟨rfl,fun i r h=>by simp at h⟩
def GB (n:Nat) (k:Nat) (A:Nat→Nat→Bool):LA:=(List.range n).map fun i=>if i<k then Bd (Ab (At (B5 n A i))) (B5 n A i).length 1 else AV.nsl
theorem XT (n k:Nat) (A:Nat→Nat→Bool):(GB n k A).length=n:=by simp[GB]
theorem bo (n:Nat) (A:Nat→Nat→Bool):List.replicate n AV.nsl=GB n 0 A:=by
 apply List.ext_getElem?
 intro m
 unfold GB
 by_cases hm:m<n<;>simp[hm]
theorem bJ {n k:Nat} {A:Nat→Nat→Bool} (hk:k<n):(GB n k A).set (0+((k:Nat):Int).toNat*1) (.imm ((Ab (At (B5 n A k))).take ((B5 n A k).length*1)) (B5 n A k).length 1 false false)=GB n (k+1) A:=by
 rw[Int.toNat_natCast,Nat.zero_add,Nat.mul_one,Nat.mul_one,List.take_of_length_le (by rw[Bw,Bm];exact Nat.le_refl _)]
 apply List.ext_getElem?
 intro m
 unfold GB
 rw[List.getElem?_set]
 by_cases e:k=m
 ·subst e;simp[hk,Bd]
 ·rw[if_neg e]
  by_cases hm:m<n
  ·simp[hm]
   by_cases h1:m<k
   ·rw[if_pos h1,if_pos (by omega)]
   ·rw[if_neg h1,if_neg (by omega)]
  ·simp[hm]
theorem b7 (n:Nat) (A:Nat→Nat→Bool):GR (GB n n A) (Vg n A):=by
 refine⟨by simp[GB,Vg],fun i r hr=>?_⟩
 have hi:=(List.getElem?_eq_some_iff.1 hr).1
 rw[Lt] at hi
 unfold Vg at hr
 simp[hi] at hr
 subst hr
 exact⟨Bd (Ab (At (B5 n A i))) (B5 n A i).length 1,by simp[GB,hi],by simp[P0,Bd,Bm]⟩
theorem NX {N n v:Nat} {A:Nat→Nat→Bool} {S:List (List Int)} {r0:Nat→LA→LA→O R} (hn:n≤1000) (hv:v<n) (hS:Sets n (fun i j=>A i j=true) S) :
  Do N n (v:Int) (SA S) r0=r0 (B5 n A v).length (SA S) (Ab (At (B5 n A v))):=by
 rw[Cb,Cd]
 obtain⟨l,hl⟩:=hS.get hv
 obtain⟨h1,h2⟩:=hS.sort hl
 have hlen:=V3 n A v
 have hall:(Ab l).all Yw=true:=by
  rw[List.all_eq_true]
  intro x hx
  unfold Ab at hx
  obtain⟨m,hm,rfl⟩:=List.mem_map.1 hx
  obtain⟨j,rfl,hj,_⟩:=((hS.2 v l hl).2 m).1 hm
  simp[Yw];omega
 have hsl:Si (Ab l)=Ab (At (B5 n A v)):=by unfold Si;rw[O6,h1]
 rw[A6 hv,cond_true]
 simp only[Int.toNat_natCast]
 rw[Ri hl,hall,Bw,h2,hsl]
 have hble:Nat.ble (B5 n A v).length 16777216=true:=by simp;omega
 rw[hble,Bool.and_self,cond_true]
theorem aB {N n:Nat} {A:Nat→Nat→Bool} {S:List (List Int)} {r0:LA→LA→O R} (hn:n≤1000) (hS:Sets n (fun i j=>A i j=true) S) :
  ∀ (fuel c:Nat),c≤n→n - c<fuel→C1 N r0 n fuel (n:Int) (c:Int) (SA S) (GB n c A)=r0 (SA S) (GB n n A)
 | 0,_,_,h=>by omega
 | fuel+1,c,hc,hf=>by
  rw[C1,Hs]
  by_cases hlt:c<n
  ·rw[Ik (by omega),cond_true,NX hn hlt hS,A6 hlt,cond_true,Q_ (x:=c) (by rw[XT];exact hlt),cond_true,wS (by omega),bJ hlt]
   exact aB hn hS fuel (c+1) (by omega) (by omega)
  ·have:c=n:=by omega
   subst this
   rw[H7 (by omega),cond_false]
theorem KJ {N n:Nat} {A:Nat→Nat→Bool} {S:List (List Int)} {r0:LA→LA→O R} (hN:2000≤N) (hn:n≤1000) (hS:Sets n (fun i j=>A i j=true) S):E2 N n (SA S) r0=r0 (SA S) (GB n n A):=by
 rw[Nd,Ht]
 have hb:(decide (0≤((n:Nat):Int))&&(decide (((n:Nat):Int)≤((n:Nat):Int))&&(decide (((n:Nat):Int)≤140737488355328)&&decide (((n:Nat):Int)*((24:Nat):Int)≤140737488355328))))=true:=by simp;omega
 rw[hb,cond_true,bo n A]
 exact aB hn hS N 0 (Nat.zero_le _) (by omega)
theorem E' {N:Nat} {rows:List (List Int)} {d:LA} {f e:Bool} {v:Int} {r0:LA→Nat→Int→O R} {Y:O R} (hN:2000≤N) (hd:GR d rows) (hn:rows.length≤1000) (hrl:∀ j,(Ah rows j).length≤1000)
  (hK:∀ c,GR c (XS rows v).1→r0 c (XS rows v).1.length (XS rows v).2=Y):Hu N d rows.length f e v r0=Y:=by
 rw[Pg,Nv,Ka hN hd hn hrl]
 unfold XS at hK
 cases hv:vG rows with
 | false=>rw[hv] at hK;exact hK [] X2
 | true =>
  rw[hv] at hK
  simp only[if_true] at hK
  rw[Bool.not_true,cond_false]
  by_cases h0:v<0
  ·rw[Ik h0];rw[if_neg (by omega)] at hK;exact hK [] X2
  ·rw[H7 h0]
   simp only[beq_self_eq_true,cond_true]
   by_cases h1:v<(rows.length:Int)
   ·rw[decide_eq_false (show ¬ v≥(rows.length:Int) by omega)]
    simp only[cond_false]
    rw[if_pos ⟨by omega,h1⟩] at hK
    obtain⟨w,rfl⟩:∃ w:Nat,v=(w:Int):=⟨v.toNat,by omega⟩
    rw[Int.toNat_natCast] at hK
    rw[Rj hN hd hn hv]
    refine Lm (DK hv) hn hN (by omega) (FF hv) (fun S' hS'=>?_)
    rw[KJ hN hn hS',Nat.mul_one,List.take_of_length_le (by rw[XT];exact Nat.le_refl _)]
    have:=hK _ (b7 rows.length (Du (Hf rows) w))
    rw[Lt] at this
    exact this
   ·rw[decide_eq_true (show v≥(rows.length:Int) by omega)]
    rw[if_neg (by omega)] at hK;exact hK [] X2
theorem BI {N:Nat} {rows:List (List Int)} {d:LA} {f e:Bool} {v:Int} {r0:LA→Nat→Int→O R} {Y:O R} (hN:2000≤N) (hd:GR d rows) (hn:rows.length≤1000) (hrl:∀ j,(Ah rows j).length≤1000)
  (hK:∀ c,GR c (XS rows v).1→r0 c (XS rows v).1.length (XS rows v).2=Y):Gi N d rows.length f e v r0=Y:=by
 rw[Nh,Mo,H8 hN hd hn hrl]
 unfold XS at hK
 cases hv:vG rows with
 | false=>rw[hv] at hK;exact hK [] X2
 | true =>
  rw[hv] at hK
  simp only[if_true] at hK
  rw[Bool.not_true,cond_false]
  by_cases h0:v<0
  ·rw[Ik h0];rw[if_neg (by omega)] at hK;exact hK [] X2
  ·rw[H7 h0]
   simp only[beq_self_eq_true,cond_true]
   by_cases h1:v<(rows.length:Int)
   ·rw[decide_eq_false (show ¬ v≥(rows.length:Int) by omega)]
    simp only[cond_false]
    rw[if_pos ⟨by omega,h1⟩] at hK
    obtain⟨w,rfl⟩:∃ w:Nat,v=(w:Int):=⟨v.toNat,by omega⟩
    rw[Int.toNat_natCast] at hK
    rw[Zp hN hd hn hv,V4 hN (DK hv) hn (by omega),JH hN hn]
    have:=hK _ (b6 rows.length (Du (Hf rows) w))
    rw[Lt] at this
    exact this
   ·rw[decide_eq_true (show v≥(rows.length:Int) by omega)]
    rw[if_neg (by omega)] at hK;exact hK [] X2
theorem X3 {α:Type} {l:List α} {g:Nat} {x:α} (h:l[g]?=some x):l.drop g=x::l.drop (g+1):=by
 obtain⟨h1,h2⟩:=List.getElem?_eq_some_iff.1 h
 rw[List.drop_eq_getElem_cons h1,h2]
theorem Dm {o:List Nat} {g x:Nat} (h:o[g]?=some x):(At o).getD g 0=(x:Int):=by
 rw[List.getD_eq_getElem?_getD,IZ h];rfl
theorem UQ {n:Nat} (hn:n≤1000) (A:Nat→Nat→Bool) (v:Nat):My A [] (B5 n A v)≤1000000:=by
 have:=TN A v n hn
 omega
theorem aC {N n:Nat} {o:List Nat} {f e:Bool} {r0:Int→Int→O R} (hN:2000≤N) (hn:n≤1000) (hl:o.length≤1000) (ho:∀ x ∈ o,x<n) :
  ∀ (fuel g:Nat) (i:Nat) (A:Nat→Nat→Bool) (S:List (List Int)),g≤o.length→o.length - g<fuel→Gr A→Sets n (fun i j=>A i j=true) S→i≤1000000*g →
   I5 N r0 n (Ab (At o)) (At o).length f e fuel (i:Int) ((At o).length:Int) (g:Int) (SA S)=r0 ((i+JI n A (o.drop g):Nat):Int) 0
 | 0,_,_,_,_,_,h,_,_,_=>by omega
 | fuel+1,g,i,A,S,hg,hf,hA,hS,hi=>by
  have hlen:=Bm o
  rw[I5,Uz]
  by_cases hlt:g<o.length
  ·obtain⟨x,hx⟩:∃ x,o[g]?=some x:=⟨_,List.getElem?_eq_getElem hlt⟩
   have hxn:=ho x (List.mem_of_getElem? hx)
   have hc:=UQ hn A x
   rw[Ik (by omega),cond_true,A6 (by omega),cond_true,Da (by omega),Dm hx]
   refine Lm hA hn hN hxn hS (fun S' hS'=>?_)
   rw[wS (by omega),QX (by omega) (by omega)]
   have:=aC (f:=f) (e:=e) (r0:=r0) hN hn hl ho fuel (g+1) (i+My A [] (B5 n A x)) (Du A x) S' (by omega) (by omega) (Py hA x) hS' (by omega)
   rw[X3 hx,JI,←Nat.add_assoc]
   rw[←this]
   congr 1
  ·have:g=o.length:=by omega
   subst this
   rw[H7 (by omega),cond_false,List.drop_length];rfl
theorem JJ {N:Nat} {rows:List (List Int)} {ord:List Int} {d:LA} {q p f e:Bool} {r0:Int→Int→O R} (hN:2000≤N) (hd:GR d rows) (hn:rows.length≤1000) (hrl:∀ j,(Ah rows j).length≤1000) (hl:ord.length≤1000) :
  Q3 N d rows.length q p (Ab ord) ord.length f e r0=r0 (bI rows ord).1 (bI rows ord).2:=by
 rw[CV,Yy,Ka hN hd hn hrl]
 unfold bI
 cases hv:vG rows with
 | false=>rfl
 | true =>
  rw[Bool.not_true,cond_false]
  simp only[if_true]
  refine Eq.trans (Zo (Y:=r0 (JI rows.length (Hf rows) (Vh ord):Nat) 0) hN hn hl (fun hp P _=>?_)) ?_
  ·rw[Bool.not_true,cond_false,Rj hN hd hn hv]
   obtain⟨h1,h2,h3,h4⟩:=NW hp
   have:=aC (N:=N) (f:=f) (e:=e) (r0:=r0) (n:=rows.length) (o:=Vh ord) hN hn (by omega) h3 N 0 0 (Hf rows) rows (Nat.zero_le _) (by omega) (DK hv) (FF hv) (Nat.zero_le _)
   rw[←h1,List.drop_zero,Nat.zero_add] at this
   exact this
  ·cases pG rows.length ord<;>rfl
theorem aD {N n:Nat} {o:List Nat} {f e:Bool} {r0:Int→Int→O R} (hN:2000≤N) (hn:n≤1000) (hl:o.length≤1000) (ho:∀ x ∈ o,x<n) :
  ∀ (fuel g:Nat) (i:Nat) (A:Nat→Nat→Bool),g≤o.length→o.length - g<fuel→Gr A→i≤1000000*g →
   G9 N r0 (Ab (At o)) (At o).length f e n fuel (i:Int) (g:Int) (TB n n A)=r0 ((i+JI n A (o.drop g):Nat):Int) 0
 | 0,_,_,_,_,h,_,_=>by omega
 | fuel+1,g,i,A,hg,hf,hA,hi=>by
  have hlen:=Bm o
  rw[G9,Rb]
  by_cases hlt:g<o.length
  ·obtain⟨x,hx⟩:∃ x,o[g]?=some x:=⟨_,List.getElem?_eq_getElem hlt⟩
   have hxn:=ho x (List.mem_of_getElem? hx)
   have hc:=UQ hn A x
   rw[Ik (by omega),cond_true,A6 (by omega),cond_true,Da (by omega),Dm hx,V4 hN hA hn hxn]
   rw[wS (by omega),QX (by omega) (by omega)]
   have:=aD (f:=f) (e:=e) (r0:=r0) hN hn hl ho fuel (g+1) (i+My A [] (B5 n A x)) (Du A x) (by omega) (by omega) (Py hA x) (by omega)
   rw[X3 hx,JI,←Nat.add_assoc]
   rw[←this]
   congr 1
  ·have:g=o.length:=by omega
   subst this
   rw[H7 (by omega),cond_false,List.drop_length];rfl
theorem RE {N:Nat} {rows:List (List Int)} {ord:List Int} {d:LA} {q p f e:Bool} {r0:Int→Int→O R} (hN:2000≤N) (hd:GR d rows) (hn:rows.length≤1000) (hrl:∀ j,(Ah rows j).length≤1000) (hl:ord.length≤1000) :
  Pq N d rows.length q p (Ab ord) ord.length f e r0=r0 (bI rows ord).1 (bI rows ord).2:=by
 rw[Zf,Vz,H8 hN hd hn hrl]
 unfold bI
 cases hv:vG rows with
 | false=>rfl
 | true =>
  rw[Bool.not_true,cond_false]
  simp only[if_true]
  rw[RA hN hl]
  cases hp:pG rows.length ord with
  | false=>rfl
  | true =>
   rw[Bool.not_true,cond_false,Zp hN hd hn hv]
   obtain⟨h1,h2,h3,h4⟩:=NW hp
   have:=aD (N:=N) (f:=f) (e:=e) (r0:=r0) (n:=rows.length) (o:=Vh ord) hN hn (by omega) h3 N 0 0 (Hf rows) (Nat.zero_le _) (by omega) (DK hv) (Nat.zero_le _)
   rw[←h1,List.drop_zero,Nat.zero_add] at this
   exact this
end
end Gx

namespace Gx
open Go
open IntKind (wrap)
section
variable {R:Type}
theorem TP:∀ (n:Nat) (o:List Nat),o.Nodup→(∀ x ∈ o,x<n)→o.length≤n
 | 0,[],_,_=>Nat.le_refl _
 | 0,x::o,_,h=>absurd (h x List.mem_cons_self) (by omega)
 | n+1,o,hn,h=>by
  by_cases hm:n ∈ o
  ·have h1:=TP n (o.erase n) (hn.erase n) (fun x hx=>by
    have:=(hn.mem_erase_iff.1 hx)
    have:=h x this.2
    omega)
   rw[List.length_erase_of_mem hm] at h1
   omega
  ·have h1:=TP n o hn (fun x hx=>by
    have:=h x hx
    have:x≠n:=fun e=>hm (e▸hx)
    omega)
   omega
theorem bp {n:Nat} {o:List Nat} (hn:o.Nodup) (h:∀ x ∈ o,x<n) (hl:o.length=n) {y:Nat} (hy:y<n):y ∈ o:=by
 cases Decidable.em (y ∈ o) with
 | inl h=>exact h
 | inr hm =>
  have:=TP n (y::o) (List.nodup_cons.2 ⟨hm,hn⟩) (fun x hx=>by
   rcases List.mem_cons.1 hx with rfl | hx
   ·exact hy
   ·exact h x hx)
  simp at this;omega
def XU (A:Nat→Nat→Bool) (v:Nat) (Jr:List Nat):Int:=match Jr.find? (A v) with | some w=>(w:Int) | none=>-1
def Zr (A:Nat→Nat→Bool):List Nat→List Int→List Int
 | [],P=>P
 | v::r,P=>Zr (Du A v) r (P.set v (XU A v r))
def XV (rows:List (List Int)) (ord:List Int):List Int×Int :=
 if vG rows=true then (if pG rows.length ord=true then (Zr (Hf rows) (Vh ord) (List.replicate rows.length 0),0) else ([],11)) else ([],1)
def RF (Q:List Int) (cur:Int) (w:Nat):Int:=if cur<0 then (w:Int) else if Q.getD w 0<Q.getD cur.toNat 0 then (w:Int) else cur
theorem XW {N n m:Nat} {Q P:List Int} {nb:List Nat} {d w:LA} {c:Nat} {f e:Bool} {i:Int} {t:Nat} {k0:Int→Int→LA→LA→O R} {r0:Nat→Int→LA→O R} (hn:n≤1000) (hQ:Q.length=n) (hP:P.length=n) (hm:m<n) (hnb:∀ x ∈ nb,x<n) (hl:nb.length≤1000) (ht:t≤1000) :
  ∀ (fuel r:Nat) (cur:Int),r≤nb.length→nb.length - r<fuel→cur<(n:Int) →
   Gu N k0 r0 n n (m:Int) d c f e i nb.length (Ab Q) w (Ab (At nb)) fuel (t:Int) (nb.length:Int) (r:Int) (Ab (P.set m cur))=k0 i ((t+1:Nat):Int) w (Ab (P.set m ((nb.drop r).foldl (RF Q) cur)))
 | 0,_,_,_,h,_=>by omega
 | fuel+1,r,cur,hr,hf,hc=>by
  rw[Gu,Ux]
  by_cases hlt:r<nb.length
  ·obtain⟨x,hx⟩:∃ x,nb[r]?=some x:=⟨_,List.getElem?_eq_getElem hlt⟩
   have hxn:=hnb x (List.mem_of_getElem? hx)
   have hPl:(P.set m cur).length=n:=by simpa using hP
   have hcur:(P.set m cur).getD m 0=cur:=by rw[Vf (by omega),if_pos rfl]
   have hset:∀ y:Int,(P.set m cur).set m y=P.set m y:=fun y=>List.set_set ..
   have hnl:=Bm nb
   rw[Ik (by omega),cond_true,A6 hlt,cond_true,Zn (by omega),Dm hx,A6 hm,cond_true,Zn (by omega),hcur,X3 hx,List.foldl_cons]
   have put:(cond (Nat.beq 1 1&&(Nat.ble (0+(m:Int).toNat*1+1) (Ab (P.set m cur)).length&&!false)) (Gu N k0 r0 n n (m:Int) d c f e i nb.length (Ab Q) w (Ab (At nb)) fuel (t:Int) (nb.length:Int) (wrap .i64 ((r:Int)+1)) ((Ab (P.set m cur)).set (0+(m:Int).toNat*1) (.int .i64 (x:Int)))) none)=k0 i ((t+1:Nat):Int) w (Ab (P.set m ((nb.drop (r+1)).foldl (RF Q) (x:Int)))):=by
    rw[Q_ (x:=m) (by rw[Bw,hPl];exact hm),cond_true,VS,hset,wS (by omega)]
    exact XW hn hQ hP hm hnb hl ht fuel (r+1) (x:Int) (by omega) (by omega) (by omega)
   by_cases h0:cur<0
   ·rw[Ik h0]
    have:RF Q cur x=(x:Int):=by unfold RF;rw[if_pos h0]
    rw[this]
    exact put
   ·rw[H7 h0]
    simp only[beq_self_eq_true,cond_true]
    obtain⟨y,rfl⟩:∃ y:Nat,cur=(y:Int):=⟨cur.toNat,by omega⟩
    have hy:y<n:=by omega
    rw[A6 hxn,cond_true,Zn (by omega),Zn (by omega),hcur,A6 hy,cond_true,Zn (by omega)]
    by_cases h1:Q.getD x 0<Q.getD y 0
    ·rw[decide_eq_true h1]
     have:RF Q (y:Int) x=(x:Int):=by unfold RF;rw[if_neg h0,Int.toNat_natCast,if_pos h1]
     rw[this]
     exact put
    ·rw[decide_eq_false h1]
     have:RF Q (y:Int) x=(y:Int):=by unfold RF;rw[if_neg h0,Int.toNat_natCast,if_neg h1]
     rw[this]
     simp only[cond_false]
     rw[wS (by omega)]
     exact XW hn hQ hP hm hnb hl ht fuel (r+1) (y:Int) (by omega) (by omega) (by omega)
  ·have:r=nb.length:=by omega
   subst this
   rw[H7 (by omega),cond_false,List.drop_length,wS (by omega)];rfl
theorem NY {Q:List Int}:∀ (l:List Nat) (c:Nat),∃ b:Nat,l.foldl (RF Q) (c:Int)=(b:Int)∧(b=c∨b ∈ l)∧Q.getD b 0≤Q.getD c 0∧∀ x ∈ l,Q.getD b 0≤Q.getD x 0
 | [],c=>⟨c,rfl,.inl rfl,Int.le_refl _,fun x hx=>by cases hx⟩
 | w::l,c=>by
  rw[List.foldl_cons]
  by_cases h:Q.getD w 0<Q.getD c 0
  ·have:RF Q (c:Int) w=(w:Int):=by unfold RF;rw[if_neg (by omega),Int.toNat_natCast,if_pos h]
   rw[this]
   obtain⟨b,h1,h2,h3,h4⟩:=NY (Q:=Q) l w
   refine⟨b,h1,.inr ?_,by omega,fun x hx=>?_⟩
   ·rcases h2 with rfl | h2
    ·exact List.mem_cons_self
    ·exact List.mem_cons_of_mem _ h2
   ·rcases List.mem_cons.1 hx with rfl | hx
    ·exact h3
    ·exact h4 x hx
  ·have:RF Q (c:Int) w=(c:Int):=by unfold RF;rw[if_neg (by omega),Int.toNat_natCast,if_neg h]
   rw[this]
   obtain⟨b,h1,h2,h3,h4⟩:=NY (Q:=Q) l c
   refine⟨b,h1,?_,h3,fun x hx=>?_⟩
   ·rcases h2 with rfl | h2
    ·exact .inl rfl
    ·exact .inr (List.mem_cons_of_mem _ h2)
   ·rcases List.mem_cons.1 hx with rfl | hx
    ·omega
    ·exact h4 x hx
theorem XX {n v:Nat} {A:Nat→Nat→Bool} {Q:List Int} {Jr:List Nat} (hpos:Jr.Pairwise (fun a b=>Q.getD a 0<Q.getD b 0)) (hin:∀ x ∈ B5 n A v,x ∈ Jr) (hlt:∀ x ∈ Jr,x<n) :
  (B5 n A v).foldl (RF Q) (-1)=XU A v Jr:=by
 unfold XU
 cases hfind:Jr.find? (A v) with
 | none =>
  have hno:B5 n A v=[]:=by
   apply List.eq_nil_iff_forall_not_mem.2
   intro x hx
   have:=List.find?_eq_none.1 hfind x (hin x hx)
   exact this (Fc.1 hx).2
  rw[hno];rfl
 | some w =>
  obtain⟨hw,l1,l2,hr,has⟩:=List.find?_eq_some_iff_append.1 hfind
  have hwm:w ∈ B5 n A v:=Fc.2 ⟨hlt w (by rw[hr];simp),hw⟩
  cases hnb:B5 n A v with
  | nil=>rw[hnb] at hwm;cases hwm
  | cons c l =>
   rw[List.foldl_cons]
   have:RF Q (-1) c=(c:Int):=by unfold RF;rw[if_pos (by omega)]
   rw[this]
   obtain⟨b,h1,h2,h3,h4⟩:=NY (Q:=Q) l c
   rw[h1]
   have hbm:b ∈ B5 n A v:=by
    rw[hnb]
    rcases h2 with rfl | h2
    ·exact List.mem_cons_self
    ·exact List.mem_cons_of_mem _ h2
   have hbw:Q.getD b 0≤Q.getD w 0:=by
    rw[hnb] at hwm
    rcases List.mem_cons.1 hwm with rfl | h
    ·exact h3
    ·exact h4 w h
   have hbr:=hin b hbm
   rw[hr] at hbr hpos
   rcases List.mem_append.1 hbr with h | h
   ·have:=has b h
    rw[(Fc.1 hbm).2] at this;cases this
   ·rcases List.mem_cons.1 h with rfl | h
    ·rfl
    ·have h5:=(List.pairwise_cons.1 (List.pairwise_append.1 hpos).2.1).1 b h
     omega
theorem TQ {A:Nat→Nat→Bool} (hA:Gr A) {x v y:Nat} (h:∀ y,A x y=false):Du A v x y=false:=by
 rw[BH,h,hA.sym v x,h];simp
theorem TR (A:Nat→Nat→Bool) (v y:Nat):Du A v v y=false:=by rw[BH];simp
theorem JK {o:List Nat} {g v x:Nat} (hv:o[g]?=some v) (hx:x ∈ o.take (g+1)):x ∈ o.take g∨x=v:=by
 rw[D7 hv] at hx
 rcases List.mem_append.1 hx with h | h
 ·exact .inl h
 ·exact .inr (List.mem_singleton.1 h)
theorem aE {N n:Nat} {o:List Nat} {Q:List Int} {f e:Bool} {r0:Nat→Int→LA→O R} (hN:2000≤N) (hn:n≤1000) (ho:∀ x ∈ o,x<n) (hnd:o.Nodup) (hol:o.length=n) (hQ:XO n (At o) Q) :
  ∀ (fuel g:Nat) (A:Nat→Nat→Bool) (S:List (List Int)) (P:List Int),g≤n→n - g<fuel→Gr A→Sets n (fun i j=>A i j=true) S→P.length=n→(∀ x ∈ o.take g,∀ y,A x y=false) →
   Gv N r0 n n (Ab (At o)) (At o).length f e (Ab Q) fuel ((At o).length:Int) (g:Int) (SA S) (Ab P)=r0 n 0 (Ab (Zr A (o.drop g) P))
 | 0,_,_,_,_,_,h,_,_,_,_=>by omega
 | fuel+1,g,A,S,P,hg,hf,hA,hS,hP,hgone=>by
  have hlen:=Bm o
  rw[Gv,Uy]
  by_cases hlt:g<n
  ·obtain⟨v,hv⟩:∃ v,o[g]?=some v:=⟨_,List.getElem?_eq_getElem (by omega)⟩
   have hvn:=ho v (List.mem_of_getElem? hv)
   have hnl:=V3 n A v
   rw[Ik (by omega),cond_true,A6 (by omega),cond_true,Da (by omega),Dm hv,A6 hvn,cond_true,Q_ (x:=v) (by rw[Bw,hP];exact hvn),cond_true,VS]
   refine Lm hA hn hN hvn hS (fun S' hS'=>?_)
   refine Eq.trans (XW (t:=g) hn hQ.1 hP hvn (fun x hx=>(Fc.1 hx).1) (by omega) (by omega) N 0 (-1) (Nat.zero_le _) (by omega) (by omega)) ?_
   have hrest:(B5 n A v).foldl (RF Q) (-1)=XU A v (o.drop (g+1)):=by
    refine XX ?_ (fun x hx=>?_) (fun x hx=>ho x (List.mem_of_mem_drop hx))
    ·rw[List.pairwise_iff_getElem]
     intro a b ha hb hab
     have ea:o[g+1+a]?=some ((o.drop (g+1))[a]):=by rw[←List.getElem?_drop,List.getElem?_eq_getElem ha]
     have eb:o[g+1+b]?=some ((o.drop (g+1))[b]):=by rw[←List.getElem?_drop,List.getElem?_eq_getElem hb]
     have la:=(List.getElem?_eq_some_iff.1 ea).1
     have lb:=(List.getElem?_eq_some_iff.1 eb).1
     have qa:=hQ.2 (g+1+a) (by omega)
     have qb:=hQ.2 (g+1+b) (by omega)
     rw[Dm ea,Int.toNat_natCast] at qa
     rw[Dm eb,Int.toNat_natCast] at qb
     omega
    ·obtain⟨hxn,hxv⟩:=Fc.1 hx
     have hxo:=bp hnd ho hol hxn
     rw[←List.take_append_drop (g+1) o] at hxo
     rcases List.mem_append.1 hxo with h | h
     ·rcases JK hv h with h | rfl
      ·have:=hgone x h v
       rw[hA.sym] at this
       rw[this] at hxv;cases hxv
      ·rw[hA.irr] at hxv;cases hxv
     ·exact h
   rw[List.drop_zero,hrest]
   have:=aE (f:=f) (e:=e) (r0:=r0) hN hn ho hnd hol hQ fuel (g+1) (Du A v) S' (P.set v (XU A v (o.drop (g+1)))) (by omega) (by omega) (Py hA v) hS' (by simpa using hP) (fun x hx y=>by
    rcases JK hv hx with h | rfl
    ·exact TQ hA (hgone x h)
    ·exact TR A x y)
   rw[X3 hv,Zr]
   exact this
  ·have:g=n:=by omega
   subst this
   rw[H7 (by omega),cond_false,List.drop_of_length_le (by omega)];rfl
theorem Rk:∀ (o:List Nat) (A:Nat→Nat→Bool) (P:List Int),(Zr A o P).length=P.length
 | [],A,P=>rfl
 | v::r,A,P=>by rw[Zr,Rk];simp
theorem JL {N:Nat} {rows:List (List Int)} {ord:List Int} {d:LA} {q p f e:Bool} {r0:Nat→Int→LA→O R} (hN:2000≤N) (hd:GR d rows) (hn:rows.length≤1000) (hrl:∀ j,(Ah rows j).length≤1000) (hl:ord.length≤1000) :
  Qz N d rows.length q p (Ab ord) ord.length f e r0=r0 (XV rows ord).1.length (XV rows ord).2 (Ab (XV rows ord).1):=by
 rw[CT,Yx,Ka hN hd hn hrl]
 unfold XV
 cases hv:vG rows with
 | false=>rfl
 | true =>
  rw[Bool.not_true,cond_false]
  simp only[if_true]
  refine Eq.trans (Zo (Y:=r0 rows.length 0 (Ab (Zr (Hf rows) (Vh ord) (List.replicate rows.length 0)))) hN hn hl (fun hp P hP=>?_)) ?_
  ·have hb:(decide (0≤((rows.length:Nat):Int))&&(decide (((rows.length:Nat):Int)≤((rows.length:Nat):Int))&&(decide (((rows.length:Nat):Int)≤140737488355328)&&decide (((rows.length:Nat):Int)*((8:Nat):Int)≤140737488355328))))=true:=by simp;omega
   rw[Bool.not_true,cond_false,Rj hN hd hn hv,hb,cond_true,YR]
   obtain⟨h1,h2,h3,h4⟩:=NW hp
   have hP':XO rows.length (At (Vh ord)) P:=by rw[←h1];exact hP
   have:=aE (N:=N) (f:=f) (e:=e) (r0:=r0) (n:=rows.length) (o:=Vh ord) hN hn h3 h4 h2 hP' N 0 (Hf rows) rows (List.replicate rows.length 0) (Nat.zero_le _) (by omega) (DK hv) (FF hv) (by simp) (fun x hx=>by cases hx)
   rw[←h1,List.drop_zero] at this
   exact this
  ·cases hp:pG rows.length ord with
   | true=>simp only[cond_true,if_true];rw[Rk];simp
   | false=>rfl
theorem aF {N n v i:Nat} {A:Nat→Nat→Bool} {o:List Nat} {P:List Int} {f e:Bool} {k0:Int→LA→LA→O R} {r0:Nat→Int→LA→O R} (hN:2000≤N) (hA:Gr A) (hn:n≤1000) (hv:v<n) (hP:P.length=n) (ho:∀ x ∈ o,x<n) (hol:o.length≤1000) (hi:i<o.length) :
  ∀ (fuel j:Nat) (cur:Int),i+j<o.length→j<fuel→Ha N k0 r0 (Ab (At o)) (At o).length f e n (v:Int) fuel (i:Int) ((i+j:Nat):Int) (TB n n A) (Ab (P.set v cur)) =
   k0 ((i+1:Nat):Int) (TB n n (Du A v)) (Ab (P.set v (match ((o.drop (i+1)).take j).find? (A v) with | some w=>(w:Int) | none=>cur)))
 | 0,_,_,_,h=>by omega
 | fuel+1,j,cur,hj,hf=>by
  have hlen:=Bm o
  rw[Ha,Rc]
  by_cases h0:j=0
  ·subst h0
   rw[decide_eq_false (show ¬ ((i+0:Nat):Int)>(i:Int) by omega),cond_false,V4 hN hA hn hv,wS (by omega)];rfl
  ·obtain⟨x,hx⟩:∃ x,o[i+j]?=some x:=⟨_,List.getElem?_eq_getElem (by omega)⟩
   have hxn:=ho x (List.mem_of_getElem? hx)
   have hPl:(P.set v cur).length=n:=by simpa using hP
   have e1:wrap .i64 (((i+j:Nat):Int) - 1)=((i+(j - 1):Nat):Int):=by rw[QX (by omega) (by omega)];omega
   rw[decide_eq_true (show((i+j:Nat):Int)>(i:Int) by omega),cond_true,A6 hv,cond_true]
   simp only[Int.toNat_natCast v]
   rw[Bl hv hv,A6 (by omega),cond_true,Da (by omega),Dm hx,A6 hxn,cond_true,Bl hv hv,LZ hxn,e1]
   have e2:(o.drop (i+1)).take j=(o.drop (i+1)).take (j - 1)++[x]:=by
    have:j=(j - 1)+1:=by omega
    conv=>lhs;rw[this]
    refine D7 ?_
    rw[List.getElem?_drop,←hx];congr 1;omega
   have ih:=fun c=>aF (f:=f) (e:=e) (k0:=k0) (r0:=r0) hN hA hn hv hP ho hol hi fuel (j - 1) c (by omega) (by omega)
   rw[e2,List.find?_append]
   cases h:A v x with
   | true =>
    rw[cond_true,cond_true,Da (by omega),Dm hx,cond_true]
    have hb:(Nat.beq 1 1&&(Nat.ble (0+v*1+1) (Ab (P.set v cur)).length&&!false))=true:=by
     rw[Bw,hPl];simp;omega
    rw[hb,cond_true]
    have hs:(Ab (P.set v cur)).set (0+v*1) (.int .i64 (x:Int))=Ab (P.set v (x:Int)):=by
     rw[Nat.zero_add,Nat.mul_one,LX,List.set_set]
    rw[hs,ih]
    congr 3
    cases List.find? (A v) (List.take (j - 1) (List.drop (i+1) o)) with
    | some w=>rfl
    | none=>simp[h]
   | false =>
    rw[cond_false,ih]
    congr 3
    cases List.find? (A v) (List.take (j - 1) (List.drop (i+1) o)) with
    | some w=>rfl
    | none=>simp[h]
theorem aG {N n:Nat} {o:List Nat} {f e:Bool} {r0:Nat→Int→LA→O R} (hN:2000≤N) (hn:n≤1000) (ho:∀ x ∈ o,x<n) (hol:o.length≤1000) :
  ∀ (fuel g:Nat) (A:Nat→Nat→Bool) (P:List Int),g≤o.length→o.length - g<fuel→Gr A→P.length=n →
   Fq N r0 (Ab (At o)) (At o).length f e n fuel (g:Int) (TB n n A) (Ab P)=r0 n 0 (Ab (Zr A (o.drop g) P))
 | 0,_,_,_,_,h,_,_=>by omega
 | fuel+1,g,A,P,hg,hf,hA,hP=>by
  have hlen:=Bm o
  rw[Fq,Rd]
  by_cases hlt:g<o.length
  ·obtain⟨v,hv⟩:∃ v,o[g]?=some v:=⟨_,List.getElem?_eq_getElem (by omega)⟩
   have hvn:=ho v (List.mem_of_getElem? hv)
   rw[Ik (by omega),cond_true,A6 (by omega),cond_true,Da (by omega),Dm hv,A6 hvn,cond_true,Q_ (x:=v) (by rw[Bw,hP];exact hvn),cond_true,VS]
   have e1:wrap .i64 ((((At o).length:Nat):Int) - 1)=((g+(o.length - 1 - g):Nat):Int):=by rw[QX (by omega) (by omega)];omega
   rw[e1]
   refine Eq.trans (aF hN hA hn hvn hP ho hol hlt N (o.length - 1 - g) (-1) (by omega) (by omega)) ?_
   rw[List.take_of_length_le (by simp;omega),X3 hv,Zr]
   exact aG hN hn ho hol fuel (g+1) (Du A v) _ (by omega) (by omega) (Py hA v) (by simpa using hP)
  ·have:g=o.length:=by omega
   subst this
   rw[H7 (by omega),cond_false,List.drop_length];rfl
theorem RG {N:Nat} {rows:List (List Int)} {ord:List Int} {d:LA} {q p f e:Bool} {r0:Nat→Int→LA→O R} (hN:2000≤N) (hd:GR d rows) (hn:rows.length≤1000) (hrl:∀ j,(Ah rows j).length≤1000) (hl:ord.length≤1000) :
  Pr N d rows.length q p (Ab ord) ord.length f e r0=r0 (XV rows ord).1.length (XV rows ord).2 (Ab (XV rows ord).1):=by
 rw[Zh,V0,H8 hN hd hn hrl]
 unfold XV
 cases hv:vG rows with
 | false=>rfl
 | true =>
  rw[Bool.not_true,cond_false]
  simp only[if_true]
  rw[RA hN hl]
  cases hp:pG rows.length ord with
  | false=>rfl
  | true =>
   have hb:(decide (0≤((rows.length:Nat):Int))&&(decide (((rows.length:Nat):Int)≤((rows.length:Nat):Int))&&(decide (((rows.length:Nat):Int)≤140737488355328)&&decide (((rows.length:Nat):Int)*((8:Nat):Int)≤140737488355328))))=true:=by simp;omega
   rw[Bool.not_true,cond_false,Zp hN hd hn hv,hb,cond_true,YR]
   obtain⟨h1,h2,h3,h4⟩:=NW hp
   have:=aG (N:=N) (f:=f) (e:=e) (r0:=r0) (n:=rows.length) (o:=Vh ord) hN hn h3 (by omega) N 0 (Hf rows) (List.replicate rows.length 0) (Nat.zero_le _) (by omega) (DK hv) (by simp)
   rw[←h1,List.drop_zero] at this
   refine Eq.trans this ?_
   simp only[if_true];rw[Rk];simp
end
end Gx

namespace Gx
open Go
open IntKind (wrap)
section
variable {R:Type}
def FA (n:Nat) (A:Nat→Nat→Bool) (x:Nat):Nat:=(B5 n A x).length
def Wg (n:Nat) (A:Nat→Nat→Bool) (b x:Nat):Nat:=if FA n A x<FA n A b then x else b
def TS (n:Nat):Nat→(Nat→Nat→Bool)→List Nat→List Nat
 | 0,_,_=>[]
 | _+1,_,[]=>[]
 | k+1,A,w::l=>l.foldl (Wg n A) w::TS n k (Du A (l.foldl (Wg n A) w)) ((w::l).erase (l.foldl (Wg n A) w))
def XY (rows:List (List Int)):List Int×Int :=
 if vG rows=true then (At (TS rows.length rows.length (Hf rows) (List.range rows.length)),0) else ([],1)
theorem FH (n:Nat) (A:Nat→Nat→Bool):∀ (l:List Nat) (w:Nat),l.foldl (Wg n A) w=w∨l.foldl (Wg n A) w ∈ l
 | [],w=>.inl rfl
 | x::l,w=>by
  rw[List.foldl_cons]
  rcases FH n A l (Wg n A w x) with h | h
  ·rw[h];unfold Wg
   by_cases h2:FA n A x<FA n A w
   ·rw[if_pos h2];exact .inr List.mem_cons_self
   ·rw[if_neg h2];exact .inl rfl
  ·exact .inr (List.mem_cons_of_mem _ h)
theorem XZ {N n:Nat} {A:Nat→Nat→Bool} {S:List (List Int)} {left ord:List Nat} {k1:Nat→Nat→LA→LA→LA→O R} {r0:Nat→Int→LA→O R} {Y:O R} (hN:2000≤N) (hA:Gr A) (hn:n≤1000) (hS:Sets n (fun i j=>A i j=true) S) (hl:∀ x ∈ left,x<n) (hll:left.length≤1000) (hol:ord.length≤1000) :
  ∀ (fuel f m:Nat) (c:Nat),left[f]?=some c→m≤left.length→left.length - m<fuel →
   (∀ f' S' b,left[f']?=some b→b=(left.drop m).foldl (Wg n A) c→Sets n (fun i j=>Du A b i j=true) S'→k1 (left.length - 1) (ord.length+1) (SA S') (Ab (At (left.eraseIdx f'))) (Ab (At (ord++[b])))=Y) →
   Dg N k1 r0 n fuel left.length ord.length (f:Int) left.length (left.length:Int) (m:Int) (SA S) (Ab (At left)) (Ab (At ord))=Y
 | 0,_,_,_,_,_,h,_=>by omega
 | fuel+1,f,m,c,hc,hm,hf,hK=>by
  have hlen:=Bm left
  have hfl:=(List.getElem?_eq_some_iff.1 hc).1
  have hcn:=hl c (List.mem_of_getElem? hc)
  rw[Dg,Iy]
  by_cases hlt:m<left.length
  ·obtain⟨x,hx⟩:∃ x,left[m]?=some x:=⟨_,List.getElem?_eq_getElem hlt⟩
   have hxn:=hl x (List.mem_of_getElem? hx)
   obtain⟨lx,hlx⟩:=hS.get hxn
   obtain⟨lc,hlc⟩:=hS.get hcn
   rw[Ik (by omega),cond_true,A6 hlt,cond_true,Zn (by omega),Dm hx,A6 hxn,cond_true]
   simp only[Int.toNat_natCast x]
   rw[Ri hlx,A6 hfl,cond_true,Zn (by omega),Dm hc,A6 hcn,cond_true]
   simp only[Int.toNat_natCast c]
   rw[Ri hlc,Bw,Bw,(hS.sort hlx).2,(hS.sort hlc).2,wS (by omega)]
   rw[X3 hx] at hK
   by_cases h:FA n A x<FA n A c
   ·have e1:Wg n A c x=x:=by unfold Wg;rw[if_pos h]
    rw[decide_eq_true (show(((B5 n A x).length:Nat):Int)<(((B5 n A c).length:Nat):Int) by unfold FA at h;omega),cond_true]
    refine XZ hN hA hn hS hl hll hol fuel m (m+1) x hx (by omega) (by omega) (fun f' S' b h1 h2 h3=>hK f' S' b h1 ?_ h3)
    rw[h2,List.foldl_cons,e1]
   ·have e1:Wg n A c x=c:=by unfold Wg;rw[if_neg h]
    rw[decide_eq_false (show ¬ (((B5 n A x).length:Nat):Int)<(((B5 n A c).length:Nat):Int) by unfold FA at h;omega),cond_false]
    refine XZ hN hA hn hS hl hll hol fuel f (m+1) c hc (by omega) (by omega) (fun f' S' b h1 h2 h3=>hK f' S' b h1 ?_ h3)
    rw[h2,List.foldl_cons,e1]
  ·have:m=left.length:=by omega
   subst this
   rw[H7 (by omega),cond_false,A6 hfl,cond_true,Zn (by omega),Dm hc,wS (by omega),Cv,Co]
   have hall:((Ab (At left)).take left.length).all Yw=true:=by
    rw[List.all_eq_true]
    intro y hy
    have hy:=List.mem_of_mem_take hy
    unfold Ab At at hy
    obtain⟨z,hz,rfl⟩:=List.mem_map.1 hy
    obtain⟨w,hw,rfl⟩:=List.mem_map.1 hz
    have:=hl w hw
    simp[Yw];omega
   have hb:(decide ((0:Int)≤(f:Int))&&(decide ((f:Int)≤((f+1:Nat):Int))&&(decide (((f+1:Nat):Int)≤((left.length:Nat):Int))&&(Nat.ble 1 left.length&&(Nat.ble left.length 16777216&&((Ab (At left)).take left.length).all Yw)))))=true:=by
    rw[hall];simp;omega
   rw[hb,cond_true]
   have e1:left.length - (((f+1:Nat):Int) - (f:Int)).toNat=left.length - 1:=by omega
   have e2:(Ab (At left)).take ((f:Nat):Int).toNat++((Ab (At left)).take left.length).drop (((f+1:Nat):Int)).toNat=Ab (At (left.eraseIdx f)):=by
    rw[Int.toNat_natCast,Int.toNat_natCast,List.take_of_length_le (i:=left.length) (by rw[Bw,hlen];exact Nat.le_refl _),List.eraseIdx_eq_take_drop_succ]
    simp[Ab,At]
   rw[e1,e2]
   refine Lm hA hn hN hcn hS (fun S' hS'=>?_)
   have hb2:(Nat.ble (ord.length+1) 140737488355328&&Nat.ble ((ord.length+1)*8) 140737488355328)=true:=by simp;omega
   have e3:(Ab (At ord)).take (ord.length*1)++[AV.int .i64 (c:Int)]=Ab (At (ord++[c])):=by
    rw[Nat.mul_one,List.take_of_length_le (by rw[Bw,Bm];exact Nat.le_refl _)]
    simp[Ab,At]
   rw[hb2,cond_true,e3]
   exact hK f S' c hc (by rw[List.drop_length];rfl) hS'
theorem RH:∀ {l:List Nat} {f b:Nat},l.Nodup→l[f]?=some b→l.eraseIdx f=l.erase b
 | [],f,b,_,h=>by simp at h
 | x::l,0,b,_,h=>by simp at h;subst h;simp
 | x::l,f+1,b,hn,h=>by
  have h1:l[f]?=some b:=by simpa using h
  have hne:x≠b:=fun e=>(List.nodup_cons.1 hn).1 (e▸List.mem_of_getElem? h1)
  rw[List.eraseIdx_cons_succ,List.erase_cons_tail (by simpa using hne),RH (List.nodup_cons.1 hn).2 h1]
theorem aH {N n:Nat} {r0:Nat→Int→LA→O R} (hN:2000≤N) (hn:n≤1000) :
  ∀ (fuel:Nat) (left ord:List Nat) (A:Nat→Nat→Bool) (S:List (List Int)),left.length<fuel→Gr A→Sets n (fun i j=>A i j=true) S→(∀ x ∈ left,x<n)→left.Nodup→left.length+ord.length≤1000 →
   Dh N r0 n fuel left.length ord.length (SA S) (Ab (At left)) (Ab (At ord))=r0 (ord++TS n left.length A left).length 0 (Ab (At (ord++TS n left.length A left)))
 | 0,_,_,_,_,h,_,_,_,_,_=>by omega
 | fuel+1,left,ord,A,S,hf,hA,hS,hl,hnd,hol=>by
  rw[Dh,Iz]
  cases left with
  | nil =>
   rw[decide_eq_false (show ¬ ((([]:List Nat).length:Nat):Int)>0 by simp),cond_false]
   simp[TS]
  | cons w l =>
   rw[decide_eq_true (show(((w::l).length:Nat):Int)>0 by simp),cond_true]
   refine XZ hN hA hn hS hl (by omega) (by omega) N 0 0 w rfl (Nat.zero_le _) (by omega) (fun f' S' b h1 h2 h3=>?_)
   rw[List.drop_zero,List.foldl_cons] at h2
   have e0:Wg n A w w=w:=by unfold Wg;split<;>rfl
   rw[e0] at h2
   obtain⟨h4,h5⟩:=List.getElem?_eq_some_iff.1 h1
   have e1:(w::l).eraseIdx f'=(w::l).erase b:=RH hnd h1
   have e2:((w::l).erase b).length=(w::l).length - 1:=List.length_erase_of_mem (List.mem_of_getElem? h1)
   have ih:=aH (r0:=r0) hN hn fuel ((w::l).erase b) (ord++[b]) (Du A b) S' (by rw[e2];simp at hf ⊢;omega) (Py hA b) h3 (fun x hx=>hl x (List.mem_of_mem_erase hx)) (hnd.erase _) (by rw[e2];simp at hol ⊢;omega)
   rw[e1]
   rw[e2] at ih
   have e3:(ord++[b]).length=ord.length+1:=by simp
   rw[e3] at ih
   refine Eq.trans ih ?_
   have e4:(ord++[b])++TS n ((w::l).length - 1) (Du A b) ((w::l).erase b)=ord++TS n (w::l).length A (w::l):=by
    rw[List.append_assoc,List.length_cons,Nat.add_sub_cancel,TS,←h2];rfl
   rw[e4]
theorem aI {N n:Nat} {A:Nat→Nat→Bool} {S:List (List Int)} {c:LA} {e d:Bool} {r0:Nat→Int→LA→O R} (hN:2000≤N) (hn:n≤1000) (hA:Gr A) (hS:Sets n (fun i j=>A i j=true) S) :
  ∀ (fuel i:Nat) (v:List Int),i≤n→n - i<fuel→v.length=n→(∀ k:Nat,k<i→v.getD k 0=(k:Int)) →
   Di N r0 c n e d (SA S) fuel (n:Int) (i:Int) (Ab v)=r0 (TS n n A (List.range n)).length 0 (Ab (At (TS n n A (List.range n))))
 | 0,_,_,_,h,_,_=>by omega
 | fuel+1,i,v,hi,hf,hv,hvk=>by
  rw[Di,I0]
  by_cases hlt:i<n
  ·rw[Ik (by omega),cond_true,A6 hlt,cond_true,Q_ (x:=i) (by rw[Bw];omega),cond_true,VS,wS (by omega)]
   refine aI hN hn hA hS fuel (i+1) _ (by omega) (by omega) (by simpa using hv) (fun k hk=>?_)
   rw[Vf (by omega)]
   by_cases hki:k=i
   ·rw[if_pos hki,hki]
   ·rw[if_neg hki];exact hvk k (by omega)
  ·have:i=n:=by omega
   subst this
   have e1:v=At (List.range i):=by
    apply List.ext_getElem?
    intro k
    by_cases hk:k<i
    ·rw[getD_some (by omega),hvk k hk];simp[At,hk]
    ·rw[List.getElem?_eq_none (by omega),List.getElem?_eq_none (by simp[At];omega)]
   have hb:(decide ((0:Int)≤(0:Int))&&(decide (0≤((i:Nat):Int))&&(decide (((i:Nat):Int)≤140737488355328)&&decide (((i:Nat):Int)*((8:Nat):Int)≤140737488355328))))=true:=by simp;omega
   rw[H7 (by omega),cond_false,hb,cond_true,e1]
   have:=aH (r0:=r0) hN hn N (List.range i) [] A S (by simp;omega) hA hS (fun x hx=>List.mem_range.1 hx) List.nodup_range (by simp;omega)
   rw[List.nil_append,List.length_range] at this
   exact this
theorem To {N:Nat} {rows:List (List Int)} {d:LA} {f e:Bool} {r0:Nat→Int→LA→O R} (hN:2000≤N) (hd:GR d rows) (hn:rows.length≤1000) (hrl:∀ j,(Ah rows j).length≤1000) :
  Ej N d rows.length f e r0=r0 (XY rows).1.length (XY rows).2 (Ab (XY rows).1):=by
 rw[O7,Jn,Ka hN hd hn hrl]
 unfold XY
 cases hv:vG rows with
 | false=>rfl
 | true =>
  have hb:(decide (0≤((rows.length:Nat):Int))&&(decide (((rows.length:Nat):Int)≤((rows.length:Nat):Int))&&(decide (((rows.length:Nat):Int)≤140737488355328)&&(decide (((rows.length:Nat):Int)*((8:Nat):Int)≤140737488355328)&&Nat.beq 1 1))))=true:=by simp;omega
  rw[Bool.not_true,cond_false,Rj hN hd hn hv,hb,cond_true,YR]
  simp only[if_true]
  rw[Bm]
  exact aI hN hn (DK hv) (FF hv) N 0 _ (Nat.zero_le _) (by omega) (by simp) (fun k h=>by omega)
def Kc (ord:List Nat) (g:Nat):List Nat:=(List.range g).filter (fun x=>!decide (x ∈ ord))
def X_ (n:Nat) (A:Nat→Nat→Bool):List Nat→Int
 | []=>-1
 | w::l=>((l.foldl (Wg n A) w:Nat):Int)
theorem bK (ord:List Nat) (g:Nat):Kc ord (g+1)=Kc ord g++(if g ∈ ord then [] else [g]):=by
 unfold Kc
 rw[List.range_succ,List.filter_append]
 congr 1
 by_cases h:g ∈ ord<;>simp[h]
theorem bq {ord:List Nat} {g:Nat}:decide ((g:Int) ∈ At ord)=decide (g ∈ ord):=by
 have:(g:Int) ∈ At ord↔g ∈ ord:=by
  unfold At
  rw[List.mem_map]
  constructor
  ·rintro⟨x,hx,h⟩;have:x=g:=by omega
   exact this▸hx
  ·intro h;exact⟨g,h,rfl⟩
 by_cases h:g ∈ ord
 ·rw[decide_eq_true h,decide_eq_true (this.2 h)]
 ·rw[decide_eq_false h,decide_eq_false (fun h2=>h (this.1 h2))]
theorem X' {N n:Nat} {A:Nat→Nat→Bool} {ord:List Nat} {c:LA} {e d:Bool} {k0:Nat→LA→LA→O R} {r0:Nat→Int→LA→O R} (hN:2000≤N) (hA:Gr A) (hn:n≤1000) (hol:ord.length≤1000) {b:Nat} (hb:X_ n A (Kc ord n)=(b:Int)) (hbn:b<n) :
  ∀ (fuel g:Nat),g≤n→n - g<fuel→C2 N k0 r0 c n e d fuel ord.length (X_ n A (Kc ord g)) (g:Int) (TB n n A) (Ab (At ord))=k0 (ord.length+1) (TB n n (Du A b)) (Ab (At (ord++[b])))
 | 0,_,_,h=>by omega
 | fuel+1,g,hg,hf=>by
  rw[C2,H1]
  have htk:(Ab (At ord)).take (ord.length*1)=Ab (At ord):=by
   rw[Nat.mul_one,List.take_of_length_le (by rw[Bw,Bm];exact Nat.le_refl _)]
  by_cases hlt:g<n
  ·have ih:=X' (c:=c) (e:=e) (d:=d) (k0:=k0) (r0:=r0) hN hA hn hol hb hbn fuel (g+1) (by omega) (by omega)
   have hhas:∀ K:Bool→O R,Ng N (Ab (At ord)) ord.length false true (g:Int) K=K (decide (g ∈ ord)):=fun K=>by
    have:=XM (N:=N) (l:=At ord) (e:=false) (f:=true) (v:=(g:Int)) (r0:=K) hN (by rw[Bm];exact hol)
    rw[Bm,bq] at this
    exact this
   rw[Ik (by omega),cond_true,htk,hhas,wS (by omega)]
   rw[bK] at ih
   by_cases hm:g ∈ ord
   ·rw[decide_eq_true hm]
    rw[if_pos hm,List.append_nil] at ih
    exact ih
   ·rw[decide_eq_false hm]
    rw[if_neg hm] at ih
    simp only[Bool.not_false,beq_self_eq_true,cond_true]
    have hlt2:∀ x ∈ Kc ord g,x<n:=fun x hx=>by
     unfold Kc at hx
     have:=List.mem_range.1 (List.mem_filter.1 hx).1
     omega
    generalize Kc ord g=L at *
    cases L with
    | nil=>exact ih
    | cons w l =>
     have hcn:l.foldl (Wg n A) w<n:=by
      rcases FH n A l w with h | h
      ·rw[h];exact hlt2 w List.mem_cons_self
      ·exact hlt2 _ (List.mem_cons_of_mem _ h)
     have e1:X_ n A (w::l)=((l.foldl (Wg n A) w:Nat):Int):=rfl
     rw[e1,H7 (by omega)]
     simp only[beq_self_eq_true,cond_true]
     rw[L_ hN hn hlt,L_ hN hn hcn]
     have e2:X_ n A (w::l++[g])=((Wg n A (l.foldl (Wg n A) w) g:Nat):Int):=by
      show(((l++[g]).foldl (Wg n A) w:Nat):Int)=_
      rw[List.foldl_append];rfl
     rw[e2] at ih
     unfold Wg at ih
     by_cases h:FA n A g<FA n A (l.foldl (Wg n A) w)
     ·rw[decide_eq_true (show(((B5 n A g).length:Nat):Int)<(((B5 n A (l.foldl (Wg n A) w)).length:Nat):Int) by unfold FA at h;omega)]
      unfold Wg at h
      rw[if_pos h] at ih
      exact ih
     ·rw[decide_eq_false (show ¬ (((B5 n A g).length:Nat):Int)<(((B5 n A (l.foldl (Wg n A) w)).length:Nat):Int) by unfold FA at h;omega)]
      unfold Wg at h
      rw[if_neg h] at ih
      exact ih
  ·have:g=n:=by omega
   subst this
   have hb2:(Nat.ble (ord.length+1) 140737488355328&&Nat.ble ((ord.length+1)*8) 140737488355328)=true:=by simp;omega
   rw[H7 (by omega),cond_false,hb2,cond_true,hb,V4 hN hA hn hbn,htk]
   congr 1
   simp[Ab,At]
theorem JM {ord:List Nat} {n b:Nat}:Kc (ord++[b]) n=(Kc ord n).erase b:=by
 have hnd:(Kc ord n).Nodup:=List.nodup_range.sublist List.filter_sublist
 rw[hnd.erase_eq_filter]
 unfold Kc
 rw[List.filter_filter]
 congr 1
 funext x
 by_cases h:x ∈ ord<;>by_cases h2:x=b<;>simp[h,h2]
theorem YA {N n:Nat} {c:LA} {e d:Bool} {r0:Nat→Int→LA→O R} (hN:2000≤N) (hn:n≤1000) :
  ∀ (fuel:Nat) (ord:List Nat) (A:Nat→Nat→Bool),n - ord.length<fuel→Gr A→(Kc ord n).length+ord.length=n →
   Bu N r0 c n e d fuel ord.length (TB n n A) (Ab (At ord))=r0 n 0 (Ab (At (ord++TS n (Kc ord n).length A (Kc ord n))))
 | 0,_,_,h,_,_=>by omega
 | fuel+1,ord,A,hf,hA,hlo=>by
  rw[Bu,H2]
  by_cases hlt:ord.length<n
  ·rw[Ik (by omega),cond_true]
   have hlt2:∀ x ∈ Kc ord n,x<n:=fun x hx=>by
    unfold Kc at hx
    exact List.mem_range.1 (List.mem_filter.1 hx).1
   cases hL:Kc ord n with
   | nil=>rw[hL] at hlo;simp at hlo;omega
   | cons w l =>
    have hbm:l.foldl (Wg n A) w ∈ Kc ord n:=by
     rw[hL]
     rcases FH n A l w with h | h
     ·rw[h];exact List.mem_cons_self
     ·exact List.mem_cons_of_mem _ h
    have hb:X_ n A (Kc ord n)=((l.foldl (Wg n A) w:Nat):Int):=by rw[hL];rfl
    have h1:=X' (c:=c) (e:=e) (d:=d) (k0:=Bu N r0 c n e d fuel) (r0:=r0) hN hA hn (by omega) hb (hlt2 _ hbm) N 0 (Nat.zero_le _) (by omega)
    refine Eq.trans h1 ?_
    have e2:(Kc (ord++[l.foldl (Wg n A) w]) n).length=(Kc ord n).length - 1:=by rw[JM];exact List.length_erase_of_mem hbm
    have e3:(ord++[l.foldl (Wg n A) w]).length=ord.length+1:=by simp
    have hpos:0<(Kc ord n).length:=by rw[hL];simp
    have ih:=YA (c:=c) (e:=e) (d:=d) (r0:=r0) hN hn fuel (ord++[l.foldl (Wg n A) w]) (Du A (l.foldl (Wg n A) w)) (by rw[e3];omega) (Py hA _) (by rw[e2,e3];omega)
    rw[e3,e2] at ih
    refine Eq.trans ih ?_
    rw[JM,hL,List.length_cons,Nat.add_sub_cancel,TS,List.append_assoc];rfl
  ·have h0:Kc ord n=[]:=List.eq_nil_of_length_eq_zero (by omega)
   have:ord.length=n:=by rw[h0] at hlo;simpa using hlo
   rw[H7 (by omega),cond_false,h0,this];simp[TS]
theorem NZ (n:Nat):∀ (k:Nat) (A:Nat→Nat→Bool) (l:List Nat),l.length=k→(TS n k A l).length=k
 | 0,_,_,_=>rfl
 | k+1,_,[],h=>by simp at h
 | k+1,A,w::l,h=>by
  have hm:l.foldl (Wg n A) w ∈ w::l:=by
   rcases FH n A l w with h | h
   ·rw[h];exact List.mem_cons_self
   ·exact List.mem_cons_of_mem _ h
  rw[TS,List.length_cons,NZ n k _ _ (by rw[List.length_erase_of_mem hm,h];rfl)]
theorem BJ {N:Nat} {rows:List (List Int)} {d:LA} {f e:Bool} {r0:Nat→Int→LA→O R} (hN:2000≤N) (hd:GR d rows) (hn:rows.length≤1000) (hrl:∀ j,(Ah rows j).length≤1000) :
  E4 N d rows.length f e r0=r0 (XY rows).1.length (XY rows).2 (Ab (XY rows).1):=by
 rw[Nj,H3,H8 hN hd hn hrl]
 unfold XY
 cases hv:vG rows with
 | false=>rfl
 | true =>
  rw[Bool.not_true,cond_false,Zp hN hd hn hv]
  have e1:Kc [] rows.length=List.range rows.length:=by unfold Kc;simp
  have:=YA (c:=d) (e:=f) (d:=e) (r0:=r0) hN hn N [] (Hf rows) (by simp;omega) (DK hv) (by rw[e1];simp)
  rw[e1,List.length_range] at this
  refine Eq.trans this ?_
  simp only[if_true,List.nil_append]
  rw[Bm,NZ _ _ _ _ (by simp)]
end
end Gx
