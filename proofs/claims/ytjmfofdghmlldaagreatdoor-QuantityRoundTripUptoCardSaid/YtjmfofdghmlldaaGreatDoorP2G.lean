/- A part of the proof: what it holds is said by each theorem. -/
import Derived.Test.YtjmfofdghmlldaaGreatDoorP1G
set_option linter.unusedVariables false
set_option linter.defProp false
set_option linter.unusedSimpArgs false
namespace Gx
open Go Go.Proofs
open IntKind (wrap)
set_option maxRecDepth 100000
noncomputable section
variable {R:Type} (N:Nat)
def Dg (N:Nat) (r0:Int→O R) (b c:Int):O R :=
 (cond (decide (b≥256)) (cond (Aj (wrap .u8 (Int.fdiv b (2 ^ 8))) 256) (r0 (wrap .i64 ((wrap .i64 (c+8))+(wrap .i64 ((UInt8.toNat (List.getD ([0,1,2,2,3,3,3,3,4,4,4,4,4,4,4,4,5,5,5,5,5,5,5,5,5,5,5,5,5,5,5,5,6,6,6,6,6,6,6,6,6,6,6,6,6,6,6,6,6,6,6,6,6,6,6,6,6,6,6,6,6,6,6,6,7,7,7,7,7,7,7,7,7,7,7,7,7,7,7,7,7,7,7,7,7,7,7,7,7,7,7,7,7,7,7,7,7,7,7,7,7,7,7,7,7,7,7,7,7,7,7,7,7,7,7,7,7,7,7,7,7,7,7,7,7,7,7,7,8,8,8,8,8,8,8,8,8,8,8,8,8,8,8,8,8,8,8,8,8,8,8,8,8,8,8,8,8,8,8,8,8,8,8,8,8,8,8,8,8,8,8,8,8,8,8,8,8,8,8,8,8,8,8,8,8,8,8,8,8,8,8,8,8,8,8,8,8,8,8,8,8,8,8,8,8,8,8,8,8,8,8,8,8,8,8,8,8,8,8,8,8,8,8,8,8,8,8,8,8,8,8,8,8,8,8,8,8,8,8,8,8,8,8,8,8,8,8,8,8,8,8,8,8,8,8,8]:List UInt8) ((wrap .u8 (Int.fdiv b (2 ^ 8))).toNat) 0):Nat):Int))))) none) (cond (Aj (wrap .u8 b) 256) (r0 (wrap .i64 (c+(wrap .i64 ((UInt8.toNat (List.getD ([0,1,2,2,3,3,3,3,4,4,4,4,4,4,4,4,5,5,5,5,5,5,5,5,5,5,5,5,5,5,5,5,6,6,6,6,6,6,6,6,6,6,6,6,6,6,6,6,6,6,6,6,6,6,6,6,6,6,6,6,6,6,6,6,7,7,7,7,7,7,7,7,7,7,7,7,7,7,7,7,7,7,7,7,7,7,7,7,7,7,7,7,7,7,7,7,7,7,7,7,7,7,7,7,7,7,7,7,7,7,7,7,7,7,7,7,7,7,7,7,7,7,7,7,7,7,7,7,8,8,8,8,8,8,8,8,8,8,8,8,8,8,8,8,8,8,8,8,8,8,8,8,8,8,8,8,8,8,8,8,8,8,8,8,8,8,8,8,8,8,8,8,8,8,8,8,8,8,8,8,8,8,8,8,8,8,8,8,8,8,8,8,8,8,8,8,8,8,8,8,8,8,8,8,8,8,8,8,8,8,8,8,8,8,8,8,8,8,8,8,8,8,8,8,8,8,8,8,8,8,8,8,8,8,8,8,8,8,8,8,8,8,8,8,8,8,8,8,8,8,8,8,8,8,8,8]:List UInt8) ((wrap .u8 b).toNat) 0):Nat):Int))))) none))
def Jy (N:Nat) (r0:Int→O R) (q0:Int→Int→O R) (d:Int):O R :=
 (cond (decide (d≥65536)) (q0 (Int.fdiv d (2 ^ 16)) 16) (q0 d 0))
def Fl:=(Ag (fun (N:Nat) (d:Int) (r0:Int→O R)=>(Jy N r0 (fun b c=>(Dg N r0 b c)) d))).1
theorem P9 (d r0):(@Fl R N d r0)=(Jy N r0 (fun b c=>(Dg N r0 b c)) d):=by rw[Fl,(Ag _).2]
def Sl:Hints:={ H:=(hS hL (hJ [0,2] hL hL)) }
def QU (F:KF R):=Ov Tryz.f299 Sl [] [] N F
def G8 (F:KF R):Int→O R:=(fun e=>F (iv e) [])
def QV (b c:Int):St:=⟨[(0,(.int .u32 b)),(2,(iv c))],[]⟩
def QW (F:KF R):=QU N F [1,1] []
theorem EE (F:KF R):∀ (b c:Int),Cm (QW N F) (QV b c)=(Dg N (G8 F) b c):=by
 intro b c
 kernel_rfl
theorem Sm (d:Int) (F:KF R):Cd [] Sl N 299 [(.int .u32 d)] [] F=(Fl N d (G8 F)):=by
 rw[P9]
 exact Eq.trans (by kernel_rfl) (Da (Jy N (G8 F) · d) (funext fun b=>funext fun c=>(A2 ..).trans (EE N F b c)):_)
def Qa (a:LA) (h:Ah) (k:KF R):O R :=
 match a,h with
 | [(.int .u32 d)],[]=>(Fl N d (G8 k))
 | _,_=>none
theorem Sn:An N 299 @Qa:=by
 intro R Q a h k j;unfold Qa;split;exact As (Sm ..) (Sm ..) trivial;exact Av
def QX:=At (Sn N)
def QY:=Cg (Sn N)
def Fj (b:Int) (r0:Int→O R):O R :=
 (Fl N b (fun c=>(r0 (wrap .i64 (32 - c)))))
def Bh:=(Ag (@Fj R)).1
theorem Ho:@Bh R=@Fj R:=(Ag _).2
def So:D8:=[(299,QX N)]
def Ic (F:KF R):Int→O R:=(fun d=>F (iv d) [])
theorem If (b:Int) (F:KF R):Cd (So N) C1 N 275 [(.int .u32 b)] [] F=(Bh N b (Ic F)):=by
 rw[Ho]
 kernel_rfl
def Hp (a:LA) (h:Ah) (k:KF R):O R :=
 match a,h with
 | [(.int .u32 b)],[]=>(Bh N b (Ic k))
 | _,_=>none
theorem Ig:An N 275 @Hp:=by
 intro R Q a h k j;unfold Hp;split;exact As (If ..) (If ..) ⟨QY N,trivial⟩;exact Av
def Ih:=At (Ig N)
def Ii:=Cg (Ig N)
def Sp (N:Nat) (f:Int) (c:LA) (b:Nat) (d e:Bool) (r0:Int→O R):O R :=
 (cond (decide (f<((b:Nat):Int))) (cond (Aj f b) (Bw .u32 (c.drop ((f.toNat)*1)) fun g=>(r0 (wrap .u64 g))) none) (r0 0))
def Fz:=(Ag (@Sp R)).1
theorem Ut:@Fz R=@Sp R:=(Ag _).2
def Xt (c:LA) (b:Nat) (d e:Bool) (F:KF R):Int→O R:=(fun i=>F (.int .u64 i) [(100000,(bN 0 [(.imm c b 1 d e)]))])
theorem Xu (f:Int) (c:LA) (b:Nat) (d e:Bool) (F:KF R):Cd [] C1 N 314 [(iv f),(.optr 100000 0)] [(100000,(bN 0 [(.imm c b 1 d e)]))] F=(Fz N f c b d e (Xt c b d e F)):=by
 rw[Ut]
 kernel_rfl
def Uu (a:LA) (h:Ah) (k:KF R):O R :=
 match a,h with
 | [(.int .i64 f),(.optr 100000 0)],[(100000,⟨false,false,false,false,0,[(.imm c b 1 d e)],false,none⟩)]=>(Fz N f c b d e (Xt c b d e k))
 | _,_=>none
theorem Xv:An N 314 @Uu:=by
 intro R Q a h k j;unfold Uu;split;exact As (Xu ..) (Xu ..) trivial;exact Av
def aN:=At (Xv N)
def aO:=Cg (Xv N)
def QZ (c:LA) (d:Nat) (e f:Bool) (g b:Int) (r0:Int→O R):O R :=
 (Fz N (wrap .i64 (g - 1)) c d e f (fun i=>(Fz N (wrap .i64 (g - 2)) c d e f (fun l=>(cond (decide (b<0)) none (Fz N (wrap .i64 (g - 3)) c d e f (fun m=>(cond (decide ((wrap .i64 (32 - b))<0)) none (r0 (Lp .u64 (wrap .u64 ((Lp .u64 (wrap .u64 (i*2 ^ 32)) l)*2 ^ (min (b.toNat) 64))) (Int.fdiv m (2 ^ (min ((wrap .i64 (32 - b)).toNat) 64)))))))))))))
def Rm:=(Ag (@QZ R)).1
theorem MA:@Rm R=@QZ R:=(Ag _).2
def uU:D8:=[(314,aN N)]
def UF (F:KF R):Int→O R:=(fun n=>F (.int .u64 n) [])
theorem UG (c:LA) (d:Nat) (e f:Bool) (g b:Int) (F:KF R):Cd (uU N) C1 N 298 [(.imm c d 1 e f),(iv g),(iv b)] [] F=(Rm N c d e f g b (UF F)):=by
 rw[MA]
 kernel_rfl
def MB (a:LA) (h:Ah) (k:KF R):O R :=
 match a,h with
 | [(.imm c d 1 e f),(.int .i64 g),(.int .i64 b)],[]=>(Rm N c d e f g b (UF k))
 | _,_=>none
theorem UH:An N 298 @MB:=by
 intro R Q a h k j;unfold MB;split;exact As (UG ..) (UG ..) ⟨aO N,trivial⟩;exact Av
def rJ:=At (UH N)
def rK:=Cg (UH N)
def Oy (N:Nat) (k0:Int→Int→Int→Int→Int→Int→Int→Int→Bool→O R) (r0:LA→O R) (q o r s t u:Int) (w:Bool):O R :=
 (cond (o==0) none (cond (o==0) none (k0 o (Int.tmod q o) r s (wrap .u64 (r+(wrap .u64 ((wrap .u64 (Int.tdiv q o))*s)))) t u (wrap .u64 (t+(wrap .u64 ((wrap .u64 (Int.tdiv q o))*u)))) (!w))))
def Gh (N:Nat) (r0:LA→O R) (k0:Int→Int→Int→Int→Int→Int→Int→Int→Bool→O R) (q1:Int→Int→Int→Int→Int→Int→Bool→O R) (g c i d m l b e:Int) (f:Bool):O R :=
 (cond ((decide (c≥e))==true) (cond (cond true (decide ((wrap .u64 (g - c))≥(wrap .u64 (b+e)))) false) (q1 g c d m b e f) (r0 [(.int .u64 i),(.int .u64 d),(.int .u64 l),(.int .u64 b),(.bool f)])) (r0 [(.int .u64 i),(.int .u64 d),(.int .u64 l),(.int .u64 b),(.bool f)]))
def Cz (r0:LA→O R):Nat→Int→Int→Int→Int→Int→Int→Int→Int→Bool→O R
 | 0,_,_,_,_,_,_,_,_,_=>none
 | n+1,g,c,i,d,m,l,b,e,f=>(Gh N r0 (Cz r0 n) (fun q o r s t u w=>(Oy N (Cz r0 n) r0 q o r s t u w)) g c i d m l b e f)
def Uv (r0:LA→O R) (q0:Int→Int→Int→Int→Int→Int→Int→Int→Bool→O R) (v:LA) (p:Nat) (ab x:Bool) (y:LA) (z:Nat) (ac aa:Bool):O R :=
 (cond (Aj (wrap .i64 (((p:Nat):Int) - 1)) p) (Bw .u32 (v.drop (((wrap .i64 (((p:Nat):Int) - 1)).toNat)*1)) fun ae=>(Bh N ae (fun ad=>(Rm N v p false x ((p:Nat):Int) ad (fun af=>(Rm N y z false aa ((p:Nat):Int) ad (fun ag=>(q0 af ag 0 1 0 0 0 1 false)))))))) none)
def N6:=(Ag (fun (N:Nat) (v:LA) (p:Nat) (ab x:Bool) (y:LA) (z:Nat) (ac aa:Bool) (r0:LA→O R)=>(Uv N r0 (fun g c i d m l b e f=>(Cz N r0 N g c i d m l b e f)) v p ab x y z ac aa))).1
theorem FN (v p ab x y z ac aa r0):(@N6 R N v p ab x y z ac aa r0)=(Uv N r0 (fun g c i d m l b e f=>(Cz N r0 N g c i d m l b e f)) v p ab x y z ac aa):=by rw[N6,(Ag _).2]
def MC:Hints:={ H:=(hS hL (hS hL (hS hL (hS hL (hS hL (hS hL (hS hL (hS (hS (hP [4,7,8,9,10,11,12,13,14,15] (hJ [4,7,8,10,11,13,14,15] hL hL)) hL) hL)))))))),modes:=[(3,0)] }
def UI:D8:=[(275,Ih N),(298,rJ N)]
def MD (F:KF R):=Ov Tryz.f273 MC (UI N) [] N F
def F0 (F:KF R):LA→O R:=(fun ah=>F (.pagg ah false) [])
def mi (q o r s t u:Int) (w:Bool):St:=⟨[(4,(op 0)),(7,(.int .u64 q)),(8,(.int .u64 o)),(10,(.int .u64 r)),(11,(.int .u64 s)),(13,(.int .u64 t)),(14,(.int .u64 u)),(15,(.bool w))],(hq [(bQ 0 [(.int .u64 0),(.int .u64 0),(.int .u64 0),(.int .u64 0),(.bool false)])])⟩
def mj (F:KF R) (Q0:St→O R):=MD N F [1,1,1,1,1,1,1,0,0,0,1] [Q0]
def ME (g c i d m l b e:Int) (f:Bool):St:=⟨[(4,(op 0)),(7,(.int .u64 g)),(8,(.int .u64 c)),(9,(.int .u64 i)),(10,(.int .u64 d)),(11,(.int .u64 m)),(12,(.int .u64 l)),(13,(.int .u64 b)),(14,(.int .u64 e)),(15,(.bool f))],(hq [(bQ 0 [(.int .u64 0),(.int .u64 0),(.int .u64 0),(.int .u64 0),(.bool false)])])⟩
def MF (F:KF R):=MD N F [1,1,1,1,1,1,1,0,0] []
theorem aP (Q0:St→O R) (F:KF R):∀ (q o r s t u:Int) (w:Bool),Cm (mj N F Q0) (mi q o r s t u w)=(Oy N (fun g c i d m l b e f=>Q0 (ME g c i d m l b e f)) (F0 F) q o r s t u w):=by
 intro q o r s t u w
 kernel_rfl
theorem Xw (F:KF R):∀ (n:Nat) (g c i d m l b e:Int) (f:Bool),Au (MF N F) n (ME g c i d m l b e f)=(Cz N (F0 F) n g c i d m l b e f)
 | 0,_,_,_,_,_,_,_,_,_=>by kernel_rfl
 | n+1,g,c,i,d,m,l,b,e,f=>have e0:=(funext fun g=>funext fun c=>funext fun i=>funext fun d=>funext fun m=>funext fun l=>funext fun b=>funext fun e=>funext fun f=>(Xw F n g c i d m l b e f))
  Eq.trans (by kernel_rfl) (uB (Gh N (F0 F) · · g c i d m l b e f) e0 (funext fun q=>funext fun o=>funext fun r=>funext fun s=>funext fun t=>funext fun u=>funext fun w=>(A2 ..).trans ((aP N (Au (MF N F) n) F q o r s t u w).trans (Da (Oy N · (F0 F) q o r s t u w) e0))):_)
theorem MG (v:LA) (p:Nat) (ab x:Bool) (y:LA) (z:Nat) (ac aa:Bool) (F:KF R):Cd (UI N) MC N 273 [(.imm v p 1 ab x),(.imm y z 1 ac aa)] [] F=(N6 N v p ab x y z ac aa (F0 F)):=by
 rw[FN]
 exact Eq.trans (by kernel_rfl) (Da (Uv N (F0 F) · v p ab x y z ac aa) (funext fun g=>funext fun c=>funext fun i=>funext fun d=>funext fun m=>funext fun l=>funext fun b=>funext fun e=>funext fun f=>(Ap ..).trans (Xw N F N g c i d m l b e f)):_)
def FO (a:LA) (h:Ah) (k:KF R):O R :=
 match a,h with
 | [(.imm v p 1 ab x),(.imm y z 1 ac aa)],[]=>(N6 N v p ab x y z ac aa (F0 k))
 | _,_=>none
theorem MH:An N 273 @FO:=by
 intro R Q a h k j;unfold FO;split;exact As (MG ..) (MG ..) ⟨Ii N,rK N,trivial⟩;exact Av
def ml:=At (MH N)
def mm:=Cg (MH N)
def Gd (r0:Nat→Nat→LA→LA→O R) (d:LA) (b:Nat) (e f:Bool) (c:Int) (k0:Int→Int→LA→O R) (l g:Int) (i:LA):O R :=
 (cond (decide (g≥0)) (cond (Aj g b) (Bw .u32 (d.drop ((g.toNat)*1)) fun m=>(cond ((wrap .u64 c)==0) none (cond (Aj g b) (cond ((Nat.beq 1 1)&&((Nat.ble ((0+((g.toNat)*1))+1) (i.length))&&(!false))) (cond ((wrap .u64 c)==0) none (k0 (Int.tmod (Lp .u64 (wrap .u64 (l*2 ^ 32)) (wrap .u64 m)) (wrap .u64 c)) (wrap .i64 (g - 1)) (i.set (0+((g.toNat)*1)) (.int .u32 (wrap .u32 (wrap .u64 (Int.tdiv (Lp .u64 (wrap .u64 (l*2 ^ 32)) (wrap .u64 m)) (wrap .u64 c)))))))) none) none))) none) (Nz N b i (fun o=>(Bc N l (fun p q=>(r0 o p i q))))))
def Cn (r0:Nat→Nat→LA→LA→O R) (d:LA) (b:Nat) (e f:Bool) (c:Int):Nat→Int→Int→LA→O R
 | 0,_,_,_=>none
 | n+1,l,g,i=>(Gd N r0 d b e f c (Cn r0 d b e f c n) l g i)
def Jz (N:Nat) (r0:Nat→Nat→LA→LA→O R) (q0:Int→Int→LA→O R) (d:LA) (b:Nat) (e f:Bool) (c:Int):O R :=
 (cond ((decide (0≤((b:Nat):Int)))&&((decide (((b:Nat):Int)≤((b:Nat):Int)))&&((decide (((b:Nat):Int)≤140737488355328))&&(decide ((((b:Nat):Int)*((4:Nat):Int))≤140737488355328))))) (q0 0 (wrap .i64 (((b:Nat):Int) - 1)) (List.replicate b (.int .u32 0))) none)
def Dx:=(Ag (fun (N:Nat) (d:LA) (b:Nat) (e f:Bool) (c:Int) (r0:Nat→Nat→LA→LA→O R)=>(Jz N r0 (fun l g i=>(Cn N r0 d b e f c N l g i)) d b e f c))).1
theorem Qb (d b e f c r0):(@Dx R N d b e f c r0)=(Jz N r0 (fun l g i=>(Cn N r0 d b e f c N l g i)) d b e f c):=by rw[Dx,(Ag _).2]
def Ss:Hints:={ H:=(hS hL (hS hL (hS hL (hS (hS hL (hS (hP [0,1,4,6,7] hL) hL)) hL)))),nils:=[(4,1),(5,1)],modes:=[(2,1),(2,1)] }
def Uw:D8:=[(214,aA N),(133,Et N)]
def Q_ (F:KF R):=Ov Tryz.f216 Ss (Uw N) [] N F
def E1 (F:KF R):Nat→Nat→LA→LA→O R:=(fun r s t u=>F (.tup [(.own 300000 0 r),(.own 300001 0 s)]) (hq [(bQ 1 t),(bQ 1 u)]))
def Q' (d:LA) (b:Nat) (e f:Bool) (c l g:Int) (i:LA):St:=⟨[(0,(.imm d b 1 e f)),(1,(.int .u32 c)),(4,(.own 300000 0 b)),(6,(.int .u64 l)),(7,(iv g))],(hq [(bQ 1 i)])⟩
def RA (F:KF R):=Q_ N F [1,1,1,0,1,0] []
theorem Nh (F:KF R) (d:LA) (b:Nat) (e f:Bool) (c:Int):∀ (n:Nat) (l g:Int) (i:LA),Au (RA N F) n (Q' d b e f c l g i)=(Cn N (E1 F) d b e f c n l g i)
 | 0,_,_,_=>by kernel_rfl
 | n+1,l,g,i=>Eq.trans (by kernel_rfl) (Da (Gd N (E1 F) d b e f c · l g i) (funext fun l=>funext fun g=>funext fun i=>(Nh F d b e f c n l g i)):_)
theorem Sw (d:LA) (b:Nat) (e f:Bool) (c:Int) (F:KF R):Cd (Uw N) Ss N 216 [(.imm d b 1 e f),(.int .u32 c)] [] F=(Dx N d b e f c (E1 F)):=by
 rw[Qb]
 exact Eq.trans (by kernel_rfl) (Da (Jz N (E1 F) · d b e f c) (funext fun l=>funext fun g=>funext fun i=>(Ap ..).trans (Nh N F d b e f c N l g i)):_)
def Qc (a:LA) (h:Ah) (k:KF R):O R :=
 match a,h with
 | [(.imm d b 1 e f),(.int .u32 c)],[]=>(Dx N d b e f c (E1 k))
 | _,_=>none
theorem Sz:An N 216 @Qc:=by
 intro R Q a h k j;unfold Qc;split;exact As (Sw ..) (Sw ..) ⟨aB N,Eu N,trivial⟩;exact Av
def RB:=At (Sz N)
def RC:=Cg (Sz N)
def Ms (N:Nat) (r0:Nat→LA→O R) (d:LA) (b:Nat) (e f:Bool) (c:Int) (k0:Nat→Int→Int→Int→LA→O R) (i:Nat) (m o g:Int) (l:LA):O R :=
 (cond (decide (g<o)) (cond (Aj g b) (Bw .u32 (d.drop ((g.toNat)*1)) fun p=>(cond (decide (c<0)) none (cond (Aj g i) (cond ((Nat.beq 1 1)&&((Nat.ble ((0+((g.toNat)*1))+1) (l.length))&&(!false))) (k0 i (Int.fdiv (Lp .u64 m (wrap .u64 ((wrap .u64 p)*2 ^ (min (c.toNat) 64)))) (2 ^ 32)) o (wrap .i64 (g+1)) (l.set (0+((g.toNat)*1)) (.int .u32 (wrap .u32 (Lp .u64 m (wrap .u64 ((wrap .u64 p)*2 ^ (min (c.toNat) 64)))))))) none) none))) none) (cond (Aj ((b:Nat):Int) i) (cond ((Nat.beq 1 1)&&((Nat.ble ((0+(b*1))+1) (l.length))&&(!false))) (r0 i (l.set (0+(b*1)) (.int .u32 (wrap .u32 m)))) none) none))
def F1 (r0:Nat→LA→O R) (d:LA) (b:Nat) (e f:Bool) (c:Int):Nat→Nat→Int→Int→Int→LA→O R
 | 0,_,_,_,_,_=>none
 | n+1,i,m,o,g,l=>(Ms N r0 d b e f c (F1 r0 d b e f c n) i m o g l)
def Ux (N:Nat) (r0:Nat→LA→O R) (q0:Nat→Int→Int→Int→LA→O R) (d:LA) (b:Nat) (e f:Bool) (c:Int):O R :=
 (cond ((decide (0≤(wrap .i64 (((b:Nat):Int)+1))))&&((decide ((wrap .i64 (((b:Nat):Int)+1))≤(wrap .i64 (((b:Nat):Int)+1))))&&((decide ((wrap .i64 (((b:Nat):Int)+1))≤140737488355328))&&(decide (((wrap .i64 (((b:Nat):Int)+1))*((4:Nat):Int))≤140737488355328))))) (q0 ((wrap .i64 (((b:Nat):Int)+1)).toNat) 0 ((b:Nat):Int) 0 (List.replicate ((wrap .i64 (((b:Nat):Int)+1)).toNat) (.int .u32 0))) none)
def Lf:=(Ag (fun (N:Nat) (d:LA) (b:Nat) (e f:Bool) (c:Int) (r0:Nat→LA→O R)=>(Ux N r0 (fun i m o g l=>(F1 N r0 d b e f c N i m o g l)) d b e f c))).1
theorem FP (d b e f c r0):(@Lf R N d b e f c r0)=(Ux N r0 (fun i m o g l=>(F1 N r0 d b e f c N i m o g l)) d b e f c):=by rw[Lf,(Ag _).2]
def MI:Hints:={ H:=(hS hL (hS hL (hS hL (hS (hS hL (hS (hP [0,1,5,6,13,14,15] hL) hL)) hL)))),nils:=[(4,1)],modes:=[(2,1)] }
def mn (F:KF R):=Ov Tryz.f276 MI [] [] N F
def Ks (F:KF R):Nat→LA→O R:=(fun q r=>F (.own 300000 0 q) (hq [(bQ 1 r)]))
def mo (d:LA) (b:Nat) (e f:Bool) (c:Int) (i:Nat) (m o g:Int) (l:LA):St:=⟨[(0,(.imm d b 1 e f)),(1,(iv c)),(5,(.own 300000 0 i)),(6,(.int .u64 m)),(13,(.imm d b 1 e f)),(14,(iv o)),(15,(iv g))],(hq [(bQ 1 l)])⟩
def mq (F:KF R):=mn N F [1,1,1,0,1,0] []
theorem Xx (F:KF R) (d:LA) (b:Nat) (e f:Bool) (c:Int):∀ (n i:Nat) (m o g:Int) (l:LA),Au (mq N F) n (mo d b e f c i m o g l)=(F1 N (Ks F) d b e f c n i m o g l)
 | 0,_,_,_,_,_=>by kernel_rfl
 | n+1,i,m,o,g,l=>Eq.trans (by kernel_rfl) (Da (Ms N (Ks F) d b e f c · i m o g l) (funext fun i=>funext fun m=>funext fun o=>funext fun g=>funext fun l=>(Xx F d b e f c n i m o g l)):_)
theorem MJ (d:LA) (b:Nat) (e f:Bool) (c:Int) (F:KF R):Cd [] MI N 276 [(.imm d b 1 e f),(iv c)] [] F=(Lf N d b e f c (Ks F)):=by
 rw[FP]
 exact Eq.trans (by kernel_rfl) (Da (Ux N (Ks F) · d b e f c) (funext fun i=>funext fun m=>funext fun o=>funext fun g=>funext fun l=>(Ap ..).trans (Xx N F d b e f c N i m o g l)):_)
def FQ (a:LA) (h:Ah) (k:KF R):O R :=
 match a,h with
 | [(.imm d b 1 e f),(.int .i64 c)],[]=>(Lf N d b e f c (Ks k))
 | _,_=>none
theorem MK:An N 276 @FQ:=by
 intro R Q a h k j;unfold FQ;split;exact As (MJ ..) (MJ ..) trivial;exact Av
def mr:=At (MK N)
def mt:=Cg (MK N)
def J3 (N:Nat) (r0:Int→LA→O R) (c d:Nat) (e m:Int) (f:LA) (b:Nat) (g i:Bool) (k4:Int→Int→Int→LA→O R) (v w q:Int) (t:LA):O R :=
 (cond (decide (q<w)) (cond (Aj q b) (Bw .u32 (f.drop ((q.toNat)*1)) fun aa=>(cond (Aj q d) (Bw .u32 (t.drop (c+((q.toNat)*1))) fun ab=>(cond (Aj q d) (cond ((Nat.beq 1 1)&&((Nat.ble ((c+((q.toNat)*1))+1) (t.length))&&(!false))) (k4 (Int.fdiv (wrap .u64 (v+(wrap .u64 ((wrap .u64 ab)+(wrap .u64 aa))))) (2 ^ 32)) w (wrap .i64 (q+1)) (t.set (c+((q.toNat)*1)) (.int .u32 (wrap .u32 (wrap .u64 (v+(wrap .u64 ((wrap .u64 ab)+(wrap .u64 aa))))))))) none) none)) none)) none) (cond (Aj e d) (Bw .u32 (t.drop (c+((e.toNat)*1))) fun ai=>(cond (Aj e d) (cond ((Nat.beq 1 1)&&((Nat.ble ((c+((e.toNat)*1))+1) (t.length))&&(!false))) (r0 (wrap .u32 (wrap .u64 (m - 1))) (t.set (c+((e.toNat)*1)) (.int .u32 (wrap .u32 (ai+(wrap .u32 v)))))) none) none)) none))
def Fm (r0:Int→LA→O R) (c d:Nat) (e m:Int) (f:LA) (b:Nat) (g i:Bool):Nat→Int→Int→Int→LA→O R
 | 0,_,_,_,_=>none
 | n+1,v,w,q,t=>(J3 N r0 c d e m f b g i (Fm r0 c d e m f b g i n) v w q t)
def Gi (N:Nat) (r0:Int→LA→O R) (c d:Nat) (f:LA) (b:Nat) (g i:Bool) (e m:Int) (k3:Int→Int→Int→LA→O R) (q4:Int→Int→Int→LA→O R) (u x r:Int) (s:LA):O R :=
 (cond (decide (r<x)) (cond (Aj r b) (Bw .u32 (f.drop ((r.toNat)*1)) fun y=>(cond (Aj r d) (Bw .u32 (s.drop (c+((r.toNat)*1))) fun ac=>(cond (Aj r d) (cond ((Nat.beq 1 1)&&((Nat.ble ((c+((r.toNat)*1))+1) (s.length))&&(!false))) (k3 (wrap .u64 ((Int.fdiv (wrap .u64 ((wrap .u64 (m*(wrap .u64 y)))+u)) (2 ^ 32))+(Int.fdiv (wrap .u64 ((wrap .u64 ac) - (wrap .u64 (wrap .u32 (wrap .u64 ((wrap .u64 (m*(wrap .u64 y)))+u)))))) (2 ^ 63)))) x (wrap .i64 (r+1)) (s.set (c+((r.toNat)*1)) (.int .u32 (wrap .u32 (wrap .u64 ((wrap .u64 ac) - (wrap .u64 (wrap .u32 (wrap .u64 ((wrap .u64 (m*(wrap .u64 y)))+u)))))))))) none) none)) none)) none) (cond (Aj e d) (Bw .u32 (s.drop (c+((e.toNat)*1))) fun z=>(cond (Aj e d) (cond ((Nat.beq 1 1)&&((Nat.ble ((c+((e.toNat)*1))+1) (s.length))&&(!false))) (cond ((Int.fdiv (wrap .u64 ((wrap .u64 z) - u)) (2 ^ 63))==0) (r0 (wrap .u32 m) (s.set (c+((e.toNat)*1)) (.int .u32 (wrap .u32 (wrap .u64 ((wrap .u64 z) - u)))))) (q4 0 ((b:Nat):Int) 0 (s.set (c+((e.toNat)*1)) (.int .u32 (wrap .u32 (wrap .u64 ((wrap .u64 z) - u))))))) none) none)) none))
def Dy (r0:Int→LA→O R) (c d:Nat) (f:LA) (b:Nat) (g i:Bool) (e m:Int):Nat→Int→Int→Int→LA→O R
 | 0,_,_,_,_=>none
 | n+1,u,x,r,s=>(Gi N r0 c d f b g i e m (Dy r0 c d f b g i e m n) (fun v w q t=>(Fm N r0 c d e m f b g i N v w q t)) u x r s)
def N7 (N:Nat) (r0:Int→LA→O R) (c d:Nat) (f:LA) (b:Nat) (g i:Bool) (e:Int) (l:LA) (q3:Int→Int→Int→LA→O R) (m:Int):O R :=
 (q3 0 ((b:Nat):Int) 0 l)
def C7 (r0:Int→LA→O R) (c d:Nat) (f:LA) (b:Nat) (g i:Bool) (e:Int) (l:LA) (m:Int):O R:=(N7 N r0 c d f b g i e l (fun u x r s=>(Dy N r0 c d f b g i e m N u x r s)) m)
def N8 (N:Nat) (k0:Int→Int→Int→O R) (r0:Int→LA→O R) (c d:Nat) (f:LA) (b:Nat) (g i:Bool) (e o p:Int) (l:LA) (q2:Int→O R):O R :=
 (cond (Aj (wrap .i64 (e - 1)) b) (Bw .u32 (f.drop (((wrap .i64 (e - 1)).toNat)*1)) fun ad=>(cond ((Int.fdiv (wrap .u64 (p+(wrap .u64 ad))) (2 ^ 32)) != 0) (q2 (wrap .u64 (o - 1))) (k0 e (wrap .u64 (o - 1)) (wrap .u64 (p+(wrap .u64 ad)))))) none)
def Hq (k0:Int→Int→Int→O R) (r0:Int→LA→O R) (c d:Nat) (f:LA) (b:Nat) (g i:Bool) (e o p:Int) (l:LA):O R:=(N8 N k0 r0 c d f b g i e o p l (fun m=>(C7 N r0 c d f b g i e l m)))
def N9 (N:Nat) (r0:Int→LA→O R) (c d:Nat) (f:LA) (b:Nat) (g i:Bool) (l:LA) (k0:Int→Int→Int→O R) (q1:O R) (q2:Int→O R) (e o p:Int):O R :=
 (cond (((Int.fdiv o (2 ^ 32)) != 0)==false) (cond (Aj (wrap .i64 (e - 2)) b) (Bw .u32 (f.drop (((wrap .i64 (e - 2)).toNat)*1)) fun aj=>(cond (Aj (wrap .i64 (e - 2)) d) (Bw .u32 (l.drop (c+(((wrap .i64 (e - 2)).toNat)*1))) fun ak=>(cond (cond false true (decide ((wrap .u64 (o*(wrap .u64 aj)))>(Lp .u64 (wrap .u64 (p*2 ^ 32)) (wrap .u64 ak))))) q1 (q2 o))) none)) none) q1)
def C8 (r0:Int→LA→O R) (c d:Nat) (f:LA) (b:Nat) (g i:Bool) (l:LA):Nat→Int→Int→Int→O R
 | 0,_,_,_=>none
 | n+1,e,o,p=>(N9 N r0 c d f b g i l (C8 r0 c d f b g i l n) (Hq N (C8 r0 c d f b g i l n) r0 c d f b g i e o p l) (fun m=>(C7 N r0 c d f b g i e l m)) e o p)
def Oz (N:Nat) (r0:Int→LA→O R) (q0:Int→Int→Int→O R) (c d:Nat) (f:LA) (b:Nat) (g i:Bool) (l:LA):O R :=
 (cond (Aj ((b:Nat):Int) d) (Bw .u32 (l.drop (c+(b*1))) fun ae=>(cond (Aj (wrap .i64 (((b:Nat):Int) - 1)) d) (Bw .u32 (l.drop (c+(((wrap .i64 (((b:Nat):Int) - 1)).toNat)*1))) fun af=>(cond (Aj (wrap .i64 (((b:Nat):Int) - 1)) b) (Bw .u32 (f.drop (((wrap .i64 (((b:Nat):Int) - 1)).toNat)*1)) fun ag=>(cond ((wrap .u64 ag)==0) none (cond (Aj (wrap .i64 (((b:Nat):Int) - 1)) b) (Bw .u32 (f.drop (((wrap .i64 (((b:Nat):Int) - 1)).toNat)*1)) fun ah=>(cond ((wrap .u64 ah)==0) none (q0 ((b:Nat):Int) (wrap .u64 (Int.tdiv (Lp .u64 (wrap .u64 ((wrap .u64 ae)*2 ^ 32)) (wrap .u64 af)) (wrap .u64 ag))) (Int.tmod (Lp .u64 (wrap .u64 ((wrap .u64 ae)*2 ^ 32)) (wrap .u64 af)) (wrap .u64 ah))))) none))) none)) none)) none)
def G9:=(Ag (fun (N:Nat) (c d:Nat) (f:LA) (b:Nat) (g i:Bool) (l:LA) (r0:Int→LA→O R)=>(Oz N r0 (fun e o p=>(C8 N r0 c d f b g i l N e o p)) c d f b g i l))).1
theorem Xy (c d f b g i l r0):(@G9 R N c d f b g i l r0)=(Oz N r0 (fun e o p=>(C8 N r0 c d f b g i l N e o p)) c d f b g i l):=by rw[G9,(Ag _).2]
def BW:Hints:={ H:=(hS hL (hS hL (hS hL (hS hL (hJ [0,1,5,7] (hS (hP [0,1,5,7,8] (hJ [0,1,5,7,8] hL hL)) hL) (hS hL (hS (hS hL (hS (hP [0,1,5,7,9,84,85,86] hL) hL)) (hS hL (hS hL (hS hL (hS hL (hS (hS hL (hS (hP [0,5,7,9,134,135,136] hL) hL)) hL)))))))))))) }
def Hr (F:KF R):=Ov Tryz.f277 BW [] [100000] N F
def Ba (F:KF R):Int→LA→O R:=(fun al am=>F (.int .u32 al) [(100000,(bQ 1 am))])
def fP (c d:Nat) (e m:Int) (f:LA) (b:Nat) (g i:Bool) (v w q:Int) (t:LA):St:=⟨[(0,(.own 100000 c d)),(5,(iv e)),(7,(.int .u64 m)),(9,(.int .u64 v)),(134,(.imm f b 1 g i)),(135,(iv w)),(136,(iv q))],[(100000,(bQ 1 t))]⟩
def fQ (F:KF R):=Hr N F [1,1,1,1,1,1,1,1,1,1,1,0,1,0] []
def fR (c d:Nat) (f:LA) (b:Nat) (g i:Bool) (e m u x r:Int) (s:LA):St:=⟨[(0,(.own 100000 c d)),(1,(.imm f b 1 g i)),(5,(iv e)),(7,(.int .u64 m)),(9,(.int .u64 u)),(84,(.imm f b 1 g i)),(85,(iv x)),(86,(iv r))],[(100000,(bQ 1 s))]⟩
def fS (F:KF R):=Hr N F [1,1,1,1,1,1,0,1,0] []
def fT (c d:Nat) (f:LA) (b:Nat) (g i:Bool) (e:Int) (l:LA) (m:Int):St:=⟨[(0,(.own 100000 c d)),(1,(.imm f b 1 g i)),(5,(iv e)),(7,(.int .u64 m))],[(100000,(bQ 1 l))]⟩
def fU (F:KF R):=Hr N F [1,1,1,1,1] []
def fV (c d:Nat) (f:LA) (b:Nat) (g i:Bool) (e o p:Int) (l:LA):St:=⟨[(0,(.own 100000 c d)),(1,(.imm f b 1 g i)),(5,(iv e)),(7,(.int .u64 o)),(8,(.int .u64 p))],[(100000,(bQ 1 l))]⟩
def fW (F:KF R) (Q0:St→O R):=Hr N F [1,1,1,1,0,0,0,1] [Q0]
def Pz (c d:Nat) (f:LA) (b:Nat) (g i:Bool) (l:LA) (e o p:Int):St:=⟨[(0,(.own 100000 c d)),(1,(.imm f b 1 g i)),(5,(iv e)),(7,(.int .u64 o)),(8,(.int .u64 p))],[(100000,(bQ 1 l))]⟩
def BX (F:KF R):=Hr N F [1,1,1,1,0,0] []
theorem S5 (F:KF R) (c d:Nat) (e m:Int) (f:LA) (b:Nat) (g i:Bool):∀ (n:Nat) (v w q:Int) (t:LA),Au (fQ N F) n (fP c d e m f b g i v w q t)=(Fm N (Ba F) c d e m f b g i n v w q t)
 | 0,_,_,_,_=>by kernel_rfl
 | n+1,v,w,q,t=>Eq.trans (by kernel_rfl) (Da (J3 N (Ba F) c d e m f b g i · v w q t) (funext fun v=>funext fun w=>funext fun q=>funext fun t=>(S5 F c d e m f b g i n v w q t)):_)
theorem S6 (F:KF R) (c d:Nat) (f:LA) (b:Nat) (g i:Bool) (e m:Int):∀ (n:Nat) (u x r:Int) (s:LA),Au (fS N F) n (fR c d f b g i e m u x r s)=(Dy N (Ba F) c d f b g i e m n u x r s)
 | 0,_,_,_,_=>by kernel_rfl
 | n+1,u,x,r,s=>Eq.trans (by kernel_rfl) (uB (Gi N (Ba F) c d f b g i e m · · u x r s) (funext fun u=>funext fun x=>funext fun r=>funext fun s=>(S6 F c d f b g i e m n u x r s)) (funext fun v=>funext fun w=>funext fun q=>funext fun t=>(Ap ..).trans (S5 N F c d e m f b g i N v w q t)):_)
theorem S7 (F:KF R) (c d:Nat) (f:LA) (b:Nat) (g i:Bool) (e:Int) (l:LA):∀ (m:Int),Cm (fU N F) (fT c d f b g i e l m)=(C7 N (Ba F) c d f b g i e l m):=by
 intro m
 exact Eq.trans (by kernel_rfl) (Da (N7 N (Ba F) c d f b g i e l · m) (funext fun u=>funext fun x=>funext fun r=>funext fun s=>(Ap ..).trans (S6 N F c d f b g i e m N u x r s)):_)
theorem RD (Q0:St→O R) (F:KF R) (c d:Nat) (f:LA) (b:Nat) (g i:Bool) (e o p:Int) (l:LA):Cm (fW N F Q0) (fV c d f b g i e o p l)=(Hq N (fun e o p=>Q0 (Pz c d f b g i l e o p)) (Ba F) c d f b g i e o p l):=by
 exact Eq.trans (by kernel_rfl) (Da (N8 N (fun e o p=>Q0 (Pz c d f b g i l e o p)) (Ba F) c d f b g i e o p l ·) (funext fun m=>(A2 ..).trans (S7 N F c d f b g i e l m)):_)
theorem S8 (F:KF R) (c d:Nat) (f:LA) (b:Nat) (g i:Bool) (l:LA):∀ (n:Nat) (e o p:Int),Au (BX N F) n (Pz c d f b g i l e o p)=(C8 N (Ba F) c d f b g i l n e o p)
 | 0,_,_,_=>by kernel_rfl
 | n+1,e,o,p=>have e0:=(funext fun e=>funext fun o=>funext fun p=>(S8 F c d f b g i l n e o p))
  Eq.trans (by kernel_rfl) (Aj1 (N9 N (Ba F) c d f b g i l · · · e o p) e0 ((A2 ..).trans ((RD N (Au (BX N F) n) F c d f b g i e o p l).trans (Da (Hq N · (Ba F) c d f b g i e o p l) e0))) (funext fun m=>(A2 ..).trans (S7 N F c d f b g i e l m)):_)
theorem BY (c d:Nat) (f:LA) (b:Nat) (g i:Bool) (l:LA) (F:KF R):Cd [] BW N 277 [(.own 100000 c d),(.imm f b 1 g i)] [(100000,(bQ 1 l))] F=(G9 N c d f b g i l (Ba F)):=by
 rw[Xy]
 exact Eq.trans (by kernel_rfl) (Da (Oz N (Ba F) · c d f b g i l) (funext fun e=>funext fun o=>funext fun p=>(Ap ..).trans (S8 N F c d f b g i l N e o p)):_)
def Xz (a:LA) (h:Ah) (k:KF R):O R :=
 match a,h with
 | [(.own 100000 c d),(.imm f b 1 g i)],[(100000,⟨false,false,true,false,1,l,false,none⟩)]=>(G9 N c d f b g i l (Ba k))
 | _,_=>none
theorem BZ:An N 277 @Xz:=by
 intro R Q a h k j;unfold Xz;split;exact As (BY ..) (BY ..) trivial;exact Av
def fX:=At (BZ N)
def fY:=Cg (BZ N)
def Fp (r0:Nat→Bool→LA→O R) (d:Bool) (k0:LA→Nat→Int→Nat→LA→Nat→Int→Int→LA→O R) (l:LA) (i:Nat) (e:Int) (g:Nat) (m:LA) (o:Nat) (p b:Int) (f:LA):O R :=
 (cond (decide (b<p)) (cond (Aj b o) (Bw .u32 (m.drop ((b.toNat)*1)) fun u=>(cond (decide ((wrap .i64 (b+1))<((i:Nat):Int))) (cond (Aj (wrap .i64 (b+1)) i) (Bw .u32 (l.drop (((wrap .i64 (b+1)).toNat)*1)) fun w=>(cond (decide (e<0)) none (cond (Aj b g) (cond ((Nat.beq 1 1)&&((Nat.ble ((0+((b.toNat)*1))+1) (f.length))&&(!false))) (k0 l i e g m o p (wrap .i64 (b+1)) (f.set (0+((b.toNat)*1)) (.int .u32 (wrap .u32 (Int.fdiv (Lp .u64 (wrap .u64 u) (wrap .u64 ((wrap .u64 w)*2 ^ 32))) (2 ^ (min (e.toNat) 64))))))) none) none))) none) (cond (decide (e<0)) none (cond (Aj b g) (cond ((Nat.beq 1 1)&&((Nat.ble ((0+((b.toNat)*1))+1) (f.length))&&(!false))) (k0 l i e g m o p (wrap .i64 (b+1)) (f.set (0+((b.toNat)*1)) (.int .u32 (wrap .u32 (Int.fdiv (wrap .u64 u) (2 ^ (min (e.toNat) 64))))))) none) none)))) none) (Nz N g f (fun x=>(r0 x true f))))
def B8 (r0:Nat→Bool→LA→O R) (d:Bool):Nat→LA→Nat→Int→Nat→LA→Nat→Int→Int→LA→O R
 | 0,_,_,_,_,_,_,_,_,_=>none
 | n+1,l,i,e,g,m,o,p,b,f=>(Fp N r0 d (B8 r0 d n) l i e g m o p b f)
def It (r0:Nat→Bool→LA→O R) (q0:LA→Nat→Int→Nat→LA→Nat→Int→Int→LA→O R) (r:LA) (s:Nat) (t d:Bool) (c:Int):O R :=
 (cond (decide (c<0)) (r0 0 false []) (Bk N r s t d (fun v q=>(cond (decide ((wrap .i64 (Int.tdiv c 32))≥((q:Nat):Int))) (r0 0 true []) (cond ((decide (0≤(wrap .i64 (Int.tdiv c 32))))&&((decide ((wrap .i64 (Int.tdiv c 32))≤((q:Nat):Int)))&&((decide (((q:Nat):Int)≤((q:Nat):Int)))&&(decide (((q:Nat):Int)≤((q:Nat):Int)))))) (cond ((decide (0≤(((q - ((wrap .i64 (Int.tdiv c 32)).toNat)):Nat):Int)))&&((decide ((((q - ((wrap .i64 (Int.tdiv c 32)).toNat)):Nat):Int)≤(((q - ((wrap .i64 (Int.tdiv c 32)).toNat)):Nat):Int)))&&((decide ((((q - ((wrap .i64 (Int.tdiv c 32)).toNat)):Nat):Int)≤140737488355328))&&(decide (((((q - ((wrap .i64 (Int.tdiv c 32)).toNat)):Nat):Int)*((4:Nat):Int))≤140737488355328))))) (q0 ((v.drop (((wrap .i64 (Int.tdiv c 32)).toNat)*1)).take ((q - ((wrap .i64 (Int.tdiv c 32)).toNat))*1)) (q - ((wrap .i64 (Int.tdiv c 32)).toNat)) (Int.tmod c 32) (q - ((wrap .i64 (Int.tdiv c 32)).toNat)) ((v.drop (((wrap .i64 (Int.tdiv c 32)).toNat)*1)).take ((q - ((wrap .i64 (Int.tdiv c 32)).toNat))*1)) (q - ((wrap .i64 (Int.tdiv c 32)).toNat)) (((q - ((wrap .i64 (Int.tdiv c 32)).toNat)):Nat):Int) 0 (List.replicate (q - ((wrap .i64 (Int.tdiv c 32)).toNat)) (.int .u32 0))) none) none)))))
def H3:=(Ag (fun (N:Nat) (r:LA) (s:Nat) (t d:Bool) (c:Int) (r0:Nat→Bool→LA→O R)=>(It N r0 (fun l i e g m o p b f=>(B8 N r0 d N l i e g m o p b f)) r s t d c))).1
theorem Mt (r s t d c r0):(@H3 R N r s t d c r0)=(It N r0 (fun l i e g m o p b f=>(B8 N r0 d N l i e g m o p b f)) r s t d c):=by rw[H3,(Ag _).2]
def X0:Hints:={ H:=(hS hL (hS hL (hS hL (hS hL (hS hL (hS hL (hS hL (hS (hS hL (hS (hP [0,6,7,29,30,31] hL) hL)) hL)))))))),nils:=[(4,1)],modes:=[(2,1),(0,0)] }
def B_:D8:=[(214,Dt N)]
def aQ (F:KF R):=Ov Tryz.f278 X0 (B_ N) [] N F
def Gj (F:KF R):Nat→Bool→LA→O R:=(fun y z aa=>F (.tup [(.own 300000 0 y),(.bool z)]) (hq [(bQ 1 aa)]))
def aR (d:Bool) (l:LA) (i:Nat) (e:Int) (g:Nat) (m:LA) (o:Nat) (p b:Int) (f:LA):St:=⟨[(0,(.imm l i 1 false d)),(6,(iv e)),(7,(.own 300000 0 g)),(29,(.imm m o 1 false d)),(30,(iv p)),(31,(iv b))],(hq [(bQ 1 f)])⟩
def aS (F:KF R):=aQ N F [1,1,1,1,1,1,1,0,1,0] []
theorem Qd (F:KF R) (d:Bool):∀ (n:Nat) (l:LA) (i:Nat) (e:Int) (g:Nat) (m:LA) (o:Nat) (p b:Int) (f:LA),Au (aS N F) n (aR d l i e g m o p b f)=(B8 N (Gj F) d n l i e g m o p b f)
 | 0,_,_,_,_,_,_,_,_,_=>by kernel_rfl
 | n+1,l,i,e,g,m,o,p,b,f=>Eq.trans (by kernel_rfl) (Da (Fp N (Gj F) d · l i e g m o p b f) (funext fun l=>funext fun i=>funext fun e=>funext fun g=>funext fun m=>funext fun o=>funext fun p=>funext fun b=>funext fun f=>(Qd F d n l i e g m o p b f)):_)
theorem X1 (r:LA) (s:Nat) (t d:Bool) (c:Int) (F:KF R):Cd (B_ N) X0 N 278 [(.imm r s 1 t d),(iv c)] [] F=(H3 N r s t d c (Gj F)):=by
 rw[Mt]
 exact Eq.trans (by kernel_rfl) (Da (It N (Gj F) · r s t d c) (funext fun l=>funext fun i=>funext fun e=>funext fun g=>funext fun m=>funext fun o=>funext fun p=>funext fun b=>funext fun f=>(Ap ..).trans (Qd N F d N l i e g m o p b f)):_)
def Uy (a:LA) (h:Ah) (k:KF R):O R :=
 match a,h with
 | [(.imm r s 1 t d),(.int .i64 c)],[]=>(H3 N r s t d c (Gj k))
 | _,_=>none
theorem X2:An N 278 @Uy:=by
 intro R Q a h k j;unfold Uy;split;exact As (X1 ..) (X1 ..) ⟨Du N,trivial⟩;exact Av
def aT:=At (X2 N)
def aU:=Cg (X2 N)
def Ij (r0:Nat→Nat→LA→LA→O R) (g:Int) (b c:Nat) (m:LA) (k0:Nat→Int→Int→Int→Int→LA→LA→O R) (l:Nat) (f e o d:Int) (i p:LA):O R :=
 (cond (decide (d<o)) (cond ((decide (0≤(wrap .i64 ((wrap .i64 (e - 1)) - d))))&&((decide ((wrap .i64 ((wrap .i64 (e - 1)) - d))≤(wrap .i64 ((wrap .i64 ((wrap .i64 ((wrap .i64 (e - 1)) - d))+f))+1))))&&((decide ((wrap .i64 ((wrap .i64 ((wrap .i64 ((wrap .i64 (e - 1)) - d))+f))+1))≤((c:Nat):Int)))&&(decide (((c:Nat):Int)≤((c:Nat):Int)))))) (G9 N (0+(((wrap .i64 ((wrap .i64 (e - 1)) - d)).toNat)*1)) (((wrap .i64 ((wrap .i64 ((wrap .i64 ((wrap .i64 (e - 1)) - d))+f))+1)).toNat) - ((wrap .i64 ((wrap .i64 (e - 1)) - d)).toNat)) (m.take (b*1)) b false true p (fun y z=>(cond (Aj (wrap .i64 ((wrap .i64 (e - 1)) - d)) l) (cond ((Nat.beq 1 1)&&((Nat.ble ((0+(((wrap .i64 ((wrap .i64 (e - 1)) - d)).toNat)*1))+1) (i.length))&&(!false))) (k0 l f e o (wrap .i64 (d+1)) (i.set (0+(((wrap .i64 ((wrap .i64 (e - 1)) - d)).toNat)*1)) (.int .u32 y)) z) none) none))) none) (cond ((decide ((0:Int)≤(0:Int)))&&((decide (0≤f))&&((decide (f≤((c:Nat):Int)))&&(decide (((c:Nat):Int)≤((c:Nat):Int)))))) (H3 N (p.take ((f.toNat)*1)) (f.toNat) false true g (fun aa aj ab=>(Nz N l i (fun ac=>(r0 ac aa i ab))))) none))
def Cu (r0:Nat→Nat→LA→LA→O R) (g:Int) (b c:Nat) (m:LA):Nat→Nat→Int→Int→Int→Int→LA→LA→O R
 | 0,_,_,_,_,_,_,_=>none
 | n+1,l,f,e,o,d,i,p=>(Ij N r0 g b c m (Cu r0 g b c m n) l f e o d i p)
def Mu (r0:Nat→Nat→LA→LA→O R) (q0:Int→Nat→LA→Nat→Int→Int→Int→Int→LA→LA→O R) (r:LA) (s:Nat) (v t:Bool) (q:LA) (b:Nat) (w u:Bool):O R :=
 (cond (Aj (wrap .i64 (((b:Nat):Int) - 1)) b) (Bw .u32 (q.drop (((wrap .i64 (((b:Nat):Int) - 1)).toNat)*1)) fun ad=>(Bh N ad (fun g=>(Lf N q b false u g (fun x m=>(cond ((decide ((0:Int)≤(0:Int)))&&((decide (0≤((b:Nat):Int)))&&((decide (((b:Nat):Int)≤((x:Nat):Int)))&&(decide (((x:Nat):Int)≤((x:Nat):Int)))))) (Lf N r s false t g (fun c ae=>(cond ((decide (0≤(wrap .i64 (((c:Nat):Int) - ((b:Nat):Int)))))&&((decide ((wrap .i64 (((c:Nat):Int) - ((b:Nat):Int)))≤(wrap .i64 (((c:Nat):Int) - ((b:Nat):Int)))))&&((decide ((wrap .i64 (((c:Nat):Int) - ((b:Nat):Int)))≤140737488355328))&&(decide (((wrap .i64 (((c:Nat):Int) - ((b:Nat):Int)))*((4:Nat):Int))≤140737488355328))))) (q0 g c m ((wrap .i64 (((c:Nat):Int) - ((b:Nat):Int))).toNat) ((b:Nat):Int) (wrap .i64 (((c:Nat):Int) - ((b:Nat):Int))) (wrap .i64 (((c:Nat):Int) - ((b:Nat):Int))) 0 (List.replicate ((wrap .i64 (((c:Nat):Int) - ((b:Nat):Int))).toNat) (.int .u32 0)) ae) none))) none)))))) none)
def F2:=(Ag (fun (N:Nat) (r:LA) (s:Nat) (v t:Bool) (q:LA) (b:Nat) (w u:Bool) (r0:Nat→Nat→LA→LA→O R)=>(Mu N r0 (fun g c m l f e o d i p=>(Cu N r0 g b c m N l f e o d i p)) r s v t q b w u))).1
theorem Uz (r s v t q b w u r0):(@F2 R N r s v t q b w u r0)=(Mu N r0 (fun g c m l f e o d i p=>(Cu N r0 g b c m N l f e o d i p)) r s v t q b w u):=by rw[F2,(Ag _).2]
def X3:Hints:={ H:=(hS hL (hS hL (hS hL (hS hL (hS hL (hS hL (hS hL (hS (hS hL (hS (hP [4,6,7,8,9,10,35,36] hL) hL)) hL)))))))),nils:=[(4,1),(5,1)],modes:=[(2,1),(2,1)] }
def B':D8:=[(275,Ih N),(276,mr N),(277,fX N),(278,aT N),(214,aA N)]
def aV (F:KF R):=Ov Tryz.f217 X3 (B' N) [] N F
def Gk (F:KF R):Nat→Nat→LA→LA→O R:=(fun af ag ah ai=>F (.tup [(.own 300000 0 af),(.own 300001 0 ag)]) (hq [(bQ 1 ah),(bQ 1 ai)]))
def aW (g:Int) (b c:Nat) (m:LA) (l:Nat) (f e o d:Int) (i p:LA):St:=⟨[(4,(.own 300000 0 l)),(6,(iv f)),(7,(iv g)),(8,(.own 300001 0 b)),(9,(.own 300002 0 c)),(10,(iv e)),(35,(iv o)),(36,(iv d))],(hq [(bQ 1 i),(bQ 1 m),(bQ 1 p)])⟩
def aX (F:KF R):=aV N F [1,1,1,1,1,1,1,0,1,0] []
theorem Qe (F:KF R) (g:Int) (b c:Nat) (m:LA):∀ (n l:Nat) (f e o d:Int) (i p:LA),Au (aX N F) n (aW g b c m l f e o d i p)=(Cu N (Gk F) g b c m n l f e o d i p)
 | 0,_,_,_,_,_,_,_=>by kernel_rfl
 | n+1,l,f,e,o,d,i,p=>Eq.trans (by kernel_rfl) (Da (Ij N (Gk F) g b c m · l f e o d i p) (funext fun l=>funext fun f=>funext fun e=>funext fun o=>funext fun d=>funext fun i=>funext fun p=>(Qe F g b c m n l f e o d i p)):_)
theorem X4 (r:LA) (s:Nat) (v t:Bool) (q:LA) (b:Nat) (w u:Bool) (F:KF R):Cd (B' N) X3 N 217 [(.imm r s 1 v t),(.imm q b 1 w u)] [] F=(F2 N r s v t q b w u (Gk F)):=by
 rw[Uz]
 exact Eq.trans (by kernel_rfl) (Da (Mu N (Gk F) · r s v t q b w u) (funext fun g=>funext fun c=>funext fun m=>funext fun l=>funext fun f=>funext fun e=>funext fun o=>funext fun d=>funext fun i=>funext fun p=>(Ap ..).trans (Qe N F g b c m N l f e o d i p)):_)
def U0 (a:LA) (h:Ah) (k:KF R):O R :=
 match a,h with
 | [(.imm r s 1 v t),(.imm q b 1 w u)],[]=>(F2 N r s v t q b w u (Gk k))
 | _,_=>none
theorem X5:An N 217 @U0:=by
 intro R Q a h k j;unfold U0;split;exact As (X4 ..) (X4 ..) ⟨Ii N,mt N,fY N,aU N,aB N,trivial⟩;exact Av
def aY:=At (X5 N)
def aZ:=Cg (X5 N)
def RE (d:LA) (e:Nat) (f b:Bool) (g:LA) (i:Nat) (l c:Bool) (r0:Nat→Nat→Bool→LA→LA→O R):O R :=
 (Bk N d e f b (fun o m=>(Bk N g i l c (fun p n=>(cond (((n:Nat):Int)==0) (r0 0 0 false [] []) (Cy N o m false b p n false c (fun s=>(cond (decide (s<0)) (Mn N o m false b (fun t u=>(r0 0 t true [] u))) (cond (decide (((m:Nat):Int)≤2)) (K6 N o m false b (fun r=>(K6 N p n false c (fun q=>(cond (q==0) none (Bc N (wrap .u64 (Int.tdiv r q)) (fun v w=>(cond (q==0) none (Bc N (Int.tmod r q) (fun x y=>(r0 v x true w y))))))))))) (cond (((n:Nat):Int)==1) (cond (Aj 0 n) (Bw .u32 p fun z=>(Dx N o m false b z (fun aa ab ac ad=>(r0 aa ab true ac ad)))) none) (F2 N o m false b p n false c (fun ae af ag ah=>(r0 ae af true ag ah)))))))))))))
def C5:=(Ag (@RE R)).1
theorem ML:@C5 R=@RE R:=(Ag _).2
def rL:Hints:={ H:=hL,nils:=[(4,1),(5,1)],modes:=[(2,1),(2,1),(0,0)] }
def uV:D8:=[(214,Ml N),(131,Jv N),(212,N1 N),(215,QR N),(133,Et N),(216,RB N),(217,aY N)]
def UJ (F:KF R):Nat→Nat→Bool→LA→LA→O R:=(fun ai aj ak al am=>F (.tup [(.own 300000 0 ai),(.own 300001 0 aj),(.bool ak)]) (hq [(bQ 1 al),(bQ 1 am)]))
theorem UK (d:LA) (e:Nat) (f b:Bool) (g:LA) (i:Nat) (l c:Bool) (F:KF R):Cd (uV N) rL N 134 [(.imm d e 1 f b),(.imm g i 1 l c)] [] F=(C5 N d e f b g i l c (UJ F)):=by
 rw[ML]
 kernel_rfl
def MM (a:LA) (h:Ah) (k:KF R):O R :=
 match a,h with
 | [(.imm d e 1 f b),(.imm g i 1 l c)],[]=>(C5 N d e f b g i l c (UJ k))
 | _,_=>none
theorem UL:An N 134 @MM:=by
 intro R Q a h k j;unfold MM;split;exact As (UK ..) (UK ..) ⟨Mm N,Jw N,N2 N,QS N,Eu N,RC N,aZ N,trivial⟩;exact Av
def Zv:=At (UL N)
def Zw:=Cg (UL N)
def FR (b:LA) (c:Nat) (m d:Bool) (e:Int) (f:LA) (g:Nat) (n i:Bool) (l:Int) (r0:Nat→LA→O R):O R :=
 (Bc N e (fun o s=>(Zp N b c false d (s.take (o*1)) o false true (fun p t=>(Bc N l (fun q u=>(Zp N f g false i (u.take (q*1)) q false true (fun r v=>(Wc N (t.take (p*1)) p false true (v.take (r*1)) r false true (fun w aa x=>(r0 w x)))))))))))
def Dz:=(Ag (@FR R)).1
theorem FS:@Dz R=@FR R:=(Ag _).2
def mv:Hints:={ H:=hL,nils:=[(8,1)],modes:=[(2,1)] }
def rM:D8:=[(133,Et N),(137,aE N),(136,aL N)]
def MN (F:KF R):Nat→LA→O R:=(fun y z=>F (.own 300000 0 y) (hq [(bQ 1 z)]))
theorem MO (b:LA) (c:Nat) (m d:Bool) (e:Int) (f:LA) (g:Nat) (n i:Bool) (l:Int) (F:KF R):Cd (rM N) mv N 274 [(.imm b c 1 m d),(.int .u64 e),(.imm f g 1 n i),(.int .u64 l)] [] F=(Dz N b c m d e f g n i l (MN F)):=by
 rw[FS]
 kernel_rfl
def FT (a:LA) (h:Ah) (k:KF R):O R :=
 match a,h with
 | [(.imm b c 1 m d),(.int .u64 e),(.imm f g 1 n i),(.int .u64 l)],[]=>(Dz N b c m d e f g n i l (MN k))
 | _,_=>none
theorem MP:An N 274 @FT:=by
 intro R Q a h k j;unfold FT;split;exact As (MO ..) (MO ..) ⟨Eu N,aF N,aM N,trivial⟩;exact Av
def mw:=At (MP N)
def mz:=Cg (MP N)
def Zx (k1:LA→Nat→Bool→LA→Nat→Bool→O R) (r0:Nat→LA→O R) (k2:Int→Int→O R) (l i:Int):O R :=
 (cond (i != 0) (cond (i==0) none (k2 i (Int.tmod l i))) (Bc N l (fun al am=>(r0 al am))))
def Lu (k1:LA→Nat→Bool→LA→Nat→Bool→O R) (r0:Nat→LA→O R):Nat→Int→Int→O R
 | 0,_,_=>none
 | n+1,l,i=>(Zx N k1 r0 (Lu k1 r0 n) l i)
def Ta (r0:Nat→LA→O R) (k1:LA→Nat→Bool→LA→Nat→Bool→O R) (q2:Int→Int→O R) (d:LA) (b:Nat) (e:Bool) (f:LA) (c:Nat) (g:Bool):O R :=
 (cond (decide (((c:Nat):Int)>0)) (cond (decide (((b:Nat):Int)≤2)) (K6 N d b false e (fun an=>(K6 N f c false g (fun ao=>(q2 an ao))))) (N6 N d b false e f c false g (fun ab=>(cond ((Nat.beq (ab.length) 5)&&((Nat.ble 5 5)&&(!false))) (Bw .u64 ((setCells [(.int .u64 0),(.int .u64 0),(.int .u64 0),(.int .u64 0),(.bool false)] 0 ab).drop 2) fun ap=>(cond (ap==0) (C5 N d b false e f c false g (fun bl ag bm bn aq=>(k1 f c g (aq.take (ag*1)) ag false))) (Pa ((setCells [(.int .u64 0),(.int .u64 0),(.int .u64 0),(.int .u64 0),(.bool false)] 0 ab).drop 4) fun ar=>(cond ar (Bw .u64 (setCells [(.int .u64 0),(.int .u64 0),(.int .u64 0),(.int .u64 0),(.bool false)] 0 ab) fun au=>(Bw .u64 ((setCells [(.int .u64 0),(.int .u64 0),(.int .u64 0),(.int .u64 0),(.bool false)] 0 ab).drop 2) fun av=>(Dz N d b false e au f c false g av (fun ah aw=>(Bw .u64 ((setCells [(.int .u64 0),(.int .u64 0),(.int .u64 0),(.int .u64 0),(.bool false)] 0 ab).drop 3) fun ax=>(Bw .u64 ((setCells [(.int .u64 0),(.int .u64 0),(.int .u64 0),(.int .u64 0),(.bool false)] 0 ab).drop 1) fun ay=>(Dz N f c false g ax d b false e ay (fun ai az=>(k1 (aw.take (ah*1)) ah false (az.take (ai*1)) ai false))))))))) (Bw .u64 ((setCells [(.int .u64 0),(.int .u64 0),(.int .u64 0),(.int .u64 0),(.bool false)] 0 ab).drop 2) fun ba=>(Bw .u64 (setCells [(.int .u64 0),(.int .u64 0),(.int .u64 0),(.int .u64 0),(.bool false)] 0 ab) fun bb=>(Dz N f c false g ba d b false e bb (fun aj bc=>(Bw .u64 ((setCells [(.int .u64 0),(.int .u64 0),(.int .u64 0),(.int .u64 0),(.bool false)] 0 ab).drop 1) fun bd=>(Bw .u64 ((setCells [(.int .u64 0),(.int .u64 0),(.int .u64 0),(.int .u64 0),(.bool false)] 0 ab).drop 3) fun be=>(Dz N d b false e bd f c false g be (fun ak bf=>(k1 (bc.take (aj*1)) aj false (bf.take (ak*1)) ak false))))))))))))) none)))) (Mn N d b false e (fun bg bh=>(r0 bg bh))))
def Dh (r0:Nat→LA→O R):Nat→LA→Nat→Bool→LA→Nat→Bool→O R
 | 0,_,_,_,_,_,_=>none
 | n+1,d,b,e,f,c,g=>(Ta N r0 (Dh r0 n) (fun l i=>(Lu N (Dh r0 n) r0 N l i)) d b e f c g)
def RF (N:Nat) (r0:Nat→LA→O R) (q1:LA→Nat→Bool→LA→Nat→Bool→O R) (m:LA) (o:Nat) (p:Bool) (q:LA) (r:Nat) (s:Bool):O R :=
 (q1 m o p q r s)
def JZ (r0:Nat→LA→O R) (m:LA) (o:Nat) (p:Bool) (q:LA) (r:Nat) (s:Bool):O R:=(RF N r0 (fun d b e f c g=>(Dh N r0 N d b e f c g)) m o p q r s)
def gH (r0:Nat→LA→O R) (q0:LA→Nat→Bool→LA→Nat→Bool→O R) (v:LA) (w:Nat) (x t:Bool) (y:LA) (z:Nat) (aa u:Bool):O R :=
 (Bk N v w x t (fun ac ad=>(Bk N y z aa u (fun ae af=>(Cy N ac ad false t ae af false u (fun bi=>(cond (decide (bi<0)) (q0 ae af u ac ad t) (q0 ac ad t ae af u))))))))
def FU:=(Ag (fun (N:Nat) (v:LA) (w:Nat) (x t:Bool) (y:LA) (z:Nat) (aa u:Bool) (r0:Nat→LA→O R)=>(gH N r0 (fun m o p q r s=>(JZ N r0 m o p q r s)) v w x t y z aa u))).1
theorem jL (v w x t y z aa u r0):(@FU R N v w x t y z aa u r0)=(gH N r0 (fun m o p q r s=>(JZ N r0 m o p q r s)) v w x t y z aa u):=by rw[FU,(Ag _).2]
def ow:Hints:={ H:=(hS hL (hS hL (hJ [0,1] hL (hS (hS (hP [0,1] (hS hL (hS (hS (hS hL (hS (hS hL (hS (hS (hP [5,6] hL) hL) hL)) hL)) hL) hL))) hL) hL)))),nils:=[(0,1000001),(1,1000001)],modes:=[(2,1)] }
def uW:D8:=[(214,Ml N),(131,Jv N),(215,QR N),(273,ml N),(134,Zv N),(274,mw N),(212,N1 N),(133,Et N)]
def a6 (F:KF R):=Ov Tryz.f213 ow (uW N) [] N F
def H4 (F:KF R):Nat→LA→O R:=(fun bj bk=>F (.own 300000 0 bj) (hq [(bQ 1 bk)]))
def Aa1 (l i:Int):St:=⟨[(5,(.int .u64 l)),(6,(.int .u64 i))],[]⟩
def Aa2 (F:KF R) (Q1:St→O R):=a6 N F [1,1,1,0,0,0,1,0,0,1,0,1,0,0] [Q1]
def a7 (d:LA) (b:Nat) (e:Bool) (f:LA) (c:Nat) (g:Bool):St:=⟨[(0,(.imm d b 1 false e)),(1,(.imm f c 1 false g))],[]⟩
def pA (F:KF R):=a6 N F [1,1,1,0,0] []
def Aa3 (m:LA) (o:Nat) (p:Bool) (q:LA) (r:Nat) (s:Bool):St:=⟨[(0,(.imm m o 1 false p)),(1,(.imm q r 1 false s))],[]⟩
def Aa4 (F:KF R):=a6 N F [1,1,1] []
theorem UM (Q1:St→O R) (F:KF R):∀ (n:Nat) (l i:Int),Au (Aa2 N F Q1) n (Aa1 l i)=(Lu N (fun d b e f c g=>Q1 (a7 d b e f c g)) (H4 F) n l i)
 | 0,_,_=>by kernel_rfl
 | n+1,l,i=>Eq.trans (by kernel_rfl) (Da (Zx N (fun d b e f c g=>Q1 (a7 d b e f c g)) (H4 F) · l i) (funext fun l=>funext fun i=>(UM Q1 F n l i)):_)
theorem UN (F:KF R):∀ (n:Nat) (d:LA) (b:Nat) (e:Bool) (f:LA) (c:Nat) (g:Bool),Au (pA N F) n (a7 d b e f c g)=(Dh N (H4 F) n d b e f c g)
 | 0,_,_,_,_,_,_=>by kernel_rfl
 | n+1,d,b,e,f,c,g=>have e0:=(funext fun d=>funext fun b=>funext fun e=>funext fun f=>funext fun c=>funext fun g=>(UN F n d b e f c g))
  Eq.trans (by kernel_rfl) (uB (Ta N (H4 F) · · d b e f c g) e0 (funext fun l=>funext fun i=>(Ap ..).trans ((UM N (Au (pA N F) n) F N l i).trans (Da (Lu N · (H4 F) N l i) e0))):_)
theorem rN (F:KF R):∀ (m:LA) (o:Nat) (p:Bool) (q:LA) (r:Nat) (s:Bool),Cm (Aa4 N F) (Aa3 m o p q r s)=(JZ N (H4 F) m o p q r s):=by
 intro m o p q r s
 exact Eq.trans (by kernel_rfl) (Da (RF N (H4 F) · m o p q r s) (funext fun d=>funext fun b=>funext fun e=>funext fun f=>funext fun c=>funext fun g=>(Ap ..).trans (UN N F N d b e f c g)):_)
theorem pB (v:LA) (w:Nat) (x t:Bool) (y:LA) (z:Nat) (aa u:Bool) (F:KF R):Cd (uW N) ow N 213 [(.imm v w 1 x t),(.imm y z 1 aa u)] [] F=(FU N v w x t y z aa u (H4 F)):=by
 rw[jL]
 exact Eq.trans (by kernel_rfl) (Da (gH N (H4 F) · v w x t y z aa u) (funext fun m=>funext fun o=>funext fun p=>funext fun q=>funext fun r=>funext fun s=>(A2 ..).trans (rN N F m o p q r s)):_)
def jM (a:LA) (h:Ah) (k:KF R):O R :=
 match a,h with
 | [(.imm v w 1 x t),(.imm y z 1 aa u)],[]=>(FU N v w x t y z aa u (H4 k))
 | _,_=>none
theorem pC:An N 213 @jM:=by
 intro R Q a h k j;unfold jM;split;exact As (pB ..) (pB ..) ⟨Mm N,Jw N,QS N,mm N,Zw N,mz N,N2 N,Eu N,trivial⟩;exact Av
def Aa5:=At (pC N)
def Aa6:=Cg (pC N)
end
end Gx

namespace Gx
open Go Go.Proofs
section
variable {R:Type}
def Aj3:List UInt8:=[0,1,2,2,3,3,3,3,4,4,4,4,4,4,4,4,5,5,5,5,5,5,5,5,5,5,5,5,5,5,5,5,6,6,6,6,6,6,6,6,6,6,6,6,6,6,6,6,6,6,6,6,6,6,6,6,6,6,6,6,6,6,6,6,7,7,7,7,7,7,7,7,7,7,7,7,7,7,7,7,7,7,7,7,7,7,7,7,7,7,7,7,7,7,7,7,7,7,7,7,7,7,7,7,7,7,7,7,7,7,7,7,7,7,7,7,7,7,7,7,7,7,7,7,7,7,7,7,8,8,8,8,8,8,8,8,8,8,8,8,8,8,8,8,8,8,8,8,8,8,8,8,8,8,8,8,8,8,8,8,8,8,8,8,8,8,8,8,8,8,8,8,8,8,8,8,8,8,8,8,8,8,8,8,8,8,8,8,8,8,8,8,8,8,8,8,8,8,8,8,8,8,8,8,8,8,8,8,8,8,8,8,8,8,8,8,8,8,8,8,8,8,8,8,8,8,8,8,8,8,8,8,8,8,8,8,8,8,8,8,8,8,8,8,8,8,8,8,8,8,8,8,8,8,8,8]
theorem Afe:∀ i:Fin 256,0<i.1→2 ^ (Aj3.getD i.1 0).toNat≤2*i.1∧i.1<2 ^ (Aj3.getD i.1 0).toNat:=by decide +kernel
theorem jN {k y x m:Nat} (h:2 ^ k≤2*y∧y<2 ^ k) (b:y=x/2 ^ m):2 ^ (k+m)≤2*x∧x<2 ^ (k+m):=by
 have c:0<2 ^ m:=Nat.pow_pos (by omega)
 have d:x<2 ^ m*(y+1):=by rw[b];have:=Nat.div_add_mod x (2 ^ m);have:=Nat.mod_lt x c;rw[Nat.mul_add];omega
 have e:2 ^ m*y≤x:=by rw[b];exact Nat.mul_div_le x _
 have f:2 ^ m*(y+1)≤2 ^ m*2 ^ k:=Nat.mul_le_mul_left _ h.2
 have i:2 ^ m*2 ^ k≤2 ^ m*(2*y):=Nat.mul_le_mul_left _ h.1
 rw[Nat.pow_add,Nat.mul_comm (2 ^ k)]
 have j:2 ^ m*(2*y)=2*(2 ^ m*y):=by rw[Nat.mul_left_comm]
 omega
theorem Agg {a:Nat} (h:a<256):IntKind.wrap .u8 (a:Int)=(a:Int):=by rw[wrap_u8];congr 1;omega
theorem Agh {N:Nat} {a b:Nat} {K:Int→O R} (q:0<a) (s:a<65536) (t:b≤16):∃ k:Nat,2 ^ k≤2*a∧a<2 ^ k∧k≤16∧Dg N K (a:Int) (b:Int)=K ((b+k:Nat):Int):=by
 have small:∀ i:Nat,0<i→i<256→∃ k:Nat,(2 ^ k≤2*i∧i<2 ^ k)∧k≤8∧(Aj3.getD i 0).toNat=k:=by
  intro i j d
  have:=Afe ⟨i,d⟩ j
  refine⟨_,this,?_,rfl⟩
  rcases Nat.lt_or_ge 8 (Aj3.getD i 0).toNat with h | h
  ·have l:=this.1
   have u:2 ^ 9≤2 ^ (Aj3.getD i 0).toNat:=Nat.pow_le_pow_right (by omega) h
   simp only at l
   omega
  ·exact h
 by_cases h:a≥256
 ·obtain⟨k,c,n,e⟩:=small (a/256) (by omega) (by omega)
  have f:=jN (m:=8) c (show a/256=a/2 ^ 8 by rfl)
  refine⟨k+8,f.1,f.2,by omega,?_⟩
  unfold Dg
  rw[show decide (((a:Nat):Int)≥256)=true by simp;omega,ct,Mi a 8,show a/2 ^ 8=a/256 by rfl,Agg (by omega),Al (by omega),ct,Int.toNat_natCast]
  change K (IntKind.wrap .i64 (IntKind.wrap .i64 ((b:Int)+8)+IntKind.wrap .i64 (((Aj3.getD (a/256) 0).toNat:Nat):Int)))=_
  rw[e,i64 (a:=(b:Int)+8) (by omega),i64 (a:=(k:Int)) (by omega),i64 (by omega)]
  congr 1;omega
 ·obtain⟨k,c,n,e⟩:=small a (by omega) (by omega)
  refine⟨k,c.1,c.2,by omega,?_⟩
  unfold Dg
  rw[show decide (((a:Nat):Int)≥256)=false by simp;omega,cf,Agg (by omega),Al (by omega),ct,Int.toNat_natCast]
  change K (IntKind.wrap .i64 ((b:Int)+IntKind.wrap .i64 (((Aj3.getD a 0).toNat:Nat):Int)))=_
  rw[e,i64 (a:=(k:Int)) (by omega),i64 (by omega)]
  congr 1
theorem xe {N:Nat} {c:Nat} {K:Int→O R} (l:0<c) (n:c<4294967296):∃ k:Nat,2 ^ k≤2*c∧c<2 ^ k∧k≤32∧Fl N (c:Int) K=K (k:Int):=by
 rw[P9];unfold Jy
 by_cases h:c≥65536
 ·obtain⟨k,e,f,j,d⟩:=Agh (R:=R) (N:=N) (a:=c/65536) (b:=16) (K:=K) (by omega) (by omega) (by omega)
  have i:=jN (m:=16) ⟨e,f⟩ (show c/65536=c/2 ^ 16 by rfl)
  refine⟨k+16,i.1,i.2,by omega,?_⟩
  rw[show decide (((c:Nat):Int)≥65536)=true by simp;omega,ct,Mi c 16,show c/2 ^ 16=c/65536 by rfl]
  rw[Nat.add_comm k];exact d
 ·obtain⟨k,e,f,j,d⟩:=Agh (R:=R) (N:=N) (a:=c) (b:=0) (K:=K) (by omega) (by omega) (by omega)
  refine⟨k,e,f,by omega,?_⟩
  rw[show decide (((c:Nat):Int)≥65536)=false by simp;omega,cf]
  rw[Nat.zero_add] at d;exact d
theorem zQ {N:Nat} {c:Nat} (l:0<c) (m:c<4294967296):∃ s:Nat,s≤31∧2147483648≤c*2 ^ s∧c*2 ^ s<4294967296∧∀ K:Int→O R,Bh N (c:Int) K=K (s:Int):=by
 have key:∀ K:Int→O R,∃ s:Nat,(s≤31∧2147483648≤c*2 ^ s∧c*2 ^ s<4294967296)∧Bh N (c:Int) K=K (s:Int):=by
  intro K
  rw[Ho];unfold Fj
  obtain⟨k,n,j,u,q⟩:=xe (R:=R) (N:=N) (K:=fun c=>K (IntKind.wrap .i64 ((32:Int) - c))) l m
  have e:2 ^ k*2 ^ (32 - k)=4294967296:=by rw[←Nat.pow_add,show k+(32 - k)=32 by omega]
  have v:1≤k:=by
   rcases Nat.eq_zero_or_pos k with h | h
   ·subst h;simp at j;omega
   ·exact h
  refine⟨32 - k,⟨by omega,?_,?_⟩,?_⟩
  ·have:=Nat.mul_le_mul_right (2 ^ (32 - k)) n
   rw[e,Nat.mul_assoc] at this;omega
  ·have:=(Nat.mul_lt_mul_right (show 0<2 ^ (32 - k) from Nat.pow_pos (by omega))).2 j
   rw[e] at this;exact this
  ·rw[q,i64 (by omega)];congr 1;omega
 obtain⟨s,d,_⟩:=key fun _=>none
 refine⟨s,d.1,d.2.1,d.2.2,fun K=>?_⟩
 obtain⟨b,t,e⟩:=key K
 have:b=s:=by
  rcases Nat.lt_trichotomy s b with h | h | h
  ·exfalso
   have f:2 ^ (s+1)≤2 ^ b:=Nat.pow_le_pow_right (by omega) h
   have i:=Nat.mul_le_mul_left c f
   rw[Nat.pow_succ,←Nat.mul_assoc] at i
   omega
  ·exact h.symm
  ·exfalso
   have f:2 ^ (b+1)≤2 ^ s:=Nat.pow_le_pow_right (by omega) h
   have i:=Nat.mul_le_mul_left c f
   rw[Nat.pow_succ,←Nat.mul_assoc] at i
   omega
 rw[e,this]
theorem rO {s:Nat} (h:s≤31):2 ^ s≤2147483648:=Nat.pow_le_pow_right (n:=2) (by omega) h
theorem Ad9 {x c s:Nat} (f:x<4294967296) (b:c<2 ^ s) (d:s≤31):Lp .u64 (c:Int) (IntKind.wrap .u64 ((IntKind.wrap .u64 (x:Int))*2 ^ (min (Int.toNat (s:Int)) 64)))=((x*2 ^ s+c:Nat):Int)∧x*2 ^ s+c<4294967296*2 ^ s:=by
 have i:=rO d
 have j:x*2 ^ s≤4294967295*2 ^ s:=Nat.mul_le_mul_right _ (by omega)
 have e:(x+1)*2 ^ s≤4294967296*2 ^ s:=Nat.mul_le_mul_right _ (by omega)
 rw[Nat.add_mul] at e
 refine⟨?_,by omega⟩
 rw[Fv (by omega),Int.toNat_natCast,Nat.min_eq_left (by omega),show(2:Int) ^ s=((2 ^ s:Nat):Int) by simp,iR,Fv (by omega),xU (by omega) (by omega),Nat.or_comm,Z_ b]
theorem UO {N:Nat} {a:List Nat} {t o:Bool} {s:Nat} (v:Ad a) (j:s≤31) (k:a.length≤1000000000000):∀ (m d b:Nat) (S:List Nat) (c:Nat),d+m=a.length→m<b→Ad S→S.length=a.length+1→Aa0 S d→c<2 ^ s →
  val S+4294967296 ^ d*c=val (a.take d)*2 ^ s →
  ∃ S',Ad S'∧S'.length=a.length+1∧val S'=val a*2 ^ s∧∀ K:Nat→LA→O R,F1 N K (Aa a) a.length t o (s:Int) b (a.length+1) (c:Int) (a.length:Int) (d:Int) (Aa S)=K (a.length+1) (Aa S')
 | 0,d,b+1,S,c,z,_,hS,l,i,x,n=>by
  have q:d=a.length:=by omega
  subst q
  have L:=rO j
  rw[List.take_length] at n
  refine⟨S.set a.length c,Bt hS (by omega) _,by simpa using l,by rw[Ox i (by omega),n],fun K=>?_⟩
  rw[F1];unfold Ms
  rw[BV (Nat.le_refl _),cf,Al (by omega),ct,Aig (by omega),ct,zO (by omega),Agf]
 | m+1,d,b+1,S,c,z,A,hS,l,i,x,n=>by
  have f:d<a.length:=by omega
  have ad:=Aw v f
  obtain⟨B,C⟩:=Ad9 ad x j
  generalize u:a[d]*2 ^ s+c=w at *
  have y:0<2 ^ s:=Nat.pow_pos (by omega)
  have key:val (S.set d (w%4294967296))+4294967296 ^ (d+1)*(w/4294967296)=val (a.take (d+1))*2 ^ s:=by
   rw[Ox i (by omega),Aq f,Nat.pow_succ,Nat.add_mul,Nat.mul_assoc _ a[d]]
   have e:=Is (4294967296 ^ d) w
   have M:4294967296 ^ d*w=4294967296 ^ d*(a[d]*2 ^ s)+4294967296 ^ d*c:=by rw[←u,Nat.mul_add]
   omega
  obtain⟨S',D,F,G,I⟩:=UO (t:=t) (o:=o) v j k m (d+1) b (S.set d (w%4294967296)) (w/4294967296) (by omega) (by omega) (Bt hS (by omega) d) (by simpa using l) (Us i) (Nat.div_lt_of_lt_mul C) key
  refine⟨S',D,F,G,fun K=>?_⟩
  rw[F1];unfold Ms
  rw[T6 f,ct,Al f,ct,ED f,show decide (((s:Nat):Int)<0)=false by simp,cf,Al (by omega),ct,oG (by omega),ct,B,ZZ,QJ,FM,wS (by omega)]
  exact I K
theorem UP {N:Nat} {a:List Nat} {n:Nat} {t o:Bool} {s:Nat} (c:n=a.length) (d:Ad a) (e:s≤31) (b:fit a.length N) :
  ∃ S',Ad S'∧S'.length=a.length+1∧val S'=val a*2 ^ s∧∀ K:Nat→LA→O R,Lf N (Aa a) n t o (s:Int) K=K (a.length+1) (Aa S'):=by
 subst c
 have l:=b.1;have m:=b.2
 obtain⟨S',f,i,j,k⟩:=UO (R:=R) (N:=N) (t:=t) (o:=o) d e (by omega) a.length 0 N (List.replicate (a.length+1) 0) 0 (by omega) (by omega) (Bs _) (by simp) (H2 _) (Nat.pow_pos (by omega)) (by rw[Cx];simp[val])
 refine⟨S',f,i,j,fun K=>?_⟩
 rw[FP];unfold Ux
 rw[Ajq (by omega),Acz (by omega),ct,Int.toNat_natCast,B0]
 exact k K
end
end Gx

namespace Gx
open Go Go.Proofs
section
variable {R:Type}
theorem Agi {P U Q:List Nat} {i:Nat} (h:i<U.length) {f:Int→O R}:Bw .u32 (List.drop (P.length+((Int.toNat (i:Int))*1)) (Aa (P++(U++Q)))) f=f (U[i]:Nat):=by
 rw[Int.toNat_natCast,Nat.mul_one,uG (by simp;omega)]
 congr 2
 rw[List.getElem_append_right (by omega)]
 simp only[Nat.add_sub_cancel_left]
 rw[List.getElem_append_left h]
theorem Aih {P U Q:List Nat} {i:Nat} (h:i<U.length):((Nat.beq 1 1)&&((Nat.ble ((P.length+((Int.toNat (i:Int))*1))+1) (List.length (Aa (P++(U++Q)))))&&(!false)))=true:=by
 rw[Bb,Int.toNat_natCast];simp;omega
theorem Aea {P U Q:List Nat} {i v:Nat} (h:i<U.length):List.set (Aa (P++(U++Q))) (P.length+((Int.toNat (i:Int))*1)) (.int .u32 (v:Int))=Aa (P++(U.set i v++Q)):=by
 rw[Int.toNat_natCast,Nat.mul_one,TB,List.set_append_right _ _ (by omega),Nat.add_sub_cancel_left,List.set_append_left _ _ h]
theorem Ajf {P U Q:List Nat} {i:Nat} (h:i<U.length) {f:Int→O R}:Bw .u32 (List.drop (P.length+(i*1)) (Aa (P++(U++Q)))) f=f (U[i]:Nat):=by
 have:=Agi (R:=R) (P:=P) (Q:=Q) (f:=f) h;rw[Int.toNat_natCast] at this;exact this
theorem UQ {X:List Nat} {p g:Nat} (h:p<X.length):val ((X.set p g).take (p+1))=val (X.take p)+4294967296 ^ p*g:=by
 rw[Aq (by simpa using h),List.getElem_set_self,List.take_set_of_le (Nat.le_refl _)]
theorem X6 {X:List Nat} {n:Nat} (h:X.length=n+1):val X=val (X.take n)+4294967296 ^ n*X[n]:=by
 have:=Aq (l:=X) (c:=n) (by omega)
 rwa [List.take_of_length_le (by omega)] at this
theorem zR {D:Nat} (h:1≤D) (b:D<18446744073709551616):IntKind.wrap .u64 ((D:Int) - 1)=((D - 1:Nat):Int):=by rw[KV];omega
theorem Aff {D y t:Nat} (hD:D<4294967296) (b:y<4294967296) (c:t≤4294967296):D*y+t<18446744073709551616∧(D*y+t)/4294967296+1≤4294967296:=by
 have:D*y≤4294967295*4294967295:=Nat.mul_le_mul (by omega) (by omega)
 omega
theorem zS {N:Nat} {P Q X v:List Nat} {n D:Nat} {f g:Bool} (L:Ad v) (M:v.length=n) (hX:Ad X) (hXl:X.length=n+1) (T:n≤1000000000000) (hD:D<4294967296) (hD1:1≤D) {r:Nat} (U:val X+val v=4294967296 ^ (n+1)+r) (u:r<4294967296 ^ n) :
  ∀ (m o b:Nat) (Y:List Nat) (c:Nat),o+m=n→m<b→Ad Y→Y.length=n+1→(∀ j (z:j<Y.length) (A:j<X.length),o≤j→Y[j]=X[j])→c≤1→val (Y.take o)+4294967296 ^ o*c=val (X.take o)+val (v.take o) →
  ∃ Y',Ad Y'∧Y'.length=n+1∧val Y'=r∧∀ K:Int→LA→O R,Fm N K P.length (n+1) (n:Int) (D:Int) (Aa v) n f g b (c:Int) (n:Int) (o:Int) (Aa (P++(Y++Q)))=K ((D - 1:Nat):Int) (Aa (P++(Y'++Q)))
 | 0,o,b+1,Y,c,V,_,hY,hYl,i,hc,k=>by
  have B:o=n:=by omega
  subst B
  rw[show v.take o=v by rw[←M];exact List.take_length] at k
  have e1:=X6 hXl
  have eq:val (Y.take o)+4294967296 ^ o*(X[o]+c)=4294967296 ^ o*4294967296+r:=by
   rw[Nat.mul_add,←Nat.pow_succ];omega
  have yt:=Be (Bo hY o)
  rw[List.length_take,Nat.min_eq_left (by omega)] at yt
  have hP:0<4294967296 ^ o:=Nat.pow_pos (by omega)
  have S:X[o]+c=4294967296:=by
   have z:(val (Y.take o)+4294967296 ^ o*(X[o]+c))/4294967296 ^ o=X[o]+c:=by rw[Nat.add_mul_div_left _ _ hP,Nat.div_eq_of_lt yt,Nat.zero_add]
   have A:(4294967296 ^ o*4294967296+r)/4294967296 ^ o=4294967296:=by rw[Nat.mul_add_div hP,Nat.div_eq_of_lt u,Nat.add_zero]
   rw[←z,eq,A]
  have C:val (Y.take o)=r:=by rw[S] at eq;omega
  have q:Y[o]=X[o]:=i o (by omega) (by omega) (Nat.le_refl _)
  have F:(Y.set o 0).length=o+1:=by simpa using hYl
  refine⟨Y.set o 0,Bt hY (by omega) o,F,?_,fun K=>?_⟩
  ·have:=UQ (X:=Y) (p:=o) (g:=0) (by omega)
   rw[List.take_of_length_le (by omega),C] at this;simpa using this
  ·rw[Fm];unfold J3
   have hXo:=Aw hX (show o<X.length by omega)
   rw[BV (Nat.le_refl _),cf,Al (by omega),ct,Agi (by omega),ct,Aih (by omega),ct,q,zO (show c<4294967296 by omega),Wa,S,QJ,Aea (by omega),zR hD1 (by omega),zO (by omega)]
 | m+1,o,b+1,Y,c,V,hfu,hY,hYl,i,hc,k=>by
  have x:o<n:=by omega
  have t:o<v.length:=by omega
  have vo:=Aw L t
  have d:o<Y.length:=by omega
  have yo:=Aw hY d
  have q:Y[o]=X[o]:=i o (by omega) (by omega) (Nat.le_refl _)
  have G:c+(Y[o]+v[o])<18446744073709551616:=by omega
  have I:(c+(Y[o]+v[o]))/4294967296≤1:=by omega
  generalize y:c+(Y[o]+v[o])=s at *
  have key:val ((Y.set o (s%4294967296)).take (o+1))+4294967296 ^ (o+1)*(s/4294967296)=val (X.take (o+1))+val (v.take (o+1)):=by
   rw[UQ d,Aq (l:=X) (by omega),Aq t,Nat.pow_succ]
   have e:=Is (4294967296 ^ o) s
   have e2:4294967296 ^ o*s=4294967296 ^ o*c+(4294967296 ^ o*X[o]+4294967296 ^ o*v[o]):=by rw[←y,Nat.mul_add,Nat.mul_add,q]
   omega
  obtain⟨Y',q1,q2,q3,q4⟩:=zS (N:=N) (P:=P) (Q:=Q) (f:=f) (g:=g) L M hX hXl T hD hD1 U u m (o+1) b (Y.set o (s%4294967296)) (s/4294967296) (by omega) (by omega) (Bt hY (by omega) o) (by simpa using hYl) (fun j z A hj=>by rw[List.getElem_set,if_neg (by omega)];exact i j (by simpa using z) A (by omega)) I key
  refine⟨Y',q1,q2,q3,fun K=>?_⟩
  rw[Fm];unfold J3
  rw[T6 x,ct,Al x,ct,ED t,Al (by omega),ct,Agi d,ct,Aih d,ct,Fv (show v[o]<18446744073709551616 by omega),Fv (show Y[o]<18446744073709551616 by omega),Wa,Fv (by omega),Wa,y,Fv G,ZZ,QJ,Aea d,wS (by omega)]
  exact q4 K
theorem Aeb {N:Nat} {P Q U v:List Nat} {n D:Nat} {f g:Bool} (A:Ad v) (B:v.length=n) (hU:Ad U) (hUl:U.length=n+1) (hs:n≤1000000000000) (hN:n+2<N) (hD:D<4294967296) (u:0<val v) (G:val U/val v≤D) (I:D≤val U/val v+1) :
  ∀ (m p b:Nat) (X:List Nat) (t:Nat),p+m=n→m<b→Ad X→X.length=n+1→(∀ j (h1:j<X.length) (h2:j<U.length),p≤j→X[j]=U[j])→t≤4294967296→val (X.take p)+D*val (v.take p)=val (U.take p)+4294967296 ^ p*t →
  ∃ X',Ad X'∧X'.length=n+1∧val X'=val U%val v∧∀ K:Int→LA→O R,Dy N K P.length (n+1) (Aa v) n f g (n:Int) (D:Int) b (t:Int) (n:Int) (p:Int) (Aa (P++(X++Q)))=K ((val U/val v:Nat):Int) (Aa (P++(X'++Q)))
 | 0,p,b+1,X,t,hp,_,hX,hXl,i,L,s=>by
  have M:p=n:=by omega
  subst M
  rw[show v.take p=v by rw[←B];exact List.take_length] at s
  have hXp:X[p]=U[p]:=i p (by omega) (by omega) (Nat.le_refl _)
  have up:=Aw hU (show p<U.length by omega)
  obtain⟨d,c,S,g2,T,C,F⟩:=JY up L
  have k:(X.set p d).length=p+1:=by simpa using hXl
  have hX2:=Bt hX S p
  have V:val (X.set p d)=val (X.take p)+4294967296 ^ p*d:=by
   have:=UQ (X:=X) (p:=p) (g:=d) (by omega)
   rwa [List.take_of_length_le (by omega)] at this
  have eU:=X6 hUl
  have main:val (X.set p d)+D*val v=val U+4294967296 ^ (p+1)*c:=by
   have e:4294967296 ^ p*(U[p]+4294967296*c)=4294967296 ^ p*(d+t):=by rw[T]
   rw[Nat.mul_add,Nat.mul_add,←Nat.mul_assoc] at e
   rw[V,eU,Nat.pow_succ];omega
  have hlt:=Be hX2
  rw[k] at hlt
  have hdm:=Nat.div_add_mod (val U) (val v)
  have hmod:=Nat.mod_lt (val U) u
  have vlt:=Be A
  rw[B] at vlt
  by_cases hc:c=0
  ·subst hc
   have hDq:D=val U/val v:=by
    have:D≤val U/val v:=by rw[Nat.le_div_iff_mul_le u];omega
    omega
   refine⟨X.set p d,hX2,k,?_,fun K=>?_⟩
   ·rw[hDq,Nat.mul_comm] at main;omega
   ·rw[Dy];unfold Gi
    rw[BV (Nat.le_refl _),cf,Al (by omega),ct,Agi (by omega),ct,Aih (by omega),ct,hXp,Fv (show U[p]<18446744073709551616 by omega),C,F,show(((0:Nat):Int)==0)=true by rfl,ct,zO hD,Aea (by omega),hDq]
  ·have hc1:c=1:=by omega
   subst hc1
   have hDq:D=val U/val v+1:=by
    have:¬ D≤val U/val v:=fun h=>by
     have:=Nat.mul_le_mul_left (val v) h
     rw[Nat.mul_comm] at this
     omega
    omega
   have hr:val (X.set p d)+val v=4294967296 ^ (p+1)+val U%val v:=by
    rw[hDq,Nat.add_mul,Nat.mul_comm (val U/val v)] at main;omega
   obtain⟨Y',q1,q2,q3,q4⟩:=zS (R:=R) (N:=N) (P:=P) (Q:=Q) (f:=f) (g:=g) (X:=X.set p d) A B hX2 k hs hD (by rw[hDq];exact Nat.le_add_left 1 _) hr (by omega) p 0 N (X.set p d) 0 (by omega) (by omega) hX2 k (fun _ _ _ _=>rfl) (by omega) (by simp[val])
   refine⟨Y',q1,q2,q3,fun K=>?_⟩
   rw[Dy];unfold Gi
   rw[BV (Nat.le_refl _),cf,Al (by omega),ct,Agi (by omega),ct,Aih (by omega),ct,hXp,Fv (show U[p]<18446744073709551616 by omega),C,F,show(((1:Nat):Int)==0)=false by rfl,cf,Aea (by omega)]
   have:=q4 K
   rw[show D - 1=val U/val v by rw[hDq];rfl] at this
   exact this
 | m+1,p,b+1,X,t,hp,hfu,hX,hXl,i,L,s=>by
  have y:p<n:=by omega
  have x:p<v.length:=by omega
  have vp:=Aw A x
  have q:p<X.length:=by omega
  have hXp:X[p]=U[p]:=i p (by omega) (by omega) (Nat.le_refl _)
  have up:=Aw hU (show p<U.length by omega)
  obtain⟨hw1,hw2⟩:=Aff hD vp L
  have hDv:D*v[p]<18446744073709551616:=by omega
  generalize z:D*v[p]+t=w at *
  obtain⟨d,c,S,g2,T,C,F⟩:=JY up (show w%4294967296≤4294967296 by omega)
  have key:val ((X.set p d).take (p+1))+D*val (v.take (p+1))=val (U.take (p+1))+4294967296 ^ (p+1)*(w/4294967296+c):=by
   rw[UQ q,Aq x,Aq (l:=U) (by omega),Nat.pow_succ]
   have e:=Is (4294967296 ^ p) w
   have e2:4294967296 ^ p*w=4294967296 ^ p*(D*v[p])+4294967296 ^ p*t:=by rw[←z,Nat.mul_add]
   have e3:4294967296 ^ p*(U[p]+4294967296*c)=4294967296 ^ p*(d+w%4294967296):=by rw[T]
   rw[Nat.mul_add,Nat.mul_add,←Nat.mul_assoc] at e3
   have e4:D*(val (v.take p)+4294967296 ^ p*v[p])=D*val (v.take p)+4294967296 ^ p*(D*v[p]):=by rw[Nat.mul_add,Nat.mul_left_comm]
   rw[e4,Nat.mul_add]
   omega
  obtain⟨X',q1,q2,q3,q4⟩:=Aeb (N:=N) (P:=P) (Q:=Q) (f:=f) (g:=g) A B hU hUl hs hN hD u G I m (p+1) b (X.set p d) (w/4294967296+c) (by omega) (by omega) (Bt hX S p) (by simpa using hXl) (fun j h1 h2 hj=>by rw[List.getElem_set,if_neg (by omega)];exact i j (by simpa using h1) h2 (by omega)) (by omega) key
  refine⟨X',q1,q2,q3,fun K=>?_⟩
  rw[Dy];unfold Gi
  rw[T6 y,ct,Al y,ct,ED x,Al (by omega),ct,Agi q,ct,Aih q,ct,hXp,Fv (show v[p]<18446744073709551616 by omega),iR,Fv hDv,Wa,z,Fv hw1,QJ,Fv (show w%4294967296<18446744073709551616 by omega),Fv (show U[p]<18446744073709551616 by omega),C,F,ZZ,Wa,Fv (by omega),Aea q,wS (by omega)]
  exact q4 K
end
end Gx

namespace Gx
open Go Go.Proofs
section
variable {R:Type}
theorem MQ (a b:Nat):Int.tdiv (a:Int) (b:Int)=((a/b:Nat):Int):=rfl
theorem FV (a b:Nat):Int.tmod (a:Int) (b:Int)=((a%b:Nat):Int):=rfl
theorem Agj {l:Nat} (h:l<4294967296):(((Int.fdiv (l:Int) (2 ^ 32)) != (0:Int)))=false:=by rw[ZZ,Nat.div_eq_of_lt h];rfl
theorem Agk {l:Nat} (h:4294967296≤l):(((Int.fdiv (l:Int) (2 ^ 32)) != (0:Int)))=true:=by
 have b:l/4294967296≠0:=by omega
 rw[ZZ];rw[bne_iff_ne];omega
theorem Ahg {a b:Nat} (c:a<4294967296) (d:b<4294967296):Lp .u64 (IntKind.wrap .u64 ((a:Int)*2 ^ 32)) (b:Int)=((a*4294967296+b:Nat):Int):=by
 rw[show(2:Int) ^ 32=((2 ^ 32:Nat):Int) by rfl,iR,Fv (by omega),xU (by omega) (by omega),Z_ (by omega)]
theorem Ahh {B l v1 v2 m u2:Nat} (h:m*B+u2<l*v2):(l*v1+m)*B+u2<l*(v1*B+v2):=by rw[Nat.add_mul,Nat.mul_add,←Nat.mul_assoc l v1];omega
theorem Ahi {B l v1 v2 m u2:Nat} (h:l*v2≤m*B+u2):l*(v1*B+v2)≤(l*v1+m)*B+u2:=by rw[Nat.add_mul,Nat.mul_add,←Nat.mul_assoc l v1];omega
theorem Ahj {B u0 u1 u2 v1 v2:Nat} (b:v2<B) (h:(u0*B+u1)*B+u2<(v1*B+v2+1)*B):u0*B+u1<v1*B+B:=by
 have:u0*B+u1<v1*B+v2+1:=Nat.lt_of_mul_lt_mul_right (Nat.lt_of_le_of_lt (Nat.le_add_right _ u2) h)
 omega
theorem Ah7 (P x:Nat):P*4294967296*x=P*(x*4294967296):=by rw[Nat.mul_assoc,Nat.mul_comm 4294967296]
theorem Aec {N:Nat} {P Q U v:List Nat} {n:Nat} {f g:Bool} {K:Int→LA→O R} (hn:v.length=n+2) (G:Ad v) (hU:Ad U) (hUl:U.length=n+3) (hs:n≤1000000000000) {v1 v2 u2 top:Nat}
  (I:v[n+1]'(by omega)=v1) (L:v[n]'(by omega)=v2) (M:U[n]'(by omega)=u2) (z:2147483648≤v1) (S:top<v1*4294967296+4294967296)
  (hV:(v1*4294967296+v2)*4294967296 ^ n≤val v) (hV':val v<(v1*4294967296+v2+1)*4294967296 ^ n) (hUU:(top*4294967296+u2)*4294967296 ^ n≤val U) (hUU':val U<(top*4294967296+u2+1)*4294967296 ^ n) (hq:val U/val v<4294967296) :
  ∀ (k b l m:Nat),k<b→4294967296≤m+k*2147483648→m<4294967296→l*v1+m=top→val U/val v≤l→∃ D,D<4294967296∧val U/val v≤D∧D≤val U/val v+1 ∧
   C8 N K P.length (n+3) (Aa v) (n+2) f g (Aa (P++(U++Q))) b ((n+2:Nat):Int) (l:Int) (m:Int)=C7 N K P.length (n+3) (Aa v) (n+2) f g ((n+2:Nat):Int) (Aa (P++(U++Q))) (D:Int):=by
 have X:=Aw G (show n+1<v.length by omega)
 have Y:=Aw G (show n<v.length by omega)
 have T:=Aw hU (show n<U.length by omega)
 rw[I] at X;rw[L] at Y;rw[M] at T
 have hP:0<4294967296 ^ n:=Nat.pow_pos (by omega)
 have j:0<val v:=Nat.lt_of_lt_of_le (Nat.mul_pos (by omega) hP) hV
 intro k
 induction k with
 | zero=>intro b l m _ h1 h2;omega
 | succ k ih =>
  intro b l m hf hm A t B
  obtain⟨b,rfl⟩:∃ F,b=F+1:=⟨b - 1,by omega⟩
  generalize s:val U/val v=q at *
  have wi1:IntKind.wrap .i64 (((n+2:Nat):Int) - 1)=((n+1:Nat):Int):=by rw[i64 (by omega)];omega
  have wi2:IntKind.wrap .i64 (((n+2:Nat):Int) - 2)=((n:Nat):Int):=by rw[i64 (by omega)];omega
  have lower:q<l→l<18446744073709551616→∃ D,D<4294967296∧q≤D∧D≤q+1 ∧
    Hq N (C8 N K P.length (n+3) (Aa v) (n+2) f g (Aa (P++(U++Q))) b) K P.length (n+3) (Aa v) (n+2) f g ((n+2:Nat):Int) (l:Int) (m:Int) (Aa (P++(U++Q)))=C7 N K P.length (n+3) (Aa v) (n+2) f g ((n+2:Nat):Int) (Aa (P++(U++Q))) (D:Int):=by
   intro hlt c
   have i:(l - 1)*v1+(m+v1)=top:=by
    have:l*v1=(l - 1)*v1+v1:=by
     obtain⟨V,rfl⟩:∃ V,l=V+1:=⟨l - 1,by omega⟩
     rw[Nat.add_mul];simp
    omega
   unfold Hq N8
   rw[wi1,Al (by omega),ct,ED (show n+1<v.length by omega),I,Fv (show v1<18446744073709551616 by omega),Wa,Fv (show m+v1<18446744073709551616 by omega),zR (by omega) c]
   by_cases u:4294967296≤m+v1
   ·have hDB:l - 1<4294967296:=by
     apply Nat.lt_of_not_le;intro C
     have:=Nat.mul_le_mul_right v1 C
     rw[Nat.mul_comm 4294967296] at this
     omega
    have d:(l - 1)*(v1*4294967296+v2)≤top*4294967296+u2:=by
     have x1:(l - 1)*v2≤4294967295*4294967295:=Nat.mul_le_mul (by omega) (by omega)
     rw[←i,Nat.add_mul,Nat.mul_add,←Nat.mul_assoc]
     omega
    have e:=oR hV' hUU d (by omega) j
    rw[s] at e
    exact⟨l - 1,hDB,by omega,e,by rw[Agk u,ct]⟩
   ·obtain⟨D,d1,d2,d3,d4⟩:=ih b (l - 1) (m+v1) (by omega) (by omega) (by omega) i (by omega)
    exact⟨D,d1,d2,d3,by rw[Agj (by omega),cf,d4]⟩
  rw[C8];unfold N9
  by_cases hlB:l<4294967296
  ·rw[Agj hlB,show((false:Bool)==false)=true by rfl,ct,wi2,Al (by omega),ct,ED (show n<v.length by omega),Al (by omega),ct,Agi (show n<U.length by omega),Ajp,L,M,Fv (show v2<18446744073709551616 by omega),Fv (show u2<18446744073709551616 by omega),iR]
   have x1:l*v2≤4294967295*4294967295:=Nat.mul_le_mul (by omega) (by omega)
   rw[Fv (show l*v2<18446744073709551616 by omega),Ahg A T]
   by_cases x:m*4294967296+u2<l*v2
   ·rw[show decide (((l*v2:Nat):Int)>((m*4294967296+u2:Nat):Int))=true by rw[decide_eq_true_eq];omega,ct]
    have y:val U/val v<l:=oQ hV hUU' (by rw[←t];exact Ahh x) j
    rw[s] at y
    exact lower y (by omega)
   ·rw[show decide (((l*v2:Nat):Int)>((m*4294967296+u2:Nat):Int))=false by rw[decide_eq_false_iff_not];omega,cf]
    have d:l*(v1*4294967296+v2)≤top*4294967296+u2:=by
     rw[←t];exact Ahi (Nat.le_of_not_lt x)
    have e:=oR hV' hUU d (by omega) j
    rw[s] at e
    exact⟨l,hlB,B,e,rfl⟩
  ·rw[Agk (by omega),show((true:Bool)==false)=false by rfl,cf]
   have c:l<18446744073709551616:=by
    have:l*2147483648≤l*v1:=Nat.mul_le_mul_left _ z
    omega
   exact lower (by omega) c
theorem jO {N:Nat} {P Q U v:List Nat} {n:Nat} {f g:Bool} (F:v.length=n+2) (j:Ad v) (hU:Ad U) (hUl:U.length=n+3) (hs:n≤1000000000) (hN:n+8<N) (y:2147483648≤v[n+1]'(by omega)) (z:val U<val v*4294967296) :
  ∃ U',Ad U'∧U'.length=n+3∧val U'=val U%val v∧∀ K:Int→LA→O R,G9 N P.length (n+3) (Aa v) (n+2) f g (Aa (P++(U++Q))) K=K ((val U/val v:Nat):Int) (Aa (P++(U'++Q))):=by
 have b1:=Aw j (show n+1<v.length by omega)
 have L:=Aw j (show n<v.length by omega)
 have b3:=Aw hU (show n<U.length by omega)
 have M:=Aw hU (show n+1<U.length by omega)
 have S:=Aw hU (show n+2<U.length by omega)
 have hP:0<4294967296 ^ n:=Nat.pow_pos (by omega)
 have vv:val v=val (v.take n)+4294967296 ^ n*(v[n+1]'(by omega)*4294967296+v[n]'(by omega)):=by
  have b:=Aq (l:=v) (c:=n+1) (by omega)
  have d:=Aq (l:=v) (c:=n) (by omega)
  rw[List.take_of_length_le (by omega)] at b
  rw[b,d,Nat.pow_succ,Nat.mul_add,Nat.mul_assoc,Nat.mul_comm 4294967296 v[n+1]];omega
 have uu:val U=val (U.take n)+4294967296 ^ n*((U[n+2]'(by omega)*4294967296+U[n+1]'(by omega))*4294967296+U[n]'(by omega)):=by
  have G:=Aq (l:=U) (c:=n+2) (by omega)
  have b:=Aq (l:=U) (c:=n+1) (by omega)
  have d:=Aq (l:=U) (c:=n) (by omega)
  rw[List.take_of_length_le (by omega)] at G
  have x1:4294967296 ^ (n+2)*U[n+2]=4294967296 ^ n*(U[n+2]*4294967296*4294967296):=by rw[Nat.pow_succ (n:=4294967296) (m:=n+1),Nat.pow_succ,Ah7,Ah7]
  have x2:4294967296 ^ (n+1)*U[n+1]=4294967296 ^ n*(U[n+1]*4294967296):=by rw[Nat.pow_succ,Ah7]
  rw[G,b,d,x1,x2,Nat.add_mul,Nat.mul_add,Nat.mul_add];omega
 have tv:=Be (Bo j n)
 have tu:=Be (Bo hU n)
 rw[List.length_take,Nat.min_eq_left (by omega)] at tv tu
 generalize A:v[n+1]'(by omega)=v1 at *
 generalize T:v[n]'(by omega)=v2 at *
 generalize V:U[n]'(by omega)=u2 at *
 generalize Y:U[n+1]'(by omega)=u1 at *
 generalize e5:U[n+2]'(by omega)=u0 at *
 have k:0<val v:=by
  have:0<4294967296 ^ n*(v1*4294967296+v2):=Nat.mul_pos hP (by omega)
  omega
 have hV:(v1*4294967296+v2)*4294967296 ^ n≤val v:=by rw[Nat.mul_comm];omega
 have hV':val v<(v1*4294967296+v2+1)*4294967296 ^ n:=by rw[Nat.mul_comm,Nat.mul_add];omega
 have hUU:((u0*4294967296+u1)*4294967296+u2)*4294967296 ^ n≤val U:=by rw[Nat.mul_comm];omega
 have hUU':val U<((u0*4294967296+u1)*4294967296+u2+1)*4294967296 ^ n:=by rw[Nat.mul_comm,Nat.mul_add];omega
 have hq:val U/val v<4294967296:=Nat.div_lt_of_lt_mul z
 have e:u0*4294967296+u1<v1*4294967296+4294967296:=by
  have b:((u0*4294967296+u1)*4294967296+u2)*4294967296 ^ n<(v1*4294967296+v2+1)*4294967296 ^ n*4294967296:=by
   have:=(Nat.mul_lt_mul_right (show 0<4294967296 by omega)).2 hV'
   omega
  rw[Nat.mul_right_comm] at b
  exact Ahj L (Nat.lt_of_mul_lt_mul_right b)
 obtain⟨top,s⟩:∃ top,u0*4294967296+u1=top:=⟨_,rfl⟩
 rw[s] at hUU hUU' e
 have B:=Nat.div_add_mod top v1
 have I:=Nat.mod_lt top (show 0<v1 by omega)
 have C:val U/val v≤top/v1:=by
  have b:val U/val v<top/v1+1:=by
   apply oQ hV hUU' _ k
   have d:top<v1*(top/v1+1):=by rw[Nat.mul_add];omega
   have h3:(top+1)*4294967296≤v1*(top/v1+1)*4294967296:=Nat.mul_le_mul_right _ d
   rw[Nat.mul_add,←Nat.mul_assoc,Nat.mul_comm _ v1]
   omega
  omega
 have key:∀ K:Int→LA→O R,∃ D,D<4294967296∧val U/val v≤D∧D≤val U/val v+1∧G9 N P.length (n+3) (Aa v) (n+2) f g (Aa (P++(U++Q))) K=C7 N K P.length (n+3) (Aa v) (n+2) f g ((n+2:Nat):Int) (Aa (P++(U++Q))) (D:Int):=by
  intro K
  obtain⟨D,t,u,x,i⟩:=Aec (R:=R) (N:=N) (P:=P) (Q:=Q) (f:=f) (g:=g) (K:=K) F j hU hUl (by omega) A T V y e hV hV' hUU hUU' hq 2 N (top/v1) (top%v1) (by omega) (by omega) (by omega) (by rw[Nat.mul_comm];exact B) C
  refine⟨D,t,u,x,?_⟩
  rw[←i,Xy];unfold Oz
  have wi1:IntKind.wrap .i64 (((n+2:Nat):Int) - 1)=((n+1:Nat):Int):=by rw[i64 (by omega)];omega
  rw[Al (by omega),ct,Ajf (show n+2<U.length by omega),wi1,Al (by omega),ct,Agi (show n+1<U.length by omega),Al (by omega),ct,ED (show n+1<v.length by omega),A,Y,e5,Fv (show v1<18446744073709551616 by omega),mU (by omega),cf,ct,ED (show n+1<v.length by omega),A,Fv (show v1<18446744073709551616 by omega),mU (by omega),cf,Fv (show u0<18446744073709551616 by omega),Fv (show u1<18446744073709551616 by omega),Ahg S M,s,MQ,FV,Fv (show top/v1<18446744073709551616 from Nat.lt_of_le_of_lt (Nat.div_le_self _ _) (by omega))]
 have fin:∀ D,D<4294967296→val U/val v≤D→D≤val U/val v+1→∃ U',Ad U'∧U'.length=n+3∧val U'=val U%val v∧∀ K:Int→LA→O R,C7 N K P.length (n+3) (Aa v) (n+2) f g ((n+2:Nat):Int) (Aa (P++(U++Q))) (D:Int)=K ((val U/val v:Nat):Int) (Aa (P++(U'++Q))):=by
  intro D t u x
  obtain⟨X',q1,q2,q3,q4⟩:=Aeb (R:=R) (N:=N) (P:=P) (Q:=Q) (U:=U) (v:=v) (n:=n+2) (D:=D) (f:=f) (g:=g) j F hU hUl (by omega) (by omega) t k u x (n+2) 0 N U 0 (by omega) (by omega) hU hUl (fun _ _ _ _=>rfl) (by omega) (by simp[val])
  exact⟨X',q1,q2,q3,fun K=>by unfold C7 N7;exact q4 K⟩
 by_cases hz:val U/val v+1<4294967296
 ·obtain⟨U1,a1,a2,a3,a4⟩:=fin (val U/val v) hq (Nat.le_refl _) (by omega)
  obtain⟨U2,c1,c2,c3,c4⟩:=fin (val U/val v+1) hz (by omega) (Nat.le_refl _)
  have:U1=U2:=by
   have b:=(A3 a1).1;have d:=(A3 c1).1
   rw[a3] at b;rw[c3] at d;rw[b,d,a2,c2]
  subst this
  refine⟨U1,a1,a2,a3,fun K=>?_⟩
  obtain⟨D,t,u,x,i⟩:=key K
  have:D=val U/val v∨D=val U/val v+1:=by
   generalize val U/val v=q at *;omega
  rcases this with rfl | rfl
  ·rw[i,a4 K]
  ·rw[i,c4 K]
 ·obtain⟨U1,a1,a2,a3,a4⟩:=fin (val U/val v) hq (Nat.le_refl _) (by omega)
  refine⟨U1,a1,a2,a3,fun K=>?_⟩
  obtain⟨D,t,u,x,i⟩:=key K
  have:D=val U/val v:=by
   generalize val U/val v=q at *;omega
  subst this
  rw[i,a4 K]
end
end Gx

namespace Gx
open Go Go.Proofs
section
variable {R:Type}
theorem FW {l:List Nat} {d:Nat} (h:d<l.length):val (l.drop d)=l[d]+4294967296*val (l.drop (d+1)):=by
 rw[List.drop_eq_getElem_cons h,val]
theorem uX {S:List Nat} {d v:Nat} (h:d<S.length):(S.set d v).drop d=v::S.drop (d+1):=by
 rw[List.drop_eq_getElem_cons (by simpa using h),List.getElem_set_self,List.drop_set_of_lt (by omega)]
theorem cv {N:Nat} {a:List Nat} {t o:Bool} {b:Nat} (q:Ad a) (f:0<b) (x:b<4294967296) (i:fit a.length N):∀ (c d:Nat) (S:List Nat) (r:Nat),c<d→c≤a.length→Ad S→S.length=a.length→r<b→val (S.drop c)*b+r=val (a.drop c) →
  ∃ S' S2,Ad S'∧val S'=val a/b∧Ad S2∧val S2=val a%b∧∀ K:Nat→Nat→LA→LA→O R,Cn N K (Aa a) a.length t o (b:Int) d (r:Int) ((c:Int) - 1) (Aa S)=K (Af (val a/b)).length (Af (val a%b)).length (Aa S') (Aa S2)
 | 0,d+1,S,r,_,_,hS,l,m,j=>by
  have y:=i.1
  rw[List.drop_zero,List.drop_zero] at j
  have hq:val a/b=val S:=by
   rw[←j,Nat.mul_comm,Nat.mul_add_div f,Nat.div_eq_of_lt m,Nat.add_zero]
  have s:val a%b=r:=by rw[←j,Nat.mul_comm,Nat.mul_add_mod,Nat.mod_eq_of_lt m]
  obtain⟨S2,s1,s2,z⟩:=G7 (R:=R) (N:=N) (v:=r) (by omega) (by omega)
  refine⟨S,S2,hS,hq.symm,s1,by rw[s,s2],fun K=>?_⟩
  rw[Cn];unfold Gd
  rw[show decide ((((0:Nat):Int) - 1)≥0)=false by simp,cf,Xq l.symm hS (by rw[l];exact i),z,hq,s]
 | c+1,d+1,S,r,A,L,hS,l,m,j=>by
  have y:=i.1;have M:=i.2
  have e:c<a.length:=by omega
  have ac:=Aw q e
  have hrB:r<4294967296:=by omega
  have u:r*4294967296+a[c]<b*4294967296:=by
   have:(r+1)*4294967296≤b*4294967296:=Nat.mul_le_mul_right _ m
   rw[Nat.add_mul] at this;omega
  have n:r*4294967296+a[c]<18446744073709551616:=by omega
  obtain⟨w,k⟩:∃ w,r*4294967296+a[c]=w:=⟨_,rfl⟩
  rw[k] at u n
  have hqB:w/b<4294967296:=Nat.div_lt_of_lt_mul u
  have B:=Nat.div_add_mod w b
  obtain⟨S',S2,C,D,F,G,I⟩:=cv (t:=t) (o:=o) q f x i c d (S.set c (w/b)) (w%b) (by omega) (by omega) (Bt hS hqB c) (by simpa using l) (Nat.mod_lt _ f) (by
   rw[uX (by omega),val,FW e,Nat.add_mul,Nat.mul_assoc,←j,Nat.mul_add,Nat.mul_comm (w/b)]
   omega)
  refine⟨S',S2,C,D,F,G,fun K=>?_⟩
  rw[Cn];unfold Gd
  rw[show(((c+1:Nat):Int) - 1)=(c:Int) by omega,show decide ((c:Int)≥0)=true by simp,ct,Al e,ct,ED e,Fv (show b<18446744073709551616 by omega),mU (by omega),cf,ct,oG (by omega),ct,cf,Fv (show a[c]<18446744073709551616 by omega),Ahg hrB ac,k,MQ,FV,Fv (show w/b<18446744073709551616 by omega),zO hqB,FM,i64 (by omega)]
  exact I K
theorem uY {N:Nat} {a:List Nat} {n:Nat} {t o:Bool} {b:Nat} (e:n=a.length) (f:Ad a) (c:0<b) (i:b<4294967296) (d:fit a.length N) :
  ∃ S' S2,Ad S'∧val S'=val a/b∧Ad S2∧val S2=val a%b∧∀ K:Nat→Nat→LA→LA→O R,Dx N (Aa a) n t o (b:Int) K=K (Af (val a/b)).length (Af (val a%b)).length (Aa S') (Aa S2):=by
 subst e
 have s:=d.1;have u:=d.2
 obtain⟨S',S2,j,k,l,m,q⟩:=cv (R:=R) (t:=t) (o:=o) f c i d a.length N (List.replicate a.length 0) 0 (by omega) (Nat.le_refl _) (Bs _) (by simp) c (by rw[List.drop_eq_nil_of_le (by simp),List.drop_eq_nil_of_le (by simp)];simp[val])
 refine⟨S',S2,j,k,l,m,fun K=>?_⟩
 rw[Qb];unfold Jz
 rw[Acz (by omega),ct,i64 (by omega),B0]
 exact q K
theorem Aed {x V s:Nat} (f:x<4294967296) (i:s≤31):(x+4294967296*V)/2 ^ s=(x+4294967296*(V%4294967296))/2 ^ s%4294967296+4294967296*(V/2 ^ s):=by
 have b:0<2 ^ s:=Nat.pow_pos (by omega)
 have d:2 ^ s∣4294967296:=⟨2 ^ (32 - s),by rw[←Nat.pow_add,show s+(32 - s)=32 by omega]⟩
 have key:∀ W,(x+4294967296*W)/2 ^ s=(x+4294967296*(W%2 ^ s))/2 ^ s+4294967296*(W/2 ^ s):=by
  intro W
  have e:x+4294967296*W=x+4294967296*(W%2 ^ s)+2 ^ s*(4294967296*(W/2 ^ s)):=by
   have h:=Nat.div_add_mod W (2 ^ s)
   have:4294967296*W=4294967296*(2 ^ s*(W/2 ^ s)+W%2 ^ s):=by rw[h]
   rw[this,Nat.mul_add,Nat.mul_left_comm];omega
  rw[e,Nat.add_mul_div_left _ _ b]
 have c:(x+4294967296*(V%2 ^ s))/2 ^ s<4294967296:=by
  rw[Nat.div_lt_iff_lt_mul b]
  have:V%2 ^ s+1≤2 ^ s:=Nat.mod_lt _ b
  have:=Nat.mul_le_mul_left 4294967296 this
  rw[Nat.mul_add] at this
  omega
 rw[key V,key (V%4294967296),Nat.mod_mod_of_dvd _ d,Nat.add_mul_mod_self_left,Nat.mod_eq_of_lt c]
theorem Afg:∀ {l:List Nat},Ad l→val l%4294967296=l.getD 0 0
 | [],_=>rfl
 | x::r,h=>by
  have:=(Ce.1 h).1
  simp[val];omega
theorem uZ {N:Nat} {a:List Nat} {o:Bool} {s:Nat} (k:Ad a) (y:s≤31) (l:fit a.length N):∀ (m d b:Nat) (S:List Nat),d+m=a.length→m<b→Ad S→S.length=a.length→Aa0 S d→val S+4294967296 ^ d*(val (a.drop d)/2 ^ s)=val a/2 ^ s →
  ∃ S',Ad S'∧val S'=val a/2 ^ s∧∀ K:Nat→Bool→LA→O R,B8 N K o b (Aa a) a.length (s:Int) a.length (Aa a) a.length (a.length:Int) (d:Int) (Aa S)=K (Af (val a/2 ^ s)).length true (Aa S')
 | 0,d,b+1,S,z,_,hS,n,q,i=>by
  have t:d=a.length:=by omega
  subst t
  rw[List.drop_length] at i
  simp[val] at i
  refine⟨S,hS,i,fun K=>?_⟩
  rw[B8];unfold Fp
  rw[BV (Nat.le_refl _),cf,Xq n.symm hS (by rw[n];exact l),i]
 | m+1,d,b+1,S,z,A,hS,n,q,i=>by
  have D:=l.1;have F:=l.2
  have c:d<a.length:=by omega
  have ad:=Aw k c
  have step:=Aed (V:=val (a.drop (d+1))) ad y
  rw[Afg (Zl k _),←FW c] at step
  have B:(a.drop (d+1)).getD 0 0=a.getD (d+1) 0:=by simp[List.getD_eq_getElem?_getD,List.getElem?_drop]
  rw[B] at step
  have go:∀ w,(a[d]+4294967296*a.getD (d+1) 0)/2 ^ s=w→∃ S',Ad S'∧val S'=val a/2 ^ s∧∀ K:Nat→Bool→LA→O R,B8 N K o b (Aa a) a.length (s:Int) a.length (Aa a) a.length (a.length:Int) ((d+1:Nat):Int) (Aa (S.set d (w%4294967296)))=K (Af (val a/2 ^ s)).length true (Aa S'):=by
   intro w C
   refine uZ (o:=o) k y l m (d+1) b (S.set d (w%4294967296)) (by omega) (by omega) (Bt hS (by omega) d) (by simpa using n) (Us q) ?_
   rw[Ox q (by omega),←i,step,C,Nat.pow_succ,Nat.mul_add,Nat.mul_assoc];omega
  by_cases j:d+1<a.length
  ·have an:=Aw k j
   have f:a.getD (d+1) 0=a[d+1]:=by rw[List.getD_eq_getElem?_getD,List.getElem?_eq_getElem j];rfl
   rw[f] at go
   obtain⟨S',u,v,x⟩:=go _ rfl
   refine⟨S',u,v,fun K=>?_⟩
   rw[B8];unfold Fp
   have e:Lp .u64 ((a[d]:Nat):Int) (IntKind.wrap .u64 (((a[d+1]:Nat):Int)*2 ^ 32))=((a[d]+4294967296*a[d+1]:Nat):Int):=by
    rw[show(2:Int) ^ 32=((2 ^ 32:Nat):Int) by rfl,iR,Fv (by omega),xU (by omega) (by omega),Nat.or_comm,Z_ (by omega)]
    congr 1;omega
   rw[T6 c,ct,Al c,ct,ED c,wS (by omega),T6 j,ct,Al j,ct,ED j,show decide (((s:Nat):Int)<0)=false by simp,cf,ct,oG (by omega),ct,Fv (show a[d]<18446744073709551616 by omega),Fv (show a[d+1]<18446744073709551616 by omega),e,Int.toNat_natCast s,Nat.min_eq_left (by omega),Mi,QJ,FM]
   exact x K
  ·have f:a.getD (d+1) 0=0:=by rw[List.getD_eq_getElem?_getD,List.getElem?_eq_none (by omega)];rfl
   rw[f,Nat.mul_zero,Nat.add_zero] at go
   obtain⟨S',u,v,x⟩:=go _ rfl
   refine⟨S',u,v,fun K=>?_⟩
   rw[B8];unfold Fp
   rw[T6 c,ct,Al c,ct,ED c,wS (by omega),BV (by omega),cf,show decide (((s:Nat):Int)<0)=false by simp,cf,ct,oG (by omega),ct,Fv (show a[d]<18446744073709551616 by omega),Int.toNat_natCast s,Nat.min_eq_left (by omega),Mi,QJ,FM]
   exact x K
theorem Aee {N:Nat} {a:List Nat} {n:Nat} {t o:Bool} {s:Nat} (e:n=a.length) (c:Ad a) (j:s≤31) (b:fit a.length N) :
  ∃ S',Ad S'∧val S'=val a/2 ^ s∧∀ K:Nat→Bool→LA→O R,H3 N (Aa a) n t o (s:Int) K=K (Af (val a/2 ^ s)).length true (Aa S'):=by
 have u:=b.1;have v:=b.2
 have la:=(A3 c).2
 have f:IntKind.wrap .i64 (Int.tdiv ((s:Nat):Int) 32)=((0:Nat):Int):=by
  rw[show(32:Int)=((32:Nat):Int) by rfl,MQ,Nat.div_eq_of_lt (by omega)];decide
 have k:Int.tmod ((s:Nat):Int) 32=(s:Int):=by rw[show(32:Int)=((32:Nat):Int) by rfl,FV,Nat.mod_eq_of_lt (by omega)]
 by_cases d:val a=0
 ·refine⟨[],Nw,by rw[d];simp[val],fun K=>?_⟩
  rw[Mt];unfold It
  rw[show decide (((s:Nat):Int)<0)=false by simp,cf,Bf e c b,d,f,Nat.zero_div,Cc];rfl
 ·obtain⟨S',l,i,m⟩:=uZ (R:=R) (o:=o) (a:=Af (val a)) (Ab _) j (b.le la) (Af (val a)).length 0 N (List.replicate (Af (val a)).length 0) (by omega) (by omega) (Bs _) (by simp) (H2 _) (by rw[Cx];simp)
  rw[Ac] at i
  refine⟨S',l,i,fun K=>?_⟩
  rw[Mt];unfold It
  have q:(Af (val a)).length≠0:=fun h=>d (A8.1 h)
  rw[show decide (((s:Nat):Int)<0)=false by simp,cf,Bf e c b,f,k,show decide (((0:Nat):Int)≥(((Af (val a)).length:Nat):Int))=false by rw[decide_eq_false_iff_not];omega,cf]
  have c1:((decide ((0:Int)≤((0:Nat):Int)))&&((decide (((0:Nat):Int)≤(((Af (val a)).length:Nat):Int)))&&((decide ((((Af (val a)).length:Nat):Int)≤(((Af (val a)).length:Nat):Int)))&&(decide ((((Af (val a)).length:Nat):Int)≤(((Af (val a)).length:Nat):Int))))))=true:=by simp
  rw[c1,ct,Int.toNat_natCast,Nat.sub_zero,Acz (by omega),ct,Nat.zero_mul,List.drop_zero,Nat.mul_one,Nx,List.take_length,B0]
  have:=m K
  rw[Ac] at this
  exact this
end
end Gx

namespace Gx
open Go Go.Proofs
section
variable {R:Type}
theorem Zy {S:List Nat} {k:Nat} (h:val S<4294967296 ^ k):val (S.take k)=val S:=by
 by_cases d:k≤S.length
 ·have b:=Ld (S.take k) (S.drop k)
  rw[List.take_append_drop,List.length_take,Nat.min_eq_left d] at b
  rcases Nat.eq_zero_or_pos (val (S.drop k)) with c | c
  ·rw[c] at b;simpa using b.symm
  ·have:=Nat.le_mul_of_pos_right (4294967296 ^ k) c
   omega
 ·rw[List.take_of_length_le (by omega)]
theorem Zz {S:List Nat} {n:Nat} (hS:Ad S) (h:S.length=n+1):val S<(S[n]+1)*4294967296 ^ n:=by
 have c:=X6 h
 have b:=Be (Bo hS n)
 rw[List.length_take,Nat.min_eq_left (by omega)] at b
 rw[Nat.add_mul,Nat.mul_comm S[n]];omega
theorem Aj4 {a b c:Nat} (d:a≤b) (e:b≤c):((decide ((0:Int)≤(a:Int)))&&((decide ((a:Int)≤(b:Int)))&&((decide ((b:Int)≤(c:Int)))&&(decide ((c:Int)≤(c:Int))))))=true:=by simp;omega
theorem pD {N:Nat} {v u0 Sv:List Nat} {n D s:Nat} (F:v.length=n+2) (G:Ad v) (y:2147483648≤v[n+1]'(by omega)) (hSv:List.take ((n+2)*1) (Aa Sv)=Aa v) (hu:Ad u0) (L:u0.length=D+(n+2)) (X:s≤31) (m:fit (D+n+4) N) :
  ∀ (j b c:Nat) (W q:List Nat),j<b→c+j=D→Ad W→W.length=u0.length→Ad q→q.length=D→W.take j=u0.take j→val (W.drop j)<val v→val (q.drop j)*val v+val (W.drop j)=val (u0.drop j) →
  ∃ Sq Sr,Ad Sq∧val Sq=val u0/val v∧Ad Sr∧val Sr=val u0%val v/2 ^ s∧∀ K:Nat→Nat→LA→LA→O R,Cu N K (s:Int) (n+2) u0.length (Aa Sv) b D ((n+2:Nat):Int) (D:Int) (D:Int) (c:Int) (Aa q) (Aa W)=K (Af (val u0/val v)).length (Af (val u0%val v/2 ^ s)).length (Aa Sq) (Aa Sr)
 | 0,b+1,c,W,q,_,hc,hW,hWl,hq,i,u,I,e=>by
  have h1:=m.1;have h2:=m.2
  simp only[List.drop_zero] at e I
  have x:0<val v:=by omega
  have vlt:=Be G
  rw[F] at vlt
  have A:val u0/val v=val q:=by rw[←e,Nat.mul_comm,Nat.mul_add_div x,Nat.div_eq_of_lt I,Nat.add_zero]
  have hm:val u0%val v=val W:=by rw[←e,Nat.mul_comm,Nat.mul_add_mod,Nat.mod_eq_of_lt I]
  have ht:val (W.take (n+2))=val W:=Zy (by omega)
  have B:(W.take (n+2)).length=n+2:=by rw[List.length_take];omega
  obtain⟨S',q1,Y,q4⟩:=Aee (R:=R) (N:=N) (a:=W.take (n+2)) (n:=n+2) (t:=false) (o:=true) (s:=s) B.symm (Bo hW _) X (m.le (by rw[B];omega))
  rw[ht,←hm] at Y q4
  refine⟨q,S',hq,A.symm,q1,Y,fun K=>?_⟩
  have hcD:c=D:=by omega
  subst hcD
  rw[Cu];unfold Ij
  rw[BV (Nat.le_refl _),cf,Age (by omega),ct,Int.toNat_natCast,Nat.mul_one,Nx,q4,Xq i.symm hq (by rw[i];exact m.le (by omega)),←A]
 | j+1,b+1,c,W,q,hfu,hc,hW,hWl,hq,i,u,I,e=>by
  have h1:=m.1;have h2:=m.2
  have vlt:=Be G
  rw[F] at vlt
  have hjW:j<W.length:=by omega
  have C:j<u0.length:=by omega
  have M:j<q.length:=by omega
  have hWj:W[j]=u0[j]:=by
   have:=congrArg (fun l=>l[j]?) u
   simp only[List.getElem?_take_of_lt (show j<j+1 by omega),List.getElem?_eq_getElem hjW,List.getElem?_eq_getElem C] at this
   exact Option.some.inj this
  have wj:=Aw hW hjW
  have eW:=FW hjW
  have eu:=FW C
  have hUl:((W.drop j).take (n+3)).length=n+3:=by rw[List.length_take,List.length_drop];omega
  have d:val (W.drop j)<val v*4294967296:=by rw[eW];omega
  have hB:val (W.drop j)<4294967296 ^ (n+3):=by
   have:=(Nat.mul_lt_mul_right (show 0<4294967296 by omega)).2 vlt
   rw[←Nat.pow_succ] at this;exact Nat.lt_trans d this
  have hU:val ((W.drop j).take (n+3))=val (W.drop j):=Zy hB
  have k:W=W.take j++((W.drop j).take (n+3)++(W.drop j).drop (n+3)):=by rw[List.take_append_drop,List.take_append_drop]
  have hPl:(W.take j).length=j:=by rw[List.length_take];omega
  obtain⟨U',u1,u2,u3,u4⟩:=jO (R:=R) (N:=N) (P:=W.take j) (Q:=(W.drop j).drop (n+3)) (U:=(W.drop j).take (n+3)) (v:=v) (n:=n) (f:=false) (g:=true) F G (Bo (Zl hW _) _) hUl (by omega) (by omega) y (by rw[hU];exact d)
  rw[hU] at u3 u4
  have hQ0:val ((W.drop j).drop (n+3))=0:=by
   have:=Ld ((W.drop j).take (n+3)) ((W.drop j).drop (n+3))
   rw[List.take_append_drop,hU,hUl] at this
   have hp:0<4294967296 ^ (n+3):=Nat.pow_pos (by omega)
   rcases Nat.eq_zero_or_pos (val ((W.drop j).drop (n+3))) with h | h
   ·exact h
   ·have:=Nat.le_mul_of_pos_right (4294967296 ^ (n+3)) h;omega
  have x:0<val v:=by omega
  have T:val (W.drop j)/val v<4294967296:=Nat.div_lt_of_lt_mul d
  have hdm:=Nat.div_add_mod (val (W.drop j)) (val v)
  have V:=Nat.mod_lt (val (W.drop j)) x
  have hW':Ad (W.take j++(U'++(W.drop j).drop (n+3))):=TA.2 ⟨Bo hW _,TA.2 ⟨u1,Zl (Zl hW _) _⟩⟩
  have hWl':(W.take j++(U'++(W.drop j).drop (n+3))).length=u0.length:=by
   rw[List.length_append,List.length_append,hPl,u2,List.length_drop,List.length_drop];omega
  have hWd:(W.take j++(U'++(W.drop j).drop (n+3))).drop j=U'++(W.drop j).drop (n+3):=by
   rw[List.drop_append,hPl,Nat.sub_self,List.drop_zero,List.drop_eq_nil_of_le (by omega),List.nil_append]
  have hWt:(W.take j++(U'++(W.drop j).drop (n+3))).take j=u0.take j:=by
   rw[List.take_append,hPl,Nat.sub_self,List.take_zero,List.append_nil,List.take_take,Nat.min_self]
   have:=congrArg (List.take j) u
   rwa [List.take_take,List.take_take,Nat.min_eq_left (by omega)] at this
  have hWv:val (U'++(W.drop j).drop (n+3))=val (W.drop j)%val v:=by rw[Ld,hQ0,u3];simp
  obtain⟨Sq,Sr,a1,a2,a3,a4,a5⟩:=pD (N:=N) F G y hSv hu L X m j b (c+1) (W.take j++(U'++(W.drop j).drop (n+3))) (q.set j (val (W.drop j)/val v)) (by omega) (by omega) hW' hWl' (Bt hq T j) (by simpa using i) hWt (by rw[hWd,hWv];exact V) (by
   rw[hWd,hWv,uX M,val,eu,←e,←hWj,Nat.add_mul,Nat.mul_assoc,Nat.mul_add,Nat.mul_comm (val (W.drop j)/val v)]
   omega)
  refine⟨Sq,Sr,a1,a2,a3,a4,fun K=>?_⟩
  have w0:IntKind.wrap .i64 (IntKind.wrap .i64 (((D:Nat):Int) - 1) - (c:Int))=(j:Int):=by
   rw[i64 (a:=((D:Nat):Int) - 1) (by omega),i64 (by omega)];omega
  have w1:IntKind.wrap .i64 (IntKind.wrap .i64 ((j:Int)+((n+2:Nat):Int))+1)=((j+(n+3):Nat):Int):=by
   rw[i64 (a:=(j:Int)+((n+2:Nat):Int)) (by omega),i64 (by omega)];omega
  have:=u4 fun z aa=>cond (Aj (j:Int) D) (cond ((Nat.beq 1 1)&&((Nat.ble ((0+((Int.toNat (j:Int))*1))+1) (List.length (Aa q)))&&(!false))) (Cu N K (s:Int) (n+2) u0.length (Aa Sv) b D ((n+2:Nat):Int) (D:Int) (D:Int) (IntKind.wrap .i64 ((c:Int)+1)) (List.set (Aa q) (0+((Int.toNat (j:Int))*1)) (.int .u32 z)) aa) none) none
  rw[←k,hPl] at this
  rw[Cu];unfold Ij
  rw[T6 (by omega),ct,w0,w1,Aj4 (by omega) (by omega),ct,hSv,Int.toNat_natCast,Int.toNat_natCast,Nat.mul_one,Nat.zero_add,show j+(n+3) - j=n+3 by omega]
  rw[Int.toNat_natCast,Nat.mul_one,Nat.zero_add] at this
  rw[this,Al (by omega),ct,show((Nat.beq 1 1)&&((Nat.ble (j+1) (List.length (Aa q)))&&(!false)))=true by (rw[Bb];simp;omega),ct,TB,wS (by omega)]
  exact a5 K
theorem Aa7 {N:Nat} {a b:List Nat} {n m:Nat} {t o t' o':Bool} (M:n=a.length) (S:m=b.length) (C:Ad a) (A:Ad b) (l:2≤b.length) (F:b.length≤a.length) (e:b.getLast (by intro h;rw[h] at l;simp at l)≠0) (q:fit (a.length+b.length+4) N) :
  ∃ Sq Sr,Ad Sq∧val Sq=val a/val b∧Ad Sr∧val Sr=val a%val b∧∀ K:Nat→Nat→LA→LA→O R,F2 N (Aa a) n t o (Aa b) m t' o' K=K (Af (val a/val b)).length (Af (val a%val b)).length (Aa Sq) (Aa Sr):=by
 subst M S
 have h1:=q.1;have h2:=q.2
 obtain⟨k,y⟩:∃ k,b.length=k+2:=⟨b.length - 2,by omega⟩
 have G:b[k+1]'(by omega)≠0:=by
  rw[List.getLast_eq_getElem] at e
  simp only[y] at e
  exact e
 have bk:=Aw A (show k+1<b.length by omega)
 obtain⟨s,s1,s2,I,T⟩:=zQ (R:=R) (N:=N) (c:=b[k+1]'(by omega)) (by omega) bk
 obtain⟨Sv,v1,v2,v3,v4⟩:=UP (R:=R) (N:=N) (a:=b) (t:=false) (o:=o') (s:=s) rfl A s1 (q.le (by omega))
 obtain⟨Su,L,U,B,V⟩:=UP (R:=R) (N:=N) (a:=a) (t:=false) (o:=o) (s:=s) rfl C s1 (q.le (by omega))
 have z:0<2 ^ s:=Nat.pow_pos (by omega)
 have hP:0<4294967296 ^ (k+1):=Nat.pow_pos (by omega)
 have bt:=Zz A y
 have bf:=X6 y
 have hVlt:val b*2 ^ s<4294967296 ^ (k+2):=by
  have x1:val b*2 ^ s<(b[k+1]+1)*4294967296 ^ (k+1)*2 ^ s:=(Nat.mul_lt_mul_right z).2 bt
  have X:2 ^ s∣4294967296:=⟨2 ^ (32 - s),by rw[←Nat.pow_add,show s+(32 - s)=32 by omega]⟩
  have x2:(b[k+1]+1)*2 ^ s≤4294967296:=by
   obtain⟨r,u⟩:=X
   have x3:b[k+1]<r:=by
    rw[u,Nat.mul_comm] at I
    exact Nat.lt_of_mul_lt_mul_left I
   have x4:(b[k+1]+1)*2 ^ s≤r*2 ^ s:=Nat.mul_le_mul_right _ x3
   have x5:r*2 ^ s=4294967296:=by rw[Nat.mul_comm];exact u.symm
   omega
  have x6:=Nat.mul_le_mul_right (4294967296 ^ (k+1)) x2
  rw[Nat.mul_right_comm] at x1
  rw[Nat.pow_succ,Nat.mul_comm _ 4294967296]
  exact Nat.lt_of_lt_of_le x1 x6
 have x:(Sv.take (k+2)).length=k+2:=by rw[List.length_take];omega
 have d:val (Sv.take (k+2))=val b*2 ^ s:=by rw[Zy (by rw[v3];exact hVlt),v3]
 have f:2147483648*4294967296 ^ (k+1)≤val b*2 ^ s:=by
  have x1:4294967296 ^ (k+1)*b[k+1]≤val b:=by omega
  have x2:=Nat.mul_le_mul_right (2 ^ s) x1
  rw[Nat.mul_assoc,Nat.mul_comm (4294967296 ^ (k+1))] at x2
  have x3:=Nat.mul_le_mul_right (4294967296 ^ (k+1)) s2
  omega
 have i:2147483648≤(Sv.take (k+2))[k+1]'(by omega):=by
  have x1:=Zz (Bo v1 (k+2)) x
  rw[d] at x1
  have x2:=Nat.lt_of_mul_lt_mul_right (Nat.lt_of_le_of_lt f x1)
  omega
 have hDl:Su.length=(a.length+1 - (k+2))+(k+2):=by omega
 have j:val (Su.drop (a.length+1 - (k+2)))<val (Sv.take (k+2)):=by
  have x1:=Ld (Su.take (a.length+1 - (k+2))) (Su.drop (a.length+1 - (k+2)))
  rw[List.take_append_drop,B,List.length_take,Nat.min_eq_left (by omega)] at x1
  have x2:=Be C
  have x3:val a*2 ^ s<4294967296 ^ a.length*2 ^ s:=(Nat.mul_lt_mul_right z).2 x2
  have x4:a.length=(a.length+1 - (k+2))+(k+1):=by omega
  generalize hE:a.length+1 - (k+2)=E at *
  have x5:4294967296 ^ a.length=4294967296 ^ E*4294967296 ^ (k+1):=by rw[←Nat.pow_add];congr 1
  rw[x5,Nat.mul_assoc] at x3
  have x6:4294967296 ^ E*val (Su.drop E)<4294967296 ^ E*(4294967296 ^ (k+1)*2 ^ s):=by omega
  have x7:=Nat.lt_of_mul_lt_mul_left x6
  have x8:4294967296 ^ (k+1)*2 ^ s≤2147483648*4294967296 ^ (k+1):=by rw[Nat.mul_comm];exact Nat.mul_le_mul_right _ (rO s1)
  rw[d];omega
 obtain⟨Sq,Sr,a1,a2,a3,a4,a5⟩:=pD (R:=R) (N:=N) (v:=Sv.take (k+2)) (u0:=Su) (Sv:=Sv) (n:=k) (D:=a.length+1 - (k+2)) (s:=s) x (Bo v1 _) i (by rw[Nat.mul_one,Nx]) L hDl s1 (q.le (by omega)) (a.length+1 - (k+2)) N 0 Su (List.replicate (a.length+1 - (k+2)) 0) (by omega) (by omega) L rfl (Bs _) (by simp) rfl j (by
  rw[List.drop_eq_nil_of_le (show(List.replicate (a.length+1 - (k+2)) 0).length≤a.length+1 - (k+2) by simp)];simp[val])
 have hq:val Su/val (Sv.take (k+2))=val a/val b:=by rw[B,d,Nat.mul_div_mul_right _ _ z]
 have u:val Su%val (Sv.take (k+2))/2 ^ s=val a%val b:=by rw[B,d,Nat.mul_mod_mul_right,Nat.mul_div_cancel _ z]
 rw[hq] at a2;rw[u] at a4
 refine⟨Sq,Sr,a1,a2,a3,a4,fun K=>?_⟩
 rw[Uz];unfold Mu
 have Y:IntKind.wrap .i64 (((b.length:Nat):Int) - 1)=((k+1:Nat):Int):=by rw[i64 (by omega)];omega
 have w2:IntKind.wrap .i64 (((a.length+1:Nat):Int) - ((b.length:Nat):Int))=((a.length+1 - (k+2):Nat):Int):=by rw[i64 (by omega)];omega
 rw[Y,Al (by omega),ct,ED (by omega),T,v4,Age (by omega),ct,V,w2,Acz (by omega),ct,Int.toNat_natCast,B0]
 have:=a5 K
 rw[hq,u,U] at this
 rw[y]
 exact this
theorem U4 {N:Nat} {a b:List Nat} {n m:Nat} {t o t' o':Bool} (G:n=a.length) (I:m=b.length) (D:Ad a) (F:Ad b) (i:val b≠0) (e:fit (a.length+b.length+4) N) :
  ∃ Sq Sr,Ad Sq∧val Sq=val a/val b∧Ad Sr∧val Sr=val a%val b∧∀ K:Nat→Nat→Bool→LA→LA→O R,C5 N (Aa a) n t o (Aa b) m t' o' K=K (Af (val a/val b)).length (Af (val a%val b)).length true (Aa Sq) (Aa Sr):=by
 have T:=e.1;have U:=e.2
 have la:=(A3 D).2
 have lb:=(A3 F).2
 have v:(Af (val b)).length≠0:=fun h=>i (A8.1 h)
 have start:∀ K:Nat→Nat→Bool→LA→LA→O R,C5 N (Aa a) n t o (Aa b) m t' o' K=cond (decide (Fo (val a) (val b)<0)) (Mn N (Aa (Af (val a))) (Af (val a)).length false o (fun s t=>(K 0 s true [] t))) (cond (decide ((((Af (val a)).length:Nat):Int)≤(2:Int))) (K6 N (Aa (Af (val a))) (Af (val a)).length false o (fun p=>(K6 N (Aa (Af (val b))) (Af (val b)).length false o' (fun o=>(cond (o==(0:Int)) none (Bc N (IntKind.wrap .u64 (Int.tdiv p o)) (fun u w=>(cond (o==(0:Int)) none (Bc N (Int.tmod p o) (fun x y=>(K u x true w y))))))))))) (cond ((((Af (val b)).length:Nat):Int)==(1:Int)) (cond (Aj (0:Int) (Af (val b)).length) (Bw .u32 (Aa (Af (val b))) fun z=>(Dx N (Aa (Af (val a))) (Af (val a)).length false o z (fun aa ab ac ad=>(K aa ab true ac ad)))) none) (F2 N (Aa (Af (val a))) (Af (val a)).length false o (Aa (Af (val b))) (Af (val b)).length false o' (fun ae af ag ah=>(K ae af true ag ah))))):=by
  intro K
  rw[ML];unfold RE
  rw[Bf G D (e.le (by omega)),Bf I F (e.le (by omega)),mU v,cf,Rk rfl rfl (Ab _) (Ab _) (e.le (by omega)),Ac,Ac]
 by_cases c:val a<val b
 ·refine⟨[],Af (val a),Nw,by rw[Nat.div_eq_of_lt c];rfl,Ab _,by rw[Nat.mod_eq_of_lt c,Ac],fun K=>?_⟩
  rw[start,show decide (Fo (val a) (val b)<0)=true by (unfold Fo;rw[if_pos c];rfl),ct,Rl rfl (Ab _) (e.le (by omega)),Ac,Nat.div_eq_of_lt c,Nat.mod_eq_of_lt c,Cc];rfl
 ·have d:decide (Fo (val a) (val b)<0)=false:=by unfold Fo;rw[if_neg c];split<;>rfl
  have j:=A4 (Nat.le_of_not_lt c)
  by_cases f:(Af (val a)).length≤2
  ·have av:=UE f
   have bv:=UE (Nat.le_trans j f)
   have k:val a/val b<18446744073709551616:=Nat.lt_of_le_of_lt (Nat.div_le_self _ _) av
   have A:val a%val b<18446744073709551616:=Nat.lt_of_le_of_lt (Nat.mod_le _ _) av
   obtain⟨Sq,a1,a2,a3⟩:=G7 (R:=R) (N:=N) k (by omega)
   obtain⟨Sr,L,M,S⟩:=G7 (R:=R) (N:=N) A (by omega)
   refine⟨Sq,Sr,a1,a2,L,M,fun K=>?_⟩
   rw[start,d,cf,show decide ((((Af (val a)).length:Nat):Int)≤2)=true by simp;omega,ct,Xs rfl (Ab _) f (by omega),Xs rfl (Ab _) (by omega) (by omega),Ac,Ac,mU i,cf,MQ,Fv k,a3,cf,FV,S]
  ·have l:decide ((((Af (val a)).length:Nat):Int)≤2)=false:=by simp;omega
   by_cases B:(Af (val b)).length=1
   ·obtain⟨x,C⟩:∃ x,Af (val b)=[x]:=by
     match h:Af (val b),B with
     | [x],_=>exact⟨x,rfl⟩
    have q:x=val b:=by have:=Ac (val b);rw[C] at this;simpa[val] using this
    have xl:x<4294967296:=by have:=Ab (val b);rw[C] at this;exact(Ce.1 this).1
    obtain⟨Sq,Sr,a1,a2,a3,a4,a5⟩:=uY (R:=R) (N:=N) (a:=Af (val a)) (t:=false) (o:=o) (b:=x) rfl (Ab _) (by omega) xl (e.le (by omega))
    rw[Ac,q] at a2 a4 a5
    refine⟨Sq,Sr,a1,a2,a3,a4,fun K=>?_⟩
    rw[start,d,cf,l,cf,C]
    simp only[List.length_cons,List.length_nil,Rg,Xf]
    rw[show((((0+1:Nat)):Int)==1)=true by rfl,ct,show Aj 0 (0+1)=true by decide,ct,q,a5]
   ·obtain⟨Sq,Sr,a1,a2,a3,a4,a5⟩:=Aa7 (R:=R) (N:=N) (a:=Af (val a)) (b:=Af (val b)) (t:=false) (o:=o) (t':=false) (o':=o') rfl rfl (Ab _) (Ab _) (by omega) j (iQ _ _) (e.le (by omega))
    rw[Ac,Ac] at a2 a4 a5
    refine⟨Sq,Sr,a1,a2,a3,a4,fun K=>?_⟩
    rw[start,d,cf,l,cf,show((((Af (val b)).length:Nat):Int)==1)=false by rw[beq_eq_false_iff_ne];omega,cf,a5]
end
end Gx

namespace Gx
open Go Go.Proofs
section
variable {R:Type}
def Ai2 (A B u0 u1 v0 v1:Nat) (e:Bool):Prop:=v0=0∨(1≤u1∧1≤v1∧match e with
 | true=>v0*B≤u0*A∧u1*A≤v1*B∧(v0+v1)*B≤(u0+u1)*A∧u0*v1=v0*u1+1
 | false=>u0*A≤v0*B∧v1*B≤u1*A∧(u0+u1)*A≤(v0+v1)*B∧u1*v0=v1*u0+1)
structure Lead (X Y x y u1 u2 v1 v2:Nat) (e:Bool):Prop where
 le:y≤x
 idV:x*v2+y*v1=X
 idU:x*u2+y*u1=Y
 pos:1≤v2
 par:match e with
  | false=>x+v1*Y=u1*X∧y+u2*X=v2*Y∧u1*v2=v1*u2+1
  | true=>x+u1*X=v1*Y∧y+v2*Y=u2*X∧u2*v1=v2*u1+1
 small:(v1=0∧u1=1∧u2=0∧v2=1∧e=false)∨(1≤v1∧u1≤v1∧u2≤v2∧1≤u2)
theorem Lead.init {X Y:Nat} (h:Y≤X):Lead X Y X Y 1 0 0 1 false:=⟨h,by simp,by simp,by omega,by simp,.inl ⟨rfl,rfl,rfl,rfl,rfl⟩⟩
theorem Lead.step {X Y x y u1 u2 v1 v2:Nat} {e:Bool} (L:Lead X Y x y u1 u2 v1 v2 e) (n:1≤y):Lead X Y y (x%y) u2 (u1+x/y*u2) v2 (v1+x/y*v2) (!e):=by
 have b:=Nat.div_add_mod x y
 have l:=Nat.mod_lt x (show 0<y by omega)
 have hq:1≤x/y:=by rw[Nat.le_div_iff_mul_le (by omega)];have:=L.le;omega
 generalize x/y=q at *
 generalize x%y=r at *
 have c:=L.pos
 refine⟨by omega,?_,?_,?_,?_,?_⟩
 ·rw[←L.idV,←b,Nat.mul_add,Nat.add_mul,Nat.mul_assoc];omega
 ·rw[←L.idU,←b,Nat.mul_add,Nat.add_mul,Nat.mul_assoc];omega
 ·have:=Nat.mul_le_mul hq c;omega
 ·have p:=L.par
  cases e with
  | false =>
   obtain⟨m,d,i⟩:=p
   refine⟨d,?_,?_⟩
   ·have j:q*(y+u2*X)=q*(v2*Y):=by rw[d]
    rw[Nat.mul_add,←Nat.mul_assoc,←Nat.mul_assoc] at j
    rw[Nat.mul_comm y q] at b
    rw[Nat.add_mul,Nat.add_mul];omega
   ·rw[Nat.add_mul,Nat.add_mul,Nat.mul_right_comm q u2,i];omega
  | true =>
   obtain⟨m,d,i⟩:=p
   refine⟨d,?_,?_⟩
   ·have j:q*(y+v2*Y)=q*(u2*X):=by rw[d]
    rw[Nat.mul_add,←Nat.mul_assoc,←Nat.mul_assoc] at j
    rw[Nat.mul_comm y q] at b
    rw[Nat.add_mul,Nat.add_mul];omega
   ·rw[Nat.mul_add,Nat.mul_add,i,Nat.mul_left_comm u2 q,Nat.mul_left_comm v2 q,Nat.mul_comm u2 v2];omega
 ·right
  rcases L.small with⟨s1,s2,f,k,_⟩ | ⟨s1,s2,f,k⟩
  ·subst s1 s2 f k;exact⟨by omega,by omega,by omega,by omega⟩
  ·have s:q*u2≤q*v2:=Nat.mul_le_mul_left _ f
   exact⟨c,f,by omega,by have:=Nat.mul_le_mul hq k;omega⟩
theorem Lead.cof {X Y x y u1 u2 v1 v2 A B P:Nat} {e:Bool} (L:Lead X Y x y u1 u2 v1 v2 e) (hA:X*P≤A) (hA':A<(X+1)*P) (hB:Y*P≤B) (hB':B<(Y+1)*P) (c1:v2≤y) (c:v1+v2≤x - y):Ai2 A B u1 u2 v1 v2 (!e):=by
 have p:=L.par
 have d:=L.le
 rcases L.small with⟨s1,_⟩ | ⟨s1,s2,k,f⟩
 ·exact .inl s1
 ·refine .inr ⟨f,L.pos,?_⟩
  cases e with
  | false =>
   obtain⟨i,j,b⟩:=p
   have n1:u2*A≤v2*B:=Ui hB hA' (w:=y) (by omega) (by omega)
   have n2:(v1+v2)*B≤(u1+u2)*A:=Ui hA hB' (w:=x - y) (by rw[Nat.add_mul,Nat.add_mul];omega) c
   refine⟨?_,n1,n2,b⟩
   rw[Nat.add_mul,Nat.add_mul] at n2;omega
  | true =>
   obtain⟨i,j,b⟩:=p
   have n1:v2*B≤u2*A:=Ui hA hB' (w:=y) (by omega) (by omega)
   have n2:(u1+u2)*A≤(v1+v2)*B:=Ui hB hA' (w:=x - y) (by rw[Nat.add_mul,Nat.add_mul];omega) (by omega)
   refine⟨?_,n1,n2,b⟩
   rw[Nat.add_mul,Nat.add_mul] at n2;omega
theorem FX {x y:Nat} (c:1≤y) (h:y≤x):2*(y*(x%y))≤x*y:=by
 have d:=Nat.div_add_mod x y
 have e:=Nat.mod_lt x (show 0<y by omega)
 have hq:1≤x/y:=by rw[Nat.le_div_iff_mul_le (by omega)];omega
 have f:y*1≤y*(x/y):=Nat.mul_le_mul_left _ hq
 have b:2*(x%y)≤x:=by omega
 have:=Nat.mul_le_mul_left y b
 rw[Nat.mul_comm x y,Nat.mul_left_comm];exact this
def zT (u0 u1 v0 v1:Nat) (e:Bool):LA:=[.int .u64 (u0:Int),.int .u64 (u1:Int),.int .u64 (v0:Int),.int .u64 (v1:Int),.bool e]
theorem Aa8 {N:Nat} {X Y A B P:Nat} (hX:X<18446744073709551616) (hYX:Y≤X) (hA:X*P≤A) (hA':A<(X+1)*P) (hB:Y*P≤B) (hB':B<(Y+1)*P):∀ (k b x y u0 u1 u2 v0 v1 v2:Nat) (e:Bool),k<b→x*y<2 ^ k→Lead X Y x y u1 u2 v1 v2 e→Ai2 A B u0 u1 v0 v1 e→u0<18446744073709551616→u1<18446744073709551616→v0<18446744073709551616→v1<18446744073709551616 →
  ∃ (a1 a2 f d:Nat) (s:Bool),Ai2 A B a1 a2 f d s∧a1<18446744073709551616∧a2<18446744073709551616∧f<18446744073709551616∧d<18446744073709551616∧∀ K:LA→O R,Cz N K b (x:Int) (y:Int) (u0:Int) (u1:Int) (u2:Int) (v0:Int) (v1:Int) (v2:Int) e=K (zT a1 a2 f d s):=by
 intro k
 induction k with
 | zero =>
  intro b x y u0 u1 u2 v0 v1 v2 e G i L C f d t m
  obtain⟨b,rfl⟩:∃ F,b=F+1:=⟨b - 1,by omega⟩
  have l:y=0:=by
   rcases Nat.eq_zero_or_pos y with h | h
   ·exact h
   ·have h3:=Nat.mul_le_mul_left x (show 1≤y by omega)
    have h4:=L.le
    rw[Nat.pow_zero] at i
    omega
  refine⟨u0,u1,v0,v1,e,C,f,d,t,m,fun K=>?_⟩
  rw[Cz];unfold Gh
  have:=L.pos
  rw[show decide ((y:Int)≥(v2:Int))=false by simp;omega];rfl
 | succ k I =>
  intro b x y u0 u1 u2 v0 v1 v2 e G i L C f d t m
  obtain⟨b,rfl⟩:∃ F,b=F+1:=⟨b - 1,by omega⟩
  have u:=L.pos
  have j:=L.le
  by_cases c1:v2≤y
  ·have l:1≤y:=by omega
   have hxX:x≤X:=by
    have:=Nat.mul_le_mul_left x u
    have:=L.idV;omega
   have D:v1+v2≤X:=by
    have M:=Nat.mul_le_mul_right v2 (show 1≤x by omega)
    have h2:=Nat.mul_le_mul_right v1 l
    have:=L.idV;omega
   by_cases S:v1+v2≤x - y
   ·have L':=L.step l
    have C':=L.cof hA hA' hB hB' c1 S
    have i1:=L'.idV
    have i2:=L'.idU
    have w1:v1+x/y*v2≤X:=by
     have:=Nat.mul_le_mul_right (v1+x/y*v2) l;omega
    have w2:u1+x/y*u2≤Y:=by
     have:=Nat.mul_le_mul_right (u1+x/y*u2) l;omega
    have v:u2<18446744073709551616:=by
     have M:=Nat.mul_le_mul_right u2 (show 1≤x by omega)
     have:=L.idU;omega
    have n:v2<18446744073709551616:=by omega
    have z:y*(x%y)<2 ^ k:=by
     have:=FX l j
     rw[Nat.pow_succ] at i;omega
    obtain⟨a1,a2,T,U,s,V,r2,r3,r4,r5,r6⟩:=I b y (x%y) u1 u2 (u1+x/y*u2) v1 v2 (v1+x/y*v2) (!e) (by omega) z L' C' d v m n
    refine⟨a1,a2,T,U,s,V,r2,r3,r4,r5,fun K=>?_⟩
    rw[Cz];unfold Gh
    have c:x<18446744073709551616:=by omega
    have q:x/y<18446744073709551616:=Nat.lt_of_le_of_lt (Nat.div_le_self _ _) c
    rw[show decide ((y:Int)≥(v2:Int))=true by simp;omega,show((true:Bool)==true)=true by rfl,ct,ZY c j,Wa,Fv (show v1+v2<18446744073709551616 by omega),show decide (((x - y:Nat):Int)≥((v1+v2:Nat):Int))=true by rw[decide_eq_true_eq];omega,Aay,ct]
    unfold Oy
    dsimp only
    rw[mU (by omega),cf,cf,MQ,FV,Fv q,iR,iR,Fv (show x/y*u2<18446744073709551616 by omega),Fv (show x/y*v2<18446744073709551616 by omega),Wa,Wa,Fv (show u1+x/y*u2<18446744073709551616 by omega),Fv (show v1+x/y*v2<18446744073709551616 by omega)]
    exact r6 K
   ·refine⟨u0,u1,v0,v1,e,C,f,d,t,m,fun K=>?_⟩
    rw[Cz];unfold Gh
    rw[show decide ((y:Int)≥(v2:Int))=true by simp;omega,show((true:Bool)==true)=true by rfl,ct,ZY (by omega) j,Wa,Fv (show v1+v2<18446744073709551616 by omega),show decide (((x - y:Nat):Int)≥((v1+v2:Nat):Int))=false by rw[decide_eq_false_iff_not];omega,Aay,cf]
    rfl
  ·refine⟨u0,u1,v0,v1,e,C,f,d,t,m,fun K=>?_⟩
   rw[Cz];unfold Gh
   rw[show decide ((y:Int)≥(v2:Int))=false by simp;omega];rfl
end
end Gx

namespace Gx
open Go Go.Proofs
section
variable {R:Type}
theorem a8 {N:Nat} {a:List Nat} {n:Nat} {t o:Bool} {i:Nat} {K:Int→O R} (b:n=a.length) (c:Ad a):Fz N (i:Int) (Aa a) n t o K=K ((a.getD i 0:Nat):Int):=by
 subst b
 rw[Ut];unfold Sp
 by_cases h:i<a.length
 ·have:=Aw c h
  rw[T6 h,ct,Al h,ct,ED h,Fv (by omega),List.getD_eq_getElem?_getD,List.getElem?_eq_getElem h];rfl
 ·rw[BV (by omega),cf,List.getD_eq_getElem?_getD,List.getElem?_eq_none (by omega)];rfl
theorem Rn {a:List Nat} (b:Ad a) (i:Nat):a.getD i 0<4294967296:=by
 by_cases h:i<a.length
 ·rw[List.getD_eq_getElem?_getD,List.getElem?_eq_getElem h];exact Aw b h
 ·rw[List.getD_eq_getElem?_getD,List.getElem?_eq_none (by omega)];simp
theorem Aef {a:List Nat} {n:Nat} (e:a.length≤n+3):val a=val (a.take n)+4294967296 ^ n*((a.getD (n+2) 0*4294967296+a.getD (n+1) 0)*4294967296+a.getD n 0):=by
 have b:=Lt a (n+2)
 have c:=Lt a (n+1)
 have d:=Lt a n
 rw[List.take_of_length_le (by omega)] at b
 have x1:4294967296 ^ (n+2)*a.getD (n+2) 0=4294967296 ^ n*(a.getD (n+2) 0*4294967296*4294967296):=by rw[Nat.pow_succ (n:=4294967296) (m:=n+1),Nat.pow_succ,Ah7,Ah7]
 have x2:4294967296 ^ (n+1)*a.getD (n+1) 0=4294967296 ^ n*(a.getD (n+1) 0*4294967296):=by rw[Nat.pow_succ,Ah7]
 rw[b,c,d,x1,x2,Nat.add_mul,Nat.mul_add,Nat.mul_add];omega
theorem cx {N:Nat} {a:List Nat} {m n s:Nat} {t o:Bool} {K:Int→O R} (i:m=a.length) (d:Ad a) (y:a.length≤n+3) (S:s≤31) (c:a.getD (n+2) 0*2 ^ s<4294967296) (T:n≤1000000000000) :
  Rm N (Aa a) m t o ((n+3:Nat):Int) (s:Int) K=K ((val a/(4294967296 ^ n*2 ^ (32 - s)):Nat):Int)∧val a/(4294967296 ^ n*2 ^ (32 - s))<18446744073709551616:=by
 have z:0<2 ^ s:=Nat.pow_pos (by omega)
 have e:0<2 ^ (32 - s):=Nat.pow_pos (by omega)
 have hP:0<4294967296 ^ n:=Nat.pow_pos (by omega)
 have b:2 ^ s*2 ^ (32 - s)=4294967296:=by rw[←Nat.pow_add,show s+(32 - s)=32 by omega]
 have A:=Rn d (n+2)
 have B:=Rn d (n+1)
 have C:=Rn d n
 have tk:=Be (Bo d n)
 have mV:val (a.take n)<4294967296 ^ n:=by
  refine Nat.lt_of_lt_of_le tk (Nat.pow_le_pow_right (by omega) ?_)
  rw[List.length_take];omega
 have D:=Aef y
 generalize j:a.getD (n+2) 0=a0 at *
 generalize k:a.getD (n+1) 0=a1 at *
 generalize l:a.getD n 0=a2 at *
 have q:a0<2 ^ (32 - s):=by
  rw[←b,Nat.mul_comm] at c;exact Nat.lt_of_mul_lt_mul_left c
 have f:(a0*4294967296+a1)*2 ^ s<18446744073709551616:=by
  have x1:(a0+1)*4294967296≤2 ^ (32 - s)*4294967296:=Nat.mul_le_mul_right _ q
  have x2:a0*4294967296+a1<2 ^ (32 - s)*4294967296:=by rw[Nat.add_mul] at x1;omega
  have x3:=(Nat.mul_lt_mul_right z).2 x2
  rw[Nat.mul_right_comm,Nat.mul_comm (2 ^ (32 - s)),b] at x3
  exact x3
 have u:a2/2 ^ (32 - s)<2 ^ s:=by
  rw[Nat.div_lt_iff_lt_mul e,b];exact C
 have hq:val a/(4294967296 ^ n*2 ^ (32 - s))=(a0*4294967296+a1)*2 ^ s+a2/2 ^ (32 - s):=by
  rw[←Nat.div_div_eq_div_mul,D,Nat.add_mul_div_left _ _ hP,Nat.div_eq_of_lt mV,Nat.zero_add]
  have:(a0*4294967296+a1)*4294967296+a2=a2+2 ^ (32 - s)*((a0*4294967296+a1)*2 ^ s):=by
   rw[Nat.mul_left_comm,Nat.mul_comm (2 ^ (32 - s)),b];omega
  rw[this,Nat.add_mul_div_left _ _ e];omega
 have F:(a0*4294967296+a1)*2 ^ s+a2/2 ^ (32 - s)<18446744073709551616:=by
  have v:2 ^ s*2 ^ (64 - s)=18446744073709551616:=by rw[←Nat.pow_add,show s+(64 - s)=64 by omega]
  obtain⟨r,x⟩:∃ r,18446744073709551616=2 ^ s*r:=⟨2 ^ (64 - s),v.symm⟩
  rw[x,Nat.mul_comm] at f
  have x1:=Nat.lt_of_mul_lt_mul_left f
  have x2:(a0*4294967296+a1+1)*2 ^ s≤r*2 ^ s:=Nat.mul_le_mul_right _ x1
  rw[Nat.add_mul,Nat.mul_comm r,←x] at x2
  omega
 rw[hq]
 refine⟨?_,F⟩
 rw[MA];unfold QZ
 have G:IntKind.wrap .i64 (((n+3:Nat):Int) - 1)=((n+2:Nat):Int):=by rw[i64 (by omega)];omega
 have I:IntKind.wrap .i64 (((n+3:Nat):Int) - 2)=((n+1:Nat):Int):=by rw[i64 (by omega)];omega
 have L:IntKind.wrap .i64 (((n+3:Nat):Int) - 3)=((n:Nat):Int):=by rw[i64 (by omega)];omega
 have M:IntKind.wrap .i64 ((32:Int) - (s:Int))=((32 - s:Nat):Int):=by rw[i64 (by omega)];omega
 rw[G,I,L,M,a8 i d,a8 i d,show decide (((s:Nat):Int)<0)=false by simp,cf,a8 i d,show decide (((32 - s:Nat):Int)<0)=false by simp,cf]
 rw[j,k,l,Ahg A B,Int.toNat_natCast,Int.toNat_natCast,Nat.min_eq_left (by omega),Nat.min_eq_left (by omega),Mi,show(2:Int) ^ s=((2 ^ s:Nat):Int) by simp,iR,Fv f,xU f (by omega),Z_ u]
theorem rP {N:Nat} {a b:List Nat} {n m:Nat} {t o t' o':Bool} (U:n=a.length) (V:m=b.length) (v:Ad a) (hb:Ad b) (j:3≤a.length) (f:a.getLast (by intro h;rw[h] at j;simp at j)≠0) (hlb:b.length≤a.length) (x:val b≤val a) (G:fit a.length N) :
  ∃ (a1 a2 l q:Nat) (e:Bool),Ai2 (val a) (val b) a1 a2 l q e∧a1<18446744073709551616∧a2<18446744073709551616∧l<18446744073709551616∧q<18446744073709551616∧∀ K:LA→O R,N6 N (Aa a) n t o (Aa b) m t' o' K=K (zT a1 a2 l q e):=by
 subst U V
 have h1:=G.1;have h2:=G.2
 obtain⟨k,I⟩:∃ k,a.length=k+3:=⟨a.length - 3,by omega⟩
 have L:a[k+2]'(by omega)≠0:=by
  rw[List.getLast_eq_getElem] at f
  simp only[I] at f
  exact f
 have ak:=Aw v (show k+2<a.length by omega)
 obtain⟨s,s1,s2,M,s4⟩:=zQ (R:=R) (N:=N) (c:=a[k+2]'(by omega)) (by omega) ak
 have y:a.getD (k+2) 0=a[k+2]'(by omega):=by rw[List.getD_eq_getElem?_getD,List.getElem?_eq_getElem (by omega)];rfl
 have i:b.getD (k+2) 0≤a[k+2]'(by omega):=by
  apply Nat.le_of_not_lt;intro d
  have u:k+2<b.length:=by
   apply Nat.lt_of_not_le;intro C
   rw[List.getD_eq_getElem?_getD,List.getElem?_eq_none C] at d;simp at d
  have D:b.getD (k+2) 0=b[k+2]:=by rw[List.getD_eq_getElem?_getD,List.getElem?_eq_getElem u];rfl
  rw[D] at d
  have x1:=Zz v (n:=k+2) (by omega)
  have x2:=xd u
  have x3:(a[k+2]+1)*4294967296 ^ (k+2)≤b[k+2]*4294967296 ^ (k+2):=Nat.mul_le_mul_right _ d
  rw[Nat.mul_comm] at x2
  omega
 have F:b.getD (k+2) 0*2 ^ s<4294967296:=Nat.lt_of_le_of_lt (Nat.mul_le_mul_right _ i) M
 have hPP:0<4294967296 ^ k*2 ^ (32 - s):=Nat.mul_pos (Nat.pow_pos (by omega)) (Nat.pow_pos (by omega))
 have wa:=fun K=>cx (R:=R) (N:=N) (a:=a) (m:=a.length) (n:=k) (s:=s) (t:=false) (o:=o) (K:=K) rfl v (by omega) s1 (by rw[y];exact M) (by omega)
 have wb:=fun K=>cx (R:=R) (N:=N) (a:=b) (m:=b.length) (n:=k) (s:=s) (t:=false) (o:=o') (K:=K) rfl hb (by omega) s1 F (by omega)
 have hX:=(wa fun _=>none).2
 generalize hP:4294967296 ^ k*2 ^ (32 - s)=P at *
 have hYX:val b/P≤val a/P:=Nat.div_le_div_right x
 have S:∀ z,z/P*P≤z:=fun z=>Nat.div_mul_le_self z P
 have T:∀ z,z<(z/P+1)*P:=fun z=>by
  have:=Nat.div_add_mod z P;have:=Nat.mod_lt z hPP
  rw[Nat.add_mul,Nat.mul_comm];omega
 obtain⟨a1,a2,l,q,e,r1,r2,r3,r4,r5,r6⟩:=Aa8 (R:=R) (N:=N) (X:=val a/P) (Y:=val b/P) (A:=val a) (B:=val b) (P:=P) hX hYX (S _) (T _) (S _) (T _) 128 N (val a/P) (val b/P) 0 1 0 0 0 1 false (by omega) (by
  have:=Nat.mul_lt_mul'' hX (Nat.lt_of_le_of_lt hYX hX)
  exact this) (Lead.init hYX) (.inl rfl) (by omega) (by omega) (by omega) (by omega)
 refine⟨a1,a2,l,q,e,r1,r2,r3,r4,r5,fun K=>?_⟩
 rw[FN];unfold Uv
 have w1:IntKind.wrap .i64 (((a.length:Nat):Int) - 1)=((k+2:Nat):Int):=by rw[i64 (by omega)];omega
 rw[w1,Al (by omega),ct,ED (by omega),s4,show((a.length:Nat):Int)=((k+3:Nat):Int) by rw[I],(wa _).1,(wb _).1]
 exact r6 K
theorem Qv {N:Nat} {a b:List Nat} {n m:Nat} {x y:Nat} {t o t' o':Bool} (v:n=a.length) (z:m=b.length) (i:Ad a) (j:Ad b) (d:x<18446744073709551616) (e:y<18446744073709551616) (f:val b*y≤val a*x) (c:fit (a.length+b.length+4) N) :
  ∃ S,Ad S∧val S=val a*x - val b*y∧∀ K:Nat→LA→O R,Dz N (Aa a) n t o (x:Int) (Aa b) m t' o' (y:Int) K=K (Af (val a*x - val b*y)).length (Aa S):=by
 subst v z
 have C:=c.1;have D:=c.2
 obtain⟨Sx,x1,x2,x3⟩:=G7 (R:=R) (N:=N) d (by omega)
 obtain⟨Sy,y1,y2,y3⟩:=G7 (R:=R) (N:=N) e (by omega)
 have lx:=Qu d
 have ly:=Qu e
 obtain⟨P1,A,k,l⟩:=UD (R:=R) (N:=N) (a:=a) (b:=Af x) (t:=false) (o:=o) (t':=false) (o':=true) rfl rfl i (Ab _) (c.le (by omega))
 obtain⟨P2,B,q,s⟩:=UD (R:=R) (N:=N) (a:=b) (b:=Af y) (t:=false) (o:=o') (t':=false) (o':=true) rfl rfl j (Ab _) (c.le (by omega))
 rw[Ac] at k l q s
 have l1:(Af (val a*x)).length≤a.length+2:=Bp (by
  have:=Nat.mul_lt_mul'' (Be i) d
  rw[Nat.pow_add];exact this)
 have l2:(Af (val b*y)).length≤b.length+2:=Bp (by
  have:=Nat.mul_lt_mul'' (Be j) e
  rw[Nat.pow_add];exact this)
 obtain⟨S,s1,s2,u⟩:=UC (R:=R) (N:=N) (a:=Af (val a*x)) (b:=Af (val b*y)) (t:=false) (o:=true) (t':=false) (o':=true) rfl rfl (Ab _) (Ab _) (c.le (by omega)) (by rw[Ac,Ac];exact f)
 rw[Ac,Ac] at s2 u
 refine⟨S,s1,s2,fun K=>?_⟩
 rw[FS];unfold FR
 have tx:List.take ((Af x).length*1) (Aa Sx)=Aa (Af x):=by rw[←x2,H1 x1]
 have ty:List.take ((Af y).length*1) (Aa Sy)=Aa (Af y):=by rw[←y2,H1 y1]
 have t1:List.take ((Af (val a*x)).length*1) (Aa P1)=Aa (Af (val a*x)):=by rw[←k,H1 A]
 have t2:List.take ((Af (val b*y)).length*1) (Aa P2)=Aa (Af (val b*y)):=by rw[←q,H1 B]
 rw[x3,tx,l,y3,ty,s,t1,t2,u]
end
end Gx

namespace Gx
open Go Go.Proofs
section
variable {R:Type}
theorem Aa9 {N:Nat} (hN:4≤N):∀ (k b x y:Nat),k<b→x*y<2 ^ k→y≤x→x<18446744073709551616→∃ S,Ad S∧val S=Nat.gcd x y∧∀ (d:LA→Nat→Bool→LA→Nat→Bool→O R) (K:Nat→LA→O R),Lu N d K b (x:Int) (y:Int)=K (Af (Nat.gcd x y)).length (Aa S):=by
 have base:∀ (b x:Nat),x<18446744073709551616→∃ S,Ad S∧val S=Nat.gcd x 0∧∀ (d:LA→Nat→Bool→LA→Nat→Bool→O R) (K:Nat→LA→O R),Lu N d K (b+1) (x:Int) ((0:Nat):Int)=K (Af (Nat.gcd x 0)).length (Aa S):=by
  intro b x e
  obtain⟨S,s1,s2,i⟩:=G7 (R:=R) (N:=N) e hN
  refine⟨S,s1,by rw[s2,Nat.gcd_zero_right],fun d K=>?_⟩
  rw[Lu];unfold Zx
  rw[show(((0:Nat):Int) != 0)=false by rfl,cf,i,Nat.gcd_zero_right]
 intro k
 induction k with
 | zero =>
  intro b x y j c f e
  obtain⟨b,rfl⟩:∃ F,b=F+1:=⟨b - 1,by omega⟩
  have l:y=0:=by
   rcases Nat.eq_zero_or_pos y with h | h
   ·exact h
   ·have q:=Nat.mul_le_mul_left x (show 1≤y by omega)
    rw[Nat.pow_zero] at c;omega
  subst l
  exact base b x e
 | succ k m =>
  intro b x y j c f e
  obtain⟨b,rfl⟩:∃ F,b=F+1:=⟨b - 1,by omega⟩
  rcases Nat.eq_zero_or_pos y with h | h
  ·subst h;exact base b x e
  ·have s:=FX (show 1≤y by omega) f
   have t:=Nat.mod_lt x h
   obtain⟨S,s1,s2,i⟩:=m b y (x%y) (by omega) (by rw[Nat.pow_succ] at c;omega) (by omega) (by omega)
   have n:Nat.gcd y (x%y)=Nat.gcd x y:=by rw[Nat.gcd_comm,←Nat.gcd_rec,Nat.gcd_comm]
   rw[n] at s2 i
   refine⟨S,s1,s2,fun d K=>?_⟩
   rw[Lu];unfold Zx
   rw[show((y:Int) != 0)=true by rw[bne_iff_ne];omega,ct,mU (by omega),cf,FV]
   exact i d K
theorem pE {a b u v s t x y:Nat} (d:x+v*b=u*a) (e:y+s*a=t*b) (c:u*t=v*s+1):t*x+v*y=a∧s*x+u*y=b:=by
 constructor
 ·have f:t*x+t*v*b=t*u*a:=by rw[Nat.mul_assoc,Nat.mul_assoc,←Nat.mul_add,d]
  have i:v*y+v*s*a=v*t*b:=by rw[Nat.mul_assoc,Nat.mul_assoc,←Nat.mul_add,e]
  have j:t*u*a=v*s*a+a:=by rw[Nat.mul_comm t u,c,Nat.add_mul,Nat.one_mul]
  have k:t*v*b=v*t*b:=by rw[Nat.mul_comm t v]
  omega
 ·have f:s*x+s*v*b=s*u*a:=by rw[Nat.mul_assoc,Nat.mul_assoc,←Nat.mul_add,d]
  have i:u*y+u*s*a=u*t*b:=by rw[Nat.mul_assoc,Nat.mul_assoc,←Nat.mul_add,e]
  have j:u*t*b=v*s*b+b:=by rw[c,Nat.add_mul,Nat.one_mul]
  have k:s*u*a=u*s*a:=by rw[Nat.mul_comm s u]
  have l:s*v*b=v*s*b:=by rw[Nat.mul_comm s v]
  omega
theorem pF {A B a b p q r s:Nat} (hA:p*a+q*b=A) (hB:r*a+s*b=B) (c:1≤p) (hq:1≤q) (d:1≤r) (e:b≤a):2*(a*b)≤A*B∧a≤A:=by
 have j:=Nat.mul_le_mul_right a c
 have k:=Nat.mul_le_mul_right b hq
 have l:=Nat.mul_le_mul_right a d
 have f:2*b≤A:=by omega
 have i:a≤B:=by omega
 have:=Nat.mul_le_mul f i
 refine⟨?_,by omega⟩
 rw[Nat.mul_comm a b,←Nat.mul_assoc];exact this
theorem Ahk {u0 u1 v0 v1:Nat} {e:Bool}:setCells [(.int .u64 0),(.int .u64 0),(.int .u64 0),(.int .u64 0),(.bool false)] 0 (zT u0 u1 v0 v1 e)=zT u0 u1 v0 v1 e:=rfl
theorem u5 {N:Nat}:∀ (k c A B:Nat) (d f:Bool),k<c→A*B<2 ^ k→B≤A→fit (2*(Af A).length+4) N→∃ S,Ad S∧val S=Nat.gcd A B∧∀ K:Nat→LA→O R,Dh N K c (Aa (Af A)) (Af A).length d (Aa (Af B)) (Af B).length f=K (Af (Nat.gcd A B)).length (Aa S):=by
 have base:∀ (c A:Nat) (d f:Bool),fit (2*(Af A).length+4) N→∃ S,Ad S∧val S=Nat.gcd A 0∧∀ K:Nat→LA→O R,Dh N K (c+1) (Aa (Af A)) (Af A).length d (Aa (Af 0)) (Af 0).length f=K (Af (Nat.gcd A 0)).length (Aa S):=by
  intro c A d f j
  refine⟨Af A,Ab _,by rw[Ac,Nat.gcd_zero_right],fun K=>?_⟩
  rw[Dh];unfold Ta
  rw[Cc,show decide ((((([]:List Nat).length:Nat)):Int)>0)=false by decide,cf,Rl rfl (Ab _) (j.le (by omega)),Ac,Nat.gcd_zero_right]
 intro k
 induction k with
 | zero =>
  intro c A B d f U n m j
  obtain⟨c,rfl⟩:∃ F,c=F+1:=⟨c - 1,by omega⟩
  have hy:B=0:=by
   rcases Nat.eq_zero_or_pos B with h | h
   ·exact h
   ·have h3:=Nat.mul_le_mul_left A (show 1≤B by omega)
    rw[Nat.pow_zero] at n;omega
  subst hy
  exact base c A d f j
 | succ k V =>
  intro c A B d f U n m j
  have h1:=j.1;have h2:=j.2
  obtain⟨c,rfl⟩:∃ F,c=F+1:=⟨c - 1,by omega⟩
  rcases Nat.eq_zero_or_pos B with h | h
  ·subst h;exact base c A d f j
  have X:=A4 m
  have hbl:(Af B).length≠0:=fun h0=>by have:=A8.1 h0;omega
  have C:decide ((((Af B).length:Nat):Int)>0)=true:=by rw[decide_eq_true_eq];omega
  by_cases D:(Af A).length≤2
  ·have av:=UE D
   obtain⟨S,s1,s2,s⟩:=Aa9 (R:=R) (N:=N) (by omega) 128 N A B (by omega) (by have:=Nat.mul_lt_mul'' av (Nat.lt_of_le_of_lt m av);exact this) m av
   refine⟨S,s1,s2,fun K=>?_⟩
   rw[Dh];unfold Ta
   rw[C,ct,show decide ((((Af A).length:Nat):Int)≤2)=true by rw[decide_eq_true_eq];omega,ct,Xs rfl (Ab _) D (by omega),Xs rfl (Ab _) (by omega) (by omega),Ac,Ac]
   exact s _ K
  ·have Y:decide ((((Af A).length:Nat):Int)≤2)=false:=by rw[decide_eq_false_iff_not];omega
   obtain⟨a1,a2,i,l,e,v,r2,r3,r4,r5,r6⟩:=rP (R:=R) (N:=N) (a:=Af A) (b:=Af B) (t:=false) (o:=d) (t':=false) (o':=f) rfl rfl (Ab _) (Ab _) (by omega) (iQ _ _) X (by rw[Ac,Ac];exact m) (j.le (by omega))
   rw[Ac,Ac] at v
   have start:∀ K:Nat→LA→O R,Dh N K (c+1) (Aa (Af A)) (Af A).length d (Aa (Af B)) (Af B).length f=cond ((i:Int)==0) (C5 N (Aa (Af A)) (Af A).length false d (Aa (Af B)) (Af B).length false f (fun bm ag bn bo ar=>(Dh N K c (Aa (Af B)) (Af B).length f (List.take (ag*1) ar) ag false))) (cond e (Dz N (Aa (Af A)) (Af A).length false d (a1:Int) (Aa (Af B)) (Af B).length false f (i:Int) (fun ah ax=>Dz N (Aa (Af B)) (Af B).length false f (l:Int) (Aa (Af A)) (Af A).length false d (a2:Int) (fun ai ba=>(Dh N K c (List.take (ah*1) ax) ah false (List.take (ai*1) ba) ai false)))) (Dz N (Aa (Af B)) (Af B).length false f (i:Int) (Aa (Af A)) (Af A).length false d (a1:Int) (fun aj bd=>Dz N (Aa (Af A)) (Af A).length false d (a2:Int) (Aa (Af B)) (Af B).length false f (l:Int) (fun ak bg=>(Dh N K c (List.take (aj*1) bd) aj false (List.take (ak*1) bg) ak false))))):=by
    intro K
    rw[Dh];unfold Ta
    rw[C,ct,Y,cf,r6,Ahk]
    rfl
   by_cases u:i=0
   ·obtain⟨Sq,Sr,q1,q2,q3,q4,q5⟩:=U4 (R:=R) (N:=N) (a:=Af A) (b:=Af B) (t:=false) (o:=d) (t':=false) (o':=f) rfl rfl (Ab _) (Ab _) (by rw[Ac];omega) (j.le (by omega))
    rw[Ac,Ac] at q2 q4 q5
    have hm:=Nat.mod_lt A h
    have hh:=FX (show 1≤B by omega) m
    obtain⟨S,s1,s2,s⟩:=V c B (A%B) f false (by omega) (by rw[Nat.pow_succ] at n;omega) (by omega) (j.le (by omega))
    have z:Nat.gcd B (A%B)=Nat.gcd A B:=by rw[Nat.gcd_comm,←Nat.gcd_rec,Nat.gcd_comm]
    rw[z] at s2 s
    refine⟨S,s1,s2,fun K=>?_⟩
    have tk:List.take ((Af (A%B)).length*1) (Aa Sr)=Aa (Af (A%B)):=by rw[←q4,H1 q3]
    rw[start,Ajr u,ct,q5,tk,s]
   ·rcases v with v | ⟨p1,p2,v⟩
    ·exact absurd v u
    cases e with
    | true =>
     obtain⟨c1,c2,c3,G⟩:=v
     obtain⟨S1,t1,t2,t3⟩:=Qv (R:=R) (N:=N) (a:=Af A) (b:=Af B) (x:=a1) (y:=i) (t:=false) (o:=d) (t':=false) (o':=f) rfl rfl (Ab _) (Ab _) r2 r4 (by rw[Ac,Ac,Nat.mul_comm,Nat.mul_comm A];exact c1) (j.le (by omega))
     obtain⟨S2,w1,I,L⟩:=Qv (R:=R) (N:=N) (a:=Af B) (b:=Af A) (x:=l) (y:=a2) (t:=false) (o:=f) (t':=false) (o':=d) rfl rfl (Ab _) (Ab _) r5 r3 (by rw[Ac,Ac,Nat.mul_comm,Nat.mul_comm B];exact c2) (j.le (by omega))
     rw[Ac,Ac] at t2 t3 I L
     have M:(A*a1 - B*i)+i*B=a1*A:=by rw[Nat.mul_comm A,Nat.mul_comm B];omega
     have T:(B*l - A*a2)+a2*A=l*B:=by rw[Nat.mul_comm A,Nat.mul_comm B];omega
     have q:B*l - A*a2≤A*a1 - B*i:=by rw[Nat.add_mul,Nat.add_mul] at c3;omega
     obtain⟨i1,i2⟩:=pE M T G
     have z:=uF M T G
     obtain⟨i3,i4⟩:=pF i1 i2 p2 (by omega) p1 q
     have hl:=A4 i4
     obtain⟨S,s1,s2,s⟩:=V c (A*a1 - B*i) (B*l - A*a2) false false (by omega) (by rw[Nat.pow_succ] at n;omega) q (j.le (by omega))
     rw[z] at s2 s
     refine⟨S,s1,s2,fun K=>?_⟩
     have tk1:List.take ((Af (A*a1 - B*i)).length*1) (Aa S1)=Aa (Af (A*a1 - B*i)):=by rw[←t2,H1 t1]
     have mV:List.take ((Af (B*l - A*a2)).length*1) (Aa S2)=Aa (Af (B*l - A*a2)):=by rw[←I,H1 w1]
     rw[start,mU u,cf,ct,t3,L,tk1,mV,s]
    | false =>
     obtain⟨c1,c2,c3,G⟩:=v
     obtain⟨S1,t1,t2,t3⟩:=Qv (R:=R) (N:=N) (a:=Af B) (b:=Af A) (x:=i) (y:=a1) (t:=false) (o:=f) (t':=false) (o':=d) rfl rfl (Ab _) (Ab _) r4 r2 (by rw[Ac,Ac,Nat.mul_comm,Nat.mul_comm B];exact c1) (j.le (by omega))
     obtain⟨S2,w1,I,L⟩:=Qv (R:=R) (N:=N) (a:=Af A) (b:=Af B) (x:=a2) (y:=l) (t:=false) (o:=d) (t':=false) (o':=f) rfl rfl (Ab _) (Ab _) r3 r5 (by rw[Ac,Ac,Nat.mul_comm,Nat.mul_comm A];exact c2) (j.le (by omega))
     rw[Ac,Ac] at t2 t3 I L
     have M:(B*i - A*a1)+a1*A=i*B:=by rw[Nat.mul_comm A,Nat.mul_comm B];omega
     have T:(A*a2 - B*l)+l*B=a2*A:=by rw[Nat.mul_comm A,Nat.mul_comm B];omega
     have q:A*a2 - B*l≤B*i - A*a1:=by rw[Nat.add_mul,Nat.add_mul] at c3;omega
     obtain⟨i1,i2⟩:=pE T M G
     have z:=uF T M G
     rw[Nat.gcd_comm] at z
     rw[Nat.add_comm] at i1 i2
     obtain⟨i3,i4⟩:=pF i1 i2 p2 (by omega) p1 q
     have hl:=A4 i4
     obtain⟨S,s1,s2,s⟩:=V c (B*i - A*a1) (A*a2 - B*l) false false (by omega) (by rw[Nat.pow_succ] at n;omega) q (j.le (by omega))
     rw[z] at s2 s
     refine⟨S,s1,s2,fun K=>?_⟩
     have tk1:List.take ((Af (B*i - A*a1)).length*1) (Aa S1)=Aa (Af (B*i - A*a1)):=by rw[←t2,H1 t1]
     have mV:List.take ((Af (A*a2 - B*l)).length*1) (Aa S2)=Aa (Af (A*a2 - B*l)):=by rw[←I,H1 w1]
     rw[start,mU u,cf,cf,t3,L,tk1,mV,s]
theorem u6 (n m:Nat):4294967296 ^ n*4294967296 ^ m=2 ^ (32*(n+m)):=by
 rw[←Nat.pow_add,show(4294967296:Nat)=2 ^ 32 by rfl,←Nat.pow_mul]
theorem Aeg {N:Nat} {a b:List Nat} {n m:Nat} {t o t' o':Bool} (k:n=a.length) (l:m=b.length) (f:Ad a) (i:Ad b) (d:fit (2*(a.length+b.length)+4) N) :
  ∃ S,Ad S∧val S=Nat.gcd (val a) (val b)∧∀ K:Nat→LA→O R,FU N (Aa a) n t o (Aa b) m t' o' K=K (Af (Nat.gcd (val a) (val b))).length (Aa S):=by
 have q:=d.1;have s:=d.2
 have la:=(A3 f).2
 have lb:=(A3 i).2
 have c:val a*val b<2 ^ (32*(a.length+b.length)):=by rw[←u6];exact Nat.mul_lt_mul'' (Be f) (Be i)
 have start:∀ K:Nat→LA→O R,FU N (Aa a) n t o (Aa b) m t' o' K=cond (decide (Fo (val a) (val b)<0)) (Dh N K N (Aa (Af (val b))) (Af (val b)).length o' (Aa (Af (val a))) (Af (val a)).length o) (Dh N K N (Aa (Af (val a))) (Af (val a)).length o (Aa (Af (val b))) (Af (val b)).length o'):=by
  intro K
  rw[jL];unfold gH JZ RF
  dsimp only
  rw[Bf k f (d.le (by omega)),Bf l i (d.le (by omega)),Rk rfl rfl (Ab _) (Ab _) (d.le (by omega)),Ac,Ac]
 by_cases e:val a<val b
 ·obtain⟨S,s1,s2,j⟩:=u5 (R:=R) (N:=N) (32*(a.length+b.length)) N (val b) (val a) o' o (by omega) (by rw[Nat.mul_comm];exact c) (by omega) (d.le (by omega))
  rw[Nat.gcd_comm] at s2
  refine⟨S,s1,s2,fun K=>?_⟩
  rw[start,show decide (Fo (val a) (val b)<0)=true by (unfold Fo;rw[if_pos e];rfl),ct,j,Nat.gcd_comm]
 ·obtain⟨S,s1,s2,j⟩:=u5 (R:=R) (N:=N) (32*(a.length+b.length)) N (val a) (val b) o o' (by omega) c (by omega) (d.le (by omega))
  refine⟨S,s1,s2,fun K=>?_⟩
  rw[start,show decide (Fo (val a) (val b)<0)=false by (unfold Fo;rw[if_neg e];split<;>rfl),cf,j]
end
end Gx

namespace Gx
open Go Go.Proofs
open IntKind (wrap)
set_option maxRecDepth 100000
noncomputable section
variable {R:Type} (N:Nat)
def RG (d:LA) (f:Bool) (g:LA) (i:Nat) (m l:Bool) (r0:LA→O R):O R :=
 (Pa d fun v=>(Kk 1 (d.drop 1) fun w x=>(cond (Nat.beq (d.length) 2) (T' N [(.bool v),(.imm w x 1 false f)] (f||false) (fun q c o=>(Mn N g i false l (fun e p=>(cond (((c:Nat):Int)==0) (r0 [(.bool false),.nsl,(.imm [(.int .u32 1)] 1 1 false false)]) (FU N (o.take (c*1)) c false true (p.take (e*1)) e false true (fun b n=>(cond ((((b:Nat):Int) != 1)==false) (cond (Aj 0 b) (Bw .u32 n fun y=>(cond (cond false true (y != 1)) (C5 N (o.take (c*1)) c false true (n.take (b*1)) b false true (fun r ae af z ag=>(C5 N (p.take (e*1)) e false true (n.take (b*1)) b false true (fun s ah ai aa aj=>(r0 [(.bool q),(.imm (z.take (r*1)) r 1 false false),(.imm (aa.take (s*1)) s 1 false false)]))))) (r0 [(.bool q),(.imm (o.take (c*1)) c 1 false false),(.imm (p.take (e*1)) e 1 false false)]))) none) (C5 N (o.take (c*1)) c false true (n.take (b*1)) b false true (fun t ak al ab am=>(C5 N (p.take (e*1)) e false true (n.take (b*1)) b false true (fun u an ao ac ap=>(r0 [(.bool q),(.imm (ab.take (t*1)) t 1 false false),(.imm (ac.take (u*1)) u 1 false false)]))))))))))))) none)))
def Oa:=(Ag (@RG R)).1
theorem MR:@Oa R=@RG R:=(Ag _).2
def rQ:Hints:={ H:=hL,modes:=[(3,0)],cob:=[2] }
def u7:D8:=[(211,xb N),(212,N1 N),(213,Aa5 N),(134,Zv N)]
def UR (F:KF R):LA→O R:=(fun ad=>F (.pagg ad false) [])
theorem US (d:LA) (f:Bool) (g:LA) (i:Nat) (m l:Bool) (F:KF R):Cd (u7 N) rQ N 129 [(.pagg d f),(.imm g i 1 m l)] [] F=(Oa N d f g i m l (UR F)):=by
 rw[MR]
 kernel_rfl
def MS (a:LA) (h:Ah) (k:KF R):O R :=
 match a,h with
 | [(.pagg d f),(.imm g i 1 m l)],[]=>(Oa N d f g i m l (UR k))
 | _,_=>none
theorem UT:An N 129 @MS:=by
 intro R Q a h k j;unfold MS;split;exact As (US ..) (US ..) ⟨xc N,N2 N,Aa6 N,Zw N,trivial⟩;exact Av
def UU:=At (UT N)
def UV:=Cg (UT N)
def UW (b:LA) (c:Bool) (r0:LA→O R):O R :=
 (cond (Nat.ble 3 (b.length)) (Kr N (b.take 3) c (fun f g i=>(cond i (Gq N f g (fun d=>(cond ((Nat.beq 0 0)&&((Nat.beq (d.length) 3)&&(Nat.beq 3 3))) (cond (Nat.ble 3 (d.length)) (r0 (d.take 3)) none) none))) (cond (Nat.ble 3 (b.length)) (Pc N (b.take 3) c (fun l m n o p=>(Oa N l m n o false p (fun e=>(cond ((Nat.beq 0 0)&&((Nat.beq (e.length) 3)&&(Nat.beq 3 3))) (cond (Nat.ble 3 (e.length)) (r0 (e.take 3)) none) none))))) none)))) none)
def J_:=(Ag (@UW R)).1
theorem FY:@J_ R=@UW R:=(Ag _).2
def Aba:D8:=[(127,ch N),(128,FI N),(130,FK N),(129,UU N)]
def jP (F:KF R):LA→O R:=(fun q=>F (.pagg q false) [])
theorem jQ (b:LA) (c:Bool) (F:KF R):Cd (Aba N) Hl N 62 [(.pagg b c)] [] F=(J_ N b c (jP F)):=by
 rw[FY]
 kernel_rfl
def cy (a:LA) (h:Ah) (k:KF R):O R :=
 match a,h with
 | [(.pagg b c)],[]=>(J_ N b c (jP k))
 | _,_=>none
theorem jR:An N 62 @cy:=by
 intro R Q a h k j;unfold cy;split;exact As (jQ ..) (jQ ..) ⟨ci N,FJ N,FL N,UV N,trivial⟩;exact Av
def jS:=At (jR N)
def jT:=Cg (jR N)
def gJ (c:LA) (e:Bool) (d:LA) (b:Bool) (r0:LA→Bool→O R):O R :=
 (Pa c fun m=>(Kk 1 (c.drop 1) fun n o=>(cond (Nat.beq (c.length) 2) (Pa d fun g=>(Kk 1 (d.drop 1) fun i l=>(cond (Nat.beq (d.length) 2) (Jx N [(.bool g),(.imm i l 1 false b)] (b||false) (fun p=>(cond (p==0) (r0 [(.bool false),.nsl,.nsl] false) (J_ N [(.bool (!(m==g))),(.imm n o 1 false e),(.imm i l 1 false b)] (e||(b||false)) (fun f=>(cond ((Nat.beq 0 0)&&((Nat.beq (f.length) 3)&&(Nat.beq 3 3))) (cond (Nat.ble 3 (f.length)) (r0 (f.take 3) true) none) none)))))) none))) none)))
def a_:=(Ag (@gJ R)).1
theorem RH:@a_ R=@gJ R:=(Ag _).2
def Abb:Hints:={ H:=hL,modes:=[(3,0),(0,0)],cob:=[2,3] }
def Aeh:D8:=[(125,Si N),(62,jS N)]
def pG (F:KF R):LA→Bool→O R:=(fun q r=>F (.tup [(.pagg q false),(.bool r)]) [])
theorem pH (c:LA) (e:Bool) (d:LA) (b:Bool) (F:KF R):Cd (Aeh N) Abb N 82 [(.pagg c e),(.pagg d b)] [] F=(a_ N c e d b (pG F)):=by
 rw[RH]
 kernel_rfl
def jU (a:LA) (h:Ah) (k:KF R):O R :=
 match a,h with
 | [(.pagg c e),(.pagg d b)],[]=>(a_ N c e d b (pG k))
 | _,_=>none
theorem pI:An N 82 @jU:=by
 intro R Q a h k j;unfold jU;split;exact As (pH ..) (pH ..) ⟨Sj N,jT N,trivial⟩;exact Av
def pJ:=At (pI N)
def pK:=Cg (pI N)
def Qw (N:Nat) (r0:Nat→LA→O R) (d:LA) (c:Nat) (f e:Bool) (k0:Int→O R) (b:Int):O R :=
 (cond ((decide (b>0))==true) (cond (Aj (wrap .i64 (b - 1)) c) (Bw .u32 (d.drop (((wrap .i64 (b - 1)).toNat)*1)) fun g=>(cond (cond true (g==0) false) (k0 (wrap .i64 (b - 1))) (cond ((decide ((0:Int)≤(0:Int)))&&((decide (0≤b))&&((decide (b≤((c:Nat):Int)))&&(decide (((c:Nat):Int)≤((c:Nat):Int)))))) (cond ((!e)||(Cw (d.take ((b.toNat)*1)))) (cond ((Nat.ble (0+(b.toNat)) 140737488355328)&&(Nat.ble ((0+(b.toNat))*4) 140737488355328)) (r0 (0+(b.toNat)) (d.take ((b.toNat)*1))) none) none) none))) none) (cond ((decide ((0:Int)≤(0:Int)))&&((decide (0≤b))&&((decide (b≤((c:Nat):Int)))&&(decide (((c:Nat):Int)≤((c:Nat):Int)))))) (cond ((!e)||(Cw (d.take ((b.toNat)*1)))) (cond ((Nat.ble (0+(b.toNat)) 140737488355328)&&(Nat.ble ((0+(b.toNat))*4) 140737488355328)) (r0 (0+(b.toNat)) (d.take ((b.toNat)*1))) none) none) none))
def Iu (r0:Nat→LA→O R) (d:LA) (c:Nat) (f e:Bool):Nat→Int→O R
 | 0,_=>none
 | n+1,b=>(Qw N r0 d c f e (Iu r0 d c f e n) b)
def X7 (N:Nat) (r0:Nat→LA→O R) (q0:Int→O R) (d:LA) (c:Nat) (f e:Bool):O R :=
 (q0 ((c:Nat):Int))
def Ck:=(Ag (fun (N:Nat) (d:LA) (c:Nat) (f e:Bool) (r0:Nat→LA→O R)=>(X7 N r0 (fun b=>(Iu N r0 d c f e N b)) d c f e))).1
theorem Z0 (d c f e r0):(@Ck R N d c f e r0)=(X7 N r0 (fun b=>(Iu N r0 d c f e N b)) d c f e):=by rw[Ck,(Ag _).2]
def u9 (F:KF R):=Ov Tryz.f150 cU [] [] N F
def Pd (F:KF R):Nat→LA→O R:=(fun i l=>F (.own 300000 0 i) (hq [(bQ 1 l)]))
def u_ (d:LA) (c:Nat) (f e:Bool) (b:Int):St:=⟨[(0,(.imm d c 1 f e)),(3,(iv b))],[]⟩
def ua (F:KF R):=u9 N F [1,1,0,0] []
theorem FZ (F:KF R) (d:LA) (c:Nat) (f e:Bool):∀ (n:Nat) (b:Int),Au (ua N F) n (u_ d c f e b)=(Iu N (Pd F) d c f e n b)
 | 0,_=>by kernel_rfl
 | n+1,b=>Eq.trans (by kernel_rfl) (Da (Qw N (Pd F) d c f e · b) (funext fun b=>(FZ F d c f e n b)):_)
theorem cz (d:LA) (c:Nat) (f e:Bool) (F:KF R):Cd [] cU N 150 [(.imm d c 1 f e)] [] F=(Ck N d c f e (Pd F)):=by
 rw[Z0]
 exact Eq.trans (by kernel_rfl) (Da (X7 N (Pd F) · d c f e) (funext fun b=>(Ap ..).trans (FZ N F d c f e N b)):_)
def UX (a:LA) (h:Ah) (k:KF R):O R :=
 match a,h with
 | [(.imm d c 1 f e)],[]=>(Ck N d c f e (Pd k))
 | _,_=>none
theorem dA:An N 150 @UX:=by
 intro R Q a h k j;unfold UX;split;exact As (cz ..) (cz ..) trivial;exact Av
def Ek:=At (dA N)
def El:=Cg (dA N)
def P0 (b:Int) (r0:Nat→LA→O R):O R :=
 (Ck N [(.int .u32 (wrap .u32 b)),(.int .u32 (wrap .u32 (Int.fdiv b (2 ^ 32))))] 2 false true (fun c d=>(r0 c d)))
def Dp:=(Ag (@P0 R)).1
theorem Tb:@Dp R=@P0 R:=(Ag _).2
def bA:D8:=[(150,Ek N)]
def U5 (F:KF R):Nat→LA→O R:=(fun e f=>F (.own 300000 0 e) (hq [(bQ 1 f)]))
theorem U6 (b:Int) (F:KF R):Cd (bA N) Adt N 88 [(.int .u64 b)] [] F=(Dp N b (U5 F)):=by
 rw[Tb]
 kernel_rfl
def Tc (a:LA) (h:Ah) (k:KF R):O R :=
 match a,h with
 | [(.int .u64 b)],[]=>(Dp N b (U5 k))
 | _,_=>none
theorem U7:An N 88 @Tc:=by
 intro R Q a h k j;unfold Tc;split;exact As (U6 ..) (U6 ..) ⟨El N,trivial⟩;exact Av
def U8:=At (U7 N)
def U9:=Cg (U7 N)
def bB (b:Bool) (c:LA) (d:Nat) (f e:Bool) (r0:LA→O R):O R :=
 (Ck N c d false e (fun g i=>(cond (b==true) (r0 [(.bool (cond true (decide (((g:Nat):Int)>0)) false)),(.imm (i.take (g*1)) g 1 false false)]) (r0 [(.bool false),(.imm (i.take (g*1)) g 1 false false)]))))
def Dc:=(Ag (@bB R)).1
theorem UY:@Dc R=@bB R:=(Ag _).2
def xg:D8:=[(150,Ek N)]
def dB (F:KF R):LA→O R:=(fun l=>F (.pagg l false) [])
theorem dC (b:Bool) (c:LA) (d:Nat) (f e:Bool) (F:KF R):Cd (xg N) Hl N 83 [(.bool b),(.imm c d 1 f e)] [] F=(Dc N b c d f e (dB F)):=by
 rw[UY]
 kernel_rfl
def UZ (a:LA) (h:Ah) (k:KF R):O R :=
 match a,h with
 | [(.bool b),(.imm c d 1 f e)],[]=>(Dc N b c d f e (dB k))
 | _,_=>none
theorem dD:An N 83 @UZ:=by
 intro R Q a h k j;unfold UZ;split;exact As (dC ..) (dC ..) ⟨El N,trivial⟩;exact Av
def Em:=At (dD N)
def En:=Cg (dD N)
def Z1 (b:Int) (r0:LA→O R):O R :=
 (cond (decide (b<0)) (Dp N (wrap .u64 ((wrap .u64 (wrap .i64 ((0:Int) - (wrap .i64 (b+1)))))+1)) (fun e g=>(Dc N true (g.take (e*1)) e false true (fun c=>(cond ((Nat.beq 0 0)&&((Nat.beq (c.length) 2)&&(Nat.beq 2 2))) (cond (Nat.ble 2 (c.length)) (r0 (c.take 2)) none) none))))) (Dp N (wrap .u64 b) (fun f i=>(Dc N false (i.take (f*1)) f false true (fun d=>(cond ((Nat.beq 0 0)&&((Nat.beq (d.length) 2)&&(Nat.beq 2 2))) (cond (Nat.ble 2 (d.length)) (r0 (d.take 2)) none) none))))))
def B5:=(Ag (@Z1 R)).1
theorem CA:@B5 R=@Z1 R:=(Ag _).2
def nA:D8:=[(88,U8 N),(83,Em N)]
def F_ (F:KF R):LA→O R:=(fun l=>F (.pagg l false) [])
theorem F' (b:Int) (F:KF R):Cd (nA N) Hl N 32 [(iv b)] [] F=(B5 N b (F_ F)):=by
 rw[CA]
 kernel_rfl
def CB (a:LA) (h:Ah) (k:KF R):O R :=
 match a,h with
 | [(.int .i64 b)],[]=>(B5 N b (F_ k))
 | _,_=>none
theorem GA:An N 32 @CB:=by
 intro R Q a h k j;unfold CB;split;exact As (F' ..) (F' ..) ⟨U9 N,En N,trivial⟩;exact Av
def E2:=At (GA N)
def E3:=Cg (GA N)
def bC (b:LA) (c:Bool) (r0:LA→O R):O R :=
 (Pa b fun e=>(Kk 1 (b.drop 1) fun f g=>(Dc N e f g false c (fun d=>(cond ((Nat.beq 0 0)&&((Nat.beq (d.length) 2)&&(Nat.beq 2 2))) (cond (Nat.ble 2 (d.length)) (r0 (d.take 2)) none) none)))))
def Td:=(Ag (@bC R)).1
theorem U_:@Td R=@bC R:=(Ag _).2
def xh:D8:=[(83,Em N)]
def dE (F:KF R):LA→O R:=(fun i=>F (.pagg i false) [])
theorem dF (b:LA) (c:Bool) (F:KF R):Cd (xh N) Hl N 26 [(.pagg b c)] [] F=(Td N b c (dE F)):=by
 rw[U_]
 kernel_rfl
def VA (a:LA) (h:Ah) (k:KF R):O R :=
 match a,h with
 | [(.pagg b c)],[]=>(Td N b c (dE k))
 | _,_=>none
theorem dG:An N 26 @VA:=by
 intro R Q a h k j;unfold VA;split;exact As (dF ..) (dF ..) ⟨En N,trivial⟩;exact Av
def dH:=At (dG N)
def dI:=Cg (dG N)
def bD (b:LA) (c:Bool) (r0:Int→O R):O R :=
 (cond (Nat.ble 2 (b.length)) (Td N (b.take 2) c (fun d=>(cond ((Nat.beq (d.length) 2)&&((Nat.ble 2 (b.length))&&(!false))) (Pa (setCells b 0 d) fun e=>(cond e (r0 (-1)) (Kk 1 ((setCells b 0 d).drop 1) fun i f=>(cond (((f:Nat):Int)==0) (r0 0) (r0 1))))) none))) none)
def Pe:=(Ag (@bD R)).1
theorem VB:@Pe R=@bD R:=(Ag _).2
def xi:D8:=[(26,dH N)]
def dJ (F:KF R):Int→O R:=(fun g=>F (iv g) [])
theorem dK (b:LA) (c:Bool) (F:KF R):Cd (xi N) C1 N 138 [(.pagg b c)] [] F=(Pe N b c (dJ F)):=by
 rw[VB]
 kernel_rfl
def VC (a:LA) (h:Ah) (k:KF R):O R :=
 match a,h with
 | [(.pagg b c)],[]=>(Pe N b c (dJ k))
 | _,_=>none
theorem dL:An N 138 @VC:=by
 intro R Q a h k j;unfold VC;split;exact As (dK ..) (dK ..) ⟨dI N,trivial⟩;exact Av
def GB:=At (dL N)
def GC:=Cg (dL N)
def bE (N:Nat) (r0:LA→O R):O R :=
 (r0 [(.bool false),(.imm [] 0 1 false false),(.imm [(.int .u32 1)] 1 1 false false)])
def GD:=(Ag (@bE R)).1
theorem VD:@GD R=@bE R:=(Ag _).2
def dM (F:KF R):LA→O R:=(fun b=>F (.pagg b false) [])
theorem dN (F:KF R):Cd [] Hl N 151 [] [] F=(GD N (dM F)):=by
 rw[VD]
 kernel_rfl
def VE (a:LA) (h:Ah) (k:KF R):O R :=
 match a,h with
 | [],[]=>(GD N (dM k))
 | _,_=>none
theorem dO:An N 151 @VE:=by
 intro R Q a h k j;unfold VE;split;exact As (dN ..) (dN ..) trivial;exact Av
def ud:=At (dO N)
def ue:=Cg (dO N)
def O0 (N:Nat) (r0:Bool→O R) (d:LA) (b:Nat) (f g:Bool) (e:LA) (c:Nat) (i l:Bool) (k0:Int→O R) (m:Int):O R :=
 (cond (decide (m<((b:Nat):Int))) (cond (Aj m b) (Bw .u32 (d.drop ((m.toNat)*1)) fun o=>(cond (Aj m c) (Bw .u32 (e.drop ((m.toNat)*1)) fun p=>(cond (o != p) (r0 false) (k0 (wrap .i64 (m+1))))) none)) none) (r0 true))
def Ha (r0:Bool→O R) (d:LA) (b:Nat) (f g:Bool) (e:LA) (c:Nat) (i l:Bool):Nat→Int→O R
 | 0,_=>none
 | n+1,m=>(O0 N r0 d b f g e c i l (Ha r0 d b f g e c i l n) m)
def Z2 (N:Nat) (r0:Bool→O R) (q0:Int→O R) (d:LA) (b:Nat) (f g:Bool) (e:LA) (c:Nat) (i l:Bool):O R :=
 (cond (((b:Nat):Int) != ((c:Nat):Int)) (r0 false) (q0 0))
def Lv:=(Ag (fun (N:Nat) (d:LA) (b:Nat) (f g:Bool) (e:LA) (c:Nat) (i l:Bool) (r0:Bool→O R)=>(Z2 N r0 (fun m=>(Ha N r0 d b f g e c i l N m)) d b f g e c i l))).1
theorem MT (d b f g e c i l r0):(@Lv R N d b f g e c i l r0)=(Z2 N r0 (fun m=>(Ha N r0 d b f g e c i l N m)) d b f g e c i l):=by rw[Lv,(Ag _).2]
def VF:Hints:={ H:=(hS hL (hS hL (hS (hS hL (hS (hP [0,1,5] hL) hL)) hL))) }
def rR (F:KF R):=Ov Tryz.f65 VF [] [] N F
def Mv (F:KF R):Bool→O R:=(fun q=>F (.bool q) [])
def rS (d:LA) (b:Nat) (f g:Bool) (e:LA) (c:Nat) (i l:Bool) (m:Int):St:=⟨[(0,(.imm d b 1 f g)),(1,(.imm e c 1 i l)),(5,(iv m))],[]⟩
def rT (F:KF R):=rR N F [1,1,0,1,0] []
theorem CC (F:KF R) (d:LA) (b:Nat) (f g:Bool) (e:LA) (c:Nat) (i l:Bool):∀ (n:Nat) (m:Int),Au (rT N F) n (rS d b f g e c i l m)=(Ha N (Mv F) d b f g e c i l n m)
 | 0,_=>by kernel_rfl
 | n+1,m=>Eq.trans (by kernel_rfl) (Da (O0 N (Mv F) d b f g e c i l · m) (funext fun m=>(CC F d b f g e c i l n m)):_)
theorem VG (d:LA) (b:Nat) (f g:Bool) (e:LA) (c:Nat) (i l:Bool) (F:KF R):Cd [] VF N 65 [(.imm d b 1 f g),(.imm e c 1 i l)] [] F=(Lv N d b f g e c i l (Mv F)):=by
 rw[MT]
 exact Eq.trans (by kernel_rfl) (Da (Z2 N (Mv F) · d b f g e c i l) (funext fun m=>(Ap ..).trans (CC N F d b f g e c i l N m)):_)
def MU (a:LA) (h:Ah) (k:KF R):O R :=
 match a,h with
 | [(.imm d b 1 f g),(.imm e c 1 i l)],[]=>(Lv N d b f g e c i l (Mv k))
 | _,_=>none
theorem VH:An N 65 @MU:=by
 intro R Q a h k j;unfold MU;split;exact As (VG ..) (VG ..) trivial;exact Av
def Z3:=At (VH N)
def Z4:=Cg (VH N)
def Dq (N:Nat) (r0:Int→Bool→O R) (b:Nat) (d:LA) (k0:Int→Int→O R) (e c:Int):O R :=
 (cond (decide (c≥0)) (cond (Aj c b) (Bw .u32 (d.drop (0+((c.toNat)*1))) fun m=>(k0 (Lp .u64 (wrap .u64 (e*2 ^ 32)) (wrap .u64 m)) (wrap .i64 (c - 1)))) none) (r0 e true))
def C0 (r0:Int→Bool→O R) (b:Nat) (d:LA):Nat→Int→Int→O R
 | 0,_,_=>none
 | n+1,e,c=>(Dq N r0 b d (C0 r0 b d n) e c)
def Va (r0:Int→Bool→O R) (q0:Nat→LA→Int→Int→O R) (f:LA) (g:Nat) (l i:Bool):O R :=
 (Ck N f g false i (fun b d=>(cond (decide (((b:Nat):Int)>2)) (r0 0 false) (q0 b d 0 (wrap .i64 (((b:Nat):Int) - 1))))))
def Lg:=(Ag (fun (N:Nat) (f:LA) (g:Nat) (l i:Bool) (r0:Int→Bool→O R)=>(Va N r0 (fun b d e c=>(C0 N r0 b d N e c)) f g l i))).1
theorem GE (f g l i r0):(@Lg R N f g l i r0)=(Va N r0 (fun b d e c=>(C0 N r0 b d N e c)) f g l i):=by rw[Lg,(Ag _).2]
def MV:Hints:={ H:=(hS hL (hS hL (hS hL (hS hL (hS (hS hL (hS (hP [0,4,5] hL) hL)) hL))))) }
def VI:D8:=[(150,Ek N)]
def nB (F:KF R):=Ov Tryz.f89 MV (VI N) [] N F
def Kt (F:KF R):Int→Bool→O R:=(fun o p=>F (.tup [(.int .u64 o),(.bool p)]) [])
def nC (b:Nat) (d:LA) (e c:Int):St:=⟨[(0,(.own 300000 0 b)),(4,(.int .u64 e)),(5,(iv c))],(hq [(bQ 1 d)])⟩
def nD (F:KF R):=nB N F [1,1,1,1,0,1,0] []
theorem X8 (F:KF R) (b:Nat) (d:LA):∀ (n:Nat) (e c:Int),Au (nD N F) n (nC b d e c)=(C0 N (Kt F) b d n e c)
 | 0,_,_=>by kernel_rfl
 | n+1,e,c=>Eq.trans (by kernel_rfl) (Da (Dq N (Kt F) b d · e c) (funext fun e=>funext fun c=>(X8 F b d n e c)):_)
theorem MW (f:LA) (g:Nat) (l i:Bool) (F:KF R):Cd (VI N) MV N 89 [(.imm f g 1 l i)] [] F=(Lg N f g l i (Kt F)):=by
 rw[GE]
 exact Eq.trans (by kernel_rfl) (Da (Va N (Kt F) · f g l i) (funext fun b=>funext fun d=>funext fun e=>funext fun c=>(Ap ..).trans (X8 N F b d N e c)):_)
def GF (a:LA) (h:Ah) (k:KF R):O R :=
 match a,h with
 | [(.imm f g 1 l i)],[]=>(Lg N f g l i (Kt k))
 | _,_=>none
theorem MX:An N 89 @GF:=by
 intro R Q a h k j;unfold GF;split;exact As (MW ..) (MW ..) ⟨El N,trivial⟩;exact Av
def nE:=At (MX N)
def nF:=Cg (MX N)
def Mw (N:Nat) (r0:Int→O R) (k0:Int→Int→O R) (b c:Int):O R :=
 (cond (decide (c>0)) (k0 (wrap .i64 (b+1)) (Int.fdiv c (2 ^ 1))) (r0 b))
def Gs (r0:Int→O R):Nat→Int→Int→O R
 | 0,_,_=>none
 | n+1,b,c=>(Mw N r0 (Gs r0 n) b c)
def X9 (r0:Int→O R) (q0:Int→Int→O R) (d:LA) (e:Nat) (g f:Bool):O R :=
 (Ck N d e false f (fun i l=>(cond (((i:Nat):Int)==0) (r0 0) (cond (Aj (wrap .i64 (((i:Nat):Int) - 1)) i) (Bw .u32 (l.drop (0+(((wrap .i64 (((i:Nat):Int) - 1)).toNat)*1))) fun m=>(q0 (wrap .i64 (32*(wrap .i64 (((i:Nat):Int) - 1)))) m)) none))))
def Ya:=(Ag (fun (N:Nat) (d:LA) (e:Nat) (g f:Bool) (r0:Int→O R)=>(X9 N r0 (fun b c=>(Gs N r0 N b c)) d e g f))).1
theorem Z5 (d e g f r0):(@Ya R N d e g f r0)=(X9 N r0 (fun b c=>(Gs N r0 N b c)) d e g f):=by rw[Ya,(Ag _).2]
def dP:Hints:={ H:=(hS hL (hS hL (hS hL (hS hL (hS (hS hL (hS (hP [3,4] hL) hL)) hL))))) }
def jV:D8:=[(150,Ek N)]
def uf (F:KF R):=Ov Tryz.f206 dP (jV N) [] N F
def Pf (F:KF R):Int→O R:=(fun o=>F (iv o) [])
def ug (b c:Int):St:=⟨[(3,(iv b)),(4,(.int .u32 c))],[]⟩
def uh (F:KF R):=uf N F [1,1,1,1,0,1,0] []
theorem GG (F:KF R):∀ (n:Nat) (b c:Int),Au (uh N F) n (ug b c)=(Gs N (Pf F) n b c)
 | 0,_,_=>by kernel_rfl
 | n+1,b,c=>Eq.trans (by kernel_rfl) (Da (Mw N (Pf F) · b c) (funext fun b=>funext fun c=>(GG F n b c)):_)
theorem dQ (d:LA) (e:Nat) (g f:Bool) (F:KF R):Cd (jV N) dP N 206 [(.imm d e 1 g f)] [] F=(Ya N d e g f (Pf F)):=by
 rw[Z5]
 exact Eq.trans (by kernel_rfl) (Da (X9 N (Pf F) · d e g f) (funext fun b=>funext fun c=>(Ap ..).trans (GG N F N b c)):_)
def VJ (a:LA) (h:Ah) (k:KF R):O R :=
 match a,h with
 | [(.imm d e 1 g f)],[]=>(Ya N d e g f (Pf k))
 | _,_=>none
theorem dR:An N 206 @VJ:=by
 intro R Q a h k j;unfold VJ;split;exact As (dQ ..) (dQ ..) ⟨El N,trivial⟩;exact Av
def ui:=At (dR N)
def uj:=Cg (dR N)
def Te (N:Nat) (k0:Nat→Int→Int→LA→O R) (r0:Nat→LA→O R) (d:LA) (b:Nat) (f g:Bool) (e:LA) (c:Nat) (i l:Bool) (m:Nat) (o:LA) (s q:Int):O R :=
 (cond (decide (q<((c:Nat):Int))) (cond (Aj q c) (Bw .u32 (e.drop ((q.toNat)*1)) fun t=>(cond (Aj q m) (cond ((Nat.beq 1 1)&&((Nat.ble ((0+((q.toNat)*1))+1) (o.length))&&(!false))) (k0 m (Int.fdiv (wrap .u64 (s+(wrap .u64 t))) (2 ^ 32)) (wrap .i64 (q+1)) (o.set (0+((q.toNat)*1)) (.int .u32 (wrap .u32 (wrap .u64 (s+(wrap .u64 t))))))) none) none)) none) (cond (Aj q m) (cond ((Nat.beq 1 1)&&((Nat.ble ((0+((q.toNat)*1))+1) (o.length))&&(!false))) (k0 m (Int.fdiv s (2 ^ 32)) (wrap .i64 (q+1)) (o.set (0+((q.toNat)*1)) (.int .u32 (wrap .u32 s)))) none) none))
def Vb (r0:Nat→LA→O R) (d:LA) (b:Nat) (f g:Bool) (e:LA) (c:Nat) (i l:Bool) (k0:Nat→Int→Int→LA→O R) (q1:Int→Int→O R) (m:Nat) (r p:Int) (o:LA):O R :=
 (cond (decide (p<((m:Nat):Int))) (cond (decide (p<((b:Nat):Int))) (cond (Aj p b) (Bw .u32 (d.drop ((p.toNat)*1)) fun u=>(q1 (wrap .u64 (r+(wrap .u64 u))) p)) none) (q1 r p)) (Ck N (o.take (m*1)) m false true (fun v w=>(r0 v w))))
def F3 (r0:Nat→LA→O R) (d:LA) (b:Nat) (f g:Bool) (e:LA) (c:Nat) (i l:Bool):Nat→Nat→Int→Int→LA→O R
 | 0,_,_,_,_=>none
 | n+1,m,r,p,o=>(Vb N r0 d b f g e c i l (F3 r0 d b f g e c i l n) (fun s q=>(Te N (F3 r0 d b f g e c i l n) r0 d b f g e c i l m o s q)) m r p o)
def VK (N:Nat) (r0:Nat→LA→O R) (q0:Nat→Int→Int→LA→O R) (d:LA) (b:Nat) (f g:Bool) (e:LA) (c:Nat) (i l:Bool):O R :=
 (cond ((decide (0≤(wrap .i64 ((PZ ((b:Nat):Int) ((c:Nat):Int))+1))))&&((decide ((wrap .i64 ((PZ ((b:Nat):Int) ((c:Nat):Int))+1))≤(wrap .i64 ((PZ ((b:Nat):Int) ((c:Nat):Int))+1))))&&((decide ((wrap .i64 ((PZ ((b:Nat):Int) ((c:Nat):Int))+1))≤140737488355328))&&(decide (((wrap .i64 ((PZ ((b:Nat):Int) ((c:Nat):Int))+1))*((4:Nat):Int))≤140737488355328))))) (q0 ((wrap .i64 ((PZ ((b:Nat):Int) ((c:Nat):Int))+1)).toNat) 0 0 (List.replicate ((wrap .i64 ((PZ ((b:Nat):Int) ((c:Nat):Int))+1)).toNat) (.int .u32 0))) none)
def Vc:=(Ag (fun (N:Nat) (d:LA) (b:Nat) (f g:Bool) (e:LA) (c:Nat) (i l:Bool) (r0:Nat→LA→O R)=>(VK N r0 (fun m r p o=>(F3 N r0 d b f g e c i l N m r p o)) d b f g e c i l))).1
theorem dS (d b f g e c i l r0):(@Vc R N d b f g e c i l r0)=(VK N r0 (fun m r p o=>(F3 N r0 d b f g e c i l N m r p o)) d b f g e c i l):=by rw[Vc,(Ag _).2]
def jW:Hints:={ H:=(hS hL (hS hL (hS hL (hS (hS hL (hS (hP [0,1,5,6,7] (hS hL (hS (hS (hJ [0,1,5,6,7] hL hL) hL) hL))) hL)) hL)))),nils:=[(4,1)],modes:=[(2,1)] }
def pL:D8:=[(150,Ek N)]
def jX (F:KF R):=Ov Tryz.f207 jW (pL N) [] N F
def Lh (F:KF R):Nat→LA→O R:=(fun x y=>F (.own 300000 0 x) (hq [(bQ 1 y)]))
def xj (d:LA) (b:Nat) (f g:Bool) (e:LA) (c:Nat) (i l:Bool) (m:Nat) (o:LA) (s q:Int):St:=⟨[(0,(.imm d b 1 f g)),(1,(.imm e c 1 i l)),(5,(.own 300000 0 m)),(6,(.int .u64 s)),(7,(iv q))],(hq [(bQ 1 o)])⟩
def xk (F:KF R) (Q0:St→O R):=jX N F [1,1,1,0,1,0,0,1,0,0,1] [Q0]
def jY (d:LA) (b:Nat) (f g:Bool) (e:LA) (c:Nat) (i l:Bool) (m:Nat) (r p:Int) (o:LA):St:=⟨[(0,(.imm d b 1 f g)),(1,(.imm e c 1 i l)),(5,(.own 300000 0 m)),(6,(.int .u64 r)),(7,(iv p))],(hq [(bQ 1 o)])⟩
def jZ (F:KF R):=jX N F [1,1,1,0,1,0] []
theorem nG (Q0:St→O R) (F:KF R) (d:LA) (b:Nat) (f g:Bool) (e:LA) (c:Nat) (i l:Bool) (m:Nat) (o:LA):∀ (s q:Int),Cm (xk N F Q0) (xj d b f g e c i l m o s q)=(Te N (fun m r p o=>Q0 (jY d b f g e c i l m r p o)) (Lh F) d b f g e c i l m o s q):=by
 intro s q
 kernel_rfl
theorem MY (F:KF R) (d:LA) (b:Nat) (f g:Bool) (e:LA) (c:Nat) (i l:Bool):∀ (n m:Nat) (r p:Int) (o:LA),Au (jZ N F) n (jY d b f g e c i l m r p o)=(F3 N (Lh F) d b f g e c i l n m r p o)
 | 0,_,_,_,_=>by kernel_rfl
 | n+1,m,r,p,o=>have e0:=(funext fun m=>funext fun r=>funext fun p=>funext fun o=>(MY F d b f g e c i l n m r p o))
  Eq.trans (by kernel_rfl) (uB (Vb N (Lh F) d b f g e c i l · · m r p o) e0 (funext fun s=>funext fun q=>(A2 ..).trans ((nG N (Au (jZ N F) n) F d b f g e c i l m o s q).trans (Da (Te N · (Lh F) d b f g e c i l m o s q) e0))):_)
theorem j0 (d:LA) (b:Nat) (f g:Bool) (e:LA) (c:Nat) (i l:Bool) (F:KF R):Cd (pL N) jW N 207 [(.imm d b 1 f g),(.imm e c 1 i l)] [] F=(Vc N d b f g e c i l (Lh F)):=by
 rw[dS]
 exact Eq.trans (by kernel_rfl) (Da (VK N (Lh F) · d b f g e c i l) (funext fun m=>funext fun r=>funext fun p=>funext fun o=>(Ap ..).trans (MY N F d b f g e c i l N m r p o)):_)
def dT (a:LA) (h:Ah) (k:KF R):O R :=
 match a,h with
 | [(.imm d b 1 f g),(.imm e c 1 i l)],[]=>(Vc N d b f g e c i l (Lh k))
 | _,_=>none
theorem j1:An N 207 @dT:=by
 intro R Q a h k j;unfold dT;split;exact As (j0 ..) (j0 ..) ⟨El N,trivial⟩;exact Av
def j2:=At (j1 N)
def j3:=Cg (j1 N)
def j4 (N:Nat) (d:LA) (c:Nat) (e f:Bool) (b:Int) (r0:Int→O R):O R :=
 (cond (decide ((wrap .i64 (Int.tdiv b 32))≥((c:Nat):Int))) (r0 0) (cond (Aj (wrap .i64 (Int.tdiv b 32)) c) (Bw .u32 (d.drop (((wrap .i64 (Int.tdiv b 32)).toNat)*1)) fun g=>(cond (decide ((wrap .u64 (Int.tmod b 32))<0)) none (r0 (xP .u32 (Int.fdiv g (2 ^ (min ((wrap .u64 (Int.tmod b 32)).toNat) 32))) 1)))) none))
def VL:=(Ag (@j4 R)).1
theorem dU:@VL R=@j4 R:=(Ag _).2
def j5 (F:KF R):Int→O R:=(fun i=>F (.int .u32 i) [])
theorem j6 (d:LA) (c:Nat) (e f:Bool) (b:Int) (F:KF R):Cd [] C1 N 208 [(.imm d c 1 e f),(iv b)] [] F=(VL N d c e f b (j5 F)):=by
 rw[dU]
 kernel_rfl
def dV (a:LA) (h:Ah) (k:KF R):O R :=
 match a,h with
 | [(.imm d c 1 e f),(.int .i64 b)],[]=>(VL N d c e f b (j5 k))
 | _,_=>none
theorem j7:An N 208 @dV:=by
 intro R Q a h k j;unfold dV;split;exact As (j6 ..) (j6 ..) trivial;exact Av
def xm:=At (j7 N)
def xn:=Cg (j7 N)
def K7 (N:Nat) (r0:Int→O R) (c d:Nat) (e f:LA) (k0:Int→O R) (b:Int):O R :=
 (cond (decide (b≥0)) (cond (Aj b c) (Bw .u32 (e.drop (0+((b.toNat)*1))) fun s=>(cond (Aj b d) (Bw .u32 (f.drop (0+((b.toNat)*1))) fun t=>(cond (decide (s<t)) (r0 (-1)) (cond (Aj b c) (Bw .u32 (e.drop (0+((b.toNat)*1))) fun u=>(cond (Aj b d) (Bw .u32 (f.drop (0+((b.toNat)*1))) fun v=>(cond (decide (u>v)) (r0 1) (k0 (wrap .i64 (b - 1))))) none)) none))) none)) none) (r0 0))
def E4 (r0:Int→O R) (c d:Nat) (e f:LA):Nat→Int→O R
 | 0,_=>none
 | n+1,b=>(K7 N r0 c d e f (E4 r0 c d e f n) b)
def Qx (r0:Int→O R) (q0:Nat→Nat→LA→LA→Int→O R) (g:LA) (i:Nat) (q l:Bool) (m:LA) (o:Nat) (r p:Bool):O R :=
 (Ck N g i false l (fun c e=>(Ck N m o false p (fun d f=>(cond (((c:Nat):Int) != ((d:Nat):Int)) (cond (decide (((c:Nat):Int)<((d:Nat):Int))) (r0 (-1)) (r0 1)) (q0 c d e f (wrap .i64 (((c:Nat):Int) - 1))))))))
def Lw:=(Ag (fun (N:Nat) (g:LA) (i:Nat) (q l:Bool) (m:LA) (o:Nat) (r p:Bool) (r0:Int→O R)=>(Qx N r0 (fun c d e f b=>(E4 N r0 c d e f N b)) g i q l m o r p))).1
theorem CD (g i q l m o r p r0):(@Lw R N g i q l m o r p r0)=(Qx N r0 (fun c d e f b=>(E4 N r0 c d e f N b)) g i q l m o r p):=by rw[Lw,(Ag _).2]
def MZ:D8:=[(150,Ek N)]
def j8 (F:KF R):=Ov Tryz.f272 oP (MZ N) [] N F
def Iv (F:KF R):Int→O R:=(fun w=>F (iv w) [])
def j9 (c d:Nat) (e f:LA) (b:Int):St:=⟨[(0,(.own 300000 0 c)),(1,(.own 300001 0 d)),(5,(iv b))],(hq [(bQ 1 e),(bQ 1 f)])⟩
def j_ (F:KF R):=j8 N F [1,1,1,0,1,0] []
theorem Vd (F:KF R) (c d:Nat) (e f:LA):∀ (n:Nat) (b:Int),Au (j_ N F) n (j9 c d e f b)=(E4 N (Iv F) c d e f n b)
 | 0,_=>by kernel_rfl
 | n+1,b=>Eq.trans (by kernel_rfl) (Da (K7 N (Iv F) c d e f · b) (funext fun b=>(Vd F c d e f n b)):_)
theorem GH (g:LA) (i:Nat) (q l:Bool) (m:LA) (o:Nat) (r p:Bool) (F:KF R):Cd (MZ N) oP N 272 [(.imm g i 1 q l),(.imm m o 1 r p)] [] F=(Lw N g i q l m o r p (Iv F)):=by
 rw[CD]
 exact Eq.trans (by kernel_rfl) (Da (Qx N (Iv F) · g i q l m o r p) (funext fun c=>funext fun d=>funext fun e=>funext fun f=>funext fun b=>(Ap ..).trans (Vd N F c d e f N b)):_)
def CE (a:LA) (h:Ah) (k:KF R):O R :=
 match a,h with
 | [(.imm g i 1 q l),(.imm m o 1 r p)],[]=>(Lw N g i q l m o r p (Iv k))
 | _,_=>none
theorem GI:An N 272 @CE:=by
 intro R Q a h k j;unfold CE;split;exact As (GH ..) (GH ..) ⟨El N,trivial⟩;exact Av
def ja:=At (GI N)
def jb:=Cg (GI N)
def Tf (N:Nat) (k0:Int→Int→LA→O R) (r0:Nat→Bool→LA→O R) (b d:Nat) (e f c:LA) (i m:Int):O R :=
 (cond (Aj i b) (Bw .u32 (e.drop (0+((i.toNat)*1))) fun w=>(cond (decide ((wrap .u64 w)<m)) (cond (Aj i b) (cond ((Nat.beq 1 1)&&((Nat.ble ((0+((i.toNat)*1))+1) (c.length))&&(!false))) (k0 1 (wrap .i64 (i+1)) (c.set (0+((i.toNat)*1)) (.int .u32 (wrap .u32 (wrap .u64 ((wrap .u64 ((wrap .u64 w)+4294967296)) - m)))))) none) none) (cond (Aj i b) (cond ((Nat.beq 1 1)&&((Nat.ble ((0+((i.toNat)*1))+1) (c.length))&&(!false))) (k0 0 (wrap .i64 (i+1)) (c.set (0+((i.toNat)*1)) (.int .u32 (wrap .u32 (wrap .u64 ((wrap .u64 w) - m)))))) none) none))) none)
def Ve (r0:Nat→Bool→LA→O R) (b d:Nat) (e f:LA) (k0:Int→Int→LA→O R) (q1:Int→Int→O R) (l g:Int) (c:LA):O R :=
 (cond (decide (g<((b:Nat):Int))) (cond (decide (g<((d:Nat):Int))) (cond (Aj g d) (Bw .u32 (f.drop (0+((g.toNat)*1))) fun x=>(q1 g (wrap .u64 (l+(wrap .u64 x))))) none) (q1 g l)) (Ck N (c.take (b*1)) b false true (fun y z=>(r0 y true z))))
def F4 (r0:Nat→Bool→LA→O R) (b d:Nat) (e f:LA):Nat→Int→Int→LA→O R
 | 0,_,_,_=>none
 | n+1,l,g,c=>(Ve N r0 b d e f (F4 r0 b d e f n) (fun i m=>(Tf N (F4 r0 b d e f n) r0 b d e f c i m)) l g c)
def VM (r0:Nat→Bool→LA→O R) (q0:Nat→Nat→LA→LA→Int→Int→LA→O R) (o:LA) (p:Nat) (u q:Bool) (r:LA) (s:Nat) (v t:Bool):O R :=
 (Lw N o p false q r s false t (fun aa=>(cond (decide (aa<0)) (r0 0 false []) (Ck N o p false q (fun b e=>(Ck N r s false t (fun d f=>(cond ((decide (0≤((b:Nat):Int)))&&((decide (((b:Nat):Int)≤((b:Nat):Int)))&&((decide (((b:Nat):Int)≤140737488355328))&&(decide ((((b:Nat):Int)*((4:Nat):Int))≤140737488355328))))) (q0 b d e f 0 0 (List.replicate b (.int .u32 0))) none))))))))
def Vf:=(Ag (fun (N:Nat) (o:LA) (p:Nat) (u q:Bool) (r:LA) (s:Nat) (v t:Bool) (r0:Nat→Bool→LA→O R)=>(VM N r0 (fun b d e f l g c=>(F4 N r0 b d e f N l g c)) o p u q r s v t))).1
theorem dW (o p u q r s v t r0):(@Vf R N o p u q r s v t r0)=(VM N r0 (fun b d e f l g c=>(F4 N r0 b d e f N l g c)) o p u q r s v t):=by rw[Vf,(Ag _).2]
def jc:Hints:={ H:=(hS hL (hS hL (hS hL (hS hL (hS hL (hS (hS hL (hS (hP [0,1,6,7,8] (hS hL (hS (hS (hS hL (hJ [0,1,6,8,9] hL hL)) hL) hL))) hL)) hL)))))),nils:=[(4,1)],modes:=[(2,1),(0,0)] }
def pM:D8:=[(272,ja N),(150,Ek N)]
def jd (F:KF R):=Ov Tryz.f209 jc (pM N) [] N F
def Li (F:KF R):Nat→Bool→LA→O R:=(fun ab ac ad=>F (.tup [(.own 300000 0 ab),(.bool ac)]) (hq [(bQ 1 ad)]))
def xo (b d:Nat) (e f c:LA) (i m:Int):St:=⟨[(0,(.own 300000 0 b)),(1,(.own 300001 0 d)),(6,(.own 300002 0 b)),(8,(iv i)),(9,(.int .u64 m))],(hq [(bQ 1 e),(bQ 1 f),(bQ 1 c)])⟩
def xp (F:KF R) (Q0:St→O R):=jd N F [1,1,1,1,1,0,1,0,0,1,0,0,1,1] [Q0]
def je (b d:Nat) (e f:LA) (l g:Int) (c:LA):St:=⟨[(0,(.own 300000 0 b)),(1,(.own 300001 0 d)),(6,(.own 300002 0 b)),(7,(.int .u64 l)),(8,(iv g))],(hq [(bQ 1 e),(bQ 1 f),(bQ 1 c)])⟩
def jf (F:KF R):=jd N F [1,1,1,1,1,0,1,0] []
theorem nH (Q0:St→O R) (F:KF R) (b d:Nat) (e f c:LA):∀ (i m:Int),Cm (xp N F Q0) (xo b d e f c i m)=(Tf N (fun l g c=>Q0 (je b d e f l g c)) (Li F) b d e f c i m):=by
 intro i m
 kernel_rfl
theorem M_ (F:KF R) (b d:Nat) (e f:LA):∀ (n:Nat) (l g:Int) (c:LA),Au (jf N F) n (je b d e f l g c)=(F4 N (Li F) b d e f n l g c)
 | 0,_,_,_=>by kernel_rfl
 | n+1,l,g,c=>have e0:=(funext fun l=>funext fun g=>funext fun c=>(M_ F b d e f n l g c))
  Eq.trans (by kernel_rfl) (uB (Ve N (Li F) b d e f · · l g c) e0 (funext fun i=>funext fun m=>(A2 ..).trans ((nH N (Au (jf N F) n) F b d e f c i m).trans (Da (Tf N · (Li F) b d e f c i m) e0))):_)
theorem jg (o:LA) (p:Nat) (u q:Bool) (r:LA) (s:Nat) (v t:Bool) (F:KF R):Cd (pM N) jc N 209 [(.imm o p 1 u q),(.imm r s 1 v t)] [] F=(Vf N o p u q r s v t (Li F)):=by
 rw[dW]
 exact Eq.trans (by kernel_rfl) (Da (VM N (Li F) · o p u q r s v t) (funext fun b=>funext fun d=>funext fun e=>funext fun f=>funext fun l=>funext fun g=>funext fun c=>(Ap ..).trans (M_ N F b d e f N l g c)):_)
def dX (a:LA) (h:Ah) (k:KF R):O R :=
 match a,h with
 | [(.imm o p 1 u q),(.imm r s 1 v t)],[]=>(Vf N o p u q r s v t (Li k))
 | _,_=>none
theorem jh:An N 209 @dX:=by
 intro R Q a h k j;unfold dX;split;exact As (jg ..) (jg ..) ⟨jb N,El N,trivial⟩;exact Av
def ji:=At (jh N)
def jj:=Cg (jh N)
def H5 (k1:Nat→Int→LA→LA→O R) (r0:Nat→Nat→Bool→LA→LA→O R) (c:LA) (b:Nat) (e d:Bool) (f:Nat) (i:Int) (g l:LA) (p:Nat) (q:LA):O R :=
 (Vf N (q.take (p*1)) p false true (g.take (f*1)) f false true (fun z aa ab=>(cond aa (cond (Aj (wrap .i64 (Int.tdiv i 32)) b) (Bw .u32 (l.drop (0+(((wrap .i64 (Int.tdiv i 32)).toNat)*1))) fun ac=>(cond (decide ((wrap .u64 (Int.tmod i 32))<0)) none (cond (Aj (wrap .i64 (Int.tdiv i 32)) b) (cond ((Nat.beq 1 1)&&((Nat.ble ((0+(((wrap .i64 (Int.tdiv i 32)).toNat)*1))+1) (l.length))&&(!false))) (k1 z (wrap .i64 (i - 1)) (l.set (0+(((wrap .i64 (Int.tdiv i 32)).toNat)*1)) (.int .u32 (Lp .u32 ac (wrap .u32 ((1:Int)*2 ^ (min ((wrap .u64 (Int.tmod i 32)).toNat) 32)))))) ab) none) none))) none) (k1 p (wrap .i64 (i - 1)) l q))))
def Mx (r0:Nat→Nat→Bool→LA→LA→O R) (c:LA) (b:Nat) (e d:Bool) (f:Nat) (g:LA) (k1:Nat→Int→LA→LA→O R) (q2:Nat→LA→O R) (m:Nat) (i:Int) (l o:LA):O R :=
 (cond (decide (i≥0)) (Vc N (o.take (m*1)) m false true (o.take (m*1)) m false true (fun w x=>(VL N c b false d i (fun ad=>(cond (ad==1) (Vc N (x.take (w*1)) w false true [(.int .u32 1)] 1 false true (fun ae af=>(q2 ae af))) (q2 w x)))))) (Ck N (l.take (b*1)) b false true (fun ag ah=>(Ck N (o.take (m*1)) m false true (fun ai aj=>(r0 ag ai true ah aj))))))
def Dl (r0:Nat→Nat→Bool→LA→LA→O R) (c:LA) (b:Nat) (e d:Bool) (f:Nat) (g:LA):Nat→Nat→Int→LA→LA→O R
 | 0,_,_,_,_=>none
 | n+1,m,i,l,o=>(Mx N r0 c b e d f g (Dl r0 c b e d f g n) (fun p q=>(H5 N (Dl r0 c b e d f g n) r0 c b e d f i g l p q)) m i l o)
def Tg (r0:Nat→Nat→Bool→LA→LA→O R) (c:LA) (b:Nat) (e d:Bool) (f:Nat) (g:LA) (q1:Nat→Int→LA→LA→O R):O R :=
 (cond ((decide (0≤((b:Nat):Int)))&&((decide (((b:Nat):Int)≤((b:Nat):Int)))&&((decide (((b:Nat):Int)≤140737488355328))&&(decide ((((b:Nat):Int)*((4:Nat):Int))≤140737488355328))))) (Ya N c b false d (fun ak=>(q1 0 (wrap .i64 (ak - 1)) (List.replicate b (.int .u32 0)) []))) none)
def Ku (r0:Nat→Nat→Bool→LA→LA→O R) (c:LA) (b:Nat) (e d:Bool) (f:Nat) (g:LA):O R:=(Tg N r0 c b e d f g (fun m i l o=>(Dl N r0 c b e d f g N m i l o)))
def Vg (r0:Nat→Nat→Bool→LA→LA→O R) (q0:Nat→LA→O R) (c:LA) (b:Nat) (e d:Bool) (r:LA) (s:Nat) (u t:Bool):O R :=
 (Ck N r s false t (fun f g=>(cond (((f:Nat):Int)==0) (r0 0 0 false [] []) (Lg N c b false d (fun y al=>(Lg N (g.take (f*1)) f false true (fun v am=>(cond (al==true) (cond (cond true am false) (cond (v==0) none (Dp N (wrap .u64 (Int.tdiv y v)) (fun an ao=>(cond (v==0) none (Dp N (Int.tmod y v) (fun ap aq=>(r0 an ap true ao aq))))))) (q0 f g)) (q0 f g)))))))))
def Lj:=(Ag (fun (N:Nat) (c:LA) (b:Nat) (e d:Bool) (r:LA) (s:Nat) (u t:Bool) (r0:Nat→Nat→Bool→LA→LA→O R)=>(Vg N r0 (fun f g=>(Ku N r0 c b e d f g)) c b e d r s u t))).1
theorem GJ (c b e d r s u t r0):(@Lj R N c b e d r s u t r0)=(Vg N r0 (fun f g=>(Ku N r0 c b e d f g)) c b e d r s u t):=by rw[Lj,(Ag _).2]
def M':Hints:={ H:=(hS hL (hS hL (hS hL (hS hL (hJ [0,1,5] hL (hS hL (hS (hS hL (hS (hP [0,1,4,5,11] (hS hL (hS (hS (hS hL (hJ [0,1,4,5,11] hL hL)) hL) hL))) hL)) hL))))))),nils:=[(4,1),(5,1)],modes:=[(2,1),(2,1),(0,0)] }
def VN:D8:=[(150,Ek N),(89,nE N),(88,U8 N),(206,ui N),(207,j2 N),(208,xm N),(209,ji N)]
def Wd (F:KF R):=Ov Tryz.f126 M' (VN N) [] N F
def Dm (F:KF R):Nat→Nat→Bool→LA→LA→O R:=(fun ar au av aw ax=>F (.tup [(.own 300000 0 ar),(.own 300001 0 au),(.bool av)]) (hq [(bQ 1 aw),(bQ 1 ax)]))
def nI (c:LA) (b:Nat) (e d:Bool) (f:Nat) (i:Int) (g l:LA) (p:Nat) (q:LA):St:=⟨[(0,(.imm c b 1 e d)),(1,(.own 300000 0 f)),(4,(.own 300001 0 b)),(5,(.own 300002 0 p)),(11,(iv i))],(hq [(bQ 1 g),(bQ 1 l),(bQ 1 q)])⟩
def nK (F:KF R) (Q1:St→O R):=Wd N F [1,1,1,1,1,1,0,1,0,0,1,0,0,1,1] [Q1]
def NA (c:LA) (b:Nat) (e d:Bool) (f:Nat) (g:LA) (m:Nat) (i:Int) (l o:LA):St:=⟨[(0,(.imm c b 1 e d)),(1,(.own 300000 0 f)),(4,(.own 300001 0 b)),(5,(.own 300002 0 m)),(11,(iv i))],(hq [(bQ 1 g),(bQ 1 l),(bQ 1 o)])⟩
def NB (F:KF R):=Wd N F [1,1,1,1,1,1,0,1,0] []
def nL (c:LA) (b:Nat) (e d:Bool) (f:Nat) (g:LA):St:=⟨[(0,(.imm c b 1 e d)),(1,(.own 300000 0 f)),(5,(.own 300001 0 0))],(hq [(bQ 1 g),(bQ 1 [])])⟩
def nM (F:KF R):=Wd N F [1,1,1,1,1] []
theorem bF (Q1:St→O R) (F:KF R) (c:LA) (b:Nat) (e d:Bool) (f:Nat) (i:Int) (g l:LA):∀ (p:Nat) (q:LA),Cm (nK N F Q1) (nI c b e d f i g l p q)=(H5 N (fun m i l o=>Q1 (NA c b e d f g m i l o)) (Dm F) c b e d f i g l p q):=by
 intro p q
 kernel_rfl
theorem Yb (F:KF R) (c:LA) (b:Nat) (e d:Bool) (f:Nat) (g:LA):∀ (n m:Nat) (i:Int) (l o:LA),Au (NB N F) n (NA c b e d f g m i l o)=(Dl N (Dm F) c b e d f g n m i l o)
 | 0,_,_,_,_=>by kernel_rfl
 | n+1,m,i,l,o=>have e0:=(funext fun m=>funext fun i=>funext fun l=>funext fun o=>(Yb F c b e d f g n m i l o))
  Eq.trans (by kernel_rfl) (uB (Mx N (Dm F) c b e d f g · · m i l o) e0 (funext fun p=>funext fun q=>(A2 ..).trans ((bF N (Au (NB N F) n) F c b e d f i g l p q).trans (Da (H5 N · (Dm F) c b e d f i g l p q) e0))):_)
theorem bG (F:KF R) (c:LA) (b:Nat) (e d:Bool) (f:Nat) (g:LA):Cm (nM N F) (nL c b e d f g)=(Ku N (Dm F) c b e d f g):=by
 exact Eq.trans (by kernel_rfl) (Da (Tg N (Dm F) c b e d f g ·) (funext fun m=>funext fun i=>funext fun l=>funext fun o=>(Ap ..).trans (Yb N F c b e d f g N m i l o)):_)
theorem NC (c:LA) (b:Nat) (e d:Bool) (r:LA) (s:Nat) (u t:Bool) (F:KF R):Cd (VN N) M' N 126 [(.imm c b 1 e d),(.imm r s 1 u t)] [] F=(Lj N c b e d r s u t (Dm F)):=by
 rw[GJ]
 exact Eq.trans (by kernel_rfl) (Da (Vg N (Dm F) · c b e d r s u t) (funext fun f=>funext fun g=>(A2 ..).trans (bG N F c b e d f g)):_)
def GK (a:LA) (h:Ah) (k:KF R):O R :=
 match a,h with
 | [(.imm c b 1 e d),(.imm r s 1 u t)],[]=>(Lj N c b e d r s u t (Dm k))
 | _,_=>none
theorem ND:An N 126 @GK:=by
 intro R Q a h k j;unfold GK;split;exact As (NC ..) (NC ..) ⟨El N,nF N,U9 N,uj N,j3 N,xn N,jj N,trivial⟩;exact Av
def NE:=At (ND N)
def NF:=Cg (ND N)
def Lx (r0:Nat→LA→O R) (k0:Nat→Nat→LA→LA→O R) (c b:Nat) (d e:LA):O R :=
 (cond (decide (((b:Nat):Int)>0)) (Lj N (d.take (c*1)) c false true (e.take (b*1)) b false true (fun z r aa ab s=>(k0 b r e s))) (r0 c d))
def C2 (r0:Nat→LA→O R):Nat→Nat→Nat→LA→LA→O R
 | 0,_,_,_,_=>none
 | n+1,c,b,d,e=>(Lx N r0 (C2 r0 n) c b d e)
def VO (r0:Nat→LA→O R) (q0:Nat→Nat→LA→LA→O R) (f:LA) (g:Nat) (p i:Bool) (l:LA) (m:Nat) (q o:Bool):O R :=
 (Ck N f g false i (fun t u=>(Ck N l m false o (fun v w=>(q0 t v u w)))))
def KA:=(Ag (fun (N:Nat) (f:LA) (g:Nat) (p i:Bool) (l:LA) (m:Nat) (q o:Bool) (r0:Nat→LA→O R)=>(VO N r0 (fun c b d e=>(C2 N r0 N c b d e)) f g p i l m q o))).1
theorem dY (f g p i l m q o r0):(@KA R N f g p i l m q o r0)=(VO N r0 (fun c b d e=>(C2 N r0 N c b d e)) f g p i l m q o):=by rw[KA,(Ag _).2]
def jk:Hints:={ H:=(hS hL (hS hL (hS (hS (hP [0,1] hL) hL) hL))),nils:=[(4,1)],modes:=[(2,1)] }
def pN:D8:=[(150,Ek N),(126,NE N)]
def xq (F:KF R):=Ov Tryz.f221 jk (pN N) [] N F
def Th (F:KF R):Nat→LA→O R:=(fun x y=>F (.own 300000 0 x) (hq [(bQ 1 y)]))
def xr (c b:Nat) (d e:LA):St:=⟨[(0,(.own 300000 0 c)),(1,(.own 300001 0 b))],(hq [(bQ 1 d),(bQ 1 e)])⟩
def xt (F:KF R):=xq N F [1,1,0,0] []
theorem NG (F:KF R):∀ (n:Nat) (c b:Nat) (d e:LA),Au (xt N F) n (xr c b d e)=(C2 N (Th F) n c b d e)
 | 0,_,_,_,_=>by kernel_rfl
 | n+1,c,b,d,e=>Eq.trans (by kernel_rfl) (Da (Lx N (Th F) · c b d e) (funext fun c=>funext fun b=>funext fun d=>funext fun e=>(NG F n c b d e)):_)
theorem jl (f:LA) (g:Nat) (p i:Bool) (l:LA) (m:Nat) (q o:Bool) (F:KF R):Cd (pN N) jk N 221 [(.imm f g 1 p i),(.imm l m 1 q o)] [] F=(KA N f g p i l m q o (Th F)):=by
 rw[dY]
 exact Eq.trans (by kernel_rfl) (Da (VO N (Th F) · f g p i l m q o) (funext fun c=>funext fun b=>funext fun d=>funext fun e=>(Ap ..).trans (NG N F N c b d e)):_)
def dZ (a:LA) (h:Ah) (k:KF R):O R :=
 match a,h with
 | [(.imm f g 1 p i),(.imm l m 1 q o)],[]=>(KA N f g p i l m q o (Th k))
 | _,_=>none
theorem jm:An N 221 @dZ:=by
 intro R Q a h k j;unfold dZ;split;exact As (jl ..) (jl ..) ⟨El N,NF N,trivial⟩;exact Av
def xu:=At (jm N)
def xv:=Cg (jm N)
def jn (b:LA) (c:Bool) (d:LA) (e:Bool) (r0:LA→O R):O R :=
 (Kk 1 (b.drop 1) fun i l=>(Kk 1 (d.drop 1) fun m n=>(KA N i l false c m n false e (fun g o=>(Dc N false (o.take (g*1)) g false true (fun f=>(cond ((Nat.beq 0 0)&&((Nat.beq (f.length) 2)&&(Nat.beq 2 2))) (cond (Nat.ble 2 (f.length)) (r0 (f.take 2)) none) none)))))))
def VP:=(Ag (@jn R)).1
theorem d5:@VP R=@jn R:=(Ag _).2
def Abc:D8:=[(221,xu N),(83,Em N)]
def jo (F:KF R):LA→O R:=(fun p=>F (.pagg p false) [])
theorem jq (b:LA) (c:Bool) (d:LA) (e:Bool) (F:KF R):Cd (Abc N) Hl N 152 [(.pagg b c),(.pagg d e)] [] F=(VP N b c d e (jo F)):=by
 rw[d5]
 kernel_rfl
def d6 (a:LA) (h:Ah) (k:KF R):O R :=
 match a,h with
 | [(.pagg b c),(.pagg d e)],[]=>(VP N b c d e (jo k))
 | _,_=>none
theorem jr:An N 152 @d6:=by
 intro R Q a h k j;unfold d6;split;exact As (jq ..) (jq ..) ⟨xv N,En N,trivial⟩;exact Av
def xw:=At (jr N)
def xx:=Cg (jr N)
def uk (b:LA) (c:Bool) (r0:LA→O R):O R :=
 (Kk 1 (b.drop 1) fun e f=>(Dc N false e f false c (fun d=>(cond ((Nat.beq 0 0)&&((Nat.beq (d.length) 2)&&(Nat.beq 2 2))) (cond (Nat.ble 2 (d.length)) (r0 (d.take 2)) none) none))))
def gK:=(Ag (@uk R)).1
theorem ul:@gK R=@uk R:=(Ag _).2
def Abd:D8:=[(83,Em N)]
def js (F:KF R):LA→O R:=(fun g=>F (.pagg g false) [])
theorem jt (b:LA) (c:Bool) (F:KF R):Cd (Abd N) Hl N 140 [(.pagg b c)] [] F=(gK N b c (js F)):=by
 rw[ul]
 kernel_rfl
def d7 (a:LA) (h:Ah) (k:KF R):O R :=
 match a,h with
 | [(.pagg b c)],[]=>(gK N b c (js k))
 | _,_=>none
theorem ju:An N 140 @d7:=by
 intro R Q a h k j;unfold d7;split;exact As (jt ..) (jt ..) ⟨En N,trivial⟩;exact Av
def xy:=At (ju N)
def xz:=Cg (ju N)
def jv (b:LA) (d:Bool) (c:LA) (e:Bool) (r0:LA→O R):O R :=
 (Pa b fun o=>(Pa c fun p=>(cond (o==p) (Pa b fun q=>(Kk 1 (b.drop 1) fun r s=>(Kk 1 (c.drop 1) fun t u=>(Vc N r s false d t u false e (fun l v=>(Dc N q (v.take (l*1)) l false true (fun f=>(cond ((Nat.beq 0 0)&&((Nat.beq (f.length) 2)&&(Nat.beq 2 2))) (cond (Nat.ble 2 (f.length)) (r0 (f.take 2)) none) none)))))))) (Kk 1 (b.drop 1) fun w x=>(Kk 1 (c.drop 1) fun y z=>(Vf N w x false d y z false e (fun m aa ab=>(cond aa (Pa b fun ac=>(Dc N ac (ab.take (m*1)) m false true (fun g=>(cond ((Nat.beq 0 0)&&((Nat.beq (g.length) 2)&&(Nat.beq 2 2))) (cond (Nat.ble 2 (g.length)) (r0 (g.take 2)) none) none)))) (Kk 1 (c.drop 1) fun ad ae=>(Kk 1 (b.drop 1) fun af ag=>(Vf N ad ae false e af ag false d (fun n ak ah=>(Pa c fun ai=>(Dc N ai (ah.take (n*1)) n false true (fun i=>(cond ((Nat.beq 0 0)&&((Nat.beq (i.length) 2)&&(Nat.beq 2 2))) (cond (Nat.ble 2 (i.length)) (r0 (i.take 2)) none) none))))))))))))))))
def Qy:=(Ag (@jv R)).1
theorem d8:@Qy R=@jv R:=(Ag _).2
def Abe:D8:=[(207,j2 N),(83,Em N),(209,ji N)]
def jw (F:KF R):LA→O R:=(fun aj=>F (.pagg aj false) [])
theorem jx (b:LA) (d:Bool) (c:LA) (e:Bool) (F:KF R):Cd (Abe N) Hl N 139 [(.pagg b d),(.pagg c e)] [] F=(Qy N b d c e (jw F)):=by
 rw[d8]
 kernel_rfl
def d9 (a:LA) (h:Ah) (k:KF R):O R :=
 match a,h with
 | [(.pagg b d),(.pagg c e)],[]=>(Qy N b d c e (jw k))
 | _,_=>none
theorem jy:An N 139 @d9:=by
 intro R Q a h k j;unfold d9;split;exact As (jx ..) (jx ..) ⟨j3 N,En N,jj N,trivial⟩;exact Av
def RI:=At (jy N)
def RK:=Cg (jy N)
def um (b:LA) (c:Bool) (r0:LA→O R):O R :=
 (Pa b fun e=>(Kk 1 (b.drop 1) fun f g=>(Dc N (!e) f g false c (fun d=>(cond ((Nat.beq 0 0)&&((Nat.beq (d.length) 2)&&(Nat.beq 2 2))) (cond (Nat.ble 2 (d.length)) (r0 (d.take 2)) none) none)))))
def KB:=(Ag (@um R)).1
theorem uo:@KB R=@um R:=(Ag _).2
def Abf:D8:=[(83,Em N)]
def jz (F:KF R):LA→O R:=(fun i=>F (.pagg i false) [])
theorem kA (b:LA) (c:Bool) (F:KF R):Cd (Abf N) Hl N 153 [(.pagg b c)] [] F=(KB N b c (jz F)):=by
 rw[uo]
 kernel_rfl
def d_ (a:LA) (h:Ah) (k:KF R):O R :=
 match a,h with
 | [(.pagg b c)],[]=>(KB N b c (jz k))
 | _,_=>none
theorem kB:An N 153 @d_:=by
 intro R Q a h k j;unfold d_;split;exact As (kA ..) (kA ..) ⟨En N,trivial⟩;exact Av
def kC:=At (kB N)
def kD:=Cg (kB N)
def uq (b:LA) (d:Bool) (c:LA) (e:Bool) (r0:LA→O R):O R :=
 (cond (Nat.ble 2 (b.length)) (cond (Nat.ble 2 (c.length)) (KB N (c.take 2) e (fun g=>(Qy N (b.take 2) d g false (fun f=>(cond ((Nat.beq 0 0)&&((Nat.beq (f.length) 2)&&(Nat.beq 2 2))) (cond (Nat.ble 2 (f.length)) (r0 (f.take 2)) none) none))))) none) none)
def gL:=(Ag (@uq R)).1
theorem ur:@gL R=@uq R:=(Ag _).2
def Abg:D8:=[(153,kC N),(139,RI N)]
def kE (F:KF R):LA→O R:=(fun i=>F (.pagg i false) [])
theorem kF (b:LA) (d:Bool) (c:LA) (e:Bool) (F:KF R):Cd (Abg N) Hl N 141 [(.pagg b d),(.pagg c e)] [] F=(gL N b d c e (kE F)):=by
 rw[ur]
 kernel_rfl
def da (a:LA) (h:Ah) (k:KF R):O R :=
 match a,h with
 | [(.pagg b d),(.pagg c e)],[]=>(gL N b d c e (kE k))
 | _,_=>none
theorem kG:An N 141 @da:=by
 intro R Q a h k j;unfold da;split;exact As (kF ..) (kF ..) ⟨kD N,RK N,trivial⟩;exact Av
def yA:=At (kG N)
def yB:=Cg (kG N)
end
end Gx

namespace Gx
open Go Go.Proofs
section
variable {R:Type}
theorem Aii {c:Nat} (h:c≤1000000000000):((Nat.ble (0+c) 140737488355328)&&(Nat.ble ((0+c)*4) 140737488355328))=true:=by simp;omega
theorem RL {N:Nat} {l:List Nat} {t o:Bool} {K:Nat→LA→O R} (e:Ad l) (i:l.length≤1000000000000):∀ (c b:Nat),c≤l.length→c<b →
  Iu N K (Aa l) l.length t o b (c:Int)=K (Af (val (l.take c))).length (Aa (Af (val (l.take c))))
 | 0,b+1,f,_=>by
  rw[Iu];unfold Qw
  rw[show decide (((0:Nat):Int)>0)=false by simp]
  rw[show((false:Bool)==true)=false by rfl,cf,Age (by omega),ct,Int.toNat_natCast,Nat.mul_one,Nx,Uj,Bool.or_true,ct,Aii (by omega),ct];rfl
 | c+1,b+1,f,j=>by
  rw[Iu];unfold Qw
  rw[Ahf,ct,wP (by omega),Al (by omega),ct,ED (by omega),Aay,Age (by omega),ct,RL e i c b (by omega) (by omega),Int.toNat_natCast,Nat.mul_one,Nx,Uj,Bool.or_true,ct,Aii (by omega),ct,Nat.zero_add]
  by_cases d:l[c]=0
  ·rw[Aq (by omega),d];simp
  ·rw[rH e (by omega) d,List.length_take,Nat.min_eq_left f]
   rw[mU d,cf]
theorem Cf {N:Nat} {l:List Nat} {n:Nat} {t o:Bool} {K:Nat→LA→O R} (c:n=l.length) (d:Ad l) (b:fit l.length N):Ck N (Aa l) n t o K=K (Af (val l)).length (Aa (Af (val l))):=by
 subst c
 have e:=b.1;have f:=b.2
 rw[Z0];unfold X7
 dsimp only
 rw[RL d (by omega) l.length N (Nat.le_refl _) (by omega),List.take_length]
theorem uv {N:Nat} {a b:List Nat} {t o t' o':Bool} {K:Bool→O R} (i:a.length≤1000000000000) (k:a.length=b.length):∀ (m j c:Nat),j+m=a.length→m<c →
  Ha N K (Aa a) a.length t o (Aa b) b.length t' o' c (j:Int)=K (decide (a.drop j=b.drop j))
 | 0,j,c+1,l,_=>by
  rw[Ha];unfold O0
  rw[BV (by omega),cf,List.drop_eq_nil_of_le (by omega),List.drop_eq_nil_of_le (by omega)];simp
 | m+1,j,c+1,l,n=>by
  have e:j<a.length:=by omega
  have f:j<b.length:=by omega
  rw[Ha];unfold O0
  rw[T6 e,ct,Al e,ct,ED e,Al f,ct,ED f,wS (by omega),uv i k m (j+1) c (by omega) (by omega),List.drop_eq_getElem_cons e,List.drop_eq_getElem_cons f]
  by_cases h:a[j]=b[j]
  ·rw[show((((a[j]:Nat):Int) != ((b[j]:Nat):Int)))=false by simp[h],cf];congr 1;rw[decide_eq_decide,List.cons.injEq];exact⟨fun d=>⟨h,d⟩,fun d=>d.2⟩
  ·rw[show((((a[j]:Nat):Int) != ((b[j]:Nat):Int)))=true by rw[bne_iff_ne];omega,ct];congr 1;symm;rw[decide_eq_false_iff_not,List.cons.injEq];exact fun d=>h d.1
theorem kH {N:Nat} {a b:List Nat} {n m:Nat} {t o t' o':Bool} {K:Bool→O R} (e:n=a.length) (f:m=b.length) (d:fit a.length N):Lv N (Aa a) n t o (Aa b) m t' o' K=K (decide (a=b)):=by
 subst e f
 have i:=d.1;have j:=d.2
 rw[MT];unfold Z2
 by_cases c:a.length=b.length
 ·rw[show(((a.length:Nat):Int) != ((b.length:Nat):Int))=false by simp[c],cf]
  have:=uv (R:=R) (N:=N) (t:=t) (o:=o) (t':=t') (o':=o') (K:=K) (by omega) c a.length 0 N (by omega) (by omega)
  simpa using this
 ·rw[show(((a.length:Nat):Int) != ((b.length:Nat):Int))=true by rw[bne_iff_ne];omega,ct]
  congr 1;symm;rw[decide_eq_false_iff_not];intro h;exact c (by rw[h])
theorem Vh {N:Nat} {v:Nat} {K:Nat→LA→O R} (d:v<18446744073709551616) (hN:4≤N):Dp N (v:Int) K=K (Af v).length (Aa (Af v)):=by
 have c:Ad [v%4294967296,v/4294967296]:=Ce.2 ⟨by omega,Ce.2 ⟨by omega,Nw⟩⟩
 have b:val [v%4294967296,v/4294967296]=v:=by simp[val];omega
 rw[Tb];unfold P0
 rw[QJ,ZZ,zO (show v/4294967296<4294967296 by omega)]
 have:=RL (R:=R) (N:=N) (l:=[v%4294967296,v/4294967296]) (t:=false) (o:=true) (K:=K) c (by simp) 2 N (by simp) (by omega)
 rw[show [v%4294967296,v/4294967296].take 2=[v%4294967296,v/4294967296] by rfl,b] at this
 rw[Z0];unfold X7
 exact this
theorem Z6 {N:Nat} {l:List Nat} {n:Nat} {t o:Bool} {K:Int→Bool→O R} (m:n=l.length) (q:Ad l) (j:fit l.length N):Lg N (Aa l) n t o K=if val l<18446744073709551616 then K (val l:Int) true else K 0 false:=by
 have v:=j.1
 rw[GE];unfold Va
 rw[Cf m q j]
 by_cases h:val l<18446744073709551616
 ·have s:=Qu h
  rw[if_pos h,show decide ((((Af (val l)).length:Nat):Int)>2)=false by simp;omega,cf]
  have c:=Ac (val l)
  have f:=Ab (val l)
  obtain⟨M,hM⟩:∃ M,N=M+4:=⟨N - 4,by omega⟩
  rw[hM]
  generalize Af (val l)=d at *
  match d,s,c,f with
  | [],_,c,_ =>
   dsimp only
   rw[C0];unfold Dq
   rw[←c,i64 (by simp)];rfl
  | [x],_,c,f =>
   have i:=(Ce.1 f).1
   have e:val l=x:=by rw[←c];simp[val]
   dsimp only
   rw[C0];unfold Dq
   rw[i64 (by simp),show((([x]:List Nat).length:Nat):Int) - 1=((0:Nat):Int) by rfl,show decide (((0:Nat):Int)≥0)=true by rfl,ct,Al (by simp),ct,UA (by simp)]
   rw[C0];unfold Dq
   rw[i64 (by simp),show decide ((((0:Nat):Int) - 1)≥0)=false by rfl,cf]
   have:=Ahg (a:=0) (b:=x) (by omega) i
   simp only[List.getElem_cons_zero]
   rw[Fv (show x<18446744073709551616 by omega),show(0:Int)=((0:Nat):Int) by rfl,this,e];simp
  | [x,y],_,c,f =>
   have i:=(Ce.1 f).1
   have k:=(Ce.1 (Ce.1 f).2).1
   have e:val l=y*4294967296+x:=by rw[←c];simp[val];omega
   dsimp only
   rw[C0];unfold Dq
   rw[i64 (by simp),show((([x,y]:List Nat).length:Nat):Int) - 1=((1:Nat):Int) by rfl,show decide (((1:Nat):Int)≥0)=true by rfl,ct,Al (by simp),ct,UA (by simp)]
   rw[C0];unfold Dq
   rw[i64 (by simp),show(((1:Nat):Int) - 1)=((0:Nat):Int) by rfl,show decide (((0:Nat):Int)≥0)=true by rfl,ct,Al (by simp),ct,UA (by simp)]
   rw[C0];unfold Dq
   rw[i64 (by simp),show decide ((((0:Nat):Int) - 1)≥0)=false by rfl,cf]
   have o1:=Ahg (a:=0) (b:=y) (by omega) k
   have o2:=Ahg (a:=y) (b:=x) k i
   simp only[List.getElem_cons_zero,List.getElem_cons_succ]
   rw[Fv (show y<18446744073709551616 by omega),Fv (show x<18446744073709551616 by omega),show(0:Int)=((0:Nat):Int) by rfl,o1,Nat.zero_mul,Nat.zero_add,o2,e]
 ·have:¬ (Af (val l)).length≤2:=fun u=>h (UE u)
  rw[if_neg h,show decide ((((Af (val l)).length:Nat):Int)>2)=true by simp;omega,ct]
theorem pO {N:Nat} {x y:List Nat} {K:Int→O R} (e:Ad x) (f:Ad y) (k:x.length≤1000000000000) (l:x.length=y.length):∀ (i b:Nat),i≤x.length→i<b →
  E4 N K x.length y.length (Aa x) (Aa y) b ((i:Int) - 1)=K (Fo (val (x.take i)) (val (y.take i)))
 | 0,b+1,_,_=>by
  rw[E4];unfold K7
  rw[show decide ((((0:Nat):Int) - 1)≥0)=false by simp,cf]
  simp[Xr]
 | i+1,b+1,m,n=>by
  rw[E4];unfold K7
  rw[show(((i+1:Nat):Int) - 1)=(i:Int) by omega,show decide ((i:Int)≥0)=true by simp,ct,Al (by omega),ct,UA (by omega),Al (by omega),ct,UA (by omega),ct,UA (by omega),ct,UA (by omega),i64 (by omega),
   pO e f k l i b (by omega) (by omega),Aq (by omega),Aq (by omega)]
  have c:=Be (Bo e i)
  have d:=Be (Bo f i)
  rw[List.length_take,Nat.min_eq_left (by omega)] at c d
  by_cases c1:x[i]<y[i]
  ·have:=gG c d c1
   rw[show decide (((x[i]:Nat):Int)<((y[i]:Nat):Int))=true by simp;exact c1,ct]
   unfold Fo;rw[if_pos this]
  ·by_cases j:y[i]<x[i]
   ·have:=gG d c j
    rw[show decide (((x[i]:Nat):Int)<((y[i]:Nat):Int))=false by simp;omega,cf,show decide (((x[i]:Nat):Int)>((y[i]:Nat):Int))=true by simp;exact j,ct]
    unfold Fo;rw[if_neg (by omega),if_pos this]
   ·have:x[i]=y[i]:=by omega
    rw[show decide (((x[i]:Nat):Int)<((y[i]:Nat):Int))=false by simp;omega,cf,show decide (((x[i]:Nat):Int)>((y[i]:Nat):Int))=false by simp;omega,cf,this]
    unfold Fo
    congr 1
    by_cases a1:val (x.take i)<val (y.take i)
    ·rw[if_pos a1,if_pos (by omega)]
    ·by_cases a2:val (y.take i)<val (x.take i)
     ·rw[if_neg a1,if_pos a2,if_neg (by omega),if_pos (by omega)]
     ·rw[if_neg a1,if_neg a2,if_neg (by omega),if_neg (by omega)]
theorem Abh {N:Nat} {a b:List Nat} {n m:Nat} {t o t' o':Bool} {K:Int→O R} (j:n=a.length) (k:m=b.length) (d:Ad a) (e:Ad b) (c:fit (a.length+b.length) N) :
  Lw N (Aa a) n t o (Aa b) m t' o' K=K (Fo (val a) (val b)):=by
 subst j k
 have l:=c.1;have q:=c.2
 rw[CD];unfold Qx
 dsimp only
 rw[Cf rfl d (c.le (by omega)),Cf rfl e (c.le (by omega))]
 have la:=(A3 d).2
 have lb:=(A3 e).2
 by_cases f:(Af (val a)).length=(Af (val b)).length
 ·rw[show((((Af (val a)).length:Nat):Int) != (((Af (val b)).length:Nat):Int))=false by simp;omega,cf,i64 (by omega),pO (Ab _) (Ab _) (by omega) f _ N (Nat.le_refl _) (by omega),List.take_length,f,List.take_length,Ac,Ac]
 ·rw[show((((Af (val a)).length:Nat):Int) != (((Af (val b)).length:Nat):Int))=true by simp;omega,ct]
  by_cases i:(Af (val a)).length<(Af (val b)).length
  ·have:=Zu i
   rw[T6 i,ct]
   unfold Fo;rw[if_pos this]
  ·have:=Zu (show(Af (val b)).length<(Af (val a)).length by omega)
   rw[BV (by omega),cf]
   unfold Fo;rw[if_neg (by omega),if_pos this]
end
end Gx

namespace Gx
open Go Go.Proofs
open IntKind (wrap)
set_option maxRecDepth 100000
noncomputable section
variable {R:Type} (N:Nat)
def GL (f:LA) (m:Bool) (e:LA) (l:Bool) (r0:LA→LA→Bool→O R):O R :=
 (Kk 1 (f.drop 1) fun p q=>(Kk 1 (e.drop 1) fun r s=>(Lj N p q false m r s false l (fun n o t u v=>(cond (!t) (r0 [(.bool false),.nsl] [(.bool false),.nsl] false) (Pa f fun w=>(Pa e fun x=>(Dc N (!(w==x)) (u.take (n*1)) n false true (fun b=>(Pa f fun y=>(Dc N y (v.take (o*1)) o false true (fun c=>(cond ((Nat.beq 0 0)&&((Nat.beq (b.length) 2)&&(Nat.beq 2 2))) (cond ((Nat.beq 0 0)&&((Nat.beq (c.length) 2)&&(Nat.beq 2 2))) (Pa c fun z=>(cond z (cond (Nat.ble 2 (c.length)) (cond (Nat.ble 2 (e.length)) (gK N (e.take 2) l (fun aa=>(Qy N (c.take 2) false aa false (fun d=>(cond ((Nat.beq (d.length) 2)&&((Nat.ble 2 (c.length))&&(!false))) (Pa e fun ab=>(cond ab (cond (Nat.ble 2 (b.length)) (B5 N 1 (fun ac=>(Qy N (b.take 2) false ac false (fun g=>(cond ((Nat.beq (g.length) 2)&&((Nat.ble 2 (b.length))&&(!false))) (cond (Nat.ble 2 ((setCells b 0 g).length)) (cond (Nat.ble 2 ((setCells c 0 d).length)) (cond ((Nat.beq (((setCells b 0 g).take 2).length) 2)&&((Nat.ble 2 ((setCells b 0 g).length))&&(!false))) (cond ((Nat.beq (((setCells c 0 d).take 2).length) 2)&&((Nat.ble 2 ((setCells c 0 d).length))&&(!false))) (cond (Nat.ble 2 ((setCells (setCells b 0 g) 0 ((setCells b 0 g).take 2)).length)) (cond (Nat.ble 2 ((setCells (setCells c 0 d) 0 ((setCells c 0 d).take 2)).length)) (r0 ((setCells (setCells b 0 g) 0 ((setCells b 0 g).take 2)).take 2) ((setCells (setCells c 0 d) 0 ((setCells c 0 d).take 2)).take 2) true) none) none) none) none) none) none) none))))) none) (cond (Nat.ble 2 (b.length)) (B5 N 1 (fun ad=>(gL N (b.take 2) false ad false (fun i=>(cond ((Nat.beq (i.length) 2)&&((Nat.ble 2 (b.length))&&(!false))) (cond (Nat.ble 2 ((setCells b 0 i).length)) (cond (Nat.ble 2 ((setCells c 0 d).length)) (cond ((Nat.beq (((setCells b 0 i).take 2).length) 2)&&((Nat.ble 2 ((setCells b 0 i).length))&&(!false))) (cond ((Nat.beq (((setCells c 0 d).take 2).length) 2)&&((Nat.ble 2 ((setCells c 0 d).length))&&(!false))) (cond (Nat.ble 2 ((setCells (setCells b 0 i) 0 ((setCells b 0 i).take 2)).length)) (cond (Nat.ble 2 ((setCells (setCells c 0 d) 0 ((setCells c 0 d).take 2)).length)) (r0 ((setCells (setCells b 0 i) 0 ((setCells b 0 i).take 2)).take 2) ((setCells (setCells c 0 d) 0 ((setCells c 0 d).take 2)).take 2) true) none) none) none) none) none) none) none))))) none))) none))))) none) none) (cond (Nat.ble 2 (b.length)) (cond (Nat.ble 2 (c.length)) (cond ((Nat.beq ((b.take 2).length) 2)&&((Nat.ble 2 (b.length))&&(!false))) (cond ((Nat.beq ((c.take 2).length) 2)&&((Nat.ble 2 (c.length))&&(!false))) (cond (Nat.ble 2 ((setCells b 0 (b.take 2)).length)) (cond (Nat.ble 2 ((setCells c 0 (c.take 2)).length)) (r0 ((setCells b 0 (b.take 2)).take 2) ((setCells c 0 (c.take 2)).take 2) true) none) none) none) none) none) none))) none) none)))))))))))))
def Ob:=(Ag (@GL R)).1
theorem GM:@Ob R=@GL R:=(Ag _).2
def rU:D8:=[(126,NE N),(83,Em N),(140,xy N),(139,RI N),(32,E2 N),(141,yA N)]
def NH (F:KF R):LA→LA→Bool→O R:=(fun ae af ag=>F (.tup [(.pagg ae false),(.pagg af false),(.bool ag)]) [])
theorem NI (f:LA) (m:Bool) (e:LA) (l:Bool) (F:KF R):Cd (rU N) Adu N 71 [(.pagg f m),(.pagg e l)] [] F=(Ob N f m e l (NH F)):=by
 rw[GM]
 kernel_rfl
def GN (a:LA) (h:Ah) (k:KF R):O R :=
 match a,h with
 | [(.pagg f m),(.pagg e l)],[]=>(Ob N f m e l (NH k))
 | _,_=>none
theorem NJ:An N 71 @GN:=by
 intro R Q a h k j;unfold GN;split;exact As (NI ..) (NI ..) ⟨NF N,En N,xz N,RK N,E3 N,yB N,trivial⟩;exact Av
def nN:=At (NJ N)
def nO:=Cg (NJ N)
def Vi (r0:LA→O R) (e:Bool) (c:LA) (d:Bool) (b:LA):O R :=
 (cond (Nat.ble 2 (c.length)) (cond (Nat.ble 2 (b.length)) (VP N (c.take 2) e (b.take 2) d (fun l=>(cond ((Nat.beq 0 0)&&((Nat.beq (l.length) 2)&&(Nat.beq 2 2))) (cond (Nat.ble 2 (c.length)) (cond (Nat.ble 2 (l.length)) (Ob N (c.take 2) e (l.take 2) false (fun f w af=>(cond ((Nat.beq 0 0)&&((Nat.beq (f.length) 2)&&(Nat.beq 2 2))) (cond ((Nat.beq 0 0)&&((Nat.beq (w.length) 2)&&(Nat.beq 2 2))) (cond (Nat.ble 2 (b.length)) (cond (Nat.ble 2 (l.length)) (Ob N (b.take 2) d (l.take 2) false (fun g x ag=>(cond ((Nat.beq 0 0)&&((Nat.beq (g.length) 2)&&(Nat.beq 2 2))) (cond ((Nat.beq 0 0)&&((Nat.beq (x.length) 2)&&(Nat.beq 2 2))) (Pa g fun y=>(cond y (cond (Nat.ble 2 (f.length)) (KB N (f.take 2) false (fun i=>(cond (Nat.ble 2 (g.length)) (KB N (g.take 2) false (fun v=>(cond ((Nat.beq (i.length) 2)&&((Nat.ble 2 (f.length))&&(!false))) (cond ((Nat.beq (v.length) 2)&&((Nat.ble 2 (g.length))&&(!false))) (cond (Nat.ble 2 ((setCells f 0 i).length)) (Kk 1 ((setCells g 0 v).drop 1) fun o p=>(cond ((Nat.beq (((setCells f 0 i).take 2).length) 2)&&(Nat.ble 2 3)) (cond ((Nat.beq 1 1)&&(Nat.ble 3 ((setCells [(.bool false),.nsl,.nsl] 0 ((setCells f 0 i).take 2)).length))) (cond ((Nat.beq 0 0)&&((Nat.beq (((setCells [(.bool false),.nsl,.nsl] 0 ((setCells f 0 i).take 2)).set 2 (.imm o p 1 false false)).length) 3)&&(Nat.beq 3 3))) (cond (Nat.ble 3 (((setCells [(.bool false),.nsl,.nsl] 0 ((setCells f 0 i).take 2)).set 2 (.imm o p 1 false false)).length)) (r0 (((setCells [(.bool false),.nsl,.nsl] 0 ((setCells f 0 i).take 2)).set 2 (.imm o p 1 false false)).take 3)) none) none) none) none)) none) none) none))) none))) none) (cond (Nat.ble 2 (f.length)) (Kk 1 (g.drop 1) fun q r=>(cond ((Nat.beq ((f.take 2).length) 2)&&(Nat.ble 2 3)) (cond ((Nat.beq 1 1)&&(Nat.ble 3 ((setCells [(.bool false),.nsl,.nsl] 0 (f.take 2)).length))) (cond ((Nat.beq 0 0)&&((Nat.beq (((setCells [(.bool false),.nsl,.nsl] 0 (f.take 2)).set 2 (.imm q r 1 false false)).length) 3)&&(Nat.beq 3 3))) (cond (Nat.ble 3 (((setCells [(.bool false),.nsl,.nsl] 0 (f.take 2)).set 2 (.imm q r 1 false false)).length)) (r0 (((setCells [(.bool false),.nsl,.nsl] 0 (f.take 2)).set 2 (.imm q r 1 false false)).take 3)) none) none) none) none)) none))) none) none))) none) none) none) none))) none) none) none))) none) none)
def KC (r0:LA→O R) (q0:O R) (c:LA) (e:Bool) (b:LA) (d:Bool):O R :=
 (cond (Nat.ble 2 (b.length)) (Pe N (b.take 2) d (fun z=>(cond (z==0) (GD N (fun s=>(cond ((Nat.beq 0 0)&&((Nat.beq (s.length) 3)&&(Nat.beq 3 3))) (cond (Nat.ble 3 (s.length)) (r0 (s.take 3)) none) none))) (cond (Nat.ble 2 (b.length)) (Td N (b.take 2) d (fun n=>(cond ((Nat.beq 0 0)&&((Nat.beq (n.length) 2)&&(Nat.beq 2 2))) (Pa n fun aa=>(cond ((!aa)==true) (Kk 1 (n.drop 1) fun ab ac=>(Lv N ab ac false false [(.int .u32 1)] 1 false true (fun ad=>(cond (cond true ad false) (cond (Nat.ble 2 (c.length)) (Td N (c.take 2) e (fun m=>(Kk 1 (n.drop 1) fun t u=>(cond ((Nat.beq (m.length) 2)&&(Nat.ble 2 3)) (cond ((Nat.beq 1 1)&&(Nat.ble 3 ((setCells [(.bool false),.nsl,.nsl] 0 m).length))) (cond ((Nat.beq 0 0)&&((Nat.beq (((setCells [(.bool false),.nsl,.nsl] 0 m).set 2 (.imm t u 1 false false)).length) 3)&&(Nat.beq 3 3))) (cond (Nat.ble 3 (((setCells [(.bool false),.nsl,.nsl] 0 m).set 2 (.imm t u 1 false false)).length)) (r0 (((setCells [(.bool false),.nsl,.nsl] 0 m).set 2 (.imm t u 1 false false)).take 3)) none) none) none) none)))) none) q0)))) q0)) none))) none)))) none)
def Fq:=(Ag (fun (N:Nat) (c:LA) (e:Bool) (b:LA) (d:Bool) (r0:LA→O R)=>(KC N r0 (Vi N r0 e c d b) c e b d))).1
theorem VQ (c e b d r0):(@Fq R N c e b d r0)=(KC N r0 (Vi N r0 e c d b) c e b d):=by rw[Fq,(Ag _).2]
def db:Hints:={ H:=(hS hL (hS hL (hJ [2,3,4] hL hL))),modes:=[(3,0)] }
def kI:D8:=[(138,GB N),(151,ud N),(26,dH N),(65,Z3 N),(152,xw N),(71,nN N),(153,kC N)]
def ux (F:KF R):=Ov Tryz.f84 db (kI N) [] N F
def Vj (F:KF R):LA→O R:=(fun ae=>F (.pagg ae false) [])
def uy (e:Bool) (c:LA) (d:Bool) (b:LA):St:=⟨[(2,(op 0)),(3,(op 1)),(4,(op 2))],(hq [(bP e 0 c),(bP d 0 b),(bN 0 [(.bool false),.nsl,.nsl])])⟩
def uz (F:KF R):=ux N F [1,1,1] []
theorem kJ (F:KF R) (e:Bool) (c:LA) (d:Bool) (b:LA):Cm (uz N F) (uy e c d b)=(Vi N (Vj F) e c d b):=by
 kernel_rfl
theorem dc (c:LA) (e:Bool) (b:LA) (d:Bool) (F:KF R):Cd (kI N) db N 84 [(.pagg c e),(.pagg b d)] [] F=(Fq N c e b d (Vj F)):=by
 rw[VQ]
 exact Eq.trans (by kernel_rfl) (Da (KC N (Vj F) · c e b d) ((A2 ..).trans (kJ N F e c d b)):_)
def VR (a:LA) (h:Ah) (k:KF R):O R :=
 match a,h with
 | [(.pagg c e),(.pagg b d)],[]=>(Fq N c e b d (Vj k))
 | _,_=>none
theorem dd:An N 84 @VR:=by
 intro R Q a h k j;unfold VR;split;exact As (dc ..) (dc ..) ⟨GC N,ue N,dI N,Z4 N,xx N,nO N,kD N,trivial⟩;exact Av
def Iw:=At (dd N)
def Ix:=Cg (dd N)
def rV (b c:Int) (r0:LA→O R):O R :=
 (B5 N b (fun e=>(B5 N c (fun f=>(Fq N e false f false (fun d=>(cond ((Nat.beq 0 0)&&((Nat.beq (d.length) 3)&&(Nat.beq 3 3))) (cond (Nat.ble 3 (d.length)) (r0 (d.take 3)) none) none)))))))
def E5:=(Ag (@rV R)).1
theorem kK:@E5 R=@rV R:=(Ag _).2
def Aei:D8:=[(32,E2 N),(84,Iw N)]
def pP (F:KF R):LA→O R:=(fun g=>F (.pagg g false) [])
theorem pQ (b c:Int) (F:KF R):Cd (Aei N) Hl N 59 [(iv b),(iv c)] [] F=(E5 N b c (pP F)):=by
 rw[kK]
 kernel_rfl
def kL (a:LA) (h:Ah) (k:KF R):O R :=
 match a,h with
 | [(.int .i64 b),(.int .i64 c)],[]=>(E5 N b c (pP k))
 | _,_=>none
theorem pR:An N 59 @kL:=by
 intro R Q a h k j;unfold kL;split;exact As (pQ ..) (pQ ..) ⟨E3 N,Ix N,trivial⟩;exact Av
def pS:=At (pR N)
def pT:=Cg (pR N)
def Fr (r0:LA→LA→Bool→O R) (g f:Nat) (e:Bool) (b:LA) (d:Bool) (c i l:LA) (m:Bool):O R :=
 (cond m (QO N (i.take (g*1)) g false true [(.int .u32 1)] 1 false true (fun n p=>(Kk 1 (c.drop 1) fun r s=>(Wc N r s false d (l.take (f*1)) f false true (fun o ak q=>(Pa b fun t=>(Pa c fun u=>(Ct N (!(t==u)) n p (fun v=>(Ct N false o q (fun w=>(r0 [(.bool v),(.imm (p.take (n*1)) n 1 false false)] [(.bool w),(.imm (q.take (o*1)) o 1 false false)] true)))))))))))) (Pa b fun x=>(Pa c fun y=>(Ct N (!(x==y)) g i (fun z=>(Ct N false f l (fun aa=>(r0 [(.bool z),(.imm (i.take (g*1)) g 1 false false)] [(.bool aa),(.imm (l.take (f*1)) f 1 false false)] true))))))))
def Z7 (r0:LA→LA→Bool→O R) (q0:Nat→Nat→LA→LA→Bool→O R) (b:LA) (e:Bool) (c:LA) (d:Bool):O R :=
 (Kk 1 (b.drop 1) fun ab ac=>(Kk 1 (c.drop 1) fun ad ae=>(C5 N ab ac false e ad ae false d (fun g f af i l=>(cond (!af) (r0 [(.bool false),.nsl] [(.bool false),.nsl] false) (Pa b fun ag=>(cond (ag==true) (q0 g f i l (cond true (decide (((f:Nat):Int)>0)) false)) (q0 g f i l false))))))))
def Ly:=(Ag (fun (N:Nat) (b:LA) (e:Bool) (c:LA) (d:Bool) (r0:LA→LA→Bool→O R)=>(Z7 N r0 (fun g f i l m=>(Fr N r0 g f e b d c i l m)) b e c d))).1
theorem NK (b e c d r0):(@Ly R N b e c d r0)=(Z7 N r0 (fun g f i l m=>(Fr N r0 g f e b d c i l m)) b e c d):=by rw[Ly,(Ag _).2]
def VS:Hints:={ H:=(hS hL (hS hL (hS hL (hS (hJ [2,3,4,5,7,8,28] hL hL) hL)))),modes:=[(3,0),(3,0),(0,0)] }
def de:D8:=[(134,Zv N),(135,oc N),(136,aL N),(132,G3 N)]
def rW (F:KF R):=Ov Tryz.f67 VS (de N) [] N F
def Qz (F:KF R):LA→LA→Bool→O R:=(fun ah ai aj=>F (.tup [(.pagg ah false),(.pagg ai false),(.bool aj)]) [])
def rX (g f:Nat) (e:Bool) (b:LA) (d:Bool) (c i l:LA) (m:Bool):St:=⟨[(2,(op 0)),(3,(op 1)),(4,(op 2)),(5,(op 3)),(7,(.own 300004 0 g)),(8,(.own 300005 0 f)),(28,(.bool m))],(hq [(bP e 0 b),(bP d 0 c),(bN 0 [(.bool false),.nsl]),(bN 0 [(.bool false),.nsl]),(bQ 1 i),(bQ 1 l)])⟩
def rY (F:KF R):=rW N F [1,1,1,0,1] []
theorem fZ (F:KF R) (g f:Nat) (e:Bool) (b:LA) (d:Bool) (c i l:LA):∀ (m:Bool),Cm (rY N F) (rX g f e b d c i l m)=(Fr N (Qz F) g f e b d c i l m):=by
 intro m
 kernel_rfl
theorem VT (b:LA) (e:Bool) (c:LA) (d:Bool) (F:KF R):Cd (de N) VS N 67 [(.pagg b e),(.pagg c d)] [] F=(Ly N b e c d (Qz F)):=by
 rw[NK]
 exact Eq.trans (by kernel_rfl) (Da (Z7 N (Qz F) · b e c d) (funext fun g=>funext fun f=>funext fun i=>funext fun l=>funext fun m=>(A2 ..).trans (fZ N F g f e b d c i l m)):_)
def NL (a:LA) (h:Ah) (k:KF R):O R :=
 match a,h with
 | [(.pagg b e),(.pagg c d)],[]=>(Ly N b e c d (Qz k))
 | _,_=>none
theorem VU:An N 67 @NL:=by
 intro R Q a h k j;unfold NL;split;exact As (VT ..) (VT ..) ⟨Zw N,od N,aM N,G4 N,trivial⟩;exact Av
def rZ:=At (VU N)
def r7:=Cg (VU N)
def GO (b:LA) (d:Bool) (c:LA) (e:Bool) (r0:Int→O R):O R :=
 (cond (Nat.ble 2 (b.length)) (Jx N (b.take 2) d (fun f=>(cond (Nat.ble 2 (c.length)) (Jx N (c.take 2) e (fun g=>(cond (decide (f<g)) (r0 (-1)) (cond (decide (f>g)) (r0 1) (cond (decide (f<0)) (Kk 1 (c.drop 1) fun i l=>(Kk 1 (b.drop 1) fun m n=>(Cy N i l false e m n false d (fun o=>(r0 o))))) (Kk 1 (b.drop 1) fun p q=>(Kk 1 (c.drop 1) fun r s=>(Cy N p q false d r s false e (fun t=>(r0 t)))))))))) none))) none)
def Ti:=(Ag (@GO R)).1
theorem GP:@Ti R=@GO R:=(Ag _).2
def r8:D8:=[(125,Si N),(131,Jv N)]
def NM (F:KF R):Int→O R:=(fun u=>F (iv u) [])
theorem NN (b:LA) (d:Bool) (c:LA) (e:Bool) (F:KF R):Cd (r8 N) C1 N 63 [(.pagg b d),(.pagg c e)] [] F=(Ti N b d c e (NM F)):=by
 rw[GP]
 kernel_rfl
def GQ (a:LA) (h:Ah) (k:KF R):O R :=
 match a,h with
 | [(.pagg b d),(.pagg c e)],[]=>(Ti N b d c e (NM k))
 | _,_=>none
theorem NO:An N 63 @GQ:=by
 intro R Q a h k j;unfold GQ;split;exact As (NN ..) (NN ..) ⟨Sj N,Jw N,trivial⟩;exact Av
def nP:=At (NO N)
def nQ:=Cg (NO N)
def r9 (b:LA) (c:Bool) (r0:Bool→Nat→LA→O R):O R :=
 (Kk 1 (b.drop 1) fun f g=>(Mn N f g false c (fun d e=>(Ct N false d e (fun i=>(r0 i d e))))))
def kM:=(Ag (@r9 R)).1
theorem kN:@kM R=@r9 R:=(Ag _).2
def Aej:D8:=[(212,N1 N),(132,G3 N)]
def pU (F:KF R):Bool→Nat→LA→O R:=(fun l m n=>F (.agg [(.bool l),(.own 300000 0 m)]) (hq [(bQ 1 n)]))
theorem pV (b:LA) (c:Bool) (F:KF R):Cd (Aej N) C1 N 200 [(.pagg b c)] [] F=(kM N b c (pU F)):=by
 rw[kN]
 kernel_rfl
def kO (a:LA) (h:Ah) (k:KF R):O R :=
 match a,h with
 | [(.pagg b c)],[]=>(kM N b c (pU k))
 | _,_=>none
theorem pW:An N 200 @kO:=by
 intro R Q a h k j;unfold kO;split;exact As (pV ..) (pV ..) ⟨N2 N,G4 N,trivial⟩;exact Av
def Abi:=At (pW N)
def Abj:=Cg (pW N)
def Pg (N:Nat) (r0:Int→Bool→O R) (d:Int) (c:Bool) (b:LA) (e:Bool):O R :=
 (cond e (r0 (wrap .i64 (wrap .u64 ((0:Int) - d))) true) (Pa b fun f=>(cond ((!f)==true) (cond (cond true (decide (d<9223372036854775808)) false) (r0 (wrap .i64 d) true) (r0 0 false)) (r0 0 false))))
def KD (r0:Int→Bool→O R) (q0:Int→Bool→O R) (b:LA) (c:Bool):O R :=
 (Kk 1 (b.drop 1) fun g i=>(N5 N g i false c (fun d l=>(cond (!l) (r0 0 false) (Pa b fun m=>(cond (m==true) (q0 d (cond true (decide (d≤9223372036854775808)) false)) (q0 d false)))))))
def Ph:=(Ag (fun (N:Nat) (b:LA) (c:Bool) (r0:Int→Bool→O R)=>(KD N r0 (fun d e=>(Pg N r0 d c b e)) b c))).1
theorem VV (b c r0):(@Ph R N b c r0)=(KD N r0 (fun d e=>(Pg N r0 d c b e)) b c):=by rw[Ph,(Ag _).2]
def df:Hints:={ H:=(hS hL (hS hL (hS (hS (hS hL (hS hL (hJ [1,4,15] hL hL))) hL) hL))) }
def kP:D8:=[(210,TW N)]
def vA (F:KF R):=Ov Tryz.f201 df (kP N) [] N F
def Vk (F:KF R):Int→Bool→O R:=(fun n o=>F (.tup [(iv n),(.bool o)]) [])
def vB (d:Int) (c:Bool) (b:LA) (e:Bool):St:=⟨[(1,(op 0)),(4,(.int .u64 d)),(15,(.bool e))],(hq [(bP c 0 b)])⟩
def vC (F:KF R):=vA N F [1,1,0,0,1,1,1] []
theorem kQ (F:KF R) (d:Int) (c:Bool) (b:LA):∀ (e:Bool),Cm (vC N F) (vB d c b e)=(Pg N (Vk F) d c b e):=by
 intro e
 kernel_rfl
theorem dg (b:LA) (c:Bool) (F:KF R):Cd (kP N) df N 201 [(.pagg b c)] [] F=(Ph N b c (Vk F)):=by
 rw[VV]
 exact Eq.trans (by kernel_rfl) (Da (KD N (Vk F) · b c) (funext fun d=>funext fun e=>(A2 ..).trans (kQ N F d c b e)):_)
def VW (a:LA) (h:Ah) (k:KF R):O R :=
 match a,h with
 | [(.pagg b c)],[]=>(Ph N b c (Vk k))
 | _,_=>none
theorem dh:An N 201 @VW:=by
 intro R Q a h k j;unfold VW;split;exact As (dg ..) (dg ..) ⟨TX N,trivial⟩;exact Av
def vD:=At (dh N)
def vE:=Cg (dh N)
def Yc (r0:LA→O R) (d:Bool) (b:LA) (e:Bool) (c:LA):O R :=
 (cond (Nat.ble 3 (b.length)) (Pc N (b.take 3) d (fun f o p q r=>(cond ((Nat.beq 0 0)&&((Nat.beq (f.length) 2)&&(Nat.beq 2 2))) (cond (Nat.ble 3 (c.length)) (Pc N (c.take 3) e (fun g s t u v=>(cond ((Nat.beq 0 0)&&((Nat.beq (g.length) 2)&&(Nat.beq 2 2))) (cond (Nat.ble 2 (f.length)) (cond (Nat.ble 2 (g.length)) (Wb N (f.take 2) o (g.take 2) s (fun w m x=>(Zp N p q false r t u false v (fun n y=>(Oa N [(.bool w),(.imm (x.take (m*1)) m 1 false true)] true (y.take (n*1)) n false true (fun i=>(cond ((Nat.beq 0 0)&&((Nat.beq (i.length) 3)&&(Nat.beq 3 3))) (cond (Nat.ble 3 (i.length)) (r0 (i.take 3)) none) none))))))) none) none) none))) none) none))) none)
def KE (r0:LA→O R) (q0:O R) (b:LA) (d:Bool) (c:LA) (e:Bool):O R :=
 (cond (Nat.ble 3 (b.length)) (Kr N (b.take 3) d (fun z aa ab=>(cond (Nat.ble 3 (c.length)) (Kr N (c.take 3) e (fun ac ad ae=>(cond (ab==true) (cond (cond true ae false) (Gq N (wrap .i64 (z*ac)) (wrap .i64 (aa*ad)) (fun l=>(cond ((Nat.beq 0 0)&&((Nat.beq (l.length) 3)&&(Nat.beq 3 3))) (cond (Nat.ble 3 (l.length)) (r0 (l.take 3)) none) none))) q0) q0))) none))) none)
def Z8:=(Ag (fun (N:Nat) (b:LA) (d:Bool) (c:LA) (e:Bool) (r0:LA→O R)=>(KE N r0 (Yc N r0 d b e c) b d c e))).1
theorem Z9 (b d c e r0):(@Z8 R N b d c e r0)=(KE N r0 (Yc N r0 d b e c) b d c e):=by rw[Z8,(Ag _).2]
def pX:Hints:={ H:=(hS hL (hS hL (hS hL (hJ [2,3,4] hL hL)))),modes:=[(3,0)] }
def vF:D8:=[(127,ch N),(128,FI N),(130,FK N),(68,aG N),(137,aE N),(129,UU N)]
def Abk (F:KF R):=Ov Tryz.f76 pX (vF N) [] N F
def KG (F:KF R):LA→O R:=(fun af=>F (.pagg af false) [])
def Abl (d:Bool) (b:LA) (e:Bool) (c:LA):St:=⟨[(2,(op 0)),(3,(op 1)),(4,(op 2))],(hq [(bP d 0 b),(bP e 0 c),(bN 0 [(.bool false),.nsl,.nsl])])⟩
def Abm (F:KF R):=Abk N F [1,1,1,1] []
theorem r_ (F:KF R) (d:Bool) (b:LA) (e:Bool) (c:LA):Cm (Abm N F) (Abl d b e c)=(Yc N (KG F) d b e c):=by
 kernel_rfl
theorem pY (b:LA) (d:Bool) (c:LA) (e:Bool) (F:KF R):Cd (vF N) pX N 76 [(.pagg b d),(.pagg c e)] [] F=(Z8 N b d c e (KG F)):=by
 rw[Z9]
 exact Eq.trans (by kernel_rfl) (Da (KE N (KG F) · b d c e) ((A2 ..).trans (r_ N F d b e c)):_)
def kR (a:LA) (h:Ah) (k:KF R):O R :=
 match a,h with
 | [(.pagg b d),(.pagg c e)],[]=>(Z8 N b d c e (KG k))
 | _,_=>none
theorem pZ:An N 76 @kR:=by
 intro R Q a h k j;unfold kR;split;exact As (pY ..) (pY ..) ⟨ci N,FJ N,FL N,aH N,aF N,UV N,trivial⟩;exact Av
def bH:=At (pZ N)
def bI:=Cg (pZ N)
def AA (b:LA) (d:Bool) (c:LA) (e:Bool) (r0:Bool→O R):O R :=
 (Pa b fun f=>(Pa c fun g=>(cond ((f==g)==true) (Kk 1 (b.drop 1) fun i l=>(Kk 1 (c.drop 1) fun m n=>(Lv N i l false d m n false e (fun o=>(r0 (cond true o false)))))) (r0 false))))
def Oc:=(Ag (@AA R)).1
theorem We:@Oc R=@AA R:=(Ag _).2
def vG:D8:=[(65,Z3 N)]
def VX (F:KF R):Bool→O R:=(fun p=>F (.bool p) [])
theorem VY (b:LA) (d:Bool) (c:LA) (e:Bool) (F:KF R):Cd (vG N) C1 N 25 [(.pagg b d),(.pagg c e)] [] F=(Oc N b d c e (VX F)):=by
 rw[We]
 kernel_rfl
def NP (a:LA) (h:Ah) (k:KF R):O R :=
 match a,h with
 | [(.pagg b d),(.pagg c e)],[]=>(Oc N b d c e (VX k))
 | _,_=>none
theorem VZ:An N 25 @NP:=by
 intro R Q a h k j;unfold NP;split;exact As (VY ..) (VY ..) ⟨Z4 N,trivial⟩;exact Av
def ra:=At (VZ N)
def rc:=Cg (VZ N)
def AB (b:LA) (d:Bool) (c:LA) (e:Bool) (r0:Bool→O R):O R :=
 (cond (Nat.ble 2 (b.length)) (cond (Nat.ble 2 (c.length)) (Oc N (b.take 2) d (c.take 2) e (fun f=>(cond (f==true) (Kk 1 (b.drop 2) fun g i=>(Kk 1 (c.drop 2) fun l m=>(Lv N g i false d l m false e (fun n=>(r0 (cond true n false)))))) (r0 false)))) none) none)
def Di:=(Ag (@AB R)).1
theorem Wf:@Di R=@AB R:=(Ag _).2
def vH:D8:=[(25,ra N),(65,Z3 N)]
def V_ (F:KF R):Bool→O R:=(fun o=>F (.bool o) [])
theorem V' (b:LA) (d:Bool) (c:LA) (e:Bool) (F:KF R):Cd (vH N) C1 N 27 [(.pagg b d),(.pagg c e)] [] F=(Di N b d c e (V_ F)):=by
 rw[Wf]
 kernel_rfl
def NQ (a:LA) (h:Ah) (k:KF R):O R :=
 match a,h with
 | [(.pagg b d),(.pagg c e)],[]=>(Di N b d c e (V_ k))
 | _,_=>none
theorem WA:An N 27 @NQ:=by
 intro R Q a h k j;unfold NQ;split;exact As (V' ..) (V' ..) ⟨rc N,Z4 N,trivial⟩;exact Av
def WB:=At (WA N)
def WC:=Cg (WA N)
def bJ (b:LA) (c:Bool) (r0:LA→O R):O R :=
 (cond (Nat.ble 2 (b.length)) (Kk 1 (b.drop 2) fun e f=>(Fq N (b.take 2) c [(.bool false),(.imm e f 1 false c)] (c||false) (fun d=>(cond ((Nat.beq 0 0)&&((Nat.beq (d.length) 3)&&(Nat.beq 3 3))) (cond (Nat.ble 3 (d.length)) (r0 (d.take 3)) none) none)))) none)
def Hs:=(Ag (@bJ R)).1
theorem WD:@Hs R=@bJ R:=(Ag _).2
def yC:D8:=[(84,Iw N)]
def di (F:KF R):LA→O R:=(fun g=>F (.pagg g false) [])
theorem dj (b:LA) (c:Bool) (F:KF R):Cd (yC N) Hl N 28 [(.pagg b c)] [] F=(Hs N b c (di F)):=by
 rw[WD]
 kernel_rfl
def WE (a:LA) (h:Ah) (k:KF R):O R :=
 match a,h with
 | [(.pagg b c)],[]=>(Hs N b c (di k))
 | _,_=>none
theorem dk:An N 28 @WE:=by
 intro R Q a h k j;unfold WE;split;exact As (dj ..) (dj ..) ⟨Ix N,trivial⟩;exact Av
def Pi:=At (dk N)
def Pj:=Cg (dk N)
def Vl (N:Nat) (k0:Nat→Int→LA→O R) (r0:Nat→LA→O R) (d:LA) (c:Nat) (f g:Bool) (e:LA) (b:Nat) (i l:Bool) (m:Nat) (k1:Int→Int→Int→LA→O R) (o t p:Int) (s:LA):O R :=
 (cond (decide (p<((b:Nat):Int))) (cond (Aj (wrap .i64 (o+p)) m) (Bw .u32 (s.drop (0+(((wrap .i64 (o+p)).toNat)*1))) fun u=>(cond (Aj o c) (Bw .u32 (d.drop ((o.toNat)*1)) fun v=>(cond (Aj p b) (Bw .u32 (e.drop ((p.toNat)*1)) fun w=>(cond (Aj (wrap .i64 (o+p)) m) (cond ((Nat.beq 1 1)&&((Nat.ble ((0+(((wrap .i64 (o+p)).toNat)*1))+1) (s.length))&&(!false))) (k1 o (Int.fdiv (wrap .u64 (t+(wrap .u64 ((wrap .u64 u)+(wrap .u64 ((wrap .u64 v)*(wrap .u64 w))))))) (2 ^ 32)) (wrap .i64 (p+1)) (s.set (0+(((wrap .i64 (o+p)).toNat)*1)) (.int .u32 (wrap .u32 (wrap .u64 (t+(wrap .u64 ((wrap .u64 u)+(wrap .u64 ((wrap .u64 v)*(wrap .u64 w))))))))))) none) none)) none)) none)) none) (cond (Aj (wrap .i64 (o+((b:Nat):Int))) m) (cond ((Nat.beq 1 1)&&((Nat.ble ((0+(((wrap .i64 (o+((b:Nat):Int))).toNat)*1))+1) (s.length))&&(!false))) (k0 m (wrap .i64 (o+1)) (s.set (0+(((wrap .i64 (o+((b:Nat):Int))).toNat)*1)) (.int .u32 (wrap .u32 t)))) none) none))
def Lk (k0:Nat→Int→LA→O R) (r0:Nat→LA→O R) (d:LA) (c:Nat) (f g:Bool) (e:LA) (b:Nat) (i l:Bool) (m:Nat):Nat→Int→Int→Int→LA→O R
 | 0,_,_,_,_=>none
 | n+1,o,t,p,s=>(Vl N k0 r0 d c f g e b i l m (Lk k0 r0 d c f g e b i l m n) o t p s)
def Vm (r0:Nat→LA→O R) (d:LA) (c:Nat) (f g:Bool) (e:LA) (b:Nat) (i l:Bool) (k0:Nat→Int→LA→O R) (q1:Int→Int→Int→LA→O R) (m:Nat) (q:Int) (r:LA):O R :=
 (cond (decide (q<((c:Nat):Int))) (q1 q 0 0 r) (Ck N (r.take (m*1)) m false true (fun x y=>(r0 x y))))
def Hb (r0:Nat→LA→O R) (d:LA) (c:Nat) (f g:Bool) (e:LA) (b:Nat) (i l:Bool):Nat→Nat→Int→LA→O R
 | 0,_,_,_=>none
 | n+1,m,q,r=>(Vm N r0 d c f g e b i l (Hb r0 d c f g e b i l n) (fun o t p s=>(Lk N (Hb r0 d c f g e b i l n) r0 d c f g e b i l m N o t p s)) m q r)
def WF (N:Nat) (r0:Nat→LA→O R) (q0:Nat→Int→LA→O R) (d:LA) (c:Nat) (f g:Bool) (e:LA) (b:Nat) (i l:Bool):O R :=
 (cond ((decide (0≤(wrap .i64 (((c:Nat):Int)+((b:Nat):Int)))))&&((decide ((wrap .i64 (((c:Nat):Int)+((b:Nat):Int)))≤(wrap .i64 (((c:Nat):Int)+((b:Nat):Int)))))&&((decide ((wrap .i64 (((c:Nat):Int)+((b:Nat):Int)))≤140737488355328))&&(decide (((wrap .i64 (((c:Nat):Int)+((b:Nat):Int)))*((4:Nat):Int))≤140737488355328))))) (q0 ((wrap .i64 (((c:Nat):Int)+((b:Nat):Int))).toNat) 0 (List.replicate ((wrap .i64 (((c:Nat):Int)+((b:Nat):Int))).toNat) (.int .u32 0))) none)
def KH:=(Ag (fun (N:Nat) (d:LA) (c:Nat) (f g:Bool) (e:LA) (b:Nat) (i l:Bool) (r0:Nat→LA→O R)=>(WF N r0 (fun m q r=>(Hb N r0 d c f g e b i l N m q r)) d c f g e b i l))).1
theorem dl (d c f g e b i l r0):(@KH R N d c f g e b i l r0)=(WF N r0 (fun m q r=>(Hb N r0 d c f g e b i l N m q r)) d c f g e b i l):=by rw[KH,(Ag _).2]
def kS:Hints:={ H:=(hS hL (hS hL (hS (hS hL (hS (hP [0,1,5,6] (hS hL (hS (hS (hS hL (hS (hS hL (hS (hP [0,1,5,6,7,8] hL) hL)) hL)) hL) hL))) hL)) hL))),nils:=[(4,1)],modes:=[(2,1)] }
def p8:D8:=[(150,Ek N)]
def kT (F:KF R):=Ov Tryz.f156 kS (p8 N) [] N F
def Iy (F:KF R):Nat→LA→O R:=(fun z aa=>F (.own 300000 0 z) (hq [(bQ 1 aa)]))
def yD (d:LA) (c:Nat) (f g:Bool) (e:LA) (b:Nat) (i l:Bool) (m:Nat) (o t p:Int) (s:LA):St:=⟨[(0,(.imm d c 1 f g)),(1,(.imm e b 1 i l)),(5,(.own 300000 0 m)),(6,(iv o)),(7,(.int .u64 t)),(8,(iv p))],(hq [(bQ 1 s)])⟩
def yE (F:KF R) (Q0:St→O R):=kT N F [1,1,0,1,0,0,1,0,0,1,0,1,0] [Q0]
def RM (d:LA) (c:Nat) (f g:Bool) (e:LA) (b:Nat) (i l:Bool) (m:Nat) (q:Int) (r:LA):St:=⟨[(0,(.imm d c 1 f g)),(1,(.imm e b 1 i l)),(5,(.own 300000 0 m)),(6,(iv q))],(hq [(bQ 1 r)])⟩
def kU (F:KF R):=kT N F [1,1,0,1,0] []
theorem NR (Q0:St→O R) (F:KF R) (d:LA) (c:Nat) (f g:Bool) (e:LA) (b:Nat) (i l:Bool) (m:Nat):∀ (n:Nat) (o t p:Int) (s:LA),Au (yE N F Q0) n (yD d c f g e b i l m o t p s)=(Lk N (fun m q r=>Q0 (RM d c f g e b i l m q r)) (Iy F) d c f g e b i l m n o t p s)
 | 0,_,_,_,_=>by kernel_rfl
 | n+1,o,t,p,s=>Eq.trans (by kernel_rfl) (Da (Vl N (fun m q r=>Q0 (RM d c f g e b i l m q r)) (Iy F) d c f g e b i l m · o t p s) (funext fun o=>funext fun t=>funext fun p=>funext fun s=>(NR Q0 F d c f g e b i l m n o t p s)):_)
theorem NS (F:KF R) (d:LA) (c:Nat) (f g:Bool) (e:LA) (b:Nat) (i l:Bool):∀ (n m:Nat) (q:Int) (r:LA),Au (kU N F) n (RM d c f g e b i l m q r)=(Hb N (Iy F) d c f g e b i l n m q r)
 | 0,_,_,_=>by kernel_rfl
 | n+1,m,q,r=>have e0:=(funext fun m=>funext fun q=>funext fun r=>(NS F d c f g e b i l n m q r))
  Eq.trans (by kernel_rfl) (uB (Vm N (Iy F) d c f g e b i l · · m q r) e0 (funext fun o=>funext fun t=>funext fun p=>funext fun s=>(Ap ..).trans ((NR N (Au (kU N F) n) F d c f g e b i l m N o t p s).trans (Da (Lk N · (Iy F) d c f g e b i l m N o t p s) e0))):_)
theorem kV (d:LA) (c:Nat) (f g:Bool) (e:LA) (b:Nat) (i l:Bool) (F:KF R):Cd (p8 N) kS N 156 [(.imm d c 1 f g),(.imm e b 1 i l)] [] F=(KH N d c f g e b i l (Iy F)):=by
 rw[dl]
 exact Eq.trans (by kernel_rfl) (Da (WF N (Iy F) · d c f g e b i l) (funext fun m=>funext fun q=>funext fun r=>(Ap ..).trans (NS N F d c f g e b i l N m q r)):_)
def dm (a:LA) (h:Ah) (k:KF R):O R :=
 match a,h with
 | [(.imm d c 1 f g),(.imm e b 1 i l)],[]=>(KH N d c f g e b i l (Iy k))
 | _,_=>none
theorem kW:An N 156 @dm:=by
 intro R Q a h k j;unfold dm;split;exact As (kV ..) (kV ..) ⟨El N,trivial⟩;exact Av
def yF:=At (kW N)
def yG:=Cg (kW N)
def kX (b:LA) (d:Bool) (c:LA) (e:Bool) (r0:LA→O R):O R :=
 (Pa b fun i=>(Pa c fun l=>(Kk 1 (b.drop 1) fun m n=>(Kk 1 (c.drop 1) fun o p=>(KH N m n false d o p false e (fun g q=>(Dc N (!(i==l)) (q.take (g*1)) g false true (fun f=>(cond ((Nat.beq 0 0)&&((Nat.beq (f.length) 2)&&(Nat.beq 2 2))) (cond (Nat.ble 2 (f.length)) (r0 (f.take 2)) none) none)))))))))
def My:=(Ag (@kX R)).1
theorem dn:@My R=@kX R:=(Ag _).2
def Abn:D8:=[(156,yF N),(83,Em N)]
def kY (F:KF R):LA→O R:=(fun r=>F (.pagg r false) [])
theorem kZ (b:LA) (d:Bool) (c:LA) (e:Bool) (F:KF R):Cd (Abn N) Hl N 95 [(.pagg b d),(.pagg c e)] [] F=(My N b d c e (kY F)):=by
 rw[dn]
 kernel_rfl
def dp (a:LA) (h:Ah) (k:KF R):O R :=
 match a,h with
 | [(.pagg b d),(.pagg c e)],[]=>(My N b d c e (kY k))
 | _,_=>none
theorem k5:An N 95 @dp:=by
 intro R Q a h k j;unfold dp;split;exact As (kZ ..) (kZ ..) ⟨yG N,En N,trivial⟩;exact Av
def AC:=At (k5 N)
def AD:=Cg (k5 N)
def RN (b:LA) (c:Bool) (r0:LA→O R):O R :=
 (cond (Nat.ble 2 (b.length)) (B5 N 1 (fun e=>(Fq N (b.take 2) c e false (fun d=>(cond ((Nat.beq 0 0)&&((Nat.beq (d.length) 3)&&(Nat.beq 3 3))) (cond (Nat.ble 3 (d.length)) (r0 (d.take 3)) none) none))))) none)
def Yd:=(Ag (@RN R)).1
theorem NT:@Yd R=@RN R:=(Ag _).2
def vI:D8:=[(32,E2 N),(84,Iw N)]
def WG (F:KF R):LA→O R:=(fun f=>F (.pagg f false) [])
theorem WH (b:LA) (c:Bool) (F:KF R):Cd (vI N) Hl N 30 [(.pagg b c)] [] F=(Yd N b c (WG F)):=by
 rw[NT]
 kernel_rfl
def NU (a:LA) (h:Ah) (k:KF R):O R :=
 match a,h with
 | [(.pagg b c)],[]=>(Yd N b c (WG k))
 | _,_=>none
theorem WI:An N 30 @NU:=by
 intro R Q a h k j;unfold NU;split;exact As (WH ..) (WH ..) ⟨E3 N,Ix N,trivial⟩;exact Av
def re:=At (WI N)
def rf:=Cg (WI N)
def k6 (b:LA) (c:Bool) (r0:LA→O R):O R :=
 (cond (Nat.ble 3 (b.length)) (Hs N (b.take 3) c (fun d=>(Kk 1 (d.drop 2) fun e f=>(r0 [(.bool false),(.imm e f 1 false false)])))) none)
def Vn:=(Ag (@k6 R)).1
theorem dq:@Vn R=@k6 R:=(Ag _).2
def Abo:D8:=[(28,Pi N)]
def k7 (F:KF R):LA→O R:=(fun g=>F (.pagg g false) [])
theorem k8 (b:LA) (c:Bool) (F:KF R):Cd (Abo N) Hl N 87 [(.pagg b c)] [] F=(Vn N b c (k7 F)):=by
 rw[dq]
 kernel_rfl
def dr (a:LA) (h:Ah) (k:KF R):O R :=
 match a,h with
 | [(.pagg b c)],[]=>(Vn N b c (k7 k))
 | _,_=>none
theorem k9:An N 87 @dr:=by
 intro R Q a h k j;unfold dr;split;exact As (k8 ..) (k8 ..) ⟨Pj N,trivial⟩;exact Av
def k_:=At (k9 N)
def kc:=Cg (k9 N)
def ke (b:LA) (d:Bool) (c:LA) (e:Bool) (r0:LA→O R):O R :=
 (cond (Nat.ble 3 (b.length)) (Hs N (b.take 3) d (fun g=>(cond (Nat.ble 2 (g.length)) (cond (Nat.ble 3 (c.length)) (Hs N (c.take 3) e (fun i=>(cond (Nat.ble 2 (i.length)) (My N (g.take 2) false (i.take 2) false (fun l=>(cond (Nat.ble 3 (b.length)) (Vn N (b.take 3) d (fun m=>(cond (Nat.ble 3 (c.length)) (Vn N (c.take 3) e (fun n=>(My N m false n false (fun o=>(Fq N l false o false (fun f=>(cond ((Nat.beq 0 0)&&((Nat.beq (f.length) 3)&&(Nat.beq 3 3))) (cond (Nat.ble 3 (f.length)) (r0 (f.take 3)) none) none))))))) none))) none))) none))) none) none))) none)
def AE:=(Ag (@ke R)).1
theorem dt:@AE R=@ke R:=(Ag _).2
def Abp:D8:=[(28,Pi N),(95,AC N),(87,k_ N),(84,Iw N)]
def kf (F:KF R):LA→O R:=(fun p=>F (.pagg p false) [])
theorem kg (b:LA) (d:Bool) (c:LA) (e:Bool) (F:KF R):Cd (Abp N) Hl N 41 [(.pagg b d),(.pagg c e)] [] F=(AE N b d c e (kf F)):=by
 rw[dt]
 kernel_rfl
def du (a:LA) (h:Ah) (k:KF R):O R :=
 match a,h with
 | [(.pagg b d),(.pagg c e)],[]=>(AE N b d c e (kf k))
 | _,_=>none
theorem ki:An N 41 @du:=by
 intro R Q a h k j;unfold du;split;exact As (kg ..) (kg ..) ⟨Pj N,AD N,kc N,Ix N,trivial⟩;exact Av
def kj:=At (ki N)
def ko:=Cg (ki N)
def AF (b:Int) (r0:LA→O R):O R :=
 (B5 N b (fun d=>(B5 N 1 (fun e=>(Fq N d false e false (fun c=>(cond ((Nat.beq 0 0)&&((Nat.beq (c.length) 3)&&(Nat.beq 3 3))) (cond (Nat.ble 3 (c.length)) (r0 (c.take 3)) none) none)))))))
def Gt:=(Ag (@AF R)).1
theorem CF:@Gt R=@AF R:=(Ag _).2
def nR:D8:=[(32,E2 N),(84,Iw N)]
def GR (F:KF R):LA→O R:=(fun f=>F (.pagg f false) [])
theorem GS (b:Int) (F:KF R):Cd (nR N) Hl N 94 [(iv b)] [] F=(Gt N b (GR F)):=by
 rw[CF]
 kernel_rfl
def CG (a:LA) (h:Ah) (k:KF R):O R :=
 match a,h with
 | [(.int .i64 b)],[]=>(Gt N b (GR k))
 | _,_=>none
theorem GT:An N 94 @CG:=by
 intro R Q a h k j;unfold CG;split;exact As (GS ..) (GS ..) ⟨E3 N,Ix N,trivial⟩;exact Av
def GU:=At (GT N)
def GV:=Cg (GT N)
def bK (b:LA) (c:Bool) (r0:Int→O R):O R :=
 (cond (Nat.ble 3 (b.length)) (Hs N (b.take 3) c (fun d=>(cond (Nat.ble 2 (d.length)) (Pe N (d.take 2) false (fun e=>(r0 e))) none))) none)
def GW:=(Ag (@bK R)).1
theorem WJ:@GW R=@bK R:=(Ag _).2
def yH:D8:=[(28,Pi N),(138,GB N)]
def dv (F:KF R):Int→O R:=(fun f=>F (iv f) [])
theorem dw (b:LA) (c:Bool) (F:KF R):Cd (yH N) C1 N 85 [(.pagg b c)] [] F=(GW N b c (dv F)):=by
 rw[WJ]
 kernel_rfl
def WK (a:LA) (h:Ah) (k:KF R):O R :=
 match a,h with
 | [(.pagg b c)],[]=>(GW N b c (dv k))
 | _,_=>none
theorem dx:An N 85 @WK:=by
 intro R Q a h k j;unfold WK;split;exact As (dw ..) (dw ..) ⟨Pj N,GC N,trivial⟩;exact Av
def vJ:=At (dx N)
def vK:=Cg (dx N)
end
end Gx

namespace Gx
open Go Go.Proofs
section
variable {R:Type}
theorem Aij (a b:Nat):PZ (a:Int) (b:Int)=((max a b:Nat):Int):=by
 unfold PZ
 by_cases h:(b:Int)>(a:Int)
 ·rw[decide_eq_true h];show(b:Int)=_;omega
 ·rw[decide_eq_false h];show(a:Int)=_;omega
theorem p9 {N:Nat} {a b:List Nat} {t o t' o':Bool} {n:Nat} (u:Ad a) (v:Ad b) (x:a.length<n) (y:b.length<n) (L:n≤max a.length b.length+1) (l:fit n N):∀ (m d f:Nat) (S:List Nat) (c:Nat),d+m=n→m<f→Ad S→S.length=n→Aa0 S d→c≤1 →
  val S+4294967296 ^ d*c=val (a.take d)+val (b.take d) →
  ∀ K:Nat→LA→O R,F3 N K (Aa a) a.length t o (Aa b) b.length t' o' f n (c:Int) (d:Int) (Aa S)=K (Af (val a+val b)).length (Aa (Af (val a+val b)))
 | 0,d,f+1,S,c,M,_,hS,q,z,T,A=>by
  intro K
  have B:d=n:=by omega
  subst B
  rw[List.take_of_length_le (by omega),List.take_of_length_le (by omega)] at A
  have C:c=0:=by
   rcases Nat.eq_zero_or_pos c with h | h
   ·exact h
   ·exfalso
    have D:c=1:=by omega
    subst D
    obtain⟨e,rfl⟩:∃ e,d=e+1:=⟨d - 1,by omega⟩
    have x1:=Be u
    have x2:=Be v
    have y1:4294967296 ^ a.length≤4294967296 ^ e:=Nat.pow_le_pow_right (by omega) (by omega)
    have y2:4294967296 ^ b.length≤4294967296 ^ e:=Nat.pow_le_pow_right (by omega) (by omega)
    rw[Nat.pow_succ] at A
    omega
  subst C
  have F:val S=val a+val b:=by omega
  rw[F3];unfold Vb
  rw[BV (Nat.le_refl _),cf,Nat.mul_one,List.take_of_length_le (by rw[Bb];omega),Cf q.symm hS (by rw[q];exact l),F]
 | m+1,d,f+1,S,c,M,U,hS,q,z,T,A=>by
  intro K
  have V:=l.1;have X:=l.2
  have ga:=Rn u d
  have gb:=Rn v d
  have step:∀ s:Nat,s=c+a.getD d 0+b.getD d 0→val (S.set d (s%4294967296))+4294967296 ^ (d+1)*(s/4294967296)=val (a.take (d+1))+val (b.take (d+1)):=by
   intro s G
   rw[Ox z (by omega),Lt a d,Lt b d,Nat.pow_succ]
   have e:=Is (4294967296 ^ d) s
   have Y:4294967296 ^ d*s=4294967296 ^ d*c+4294967296 ^ d*a.getD d 0+4294967296 ^ d*b.getD d 0:=by rw[G,Nat.mul_add,Nat.mul_add]
   omega
  have next:∀ s:Nat,s=c+a.getD d 0+b.getD d 0→F3 N K (Aa a) a.length t o (Aa b) b.length t' o' f n ((s/4294967296:Nat):Int) ((d+1:Nat):Int) (Aa (S.set d (s%4294967296)))=K (Af (val a+val b)).length (Aa (Af (val a+val b))):=by
   intro s G
   exact p9 u v x y L l m (d+1) f (S.set d (s%4294967296)) (s/4294967296) (by omega) (by omega) (Bt hS (by omega) d) (by simpa using q) (Us z) (by omega) (step s G) K
  have second:∀ w:Nat,w=c+a.getD d 0→Te N (F3 N K (Aa a) a.length t o (Aa b) b.length t' o' f) K (Aa a) a.length t o (Aa b) b.length t' o' n (Aa S) (w:Int) (d:Int)=K (Af (val a+val b)).length (Aa (Af (val a+val b))):=by
   intro w I
   unfold Te
   by_cases i:d<b.length
   ·have k:b.getD d 0=b[d]:=by rw[List.getD_eq_getElem?_getD,List.getElem?_eq_getElem i];rfl
    rw[T6 i,ct,Al i,ct,ED i,Al (by omega),ct,oG (by omega),ct,Fv (show b[d]<18446744073709551616 by omega),Wa,Fv (show w+b[d]<18446744073709551616 by omega),ZZ,QJ,FM,wS (by omega)]
    exact next _ (by rw[I,k])
   ·have k:b.getD d 0=0:=by rw[List.getD_eq_getElem?_getD,List.getElem?_eq_none (by omega)];rfl
    rw[BV (by omega),cf,Al (by omega),ct,oG (by omega),ct,ZZ,QJ,FM,wS (by omega)]
    exact next _ (by rw[I,k];rfl)
  rw[F3];unfold Vb
  rw[T6 (by omega),ct]
  by_cases j:d<a.length
  ·have k:a.getD d 0=a[d]:=by rw[List.getD_eq_getElem?_getD,List.getElem?_eq_getElem j];rfl
   rw[T6 j,ct,Al j,ct,ED j,Fv (show a[d]<18446744073709551616 by omega),Wa,Fv (show c+a[d]<18446744073709551616 by omega)]
   exact second _ (by rw[k])
  ·have k:a.getD d 0=0:=by rw[List.getD_eq_getElem?_getD,List.getElem?_eq_none (by omega)];rfl
   rw[BV (by omega),cf]
   exact second _ (by rw[k];rfl)
theorem bL {N:Nat} {a b:List Nat} {n m:Nat} {t o t' o':Bool} {K:Nat→LA→O R} (d:n=a.length) (e:m=b.length) (f:Ad a) (i:Ad b) (c:fit (a.length+b.length+1) N) :
  Vc N (Aa a) n t o (Aa b) m t' o' K=K (Af (val a+val b)).length (Aa (Af (val a+val b))):=by
 subst d e
 have j:=c.1;have k:=c.2
 rw[dS];unfold VK
 rw[Aij,wS (by omega),Acz (by omega),ct,Int.toNat_natCast,B0]
 exact p9 f i (n:=max a.length b.length+1) (by omega) (by omega) (Nat.le_refl _) (c.le (by omega)) (max a.length b.length+1) 0 N (List.replicate (max a.length b.length+1) 0) 0 (by omega) (by omega) (Bs _) (by simp) (H2 _) (by omega) (by rw[Cx];simp[val]) K
theorem p_ {N:Nat} {a b:List Nat} (C:Ad a) (D:Ad b) (t:fit a.length N) (q:b.length≤a.length) (u:val b≤val a):∀ (m d f:Nat) (S:List Nat) (c:Nat),d+m=a.length→m<f→Ad S→S.length=a.length→Aa0 S d→c≤1 →
  val S+val (b.take d)=val (a.take d)+4294967296 ^ d*c →
  ∀ K:Nat→Bool→LA→O R,F4 N K a.length b.length (Aa a) (Aa b) f (c:Int) (d:Int) (Aa S)=K (Af (val a - val b)).length true (Aa (Af (val a - val b)))
 | 0,d,f+1,S,c,G,_,hS,s,v,I,F=>by
  intro K
  have x:d=a.length:=by omega
  subst x
  rw[List.take_length,List.take_of_length_le q] at F
  have k:=Be hS
  rw[s] at k
  have z:c=0:=by
   rcases Nat.lt_or_ge 0 c with h | h
   ·exfalso
    have:c=1:=by omega
    subst this
    omega
   ·omega
  subst z
  have A:val S=val a - val b:=by omega
  rw[F4];unfold Ve
  rw[BV (Nat.le_refl _),cf,Nat.mul_one,List.take_of_length_le (by rw[Bb];omega),Cf s.symm hS (by rw[s];exact t),A]
 | m+1,d,f+1,S,c,G,L,hS,s,v,I,F=>by
  intro K
  have T:=t.1;have U:=t.2
  have i:d<a.length:=by omega
  have ad:=Aw C i
  have gb:=Rn D d
  have step:∀ y g c':Nat,y=c+b.getD d 0→a[d]+4294967296*c'=g+y→val (S.set d g)+val (b.take (d+1))=val (a.take (d+1))+4294967296 ^ (d+1)*c':=by
   intro y g c' n l
   rw[Ox v (by omega),Aq i,Lt b d,Nat.pow_succ,Nat.mul_assoc]
   have e:4294967296 ^ d*(a[d]+4294967296*c')=4294967296 ^ d*(g+(c+b.getD d 0)):=by rw[l,n]
   rw[Nat.mul_add,Nat.mul_add,Nat.mul_add] at e
   omega
  have next:∀ y g c':Nat,g<4294967296→c'≤1→y=c+b.getD d 0→a[d]+4294967296*c'=g+y→F4 N K a.length b.length (Aa a) (Aa b) f (c':Int) ((d+1:Nat):Int) (Aa (S.set d g))=K (Af (val a - val b)).length true (Aa (Af (val a - val b))):=by
   intro y g c' l B n M
   exact p_ C D t q u m (d+1) f (S.set d g) c' (by omega) (by omega) (Bt hS l d) (by simpa using s) (Us v) B (step y g c' n M) K
  have second:∀ y:Nat,y=c+b.getD d 0→Tf N (F4 N K a.length b.length (Aa a) (Aa b) f) K a.length b.length (Aa a) (Aa b) (Aa S) (d:Int) (y:Int)=K (Af (val a - val b)).length true (Aa (Af (val a - val b))):=by
   intro y n
   unfold Tf
   rw[Al i,ct,UA i,Fv (show a[d]<18446744073709551616 by omega)]
   by_cases k:a[d]<y
   ·rw[T6 k,ct,ct,oG (by omega),ct,show((a[d]:Nat):Int)+4294967296=((a[d]+4294967296:Nat):Int) by omega,Fv (show a[d]+4294967296<18446744073709551616 by omega),ZY (by omega) (by omega),zO (by omega),FM,wS (by omega)]
    exact next y (a[d]+4294967296 - y) 1 (by omega) (by omega) n (by omega)
   ·rw[BV (by omega),cf,ct,oG (by omega),ct,ZY (by omega) (by omega),zO (by omega),FM,wS (by omega)]
    exact next y (a[d] - y) 0 (by omega) (by omega) n (by omega)
  rw[F4];unfold Ve
  rw[T6 i,ct]
  by_cases j:d<b.length
  ·have l:b.getD d 0=b[d]:=by rw[List.getD_eq_getElem?_getD,List.getElem?_eq_getElem j];rfl
   rw[T6 j,ct,Al j,ct,UA j,Fv (show b[d]<18446744073709551616 by omega),Wa,Fv (show c+b[d]<18446744073709551616 by omega)]
   exact second _ (by rw[l])
  ·have l:b.getD d 0=0:=by rw[List.getD_eq_getElem?_getD,List.getElem?_eq_none (by omega)];rfl
   rw[BV (by omega),cf]
   exact second _ (by rw[l];rfl)
theorem bM {N:Nat} {a b:List Nat} {n m:Nat} {t o t' o':Bool} {K:Nat→Bool→LA→O R} (j:n=a.length) (k:m=b.length) (e:Ad a) (f:Ad b) (d:fit (a.length+b.length) N) :
  Vf N (Aa a) n t o (Aa b) m t' o' K=if val b≤val a then K (Af (val a - val b)).length true (Aa (Af (val a - val b))) else K 0 false []:=by
 subst j k
 have l:=d.1;have q:=d.2
 have la:=(A3 e).2
 have lb:=(A3 f).2
 rw[dW];unfold VM
 dsimp only
 rw[Abh rfl rfl e f d]
 by_cases c:val b≤val a
 ·have i:=A4 c
  rw[if_pos c,show decide (Fo (val a) (val b)<0)=false by (unfold Fo;rw[if_neg (by omega)];split<;>rfl),cf,Cf rfl e (d.le (by omega)),Cf rfl f (d.le (by omega)),Acz (by omega),ct,B0]
  have:=p_ (R:=R) (N:=N) (a:=Af (val a)) (b:=Af (val b)) (Ab _) (Ab _) (d.le (by omega)) i (by rw[Ac,Ac];exact c) (Af (val a)).length 0 N (List.replicate (Af (val a)).length 0) 0 (by omega) (by omega) (Bs _) (by simp) (H2 _) (by omega) (by rw[Cx];simp[val]) K
  rw[Ac,Ac] at this
  exact this
 ·rw[if_neg c,show decide (Fo (val a) (val b)<0)=true by (unfold Fo;rw[if_pos (by omega)];rfl),ct]
theorem zU {N:Nat} {x y:List Nat} {c d c' d':Bool} {f:Nat} (F:Ad x) (G:Ad y) (t:f<x.length) (L:x.length+y.length≤1000000000000):∀ (m l b:Nat) (S:List Nat) (p:Nat) (v:Nat),l+m=y.length→m<b→Ad S→S.length=x.length+y.length→Aa0 S (f+y.length)→p<4294967296 →
  val S+4294967296 ^ (f+l)*p=v+4294967296 ^ f*(x[f]*val (y.take l)) →
  ∃ S',Ad S'∧S'.length=x.length+y.length∧val S'=v+4294967296 ^ f*(x[f]*val y)∧∀ (n:Nat→Int→LA→O R) (K:Nat→LA→O R),Lk N n K (Aa x) x.length c d (Aa y) y.length c' d' (x.length+y.length) b (f:Int) (p:Int) (l:Int) (Aa S)=n (x.length+y.length) ((f+1:Nat):Int) (Aa S')
 | 0,l,b+1,S,p,v,M,_,hS,i,A,u,B=>by
  have C:l=y.length:=by omega
  subst C
  rw[List.take_length] at B
  refine⟨S.set (f+y.length) p,Bt hS u _,by simpa using i,by rw[Ox A (by omega),B],fun n K=>?_⟩
  rw[Lk];unfold Vl
  rw[BV (Nat.le_refl _),cf,wA (by omega),Al (by omega),ct,oG (by omega),ct,zO u,FM,wS (by omega)]
 | m+1,l,b+1,S,p,v,M,T,hS,i,A,u,B=>by
  have k:l<y.length:=by omega
  have yl:=Aw G k
  have hq:=Aw F t
  have z:f+l<S.length:=by omega
  have sl:=Aw hS z
  have U:=uT u hq yl sl
  have D:x[f]*y[l]<18446744073709551616:=by omega
  generalize q:p+(x[f]*y[l]+S[f+l])=s at *
  have I:=UB (v:=s%4294967296) z
  have key:val (S.set (f+l) (s%4294967296))+4294967296 ^ (f+(l+1))*(s/4294967296)=v+4294967296 ^ f*(x[f]*val (y.take (l+1))):=by
   rw[Aq k,←Nat.add_assoc f l 1,Nat.pow_succ]
   have e:=Is (4294967296 ^ (f+l)) s
   have e2:4294967296 ^ (f+l)*s=4294967296 ^ (f+l)*p+(4294967296 ^ (f+l)*(x[f]*y[l])+4294967296 ^ (f+l)*S[f+l]):=by rw[←q,Nat.mul_add,Nat.mul_add]
   have e3:4294967296 ^ f*(x[f]*(val (y.take l)+4294967296 ^ l*y[l]))=4294967296 ^ f*(x[f]*val (y.take l))+4294967296 ^ (f+l)*(x[f]*y[l]):=by
    rw[Nat.mul_add,Nat.mul_add,Nat.pow_add]
    congr 1
    rw[Nat.mul_assoc];congr 1
    rw[←Nat.mul_assoc,←Nat.mul_assoc,Nat.mul_comm x[f]]
   omega
  obtain⟨S',V,X,Y,q4⟩:=zU (N:=N) (c:=c) (d:=d) (c':=c') (d':=d') F G t L m (l+1) b (S.set (f+l) (s%4294967296)) (s/4294967296) v (by omega) (by omega) (Bt hS (by omega) _) (by simpa using i) (fun j hj hk=>by
   rw[List.getElem_set,if_neg (by omega)];exact A j (by simpa using hj) hk) (by omega) key
  refine⟨S',V,X,Y,fun n K=>?_⟩
  rw[Lk];unfold Vl
  rw[T6 k,ct,wA (by omega),Al (by omega),ct,UA z,Al t,ct,ED t,Al k,ct,ED k,ct,oG z,ct,Fv (show x[f]<18446744073709551616 by omega),Fv (show y[l]<18446744073709551616 by omega),Fv (show S[f+l]<18446744073709551616 by omega),iR,Fv D,Wa,Nat.add_comm S[f+l],Fv (by omega),Wa,q,Fv U,ZZ,QJ,FM,wS (by omega)]
  exact q4 n K
theorem vL {N:Nat} {x y:List Nat} {c d c' d':Bool} (q:Ad x) (s:Ad y) (e:fit (x.length+y.length) N):∀ (m f b:Nat) (S:List Nat),f+m=x.length→m<b→Ad S→S.length=x.length+y.length →
  val S=val (x.take f)*val y →
  ∀ K:Nat→LA→O R,Hb N K (Aa x) x.length c d (Aa y) y.length c' d' b (x.length+y.length) (f:Int) (Aa S)=K (Af (val x*val y)).length (Aa (Af (val x*val y)))
 | 0,f,b+1,S,v,_,hS,i,n=>by
  intro K
  have t:f=x.length:=by omega
  subst t
  rw[List.take_length] at n
  rw[Hb];unfold Vm
  rw[BV (Nat.le_refl _),cf,Nat.mul_one,List.take_of_length_le (by rw[Bb];omega),Cf i.symm hS (by rw[i];exact e),n]
 | m+1,f,b+1,S,v,z,hS,i,n=>by
  intro K
  have G:=e.1;have I:=e.2
  have k:f<x.length:=by omega
  have u:=Be (Bo q f)
  rw[List.length_take,Nat.min_eq_left (by omega)] at u
  have A:=Be s
  have j:val S<4294967296 ^ (f+y.length):=by
   rw[n,Nat.pow_add];exact Nat.mul_lt_mul'' u A
  have l:val (x.take (f+1))*val y=val S+4294967296 ^ f*(x[f]*val y):=by
   rw[Aq k,Nat.add_mul,n,Nat.mul_assoc]
  obtain⟨S1,B,C,D,F⟩:=zU (R:=R) (N:=N) (x:=x) (y:=y) (c:=c) (d:=d) (c':=c') (d':=d') (f:=f) q s k (by omega) y.length 0 N S 0 (val S) (by omega) (by omega) hS i (Ad7 j) (by omega) (by simp[val])
  rw[Hb];unfold Vm
  rw[T6 k,ct]
  have:=F (Hb N K (Aa x) x.length c d (Aa y) y.length c' d' b) K
  simp only[Int.natCast_zero] at this
  dsimp only
  rw[this]
  exact vL q s e m (f+1) b S1 (by omega) (by omega) B C (by rw[D,l]) K
theorem Abq {N:Nat} {a b:List Nat} {n m:Nat} {t o t' o':Bool} {K:Nat→LA→O R} (d:n=a.length) (e:m=b.length) (f:Ad a) (i:Ad b) (c:fit (a.length+b.length) N) :
  KH N (Aa a) n t o (Aa b) m t' o' K=K (Af (val a*val b)).length (Aa (Af (val a*val b))):=by
 subst d e
 have j:=c.1;have k:=c.2
 rw[dl];unfold WF
 rw[wA (by omega),Acz (by omega),ct,Int.toNat_natCast,B0]
 exact vL f i c a.length 0 N (List.replicate (a.length+b.length) 0) (by omega) (by omega) (Bs _) (by simp) (by rw[Cx];simp[val]) K
end
end Gx

namespace Gx
open Go Go.Proofs
section
variable {R:Type}
theorem kp {N:Nat}:∀ (k c n v:Nat),v<2 ^ k→k<c→n+k≤1000000000000→∃ b:Nat,b≤k∧v<2 ^ b∧(v≠0→2 ^ b≤2*v)∧(v=0→b=0)∧∀ K:Int→O R,Gs N K c (n:Int) (v:Int)=K ((n+b:Nat):Int)
 | 0,c+1,n,v,e,_,_=>by
  have d:v=0:=by simpa using e
  subst d
  refine⟨0,by omega,by simp,fun h=>absurd rfl h,fun _=>rfl,fun K=>?_⟩
  rw[Gs];unfold Mw
  rw[show decide (((0:Nat):Int)>0)=false by rfl,cf];rfl
 | k+1,c+1,n,v,e,m,q=>by
  by_cases d:v=0
  ·subst d
   refine⟨0,by omega,by simp,fun h=>absurd rfl h,fun _=>rfl,fun K=>?_⟩
   rw[Gs];unfold Mw
   rw[show decide (((0:Nat):Int)>0)=false by rfl,cf];rfl
  ·obtain⟨b,s,t,i,j,l⟩:=kp (N:=N) k c (n+1) (v/2) (by rw[Nat.pow_succ] at e;omega) (by omega) (by omega)
   refine⟨b+1,by omega,by rw[Nat.pow_succ];omega,fun _=>?_,fun h=>absurd h d,fun K=>?_⟩
   ·by_cases f:v/2=0
    ·rw[j f];simp;omega
    ·have:=i f;rw[Nat.pow_succ];omega
   ·rw[Gs];unfold Mw
    rw[show decide (((v:Nat):Int)>0)=true by rw[decide_eq_true_eq];omega,ct,wS (by omega),Mi v 1,show v/2 ^ 1=v/2 by rfl,l]
    congr 2;omega
theorem yI {N:Nat} {a:List Nat} {n:Nat} {t o:Bool} (j:n=a.length) (f:Ad a) (e:fit a.length N):∃ nb:Nat,nb≤32*a.length∧val a<2 ^ nb∧(val a≠0→2 ^ nb≤2*val a)∧(val a=0→nb=0)∧∀ K:Int→O R,Ya N (Aa a) n t o K=K (nb:Int):=by
 have y:=e.1;have z:=e.2
 have la:=(A3 f).2
 by_cases d:val a=0
 ·refine⟨0,by omega,by rw[d];simp,fun h=>absurd d h,fun _=>rfl,fun K=>?_⟩
  rw[Z5];unfold X9
  rw[Cf j f e,d,Cc];rfl
 ·have m:(Af (val a)).length≠0:=fun h=>d (A8.1 h)
  obtain⟨k,i⟩:∃ k,(Af (val a)).length=k+1:=⟨(Af (val a)).length - 1,by omega⟩
  have top:=Aw (Ab (val a)) (show k<(Af (val a)).length by omega)
  have c:(Af (val a))[k]'(by omega)≠0:=by
   have:=iQ (val a) (QI d)
   rw[List.getLast_eq_getElem] at this
   simp only[i,Nat.add_sub_cancel] at this
   exact this
  have tf:=X6 i
  have tl:=Zz (Ab (val a)) i
  rw[Ac] at tf tl
  obtain⟨b,A,q,s,B,u⟩:=kp (R:=R) (N:=N) 32 N (32*k) ((Af (val a))[k]'(by omega)) (by exact top) (by omega) (by omega)
  have l:(2:Nat) ^ (32*k+b)=4294967296 ^ k*2 ^ b:=by rw[Nat.pow_add,Nat.pow_mul]
  refine⟨32*k+b,by omega,?_,fun _=>?_,fun h=>absurd h d,fun K=>?_⟩
  ·rw[l]
   have:((Af (val a))[k]'(by omega)+1)*4294967296 ^ k≤2 ^ b*4294967296 ^ k:=Nat.mul_le_mul_right _ q
   rw[Nat.mul_comm (2 ^ b)] at this;omega
  ·rw[l]
   have:=Nat.mul_le_mul_left (4294967296 ^ k) (s c)
   rw[Nat.mul_left_comm] at this
   omega
  ·rw[Z5];unfold X9
   have v:IntKind.wrap .i64 ((((Af (val a)).length:Nat):Int) - 1)=((k:Nat):Int):=by rw[i64 (by omega)];omega
   have x:IntKind.wrap .i64 ((32:Int)*((k:Nat):Int))=((32*k:Nat):Int):=by rw[i64 (by omega)];omega
   rw[Cf j f e,mU m,cf,v,Al (by omega),ct,UA (by omega),x]
   exact u K
theorem vM {a:List Nat} {j:Nat} (h:j<a.length):val a=val (a.take j)+4294967296 ^ j*(a[j]+4294967296*val (a.drop (j+1))):=by
 have:=Ld (a.take j) (a.drop j)
 rw[List.take_append_drop,List.length_take,Nat.min_eq_left (by omega),FW h] at this
 exact this
theorem bO (j k:Nat):(2:Nat) ^ (32*j+k)=4294967296 ^ j*2 ^ k:=by rw[Nat.pow_add,Nat.pow_mul]
theorem Afh {a:List Nat} {j k:Nat} (b:Ad a) (h:j<a.length) (f:k<32):val a/2 ^ (32*j+k)%2=a[j]/2 ^ k%2:=by
 have tl:=Be (Bo b j)
 rw[List.length_take,Nat.min_eq_left (by omega)] at tl
 have hP:0<4294967296 ^ j:=Nat.pow_pos (by omega)
 have c:0<2 ^ k:=Nat.pow_pos (by omega)
 rw[bO,←Nat.div_div_eq_div_mul,vM h,Nat.add_mul_div_left _ _ hP,Nat.div_eq_of_lt tl,Nat.zero_add]
 have e:4294967296=2 ^ k*(2*2 ^ (31 - k)):=by rw[←Nat.pow_succ',←Nat.pow_add,show k+(31 - k+1)=32 by omega]
 have d:4294967296*val (a.drop (j+1))=2 ^ k*(2*(2 ^ (31 - k)*val (a.drop (j+1)))):=by
  rw[←Nat.mul_assoc 2,←Nat.mul_assoc,←e]
 rw[d,Nat.add_mul_div_left _ _ c,Nat.add_mul_mod_self_left]
theorem Abr {N:Nat} {a:List Nat} {n:Nat} {t o:Bool} {i:Nat} {K:Int→O R} (j:n=a.length) (f:Ad a) (q:i<32*a.length) (s:a.length≤1000000000):VL N (Aa a) n t o (i:Int) K=K ((val a/2 ^ i%2:Nat):Int):=by
 subst j
 have c:i/32<a.length:=by omega
 have aj:=Aw f c
 rw[dU];unfold j4
 have l:IntKind.wrap .i64 (Int.tdiv ((i:Nat):Int) 32)=((i/32:Nat):Int):=by rw[show(32:Int)=((32:Nat):Int) by rfl,MQ,i64 (by omega)]
 have m:IntKind.wrap .u64 (Int.tmod ((i:Nat):Int) 32)=((i%32:Nat):Int):=by rw[show(32:Int)=((32:Nat):Int) by rfl,FV,Fv (by omega)]
 rw[l,m,show decide (((i/32:Nat):Int)≥((a.length:Nat):Int))=false by rw[decide_eq_false_iff_not];omega,cf,Al c,ct,ED c,show decide (((i%32:Nat):Int)<0)=false by rw[decide_eq_false_iff_not];omega,cf,Int.toNat_natCast,Nat.min_eq_left (by omega),Mi]
 have d:a[i/32]/2 ^ (i%32)<4294967296:=Nat.lt_of_le_of_lt (Nat.div_le_self _ _) aj
 have e:=xS (k:=.u32) rfl (a:=a[i/32]/2 ^ (i%32)) (b:=1) d (by decide)
 rw[show(1:Int)=((1:Nat):Int) by rfl,e,Nat.and_one_is_mod]
 have:=Afh f c (k:=i%32) (by omega)
 rw[Nat.div_add_mod] at this
 rw[this]
theorem Aek {Q:List Nat} {j k:Nat} (hQ:Ad Q) (h:j<Q.length) (d:k<32) (b:2 ^ (32*j+k+1)∣val Q):2 ^ (k+1)∣Q[j]:=by
 have tl:=Be (Bo hQ j)
 rw[List.length_take,Nat.min_eq_left (by omega)] at tl
 have hP:0<4294967296 ^ j:=Nat.pow_pos (by omega)
 rw[Nat.add_assoc,bO,vM h] at b
 have c:val (Q.take j)=0:=by
  have x1:4294967296 ^ j∣val (Q.take j):=(Nat.dvd_add_left (Nat.dvd_mul_right _ _)).1 (Nat.dvd_trans (Nat.dvd_mul_right _ _) b)
  exact Nat.eq_zero_of_dvd_of_lt x1 tl
 rw[c,Nat.zero_add] at b
 have x2:=Nat.dvd_of_mul_dvd_mul_left hP b
 have x3:2 ^ (k+1)∣4294967296*val (Q.drop (j+1)):=Nat.dvd_trans ⟨2 ^ (31 - k),by rw[←Nat.pow_add,show k+1+(31 - k)=32 by omega]⟩ (Nat.dvd_mul_right _ _)
 exact(Nat.dvd_add_left x3).1 x2
theorem bR {N:Nat} {a b:List Nat} {t o:Bool} {B:Nat} (S:Ad a) (q:b=Af B) (hB:0<B) (l:fit (a.length+2*b.length+4) N):∀ (i d:Nat) (Q:List Nat) (r:Nat),i<d→i≤32*a.length→Ad Q→Q.length=a.length→r=val a/2 ^ i%B→val Q=val a/2 ^ i/B*2 ^ i →
  ∀ K:Nat→Nat→Bool→LA→LA→O R,Dl N K (Aa a) a.length t o b.length (Aa b) d (Af r).length ((i:Int) - 1) (Aa Q) (Aa (Af r))=K (Af (val a/B)).length (Af (val a%B)).length true (Aa (Af (val a/B))) (Aa (Af (val a%B)))
 | 0,d+1,Q,r,_,_,hQ,C,s,u=>by
  intro K
  rw[Nat.pow_zero,Nat.div_one] at s u
  rw[Nat.mul_one] at u
  have lr:(Af r).length≤b.length:=by
   rw[q];apply A4;rw[s];exact Nat.le_of_lt (Nat.mod_lt _ hB)
  rw[Dl];unfold Mx
  rw[show decide ((((0:Nat):Int) - 1)≥0)=false by rfl,cf,Nat.mul_one,List.take_of_length_le (by rw[Bb];omega),Cf C.symm hQ (by rw[C];exact l.le (by omega)),Nat.mul_one,List.take_of_length_le (by rw[Bb];omega),Cf rfl (Ab _) (l.le (by omega)),Ac,u,s]
 | i+1,d+1,Q,r,hfu,hi,hQ,C,s,u=>by
  intro K
  have h1:=l.1;have h2:=l.2
  have hrB:r<B:=by rw[s];exact Nat.mod_lt _ hB
  have lr:(Af r).length≤b.length:=by rw[q];exact A4 (Nat.le_of_lt hrB)
  have j:val a/2 ^ i=2*(val a/2 ^ (i+1))+val a/2 ^ i%2:=by
   have:=Nat.div_add_mod (val a/2 ^ i) 2
   rw[Nat.div_div_eq_div_mul,←Nat.pow_succ] at this
   exact this.symm
  have T:=Nat.div_add_mod (val a/2 ^ (i+1)) B
  have hb2:val a/2 ^ i%2<2:=Nat.mod_lt _ (by omega)
  generalize hH:val a/2 ^ (i+1)=H at *
  generalize D:val a/2 ^ i%2=bt at *
  have f:val a/2 ^ i=B*(2*(H/B))+(2*r+bt):=by
   rw[j,s,Nat.mul_left_comm];omega
  clear s T j
  have F:i/32<Q.length:=by omega
  have qj:=Aw hQ F
  have G:2 ^ (32*(i/32)+i%32+1)∣val Q:=by rw[Nat.div_add_mod,u];exact Nat.dvd_mul_left _ _
  have y:=Aek hQ F (Nat.mod_lt _ (by omega)) G
  have U:2 ^ i=4294967296 ^ (i/32)*2 ^ (i%32):=by rw[←bO,Nat.div_add_mod]
  have I:2 ^ (i%32+1)≤4294967296:=(Nat.pow_le_pow_right (by omega) (show i%32+1≤32 by omega):2 ^ (i%32+1)≤2 ^ 32)
  have L:Lp .u32 ((Q[i/32]:Nat):Int) (IntKind.wrap .u32 ((1:Int)*2 ^ (min (Int.toNat ((i%32:Nat):Int)) 32)))=((Q[i/32]+2 ^ (i%32):Nat):Int)∧Q[i/32]+2 ^ (i%32)<4294967296:=by
   obtain⟨c,V⟩:=y
   have Y:0<2 ^ (i%32):=Nat.pow_pos (by omega)
   have X:Q[i/32]+2 ^ (i%32)<4294967296:=by
    obtain⟨w,hw⟩:∃ w,4294967296=2 ^ (i%32+1)*w:=⟨2 ^ (31 - i%32),by rw[←Nat.pow_add,show i%32+1+(31 - i%32)=32 by omega]⟩
    have x1:c<w:=by rw[V,hw] at qj;exact Nat.lt_of_mul_lt_mul_left qj
    have x2:=Nat.mul_le_mul_left (2 ^ (i%32+1)) (show c+1≤w from x1)
    rw[Nat.mul_add,←hw,←V,Nat.mul_one,Nat.pow_succ] at x2
    omega
   refine⟨?_,X⟩
   rw[Int.toNat_natCast,Nat.min_eq_left (by omega),Int.one_mul,show(2:Int) ^ (i%32)=((2 ^ (i%32):Nat):Int) by simp,zO (by rw[Nat.pow_succ] at I;omega),oM (k:=.u32) rfl qj (by show 2 ^ (i%32)<4294967296;rw[Nat.pow_succ] at I;omega)]
   congr 1
   have e:Q[i/32]=c*2 ^ (i%32+1):=by rw[V,Nat.mul_comm]
   rw[e];exact Z_ (by rw[Nat.pow_succ];omega)
  have w1:IntKind.wrap .i64 (Int.tdiv ((i:Nat):Int) 32)=((i/32:Nat):Int):=by rw[show(32:Int)=((32:Nat):Int) by rfl,MQ,i64 (by omega)]
  have w2:IntKind.wrap .u64 (Int.tmod ((i:Nat):Int) 32)=((i%32:Nat):Int):=by rw[show(32:Int)=((32:Nat):Int) by rfl,FV,Fv (by omega)]
  have l2:(Af (2*r+bt)).length≤b.length+1:=by
   apply Bp
   have x1:=Be (Ab B)
   rw[Ac,←q] at x1
   rw[Nat.pow_succ];omega
  have second:H5 N (Dl N K (Aa a) a.length t o b.length (Aa b) d) K (Aa a) a.length t o b.length ((i:Nat):Int) (Aa b) (Aa Q) (Af (2*r+bt)).length (Aa (Af (2*r+bt)))=K (Af (val a/B)).length (Af (val a%B)).length true (Aa (Af (val a/B))) (Aa (Af (val a%B))):=by
   unfold H5
   have lb:Ad b:=by rw[q];exact Ab _
   have vb:val b=B:=by rw[q,Ac]
   rw[Nat.mul_one,Nat.mul_one,List.take_of_length_le (by rw[Bb];omega),List.take_of_length_le (by rw[Bb];omega),bM rfl rfl (Ab _) lb (l.le (by omega)),Ac,vb]
   by_cases M:B≤2*r+bt
   ·have z:val a/2 ^ i/B=2*(H/B)+1:=by
     rw[f,show B*(2*(H/B))+(2*r+bt)=B*(2*(H/B)+1)+(2*r+bt - B) by rw[Nat.mul_add];omega,Nat.mul_add_div hB,Nat.div_eq_of_lt (show 2*r+bt - B<B by omega),Nat.add_zero]
    have A:val a/2 ^ i%B=2*r+bt - B:=by
     rw[f,show B*(2*(H/B))+(2*r+bt)=B*(2*(H/B)+1)+(2*r+bt - B) by rw[Nat.mul_add];omega,Nat.mul_add_mod,Nat.mod_eq_of_lt (by omega)]
    rw[if_pos M,ct,w1,w2,Al (by omega),ct,UA F,show decide (((i%32:Nat):Int)<0)=false by rw[decide_eq_false_iff_not];omega,cf,ct,oG F,ct,L.1,FM,i64 (by omega)]
    refine bR S q hB l i d (Q.set (i/32) (Q[i/32]+2 ^ (i%32))) (2*r+bt - B) (by omega) (by omega) (Bt hQ L.2 _) (by simpa using C) A.symm ?_ K
    have x1:=UB (v:=Q[i/32]+2 ^ (i%32)) F
    rw[Nat.mul_add,←U] at x1
    rw[z,Nat.add_mul,Nat.one_mul,Nat.mul_comm 2,Nat.mul_assoc,Nat.mul_comm 2,←Nat.pow_succ,←u]
    omega
   ·have z:val a/2 ^ i/B=2*(H/B):=by rw[f,Nat.mul_add_div hB,Nat.div_eq_of_lt (show 2*r+bt<B by omega),Nat.add_zero]
    have A:val a/2 ^ i%B=2*r+bt:=by rw[f,Nat.mul_add_mod,Nat.mod_eq_of_lt (by omega)]
    rw[if_neg M,cf,i64 (by omega)]
    refine bR S q hB l i d Q (2*r+bt) (by omega) (by omega) hQ C A.symm ?_ K
    rw[z,Nat.mul_comm 2,Nat.mul_assoc,Nat.mul_comm 2,←Nat.pow_succ,←u]
  rw[Dl];unfold Mx
  rw[show(((i+1:Nat):Int) - 1)=((i:Nat):Int) by omega,show decide (((i:Nat):Int)≥0)=true by rw[decide_eq_true_eq];omega,ct,Nat.mul_one,List.take_of_length_le (by rw[Bb];omega),bL rfl rfl (Ab _) (Ab _) (l.le (by omega)),Ac,Abr rfl S (by omega) (by omega),D]
  have l3:(Af (r+r)).length≤b.length+1:=by
   apply Bp
   have x1:=Be (Ab B)
   rw[Ac,←q] at x1
   rw[Nat.pow_succ];omega
  rcases(show bt=0∨bt=1 by omega) with rfl | rfl
  ·rw[show(((0:Nat):Int)==1)=false by rfl,cf]
   rw[show 2*r+0=r+r by omega] at second
   exact second
  ·rw[show(((1:Nat):Int)==1)=true by rfl,ct,Nat.mul_one,List.take_of_length_le (by rw[Bb];omega)]
   have:=bL (R:=R) (N:=N) (a:=Af (r+r)) (b:=[1]) (n:=(Af (r+r)).length) (m:=1) (t:=false) (o:=true) (t':=false) (o':=true) (K:=fun af ag=>H5 N (Dl N K (Aa a) a.length t o b.length (Aa b) d) K (Aa a) a.length t o b.length ((i:Nat):Int) (Aa b) (Aa Q) af ag) rfl rfl (Ab _) (by intro x hx;simp at hx;omega) (l.le (by simp;omega))
   rw[Ac,show val [1]=1 by rfl,show r+r+1=2*r+1 by omega] at this
   exact this.trans second
end
end Gx

namespace Gx
open Go Go.Proofs
section
variable {R:Type}
theorem AG {N:Nat} {a b:List Nat} {n m:Nat} {t o t' o':Bool} {K:Nat→Nat→Bool→LA→LA→O R} (j:n=a.length) (v:m=b.length) (k:Ad a) (s:Ad b) (f:val b≠0) (e:fit (a.length+2*b.length+4) N) :
  Lj N (Aa a) n t o (Aa b) m t' o' K=K (Af (val a/val b)).length (Af (val a%val b)).length true (Aa (Af (val a/val b))) (Aa (Af (val a%val b))):=by
 have x:=e.1;have y:=e.2
 have lb:=(A3 s).2
 have l:(Af (val b)).length≠0:=fun h=>f (A8.1 h)
 rw[GJ];unfold Vg
 dsimp only
 have long:Ku N K (Aa a) n t o (Af (val b)).length (Aa (Af (val b)))=K (Af (val a/val b)).length (Af (val a%val b)).length true (Aa (Af (val a/val b))) (Aa (Af (val a%val b))):=by
  obtain⟨nb,n1,n2,n3,n4,n5⟩:=yI (R:=R) (N:=N) (a:=a) (n:=n) (t:=false) (o:=o) j k (e.le (by omega))
  unfold Ku Tg
  dsimp only
  rw[n5,j,Acz (by omega),ct,B0,i64 (by omega)]
  have u:val a/2 ^ nb=0:=Nat.div_eq_of_lt n2
  have:=bR (R:=R) (N:=N) (a:=a) (b:=Af (val b)) (t:=t) (o:=o) (B:=val b) k rfl (by omega) (e.le (by omega)) nb N (List.replicate a.length 0) 0 (by omega) n1 (Bs _) (by simp) (by rw[u];simp) (by rw[u,Cx];simp) K
  exact this
 rw[Cf v s (e.le (by omega)),mU l,cf,Z6 j k (e.le (by omega)),Nat.mul_one,List.take_of_length_le (by rw[Bb];exact Nat.le_refl _)]
 by_cases d:val a<18446744073709551616
 ·rw[if_pos d,Z6 rfl (Ab _) (e.le (by omega)),Ac]
  by_cases c:val b<18446744073709551616
  ·have i:val a/val b<18446744073709551616:=Nat.lt_of_le_of_lt (Nat.div_le_self _ _) d
   have q:val a%val b<18446744073709551616:=Nat.lt_of_le_of_lt (Nat.mod_le _ _) d
   rw[if_pos c,show((true:Bool)==true)=true by rfl,ct,Aay,ct,mU f,cf,MQ,Fv i,Vh i (by omega),cf,FV,Vh q (by omega)]
  ·rw[if_neg c,show((true:Bool)==true)=true by rfl,ct,Aay,cf,long]
 ·rw[if_neg d,Z6 rfl (Ab _) (e.le (by omega)),Ac]
  by_cases c:val b<18446744073709551616
  ·rw[if_pos c,show((false:Bool)==true)=false by rfl,cf,long]
  ·rw[if_neg c,show((false:Bool)==true)=false by rfl,cf,long]
theorem Abs {N:Nat}:∀ (k b A B:Nat),k<b→A*B<2 ^ k→B<A→fit (3*(Af A).length+4) N→∀ K:Nat→LA→O R,C2 N K b (Af A).length (Af B).length (Aa (Af A)) (Aa (Af B))=K (Af (Nat.gcd A B)).length (Aa (Af (Nat.gcd A B))):=by
 have base:∀ (b A:Nat) (K:Nat→LA→O R),C2 N K (b+1) (Af A).length (Af 0).length (Aa (Af A)) (Aa (Af 0))=K (Af (Nat.gcd A 0)).length (Aa (Af (Nat.gcd A 0))):=by
  intro b A K
  rw[C2];unfold Lx
  rw[Cc,show decide ((((([]:List Nat).length:Nat)):Int)>0)=false by decide,cf,Nat.gcd_zero_right]
 intro k
 induction k with
 | zero =>
  intro b A B f c d e K
  obtain⟨b,rfl⟩:∃ F,b=F+1:=⟨b - 1,by omega⟩
  have i:B=0:=by
   rcases Nat.eq_zero_or_pos B with h | h
   ·exact h
   ·have t:=Nat.mul_le_mul_left A (show 1≤B by omega)
    rw[Nat.pow_zero] at c;omega
  subst i
  exact base b A K
 | succ k j =>
  intro b A B f c d e K
  have u:=e.1;have v:=e.2
  obtain⟨b,rfl⟩:∃ F,b=F+1:=⟨b - 1,by omega⟩
  rcases Nat.eq_zero_or_pos B with h | h
  ·subst h;exact base b A K
  have l:=A4 (Nat.le_of_lt d)
  have m:(Af B).length≠0:=fun n=>by have:=A8.1 n;omega
  have q:=Nat.mod_lt A h
  have x:=FX (show 1≤B by omega) (Nat.le_of_lt d)
  have:=j b B (A%B) (by omega) (by rw[Nat.pow_succ] at c;omega) q (e.le (by omega)) K
  have s:Nat.gcd B (A%B)=Nat.gcd A B:=by rw[Nat.gcd_comm,←Nat.gcd_rec,Nat.gcd_comm]
  rw[s] at this
  rw[C2];unfold Lx
  rw[show decide ((((Af B).length:Nat):Int)>0)=true by rw[decide_eq_true_eq];omega,ct,Nat.mul_one,Nat.mul_one,List.take_of_length_le (by rw[Bb];exact Nat.le_refl _),List.take_of_length_le (by rw[Bb];exact Nat.le_refl _),AG rfl rfl (Ab _) (Ab _) (by rw[Ac];omega) (e.le (by omega)),Ac,Ac]
  exact this
theorem Abt {N:Nat} {a b:List Nat} {n m:Nat} {t o t' o':Bool} {K:Nat→LA→O R} (l:n=a.length) (q:m=b.length) (f:Ad a) (i:Ad b) (d:fit (3*(a.length+b.length)+4) N) :
  KA N (Aa a) n t o (Aa b) m t' o' K=K (Af (Nat.gcd (val a) (val b))).length (Aa (Af (Nat.gcd (val a) (val b)))):=by
 have x:=d.1;have y:=d.2
 have la:=(A3 f).2
 have lb:=(A3 i).2
 have j:val a*val b<2 ^ (32*(a.length+b.length)):=by rw[←u6];exact Nat.mul_lt_mul'' (Be f) (Be i)
 rw[dY];unfold VO
 dsimp only
 rw[Cf l f (d.le (by omega)),Cf q i (d.le (by omega))]
 obtain⟨F,hF⟩:∃ F,N=F+1:=⟨N - 1,by omega⟩
 rcases Nat.eq_zero_or_pos (val b) with h | h
 ·rw[h,Cc,Nat.gcd_zero_right,hF,C2];unfold Lx
  rw[show decide ((((([]:List Nat).length:Nat)):Int)>0)=false by decide,cf]
 ·have k:=Nat.mod_lt (val a) h
  have s:(Af (val b)).length≠0:=fun u=>by have:=A8.1 u;omega
  have c:val b*(val a%val b)<2 ^ (32*(a.length+b.length)):=by
   have:val b*(val a%val b)≤val b*val a:=Nat.mul_le_mul_left _ (Nat.mod_le _ _)
   rw[Nat.mul_comm (val b) (val a)] at this;omega
  have:=Abs (R:=R) (N:=N) (32*(a.length+b.length)) F (val b) (val a%val b) (by omega) c k (d.le (by omega)) K
  have v:Nat.gcd (val b) (val a%val b)=Nat.gcd (val a) (val b):=by rw[Nat.gcd_comm,←Nat.gcd_rec,Nat.gcd_comm]
  rw[v] at this
  have e:C2 N K (F+1) (Af (val a)).length (Af (val b)).length (Aa (Af (val a))) (Aa (Af (val b)))=C2 N K F (Af (val b)).length (Af (val a%val b)).length (Aa (Af (val b))) (Aa (Af (val a%val b))):=by
   rw[C2];unfold Lx
   rw[show decide ((((Af (val b)).length:Nat):Int)>0)=true by rw[decide_eq_true_eq];omega,ct,Nat.mul_one,Nat.mul_one,List.take_of_length_le (by rw[Bb];exact Nat.le_refl _),List.take_of_length_le (by rw[Bb];exact Nat.le_refl _),AG rfl rfl (Ab _) (Ab _) (by rw[Ac];omega) (d.le (by omega)),Ac,Ac]
  conv=>lhs;rw[show(C2 N K N)=C2 N K (F+1) by rw[←hF]]
  rw[e];exact this
end
end Gx

namespace Gx
open Go Go.Proofs
section
variable {R:Type}
inductive LS where
 | nil
 | of (l:List Nat) (t o:Bool)
def LS.l:LS→List Nat
 | .nil=>[]
 | .of l _ _=>l
def LS.av:LS→AV
 | .nil=>.nsl
 | .of l t o=>.imm (Aa l) l.length 1 t o
theorem yJ {s:LS} {r:LA} {f:LA→Nat→O R}:Kk 1 (s.av::r) f=f (Aa s.l) s.l.length:=by
 cases s<;>simp[Kk,LS.av,LS.l,Ae6,Aa]
theorem Agl {b:Bool} {r:LA} {f:Bool→O R}:Pa (.bool b::r) f=f b:=by simp[Pa,asBool]
def B6 (neg:Bool) (s:LS):LA:=[.bool neg,s.av]
def Ao (neg:Bool) (s:LS):Int:=if neg then -(val s.l:Int) else (val s.l:Int)
theorem Bn (neg:Bool) (s:LS):(Ao neg s).natAbs=val s.l:=by unfold Ao;cases neg<;>simp
theorem Gn {neg:Bool} {s:LS} {f:Bool→O R}:Pa (B6 neg s) f=f neg:=Agl
theorem Gc {neg:Bool} {s:LS} {f:LA→Nat→O R}:Kk 1 (List.drop 1 (B6 neg s)) f=f (Aa s.l) s.l.length:=by rw[B6,List.drop_succ_cons,List.drop_zero,yJ]
theorem Cv {N:Nat} {c:Bool} {a:Nat} {b:LA} {K:Bool→O R}:Ct N c a b K=K (c&&decide (0<a)):=by
 rw[LJ];unfold QL
 cases c<;>simp
theorem J4 {z:Int} {c:Bool} {m:Nat} (h:z=if c then -(m:Int) else (m:Int)):(c&&decide (0<(Af m).length))=decide (z<0)∧z.natAbs=m:=by
 have e:z.natAbs=m:=by rw[h];cases c<;>simp
 refine⟨?_,e⟩
 by_cases d:m=0
 ·subst d;rw[h,Cc];cases c<;>simp
 ·have:0<(Af m).length:=by
   rcases Nat.eq_zero_or_pos (Af m).length with b | b
   ·exact absurd (A8.1 b) d
   ·exact b
  rw[h];cases c<;>simp[this]<;>omega
theorem F5 {N:Nat} {v:Int} (i:-9223372036854775808≤v∧v≤9223372036854775807) (hN:4≤N):∃ S,Ad S∧val S=v.natAbs∧∀ K:Bool→Nat→LA→O R,B3 N v K=K (decide (v<0)) (Af v.natAbs).length (Aa S):=by
 have d:v.natAbs<18446744073709551616:=by omega
 obtain⟨S,s1,s2,c⟩:=G7 (R:=R) (N:=N) d hN
 refine⟨S,s1,s2,fun K=>?_⟩
 rw[FA];unfold E'
 by_cases h:v<0
 ·have e:IntKind.wrap .u64 ((0:Int) - IntKind.wrap .u64 v)=(v.natAbs:Int):=by rw[KV,KV];omega
  rw[decide_eq_true h,ct,e,c,Cv]
  have f:v.natAbs≠0:=by omega
  have:0<(Af v.natAbs).length:=by
   rcases Nat.eq_zero_or_pos (Af v.natAbs).length with b | b
   ·exact absurd (A8.1 b) f
   ·exact b
  simp[this]
 ·have e:IntKind.wrap .u64 v=(v.natAbs:Int):=by rw[KV];omega
  rw[decide_eq_false h,cf,e,c,Cv];rfl
theorem Iz {N:Nat} {neg:Bool} {s:LS} {o:Bool} {K:Int→O R} (b:Ad s.l) (c:fit s.l.length N):Jx N (B6 neg s) o K=K (Ao neg s).sign:=by
 rw[cY];unfold il
 rw[Gc,jI rfl b c]
 unfold Ao
 by_cases h:val s.l=0
 ·rw[h,Xr,show((0:Int)==0)=true by rfl,ct];cases neg<;>rfl
 ·have:Fo (val s.l) 0=1:=by unfold Fo;rw[if_neg (by omega),if_pos (by omega)]
  rw[this,show((1:Int)==0)=false by rfl,cf,Gn]
  cases neg
  ·rw[cf];simp only[Bool.false_eq_true,if_false]
   congr 1
   rw[Int.sign_eq_one_of_pos];omega
  ·rw[ct];simp only[if_true]
   congr 1
   rw[Int.sign_eq_neg_one_of_neg];omega
theorem pa {N:Nat} {n1 n2:Bool} {s1 s2:LS} {o1 o2:Bool} (d:Ad s1.l) (e:Ad s2.l) (f:fit (s1.l.length+s2.l.length) N):∃ S,Ad S∧val S=(Ao n1 s1*Ao n2 s2).natAbs∧∀ K:Bool→Nat→LA→O R,Wb N (B6 n1 s1) o1 (B6 n2 s2) o2 K=K (decide (Ao n1 s1*Ao n2 s2<0)) (Af (Ao n1 s1*Ao n2 s2).natAbs).length (Aa S):=by
 obtain⟨S,a1,a2,a3⟩:=UD (R:=R) (N:=N) (a:=s1.l) (b:=s2.l) (t:=false) (o:=o1) (t':=false) (o':=o2) rfl rfl d e f
 have i:Ao n1 s1*Ao n2 s2=if (!(n1==n2)) then -((val s1.l*val s2.l:Nat):Int) else ((val s1.l*val s2.l:Nat):Int):=by
  unfold Ao;cases n1<;>cases n2<;>simp[Int.mul_neg,Int.neg_mul]
 obtain⟨c1,c⟩:=J4 i
 refine⟨S,a1,by rw[a2,c],fun K=>?_⟩
 rw[iY];unfold rB
 rw[Gn,Gn,Gc,Gc,a3,Cv,c1,c]
theorem Abu {N:Nat} {n1 n2:Bool} {s1 s2:LS} {o1 o2:Bool} (f:Ad s1.l) (i:Ad s2.l) (j:fit (s1.l.length+s2.l.length+1) N):∃ S,Ad S∧val S=(Ao n1 s1+Ao n2 s2).natAbs∧∀ K:Bool→Nat→LA→O R,ij N (B6 n1 s1) o1 (B6 n2 s2) o2 K=K (decide (Ao n1 s1+Ao n2 s2<0)) (Af (Ao n1 s1+Ao n2 s2).natAbs).length (Aa S):=by
 by_cases k:n1=n2
 ·subst k
  obtain⟨S,a1,a2,a3⟩:=uS (R:=R) (N:=N) (a:=s1.l) (b:=s2.l) (t:=false) (o:=o1) (t':=false) (o':=o2) rfl rfl f i j
  have d:Ao n1 s1+Ao n1 s2=if n1 then -((val s1.l+val s2.l:Nat):Int) else ((val s1.l+val s2.l:Nat):Int):=by
   unfold Ao;cases n1<;>simp;omega
  obtain⟨c1,c⟩:=J4 d
  refine⟨S,a1,by rw[a2,c],fun K=>?_⟩
  rw[Zr];unfold TP
  rw[Gn,Gn,show(n1==n1)=true by simp,ct,Gn,Gc,Gc,a3,Cv,c1,c]
 ·have e:(n1==n2)=false:=by simp[k]
  by_cases m:val s2.l≤val s1.l
  ·obtain⟨S,a1,a2,a3⟩:=UC (R:=R) (N:=N) (a:=s1.l) (b:=s2.l) (t:=false) (o:=o1) (t':=false) (o':=o2) rfl rfl f i (j.le (by omega)) m
   have d:Ao n1 s1+Ao n2 s2=if n1 then -((val s1.l - val s2.l:Nat):Int) else ((val s1.l - val s2.l:Nat):Int):=by
    unfold Ao;cases n1<;>cases n2<;>simp at k ⊢<;>omega
   obtain⟨c1,c⟩:=J4 d
   refine⟨S,a1,by rw[a2,c],fun K=>?_⟩
   rw[Zr];unfold TP
   rw[Gn,Gn,e,cf,Gc,Gc,a3,ct,Gn,Cv,c1,c]
  ·obtain⟨S,a1,a2,a3⟩:=UC (R:=R) (N:=N) (a:=s2.l) (b:=s1.l) (t:=false) (o:=o2) (t':=false) (o':=o1) rfl rfl i f (j.le (by omega)) (by omega)
   have d:Ao n1 s1+Ao n2 s2=if n2 then -((val s2.l - val s1.l:Nat):Int) else ((val s2.l - val s1.l:Nat):Int):=by
    unfold Ao;cases n1<;>cases n2<;>simp at k ⊢<;>omega
   obtain⟨c1,c⟩:=J4 d
   refine⟨S,a1,by rw[a2,c],fun K=>?_⟩
   rw[Zr];unfold TP
   rw[Gn,Gn,e,cf,Gc,Gc,Ad6 rfl rfl f i (j.le (by omega)) (by omega),cf,Gc,Gc,a3,Gn,Cv,c1,c]
theorem yK {N:Nat} {n1:Bool} {s1:LS} {o1:Bool} {K:Bool→Nat→LA→O R} (b:Ad s1.l) (d:fit s1.l.length N):T' N (B6 n1 s1) o1 K=K (decide (Ao n1 s1<0)) (Af (Ao n1 s1).natAbs).length (Aa (Af (Ao n1 s1).natAbs)):=by
 obtain⟨c1,e⟩:=J4 (z:=Ao n1 s1) (c:=n1) (m:=val s1.l) (by unfold Ao;cases n1<;>simp)
 rw[cr];unfold jD
 rw[Gn,Gc,Rl rfl b d,Cv,c1,e]
def kq (x y:Int):Int:=if x<y then -1 else if y<x then 1 else 0
theorem Ael (x y:Nat):kq (x:Int) (y:Int)=Fo x y:=by unfold kq Fo;simp
theorem Aem (x y:Nat):kq (-(x:Int)) (-(y:Int))=Fo y x:=by
 unfold kq Fo
 by_cases h:y<x
 ·rw[if_pos (by omega),if_pos h]
 ·rw[if_neg (by omega),if_neg h]
  by_cases b:x<y
  ·rw[if_pos (by omega),if_pos b]
  ·rw[if_neg (by omega),if_neg b]
theorem nS {N:Nat} {n1 n2:Bool} {s1 s2:LS} {o1 o2:Bool} {K:Int→O R} (e:Ad s1.l) (f:Ad s2.l) (d:fit (s1.l.length+s2.l.length) N):Ti N (B6 n1 s1) o1 (B6 n2 s2) o2 K=K (kq (Ao n1 s1) (Ao n2 s2)):=by
 rw[GP];unfold GO
 have l2:∀ n s,List.take 2 (B6 n s)=B6 n s:=fun n s=>rfl
 have l3:∀ n s,Nat.ble 2 (List.length (B6 n s))=true:=fun n s=>rfl
 rw[l2,l2,l3,l3,ct,Iz e (d.le (by omega)),ct,Iz f (d.le (by omega))]
 have sg:∀ z:Int,z.sign=if z<0 then -1 else if 0<z then 1 else 0:=by
  intro z
  rcases Int.lt_trichotomy z 0 with h | h | h
  ·rw[Int.sign_eq_neg_one_of_neg h,if_pos h]
  ·subst h;rfl
  ·rw[Int.sign_eq_one_of_pos h,if_neg (by omega),if_pos h]
 by_cases c1:(Ao n1 s1).sign<(Ao n2 s2).sign
 ·rw[decide_eq_true c1,ct]
  rw[sg,sg] at c1
  unfold kq;rw[if_pos]
  split at c1<;>split at c1<;>(try split at c1)<;>(try split at c1)<;>omega
 ·rw[decide_eq_false c1,cf]
  by_cases b:(Ao n1 s1).sign>(Ao n2 s2).sign
  ·rw[decide_eq_true b,ct]
   rw[sg,sg] at b
   unfold kq;rw[if_neg,if_pos]
   ·split at b<;>split at b<;>(try split at b)<;>(try split at b)<;>omega
   ·split at b<;>split at b<;>(try split at b)<;>(try split at b)<;>omega
  ·rw[decide_eq_false b,cf]
   have q:(Ao n1 s1).sign=(Ao n2 s2).sign:=by omega
   by_cases c:(Ao n1 s1).sign<0
   ·rw[decide_eq_true c,ct,Gc,Gc,Rk rfl rfl f e (d.le (by omega))]
    have i:Ao n1 s1<0:=by rw[sg] at c;split at c;assumption;split at c<;>omega
    have j:Ao n2 s2<0:=by rw[q,sg] at c;split at c;assumption;split at c<;>omega
    have k:Ao n1 s1=-(val s1.l:Int):=by unfold Ao at i ⊢;cases n1<;>simp at i ⊢;omega
    have m:Ao n2 s2=-(val s2.l:Int):=by unfold Ao at j ⊢;cases n2<;>simp at j ⊢;omega
    rw[k,m,Aem]
   ·rw[decide_eq_false c,cf,Gc,Gc,Rk rfl rfl e f (d.le (by omega))]
    have i:0≤Ao n1 s1:=by
     apply Int.not_lt.1;intro h;rw[Int.sign_eq_neg_one_of_neg h] at c;omega
    have j:0≤Ao n2 s2:=by
     apply Int.not_lt.1;intro h;rw[q,Int.sign_eq_neg_one_of_neg h] at c;omega
    have k:Ao n1 s1=(val s1.l:Int):=by have:=Bn n1 s1;omega
    have m:Ao n2 s2=(val s2.l:Int):=by have:=Bn n2 s2;omega
    rw[k,m,Ael]
end
end Gx

namespace Gx
open Go Go.Proofs
open IntKind (wrap)
set_option maxRecDepth 100000
noncomputable section
variable {R:Type} (N:Nat)
def GX (b:Int) (r0:LA→O R):O R :=
 (B3 N b (fun d c e=>(r0 [(.bool d),(.imm (e.take (c*1)) c 1 false false),(.imm [(.int .u32 1)] 1 1 false false)])))
def Od:=(Ag (@GX R)).1
theorem GY:@Od R=@GX R:=(Ag _).2
def rg:D8:=[(64,Hy N)]
def NV (F:KF R):LA→O R:=(fun f=>F (.pagg f false) [])
theorem NW (b:Int) (F:KF R):Cd (rg N) Hl N 91 [(iv b)] [] F=(Od N b (NV F)):=by
 rw[GY]
 kernel_rfl
def GZ (a:LA) (h:Ah) (k:KF R):O R :=
 match a,h with
 | [(.int .i64 b)],[]=>(Od N b (NV k))
 | _,_=>none
theorem NX:An N 91 @GZ:=by
 intro R Q a h k j;unfold GZ;split;exact As (NW ..) (NW ..) ⟨Hz N,trivial⟩;exact Av
def NY:=At (NX N)
def NZ:=Cg (NX N)
def AH (b:LA) (c:Bool) (r0:LA→O R):O R :=
 (Bw .i64 b fun i=>(B3 N i (fun l f m=>(Bw .i64 (b.drop 1) fun n=>(B3 N n (fun o g p=>(a_ N [(.bool l),(.imm (m.take (f*1)) f 1 false true)] true [(.bool o),(.imm (p.take (g*1)) g 1 false true)] true (fun d q=>(cond ((Nat.beq 0 0)&&((Nat.beq (d.length) 3)&&(Nat.beq 3 3))) (cond (!q) (Od N 0 (fun e=>(cond ((Nat.beq 0 0)&&((Nat.beq (e.length) 3)&&(Nat.beq 3 3))) (cond (Nat.ble 3 (e.length)) (r0 (e.take 3)) none) none))) (cond (Nat.ble 3 (d.length)) (cond ((Nat.beq 0 0)&&((Nat.beq ((d.take 3).length) 3)&&(Nat.beq 3 3))) (cond (Nat.ble 3 ((d.take 3).length)) (r0 ((d.take 3).take 3)) none) none) none)) none)))))))))
def Lz:=(Ag (@AH R)).1
theorem CH:@Lz R=@AH R:=(Ag _).2
def nT:D8:=[(64,Hy N),(82,pJ N),(91,NY N)]
def G_ (F:KF R):LA→O R:=(fun r=>F (.pagg r false) [])
theorem G' (b:LA) (c:Bool) (F:KF R):Cd (nT N) Hl N 93 [(.pagg b c)] [] F=(Lz N b c (G_ F)):=by
 rw[CH]
 kernel_rfl
def CI (a:LA) (h:Ah) (k:KF R):O R :=
 match a,h with
 | [(.pagg b c)],[]=>(Lz N b c (G_ k))
 | _,_=>none
theorem HA:An N 93 @CI:=by
 intro R Q a h k j;unfold CI;split;exact As (G' ..) (G' ..) ⟨Hz N,pK N,NZ N,trivial⟩;exact Av
def ku:=At (HA N)
def kv:=Cg (HA N)
def kw (b:LA) (c:Bool) (r0:Int→O R):O R :=
 (cond (Nat.ble 3 (b.length)) (Pc N (b.take 3) c (fun d e i l m=>(cond ((Nat.beq 0 0)&&((Nat.beq (d.length) 2)&&(Nat.beq 2 2))) (cond (Nat.ble 2 (d.length)) (Jx N (d.take 2) e (fun f=>(r0 f))) none) none))) none)
def WL:=(Ag (@kw R)).1
theorem dy:@WL R=@kw R:=(Ag _).2
def Abv:D8:=[(130,FK N),(125,Si N)]
def ky (F:KF R):Int→O R:=(fun g=>F (iv g) [])
theorem kz (b:LA) (c:Bool) (F:KF R):Cd (Abv N) C1 N 194 [(.pagg b c)] [] F=(WL N b c (ky F)):=by
 rw[dy]
 kernel_rfl
def dz (a:LA) (h:Ah) (k:KF R):O R :=
 match a,h with
 | [(.pagg b c)],[]=>(WL N b c (ky k))
 | _,_=>none
theorem lA:An N 194 @dz:=by
 intro R Q a h k j;unfold dz;split;exact As (kz ..) (kz ..) ⟨FL N,Sj N,trivial⟩;exact Av
def yL:=At (lA N)
def yM:=Cg (lA N)
def ri (d:LA) (e:Bool) (b:LA) (c:Bool) (r0:LA→Bool→O R):O R :=
 (cond (Nat.ble 3 (b.length)) (WL N (b.take 3) c (fun g=>(cond (g==0) (r0 [(.bool false),.nsl,.nsl] false) (cond (Nat.ble 3 (d.length)) (Pa b fun i=>(Kk 1 (b.drop 2) fun l m=>(Kk 1 (b.drop 1) fun n o=>(Z8 N (d.take 3) e [(.bool i),(.imm l m 1 false c),(.imm n o 1 false c)] (c||(c||false)) (fun f=>(cond ((Nat.beq 0 0)&&((Nat.beq (f.length) 3)&&(Nat.beq 3 3))) (cond (Nat.ble 3 (f.length)) (r0 (f.take 3) true) none) none)))))) none)))) none)
def RO:=(Ag (@ri R)).1
theorem lB:@RO R=@ri R:=(Ag _).2
def Aen:D8:=[(194,yL N),(76,bH N)]
def pb (F:KF R):LA→Bool→O R:=(fun p q=>F (.tup [(.pagg p false),(.bool q)]) [])
theorem pd (d:LA) (e:Bool) (b:LA) (c:Bool) (F:KF R):Cd (Aen N) oO N 118 [(.pagg d e),(.pagg b c)] [] F=(RO N d e b c (pb F)):=by
 rw[lB]
 kernel_rfl
def lC (a:LA) (h:Ah) (k:KF R):O R :=
 match a,h with
 | [(.pagg d e),(.pagg b c)],[]=>(RO N d e b c (pb k))
 | _,_=>none
theorem pe:An N 118 @lC:=by
 intro R Q a h k j;unfold lC;split;exact As (pd ..) (pd ..) ⟨yM N,bI N,trivial⟩;exact Av
def pf:=At (pe N)
def pg:=Cg (pe N)
def lD (c:LA) (e:Bool) (b:LA) (d:Bool) (r0:LA→Bool→O R):O R :=
 (cond (Nat.ble 3 (b.length)) (GW N (b.take 3) d (fun l=>(cond (l==0) (r0 [(.bool false),.nsl,.nsl] false) (cond (Nat.ble 3 (c.length)) (Hs N (c.take 3) e (fun g=>(cond (Nat.ble 2 (g.length)) (cond (Nat.ble 3 (b.length)) (Vn N (b.take 3) d (fun m=>(My N (g.take 2) false m false (fun n=>(cond (Nat.ble 3 (c.length)) (Vn N (c.take 3) e (fun o=>(cond (Nat.ble 3 (b.length)) (Hs N (b.take 3) d (fun i=>(cond (Nat.ble 2 (i.length)) (My N o false (i.take 2) false (fun p=>(Fq N n false p false (fun f=>(cond ((Nat.beq 0 0)&&((Nat.beq (f.length) 3)&&(Nat.beq 3 3))) (cond (Nat.ble 3 (f.length)) (r0 (f.take 3) true) none) none))))) none))) none))) none))))) none) none))) none)))) none)
def gM:=(Ag (@lD R)).1
theorem eA:@gM R=@lD R:=(Ag _).2
def Abw:D8:=[(85,vJ N),(28,Pi N),(87,k_ N),(95,AC N),(84,Iw N)]
def lE (F:KF R):LA→Bool→O R:=(fun q r=>F (.tup [(.pagg q false),(.bool r)]) [])
theorem lF (c:LA) (e:Bool) (b:LA) (d:Bool) (F:KF R):Cd (Abw N) oO N 199 [(.pagg c e),(.pagg b d)] [] F=(gM N c e b d (lE F)):=by
 rw[eA]
 kernel_rfl
def eB (a:LA) (h:Ah) (k:KF R):O R :=
 match a,h with
 | [(.pagg c e),(.pagg b d)],[]=>(gM N c e b d (lE k))
 | _,_=>none
theorem lG:An N 199 @eB:=by
 intro R Q a h k j;unfold eB;split;exact As (lF ..) (lF ..) ⟨vK N,Pj N,kc N,AD N,Ix N,trivial⟩;exact Av
def yN:=At (lG N)
def yO:=Cg (lG N)
def bS (b:LA) (d:Bool) (c:LA) (e:Bool) (r0:LA→O R):O R :=
 (cond (Nat.ble 3 (b.length)) (cond (Nat.ble 3 (c.length)) (gM N (b.take 3) d (c.take 3) e (fun f i=>(cond ((Nat.beq 0 0)&&((Nat.beq (f.length) 3)&&(Nat.beq 3 3))) (cond (Nat.ble 3 (f.length)) (cond ((Nat.beq 0 0)&&((Nat.beq ((f.take 3).length) 3)&&(Nat.beq 3 3))) (cond (Nat.ble 3 ((f.take 3).length)) (r0 ((f.take 3).take 3)) none) none) none) none))) none) none)
def Tj:=(Ag (@bS R)).1
theorem WM:@Tj R=@bS R:=(Ag _).2
def yP:D8:=[(199,yN N)]
def eC (F:KF R):LA→O R:=(fun g=>F (.pagg g false) [])
theorem eD (b:LA) (d:Bool) (c:LA) (e:Bool) (F:KF R):Cd (yP N) Hl N 122 [(.pagg b d),(.pagg c e)] [] F=(Tj N b d c e (eC F)):=by
 rw[WM]
 kernel_rfl
def WN (a:LA) (h:Ah) (k:KF R):O R :=
 match a,h with
 | [(.pagg b d),(.pagg c e)],[]=>(Tj N b d c e (eC k))
 | _,_=>none
theorem eE:An N 122 @WN:=by
 intro R Q a h k j;unfold WN;split;exact As (eD ..) (eD ..) ⟨yO N,trivial⟩;exact Av
def eF:=At (eE N)
def eG:=Cg (eE N)
end
end Gx

namespace Gx
open Go Go.Proofs
section
variable {R:Type}
theorem lH (z:Int) (d:Nat) (f:d≠0):(mkRat z d).num.natAbs=z.natAbs/Nat.gcd z.natAbs d∧((mkRat z d).num<0↔z<0)∧(mkRat z d).den=d/Nat.gcd z.natAbs d:=by
 have j:0<Nat.gcd z.natAbs d:=Nat.gcd_pos_of_pos_right _ (by omega)
 rw[Rat.num_mkRat,Rat.den_mkRat,if_neg f,if_neg f,Nat.gcd_comm d]
 have b:((Nat.gcd z.natAbs d:Nat):Int)∣z:=Int.dvd_natAbs.1 (Int.natCast_dvd_natCast.2 (Nat.gcd_dvd_left _ _))
 obtain⟨c,i⟩:=b
 have k:z.natAbs.gcd d=Nat.gcd z.natAbs d:=rfl
 generalize Nat.gcd z.natAbs d=g at *
 refine⟨?_,?_,rfl⟩
 ·rw[i,Int.mul_ediv_cancel_left _ (by omega),Int.natAbs_mul,Int.natAbs_natCast,Nat.mul_div_cancel_left _ j]
 ·rw[i,Int.mul_ediv_cancel_left _ (by omega)]
  constructor
  ·intro h;exact Int.mul_neg_of_pos_of_neg (by omega) h
  ·intro h;rcases Int.lt_or_le c 0 with e | e
   ·exact e
   ·have:=Int.mul_nonneg (show(0:Int)≤g by omega) e;omega
structure RatD where
 neg:Bool
 ns:LS
 ds:LS
def RatD.av (x:RatD):LA:=[.bool x.neg,x.ns.av,x.ds.av]
def RatD.ok (x:RatD):Prop:=Ad x.ns.l∧Ad x.ds.l
def RatD.m (x:RatD):Nat:=max x.ns.l.length x.ds.l.length
def RatD.q (x:RatD):Rat:=mkRat (Ao x.neg x.ns) (val x.ds.l)
def RatD.can (x:RatD) (q:Rat):Prop:=x.neg=decide (q.num<0)∧x.ns.l=Af q.num.natAbs∧x.ds.l=Af q.den
def qm (q:Rat):Nat:=max (Af q.num.natAbs).length (Af q.den).length
theorem RatD.can.ok {x:RatD} {q:Rat} (h:x.can q):x.ok:=⟨by rw[h.2.1];exact Ab _,by rw[h.2.2];exact Ab _⟩
theorem RatD.can.m {x:RatD} {q:Rat} (h:x.can q):x.m=qm q:=by unfold RatD.m qm;rw[h.2.1,h.2.2]
theorem RatD.can.q {x:RatD} {q:Rat} (h:x.can q):x.q=q:=by
 unfold RatD.q Ao
 rw[h.1,h.2.1,h.2.2,Ac,Ac]
 have:(if decide (q.num<0)=true then -(q.num.natAbs:Int) else (q.num.natAbs:Int))=q.num:=by
  by_cases b:q.num<0
  ·rw[if_pos (by simpa using b)];omega
  ·rw[if_neg (by simpa using b)];omega
 rw[this,Rat.mkRat_self]
theorem Ajg {x:RatD} {f:Bool→O R}:Pa x.av f=f x.neg:=Agl
theorem Afi {x:RatD} {f:LA→Nat→O R}:Kk 1 (List.drop 1 x.av) f=f (Aa x.ns.l) x.ns.l.length:=by rw[RatD.av,List.drop_succ_cons,List.drop_zero,yJ]
theorem bT {x:RatD} {f:LA→Nat→O R}:Kk 1 (List.drop 2 x.av) f=f (Aa x.ds.l) x.ds.l.length:=by rw[RatD.av,List.drop_succ_cons,List.drop_succ_cons,List.drop_zero,yJ]
theorem Tk (x:RatD):Nat.ble 3 (List.length x.av)=true:=rfl
theorem I0 (x:RatD):List.take 3 x.av=x.av:=rfl
theorem Agm (x:RatD):List.take 2 x.av=B6 x.neg x.ns:=rfl
theorem zV (n:Bool) (s:LS):((Nat.beq 0 0)&&((Nat.beq (List.length (B6 n s)) 2)&&(Nat.beq 2 2)))=true:=rfl
theorem KX (n:Bool) (s:LS):Nat.ble 2 (List.length (B6 n s))=true:=rfl
theorem mV (n:Bool) (s:LS):List.take 2 (B6 n s)=B6 n s:=rfl
theorem vN:([.int .u32 1]:LA)=Aa [1]:=rfl
theorem ph:Ad [1]:=by intro x b;simp at b;omega
theorem J5:Af 1=[1]:=by rw[Uh (by omega)];simp[Cc]
theorem A5 {v:Nat} {S:List Nat} (b:Ad S) (c:val S=v):List.take ((Af v).length*1) (Aa S)=Aa (Af v):=by rw[←c,H1 b]
theorem vO (neg:Bool) (l:List Nat) (t o:Bool):([.bool neg,.imm (Aa l) l.length 1 t o]:LA)=B6 neg (.of l t o):=rfl
theorem Mz {z:Int} {t o:Bool}:Ao (decide (z<0)) (.of (Af z.natAbs) t o)=z:=by
 unfold Ao LS.l;rw[Ac]
 by_cases h:z<0
 ·rw[if_pos (by simpa using h)];omega
 ·rw[if_neg (by simpa using h)];omega
theorem nU {N:Nat} {v:Int} (b:-9223372036854775808≤v∧v≤9223372036854775807) (hN:4≤N):∃ d:RatD,d.can (v:Rat)∧∀ K:LA→O R,Od N v K=K d.av:=by
 obtain⟨S,s1,s2,c⟩:=F5 (R:=R) (N:=N) b hN
 refine⟨⟨decide (v<0),.of (Af v.natAbs) false false,.of (Af 1) false false⟩,⟨rfl,rfl,rfl⟩,fun K=>?_⟩
 rw[GY];unfold GX
 rw[c,A5 s1 s2,J5];rfl
theorem AI {N:Nat} {x:RatD} {o:Bool} (c:x.ok) (f:fit x.m N):∃ (neg:Bool) (s:LS) (l:List Nat) (o1 o2:Bool),Ad s.l∧Ad l∧val l≠0∧s.l.length≤x.m∧l.length≤max x.m 1∧mkRat (Ao neg s) (val l)=x.q∧∀ K:LA→Bool→LA→Nat→Bool→O R,Pc N x.av o K=K (B6 neg s) o1 (Aa l) l.length o2:=by
 have d:x.ns.l.length≤x.m:=Nat.le_max_left _ _
 have b:x.ds.l.length≤x.m:=Nat.le_max_right _ _
 by_cases e:val x.ds.l=0
 ·refine⟨false,.nil,[1],false,false,Nw,ph,by decide,by simp[LS.l],by simp;omega,?_,fun K=>?_⟩
  ·unfold RatD.q;rw[e];simp[Ao,LS.l,val]
  ·rw[Zt];unfold JX
   rw[bT,jI rfl c.2 (f.le b),e,Xr];rfl
 ·refine⟨x.neg,x.ns,x.ds.l,o,o,c.1,c.2,e,d,by omega,rfl,fun K=>?_⟩
  have:Fo (val x.ds.l) 0=1:=by unfold Fo;rw[if_neg (by omega),if_pos (by omega)]
  rw[Zt];unfold JX
  rw[bT,jI rfl c.2 (f.le b),this,show((1:Int)==0)=false by rfl,cf,show Nat.ble 2 (List.length x.av)=true by rfl,ct,bT,Agm,zV,ct,KX,ct,mV]
theorem Aik (z:Int) (d:Nat) (c:d≠0):(mkRat z d).num.sign=z.sign:=by
 obtain⟨f,e,_⟩:=lH z d c
 rcases Int.lt_trichotomy z 0 with h | h | h
 ·rw[Int.sign_eq_neg_one_of_neg h,Int.sign_eq_neg_one_of_neg (e.2 h)]
 ·subst h;simp
 ·have i:¬ (mkRat z d).num<0:=fun b=>by have:=e.1 b;omega
  have j:(mkRat z d).num≠0:=fun b=>by
   have:mkRat z d=0:=Rat.num_eq_zero.1 b
   rw[Rat.mkRat_eq_zero c] at this;omega
  rw[Int.sign_eq_one_of_pos h,Int.sign_eq_one_of_pos (by omega)]
theorem yQ {N:Nat} {x:RatD} {o:Bool} {K:Int→O R} (c:x.ok) (b:fit x.m N):WL N x.av o K=K x.q.num.sign:=by
 obtain⟨neg,s,l,o1,o2,d,k,e,f,n,i,j⟩:=AI (R:=R) (o:=o) c b
 rw[dy];unfold kw
 rw[Tk,ct,I0,j,zV,ct,KX,ct,mV,Iz d (b.le f),←i,Aik _ _ e]
theorem AJ {N:Nat} {x:RatD} {o:Bool} (c:x.ok) (f:fit x.m N):(∃ (n:Int) (d:Nat),-2147483648<n∧n<2147483648∧0<d∧d<2147483648∧mkRat n d=x.q∧∀ K:Int→Int→Bool→O R,Kr N x.av o K=K n (d:Int) true)∨(∀ K:Int→Int→Bool→O R,Kr N x.av o K=K 0 0 false):=by
 have i:x.ns.l.length≤x.m:=Nat.le_max_left _ _
 have b:x.ds.l.length≤x.m:=Nat.le_max_right _ _
 by_cases u:val x.ns.l<2147483648
 ·by_cases t:val x.ds.l<2147483648
  ·left
   have e:∀ K:Int→Int→Bool→O R,Kr N x.av o K=Do N K (val x.ns.l:Int) (val x.ds.l:Int) o x.av false:=by
    intro K
    rw[Qs];unfold Rj
    rw[Afi,Gr rfl c.1 (f.le i),if_pos (by omega),bT,Gr rfl c.2 (f.le b),if_pos (by omega)]
    rw[show((!true)==false)=true by rfl,ct,show((cond false true (!true))==false)=true by rfl,ct,show decide (((val x.ns.l:Nat):Int)≥2147483648)=false by rw[decide_eq_false_iff_not];omega,show((cond false true false)==false)=true by rfl,ct,show decide (((val x.ds.l:Nat):Int)≥2147483648)=false by rw[decide_eq_false_iff_not];omega]
    rfl
   by_cases k:val x.ds.l=0
   ·refine⟨0,1,by omega,by omega,by omega,by omega,by unfold RatD.q;rw[k];simp,fun K=>?_⟩
    rw[e];unfold Do
    rw[cf,Ajr k,ct];rfl
   ·have v:=Bn x.neg x.ns
    refine⟨Ao x.neg x.ns,val x.ds.l,by omega,by omega,by omega,t,rfl,fun K=>?_⟩
    rw[e];unfold Do
    rw[cf,mU k,cf,Ajg,i64 (a:=((val x.ns.l:Nat):Int)) (by omega),i64 (a:=((val x.ds.l:Nat):Int)) (by omega)]
    unfold Ao
    cases x.neg
    ·rfl
    ·rw[ct,i64 (by omega),Int.zero_sub];rfl
  ·right
   intro K
   rw[Qs];unfold Rj
   rw[Afi,Gr rfl c.1 (f.le i),if_pos (by omega),bT,Gr rfl c.2 (f.le b),show((!true)==false)=true by rfl]
   by_cases j:val x.ds.l<18446744073709551616
   ·rw[if_pos j,ct,show((cond false true (!true))==false)=true by rfl,ct,show decide (((val x.ns.l:Nat):Int)≥2147483648)=false by rw[decide_eq_false_iff_not];omega,show((cond false true false)==false)=true by rfl,ct,show decide (((val x.ds.l:Nat):Int)≥2147483648)=true by rw[decide_eq_true_eq];omega]
    unfold Do;rfl
   ·rw[if_neg j,ct,show((cond false true (!false))==false)=false by rfl,cf]
    unfold Do;rfl
 ·right
  intro K
  rw[Qs];unfold Rj
  rw[Afi,Gr rfl c.1 (f.le i)]
  by_cases j:val x.ns.l<18446744073709551616
  ·rw[if_pos j,bT,Gr rfl c.2 (f.le b),show((!true)==false)=true by rfl,show decide (((val x.ns.l:Nat):Int)≥2147483648)=true by rw[decide_eq_true_eq];omega]
   by_cases s:val x.ds.l<18446744073709551616
   ·rw[if_pos s,ct,show((cond false true (!true))==false)=true by rfl,ct]
    unfold Do;rfl
   ·rw[if_neg s,ct,show((cond false true (!false))==false)=false by rfl,cf]
    unfold Do;rfl
  ·rw[if_neg j,bT,Gr rfl c.2 (f.le b),show((!false)==false)=false by rfl]
   split<;>(rw[cf];unfold Do;rfl)
theorem pi {N:Nat} {a b c:Nat} {s:Int} (hN:4≤N) (t:a<18446744073709551616) (M:b<9223372036854775808) (u:0<c) (v:c∣a):∀ (k e x y:Nat),k<e→x*y<2 ^ k→y≤x→Nat.gcd x y=c→∃ d:RatD,d.neg=decide (s<0)∧d.ns.l=Af (a/c)∧d.ds.l=Af (b/c)∧∀ K:LA→O R,B4 N K s (b:Int) (a:Int) e (x:Int) (y:Int)=K d.av:=by
 have base:∀ (e:Nat),∃ d:RatD,d.neg=decide (s<0)∧d.ns.l=Af (a/c)∧d.ds.l=Af (b/c)∧∀ K:LA→O R,B4 N K s (b:Int) (a:Int) (e+1) (c:Int) ((0:Nat):Int)=K d.av:=by
  intro e
  have n:a/c<18446744073709551616:=Nat.lt_of_le_of_lt (Nat.div_le_self _ _) t
  have q:b/c<18446744073709551616:=Nat.lt_of_le_of_lt (Nat.div_le_self _ _) (by omega)
  obtain⟨S1,s1,s2,z⟩:=G7 (R:=R) (N:=N) n hN
  obtain⟨S2,t1,t2,t3⟩:=G7 (R:=R) (N:=N) q hN
  refine⟨⟨decide (s<0),.of (Af (a/c)) false false,.of (Af (b/c)) false false⟩,rfl,rfl,rfl,fun K=>?_⟩
  rw[B4];unfold Hn
  rw[show(((0:Nat):Int) != 0)=false by rfl,cf,mU (by omega),cf,MQ,Fv n,z,cf,Fv (show b<18446744073709551616 by omega),MQ,Fv q,t3,A5 s1 s2,A5 t1 t2];rfl
 intro k
 induction k with
 | zero =>
  intro e x y A f j i
  obtain⟨e,rfl⟩:∃ F,e=F+1:=⟨e - 1,by omega⟩
  have B:y=0:=by
   rcases Nat.eq_zero_or_pos y with h | h
   ·exact h
   ·have S:=Nat.mul_le_mul_left x (show 1≤y by omega)
    rw[Nat.pow_zero] at f;omega
  subst B
  rw[Nat.gcd_zero_right] at i;subst i
  exact base e
 | succ k C =>
  intro e x y A f j i
  obtain⟨e,rfl⟩:∃ F,e=F+1:=⟨e - 1,by omega⟩
  rcases Nat.eq_zero_or_pos y with h | h
  ·subst h;rw[Nat.gcd_zero_right] at i;subst i;exact base e
  ·have T:=FX (show 1≤y by omega) j
   have U:=Nat.mod_lt x h
   have m:Nat.gcd y (x%y)=Nat.gcd x y:=by rw[Nat.gcd_comm,←Nat.gcd_rec,Nat.gcd_comm]
   obtain⟨d,D,G,I,L⟩:=C e y (x%y) (by omega) (by rw[Nat.pow_succ] at f;omega) (by omega) (by rw[m,i])
   refine⟨d,D,G,I,fun K=>?_⟩
   rw[B4];unfold Hn
   rw[show((y:Int) != 0)=true by rw[bne_iff_ne];omega,ct,mU (by omega),cf,FV]
   exact L K
theorem N_ {N:Nat} {s:Int} {b:Nat} (A:-9223372036854775808≤s∧s≤9223372036854775807) (k:0<b) (v:b<9223372036854775808) (hN:1000≤N):∃ d:RatD,d.can (mkRat s b)∧∀ K:LA→O R,Gq N s (b:Int) K=K d.av:=by
 obtain⟨m1,m2,m3⟩:=lH s b (by omega)
 have f:∀ d:RatD,d.neg=decide (s<0)→d.ns.l=Af (s.natAbs/Nat.gcd s.natAbs b)→d.ds.l=Af (b/Nat.gcd s.natAbs b)→d.can (mkRat s b):=by
  intro d x y z
  exact⟨by rw[x];congr 1;exact propext m2.symm,by rw[y,m1],by rw[z,m3]⟩
 have j:s.natAbs<18446744073709551616:=by omega
 have start:∀ K:LA→O R,Gq N s (b:Int) K=B4 N K s (b:Int) (s.natAbs:Int) N (b:Int) (s.natAbs:Int):=by
  intro K
  rw[BT];unfold Qt Mr Py
  dsimp only
  by_cases h:s<0
  ·have e:IntKind.wrap .u64 ((0:Int) - IntKind.wrap .u64 s)=(s.natAbs:Int):=by rw[KV,KV];omega
   rw[decide_eq_true h,ct,e,Fv (by omega)]
  ·have e:IntKind.wrap .u64 s=(s.natAbs:Int):=by rw[KV];omega
   rw[decide_eq_false h,cf,e,Fv (by omega)]
 have i:0<Nat.gcd s.natAbs b:=Nat.gcd_pos_of_pos_right _ k
 by_cases m:s.natAbs≤b
 ·obtain⟨d,n,q,t,u⟩:=pi (R:=R) (N:=N) (a:=s.natAbs) (b:=b) (c:=Nat.gcd s.natAbs b) (s:=s) (by omega) j v i (Nat.gcd_dvd_left _ _) 128 N b s.natAbs (by omega) (by
   have:=Nat.mul_lt_mul'' (show b<18446744073709551616 by omega) j;exact this) m (Nat.gcd_comm _ _)
  exact⟨d,f d n q t,fun K=>by rw[start,u]⟩
 ·obtain⟨F,hF⟩:∃ F,N=F+1:=⟨N - 1,by omega⟩
  obtain⟨d,n,q,t,u⟩:=pi (R:=R) (N:=N) (a:=s.natAbs) (b:=b) (c:=Nat.gcd s.natAbs b) (s:=s) (by omega) j v i (Nat.gcd_dvd_left _ _) 128 F s.natAbs (b%s.natAbs) (by omega) (by
   rw[Nat.mod_eq_of_lt (by omega)]
   have:=Nat.mul_lt_mul'' j (show b<18446744073709551616 by omega);exact this) (by rw[Nat.mod_eq_of_lt (by omega)];omega) (by rw[Nat.mod_eq_of_lt (by omega)])
  refine⟨d,f d n q t,fun K=>?_⟩
  rw[start,←u K]
  conv=>lhs;rw[show(B4 N K s (b:Int) (s.natAbs:Int) N)=B4 N K s (b:Int) (s.natAbs:Int) (F+1) by rw[←hF]]
  rw[B4];unfold Hn
  rw[show(((s.natAbs:Nat):Int) != 0)=true by rw[bne_iff_ne];omega,ct,mU (by omega),cf,FV]
end
end Gx

namespace Gx
open Go Go.Proofs
section
variable {R:Type}
theorem Afj {S:List Nat} {g:Nat} (d:Ad S) (e:val S=g) (c:(Af g).length=1) {f:Int→O R}:Bw .u32 (Aa S) f=f (g:Int):=by
 have i:=(A3 d).2
 rw[e,c] at i
 have b:=uR d
 rw[e,c] at b
 obtain⟨a,j⟩:∃ a,Af g=[a]:=by
  match h:Af g,c with
  | [a],_=>exact⟨a,rfl⟩
 have k:a=g:=by have:=Ac g;rw[j] at this;simpa[val] using this
 rw[j,k] at b
 match S,i,b with
 | x::r,_,b =>
  simp at b;subst b
  rw[Rg,Xf]
theorem eH {N:Nat} {neg:Bool} {s:LS} {l:List Nat} {n:Nat} {o t o':Bool} (S:n=l.length) (C:Ad s.l) (D:Ad l) (j:val l≠0) (e:fit (2*(s.l.length+l.length)+8) N) :
  ∃ d:RatD,d.can (mkRat (Ao neg s) (val l))∧∀ K:LA→O R,Oa N (B6 neg s) o (Aa l) n t o' K=K d.av:=by
 obtain⟨m1,m2,m3⟩:=lH (Ao neg s) (val l) j
 have k:=Bn neg s
 have ls:=(A3 C).2
 have ll:=(A3 D).2
 generalize T:Ao neg s=z at *
 have start:∀ K:LA→O R,Oa N (B6 neg s) o (Aa l) n t o' K=cond ((((Af z.natAbs).length:Nat):Int)==(0:Int)) (K [(.bool false),.nsl,(.imm [(.int .u32 1)] 1 1 false false)]) (FU N (Aa (Af z.natAbs)) (Af z.natAbs).length false true (Aa (Af (val l))) (Af (val l)).length false true (fun f g=>(cond ((((f:Nat):Int) != (1:Int))==false) (cond (Aj (0:Int) f) (Bw .u32 g fun y=>(cond (cond false true (y != (1:Int))) (C5 N (Aa (Af z.natAbs)) (Af z.natAbs).length false true (List.take (f*1) g) f false true (fun p ae af z2 ag=>(C5 N (Aa (Af (val l))) (Af (val l)).length false true (List.take (f*1) g) f false true (fun q ah ai aa aj=>(K [(.bool (decide (z<0))),(.imm (List.take (p*1) z2) p 1 false false),(.imm (List.take (q*1) aa) q 1 false false)]))))) (K [(.bool (decide (z<0))),(.imm (Aa (Af z.natAbs)) (Af z.natAbs).length 1 false false),(.imm (Aa (Af (val l))) (Af (val l)).length 1 false false)]))) none) (C5 N (Aa (Af z.natAbs)) (Af z.natAbs).length false true (List.take (f*1) g) f false true (fun r ak al ab am=>(C5 N (Aa (Af (val l))) (Af (val l)).length false true (List.take (f*1) g) f false true (fun s an ao ac ap=>(K [(.bool (decide (z<0))),(.imm (List.take (r*1) ab) r 1 false false),(.imm (List.take (s*1) ac) s 1 false false)])))))))):=by
  intro K
  rw[MR];unfold RG
  have tk:∀ v:Nat,List.take ((Af v).length*1) (Aa (Af v))=Aa (Af v):=fun v=>A5 (Ab _) (Ac v)
  rw[Gn,Gc,show Nat.beq (List.length (B6 neg s)) 2=true by rfl,ct,vO,yK (s1:=.of s.l false o) C (e.le (by simp[LS.l];omega)),show Ao neg (.of s.l false o)=z by rw[←T];rfl,Rl S D (e.le (by omega)),tk,tk]
 by_cases F:z=0
 ·refine⟨⟨false,.nil,.of [1] false false⟩,?_,fun K=>?_⟩
  ·rw[F];simp only[Rat.zero_mkRat]
   exact⟨rfl,rfl,J5.symm⟩
  ·rw[start,F];rfl
 ·have m:z.natAbs≠0:=by omega
  have i:(Af z.natAbs).length≠0:=fun h=>m (A8.1 h)
  have U:0<Nat.gcd z.natAbs (val l):=Nat.gcd_pos_of_pos_right _ (by omega)
  have lz:(Af z.natAbs).length≤s.l.length:=by rw[k];exact ls
  obtain⟨G,I,u,L⟩:=Aeg (R:=R) (N:=N) (a:=Af z.natAbs) (b:=Af (val l)) (t:=false) (o:=true) (t':=false) (o':=true) rfl rfl (Ab _) (Ab _) (e.le (by omega))
  rw[Ac,Ac] at u L
  have lg:(Af (Nat.gcd z.natAbs (val l))).length≤l.length:=Nat.le_trans (A4 (Nat.gcd_le_right _ (by omega))) ll
  obtain⟨Q1,R1,a1,a2,a3,a4,a5⟩:=U4 (R:=R) (N:=N) (a:=Af z.natAbs) (b:=Af (Nat.gcd z.natAbs (val l))) (t:=false) (o:=true) (t':=false) (o':=true) rfl rfl (Ab _) (Ab _) (by rw[Ac];omega) (e.le (by omega))
  obtain⟨Q2,R2,M,x,X,Y,A⟩:=U4 (R:=R) (N:=N) (a:=Af (val l)) (b:=Af (Nat.gcd z.natAbs (val l))) (t:=false) (o:=true) (t':=false) (o':=true) rfl rfl (Ab _) (Ab _) (by rw[Ac];omega) (e.le (by omega))
  rw[Ac,Ac] at a2 a5 x A
  have B:decide (z<0)=decide ((mkRat z (val l)).num<0):=by congr 1;exact propext m2.symm
  refine⟨⟨decide (z<0),.of (Af (z.natAbs/Nat.gcd z.natAbs (val l))) false false,.of (Af (val l/Nat.gcd z.natAbs (val l))) false false⟩,⟨B,by rw[m1];rfl,by rw[m3];rfl⟩,fun K=>?_⟩
  rw[start,mU i,cf,L,A5 I u]
  by_cases c:(Af (Nat.gcd z.natAbs (val l))).length=1
  ·rw[show((((((Af (Nat.gcd z.natAbs (val l))).length:Nat):Int) != (1:Int))==false))=true by rw[c];rfl,ct,show Aj 0 (Af (Nat.gcd z.natAbs (val l))).length=true by rw[c];rfl,ct,Afj I u c]
   by_cases V:Nat.gcd z.natAbs (val l)=1
   ·rw[V,show(cond false true (((1:Nat):Int) != 1))=false by rfl,cf,Nat.div_one,Nat.div_one];rfl
   ·rw[show(cond false true (((Nat.gcd z.natAbs (val l):Nat):Int) != 1))=true by (show(((Nat.gcd z.natAbs (val l):Nat):Int) != 1)=true;rw[bne_iff_ne];omega),ct,a5,A,A5 a1 a2,A5 M x];rfl
  ·rw[show((((((Af (Nat.gcd z.natAbs (val l))).length:Nat):Int) != (1:Int))==false))=false by (rw[show((((Af (Nat.gcd z.natAbs (val l))).length:Nat):Int) != (1:Int))=true by rw[bne_iff_ne];omega];rfl),cf,a5,A,A5 a1 a2,A5 M x];rfl
theorem RP {N:Nat} {x:RatD} {o:Bool} (j:x.ok) (f:fit (4*x.m+10) N):∃ d:RatD,d.can x.q∧∀ K:LA→O R,J_ N x.av o K=K d.av:=by
 have B:=f.1
 rcases AJ (R:=R) (N:=N) (o:=o) j (f.le (by omega)) with⟨n,d,n1,n2,k,C,e,hK⟩ | hK
 ·obtain⟨c,c1,i⟩:=N_ (R:=R) (N:=N) (s:=n) (b:=d) (by omega) k (by omega) (by omega)
  rw[e] at c1
  refine⟨c,c1,fun K=>?_⟩
  rw[FY];unfold UW
  rw[Tk,ct,I0,hK,ct,i];rfl
 ·obtain⟨neg,s,l,o1,o2,u,v,y,D,F,z,A⟩:=AI (R:=R) (N:=N) (o:=o) j (f.le (by omega))
  obtain⟨c,c1,i⟩:=eH (R:=R) (N:=N) (neg:=neg) (s:=s) (l:=l) (n:=l.length) (o:=o1) (t:=false) (o':=o2) rfl u v y (f.le (by omega))
  rw[z] at c1
  refine⟨c,c1,fun K=>?_⟩
  rw[FY];unfold UW
  rw[Tk,ct,I0,hK,cf,ct,A,i];rfl
theorem zW {a b:Int} (d:-2147483648<a∧a<2147483648) (e:-2147483648<b∧b<2147483648):-4611686018427387904<a*b∧a*b<4611686018427387904:=by
 have c:a.natAbs*b.natAbs≤2147483647*2147483647:=Nat.mul_le_mul (by omega) (by omega)
 rw[←Int.natAbs_mul] at c
 omega
end
end Gx

namespace Gx
open Go Go.Proofs
section
variable {R:Type}
theorem Tl {a b:Int} {k l:Nat} (c:a.natAbs<4294967296 ^ k) (d:b.natAbs<4294967296 ^ l):(a*b).natAbs<4294967296 ^ (k+l):=by
 rw[Int.natAbs_mul,Nat.pow_add];exact Nat.mul_lt_mul'' c d
theorem Tm {k l:Nat} (h:k≤l):4294967296 ^ k≤4294967296 ^ l:=Nat.pow_le_pow_right (by omega) h
theorem rj {v k:Nat} (h:(Af v).length≤k):v<4294967296 ^ k:=by
 have:=Be (Ab v);rw[Ac] at this
 exact Nat.lt_of_lt_of_le this (Tm h)
theorem Afk {N:Nat} {x y:RatD} {o o':Bool} (u:x.ok) (v:y.ok) (e:fit (8*(x.m+y.m)+40) N):∃ d:RatD,d.can (x.q*y.q)∧∀ K:LA→O R,Yc N K o x.av o' y.av=K d.av:=by
 obtain⟨n1,s1,l1,a1,z,f,i,A,B,T,C,D⟩:=AI (R:=R) (N:=N) (o:=o) u (e.le (by omega))
 obtain⟨n2,s2,l2,a2,F,j,k,G,I,U,L,M⟩:=AI (R:=R) (N:=N) (o:=o') v (e.le (by omega))
 have zl1:(Ao n1 s1).natAbs<4294967296 ^ x.m:=by rw[Bn];exact Nat.lt_of_lt_of_le (Be f) (Tm B)
 have zl2:(Ao n2 s2).natAbs<4294967296 ^ y.m:=by rw[Bn];exact Nat.lt_of_lt_of_le (Be j) (Tm I)
 have Ah8:((val l1:Nat):Int).natAbs<4294967296 ^ (x.m+1):=by rw[Int.natAbs_natCast];exact Nat.lt_of_lt_of_le (Be i) (Tm (by omega))
 have dl2:((val l2:Nat):Int).natAbs<4294967296 ^ (y.m+1):=by rw[Int.natAbs_natCast];exact Nat.lt_of_lt_of_le (Be k) (Tm (by omega))
 obtain⟨S1,t1,t2,t3⟩:=pa (R:=R) (N:=N) (n1:=n1) (n2:=n2) (s1:=s1) (s2:=s2) (o1:=a1) (o2:=a2) f j (e.le (by omega))
 have L1:=Bp (Tl zl1 zl2)
 obtain⟨S4,v1,v2,v3⟩:=UD (R:=R) (N:=N) (a:=l1) (b:=l2) (t:=false) (o:=z) (t':=false) (o':=F) rfl rfl i k (e.le (by omega))
 have z4:val l1*val l2<4294967296 ^ (x.m+1+(y.m+1)):=by
  have:=Tl Ah8 dl2;rw[Int.natAbs_mul,Int.natAbs_natCast,Int.natAbs_natCast] at this;exact this
 have L4:=Bp z4
 obtain⟨c,c1,S⟩:=eH (R:=R) (N:=N) (neg:=decide (Ao n1 s1*Ao n2 s2<0)) (s:=.of (Af (Ao n1 s1*Ao n2 s2).natAbs) false true) (l:=Af (val l1*val l2)) (n:=(Af (val l1*val l2)).length) (o:=true) (t:=false) (o':=true) rfl (Ab _) (Ab _) (by rw[Ac];exact Nat.mul_ne_zero A G) (e.le (show 2*((Af (Ao n1 s1*Ao n2 s2).natAbs).length+(Af (val l1*val l2)).length)+8≤_ by omega))
 rw[Mz,Ac,←Rat.mkRat_mul_mkRat,C,L] at c1
 refine⟨c,c1,fun K=>?_⟩
 unfold Yc
 rw[Tk,ct,I0,D,zV,ct,Tk,ct,I0,M,zV,ct,KX,ct,KX,ct,mV,mV,t3,v3,A5 t1 t2,A5 v1 v2,vO,S];rfl
theorem bU {N:Nat} {x y:RatD} {o o':Bool} (z:x.ok) (l:y.ok) (f:fit (8*(x.m+y.m)+40) N):∃ d:RatD,d.can (x.q*y.q)∧∀ K:LA→O R,Z8 N x.av o y.av o' K=K d.av:=by
 have G:=f.1
 obtain⟨g,A,t⟩:=Afk (R:=R) (N:=N) (o:=o) (o':=o') z l f
 rcases AJ (R:=R) (N:=N) (o:=o) z (f.le (by omega)) with⟨n,d,n1,n2,C,I,e,hK⟩ | hK
 ·rcases AJ (R:=R) (N:=N) (o:=o') l (f.le (by omega)) with⟨u,d',i,j,k,v,B,hK'⟩ | hK'
  ·have L:=zW (a:=n) (b:=u) ⟨n1,n2⟩ ⟨i,j⟩
   have M:=zW (a:=(d:Int)) (b:=(d':Int)) (by omega) (by omega)
   have D:((d*d':Nat):Int)=(d:Int)*(d':Int):=by simp
   obtain⟨c,c1,F⟩:=N_ (R:=R) (N:=N) (s:=n*u) (b:=d*d') (by omega) (Nat.mul_pos C k) (by omega) (by omega)
   rw[←Rat.mkRat_mul_mkRat,e,B] at c1
   refine⟨c,c1,fun K=>?_⟩
   rw[Z9];unfold KE
   rw[Tk,ct,I0,hK,Tk,ct,I0,hK',show((true:Bool)==true)=true by rfl,ct,Aay,ct,i64 (by omega),i64 (by omega),←D,F];rfl
  ·refine⟨g,A,fun K=>?_⟩
   rw[Z9];unfold KE
   rw[Tk,ct,I0,hK,Tk,ct,I0,hK',show((true:Bool)==true)=true by rfl,ct,Aay,cf,t]
 ·refine⟨g,A,fun K=>?_⟩
  rw[Z9];unfold KE
  rcases AJ (R:=R) (N:=N) (o:=o') l (f.le (by omega)) with⟨u,d',i,j,k,v,B,hK'⟩ | hK'
  ·rw[Tk,ct,I0,hK,Tk,ct,I0,hK',show((false:Bool)==true)=false by rfl,cf,t]
  ·rw[Tk,ct,I0,hK,Tk,ct,I0,hK',show((false:Bool)==true)=false by rfl,cf,t]
end
end Gx

namespace Gx
open Go Go.Proofs
section
variable {R:Type}
def Bg (z:Int):LA:=B6 (decide (z<0)) (.of (Af z.natAbs) false false)
theorem eI (z:Int) (K:LA→O R):(cond ((Nat.beq 0 0)&&((Nat.beq (List.length (Bg z)) 2)&&(Nat.beq 2 2))) (cond (Nat.ble 2 (List.length (Bg z))) (K (List.take 2 (Bg z))) none) none)=K (Bg z):=rfl
theorem Ail (z w:Int):setCells (Bg z) 0 (Bg w)=Bg w:=rfl
theorem Abx (z:Int):List.take 2 (Bg z)=Bg z:=rfl
theorem f4 (z:Int):Nat.ble 2 (List.length (Bg z))=true:=rfl
theorem Ahl (z:Int):Nat.beq (List.length (Bg z)) 2=true:=rfl
theorem Aeo (v:Nat):List.take ((Af v).length*1) (Aa (Af v))=Aa (Af v):=A5 (Ab _) (Ac v)
theorem E6 {N:Nat} {neg:Bool} {l:List Nat} {n:Nat} {t o:Bool} {K:LA→O R} (b:n=l.length) (d:Ad l) (e:fit l.length N):Dc N neg (Aa l) n t o K=K (Bg (if neg then -(val l:Int) else (val l:Int))):=by
 obtain⟨c1,f⟩:=J4 (z:=if neg then -(val l:Int) else (val l:Int)) (c:=neg) (m:=val l) rfl
 rw[UY];unfold bB
 rw[Cf b d e,Aeo]
 unfold Bg
 rw[←c1,f]
 cases neg
 ·rfl
 ·rw[show((true:Bool)==true)=true by rfl,ct,Aay];simp[B6,LS.av]
theorem Eo {N:Nat} {v:Int} {K:LA→O R} (c:-9223372036854775808≤v∧v≤9223372036854775807) (hN:2000≤N):B5 N v K=K (Bg v):=by
 have b:v.natAbs<18446744073709551616:=by omega
 have d:=Qu b
 rw[CA];unfold Z1
 by_cases h:v<0
 ·have e:IntKind.wrap .u64 (IntKind.wrap .u64 (IntKind.wrap .i64 ((0:Int) - IntKind.wrap .i64 (v+1)))+1)=(v.natAbs:Int):=by
   rw[i64 (a:=v+1) (by omega),i64 (by omega),KV,KV];omega
  rw[decide_eq_true h,ct,e,Vh b (by omega),Aeo,E6 rfl (Ab _) ⟨by omega,by omega⟩,Ac]
  have:(if true=true then -(v.natAbs:Int) else (v.natAbs:Int))=v:=by rw[if_pos rfl];omega
  rw[this];exact eI _ _
 ·have e:IntKind.wrap .u64 v=(v.natAbs:Int):=by rw[KV];omega
  rw[decide_eq_false h,cf,e,Vh b (by omega),Aeo,E6 rfl (Ab _) ⟨by omega,by omega⟩,Ac]
  have:(if false=true then -(v.natAbs:Int) else (v.natAbs:Int))=v:=by rw[if_neg (by decide)];omega
  rw[this];exact eI _ _
theorem RQ {N:Nat} {n:Bool} {s:LS} {o:Bool} {K:LA→O R} (b:Ad s.l) (c:fit s.l.length N):Td N (B6 n s) o K=K (Bg (Ao n s)):=by
 rw[U_];unfold bC
 rw[Gn,Gc,E6 rfl b c];exact eI _ _
theorem lI {N:Nat} {n:Bool} {s:LS} {o:Bool} {K:Int→O R} (b:Ad s.l) (c:fit s.l.length N):Pe N (B6 n s) o K=K (Ao n s).sign:=by
 rw[VB];unfold bD
 rw[KX,ct,mV,RQ b c,Ahl,show((true&&(true&&(!false))))=true by rfl,ct]
 have e:setCells (B6 n s) 0 (Bg (Ao n s))=Bg (Ao n s):=rfl
 rw[e]
 generalize Ao n s=z
 unfold Bg
 rw[Gn]
 rcases Int.lt_trichotomy z 0 with h | h | h
 ·rw[decide_eq_true h,ct,Int.sign_eq_neg_one_of_neg h]
 ·subst h;rfl
 ·rw[decide_eq_false (by omega),cf,Gc]
  have:(Af z.natAbs).length≠0:=fun d=>by have:=A8.1 d;omega
  simp only[LS.l]
  rw[mU this,cf,Int.sign_eq_one_of_pos h]
theorem yR {N:Nat} {n1 n2:Bool} {s1 s2:LS} {o1 o2:Bool} {K:LA→O R} (b:Ad s1.l) (c:Ad s2.l) (d:fit (s1.l.length+s2.l.length) N):My N (B6 n1 s1) o1 (B6 n2 s2) o2 K=K (Bg (Ao n1 s1*Ao n2 s2)):=by
 have e:(Af (val s1.l*val s2.l)).length≤s1.l.length+s2.l.length:=Bp (by rw[Nat.pow_add];exact Nat.mul_lt_mul'' (Be b) (Be c))
 rw[dn];unfold kX
 rw[Gn,Gn,Gc,Gc,Abq rfl rfl b c d,Aeo,E6 rfl (Ab _) (d.le e),Ac]
 have f:Ao n1 s1*Ao n2 s2=if (!(n1==n2)) then -((val s1.l*val s2.l:Nat):Int) else ((val s1.l*val s2.l:Nat):Int):=by
  unfold Ao;cases n1<;>cases n2<;>simp[Int.mul_neg,Int.neg_mul]
 rw[←f];exact eI _ _
theorem yS {N:Nat} {n1 n2:Bool} {s1 s2:LS} {o1 o2:Bool} {K:LA→O R} (f:Ad s1.l) (i:Ad s2.l) (b:fit (s1.l.length+s2.l.length+1) N):Qy N (B6 n1 s1) o1 (B6 n2 s2) o2 K=K (Bg (Ao n1 s1+Ao n2 s2)):=by
 have v1:=Be f
 have v2:=Be i
 have k:=Tm (show s1.l.length≤s1.l.length+s2.l.length by omega)
 have m:=Tm (show s2.l.length≤s1.l.length+s2.l.length by omega)
 rw[d8];unfold jv
 rw[Gn,Gn]
 by_cases j:n1=n2
 ·subst j
  have c:(Af (val s1.l+val s2.l)).length≤s1.l.length+s2.l.length+1:=Bp (by rw[Nat.pow_succ];omega)
  have d:Ao n1 s1+Ao n1 s2=if n1 then -((val s1.l+val s2.l:Nat):Int) else ((val s1.l+val s2.l:Nat):Int):=by
   unfold Ao;cases n1<;>simp;omega
  rw[show(n1==n1)=true by simp,ct,Gn,Gc,Gc,bL rfl rfl f i b,Aeo,E6 rfl (Ab _) (b.le c),Ac,←d];exact eI _ _
 ·rw[show(n1==n2)=false by simp[j],cf,Gc,Gc,bM rfl rfl f i (b.le (by omega))]
  by_cases e:val s2.l≤val s1.l
  ·have c:(Af (val s1.l - val s2.l)).length≤s1.l.length+s2.l.length+1:=Bp (by rw[Nat.pow_succ];omega)
   have d:Ao n1 s1+Ao n2 s2=if n1 then -((val s1.l - val s2.l:Nat):Int) else ((val s1.l - val s2.l:Nat):Int):=by
    unfold Ao;cases n1<;>cases n2<;>simp at j ⊢<;>omega
   rw[if_pos e,ct,Gn,Aeo,E6 rfl (Ab _) (b.le c),Ac,←d];exact eI _ _
  ·have c:(Af (val s2.l - val s1.l)).length≤s1.l.length+s2.l.length+1:=Bp (by rw[Nat.pow_succ];omega)
   have d:Ao n1 s1+Ao n2 s2=if n2 then -((val s2.l - val s1.l:Nat):Int) else ((val s2.l - val s1.l:Nat):Int):=by
    unfold Ao;cases n1<;>cases n2<;>simp at j ⊢<;>omega
   rw[if_neg e,cf,Gc,Gc,bM rfl rfl i f (b.le (by omega)),if_pos (by omega),Gn,Aeo,E6 rfl (Ab _) (b.le c),Ac,←d];exact eI _ _
theorem Aby {N:Nat} {n1 n2:Bool} {s1 s2:LS} {o1 o2:Bool} {K:LA→O R} (b:Ad s1.l) (c:Ad s2.l) (d:fit (3*(s1.l.length+s2.l.length)+4) N):VP N (B6 n1 s1) o1 (B6 n2 s2) o2 K=K (Bg ((Nat.gcd (Ao n1 s1).natAbs (Ao n2 s2).natAbs:Nat):Int)):=by
 have e:(Af (Nat.gcd (val s1.l) (val s2.l))).length≤s1.l.length+s2.l.length:=by
  rcases Nat.eq_zero_or_pos (val s1.l) with h | h
  ·rw[h,Nat.gcd_zero_left];have:=(A3 c).2;omega
  ·have:=A4 (Nat.gcd_le_left (val s2.l) h);have:=(A3 b).2;omega
 rw[d5];unfold jn
 rw[Gc,Gc,Abt rfl rfl b c d,Aeo,E6 rfl (Ab _) (d.le (by omega)),Ac,Bn,Bn];exact eI _ _
theorem HB {N:Nat} {n1:Bool} {s1:LS} {g:Nat} {o1 o2:Bool} {K:LA→LA→Bool→O R} (e:Ad s1.l) (j:0<g) (i:g∣val s1.l) (d:fit (s1.l.length+2*(Af g).length+4) N):Ob N (B6 n1 s1) o1 (Bg (g:Int)) o2 K=K (Bg (Ao n1 s1/(g:Int))) (Bg 0) true:=by
 have b:Bg (g:Int)=B6 false (.of (Af g) false false):=by
  unfold Bg;rw[decide_eq_false (by omega),Int.natAbs_natCast]
 have hq:(Af (val s1.l/g)).length≤s1.l.length:=Nat.le_trans (A4 (Nat.div_le_self _ _)) (A3 e).2
 rw[b,GM];unfold GL
 rw[Gc,Gc,show(LS.of (Af g) false false).l=Af g by rfl]
 rw[AG rfl rfl e (Ab _) (by rw[Ac];omega) d,Ac,Nat.mod_eq_zero_of_dvd i,show(!true)=false by rfl,cf,Gn,Gn,Aeo,E6 rfl (Ab _) (d.le (by omega)),Gn,Aeo,E6 rfl (Ab _) (d.le (by simp[Cc])),Ac,Ac]
 have k:(if n1=true then -((0:Nat):Int) else ((0:Nat):Int))=0:=by cases n1<;>rfl
 have m:(if (!(n1==false))=true then -((val s1.l/g:Nat):Int) else ((val s1.l/g:Nat):Int))=Ao n1 s1/(g:Int):=by
  obtain⟨c,b⟩:=i
  have n:val s1.l/g=c:=by rw[b,Nat.mul_div_cancel_left _ j]
  rw[n];unfold Ao;rw[b]
  cases n1
  ·simp;rw[Int.mul_ediv_cancel_left _ (by omega)]
  ·simp only[Bool.true_beq,Bool.not_false,if_true]
   rw[show -((g*c:Nat):Int)=(g:Int)*(-(c:Int)) by rw[Int.mul_neg];simp,Int.mul_ediv_cancel_left _ (by omega)]
 rw[k,m]
 generalize Ao n1 s1/(g:Int)=q
 have s:∀ (f:Bool→O R),Pa (Bg 0) f=f false:=fun f=>Gn
 rw[show((Nat.beq 0 0)&&((Nat.beq (List.length (Bg q)) 2)&&(Nat.beq 2 2)))=true by rfl,ct,show((Nat.beq 0 0)&&((Nat.beq (List.length (Bg 0)) 2)&&(Nat.beq 2 2)))=true by rfl,ct,s,cf]
 rfl
end
end Gx
