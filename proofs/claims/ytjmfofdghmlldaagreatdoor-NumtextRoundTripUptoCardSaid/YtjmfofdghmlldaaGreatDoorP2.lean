/- A part of the proof: what it holds is said by each theorem. -/
import Derived.Test.YtjmfofdghmlldaaGreatDoorP1
set_option linter.unusedVariables false
set_option linter.defProp false
set_option linter.unusedSimpArgs false
namespace Gx
open Go Go.Proofs
open IntKind (wrap)
set_option maxRecDepth 100000
noncomputable section
variable {R:Type} (N:Nat)
def Dn (N:Nat) (r0:Int→O R) (b c:Int):O R :=
 (cond (decide (b≥256)) (cond (Ap (wrap .u8 (Int.fdiv b (2 ^ 8))) 256) (r0 (wrap .i64 ((wrap .i64 (c+8))+(wrap .i64 ((UInt8.toNat (List.getD ([0,1,2,2,3,3,3,3,4,4,4,4,4,4,4,4,5,5,5,5,5,5,5,5,5,5,5,5,5,5,5,5,6,6,6,6,6,6,6,6,6,6,6,6,6,6,6,6,6,6,6,6,6,6,6,6,6,6,6,6,6,6,6,6,7,7,7,7,7,7,7,7,7,7,7,7,7,7,7,7,7,7,7,7,7,7,7,7,7,7,7,7,7,7,7,7,7,7,7,7,7,7,7,7,7,7,7,7,7,7,7,7,7,7,7,7,7,7,7,7,7,7,7,7,7,7,7,7,8,8,8,8,8,8,8,8,8,8,8,8,8,8,8,8,8,8,8,8,8,8,8,8,8,8,8,8,8,8,8,8,8,8,8,8,8,8,8,8,8,8,8,8,8,8,8,8,8,8,8,8,8,8,8,8,8,8,8,8,8,8,8,8,8,8,8,8,8,8,8,8,8,8,8,8,8,8,8,8,8,8,8,8,8,8,8,8,8,8,8,8,8,8,8,8,8,8,8,8,8,8,8,8,8,8,8,8,8,8,8,8,8,8,8,8,8,8,8,8,8,8,8,8,8,8,8,8]:List UInt8) ((wrap .u8 (Int.fdiv b (2 ^ 8))).toNat) 0):Nat):Int))))) none) (cond (Ap (wrap .u8 b) 256) (r0 (wrap .i64 (c+(wrap .i64 ((UInt8.toNat (List.getD ([0,1,2,2,3,3,3,3,4,4,4,4,4,4,4,4,5,5,5,5,5,5,5,5,5,5,5,5,5,5,5,5,6,6,6,6,6,6,6,6,6,6,6,6,6,6,6,6,6,6,6,6,6,6,6,6,6,6,6,6,6,6,6,6,7,7,7,7,7,7,7,7,7,7,7,7,7,7,7,7,7,7,7,7,7,7,7,7,7,7,7,7,7,7,7,7,7,7,7,7,7,7,7,7,7,7,7,7,7,7,7,7,7,7,7,7,7,7,7,7,7,7,7,7,7,7,7,7,8,8,8,8,8,8,8,8,8,8,8,8,8,8,8,8,8,8,8,8,8,8,8,8,8,8,8,8,8,8,8,8,8,8,8,8,8,8,8,8,8,8,8,8,8,8,8,8,8,8,8,8,8,8,8,8,8,8,8,8,8,8,8,8,8,8,8,8,8,8,8,8,8,8,8,8,8,8,8,8,8,8,8,8,8,8,8,8,8,8,8,8,8,8,8,8,8,8,8,8,8,8,8,8,8,8,8,8,8,8,8,8,8,8,8,8,8,8,8,8,8,8,8,8,8,8,8,8]:List UInt8) ((wrap .u8 b).toNat) 0):Nat):Int))))) none))
def Ka (N:Nat) (r0:Int→O R) (q0:Int→Int→O R) (d:Int):O R :=
 (cond (decide (d≥65536)) (q0 (Int.fdiv d (2 ^ 16)) 16) (q0 d 0))
def Fk:=(Ag (fun (N:Nat) (d:Int) (r0:Int→O R)=>(Ka N r0 (fun b c=>(Dn N r0 b c)) d))).1
theorem Rj (d r0):(@Fk R N d r0)=(Ka N r0 (fun b c=>(Dn N r0 b c)) d):=by rw[Fk,(Ag _).2]
def T8:Hints:={ H:=(hS hL (hJ [0,2] hL hL)) }
def RU (F:KF R):=S6 Tryz.f299 T8 [] [] N F
def Hb (F:KF R):Int→O R:=(fun e=>F (iv e) [])
def RV (b c:Int):St:=⟨[(0,(.int .u32 b)),(2,(iv c))],[]⟩
def RW (F:KF R):=RU N F [1,1] []
theorem GB (F:KF R):∀ (b c:Int),Eh (RW N F) (RV b c)=(Dn N (Hb F) b c):=by
 intro b c
 kernel_rfl
theorem T9 (d:Int) (F:KF R):Cq [] T8 N 299 [(.int .u32 d)] [] F=(Fk N d (Hb F)):=by
 rw[Rj]
 exact Eq.trans (by kernel_rfl) (El (Ka N (Hb F) · d) (funext fun b=>funext fun c=>(Bo ..).trans (GB N F b c)):_)
def Rk (a:LA) (h:Ah) (k:KF R):O R :=
 match a,h with
 | [(.int .u32 d)],[]=>(Fk N d (Hb k))
 | _,_=>none
theorem Ua:Ao N 299 @Rk:=by
 intro R Q a h k j;unfold Rk;split;exact Av (T9 ..) (T9 ..) trivial;exact Ax
def RX:=Aw (Ua N)
def RY:=Cr (Ua N)
def Fh (b:Int) (r0:Int→O R):O R :=
 (Fk N b (fun c=>(r0 (wrap .i64 (32 - c)))))
def Bn:=(Ag (@Fh R)).1
theorem Hr:@Bn R=@Fh R:=(Ag _).2
def Ub:Dx:=[(299,RX N)]
def Ik (F:KF R):Int→O R:=(fun d=>F (iv d) [])
theorem Il (b:Int) (F:KF R):Cq (Ub N) Cn N 275 [(.int .u32 b)] [] F=(Bn N b (Ik F)):=by
 rw[Hr]
 kernel_rfl
def Hs (a:LA) (h:Ah) (k:KF R):O R :=
 match a,h with
 | [(.int .u32 b)],[]=>(Bn N b (Ik k))
 | _,_=>none
theorem Im:Ao N 275 @Hs:=by
 intro R Q a h k j;unfold Hs;split;exact Av (Il ..) (Il ..) ⟨RY N,trivial⟩;exact Ax
def In:=Aw (Im N)
def Io:=Cr (Im N)
def Xl (N:Nat) (f:Int) (c:LA) (b:Nat) (d e:Bool) (r0:Int→O R):O R :=
 (cond (decide (f<((b:Nat):Int))) (cond (Ap f b) (Gb .u32 (c.drop ((f.toNat)*1)) fun g=>(r0 (wrap .u64 g))) none) (r0 0))
def Hc:=(Ag (@Xl R)).1
theorem Zh:@Hc R=@Xl R:=(Ag _).2
def EC (c:LA) (b:Nat) (d e:Bool) (F:KF R):Int→O R:=(fun i=>F (.int .u64 i) [(100000,(bN 0 [(.imm c b 1 d e)]))])
theorem ED (f:Int) (c:LA) (b:Nat) (d e:Bool) (F:KF R):Cq [] Cn N 314 [(iv f),(.optr 100000 0)] [(100000,(bN 0 [(.imm c b 1 d e)]))] F=(Hc N f c b d e (EC c b d e F)):=by
 rw[Zh]
 kernel_rfl
def Zi (a:LA) (h:Ah) (k:KF R):O R :=
 match a,h with
 | [(.int .i64 f),(.optr 100000 0)],[(100000,⟨false,false,false,false,0,[(.imm c b 1 d e)],false,none⟩)]=>(Hc N f c b d e (EC c b d e k))
 | _,_=>none
theorem EE:Ao N 314 @Zi:=by
 intro R Q a h k j;unfold Zi;split;exact Av (ED ..) (ED ..) trivial;exact Ax
def f8:=Aw (EE N)
def f9:=Cr (EE N)
def RZ (c:LA) (d:Nat) (e f:Bool) (g b:Int) (r0:Int→O R):O R :=
 (Hc N (wrap .i64 (g - 1)) c d e f (fun i=>(Hc N (wrap .i64 (g - 2)) c d e f (fun l=>(cond (decide (b<0)) none (Hc N (wrap .i64 (g - 3)) c d e f (fun m=>(cond (decide ((wrap .i64 (32 - b))<0)) none (r0 (Me .u64 (wrap .u64 ((Me .u64 (wrap .u64 (i*2 ^ 32)) l)*2 ^ (min (b.toNat) 64))) (Int.fdiv m (2 ^ (min ((wrap .i64 (32 - b)).toNat) 64)))))))))))))
def Te:=(Ag (@RZ R)).1
theorem NS:@Te R=@RZ R:=(Ag _).2
def sa:Dx:=[(314,f8 N)]
def VI (F:KF R):Int→O R:=(fun n=>F (.int .u64 n) [])
theorem VJ (c:LA) (d:Nat) (e f:Bool) (g b:Int) (F:KF R):Cq (sa N) Cn N 298 [(.imm c d 1 e f),(iv g),(iv b)] [] F=(Te N c d e f g b (VI F)):=by
 rw[NS]
 kernel_rfl
def NT (a:LA) (h:Ah) (k:KF R):O R :=
 match a,h with
 | [(.imm c d 1 e f),(.int .i64 g),(.int .i64 b)],[]=>(Te N c d e f g b (VI k))
 | _,_=>none
theorem VK:Ao N 298 @NT:=by
 intro R Q a h k j;unfold NT;split;exact Av (VJ ..) (VJ ..) ⟨f9 N,trivial⟩;exact Ax
def qF:=Aw (VK N)
def qG:=Cr (VK N)
def P4 (N:Nat) (k0:Int→Int→Int→Int→Int→Int→Int→Int→Bool→O R) (r0:LA→O R) (q o r s t u:Int) (w:Bool):O R :=
 (cond (o==0) none (cond (o==0) none (k0 o (Int.tmod q o) r s (wrap .u64 (r+(wrap .u64 ((wrap .u64 (Int.tdiv q o))*s)))) t u (wrap .u64 (t+(wrap .u64 ((wrap .u64 (Int.tdiv q o))*u)))) (!w))))
def Gh (N:Nat) (r0:LA→O R) (k0:Int→Int→Int→Int→Int→Int→Int→Int→Bool→O R) (q1:Int→Int→Int→Int→Int→Int→Bool→O R) (g c i d m l b e:Int) (f:Bool):O R :=
 (cond ((decide (c≥e))==true) (cond (cond true (decide ((wrap .u64 (g - c))≥(wrap .u64 (b+e)))) false) (q1 g c d m b e f) (r0 [(.int .u64 i),(.int .u64 d),(.int .u64 l),(.int .u64 b),(.bool f)])) (r0 [(.int .u64 i),(.int .u64 d),(.int .u64 l),(.int .u64 b),(.bool f)]))
def C2 (r0:LA→O R):Nat→Int→Int→Int→Int→Int→Int→Int→Int→Bool→O R
 | 0,_,_,_,_,_,_,_,_,_=>none
 | n+1,g,c,i,d,m,l,b,e,f=>(Gh N r0 (C2 r0 n) (fun q o r s t u w=>(P4 N (C2 r0 n) r0 q o r s t u w)) g c i d m l b e f)
def V0 (r0:LA→O R) (q0:Int→Int→Int→Int→Int→Int→Int→Int→Bool→O R) (v:LA) (p:Nat) (ab x:Bool) (y:LA) (z:Nat) (ac aa:Bool):O R :=
 (cond (Ap (wrap .i64 (((p:Nat):Int) - 1)) p) (Gb .u32 (v.drop (((wrap .i64 (((p:Nat):Int) - 1)).toNat)*1)) fun ae=>(Bn N ae (fun ad=>(Te N v p false x ((p:Nat):Int) ad (fun af=>(Te N y z false aa ((p:Nat):Int) ad (fun ag=>(q0 af ag 0 1 0 0 0 1 false)))))))) none)
def Pk:=(Ag (fun (N:Nat) (v:LA) (p:Nat) (ab x:Bool) (y:LA) (z:Nat) (ac aa:Bool) (r0:LA→O R)=>(V0 N r0 (fun g c i d m l b e f=>(C2 N r0 N g c i d m l b e f)) v p ab x y z ac aa))).1
theorem HR (v p ab x y z ac aa r0):(@Pk R N v p ab x y z ac aa r0)=(V0 N r0 (fun g c i d m l b e f=>(C2 N r0 N g c i d m l b e f)) v p ab x y z ac aa):=by rw[Pk,(Ag _).2]
def NU:Hints:={ H:=(hS hL (hS hL (hS hL (hS hL (hS hL (hS hL (hS hL (hS (hS (hP [4,7,8,9,10,11,12,13,14,15] (hJ [4,7,8,10,11,13,14,15] hL hL)) hL) hL)))))))),modes:=[(3,0)] }
def VL:Dx:=[(275,In N),(298,qF N)]
def NV (F:KF R):=S6 Tryz.f273 NU (VL N) [] N F
def Fz (F:KF R):LA→O R:=(fun ah=>F (.pagg ah false) [])
def mS (q o r s t u:Int) (w:Bool):St:=⟨[(4,(op 0)),(7,(.int .u64 q)),(8,(.int .u64 o)),(10,(.int .u64 r)),(11,(.int .u64 s)),(13,(.int .u64 t)),(14,(.int .u64 u)),(15,(.bool w))],(hq [(bQ 0 [(.int .u64 0),(.int .u64 0),(.int .u64 0),(.int .u64 0),(.bool false)])])⟩
def mT (F:KF R) (Q0:St→O R):=NV N F [1,1,1,1,1,1,1,0,0,0,1] [Q0]
def NW (g c i d m l b e:Int) (f:Bool):St:=⟨[(4,(op 0)),(7,(.int .u64 g)),(8,(.int .u64 c)),(9,(.int .u64 i)),(10,(.int .u64 d)),(11,(.int .u64 m)),(12,(.int .u64 l)),(13,(.int .u64 b)),(14,(.int .u64 e)),(15,(.bool f))],(hq [(bQ 0 [(.int .u64 0),(.int .u64 0),(.int .u64 0),(.int .u64 0),(.bool false)])])⟩
def NX (F:KF R):=NV N F [1,1,1,1,1,1,1,0,0] []
theorem bC (Q0:St→O R) (F:KF R):∀ (q o r s t u:Int) (w:Bool),Eh (mT N F Q0) (mS q o r s t u w)=(P4 N (fun g c i d m l b e f=>Q0 (NW g c i d m l b e f)) (Fz F) q o r s t u w):=by
 intro q o r s t u w
 kernel_rfl
theorem Zj (F:KF R):∀ (n:Nat) (g c i d m l b e:Int) (f:Bool),Ay (NX N F) n (NW g c i d m l b e f)=(C2 N (Fz F) n g c i d m l b e f)
 | 0,_,_,_,_,_,_,_,_,_=>by kernel_rfl
 | n+1,g,c,i,d,m,l,b,e,f=>have e0:=(funext fun g=>funext fun c=>funext fun i=>funext fun d=>funext fun m=>funext fun l=>funext fun b=>funext fun e=>funext fun f=>(Zj F n g c i d m l b e f))
  Eq.trans (by kernel_rfl) (vC (Gh N (Fz F) · · g c i d m l b e f) e0 (funext fun q=>funext fun o=>funext fun r=>funext fun s=>funext fun t=>funext fun u=>funext fun w=>(Bo ..).trans ((bC N (Ay (NX N F) n) F q o r s t u w).trans (El (P4 N · (Fz F) q o r s t u w) e0))):_)
theorem NY (v:LA) (p:Nat) (ab x:Bool) (y:LA) (z:Nat) (ac aa:Bool) (F:KF R):Cq (VL N) NU N 273 [(.imm v p 1 ab x),(.imm y z 1 ac aa)] [] F=(Pk N v p ab x y z ac aa (Fz F)):=by
 rw[HR]
 exact Eq.trans (by kernel_rfl) (El (V0 N (Fz F) · v p ab x y z ac aa) (funext fun g=>funext fun c=>funext fun i=>funext fun d=>funext fun m=>funext fun l=>funext fun b=>funext fun e=>funext fun f=>(At ..).trans (Zj N F N g c i d m l b e f)):_)
def HS (a:LA) (h:Ah) (k:KF R):O R :=
 match a,h with
 | [(.imm v p 1 ab x),(.imm y z 1 ac aa)],[]=>(Pk N v p ab x y z ac aa (Fz k))
 | _,_=>none
theorem NZ:Ao N 273 @HS:=by
 intro R Q a h k j;unfold HS;split;exact Av (NY ..) (NY ..) ⟨Io N,qG N,trivial⟩;exact Ax
def mU:=Aw (NZ N)
def mV:=Cr (NZ N)
def Gc (r0:Nat→Nat→LA→LA→O R) (d:LA) (b:Nat) (e f:Bool) (c:Int) (k0:Int→Int→LA→O R) (l g:Int) (i:LA):O R :=
 (cond (decide (g≥0)) (cond (Ap g b) (Gb .u32 (d.drop ((g.toNat)*1)) fun m=>(cond ((wrap .u64 c)==0) none (cond (Ap g b) (cond ((Nat.beq 1 1)&&((Nat.ble ((0+((g.toNat)*1))+1) (i.length))&&(!false))) (cond ((wrap .u64 c)==0) none (k0 (Int.tmod (Me .u64 (wrap .u64 (l*2 ^ 32)) (wrap .u64 m)) (wrap .u64 c)) (wrap .i64 (g - 1)) (i.set (0+((g.toNat)*1)) (.int .u32 (wrap .u32 (wrap .u64 (Int.tdiv (Me .u64 (wrap .u64 (l*2 ^ 32)) (wrap .u64 m)) (wrap .u64 c)))))))) none) none))) none) (Pc N b i (fun o=>(Bh N l (fun p q=>(r0 o p i q))))))
def Cs (r0:Nat→Nat→LA→LA→O R) (d:LA) (b:Nat) (e f:Bool) (c:Int):Nat→Int→Int→LA→O R
 | 0,_,_,_=>none
 | n+1,l,g,i=>(Gc N r0 d b e f c (Cs r0 d b e f c n) l g i)
def Kb (N:Nat) (r0:Nat→Nat→LA→LA→O R) (q0:Int→Int→LA→O R) (d:LA) (b:Nat) (e f:Bool) (c:Int):O R :=
 (cond ((decide (0≤((b:Nat):Int)))&&((decide (((b:Nat):Int)≤((b:Nat):Int)))&&((decide (((b:Nat):Int)≤140737488355328))&&(decide ((((b:Nat):Int)*((4:Nat):Int))≤140737488355328))))) (q0 0 (wrap .i64 (((b:Nat):Int) - 1)) (List.replicate b (.int .u32 0))) none)
def D8:=(Ag (fun (N:Nat) (d:LA) (b:Nat) (e f:Bool) (c:Int) (r0:Nat→Nat→LA→LA→O R)=>(Kb N r0 (fun l g i=>(Cs N r0 d b e f c N l g i)) d b e f c))).1
theorem Rl (d b e f c r0):(@D8 R N d b e f c r0)=(Kb N r0 (fun l g i=>(Cs N r0 d b e f c N l g i)) d b e f c):=by rw[D8,(Ag _).2]
def Uc:Hints:={ H:=(hS hL (hS hL (hS hL (hS (hS hL (hS (hP [0,1,4,6,7] hL) hL)) hL)))),nils:=[(4,1),(5,1)],modes:=[(2,1),(2,1)] }
def V1:Dx:=[(214,aV N),(133,Et N)]
def R_ (F:KF R):=S6 Tryz.f216 Uc (V1 N) [] N F
def E2 (F:KF R):Nat→Nat→LA→LA→O R:=(fun r s t u=>F (.tup [(.own 300000 0 r),(.own 300001 0 s)]) (hq [(bQ 1 t),(bQ 1 u)]))
def SA (d:LA) (b:Nat) (e f:Bool) (c l g:Int) (i:LA):St:=⟨[(0,(.imm d b 1 e f)),(1,(.int .u32 c)),(4,(.own 300000 0 b)),(6,(.int .u64 l)),(7,(iv g))],(hq [(bQ 1 i)])⟩
def SB (F:KF R):=R_ N F [1,1,1,0,1,0] []
theorem Oo (F:KF R) (d:LA) (b:Nat) (e f:Bool) (c:Int):∀ (n:Nat) (l g:Int) (i:LA),Ay (SB N F) n (SA d b e f c l g i)=(Cs N (E2 F) d b e f c n l g i)
 | 0,_,_,_=>by kernel_rfl
 | n+1,l,g,i=>Eq.trans (by kernel_rfl) (El (Gc N (E2 F) d b e f c · l g i) (funext fun l=>funext fun g=>funext fun i=>(Oo F d b e f c n l g i)):_)
theorem Ud (d:LA) (b:Nat) (e f:Bool) (c:Int) (F:KF R):Cq (V1 N) Uc N 216 [(.imm d b 1 e f),(.int .u32 c)] [] F=(D8 N d b e f c (E2 F)):=by
 rw[Rl]
 exact Eq.trans (by kernel_rfl) (El (Kb N (E2 F) · d b e f c) (funext fun l=>funext fun g=>funext fun i=>(At ..).trans (Oo N F d b e f c N l g i)):_)
def Rm (a:LA) (h:Ah) (k:KF R):O R :=
 match a,h with
 | [(.imm d b 1 e f),(.int .u32 c)],[]=>(D8 N d b e f c (E2 k))
 | _,_=>none
theorem Ue:Ao N 216 @Rm:=by
 intro R Q a h k j;unfold Rm;split;exact Av (Ud ..) (Ud ..) ⟨aW N,Eu N,trivial⟩;exact Ax
def SC:=Aw (Ue N)
def SD:=Cr (Ue N)
def No (N:Nat) (r0:Nat→LA→O R) (d:LA) (b:Nat) (e f:Bool) (c:Int) (k0:Nat→Int→Int→Int→LA→O R) (i:Nat) (m o g:Int) (l:LA):O R :=
 (cond (decide (g<o)) (cond (Ap g b) (Gb .u32 (d.drop ((g.toNat)*1)) fun p=>(cond (decide (c<0)) none (cond (Ap g i) (cond ((Nat.beq 1 1)&&((Nat.ble ((0+((g.toNat)*1))+1) (l.length))&&(!false))) (k0 i (Int.fdiv (Me .u64 m (wrap .u64 ((wrap .u64 p)*2 ^ (min (c.toNat) 64)))) (2 ^ 32)) o (wrap .i64 (g+1)) (l.set (0+((g.toNat)*1)) (.int .u32 (wrap .u32 (Me .u64 m (wrap .u64 ((wrap .u64 p)*2 ^ (min (c.toNat) 64)))))))) none) none))) none) (cond (Ap ((b:Nat):Int) i) (cond ((Nat.beq 1 1)&&((Nat.ble ((0+(b*1))+1) (l.length))&&(!false))) (r0 i (l.set (0+(b*1)) (.int .u32 (wrap .u32 m)))) none) none))
def F0 (r0:Nat→LA→O R) (d:LA) (b:Nat) (e f:Bool) (c:Int):Nat→Nat→Int→Int→Int→LA→O R
 | 0,_,_,_,_,_=>none
 | n+1,i,m,o,g,l=>(No N r0 d b e f c (F0 r0 d b e f c n) i m o g l)
def V3 (N:Nat) (r0:Nat→LA→O R) (q0:Nat→Int→Int→Int→LA→O R) (d:LA) (b:Nat) (e f:Bool) (c:Int):O R :=
 (cond ((decide (0≤(wrap .i64 (((b:Nat):Int)+1))))&&((decide ((wrap .i64 (((b:Nat):Int)+1))≤(wrap .i64 (((b:Nat):Int)+1))))&&((decide ((wrap .i64 (((b:Nat):Int)+1))≤140737488355328))&&(decide (((wrap .i64 (((b:Nat):Int)+1))*((4:Nat):Int))≤140737488355328))))) (q0 ((wrap .i64 (((b:Nat):Int)+1)).toNat) 0 ((b:Nat):Int) 0 (List.replicate ((wrap .i64 (((b:Nat):Int)+1)).toNat) (.int .u32 0))) none)
def L5:=(Ag (fun (N:Nat) (d:LA) (b:Nat) (e f:Bool) (c:Int) (r0:Nat→LA→O R)=>(V3 N r0 (fun i m o g l=>(F0 N r0 d b e f c N i m o g l)) d b e f c))).1
theorem HT (d b e f c r0):(@L5 R N d b e f c r0)=(V3 N r0 (fun i m o g l=>(F0 N r0 d b e f c N i m o g l)) d b e f c):=by rw[L5,(Ag _).2]
def N_:Hints:={ H:=(hS hL (hS hL (hS hL (hS (hS hL (hS (hP [0,1,5,6,13,14,15] hL) hL)) hL)))),nils:=[(4,1)],modes:=[(2,1)] }
def mW (F:KF R):=S6 Tryz.f276 N_ [] [] N F
def K4 (F:KF R):Nat→LA→O R:=(fun q r=>F (.own 300000 0 q) (hq [(bQ 1 r)]))
def mX (d:LA) (b:Nat) (e f:Bool) (c:Int) (i:Nat) (m o g:Int) (l:LA):St:=⟨[(0,(.imm d b 1 e f)),(1,(iv c)),(5,(.own 300000 0 i)),(6,(.int .u64 m)),(13,(.imm d b 1 e f)),(14,(iv o)),(15,(iv g))],(hq [(bQ 1 l)])⟩
def mY (F:KF R):=mW N F [1,1,1,0,1,0] []
theorem Zk (F:KF R) (d:LA) (b:Nat) (e f:Bool) (c:Int):∀ (n i:Nat) (m o g:Int) (l:LA),Ay (mY N F) n (mX d b e f c i m o g l)=(F0 N (K4 F) d b e f c n i m o g l)
 | 0,_,_,_,_,_=>by kernel_rfl
 | n+1,i,m,o,g,l=>Eq.trans (by kernel_rfl) (El (No N (K4 F) d b e f c · i m o g l) (funext fun i=>funext fun m=>funext fun o=>funext fun g=>funext fun l=>(Zk F d b e f c n i m o g l)):_)
theorem OA (d:LA) (b:Nat) (e f:Bool) (c:Int) (F:KF R):Cq [] N_ N 276 [(.imm d b 1 e f),(iv c)] [] F=(L5 N d b e f c (K4 F)):=by
 rw[HT]
 exact Eq.trans (by kernel_rfl) (El (V3 N (K4 F) · d b e f c) (funext fun i=>funext fun m=>funext fun o=>funext fun g=>funext fun l=>(At ..).trans (Zk N F d b e f c N i m o g l)):_)
def HU (a:LA) (h:Ah) (k:KF R):O R :=
 match a,h with
 | [(.imm d b 1 e f),(.int .i64 c)],[]=>(L5 N d b e f c (K4 k))
 | _,_=>none
theorem OB:Ao N 276 @HU:=by
 intro R Q a h k j;unfold HU;split;exact Av (OA ..) (OA ..) trivial;exact Ax
def mZ:=Aw (OB N)
def m0:=Cr (OB N)
def Kc (N:Nat) (r0:Int→LA→O R) (c d:Nat) (e m:Int) (f:LA) (b:Nat) (g i:Bool) (k4:Int→Int→Int→LA→O R) (v w q:Int) (t:LA):O R :=
 (cond (decide (q<w)) (cond (Ap q b) (Gb .u32 (f.drop ((q.toNat)*1)) fun aa=>(cond (Ap q d) (Gb .u32 (t.drop (c+((q.toNat)*1))) fun ab=>(cond (Ap q d) (cond ((Nat.beq 1 1)&&((Nat.ble ((c+((q.toNat)*1))+1) (t.length))&&(!false))) (k4 (Int.fdiv (wrap .u64 (v+(wrap .u64 ((wrap .u64 ab)+(wrap .u64 aa))))) (2 ^ 32)) w (wrap .i64 (q+1)) (t.set (c+((q.toNat)*1)) (.int .u32 (wrap .u32 (wrap .u64 (v+(wrap .u64 ((wrap .u64 ab)+(wrap .u64 aa))))))))) none) none)) none)) none) (cond (Ap e d) (Gb .u32 (t.drop (c+((e.toNat)*1))) fun ai=>(cond (Ap e d) (cond ((Nat.beq 1 1)&&((Nat.ble ((c+((e.toNat)*1))+1) (t.length))&&(!false))) (r0 (wrap .u32 (wrap .u64 (m - 1))) (t.set (c+((e.toNat)*1)) (.int .u32 (wrap .u32 (ai+(wrap .u32 v)))))) none) none)) none))
def Fl (r0:Int→LA→O R) (c d:Nat) (e m:Int) (f:LA) (b:Nat) (g i:Bool):Nat→Int→Int→Int→LA→O R
 | 0,_,_,_,_=>none
 | n+1,v,w,q,t=>(Kc N r0 c d e m f b g i (Fl r0 c d e m f b g i n) v w q t)
def Gi (N:Nat) (r0:Int→LA→O R) (c d:Nat) (f:LA) (b:Nat) (g i:Bool) (e m:Int) (k3:Int→Int→Int→LA→O R) (q4:Int→Int→Int→LA→O R) (u x r:Int) (s:LA):O R :=
 (cond (decide (r<x)) (cond (Ap r b) (Gb .u32 (f.drop ((r.toNat)*1)) fun y=>(cond (Ap r d) (Gb .u32 (s.drop (c+((r.toNat)*1))) fun ac=>(cond (Ap r d) (cond ((Nat.beq 1 1)&&((Nat.ble ((c+((r.toNat)*1))+1) (s.length))&&(!false))) (k3 (wrap .u64 ((Int.fdiv (wrap .u64 ((wrap .u64 (m*(wrap .u64 y)))+u)) (2 ^ 32))+(Int.fdiv (wrap .u64 ((wrap .u64 ac) - (wrap .u64 (wrap .u32 (wrap .u64 ((wrap .u64 (m*(wrap .u64 y)))+u)))))) (2 ^ 63)))) x (wrap .i64 (r+1)) (s.set (c+((r.toNat)*1)) (.int .u32 (wrap .u32 (wrap .u64 ((wrap .u64 ac) - (wrap .u64 (wrap .u32 (wrap .u64 ((wrap .u64 (m*(wrap .u64 y)))+u)))))))))) none) none)) none)) none) (cond (Ap e d) (Gb .u32 (s.drop (c+((e.toNat)*1))) fun z=>(cond (Ap e d) (cond ((Nat.beq 1 1)&&((Nat.ble ((c+((e.toNat)*1))+1) (s.length))&&(!false))) (cond ((Int.fdiv (wrap .u64 ((wrap .u64 z) - u)) (2 ^ 63))==0) (r0 (wrap .u32 m) (s.set (c+((e.toNat)*1)) (.int .u32 (wrap .u32 (wrap .u64 ((wrap .u64 z) - u)))))) (q4 0 ((b:Nat):Int) 0 (s.set (c+((e.toNat)*1)) (.int .u32 (wrap .u32 (wrap .u64 ((wrap .u64 z) - u))))))) none) none)) none))
def D9 (r0:Int→LA→O R) (c d:Nat) (f:LA) (b:Nat) (g i:Bool) (e m:Int):Nat→Int→Int→Int→LA→O R
 | 0,_,_,_,_=>none
 | n+1,u,x,r,s=>(Gi N r0 c d f b g i e m (D9 r0 c d f b g i e m n) (fun v w q t=>(Fl N r0 c d e m f b g i N v w q t)) u x r s)
def Pl (N:Nat) (r0:Int→LA→O R) (c d:Nat) (f:LA) (b:Nat) (g i:Bool) (e:Int) (l:LA) (q3:Int→Int→Int→LA→O R) (m:Int):O R :=
 (q3 0 ((b:Nat):Int) 0 l)
def Df (r0:Int→LA→O R) (c d:Nat) (f:LA) (b:Nat) (g i:Bool) (e:Int) (l:LA) (m:Int):O R:=(Pl N r0 c d f b g i e l (fun u x r s=>(D9 N r0 c d f b g i e m N u x r s)) m)
def Pm (N:Nat) (k0:Int→Int→Int→O R) (r0:Int→LA→O R) (c d:Nat) (f:LA) (b:Nat) (g i:Bool) (e o p:Int) (l:LA) (q2:Int→O R):O R :=
 (cond (Ap (wrap .i64 (e - 1)) b) (Gb .u32 (f.drop (((wrap .i64 (e - 1)).toNat)*1)) fun ad=>(cond ((Int.fdiv (wrap .u64 (p+(wrap .u64 ad))) (2 ^ 32)) != 0) (q2 (wrap .u64 (o - 1))) (k0 e (wrap .u64 (o - 1)) (wrap .u64 (p+(wrap .u64 ad)))))) none)
def Ht (k0:Int→Int→Int→O R) (r0:Int→LA→O R) (c d:Nat) (f:LA) (b:Nat) (g i:Bool) (e o p:Int) (l:LA):O R:=(Pm N k0 r0 c d f b g i e o p l (fun m=>(Df N r0 c d f b g i e l m)))
def Pn (N:Nat) (r0:Int→LA→O R) (c d:Nat) (f:LA) (b:Nat) (g i:Bool) (l:LA) (k0:Int→Int→Int→O R) (q1:O R) (q2:Int→O R) (e o p:Int):O R :=
 (cond (((Int.fdiv o (2 ^ 32)) != 0)==false) (cond (Ap (wrap .i64 (e - 2)) b) (Gb .u32 (f.drop (((wrap .i64 (e - 2)).toNat)*1)) fun aj=>(cond (Ap (wrap .i64 (e - 2)) d) (Gb .u32 (l.drop (c+(((wrap .i64 (e - 2)).toNat)*1))) fun ak=>(cond (cond false true (decide ((wrap .u64 (o*(wrap .u64 aj)))>(Me .u64 (wrap .u64 (p*2 ^ 32)) (wrap .u64 ak))))) q1 (q2 o))) none)) none) q1)
def Dg (r0:Int→LA→O R) (c d:Nat) (f:LA) (b:Nat) (g i:Bool) (l:LA):Nat→Int→Int→Int→O R
 | 0,_,_,_=>none
 | n+1,e,o,p=>(Pn N r0 c d f b g i l (Dg r0 c d f b g i l n) (Ht N (Dg r0 c d f b g i l n) r0 c d f b g i e o p l) (fun m=>(Df N r0 c d f b g i e l m)) e o p)
def P5 (N:Nat) (r0:Int→LA→O R) (q0:Int→Int→Int→O R) (c d:Nat) (f:LA) (b:Nat) (g i:Bool) (l:LA):O R :=
 (cond (Ap ((b:Nat):Int) d) (Gb .u32 (l.drop (c+(b*1))) fun ae=>(cond (Ap (wrap .i64 (((b:Nat):Int) - 1)) d) (Gb .u32 (l.drop (c+(((wrap .i64 (((b:Nat):Int) - 1)).toNat)*1))) fun af=>(cond (Ap (wrap .i64 (((b:Nat):Int) - 1)) b) (Gb .u32 (f.drop (((wrap .i64 (((b:Nat):Int) - 1)).toNat)*1)) fun ag=>(cond ((wrap .u64 ag)==0) none (cond (Ap (wrap .i64 (((b:Nat):Int) - 1)) b) (Gb .u32 (f.drop (((wrap .i64 (((b:Nat):Int) - 1)).toNat)*1)) fun ah=>(cond ((wrap .u64 ah)==0) none (q0 ((b:Nat):Int) (wrap .u64 (Int.tdiv (Me .u64 (wrap .u64 ((wrap .u64 ae)*2 ^ 32)) (wrap .u64 af)) (wrap .u64 ag))) (Int.tmod (Me .u64 (wrap .u64 ((wrap .u64 ae)*2 ^ 32)) (wrap .u64 af)) (wrap .u64 ah))))) none))) none)) none)) none)
def Hd:=(Ag (fun (N:Nat) (c d:Nat) (f:LA) (b:Nat) (g i:Bool) (l:LA) (r0:Int→LA→O R)=>(P5 N r0 (fun e o p=>(Dg N r0 c d f b g i l N e o p)) c d f b g i l))).1
theorem Zl (c d f b g i l r0):(@Hd R N c d f b g i l r0)=(P5 N r0 (fun e o p=>(Dg N r0 c d f b g i l N e o p)) c d f b g i l):=by rw[Hd,(Ag _).2]
def EF:Hints:={ H:=(hS hL (hS hL (hS hL (hS hL (hJ [0,1,5,7] (hS (hP [0,1,5,7,8] (hJ [0,1,5,7,8] hL hL)) hL) (hS hL (hS (hS hL (hS (hP [0,1,5,7,9,84,85,86] hL) hL)) (hS hL (hS hL (hS hL (hS hL (hS (hS hL (hS (hP [0,5,7,9,134,135,136] hL) hL)) hL)))))))))))) }
def Hu (F:KF R):=S6 Tryz.f277 EF [] [100000] N F
def Bc (F:KF R):Int→LA→O R:=(fun al am=>F (.int .u32 al) [(100000,(bQ 1 am))])
def f_ (c d:Nat) (e m:Int) (f:LA) (b:Nat) (g i:Bool) (v w q:Int) (t:LA):St:=⟨[(0,(.own 100000 c d)),(5,(iv e)),(7,(.int .u64 m)),(9,(.int .u64 v)),(134,(.imm f b 1 g i)),(135,(iv w)),(136,(iv q))],[(100000,(bQ 1 t))]⟩
def fa (F:KF R):=Hu N F [1,1,1,1,1,1,1,1,1,1,1,0,1,0] []
def fb (c d:Nat) (f:LA) (b:Nat) (g i:Bool) (e m u x r:Int) (s:LA):St:=⟨[(0,(.own 100000 c d)),(1,(.imm f b 1 g i)),(5,(iv e)),(7,(.int .u64 m)),(9,(.int .u64 u)),(84,(.imm f b 1 g i)),(85,(iv x)),(86,(iv r))],[(100000,(bQ 1 s))]⟩
def fc (F:KF R):=Hu N F [1,1,1,1,1,1,0,1,0] []
def fe (c d:Nat) (f:LA) (b:Nat) (g i:Bool) (e:Int) (l:LA) (m:Int):St:=⟨[(0,(.own 100000 c d)),(1,(.imm f b 1 g i)),(5,(iv e)),(7,(.int .u64 m))],[(100000,(bQ 1 l))]⟩
def ff (F:KF R):=Hu N F [1,1,1,1,1] []
def fg (c d:Nat) (f:LA) (b:Nat) (g i:Bool) (e o p:Int) (l:LA):St:=⟨[(0,(.own 100000 c d)),(1,(.imm f b 1 g i)),(5,(iv e)),(7,(.int .u64 o)),(8,(.int .u64 p))],[(100000,(bQ 1 l))]⟩
def fh (F:KF R) (Q0:St→O R):=Hu N F [1,1,1,1,0,0,0,1] [Q0]
def Q4 (c d:Nat) (f:LA) (b:Nat) (g i:Bool) (l:LA) (e o p:Int):St:=⟨[(0,(.own 100000 c d)),(1,(.imm f b 1 g i)),(5,(iv e)),(7,(.int .u64 o)),(8,(.int .u64 p))],[(100000,(bQ 1 l))]⟩
def EG (F:KF R):=Hu N F [1,1,1,1,0,0] []
theorem Uf (F:KF R) (c d:Nat) (e m:Int) (f:LA) (b:Nat) (g i:Bool):∀ (n:Nat) (v w q:Int) (t:LA),Ay (fa N F) n (f_ c d e m f b g i v w q t)=(Fl N (Bc F) c d e m f b g i n v w q t)
 | 0,_,_,_,_=>by kernel_rfl
 | n+1,v,w,q,t=>Eq.trans (by kernel_rfl) (El (Kc N (Bc F) c d e m f b g i · v w q t) (funext fun v=>funext fun w=>funext fun q=>funext fun t=>(Uf F c d e m f b g i n v w q t)):_)
theorem Ug (F:KF R) (c d:Nat) (f:LA) (b:Nat) (g i:Bool) (e m:Int):∀ (n:Nat) (u x r:Int) (s:LA),Ay (fc N F) n (fb c d f b g i e m u x r s)=(D9 N (Bc F) c d f b g i e m n u x r s)
 | 0,_,_,_,_=>by kernel_rfl
 | n+1,u,x,r,s=>Eq.trans (by kernel_rfl) (vC (Gi N (Bc F) c d f b g i e m · · u x r s) (funext fun u=>funext fun x=>funext fun r=>funext fun s=>(Ug F c d f b g i e m n u x r s)) (funext fun v=>funext fun w=>funext fun q=>funext fun t=>(At ..).trans (Uf N F c d e m f b g i N v w q t)):_)
theorem Uh (F:KF R) (c d:Nat) (f:LA) (b:Nat) (g i:Bool) (e:Int) (l:LA):∀ (m:Int),Eh (ff N F) (fe c d f b g i e l m)=(Df N (Bc F) c d f b g i e l m):=by
 intro m
 exact Eq.trans (by kernel_rfl) (El (Pl N (Bc F) c d f b g i e l · m) (funext fun u=>funext fun x=>funext fun r=>funext fun s=>(At ..).trans (Ug N F c d f b g i e m N u x r s)):_)
theorem SE (Q0:St→O R) (F:KF R) (c d:Nat) (f:LA) (b:Nat) (g i:Bool) (e o p:Int) (l:LA):Eh (fh N F Q0) (fg c d f b g i e o p l)=(Ht N (fun e o p=>Q0 (Q4 c d f b g i l e o p)) (Bc F) c d f b g i e o p l):=by
 exact Eq.trans (by kernel_rfl) (El (Pm N (fun e o p=>Q0 (Q4 c d f b g i l e o p)) (Bc F) c d f b g i e o p l ·) (funext fun m=>(Bo ..).trans (Uh N F c d f b g i e l m)):_)
theorem Ui (F:KF R) (c d:Nat) (f:LA) (b:Nat) (g i:Bool) (l:LA):∀ (n:Nat) (e o p:Int),Ay (EG N F) n (Q4 c d f b g i l e o p)=(Dg N (Bc F) c d f b g i l n e o p)
 | 0,_,_,_=>by kernel_rfl
 | n+1,e,o,p=>have e0:=(funext fun e=>funext fun o=>funext fun p=>(Ui F c d f b g i l n e o p))
  Eq.trans (by kernel_rfl) (Afm (Pn N (Bc F) c d f b g i l · · · e o p) e0 ((Bo ..).trans ((SE N (Ay (EG N F) n) F c d f b g i e o p l).trans (El (Ht N · (Bc F) c d f b g i e o p l) e0))) (funext fun m=>(Bo ..).trans (Uh N F c d f b g i e l m)):_)
theorem EH (c d:Nat) (f:LA) (b:Nat) (g i:Bool) (l:LA) (F:KF R):Cq [] EF N 277 [(.own 100000 c d),(.imm f b 1 g i)] [(100000,(bQ 1 l))] F=(Hd N c d f b g i l (Bc F)):=by
 rw[Zl]
 exact Eq.trans (by kernel_rfl) (El (P5 N (Bc F) · c d f b g i l) (funext fun e=>funext fun o=>funext fun p=>(At ..).trans (Ui N F c d f b g i l N e o p)):_)
def Zm (a:LA) (h:Ah) (k:KF R):O R :=
 match a,h with
 | [(.own 100000 c d),(.imm f b 1 g i)],[(100000,⟨false,false,true,false,1,l,false,none⟩)]=>(Hd N c d f b g i l (Bc k))
 | _,_=>none
theorem EI:Ao N 277 @Zm:=by
 intro R Q a h k j;unfold Zm;split;exact Av (EH ..) (EH ..) trivial;exact Ax
def fi:=Aw (EI N)
def fj:=Cr (EI N)
def Fo (r0:Nat→Bool→LA→O R) (d:Bool) (k0:LA→Nat→Int→Nat→LA→Nat→Int→Int→LA→O R) (l:LA) (i:Nat) (e:Int) (g:Nat) (m:LA) (o:Nat) (p b:Int) (f:LA):O R :=
 (cond (decide (b<p)) (cond (Ap b o) (Gb .u32 (m.drop ((b.toNat)*1)) fun u=>(cond (decide ((wrap .i64 (b+1))<((i:Nat):Int))) (cond (Ap (wrap .i64 (b+1)) i) (Gb .u32 (l.drop (((wrap .i64 (b+1)).toNat)*1)) fun w=>(cond (decide (e<0)) none (cond (Ap b g) (cond ((Nat.beq 1 1)&&((Nat.ble ((0+((b.toNat)*1))+1) (f.length))&&(!false))) (k0 l i e g m o p (wrap .i64 (b+1)) (f.set (0+((b.toNat)*1)) (.int .u32 (wrap .u32 (Int.fdiv (Me .u64 (wrap .u64 u) (wrap .u64 ((wrap .u64 w)*2 ^ 32))) (2 ^ (min (e.toNat) 64))))))) none) none))) none) (cond (decide (e<0)) none (cond (Ap b g) (cond ((Nat.beq 1 1)&&((Nat.ble ((0+((b.toNat)*1))+1) (f.length))&&(!false))) (k0 l i e g m o p (wrap .i64 (b+1)) (f.set (0+((b.toNat)*1)) (.int .u32 (wrap .u32 (Int.fdiv (wrap .u64 u) (2 ^ (min (e.toNat) 64))))))) none) none)))) none) (Pc N g f (fun x=>(r0 x true f))))
def Cf (r0:Nat→Bool→LA→O R) (d:Bool):Nat→LA→Nat→Int→Nat→LA→Nat→Int→Int→LA→O R
 | 0,_,_,_,_,_,_,_,_,_=>none
 | n+1,l,i,e,g,m,o,p,b,f=>(Fo N r0 d (Cf r0 d n) l i e g m o p b f)
def I5 (r0:Nat→Bool→LA→O R) (q0:LA→Nat→Int→Nat→LA→Nat→Int→Int→LA→O R) (r:LA) (s:Nat) (t d:Bool) (c:Int):O R :=
 (cond (decide (c<0)) (r0 0 false []) (Br N r s t d (fun v q=>(cond (decide ((wrap .i64 (Int.tdiv c 32))≥((q:Nat):Int))) (r0 0 true []) (cond ((decide (0≤(wrap .i64 (Int.tdiv c 32))))&&((decide ((wrap .i64 (Int.tdiv c 32))≤((q:Nat):Int)))&&((decide (((q:Nat):Int)≤((q:Nat):Int)))&&(decide (((q:Nat):Int)≤((q:Nat):Int)))))) (cond ((decide (0≤(((q - ((wrap .i64 (Int.tdiv c 32)).toNat)):Nat):Int)))&&((decide ((((q - ((wrap .i64 (Int.tdiv c 32)).toNat)):Nat):Int)≤(((q - ((wrap .i64 (Int.tdiv c 32)).toNat)):Nat):Int)))&&((decide ((((q - ((wrap .i64 (Int.tdiv c 32)).toNat)):Nat):Int)≤140737488355328))&&(decide (((((q - ((wrap .i64 (Int.tdiv c 32)).toNat)):Nat):Int)*((4:Nat):Int))≤140737488355328))))) (q0 ((v.drop (((wrap .i64 (Int.tdiv c 32)).toNat)*1)).take ((q - ((wrap .i64 (Int.tdiv c 32)).toNat))*1)) (q - ((wrap .i64 (Int.tdiv c 32)).toNat)) (Int.tmod c 32) (q - ((wrap .i64 (Int.tdiv c 32)).toNat)) ((v.drop (((wrap .i64 (Int.tdiv c 32)).toNat)*1)).take ((q - ((wrap .i64 (Int.tdiv c 32)).toNat))*1)) (q - ((wrap .i64 (Int.tdiv c 32)).toNat)) (((q - ((wrap .i64 (Int.tdiv c 32)).toNat)):Nat):Int) 0 (List.replicate (q - ((wrap .i64 (Int.tdiv c 32)).toNat)) (.int .u32 0))) none) none)))))
def H4:=(Ag (fun (N:Nat) (r:LA) (s:Nat) (t d:Bool) (c:Int) (r0:Nat→Bool→LA→O R)=>(I5 N r0 (fun l i e g m o p b f=>(Cf N r0 d N l i e g m o p b f)) r s t d c))).1
theorem Np (r s t d c r0):(@H4 R N r s t d c r0)=(I5 N r0 (fun l i e g m o p b f=>(Cf N r0 d N l i e g m o p b f)) r s t d c):=by rw[H4,(Ag _).2]
def Zn:Hints:={ H:=(hS hL (hS hL (hS hL (hS hL (hS hL (hS hL (hS hL (hS (hS hL (hS (hP [0,6,7,29,30,31] hL) hL)) hL)))))))),nils:=[(4,1)],modes:=[(2,1),(0,0)] }
def EJ:Dx:=[(214,D3 N)]
def bD (F:KF R):=S6 Tryz.f278 Zn (EJ N) [] N F
def Gj (F:KF R):Nat→Bool→LA→O R:=(fun y z aa=>F (.tup [(.own 300000 0 y),(.bool z)]) (hq [(bQ 1 aa)]))
def bE (d:Bool) (l:LA) (i:Nat) (e:Int) (g:Nat) (m:LA) (o:Nat) (p b:Int) (f:LA):St:=⟨[(0,(.imm l i 1 false d)),(6,(iv e)),(7,(.own 300000 0 g)),(29,(.imm m o 1 false d)),(30,(iv p)),(31,(iv b))],(hq [(bQ 1 f)])⟩
def bF (F:KF R):=bD N F [1,1,1,1,1,1,1,0,1,0] []
theorem Rn (F:KF R) (d:Bool):∀ (n:Nat) (l:LA) (i:Nat) (e:Int) (g:Nat) (m:LA) (o:Nat) (p b:Int) (f:LA),Ay (bF N F) n (bE d l i e g m o p b f)=(Cf N (Gj F) d n l i e g m o p b f)
 | 0,_,_,_,_,_,_,_,_,_=>by kernel_rfl
 | n+1,l,i,e,g,m,o,p,b,f=>Eq.trans (by kernel_rfl) (El (Fo N (Gj F) d · l i e g m o p b f) (funext fun l=>funext fun i=>funext fun e=>funext fun g=>funext fun m=>funext fun o=>funext fun p=>funext fun b=>funext fun f=>(Rn F d n l i e g m o p b f)):_)
theorem Zo (r:LA) (s:Nat) (t d:Bool) (c:Int) (F:KF R):Cq (EJ N) Zn N 278 [(.imm r s 1 t d),(iv c)] [] F=(H4 N r s t d c (Gj F)):=by
 rw[Np]
 exact Eq.trans (by kernel_rfl) (El (I5 N (Gj F) · r s t d c) (funext fun l=>funext fun i=>funext fun e=>funext fun g=>funext fun m=>funext fun o=>funext fun p=>funext fun b=>funext fun f=>(At ..).trans (Rn N F d N l i e g m o p b f)):_)
def V4 (a:LA) (h:Ah) (k:KF R):O R :=
 match a,h with
 | [(.imm r s 1 t d),(.int .i64 c)],[]=>(H4 N r s t d c (Gj k))
 | _,_=>none
theorem Zp:Ao N 278 @V4:=by
 intro R Q a h k j;unfold V4;split;exact Av (Zo ..) (Zo ..) ⟨D4 N,trivial⟩;exact Ax
def bG:=Aw (Zp N)
def bH:=Cr (Zp N)
def Ip (r0:Nat→Nat→LA→LA→O R) (g:Int) (b c:Nat) (m:LA) (k0:Nat→Int→Int→Int→Int→LA→LA→O R) (l:Nat) (f e o d:Int) (i p:LA):O R :=
 (cond (decide (d<o)) (cond ((decide (0≤(wrap .i64 ((wrap .i64 (e - 1)) - d))))&&((decide ((wrap .i64 ((wrap .i64 (e - 1)) - d))≤(wrap .i64 ((wrap .i64 ((wrap .i64 ((wrap .i64 (e - 1)) - d))+f))+1))))&&((decide ((wrap .i64 ((wrap .i64 ((wrap .i64 ((wrap .i64 (e - 1)) - d))+f))+1))≤((c:Nat):Int)))&&(decide (((c:Nat):Int)≤((c:Nat):Int)))))) (Hd N (0+(((wrap .i64 ((wrap .i64 (e - 1)) - d)).toNat)*1)) (((wrap .i64 ((wrap .i64 ((wrap .i64 ((wrap .i64 (e - 1)) - d))+f))+1)).toNat) - ((wrap .i64 ((wrap .i64 (e - 1)) - d)).toNat)) (m.take (b*1)) b false true p (fun y z=>(cond (Ap (wrap .i64 ((wrap .i64 (e - 1)) - d)) l) (cond ((Nat.beq 1 1)&&((Nat.ble ((0+(((wrap .i64 ((wrap .i64 (e - 1)) - d)).toNat)*1))+1) (i.length))&&(!false))) (k0 l f e o (wrap .i64 (d+1)) (i.set (0+(((wrap .i64 ((wrap .i64 (e - 1)) - d)).toNat)*1)) (.int .u32 y)) z) none) none))) none) (cond ((decide ((0:Int)≤(0:Int)))&&((decide (0≤f))&&((decide (f≤((c:Nat):Int)))&&(decide (((c:Nat):Int)≤((c:Nat):Int)))))) (H4 N (p.take ((f.toNat)*1)) (f.toNat) false true g (fun aa aj ab=>(Pc N l i (fun ac=>(r0 ac aa i ab))))) none))
def Cw (r0:Nat→Nat→LA→LA→O R) (g:Int) (b c:Nat) (m:LA):Nat→Nat→Int→Int→Int→Int→LA→LA→O R
 | 0,_,_,_,_,_,_,_=>none
 | n+1,l,f,e,o,d,i,p=>(Ip N r0 g b c m (Cw r0 g b c m n) l f e o d i p)
def Nq (r0:Nat→Nat→LA→LA→O R) (q0:Int→Nat→LA→Nat→Int→Int→Int→Int→LA→LA→O R) (r:LA) (s:Nat) (v t:Bool) (q:LA) (b:Nat) (w u:Bool):O R :=
 (cond (Ap (wrap .i64 (((b:Nat):Int) - 1)) b) (Gb .u32 (q.drop (((wrap .i64 (((b:Nat):Int) - 1)).toNat)*1)) fun ad=>(Bn N ad (fun g=>(L5 N q b false u g (fun x m=>(cond ((decide ((0:Int)≤(0:Int)))&&((decide (0≤((b:Nat):Int)))&&((decide (((b:Nat):Int)≤((x:Nat):Int)))&&(decide (((x:Nat):Int)≤((x:Nat):Int)))))) (L5 N r s false t g (fun c ae=>(cond ((decide (0≤(wrap .i64 (((c:Nat):Int) - ((b:Nat):Int)))))&&((decide ((wrap .i64 (((c:Nat):Int) - ((b:Nat):Int)))≤(wrap .i64 (((c:Nat):Int) - ((b:Nat):Int)))))&&((decide ((wrap .i64 (((c:Nat):Int) - ((b:Nat):Int)))≤140737488355328))&&(decide (((wrap .i64 (((c:Nat):Int) - ((b:Nat):Int)))*((4:Nat):Int))≤140737488355328))))) (q0 g c m ((wrap .i64 (((c:Nat):Int) - ((b:Nat):Int))).toNat) ((b:Nat):Int) (wrap .i64 (((c:Nat):Int) - ((b:Nat):Int))) (wrap .i64 (((c:Nat):Int) - ((b:Nat):Int))) 0 (List.replicate ((wrap .i64 (((c:Nat):Int) - ((b:Nat):Int))).toNat) (.int .u32 0)) ae) none))) none)))))) none)
def F1:=(Ag (fun (N:Nat) (r:LA) (s:Nat) (v t:Bool) (q:LA) (b:Nat) (w u:Bool) (r0:Nat→Nat→LA→LA→O R)=>(Nq N r0 (fun g c m l f e o d i p=>(Cw N r0 g b c m N l f e o d i p)) r s v t q b w u))).1
theorem V5 (r s v t q b w u r0):(@F1 R N r s v t q b w u r0)=(Nq N r0 (fun g c m l f e o d i p=>(Cw N r0 g b c m N l f e o d i p)) r s v t q b w u):=by rw[F1,(Ag _).2]
def Zq:Hints:={ H:=(hS hL (hS hL (hS hL (hS hL (hS hL (hS hL (hS hL (hS (hS hL (hS (hP [4,6,7,8,9,10,35,36] hL) hL)) hL)))))))),nils:=[(4,1),(5,1)],modes:=[(2,1),(2,1)] }
def EK:Dx:=[(275,In N),(276,mZ N),(277,fi N),(278,bG N),(214,aV N)]
def bI (F:KF R):=S6 Tryz.f217 Zq (EK N) [] N F
def Gk (F:KF R):Nat→Nat→LA→LA→O R:=(fun af ag ah ai=>F (.tup [(.own 300000 0 af),(.own 300001 0 ag)]) (hq [(bQ 1 ah),(bQ 1 ai)]))
def bJ (g:Int) (b c:Nat) (m:LA) (l:Nat) (f e o d:Int) (i p:LA):St:=⟨[(4,(.own 300000 0 l)),(6,(iv f)),(7,(iv g)),(8,(.own 300001 0 b)),(9,(.own 300002 0 c)),(10,(iv e)),(35,(iv o)),(36,(iv d))],(hq [(bQ 1 i),(bQ 1 m),(bQ 1 p)])⟩
def bK (F:KF R):=bI N F [1,1,1,1,1,1,1,0,1,0] []
theorem Ro (F:KF R) (g:Int) (b c:Nat) (m:LA):∀ (n l:Nat) (f e o d:Int) (i p:LA),Ay (bK N F) n (bJ g b c m l f e o d i p)=(Cw N (Gk F) g b c m n l f e o d i p)
 | 0,_,_,_,_,_,_,_=>by kernel_rfl
 | n+1,l,f,e,o,d,i,p=>Eq.trans (by kernel_rfl) (El (Ip N (Gk F) g b c m · l f e o d i p) (funext fun l=>funext fun f=>funext fun e=>funext fun o=>funext fun d=>funext fun i=>funext fun p=>(Ro F g b c m n l f e o d i p)):_)
theorem Zr (r:LA) (s:Nat) (v t:Bool) (q:LA) (b:Nat) (w u:Bool) (F:KF R):Cq (EK N) Zq N 217 [(.imm r s 1 v t),(.imm q b 1 w u)] [] F=(F1 N r s v t q b w u (Gk F)):=by
 rw[V5]
 exact Eq.trans (by kernel_rfl) (El (Nq N (Gk F) · r s v t q b w u) (funext fun g=>funext fun c=>funext fun m=>funext fun l=>funext fun f=>funext fun e=>funext fun o=>funext fun d=>funext fun i=>funext fun p=>(At ..).trans (Ro N F g b c m N l f e o d i p)):_)
def V6 (a:LA) (h:Ah) (k:KF R):O R :=
 match a,h with
 | [(.imm r s 1 v t),(.imm q b 1 w u)],[]=>(F1 N r s v t q b w u (Gk k))
 | _,_=>none
theorem Zs:Ao N 217 @V6:=by
 intro R Q a h k j;unfold V6;split;exact Av (Zr ..) (Zr ..) ⟨Io N,m0 N,fj N,bH N,aW N,trivial⟩;exact Ax
def bL:=Aw (Zs N)
def bM:=Cr (Zs N)
def SF (d:LA) (e:Nat) (f b:Bool) (g:LA) (i:Nat) (l c:Bool) (r0:Nat→Nat→Bool→LA→LA→O R):O R :=
 (Br N d e f b (fun o m=>(Br N g i l c (fun p n=>(cond (((n:Nat):Int)==0) (r0 0 0 false [] []) (C1 N o m false b p n false c (fun s=>(cond (decide (s<0)) (Nj N o m false b (fun t u=>(r0 0 t true [] u))) (cond (decide (((m:Nat):Int)≤2)) (Ln N o m false b (fun r=>(Ln N p n false c (fun q=>(cond (q==0) none (Bh N (wrap .u64 (Int.tdiv r q)) (fun v w=>(cond (q==0) none (Bh N (Int.tmod r q) (fun x y=>(r0 v x true w y))))))))))) (cond (((n:Nat):Int)==1) (cond (Ap 0 n) (Gb .u32 p fun z=>(D8 N o m false b z (fun aa ab ac ad=>(r0 aa ab true ac ad)))) none) (F1 N o m false b p n false c (fun ae af ag ah=>(r0 ae af true ag ah)))))))))))))
def De:=(Ag (@SF R)).1
theorem OC:@De R=@SF R:=(Ag _).2
def qH:Hints:={ H:=hL,nils:=[(4,1),(5,1)],modes:=[(2,1),(2,1),(0,0)] }
def sb:Dx:=[(214,Nh N),(131,J8 N),(212,Pf N),(215,RR N),(133,Et N),(216,SC N),(217,bL N)]
def VM (F:KF R):Nat→Nat→Bool→LA→LA→O R:=(fun ai aj ak al am=>F (.tup [(.own 300000 0 ai),(.own 300001 0 aj),(.bool ak)]) (hq [(bQ 1 al),(bQ 1 am)]))
theorem VN (d:LA) (e:Nat) (f b:Bool) (g:LA) (i:Nat) (l c:Bool) (F:KF R):Cq (sb N) qH N 134 [(.imm d e 1 f b),(.imm g i 1 l c)] [] F=(De N d e f b g i l c (VM F)):=by
 rw[OC]
 kernel_rfl
def OD (a:LA) (h:Ah) (k:KF R):O R :=
 match a,h with
 | [(.imm d e 1 f b),(.imm g i 1 l c)],[]=>(De N d e f b g i l c (VM k))
 | _,_=>none
theorem VO:Ao N 134 @OD:=by
 intro R Q a h k j;unfold OD;split;exact Av (VN ..) (VN ..) ⟨Ni N,J9 N,Pg N,RS N,Eu N,SD N,bM N,trivial⟩;exact Ax
def BV:=Aw (VO N)
def BW:=Cr (VO N)
def HV (b:LA) (c:Nat) (m d:Bool) (e:Int) (f:LA) (g:Nat) (n i:Bool) (l:Int) (r0:Nat→LA→O R):O R :=
 (Bh N e (fun o s=>(BO N b c false d (s.take (o*1)) o false true (fun p t=>(Bh N l (fun q u=>(BO N f g false i (u.take (q*1)) q false true (fun r v=>(Xk N (t.take (p*1)) p false true (v.take (r*1)) r false true (fun w aa x=>(r0 w x)))))))))))
def Ea:=(Ag (@HV R)).1
theorem HW:@Ea R=@HV R:=(Ag _).2
def m5:Hints:={ H:=hL,nils:=[(8,1)],modes:=[(2,1)] }
def qI:Dx:=[(133,Et N),(137,aZ N),(136,bA N)]
def OE (F:KF R):Nat→LA→O R:=(fun y z=>F (.own 300000 0 y) (hq [(bQ 1 z)]))
theorem OF (b:LA) (c:Nat) (m d:Bool) (e:Int) (f:LA) (g:Nat) (n i:Bool) (l:Int) (F:KF R):Cq (qI N) m5 N 274 [(.imm b c 1 m d),(.int .u64 e),(.imm f g 1 n i),(.int .u64 l)] [] F=(Ea N b c m d e f g n i l (OE F)):=by
 rw[HW]
 kernel_rfl
def HX (a:LA) (h:Ah) (k:KF R):O R :=
 match a,h with
 | [(.imm b c 1 m d),(.int .u64 e),(.imm f g 1 n i),(.int .u64 l)],[]=>(Ea N b c m d e f g n i l (OE k))
 | _,_=>none
theorem OG:Ao N 274 @HX:=by
 intro R Q a h k j;unfold HX;split;exact Av (OF ..) (OF ..) ⟨Eu N,a6 N,bB N,trivial⟩;exact Ax
def m6:=Aw (OG N)
def m7:=Cr (OG N)
def BX (k1:LA→Nat→Bool→LA→Nat→Bool→O R) (r0:Nat→LA→O R) (k2:Int→Int→O R) (l i:Int):O R :=
 (cond (i != 0) (cond (i==0) none (k2 i (Int.tmod l i))) (Bh N l (fun al am=>(r0 al am))))
def Mi (k1:LA→Nat→Bool→LA→Nat→Bool→O R) (r0:Nat→LA→O R):Nat→Int→Int→O R
 | 0,_,_=>none
 | n+1,l,i=>(BX N k1 r0 (Mi k1 r0 n) l i)
def Uj (r0:Nat→LA→O R) (k1:LA→Nat→Bool→LA→Nat→Bool→O R) (q2:Int→Int→O R) (d:LA) (b:Nat) (e:Bool) (f:LA) (c:Nat) (g:Bool):O R :=
 (cond (decide (((c:Nat):Int)>0)) (cond (decide (((b:Nat):Int)≤2)) (Ln N d b false e (fun an=>(Ln N f c false g (fun ao=>(q2 an ao))))) (Pk N d b false e f c false g (fun ab=>(cond ((Nat.beq (ab.length) 5)&&((Nat.ble 5 5)&&(!false))) (Gb .u64 ((setCells [(.int .u64 0),(.int .u64 0),(.int .u64 0),(.int .u64 0),(.bool false)] 0 ab).drop 2) fun ap=>(cond (ap==0) (De N d b false e f c false g (fun bl ag bm bn aq=>(k1 f c g (aq.take (ag*1)) ag false))) (Qc ((setCells [(.int .u64 0),(.int .u64 0),(.int .u64 0),(.int .u64 0),(.bool false)] 0 ab).drop 4) fun ar=>(cond ar (Gb .u64 (setCells [(.int .u64 0),(.int .u64 0),(.int .u64 0),(.int .u64 0),(.bool false)] 0 ab) fun au=>(Gb .u64 ((setCells [(.int .u64 0),(.int .u64 0),(.int .u64 0),(.int .u64 0),(.bool false)] 0 ab).drop 2) fun av=>(Ea N d b false e au f c false g av (fun ah aw=>(Gb .u64 ((setCells [(.int .u64 0),(.int .u64 0),(.int .u64 0),(.int .u64 0),(.bool false)] 0 ab).drop 3) fun ax=>(Gb .u64 ((setCells [(.int .u64 0),(.int .u64 0),(.int .u64 0),(.int .u64 0),(.bool false)] 0 ab).drop 1) fun ay=>(Ea N f c false g ax d b false e ay (fun ai az=>(k1 (aw.take (ah*1)) ah false (az.take (ai*1)) ai false))))))))) (Gb .u64 ((setCells [(.int .u64 0),(.int .u64 0),(.int .u64 0),(.int .u64 0),(.bool false)] 0 ab).drop 2) fun ba=>(Gb .u64 (setCells [(.int .u64 0),(.int .u64 0),(.int .u64 0),(.int .u64 0),(.bool false)] 0 ab) fun bb=>(Ea N f c false g ba d b false e bb (fun aj bc=>(Gb .u64 ((setCells [(.int .u64 0),(.int .u64 0),(.int .u64 0),(.int .u64 0),(.bool false)] 0 ab).drop 1) fun bd=>(Gb .u64 ((setCells [(.int .u64 0),(.int .u64 0),(.int .u64 0),(.int .u64 0),(.bool false)] 0 ab).drop 3) fun be=>(Ea N d b false e bd f c false g be (fun ak bf=>(k1 (bc.take (aj*1)) aj false (bf.take (ak*1)) ak false))))))))))))) none)))) (Nj N d b false e (fun bg bh=>(r0 bg bh))))
def Do (r0:Nat→LA→O R):Nat→LA→Nat→Bool→LA→Nat→Bool→O R
 | 0,_,_,_,_,_,_=>none
 | n+1,d,b,e,f,c,g=>(Uj N r0 (Do r0 n) (fun l i=>(Mi N (Do r0 n) r0 N l i)) d b e f c g)
def SG (N:Nat) (r0:Nat→LA→O R) (q1:LA→Nat→Bool→LA→Nat→Bool→O R) (m:LA) (o:Nat) (p:Bool) (q:LA) (r:Nat) (s:Bool):O R :=
 (q1 m o p q r s)
def MA (r0:Nat→LA→O R) (m:LA) (o:Nat) (p:Bool) (q:LA) (r:Nat) (s:Bool):O R:=(SG N r0 (fun d b e f c g=>(Do N r0 N d b e f c g)) m o p q r s)
def gM (r0:Nat→LA→O R) (q0:LA→Nat→Bool→LA→Nat→Bool→O R) (v:LA) (w:Nat) (x t:Bool) (y:LA) (z:Nat) (aa u:Bool):O R :=
 (Br N v w x t (fun ac ad=>(Br N y z aa u (fun ae af=>(C1 N ac ad false t ae af false u (fun bi=>(cond (decide (bi<0)) (q0 ae af u ac ad t) (q0 ac ad t ae af u))))))))
def HY:=(Ag (fun (N:Nat) (v:LA) (w:Nat) (x t:Bool) (y:LA) (z:Nat) (aa u:Bool) (r0:Nat→LA→O R)=>(gM N r0 (fun m o p q r s=>(MA N r0 m o p q r s)) v w x t y z aa u))).1
theorem jL (v w x t y z aa u r0):(@HY R N v w x t y z aa u r0)=(gM N r0 (fun m o p q r s=>(MA N r0 m o p q r s)) v w x t y z aa u):=by rw[HY,(Ag _).2]
def oO:Hints:={ H:=(hS hL (hS hL (hJ [0,1] hL (hS (hS (hP [0,1] (hS hL (hS (hS (hS hL (hS (hS hL (hS (hS (hP [5,6] hL) hL) hL)) hL)) hL) hL))) hL) hL)))),nils:=[(0,1000001),(1,1000001)],modes:=[(2,1)] }
def sc:Dx:=[(214,Nh N),(131,J8 N),(215,RR N),(273,mU N),(134,BV N),(274,m6 N),(212,Pf N),(133,Et N)]
def bO (F:KF R):=S6 Tryz.f213 oO (sc N) [] N F
def H5 (F:KF R):Nat→LA→O R:=(fun bj bk=>F (.own 300000 0 bj) (hq [(bQ 1 bk)]))
def yR (l i:Int):St:=⟨[(5,(.int .u64 l)),(6,(.int .u64 i))],[]⟩
def yS (F:KF R) (Q1:St→O R):=bO N F [1,1,1,0,0,0,1,0,0,1,0,1,0,0] [Q1]
def bR (d:LA) (b:Nat) (e:Bool) (f:LA) (c:Nat) (g:Bool):St:=⟨[(0,(.imm d b 1 false e)),(1,(.imm f c 1 false g))],[]⟩
def oP (F:KF R):=bO N F [1,1,1,0,0] []
def yT (m:LA) (o:Nat) (p:Bool) (q:LA) (r:Nat) (s:Bool):St:=⟨[(0,(.imm m o 1 false p)),(1,(.imm q r 1 false s))],[]⟩
def yU (F:KF R):=bO N F [1,1,1] []
theorem VP (Q1:St→O R) (F:KF R):∀ (n:Nat) (l i:Int),Ay (yS N F Q1) n (yR l i)=(Mi N (fun d b e f c g=>Q1 (bR d b e f c g)) (H5 F) n l i)
 | 0,_,_=>by kernel_rfl
 | n+1,l,i=>Eq.trans (by kernel_rfl) (El (BX N (fun d b e f c g=>Q1 (bR d b e f c g)) (H5 F) · l i) (funext fun l=>funext fun i=>(VP Q1 F n l i)):_)
theorem VQ (F:KF R):∀ (n:Nat) (d:LA) (b:Nat) (e:Bool) (f:LA) (c:Nat) (g:Bool),Ay (oP N F) n (bR d b e f c g)=(Do N (H5 F) n d b e f c g)
 | 0,_,_,_,_,_,_=>by kernel_rfl
 | n+1,d,b,e,f,c,g=>have e0:=(funext fun d=>funext fun b=>funext fun e=>funext fun f=>funext fun c=>funext fun g=>(VQ F n d b e f c g))
  Eq.trans (by kernel_rfl) (vC (Uj N (H5 F) · · d b e f c g) e0 (funext fun l=>funext fun i=>(At ..).trans ((VP N (Ay (oP N F) n) F N l i).trans (El (Mi N · (H5 F) N l i) e0))):_)
theorem qJ (F:KF R):∀ (m:LA) (o:Nat) (p:Bool) (q:LA) (r:Nat) (s:Bool),Eh (yU N F) (yT m o p q r s)=(MA N (H5 F) m o p q r s):=by
 intro m o p q r s
 exact Eq.trans (by kernel_rfl) (El (SG N (H5 F) · m o p q r s) (funext fun d=>funext fun b=>funext fun e=>funext fun f=>funext fun c=>funext fun g=>(At ..).trans (VQ N F N d b e f c g)):_)
theorem oQ (v:LA) (w:Nat) (x t:Bool) (y:LA) (z:Nat) (aa u:Bool) (F:KF R):Cq (sc N) oO N 213 [(.imm v w 1 x t),(.imm y z 1 aa u)] [] F=(HY N v w x t y z aa u (H5 F)):=by
 rw[jL]
 exact Eq.trans (by kernel_rfl) (El (gM N (H5 F) · v w x t y z aa u) (funext fun m=>funext fun o=>funext fun p=>funext fun q=>funext fun r=>funext fun s=>(Bo ..).trans (qJ N F m o p q r s)):_)
def jM (a:LA) (h:Ah) (k:KF R):O R :=
 match a,h with
 | [(.imm v w 1 x t),(.imm y z 1 aa u)],[]=>(HY N v w x t y z aa u (H5 k))
 | _,_=>none
theorem oR:Ao N 213 @jM:=by
 intro R Q a h k j;unfold jM;split;exact Av (oQ ..) (oQ ..) ⟨Ni N,J9 N,RS N,mV N,BW N,m7 N,Pg N,Eu N,trivial⟩;exact Ax
def yV:=Aw (oR N)
def yW:=Cr (oR N)
end
end Gx

namespace Gx
open Go Go.Proofs
section
variable {R:Type}
def Afu:List UInt8:=[0,1,2,2,3,3,3,3,4,4,4,4,4,4,4,4,5,5,5,5,5,5,5,5,5,5,5,5,5,5,5,5,6,6,6,6,6,6,6,6,6,6,6,6,6,6,6,6,6,6,6,6,6,6,6,6,6,6,6,6,6,6,6,6,7,7,7,7,7,7,7,7,7,7,7,7,7,7,7,7,7,7,7,7,7,7,7,7,7,7,7,7,7,7,7,7,7,7,7,7,7,7,7,7,7,7,7,7,7,7,7,7,7,7,7,7,7,7,7,7,7,7,7,7,7,7,7,7,8,8,8,8,8,8,8,8,8,8,8,8,8,8,8,8,8,8,8,8,8,8,8,8,8,8,8,8,8,8,8,8,8,8,8,8,8,8,8,8,8,8,8,8,8,8,8,8,8,8,8,8,8,8,8,8,8,8,8,8,8,8,8,8,8,8,8,8,8,8,8,8,8,8,8,8,8,8,8,8,8,8,8,8,8,8,8,8,8,8,8,8,8,8,8,8,8,8,8,8,8,8,8,8,8,8,8,8,8,8,8,8,8,8,8,8,8,8,8,8,8,8,8,8,8,8,8,8]
theorem Ab8:∀ i:Fin 256,0<i.1→2 ^ (Afu.getD i.1 0).toNat≤2*i.1∧i.1<2 ^ (Afu.getD i.1 0).toNat:=by decide +kernel
theorem jN {k y x m:Nat} (h:2 ^ k≤2*y∧y<2 ^ k) (b:y=x/2 ^ m):2 ^ (k+m)≤2*x∧x<2 ^ (k+m):=by
 have c:0<2 ^ m:=Nat.pow_pos (by omega)
 have d:x<2 ^ m*(y+1):=by rw[b];have:=Nat.div_add_mod x (2 ^ m);have:=Nat.mod_lt x c;rw[Nat.mul_add];omega
 have e:2 ^ m*y≤x:=by rw[b];exact Nat.mul_div_le x _
 have f:2 ^ m*(y+1)≤2 ^ m*2 ^ k:=Nat.mul_le_mul_left _ h.2
 have i:2 ^ m*2 ^ k≤2 ^ m*(2*y):=Nat.mul_le_mul_left _ h.1
 rw[Nat.pow_add,Nat.mul_comm (2 ^ k)]
 have j:2 ^ m*(2*y)=2*(2 ^ m*y):=by rw[Nat.mul_left_comm]
 omega
theorem Ac5 {a:Nat} (h:a<256):IntKind.wrap .u8 (a:Int)=(a:Int):=by rw[wrap_u8];congr 1;omega
theorem Ac6 {N:Nat} {a b:Nat} {K:Int→O R} (q:0<a) (s:a<65536) (t:b≤16):∃ k:Nat,2 ^ k≤2*a∧a<2 ^ k∧k≤16∧Dn N K (a:Int) (b:Int)=K ((b+k:Nat):Int):=by
 have small:∀ i:Nat,0<i→i<256→∃ k:Nat,(2 ^ k≤2*i∧i<2 ^ k)∧k≤8∧(Afu.getD i 0).toNat=k:=by
  intro i j d
  have:=Ab8 ⟨i,d⟩ j
  refine⟨_,this,?_,rfl⟩
  rcases Nat.lt_or_ge 8 (Afu.getD i 0).toNat with h | h
  ·have l:=this.1
   have u:2 ^ 9≤2 ^ (Afu.getD i 0).toNat:=Nat.pow_le_pow_right (by omega) h
   simp only at l
   omega
  ·exact h
 by_cases h:a≥256
 ·obtain⟨k,c,n,e⟩:=small (a/256) (by omega) (by omega)
  have f:=jN (m:=8) c (show a/256=a/2 ^ 8 by rfl)
  refine⟨k+8,f.1,f.2,by omega,?_⟩
  unfold Dn
  rw[show decide (((a:Nat):Int)≥256)=true by simp;omega,ct,Nd a 8,show a/2 ^ 8=a/256 by rfl,Ac5 (by omega),Ak (by omega),ct,Int.toNat_natCast]
  change K (IntKind.wrap .i64 (IntKind.wrap .i64 ((b:Int)+8)+IntKind.wrap .i64 (((Afu.getD (a/256) 0).toNat:Nat):Int)))=_
  rw[e,i64 (a:=(b:Int)+8) (by omega),i64 (a:=(k:Int)) (by omega),i64 (by omega)]
  congr 1;omega
 ·obtain⟨k,c,n,e⟩:=small a (by omega) (by omega)
  refine⟨k,c.1,c.2,by omega,?_⟩
  unfold Dn
  rw[show decide (((a:Nat):Int)≥256)=false by simp;omega,cf,Ac5 (by omega),Ak (by omega),ct,Int.toNat_natCast]
  change K (IntKind.wrap .i64 ((b:Int)+IntKind.wrap .i64 (((Afu.getD a 0).toNat:Nat):Int)))=_
  rw[e,i64 (a:=(k:Int)) (by omega),i64 (by omega)]
  congr 1
theorem vR {N:Nat} {c:Nat} {K:Int→O R} (l:0<c) (n:c<4294967296):∃ k:Nat,2 ^ k≤2*c∧c<2 ^ k∧k≤32∧Fk N (c:Int) K=K (k:Int):=by
 rw[Rj];unfold Ka
 by_cases h:c≥65536
 ·obtain⟨k,e,f,j,d⟩:=Ac6 (R:=R) (N:=N) (a:=c/65536) (b:=16) (K:=K) (by omega) (by omega) (by omega)
  have i:=jN (m:=16) ⟨e,f⟩ (show c/65536=c/2 ^ 16 by rfl)
  refine⟨k+16,i.1,i.2,by omega,?_⟩
  rw[show decide (((c:Nat):Int)≥65536)=true by simp;omega,ct,Nd c 16,show c/2 ^ 16=c/65536 by rfl]
  rw[Nat.add_comm k];exact d
 ·obtain⟨k,e,f,j,d⟩:=Ac6 (R:=R) (N:=N) (a:=c) (b:=0) (K:=K) (by omega) (by omega) (by omega)
  refine⟨k,e,f,by omega,?_⟩
  rw[show decide (((c:Nat):Int)≥65536)=false by simp;omega,cf]
  rw[Nat.zero_add] at d;exact d
theorem xI {N:Nat} {c:Nat} (l:0<c) (m:c<4294967296):∃ s:Nat,s≤31∧2147483648≤c*2 ^ s∧c*2 ^ s<4294967296∧∀ K:Int→O R,Bn N (c:Int) K=K (s:Int):=by
 have key:∀ K:Int→O R,∃ s:Nat,(s≤31∧2147483648≤c*2 ^ s∧c*2 ^ s<4294967296)∧Bn N (c:Int) K=K (s:Int):=by
  intro K
  rw[Hr];unfold Fh
  obtain⟨k,n,j,u,q⟩:=vR (R:=R) (N:=N) (K:=fun c=>K (IntKind.wrap .i64 ((32:Int) - c))) l m
  have e:2 ^ k*2 ^ (32 - k)=4294967296:=by rw[←Nat.pow_add,show k+(32 - k)=32 by omega]
  have v:1≤k:=by
   rcases Nat.eq_zero_or_pos k with h | h
   ·subst h;simp at j;omega
   ·exact h
  refine⟨32 - k,⟨by omega,?_,?_⟩,?_⟩
  ·have:=Nat.mul_le_mul_right (2 ^ (32 - k)) n
   rw[e,Nat.mul_assoc] at this;omega
  ·have:=(Nat.mul_lt_mul_right (show 0<2 ^ (32 - k) from Nat.pow_pos (by omega))).2 j
   rw[e] at this;exact this
  ·rw[q,i64 (by omega)];congr 1;omega
 obtain⟨s,d,_⟩:=key fun _=>none
 refine⟨s,d.1,d.2.1,d.2.2,fun K=>?_⟩
 obtain⟨b,t,e⟩:=key K
 have:b=s:=by
  rcases Nat.lt_trichotomy s b with h | h | h
  ·exfalso
   have f:2 ^ (s+1)≤2 ^ b:=Nat.pow_le_pow_right (by omega) h
   have i:=Nat.mul_le_mul_left c f
   rw[Nat.pow_succ,←Nat.mul_assoc] at i
   omega
  ·exact h.symm
  ·exfalso
   have f:2 ^ (b+1)≤2 ^ s:=Nat.pow_le_pow_right (by omega) h
   have i:=Nat.mul_le_mul_left c f
   rw[Nat.pow_succ,←Nat.mul_assoc] at i
   omega
 rw[e,this]
theorem qK {s:Nat} (h:s≤31):2 ^ s≤2147483648:=Nat.pow_le_pow_right (n:=2) (by omega) h
theorem Aao {x c s:Nat} (f:x<4294967296) (b:c<2 ^ s) (d:s≤31):Me .u64 (c:Int) (IntKind.wrap .u64 ((IntKind.wrap .u64 (x:Int))*2 ^ (min (Int.toNat (s:Int)) 64)))=((x*2 ^ s+c:Nat):Int)∧x*2 ^ s+c<4294967296*2 ^ s:=by
 have i:=qK d
 have j:x*2 ^ s≤4294967295*2 ^ s:=Nat.mul_le_mul_right _ (by omega)
 have e:(x+1)*2 ^ s≤4294967296*2 ^ s:=Nat.mul_le_mul_right _ (by omega)
 rw[Nat.add_mul] at e
 refine⟨?_,by omega⟩
 rw[Fj (by omega),Int.toNat_natCast,Nat.min_eq_left (by omega),show(2:Int) ^ s=((2 ^ s:Nat):Int) by simp,iT,Fj (by omega),vH (by omega) (by omega),Nat.or_comm,aU b]
theorem VR {N:Nat} {a:List Nat} {t o:Bool} {s:Nat} (v:Ae a) (j:s≤31) (k:a.length≤1000000000000):∀ (m d b:Nat) (S:List Nat) (c:Nat),d+m=a.length→m<b→Ae S→S.length=a.length+1→yQ S d→c<2 ^ s →
  val S+4294967296 ^ d*c=val (a.take d)*2 ^ s →
  ∃ S',Ae S'∧S'.length=a.length+1∧val S'=val a*2 ^ s∧∀ K:Nat→LA→O R,F0 N K (Aa a) a.length t o (s:Int) b (a.length+1) (c:Int) (a.length:Int) (d:Int) (Aa S)=K (a.length+1) (Aa S')
 | 0,d,b+1,S,c,z,_,hS,l,i,x,n=>by
  have q:d=a.length:=by omega
  subst q
  have L:=qK j
  rw[List.take_length] at n
  refine⟨S.set a.length c,B0 hS (by omega) _,by simpa using l,by rw[P3 i (by omega),n],fun K=>?_⟩
  rw[F0];unfold No
  rw[VC (Nat.le_refl _),cf,Ak (by omega),ct,Aek (by omega),ct,xF (by omega),Ac4]
 | m+1,d,b+1,S,c,z,A,hS,l,i,x,n=>by
  have f:d<a.length:=by omega
  have ad:=Au v f
  obtain⟨B,C⟩:=Aao ad x j
  generalize u:a[d]*2 ^ s+c=w at *
  have y:0<2 ^ s:=Nat.pow_pos (by omega)
  have key:val (S.set d (w%4294967296))+4294967296 ^ (d+1)*(w/4294967296)=val (a.take (d+1))*2 ^ s:=by
   rw[P3 i (by omega),Ar f,Nat.pow_succ,Nat.add_mul,Nat.mul_assoc _ a[d]]
   have e:=I4 (4294967296 ^ d) w
   have M:4294967296 ^ d*w=4294967296 ^ d*(a[d]*2 ^ s)+4294967296 ^ d*c:=by rw[←u,Nat.mul_add]
   omega
  obtain⟨S',D,F,G,I⟩:=VR (t:=t) (o:=o) v j k m (d+1) b (S.set d (w%4294967296)) (w/4294967296) (by omega) (by omega) (B0 hS (by omega) d) (by simpa using l) (Vz i) (Nat.div_lt_of_lt_mul C) key
  refine⟨S',D,F,G,fun K=>?_⟩
  rw[F0];unfold No
  rw[NR f,ct,Ak f,ct,GA f,show decide (((s:Nat):Int)<0)=false by simp,cf,Ak (by omega),ct,n0 (by omega),ct,B,aT,RF,HQ,wS (by omega)]
  exact I K
theorem VS {N:Nat} {a:List Nat} {n:Nat} {t o:Bool} {s:Nat} (c:n=a.length) (d:Ae a) (e:s≤31) (b:fit a.length N) :
  ∃ S',Ae S'∧S'.length=a.length+1∧val S'=val a*2 ^ s∧∀ K:Nat→LA→O R,L5 N (Aa a) n t o (s:Int) K=K (a.length+1) (Aa S'):=by
 subst c
 have l:=b.1;have m:=b.2
 obtain⟨S',f,i,j,k⟩:=VR (R:=R) (N:=N) (t:=t) (o:=o) d e (by omega) a.length 0 N (List.replicate (a.length+1) 0) 0 (by omega) (by omega) (By _) (by simp) (H3 _) (Nat.pow_pos (by omega)) (by rw[C0];simp[val])
 refine⟨S',f,i,j,fun K=>?_⟩
 rw[HT];unfold V3
 rw[Afo (by omega),zX (by omega),ct,Int.toNat_natCast,Ca]
 exact k K
end
end Gx

namespace Gx
open Go Go.Proofs
section
variable {R:Type}
theorem Ac7 {P U Q:List Nat} {i:Nat} (h:i<U.length) {f:Int→O R}:Gb .u32 (List.drop (P.length+((Int.toNat (i:Int))*1)) (Aa (P++(U++Q)))) f=f (U[i]:Nat):=by
 rw[Int.toNat_natCast,Nat.mul_one,sR (by simp;omega)]
 congr 2
 rw[List.getElem_append_right (by omega)]
 simp only[Nat.add_sub_cancel_left]
 rw[List.getElem_append_left h]
theorem Ael {P U Q:List Nat} {i:Nat} (h:i<U.length):((Nat.beq 1 1)&&((Nat.ble ((P.length+((Int.toNat (i:Int))*1))+1) (List.length (Aa (P++(U++Q)))))&&(!false)))=true:=by
 rw[Bg,Int.toNat_natCast];simp;omega
theorem Aap {P U Q:List Nat} {i v:Nat} (h:i<U.length):List.set (Aa (P++(U++Q))) (P.length+((Int.toNat (i:Int))*1)) (.int .u32 (v:Int))=Aa (P++(U.set i v++Q)):=by
 rw[Int.toNat_natCast,Nat.mul_one,UA,List.set_append_right _ _ (by omega),Nat.add_sub_cancel_left,List.set_append_left _ _ h]
theorem Ae8 {P U Q:List Nat} {i:Nat} (h:i<U.length) {f:Int→O R}:Gb .u32 (List.drop (P.length+(i*1)) (Aa (P++(U++Q)))) f=f (U[i]:Nat):=by
 have:=Ac7 (R:=R) (P:=P) (Q:=Q) (f:=f) h;rw[Int.toNat_natCast] at this;exact this
theorem VT {X:List Nat} {p g:Nat} (h:p<X.length):val ((X.set p g).take (p+1))=val (X.take p)+4294967296 ^ p*g:=by
 rw[Ar (by simpa using h),List.getElem_set_self,List.take_set_of_le (Nat.le_refl _)]
theorem Zt {X:List Nat} {n:Nat} (h:X.length=n+1):val X=val (X.take n)+4294967296 ^ n*X[n]:=by
 have:=Ar (l:=X) (c:=n) (by omega)
 rwa [List.take_of_length_le (by omega)] at this
theorem xJ {D:Nat} (h:1≤D) (b:D<18446744073709551616):IntKind.wrap .u64 ((D:Int) - 1)=((D - 1:Nat):Int):=by rw[HB];omega
theorem Ab9 {D y t:Nat} (hD:D<4294967296) (b:y<4294967296) (c:t≤4294967296):D*y+t<18446744073709551616∧(D*y+t)/4294967296+1≤4294967296:=by
 have:D*y≤4294967295*4294967295:=Nat.mul_le_mul (by omega) (by omega)
 omega
theorem xK {N:Nat} {P Q X v:List Nat} {n D:Nat} {f g:Bool} (L:Ae v) (M:v.length=n) (hX:Ae X) (hXl:X.length=n+1) (T:n≤1000000000000) (hD:D<4294967296) (hD1:1≤D) {r:Nat} (U:val X+val v=4294967296 ^ (n+1)+r) (u:r<4294967296 ^ n) :
  ∀ (m o b:Nat) (Y:List Nat) (c:Nat),o+m=n→m<b→Ae Y→Y.length=n+1→(∀ j (z:j<Y.length) (A:j<X.length),o≤j→Y[j]=X[j])→c≤1→val (Y.take o)+4294967296 ^ o*c=val (X.take o)+val (v.take o) →
  ∃ Y',Ae Y'∧Y'.length=n+1∧val Y'=r∧∀ K:Int→LA→O R,Fl N K P.length (n+1) (n:Int) (D:Int) (Aa v) n f g b (c:Int) (n:Int) (o:Int) (Aa (P++(Y++Q)))=K ((D - 1:Nat):Int) (Aa (P++(Y'++Q)))
 | 0,o,b+1,Y,c,V,_,hY,hYl,i,hc,k=>by
  have B:o=n:=by omega
  subst B
  rw[show v.take o=v by rw[←M];exact List.take_length] at k
  have e1:=Zt hXl
  have eq:val (Y.take o)+4294967296 ^ o*(X[o]+c)=4294967296 ^ o*4294967296+r:=by
   rw[Nat.mul_add,←Nat.pow_succ];omega
  have yt:=Bi (Bu hY o)
  rw[List.length_take,Nat.min_eq_left (by omega)] at yt
  have hP:0<4294967296 ^ o:=Nat.pow_pos (by omega)
  have S:X[o]+c=4294967296:=by
   have z:(val (Y.take o)+4294967296 ^ o*(X[o]+c))/4294967296 ^ o=X[o]+c:=by rw[Nat.add_mul_div_left _ _ hP,Nat.div_eq_of_lt yt,Nat.zero_add]
   have A:(4294967296 ^ o*4294967296+r)/4294967296 ^ o=4294967296:=by rw[Nat.mul_add_div hP,Nat.div_eq_of_lt u,Nat.add_zero]
   rw[←z,eq,A]
  have C:val (Y.take o)=r:=by rw[S] at eq;omega
  have q:Y[o]=X[o]:=i o (by omega) (by omega) (Nat.le_refl _)
  have F:(Y.set o 0).length=o+1:=by simpa using hYl
  refine⟨Y.set o 0,B0 hY (by omega) o,F,?_,fun K=>?_⟩
  ·have:=VT (X:=Y) (p:=o) (g:=0) (by omega)
   rw[List.take_of_length_le (by omega),C] at this;simpa using this
  ·rw[Fl];unfold Kc
   have hXo:=Au hX (show o<X.length by omega)
   rw[VC (Nat.le_refl _),cf,Ak (by omega),ct,Ac7 (by omega),ct,Ael (by omega),ct,q,xF (show c<4294967296 by omega),Xj,S,RF,Aap (by omega),xJ hD1 (by omega),xF (by omega)]
 | m+1,o,b+1,Y,c,V,hfu,hY,hYl,i,hc,k=>by
  have x:o<n:=by omega
  have t:o<v.length:=by omega
  have vo:=Au L t
  have d:o<Y.length:=by omega
  have yo:=Au hY d
  have q:Y[o]=X[o]:=i o (by omega) (by omega) (Nat.le_refl _)
  have G:c+(Y[o]+v[o])<18446744073709551616:=by omega
  have I:(c+(Y[o]+v[o]))/4294967296≤1:=by omega
  generalize y:c+(Y[o]+v[o])=s at *
  have key:val ((Y.set o (s%4294967296)).take (o+1))+4294967296 ^ (o+1)*(s/4294967296)=val (X.take (o+1))+val (v.take (o+1)):=by
   rw[VT d,Ar (l:=X) (by omega),Ar t,Nat.pow_succ]
   have e:=I4 (4294967296 ^ o) s
   have e2:4294967296 ^ o*s=4294967296 ^ o*c+(4294967296 ^ o*X[o]+4294967296 ^ o*v[o]):=by rw[←y,Nat.mul_add,Nat.mul_add,q]
   omega
  obtain⟨Y',q1,q2,q3,q4⟩:=xK (N:=N) (P:=P) (Q:=Q) (f:=f) (g:=g) L M hX hXl T hD hD1 U u m (o+1) b (Y.set o (s%4294967296)) (s/4294967296) (by omega) (by omega) (B0 hY (by omega) o) (by simpa using hYl) (fun j z A hj=>by rw[List.getElem_set,if_neg (by omega)];exact i j (by simpa using z) A (by omega)) I key
  refine⟨Y',q1,q2,q3,fun K=>?_⟩
  rw[Fl];unfold Kc
  rw[NR x,ct,Ak x,ct,GA t,Ak (by omega),ct,Ac7 d,ct,Ael d,ct,Fj (show v[o]<18446744073709551616 by omega),Fj (show Y[o]<18446744073709551616 by omega),Xj,Fj (by omega),Xj,y,Fj G,aT,RF,Aap d,wS (by omega)]
  exact q4 K
theorem Aaq {N:Nat} {P Q U v:List Nat} {n D:Nat} {f g:Bool} (A:Ae v) (B:v.length=n) (hU:Ae U) (hUl:U.length=n+1) (hs:n≤1000000000000) (hN:n+2<N) (hD:D<4294967296) (u:0<val v) (G:val U/val v≤D) (I:D≤val U/val v+1) :
  ∀ (m p b:Nat) (X:List Nat) (t:Nat),p+m=n→m<b→Ae X→X.length=n+1→(∀ j (h1:j<X.length) (h2:j<U.length),p≤j→X[j]=U[j])→t≤4294967296→val (X.take p)+D*val (v.take p)=val (U.take p)+4294967296 ^ p*t →
  ∃ X',Ae X'∧X'.length=n+1∧val X'=val U%val v∧∀ K:Int→LA→O R,D9 N K P.length (n+1) (Aa v) n f g (n:Int) (D:Int) b (t:Int) (n:Int) (p:Int) (Aa (P++(X++Q)))=K ((val U/val v:Nat):Int) (Aa (P++(X'++Q)))
 | 0,p,b+1,X,t,hp,_,hX,hXl,i,L,s=>by
  have M:p=n:=by omega
  subst M
  rw[show v.take p=v by rw[←B];exact List.take_length] at s
  have hXp:X[p]=U[p]:=i p (by omega) (by omega) (Nat.le_refl _)
  have up:=Au hU (show p<U.length by omega)
  obtain⟨d,c,S,g2,T,C,F⟩:=L_ up L
  have k:(X.set p d).length=p+1:=by simpa using hXl
  have hX2:=B0 hX S p
  have V:val (X.set p d)=val (X.take p)+4294967296 ^ p*d:=by
   have:=VT (X:=X) (p:=p) (g:=d) (by omega)
   rwa [List.take_of_length_le (by omega)] at this
  have eU:=Zt hUl
  have main:val (X.set p d)+D*val v=val U+4294967296 ^ (p+1)*c:=by
   have e:4294967296 ^ p*(U[p]+4294967296*c)=4294967296 ^ p*(d+t):=by rw[T]
   rw[Nat.mul_add,Nat.mul_add,←Nat.mul_assoc] at e
   rw[V,eU,Nat.pow_succ];omega
  have hlt:=Bi hX2
  rw[k] at hlt
  have hdm:=Nat.div_add_mod (val U) (val v)
  have hmod:=Nat.mod_lt (val U) u
  have vlt:=Bi A
  rw[B] at vlt
  by_cases hc:c=0
  ·subst hc
   have hDq:D=val U/val v:=by
    have:D≤val U/val v:=by rw[Nat.le_div_iff_mul_le u];omega
    omega
   refine⟨X.set p d,hX2,k,?_,fun K=>?_⟩
   ·rw[hDq,Nat.mul_comm] at main;omega
   ·rw[D9];unfold Gi
    rw[VC (Nat.le_refl _),cf,Ak (by omega),ct,Ac7 (by omega),ct,Ael (by omega),ct,hXp,Fj (show U[p]<18446744073709551616 by omega),C,F,show(((0:Nat):Int)==0)=true by rfl,ct,xF hD,Aap (by omega),hDq]
  ·have hc1:c=1:=by omega
   subst hc1
   have hDq:D=val U/val v+1:=by
    have:¬ D≤val U/val v:=fun h=>by
     have:=Nat.mul_le_mul_left (val v) h
     rw[Nat.mul_comm] at this
     omega
    omega
   have hr:val (X.set p d)+val v=4294967296 ^ (p+1)+val U%val v:=by
    rw[hDq,Nat.add_mul,Nat.mul_comm (val U/val v)] at main;omega
   obtain⟨Y',q1,q2,q3,q4⟩:=xK (R:=R) (N:=N) (P:=P) (Q:=Q) (f:=f) (g:=g) (X:=X.set p d) A B hX2 k hs hD (by rw[hDq];exact Nat.le_add_left 1 _) hr (by omega) p 0 N (X.set p d) 0 (by omega) (by omega) hX2 k (fun _ _ _ _=>rfl) (by omega) (by simp[val])
   refine⟨Y',q1,q2,q3,fun K=>?_⟩
   rw[D9];unfold Gi
   rw[VC (Nat.le_refl _),cf,Ak (by omega),ct,Ac7 (by omega),ct,Ael (by omega),ct,hXp,Fj (show U[p]<18446744073709551616 by omega),C,F,show(((1:Nat):Int)==0)=false by rfl,cf,Aap (by omega)]
   have:=q4 K
   rw[show D - 1=val U/val v by rw[hDq];rfl] at this
   exact this
 | m+1,p,b+1,X,t,hp,hfu,hX,hXl,i,L,s=>by
  have y:p<n:=by omega
  have x:p<v.length:=by omega
  have vp:=Au A x
  have q:p<X.length:=by omega
  have hXp:X[p]=U[p]:=i p (by omega) (by omega) (Nat.le_refl _)
  have up:=Au hU (show p<U.length by omega)
  obtain⟨hw1,hw2⟩:=Ab9 hD vp L
  have hDv:D*v[p]<18446744073709551616:=by omega
  generalize z:D*v[p]+t=w at *
  obtain⟨d,c,S,g2,T,C,F⟩:=L_ up (show w%4294967296≤4294967296 by omega)
  have key:val ((X.set p d).take (p+1))+D*val (v.take (p+1))=val (U.take (p+1))+4294967296 ^ (p+1)*(w/4294967296+c):=by
   rw[VT q,Ar x,Ar (l:=U) (by omega),Nat.pow_succ]
   have e:=I4 (4294967296 ^ p) w
   have e2:4294967296 ^ p*w=4294967296 ^ p*(D*v[p])+4294967296 ^ p*t:=by rw[←z,Nat.mul_add]
   have e3:4294967296 ^ p*(U[p]+4294967296*c)=4294967296 ^ p*(d+w%4294967296):=by rw[T]
   rw[Nat.mul_add,Nat.mul_add,←Nat.mul_assoc] at e3
   have e4:D*(val (v.take p)+4294967296 ^ p*v[p])=D*val (v.take p)+4294967296 ^ p*(D*v[p]):=by rw[Nat.mul_add,Nat.mul_left_comm]
   rw[e4,Nat.mul_add]
   omega
  obtain⟨X',q1,q2,q3,q4⟩:=Aaq (N:=N) (P:=P) (Q:=Q) (f:=f) (g:=g) A B hU hUl hs hN hD u G I m (p+1) b (X.set p d) (w/4294967296+c) (by omega) (by omega) (B0 hX S p) (by simpa using hXl) (fun j h1 h2 hj=>by rw[List.getElem_set,if_neg (by omega)];exact i j (by simpa using h1) h2 (by omega)) (by omega) key
  refine⟨X',q1,q2,q3,fun K=>?_⟩
  rw[D9];unfold Gi
  rw[NR y,ct,Ak y,ct,GA x,Ak (by omega),ct,Ac7 q,ct,Ael q,ct,hXp,Fj (show v[p]<18446744073709551616 by omega),iT,Fj hDv,Xj,z,Fj hw1,RF,Fj (show w%4294967296<18446744073709551616 by omega),Fj (show U[p]<18446744073709551616 by omega),C,F,aT,Xj,Fj (by omega),Aap q,wS (by omega)]
  exact q4 K
end
end Gx

namespace Gx
open Go Go.Proofs
section
variable {R:Type}
theorem OH (a b:Nat):Int.tdiv (a:Int) (b:Int)=((a/b:Nat):Int):=rfl
theorem HZ (a b:Nat):Int.tmod (a:Int) (b:Int)=((a%b:Nat):Int):=rfl
theorem Ac8 {l:Nat} (h:l<4294967296):(((Int.fdiv (l:Int) (2 ^ 32)) != (0:Int)))=false:=by rw[aT,Nat.div_eq_of_lt h];rfl
theorem Ac9 {l:Nat} (h:4294967296≤l):(((Int.fdiv (l:Int) (2 ^ 32)) != (0:Int)))=true:=by
 have b:l/4294967296≠0:=by omega
 rw[aT];rw[bne_iff_ne];omega
theorem Adu {a b:Nat} (c:a<4294967296) (d:b<4294967296):Me .u64 (IntKind.wrap .u64 ((a:Int)*2 ^ 32)) (b:Int)=((a*4294967296+b:Nat):Int):=by
 rw[show(2:Int) ^ 32=((2 ^ 32:Nat):Int) by rfl,iT,Fj (by omega),vH (by omega) (by omega),aU (by omega)]
theorem Adv {B l v1 v2 m u2:Nat} (h:m*B+u2<l*v2):(l*v1+m)*B+u2<l*(v1*B+v2):=by rw[Nat.add_mul,Nat.mul_add,←Nat.mul_assoc l v1];omega
theorem Adw {B l v1 v2 m u2:Nat} (h:l*v2≤m*B+u2):l*(v1*B+v2)≤(l*v1+m)*B+u2:=by rw[Nat.add_mul,Nat.mul_add,←Nat.mul_assoc l v1];omega
theorem Adx {B u0 u1 u2 v1 v2:Nat} (b:v2<B) (h:(u0*B+u1)*B+u2<(v1*B+v2+1)*B):u0*B+u1<v1*B+B:=by
 have:u0*B+u1<v1*B+v2+1:=Nat.lt_of_mul_lt_mul_right (Nat.lt_of_le_of_lt (Nat.le_add_right _ u2) h)
 omega
theorem Aed (P x:Nat):P*4294967296*x=P*(x*4294967296):=by rw[Nat.mul_assoc,Nat.mul_comm 4294967296]
theorem Aar {N:Nat} {P Q U v:List Nat} {n:Nat} {f g:Bool} {K:Int→LA→O R} (hn:v.length=n+2) (G:Ae v) (hU:Ae U) (hUl:U.length=n+3) (hs:n≤1000000000000) {v1 v2 u2 top:Nat}
  (I:v[n+1]'(by omega)=v1) (L:v[n]'(by omega)=v2) (M:U[n]'(by omega)=u2) (z:2147483648≤v1) (S:top<v1*4294967296+4294967296)
  (hV:(v1*4294967296+v2)*4294967296 ^ n≤val v) (hV':val v<(v1*4294967296+v2+1)*4294967296 ^ n) (hUU:(top*4294967296+u2)*4294967296 ^ n≤val U) (hUU':val U<(top*4294967296+u2+1)*4294967296 ^ n) (hq:val U/val v<4294967296) :
  ∀ (k b l m:Nat),k<b→4294967296≤m+k*2147483648→m<4294967296→l*v1+m=top→val U/val v≤l→∃ D,D<4294967296∧val U/val v≤D∧D≤val U/val v+1 ∧
   Dg N K P.length (n+3) (Aa v) (n+2) f g (Aa (P++(U++Q))) b ((n+2:Nat):Int) (l:Int) (m:Int)=Df N K P.length (n+3) (Aa v) (n+2) f g ((n+2:Nat):Int) (Aa (P++(U++Q))) (D:Int):=by
 have X:=Au G (show n+1<v.length by omega)
 have Y:=Au G (show n<v.length by omega)
 have T:=Au hU (show n<U.length by omega)
 rw[I] at X;rw[L] at Y;rw[M] at T
 have hP:0<4294967296 ^ n:=Nat.pow_pos (by omega)
 have j:0<val v:=Nat.lt_of_lt_of_le (Nat.mul_pos (by omega) hP) hV
 intro k
 induction k with
 | zero=>intro b l m _ h1 h2;omega
 | succ k ih =>
  intro b l m hf hm A t B
  obtain⟨b,rfl⟩:∃ F,b=F+1:=⟨b - 1,by omega⟩
  generalize s:val U/val v=q at *
  have wi1:IntKind.wrap .i64 (((n+2:Nat):Int) - 1)=((n+1:Nat):Int):=by rw[i64 (by omega)];omega
  have wi2:IntKind.wrap .i64 (((n+2:Nat):Int) - 2)=((n:Nat):Int):=by rw[i64 (by omega)];omega
  have lower:q<l→l<18446744073709551616→∃ D,D<4294967296∧q≤D∧D≤q+1 ∧
    Ht N (Dg N K P.length (n+3) (Aa v) (n+2) f g (Aa (P++(U++Q))) b) K P.length (n+3) (Aa v) (n+2) f g ((n+2:Nat):Int) (l:Int) (m:Int) (Aa (P++(U++Q)))=Df N K P.length (n+3) (Aa v) (n+2) f g ((n+2:Nat):Int) (Aa (P++(U++Q))) (D:Int):=by
   intro hlt c
   have i:(l - 1)*v1+(m+v1)=top:=by
    have:l*v1=(l - 1)*v1+v1:=by
     obtain⟨V,rfl⟩:∃ V,l=V+1:=⟨l - 1,by omega⟩
     rw[Nat.add_mul];simp
    omega
   unfold Ht Pm
   rw[wi1,Ak (by omega),ct,GA (show n+1<v.length by omega),I,Fj (show v1<18446744073709551616 by omega),Xj,Fj (show m+v1<18446744073709551616 by omega),xJ (by omega) c]
   by_cases u:4294967296≤m+v1
   ·have hDB:l - 1<4294967296:=by
     apply Nat.lt_of_not_le;intro C
     have:=Nat.mul_le_mul_right v1 C
     rw[Nat.mul_comm 4294967296] at this
     omega
    have d:(l - 1)*(v1*4294967296+v2)≤top*4294967296+u2:=by
     have x1:(l - 1)*v2≤4294967295*4294967295:=Nat.mul_le_mul (by omega) (by omega)
     rw[←i,Nat.add_mul,Nat.mul_add,←Nat.mul_assoc]
     omega
    have e:=nf hV' hUU d (by omega) j
    rw[s] at e
    exact⟨l - 1,hDB,by omega,e,by rw[Ac9 u,ct]⟩
   ·obtain⟨D,d1,d2,d3,d4⟩:=ih b (l - 1) (m+v1) (by omega) (by omega) (by omega) i (by omega)
    exact⟨D,d1,d2,d3,by rw[Ac8 (by omega),cf,d4]⟩
  rw[Dg];unfold Pn
  by_cases hlB:l<4294967296
  ·rw[Ac8 hlB,show((false:Bool)==false)=true by rfl,ct,wi2,Ak (by omega),ct,GA (show n<v.length by omega),Ak (by omega),ct,Ac7 (show n<U.length by omega),Afn,L,M,Fj (show v2<18446744073709551616 by omega),Fj (show u2<18446744073709551616 by omega),iT]
   have x1:l*v2≤4294967295*4294967295:=Nat.mul_le_mul (by omega) (by omega)
   rw[Fj (show l*v2<18446744073709551616 by omega),Adu A T]
   by_cases x:m*4294967296+u2<l*v2
   ·rw[show decide (((l*v2:Nat):Int)>((m*4294967296+u2:Nat):Int))=true by rw[decide_eq_true_eq];omega,ct]
    have y:val U/val v<l:=nd hV hUU' (by rw[←t];exact Adv x) j
    rw[s] at y
    exact lower y (by omega)
   ·rw[show decide (((l*v2:Nat):Int)>((m*4294967296+u2:Nat):Int))=false by rw[decide_eq_false_iff_not];omega,cf]
    have d:l*(v1*4294967296+v2)≤top*4294967296+u2:=by
     rw[←t];exact Adw (Nat.le_of_not_lt x)
    have e:=nf hV' hUU d (by omega) j
    rw[s] at e
    exact⟨l,hlB,B,e,rfl⟩
  ·rw[Ac9 (by omega),show((true:Bool)==false)=false by rfl,cf]
   have c:l<18446744073709551616:=by
    have:l*2147483648≤l*v1:=Nat.mul_le_mul_left _ z
    omega
   exact lower (by omega) c
theorem jO {N:Nat} {P Q U v:List Nat} {n:Nat} {f g:Bool} (F:v.length=n+2) (j:Ae v) (hU:Ae U) (hUl:U.length=n+3) (hs:n≤1000000000) (hN:n+8<N) (y:2147483648≤v[n+1]'(by omega)) (z:val U<val v*4294967296) :
  ∃ U',Ae U'∧U'.length=n+3∧val U'=val U%val v∧∀ K:Int→LA→O R,Hd N P.length (n+3) (Aa v) (n+2) f g (Aa (P++(U++Q))) K=K ((val U/val v:Nat):Int) (Aa (P++(U'++Q))):=by
 have b1:=Au j (show n+1<v.length by omega)
 have L:=Au j (show n<v.length by omega)
 have b3:=Au hU (show n<U.length by omega)
 have M:=Au hU (show n+1<U.length by omega)
 have S:=Au hU (show n+2<U.length by omega)
 have hP:0<4294967296 ^ n:=Nat.pow_pos (by omega)
 have vv:val v=val (v.take n)+4294967296 ^ n*(v[n+1]'(by omega)*4294967296+v[n]'(by omega)):=by
  have b:=Ar (l:=v) (c:=n+1) (by omega)
  have d:=Ar (l:=v) (c:=n) (by omega)
  rw[List.take_of_length_le (by omega)] at b
  rw[b,d,Nat.pow_succ,Nat.mul_add,Nat.mul_assoc,Nat.mul_comm 4294967296 v[n+1]];omega
 have uu:val U=val (U.take n)+4294967296 ^ n*((U[n+2]'(by omega)*4294967296+U[n+1]'(by omega))*4294967296+U[n]'(by omega)):=by
  have G:=Ar (l:=U) (c:=n+2) (by omega)
  have b:=Ar (l:=U) (c:=n+1) (by omega)
  have d:=Ar (l:=U) (c:=n) (by omega)
  rw[List.take_of_length_le (by omega)] at G
  have x1:4294967296 ^ (n+2)*U[n+2]=4294967296 ^ n*(U[n+2]*4294967296*4294967296):=by rw[Nat.pow_succ (n:=4294967296) (m:=n+1),Nat.pow_succ,Aed,Aed]
  have x2:4294967296 ^ (n+1)*U[n+1]=4294967296 ^ n*(U[n+1]*4294967296):=by rw[Nat.pow_succ,Aed]
  rw[G,b,d,x1,x2,Nat.add_mul,Nat.mul_add,Nat.mul_add];omega
 have tv:=Bi (Bu j n)
 have tu:=Bi (Bu hU n)
 rw[List.length_take,Nat.min_eq_left (by omega)] at tv tu
 generalize A:v[n+1]'(by omega)=v1 at *
 generalize T:v[n]'(by omega)=v2 at *
 generalize V:U[n]'(by omega)=u2 at *
 generalize Y:U[n+1]'(by omega)=u1 at *
 generalize e5:U[n+2]'(by omega)=u0 at *
 have k:0<val v:=by
  have:0<4294967296 ^ n*(v1*4294967296+v2):=Nat.mul_pos hP (by omega)
  omega
 have hV:(v1*4294967296+v2)*4294967296 ^ n≤val v:=by rw[Nat.mul_comm];omega
 have hV':val v<(v1*4294967296+v2+1)*4294967296 ^ n:=by rw[Nat.mul_comm,Nat.mul_add];omega
 have hUU:((u0*4294967296+u1)*4294967296+u2)*4294967296 ^ n≤val U:=by rw[Nat.mul_comm];omega
 have hUU':val U<((u0*4294967296+u1)*4294967296+u2+1)*4294967296 ^ n:=by rw[Nat.mul_comm,Nat.mul_add];omega
 have hq:val U/val v<4294967296:=Nat.div_lt_of_lt_mul z
 have e:u0*4294967296+u1<v1*4294967296+4294967296:=by
  have b:((u0*4294967296+u1)*4294967296+u2)*4294967296 ^ n<(v1*4294967296+v2+1)*4294967296 ^ n*4294967296:=by
   have:=(Nat.mul_lt_mul_right (show 0<4294967296 by omega)).2 hV'
   omega
  rw[Nat.mul_right_comm] at b
  exact Adx L (Nat.lt_of_mul_lt_mul_right b)
 obtain⟨top,s⟩:∃ top,u0*4294967296+u1=top:=⟨_,rfl⟩
 rw[s] at hUU hUU' e
 have B:=Nat.div_add_mod top v1
 have I:=Nat.mod_lt top (show 0<v1 by omega)
 have C:val U/val v≤top/v1:=by
  have b:val U/val v<top/v1+1:=by
   apply nd hV hUU' _ k
   have d:top<v1*(top/v1+1):=by rw[Nat.mul_add];omega
   have h3:(top+1)*4294967296≤v1*(top/v1+1)*4294967296:=Nat.mul_le_mul_right _ d
   rw[Nat.mul_add,←Nat.mul_assoc,Nat.mul_comm _ v1]
   omega
  omega
 have key:∀ K:Int→LA→O R,∃ D,D<4294967296∧val U/val v≤D∧D≤val U/val v+1∧Hd N P.length (n+3) (Aa v) (n+2) f g (Aa (P++(U++Q))) K=Df N K P.length (n+3) (Aa v) (n+2) f g ((n+2:Nat):Int) (Aa (P++(U++Q))) (D:Int):=by
  intro K
  obtain⟨D,t,u,x,i⟩:=Aar (R:=R) (N:=N) (P:=P) (Q:=Q) (f:=f) (g:=g) (K:=K) F j hU hUl (by omega) A T V y e hV hV' hUU hUU' hq 2 N (top/v1) (top%v1) (by omega) (by omega) (by omega) (by rw[Nat.mul_comm];exact B) C
  refine⟨D,t,u,x,?_⟩
  rw[←i,Zl];unfold P5
  have wi1:IntKind.wrap .i64 (((n+2:Nat):Int) - 1)=((n+1:Nat):Int):=by rw[i64 (by omega)];omega
  rw[Ak (by omega),ct,Ae8 (show n+2<U.length by omega),wi1,Ak (by omega),ct,Ac7 (show n+1<U.length by omega),Ak (by omega),ct,GA (show n+1<v.length by omega),A,Y,e5,Fj (show v1<18446744073709551616 by omega),gL (by omega),cf,ct,GA (show n+1<v.length by omega),A,Fj (show v1<18446744073709551616 by omega),gL (by omega),cf,Fj (show u0<18446744073709551616 by omega),Fj (show u1<18446744073709551616 by omega),Adu S M,s,OH,HZ,Fj (show top/v1<18446744073709551616 from Nat.lt_of_le_of_lt (Nat.div_le_self _ _) (by omega))]
 have fin:∀ D,D<4294967296→val U/val v≤D→D≤val U/val v+1→∃ U',Ae U'∧U'.length=n+3∧val U'=val U%val v∧∀ K:Int→LA→O R,Df N K P.length (n+3) (Aa v) (n+2) f g ((n+2:Nat):Int) (Aa (P++(U++Q))) (D:Int)=K ((val U/val v:Nat):Int) (Aa (P++(U'++Q))):=by
  intro D t u x
  obtain⟨X',q1,q2,q3,q4⟩:=Aaq (R:=R) (N:=N) (P:=P) (Q:=Q) (U:=U) (v:=v) (n:=n+2) (D:=D) (f:=f) (g:=g) j F hU hUl (by omega) (by omega) t k u x (n+2) 0 N U 0 (by omega) (by omega) hU hUl (fun _ _ _ _=>rfl) (by omega) (by simp[val])
  exact⟨X',q1,q2,q3,fun K=>by unfold Df Pl;exact q4 K⟩
 by_cases hz:val U/val v+1<4294967296
 ·obtain⟨U1,a1,a2,a3,a4⟩:=fin (val U/val v) hq (Nat.le_refl _) (by omega)
  obtain⟨U2,c1,c2,c3,c4⟩:=fin (val U/val v+1) hz (by omega) (Nat.le_refl _)
  have:U1=U2:=by
   have b:=(Az a1).1;have d:=(Az c1).1
   rw[a3] at b;rw[c3] at d;rw[b,d,a2,c2]
  subst this
  refine⟨U1,a1,a2,a3,fun K=>?_⟩
  obtain⟨D,t,u,x,i⟩:=key K
  have:D=val U/val v∨D=val U/val v+1:=by
   generalize val U/val v=q at *;omega
  rcases this with rfl | rfl
  ·rw[i,a4 K]
  ·rw[i,c4 K]
 ·obtain⟨U1,a1,a2,a3,a4⟩:=fin (val U/val v) hq (Nat.le_refl _) (by omega)
  refine⟨U1,a1,a2,a3,fun K=>?_⟩
  obtain⟨D,t,u,x,i⟩:=key K
  have:D=val U/val v:=by
   generalize val U/val v=q at *;omega
  subst this
  rw[i,a4 K]
end
end Gx

namespace Gx
open Go Go.Proofs
section
variable {R:Type}
theorem H_ {l:List Nat} {d:Nat} (h:d<l.length):val (l.drop d)=l[d]+4294967296*val (l.drop (d+1)):=by
 rw[List.drop_eq_getElem_cons h,val]
theorem sd {S:List Nat} {d v:Nat} (h:d<S.length):(S.set d v).drop d=v::S.drop (d+1):=by
 rw[List.drop_eq_getElem_cons (by simpa using h),List.getElem_set_self,List.drop_set_of_lt (by omega)]
theorem dK {N:Nat} {a:List Nat} {t o:Bool} {b:Nat} (q:Ae a) (f:0<b) (x:b<4294967296) (i:fit a.length N):∀ (c d:Nat) (S:List Nat) (r:Nat),c<d→c≤a.length→Ae S→S.length=a.length→r<b→val (S.drop c)*b+r=val (a.drop c) →
  ∃ S' S2,Ae S'∧val S'=val a/b∧Ae S2∧val S2=val a%b∧∀ K:Nat→Nat→LA→LA→O R,Cs N K (Aa a) a.length t o (b:Int) d (r:Int) ((c:Int) - 1) (Aa S)=K (Ac (val a/b)).length (Ac (val a%b)).length (Aa S') (Aa S2)
 | 0,d+1,S,r,_,_,hS,l,m,j=>by
  have y:=i.1
  rw[List.drop_zero,List.drop_zero] at j
  have hq:val a/b=val S:=by
   rw[←j,Nat.mul_comm,Nat.mul_add_div f,Nat.div_eq_of_lt m,Nat.add_zero]
  have s:val a%b=r:=by rw[←j,Nat.mul_comm,Nat.mul_add_mod,Nat.mod_eq_of_lt m]
  obtain⟨S2,s1,s2,z⟩:=Ha (R:=R) (N:=N) (v:=r) (by omega) (by omega)
  refine⟨S,S2,hS,hq.symm,s1,by rw[s,s2],fun K=>?_⟩
  rw[Cs];unfold Gc
  rw[show decide ((((0:Nat):Int) - 1)≥0)=false by simp,cf,Ze l.symm hS (by rw[l];exact i),z,hq,s]
 | c+1,d+1,S,r,A,L,hS,l,m,j=>by
  have y:=i.1;have M:=i.2
  have e:c<a.length:=by omega
  have ac:=Au q e
  have hrB:r<4294967296:=by omega
  have u:r*4294967296+a[c]<b*4294967296:=by
   have:(r+1)*4294967296≤b*4294967296:=Nat.mul_le_mul_right _ m
   rw[Nat.add_mul] at this;omega
  have n:r*4294967296+a[c]<18446744073709551616:=by omega
  obtain⟨w,k⟩:∃ w,r*4294967296+a[c]=w:=⟨_,rfl⟩
  rw[k] at u n
  have hqB:w/b<4294967296:=Nat.div_lt_of_lt_mul u
  have B:=Nat.div_add_mod w b
  obtain⟨S',S2,C,D,F,G,I⟩:=dK (t:=t) (o:=o) q f x i c d (S.set c (w/b)) (w%b) (by omega) (by omega) (B0 hS hqB c) (by simpa using l) (Nat.mod_lt _ f) (by
   rw[sd (by omega),val,H_ e,Nat.add_mul,Nat.mul_assoc,←j,Nat.mul_add,Nat.mul_comm (w/b)]
   omega)
  refine⟨S',S2,C,D,F,G,fun K=>?_⟩
  rw[Cs];unfold Gc
  rw[show(((c+1:Nat):Int) - 1)=(c:Int) by omega,show decide ((c:Int)≥0)=true by simp,ct,Ak e,ct,GA e,Fj (show b<18446744073709551616 by omega),gL (by omega),cf,ct,n0 (by omega),ct,cf,Fj (show a[c]<18446744073709551616 by omega),Adu hrB ac,k,OH,HZ,Fj (show w/b<18446744073709551616 by omega),xF hqB,HQ,i64 (by omega)]
  exact I K
theorem se {N:Nat} {a:List Nat} {n:Nat} {t o:Bool} {b:Nat} (e:n=a.length) (f:Ae a) (c:0<b) (i:b<4294967296) (d:fit a.length N) :
  ∃ S' S2,Ae S'∧val S'=val a/b∧Ae S2∧val S2=val a%b∧∀ K:Nat→Nat→LA→LA→O R,D8 N (Aa a) n t o (b:Int) K=K (Ac (val a/b)).length (Ac (val a%b)).length (Aa S') (Aa S2):=by
 subst e
 have s:=d.1;have u:=d.2
 obtain⟨S',S2,j,k,l,m,q⟩:=dK (R:=R) (t:=t) (o:=o) f c i d a.length N (List.replicate a.length 0) 0 (by omega) (Nat.le_refl _) (By _) (by simp) c (by rw[List.drop_eq_nil_of_le (by simp),List.drop_eq_nil_of_le (by simp)];simp[val])
 refine⟨S',S2,j,k,l,m,fun K=>?_⟩
 rw[Rl];unfold Kb
 rw[zX (by omega),ct,i64 (by omega),Ca]
 exact q K
theorem Aas {x V s:Nat} (f:x<4294967296) (i:s≤31):(x+4294967296*V)/2 ^ s=(x+4294967296*(V%4294967296))/2 ^ s%4294967296+4294967296*(V/2 ^ s):=by
 have b:0<2 ^ s:=Nat.pow_pos (by omega)
 have d:2 ^ s∣4294967296:=⟨2 ^ (32 - s),by rw[←Nat.pow_add,show s+(32 - s)=32 by omega]⟩
 have key:∀ W,(x+4294967296*W)/2 ^ s=(x+4294967296*(W%2 ^ s))/2 ^ s+4294967296*(W/2 ^ s):=by
  intro W
  have e:x+4294967296*W=x+4294967296*(W%2 ^ s)+2 ^ s*(4294967296*(W/2 ^ s)):=by
   have h:=Nat.div_add_mod W (2 ^ s)
   have:4294967296*W=4294967296*(2 ^ s*(W/2 ^ s)+W%2 ^ s):=by rw[h]
   rw[this,Nat.mul_add,Nat.mul_left_comm];omega
  rw[e,Nat.add_mul_div_left _ _ b]
 have c:(x+4294967296*(V%2 ^ s))/2 ^ s<4294967296:=by
  rw[Nat.div_lt_iff_lt_mul b]
  have:V%2 ^ s+1≤2 ^ s:=Nat.mod_lt _ b
  have:=Nat.mul_le_mul_left 4294967296 this
  rw[Nat.mul_add] at this
  omega
 rw[key V,key (V%4294967296),Nat.mod_mod_of_dvd _ d,Nat.add_mul_mod_self_left,Nat.mod_eq_of_lt c]
theorem Aca:∀ {l:List Nat},Ae l→val l%4294967296=l.getD 0 0
 | [],_=>rfl
 | x::r,h=>by
  have:=(Ci.1 h).1
  simp[val];omega
theorem sf {N:Nat} {a:List Nat} {o:Bool} {s:Nat} (k:Ae a) (y:s≤31) (l:fit a.length N):∀ (m d b:Nat) (S:List Nat),d+m=a.length→m<b→Ae S→S.length=a.length→yQ S d→val S+4294967296 ^ d*(val (a.drop d)/2 ^ s)=val a/2 ^ s →
  ∃ S',Ae S'∧val S'=val a/2 ^ s∧∀ K:Nat→Bool→LA→O R,Cf N K o b (Aa a) a.length (s:Int) a.length (Aa a) a.length (a.length:Int) (d:Int) (Aa S)=K (Ac (val a/2 ^ s)).length true (Aa S')
 | 0,d,b+1,S,z,_,hS,n,q,i=>by
  have t:d=a.length:=by omega
  subst t
  rw[List.drop_length] at i
  simp[val] at i
  refine⟨S,hS,i,fun K=>?_⟩
  rw[Cf];unfold Fo
  rw[VC (Nat.le_refl _),cf,Ze n.symm hS (by rw[n];exact l),i]
 | m+1,d,b+1,S,z,A,hS,n,q,i=>by
  have D:=l.1;have F:=l.2
  have c:d<a.length:=by omega
  have ad:=Au k c
  have step:=Aas (V:=val (a.drop (d+1))) ad y
  rw[Aca (BK k _),←H_ c] at step
  have B:(a.drop (d+1)).getD 0 0=a.getD (d+1) 0:=by simp[List.getD_eq_getElem?_getD,List.getElem?_drop]
  rw[B] at step
  have go:∀ w,(a[d]+4294967296*a.getD (d+1) 0)/2 ^ s=w→∃ S',Ae S'∧val S'=val a/2 ^ s∧∀ K:Nat→Bool→LA→O R,Cf N K o b (Aa a) a.length (s:Int) a.length (Aa a) a.length (a.length:Int) ((d+1:Nat):Int) (Aa (S.set d (w%4294967296)))=K (Ac (val a/2 ^ s)).length true (Aa S'):=by
   intro w C
   refine sf (o:=o) k y l m (d+1) b (S.set d (w%4294967296)) (by omega) (by omega) (B0 hS (by omega) d) (by simpa using n) (Vz q) ?_
   rw[P3 q (by omega),←i,step,C,Nat.pow_succ,Nat.mul_add,Nat.mul_assoc];omega
  by_cases j:d+1<a.length
  ·have an:=Au k j
   have f:a.getD (d+1) 0=a[d+1]:=by rw[List.getD_eq_getElem?_getD,List.getElem?_eq_getElem j];rfl
   rw[f] at go
   obtain⟨S',u,v,x⟩:=go _ rfl
   refine⟨S',u,v,fun K=>?_⟩
   rw[Cf];unfold Fo
   have e:Me .u64 ((a[d]:Nat):Int) (IntKind.wrap .u64 (((a[d+1]:Nat):Int)*2 ^ 32))=((a[d]+4294967296*a[d+1]:Nat):Int):=by
    rw[show(2:Int) ^ 32=((2 ^ 32:Nat):Int) by rfl,iT,Fj (by omega),vH (by omega) (by omega),Nat.or_comm,aU (by omega)]
    congr 1;omega
   rw[NR c,ct,Ak c,ct,GA c,wS (by omega),NR j,ct,Ak j,ct,GA j,show decide (((s:Nat):Int)<0)=false by simp,cf,ct,n0 (by omega),ct,Fj (show a[d]<18446744073709551616 by omega),Fj (show a[d+1]<18446744073709551616 by omega),e,Int.toNat_natCast s,Nat.min_eq_left (by omega),Nd,RF,HQ]
   exact x K
  ·have f:a.getD (d+1) 0=0:=by rw[List.getD_eq_getElem?_getD,List.getElem?_eq_none (by omega)];rfl
   rw[f,Nat.mul_zero,Nat.add_zero] at go
   obtain⟨S',u,v,x⟩:=go _ rfl
   refine⟨S',u,v,fun K=>?_⟩
   rw[Cf];unfold Fo
   rw[NR c,ct,Ak c,ct,GA c,wS (by omega),VC (by omega),cf,show decide (((s:Nat):Int)<0)=false by simp,cf,ct,n0 (by omega),ct,Fj (show a[d]<18446744073709551616 by omega),Int.toNat_natCast s,Nat.min_eq_left (by omega),Nd,RF,HQ]
   exact x K
theorem Aat {N:Nat} {a:List Nat} {n:Nat} {t o:Bool} {s:Nat} (e:n=a.length) (c:Ae a) (j:s≤31) (b:fit a.length N) :
  ∃ S',Ae S'∧val S'=val a/2 ^ s∧∀ K:Nat→Bool→LA→O R,H4 N (Aa a) n t o (s:Int) K=K (Ac (val a/2 ^ s)).length true (Aa S'):=by
 have u:=b.1;have v:=b.2
 have la:=(Az c).2
 have f:IntKind.wrap .i64 (Int.tdiv ((s:Nat):Int) 32)=((0:Nat):Int):=by
  rw[show(32:Int)=((32:Nat):Int) by rfl,OH,Nat.div_eq_of_lt (by omega)];decide
 have k:Int.tmod ((s:Nat):Int) 32=(s:Int):=by rw[show(32:Int)=((32:Nat):Int) by rfl,HZ,Nat.mod_eq_of_lt (by omega)]
 by_cases d:val a=0
 ·refine⟨[],O8,by rw[d];simp[val],fun K=>?_⟩
  rw[Np];unfold I5
  rw[show decide (((s:Nat):Int)<0)=false by simp,cf,Bj e c b,d,f,Nat.zero_div,Bx];rfl
 ·obtain⟨S',l,i,m⟩:=sf (R:=R) (o:=o) (a:=Ac (val a)) (Ab _) j (b.le la) (Ac (val a)).length 0 N (List.replicate (Ac (val a)).length 0) (by omega) (by omega) (By _) (by simp) (H3 _) (by rw[C0];simp)
  rw[Ad] at i
  refine⟨S',l,i,fun K=>?_⟩
  rw[Np];unfold I5
  have q:(Ac (val a)).length≠0:=fun h=>d (A2.1 h)
  rw[show decide (((s:Nat):Int)<0)=false by simp,cf,Bj e c b,f,k,show decide (((0:Nat):Int)≥(((Ac (val a)).length:Nat):Int))=false by rw[decide_eq_false_iff_not];omega,cf]
  have c1:((decide ((0:Int)≤((0:Nat):Int)))&&((decide (((0:Nat):Int)≤(((Ac (val a)).length:Nat):Int)))&&((decide ((((Ac (val a)).length:Nat):Int)≤(((Ac (val a)).length:Nat):Int)))&&(decide ((((Ac (val a)).length:Nat):Int)≤(((Ac (val a)).length:Nat):Int))))))=true:=by simp
  rw[c1,ct,Int.toNat_natCast,Nat.sub_zero,zX (by omega),ct,Nat.zero_mul,List.drop_zero,Nat.mul_one,Pa,List.take_length,Ca]
  have:=m K
  rw[Ad] at this
  exact this
end
end Gx

namespace Gx
open Go Go.Proofs
section
variable {R:Type}
theorem BY {S:List Nat} {k:Nat} (h:val S<4294967296 ^ k):val (S.take k)=val S:=by
 by_cases d:k≤S.length
 ·have b:=Lz (S.take k) (S.drop k)
  rw[List.take_append_drop,List.length_take,Nat.min_eq_left d] at b
  rcases Nat.eq_zero_or_pos (val (S.drop k)) with c | c
  ·rw[c] at b;simpa using b.symm
  ·have:=Nat.le_mul_of_pos_right (4294967296 ^ k) c
   omega
 ·rw[List.take_of_length_le (by omega)]
theorem BZ {S:List Nat} {n:Nat} (hS:Ae S) (h:S.length=n+1):val S<(S[n]+1)*4294967296 ^ n:=by
 have c:=Zt h
 have b:=Bi (Bu hS n)
 rw[List.length_take,Nat.min_eq_left (by omega)] at b
 rw[Nat.add_mul,Nat.mul_comm S[n]];omega
theorem Afv {a b c:Nat} (d:a≤b) (e:b≤c):((decide ((0:Int)≤(a:Int)))&&((decide ((a:Int)≤(b:Int)))&&((decide ((b:Int)≤(c:Int)))&&(decide ((c:Int)≤(c:Int))))))=true:=by simp;omega
theorem oS {N:Nat} {v u0 Sv:List Nat} {n D s:Nat} (F:v.length=n+2) (G:Ae v) (y:2147483648≤v[n+1]'(by omega)) (hSv:List.take ((n+2)*1) (Aa Sv)=Aa v) (hu:Ae u0) (L:u0.length=D+(n+2)) (Y:s≤31) (m:fit (D+n+4) N) :
  ∀ (j b c:Nat) (W q:List Nat),j<b→c+j=D→Ae W→W.length=u0.length→Ae q→q.length=D→W.take j=u0.take j→val (W.drop j)<val v→val (q.drop j)*val v+val (W.drop j)=val (u0.drop j) →
  ∃ Sq Sr,Ae Sq∧val Sq=val u0/val v∧Ae Sr∧val Sr=val u0%val v/2 ^ s∧∀ K:Nat→Nat→LA→LA→O R,Cw N K (s:Int) (n+2) u0.length (Aa Sv) b D ((n+2:Nat):Int) (D:Int) (D:Int) (c:Int) (Aa q) (Aa W)=K (Ac (val u0/val v)).length (Ac (val u0%val v/2 ^ s)).length (Aa Sq) (Aa Sr)
 | 0,b+1,c,W,q,_,hc,hW,hWl,hq,i,u,I,e=>by
  have h1:=m.1;have h2:=m.2
  simp only[List.drop_zero] at e I
  have x:0<val v:=by omega
  have vlt:=Bi G
  rw[F] at vlt
  have A:val u0/val v=val q:=by rw[←e,Nat.mul_comm,Nat.mul_add_div x,Nat.div_eq_of_lt I,Nat.add_zero]
  have hm:val u0%val v=val W:=by rw[←e,Nat.mul_comm,Nat.mul_add_mod,Nat.mod_eq_of_lt I]
  have ht:val (W.take (n+2))=val W:=BY (by omega)
  have B:(W.take (n+2)).length=n+2:=by rw[List.length_take];omega
  obtain⟨S',q1,q3,q4⟩:=Aat (R:=R) (N:=N) (a:=W.take (n+2)) (n:=n+2) (t:=false) (o:=true) (s:=s) B.symm (Bu hW _) Y (m.le (by rw[B];omega))
  rw[ht,←hm] at q3 q4
  refine⟨q,S',hq,A.symm,q1,q3,fun K=>?_⟩
  have hcD:c=D:=by omega
  subst hcD
  rw[Cw];unfold Ip
  rw[VC (Nat.le_refl _),cf,Ac3 (by omega),ct,Int.toNat_natCast,Nat.mul_one,Pa,q4,Ze i.symm hq (by rw[i];exact m.le (by omega)),←A]
 | j+1,b+1,c,W,q,hfu,hc,hW,hWl,hq,i,u,I,e=>by
  have h1:=m.1;have h2:=m.2
  have vlt:=Bi G
  rw[F] at vlt
  have hjW:j<W.length:=by omega
  have C:j<u0.length:=by omega
  have M:j<q.length:=by omega
  have hWj:W[j]=u0[j]:=by
   have:=congrArg (fun l=>l[j]?) u
   simp only[List.getElem?_take_of_lt (show j<j+1 by omega),List.getElem?_eq_getElem hjW,List.getElem?_eq_getElem C] at this
   exact Option.some.inj this
  have wj:=Au hW hjW
  have eW:=H_ hjW
  have eu:=H_ C
  have hUl:((W.drop j).take (n+3)).length=n+3:=by rw[List.length_take,List.length_drop];omega
  have d:val (W.drop j)<val v*4294967296:=by rw[eW];omega
  have hB:val (W.drop j)<4294967296 ^ (n+3):=by
   have:=(Nat.mul_lt_mul_right (show 0<4294967296 by omega)).2 vlt
   rw[←Nat.pow_succ] at this;exact Nat.lt_trans d this
  have hU:val ((W.drop j).take (n+3))=val (W.drop j):=BY hB
  have k:W=W.take j++((W.drop j).take (n+3)++(W.drop j).drop (n+3)):=by rw[List.take_append_drop,List.take_append_drop]
  have hPl:(W.take j).length=j:=by rw[List.length_take];omega
  obtain⟨U',u1,u2,u3,u4⟩:=jO (R:=R) (N:=N) (P:=W.take j) (Q:=(W.drop j).drop (n+3)) (U:=(W.drop j).take (n+3)) (v:=v) (n:=n) (f:=false) (g:=true) F G (Bu (BK hW _) _) hUl (by omega) (by omega) y (by rw[hU];exact d)
  rw[hU] at u3 u4
  have hQ0:val ((W.drop j).drop (n+3))=0:=by
   have:=Lz ((W.drop j).take (n+3)) ((W.drop j).drop (n+3))
   rw[List.take_append_drop,hU,hUl] at this
   have hp:0<4294967296 ^ (n+3):=Nat.pow_pos (by omega)
   rcases Nat.eq_zero_or_pos (val ((W.drop j).drop (n+3))) with h | h
   ·exact h
   ·have:=Nat.le_mul_of_pos_right (4294967296 ^ (n+3)) h;omega
  have x:0<val v:=by omega
  have V:val (W.drop j)/val v<4294967296:=Nat.div_lt_of_lt_mul d
  have hdm:=Nat.div_add_mod (val (W.drop j)) (val v)
  have X:=Nat.mod_lt (val (W.drop j)) x
  have hW':Ae (W.take j++(U'++(W.drop j).drop (n+3))):=T'.2 ⟨Bu hW _,T'.2 ⟨u1,BK (BK hW _) _⟩⟩
  have hWl':(W.take j++(U'++(W.drop j).drop (n+3))).length=u0.length:=by
   rw[List.length_append,List.length_append,hPl,u2,List.length_drop,List.length_drop];omega
  have hWd:(W.take j++(U'++(W.drop j).drop (n+3))).drop j=U'++(W.drop j).drop (n+3):=by
   rw[List.drop_append,hPl,Nat.sub_self,List.drop_zero,List.drop_eq_nil_of_le (by omega),List.nil_append]
  have hWt:(W.take j++(U'++(W.drop j).drop (n+3))).take j=u0.take j:=by
   rw[List.take_append,hPl,Nat.sub_self,List.take_zero,List.append_nil,List.take_take,Nat.min_self]
   have:=congrArg (List.take j) u
   rwa [List.take_take,List.take_take,Nat.min_eq_left (by omega)] at this
  have hWv:val (U'++(W.drop j).drop (n+3))=val (W.drop j)%val v:=by rw[Lz,hQ0,u3];simp
  obtain⟨Sq,Sr,a1,a2,a3,a4,a5⟩:=oS (N:=N) F G y hSv hu L Y m j b (c+1) (W.take j++(U'++(W.drop j).drop (n+3))) (q.set j (val (W.drop j)/val v)) (by omega) (by omega) hW' hWl' (B0 hq V j) (by simpa using i) hWt (by rw[hWd,hWv];exact X) (by
   rw[hWd,hWv,sd M,val,eu,←e,←hWj,Nat.add_mul,Nat.mul_assoc,Nat.mul_add,Nat.mul_comm (val (W.drop j)/val v)]
   omega)
  refine⟨Sq,Sr,a1,a2,a3,a4,fun K=>?_⟩
  have w0:IntKind.wrap .i64 (IntKind.wrap .i64 (((D:Nat):Int) - 1) - (c:Int))=(j:Int):=by
   rw[i64 (a:=((D:Nat):Int) - 1) (by omega),i64 (by omega)];omega
  have w1:IntKind.wrap .i64 (IntKind.wrap .i64 ((j:Int)+((n+2:Nat):Int))+1)=((j+(n+3):Nat):Int):=by
   rw[i64 (a:=(j:Int)+((n+2:Nat):Int)) (by omega),i64 (by omega)];omega
  have:=u4 fun z aa=>cond (Ap (j:Int) D) (cond ((Nat.beq 1 1)&&((Nat.ble ((0+((Int.toNat (j:Int))*1))+1) (List.length (Aa q)))&&(!false))) (Cw N K (s:Int) (n+2) u0.length (Aa Sv) b D ((n+2:Nat):Int) (D:Int) (D:Int) (IntKind.wrap .i64 ((c:Int)+1)) (List.set (Aa q) (0+((Int.toNat (j:Int))*1)) (.int .u32 z)) aa) none) none
  rw[←k,hPl] at this
  rw[Cw];unfold Ip
  rw[NR (by omega),ct,w0,w1,Afv (by omega) (by omega),ct,hSv,Int.toNat_natCast,Int.toNat_natCast,Nat.mul_one,Nat.zero_add,show j+(n+3) - j=n+3 by omega]
  rw[Int.toNat_natCast,Nat.mul_one,Nat.zero_add] at this
  rw[this,Ak (by omega),ct,show((Nat.beq 1 1)&&((Nat.ble (j+1) (List.length (Aa q)))&&(!false)))=true by (rw[Bg];simp;omega),ct,UA,wS (by omega)]
  exact a5 K
theorem yX {N:Nat} {a b:List Nat} {n m:Nat} {t o t' o':Bool} (M:n=a.length) (S:m=b.length) (C:Ae a) (A:Ae b) (l:2≤b.length) (F:b.length≤a.length) (e:b.getLast (by intro h;rw[h] at l;simp at l)≠0) (q:fit (a.length+b.length+4) N) :
  ∃ Sq Sr,Ae Sq∧val Sq=val a/val b∧Ae Sr∧val Sr=val a%val b∧∀ K:Nat→Nat→LA→LA→O R,F1 N (Aa a) n t o (Aa b) m t' o' K=K (Ac (val a/val b)).length (Ac (val a%val b)).length (Aa Sq) (Aa Sr):=by
 subst M S
 have h1:=q.1;have h2:=q.2
 obtain⟨k,y⟩:∃ k,b.length=k+2:=⟨b.length - 2,by omega⟩
 have G:b[k+1]'(by omega)≠0:=by
  rw[List.getLast_eq_getElem] at e
  simp only[y] at e
  exact e
 have bk:=Au A (show k+1<b.length by omega)
 obtain⟨s,s1,s2,I,T⟩:=xI (R:=R) (N:=N) (c:=b[k+1]'(by omega)) (by omega) bk
 obtain⟨Sv,v1,v2,v3,v4⟩:=VS (R:=R) (N:=N) (a:=b) (t:=false) (o:=o') (s:=s) rfl A s1 (q.le (by omega))
 obtain⟨Su,L,U,B,V⟩:=VS (R:=R) (N:=N) (a:=a) (t:=false) (o:=o) (s:=s) rfl C s1 (q.le (by omega))
 have z:0<2 ^ s:=Nat.pow_pos (by omega)
 have hP:0<4294967296 ^ (k+1):=Nat.pow_pos (by omega)
 have bt:=BZ A y
 have bf:=Zt y
 have hVlt:val b*2 ^ s<4294967296 ^ (k+2):=by
  have x1:val b*2 ^ s<(b[k+1]+1)*4294967296 ^ (k+1)*2 ^ s:=(Nat.mul_lt_mul_right z).2 bt
  have X:2 ^ s∣4294967296:=⟨2 ^ (32 - s),by rw[←Nat.pow_add,show s+(32 - s)=32 by omega]⟩
  have x2:(b[k+1]+1)*2 ^ s≤4294967296:=by
   obtain⟨r,u⟩:=X
   have x3:b[k+1]<r:=by
    rw[u,Nat.mul_comm] at I
    exact Nat.lt_of_mul_lt_mul_left I
   have x4:(b[k+1]+1)*2 ^ s≤r*2 ^ s:=Nat.mul_le_mul_right _ x3
   have x5:r*2 ^ s=4294967296:=by rw[Nat.mul_comm];exact u.symm
   omega
  have x6:=Nat.mul_le_mul_right (4294967296 ^ (k+1)) x2
  rw[Nat.mul_right_comm] at x1
  rw[Nat.pow_succ,Nat.mul_comm _ 4294967296]
  exact Nat.lt_of_lt_of_le x1 x6
 have x:(Sv.take (k+2)).length=k+2:=by rw[List.length_take];omega
 have d:val (Sv.take (k+2))=val b*2 ^ s:=by rw[BY (by rw[v3];exact hVlt),v3]
 have f:2147483648*4294967296 ^ (k+1)≤val b*2 ^ s:=by
  have x1:4294967296 ^ (k+1)*b[k+1]≤val b:=by omega
  have x2:=Nat.mul_le_mul_right (2 ^ s) x1
  rw[Nat.mul_assoc,Nat.mul_comm (4294967296 ^ (k+1))] at x2
  have x3:=Nat.mul_le_mul_right (4294967296 ^ (k+1)) s2
  omega
 have i:2147483648≤(Sv.take (k+2))[k+1]'(by omega):=by
  have x1:=BZ (Bu v1 (k+2)) x
  rw[d] at x1
  have x2:=Nat.lt_of_mul_lt_mul_right (Nat.lt_of_le_of_lt f x1)
  omega
 have hDl:Su.length=(a.length+1 - (k+2))+(k+2):=by omega
 have j:val (Su.drop (a.length+1 - (k+2)))<val (Sv.take (k+2)):=by
  have x1:=Lz (Su.take (a.length+1 - (k+2))) (Su.drop (a.length+1 - (k+2)))
  rw[List.take_append_drop,B,List.length_take,Nat.min_eq_left (by omega)] at x1
  have x2:=Bi C
  have x3:val a*2 ^ s<4294967296 ^ a.length*2 ^ s:=(Nat.mul_lt_mul_right z).2 x2
  have x4:a.length=(a.length+1 - (k+2))+(k+1):=by omega
  generalize hE:a.length+1 - (k+2)=E at *
  have x5:4294967296 ^ a.length=4294967296 ^ E*4294967296 ^ (k+1):=by rw[←Nat.pow_add];congr 1
  rw[x5,Nat.mul_assoc] at x3
  have x6:4294967296 ^ E*val (Su.drop E)<4294967296 ^ E*(4294967296 ^ (k+1)*2 ^ s):=by omega
  have x7:=Nat.lt_of_mul_lt_mul_left x6
  have x8:4294967296 ^ (k+1)*2 ^ s≤2147483648*4294967296 ^ (k+1):=by rw[Nat.mul_comm];exact Nat.mul_le_mul_right _ (qK s1)
  rw[d];omega
 obtain⟨Sq,Sr,a1,a2,a3,a4,a5⟩:=oS (R:=R) (N:=N) (v:=Sv.take (k+2)) (u0:=Su) (Sv:=Sv) (n:=k) (D:=a.length+1 - (k+2)) (s:=s) x (Bu v1 _) i (by rw[Nat.mul_one,Pa]) L hDl s1 (q.le (by omega)) (a.length+1 - (k+2)) N 0 Su (List.replicate (a.length+1 - (k+2)) 0) (by omega) (by omega) L rfl (By _) (by simp) rfl j (by
  rw[List.drop_eq_nil_of_le (show(List.replicate (a.length+1 - (k+2)) 0).length≤a.length+1 - (k+2) by simp)];simp[val])
 have hq:val Su/val (Sv.take (k+2))=val a/val b:=by rw[B,d,Nat.mul_div_mul_right _ _ z]
 have u:val Su%val (Sv.take (k+2))/2 ^ s=val a%val b:=by rw[B,d,Nat.mul_mod_mul_right,Nat.mul_div_cancel _ z]
 rw[hq] at a2;rw[u] at a4
 refine⟨Sq,Sr,a1,a2,a3,a4,fun K=>?_⟩
 rw[V5];unfold Nq
 have Y:IntKind.wrap .i64 (((b.length:Nat):Int) - 1)=((k+1:Nat):Int):=by rw[i64 (by omega)];omega
 have w2:IntKind.wrap .i64 (((a.length+1:Nat):Int) - ((b.length:Nat):Int))=((a.length+1 - (k+2):Nat):Int):=by rw[i64 (by omega)];omega
 rw[Y,Ak (by omega),ct,GA (by omega),T,v4,Ac3 (by omega),ct,V,w2,zX (by omega),ct,Int.toNat_natCast,Ca]
 have:=a5 K
 rw[hq,u,U] at this
 rw[y]
 exact this
theorem V7 {N:Nat} {a b:List Nat} {n m:Nat} {t o t' o':Bool} (G:n=a.length) (I:m=b.length) (D:Ae a) (F:Ae b) (i:val b≠0) (e:fit (a.length+b.length+4) N) :
  ∃ Sq Sr,Ae Sq∧val Sq=val a/val b∧Ae Sr∧val Sr=val a%val b∧∀ K:Nat→Nat→Bool→LA→LA→O R,De N (Aa a) n t o (Aa b) m t' o' K=K (Ac (val a/val b)).length (Ac (val a%val b)).length true (Aa Sq) (Aa Sr):=by
 have T:=e.1;have U:=e.2
 have la:=(Az D).2
 have lb:=(Az F).2
 have v:(Ac (val b)).length≠0:=fun h=>i (A2.1 h)
 have start:∀ K:Nat→Nat→Bool→LA→LA→O R,De N (Aa a) n t o (Aa b) m t' o' K=cond (decide (Fn (val a) (val b)<0)) (Nj N (Aa (Ac (val a))) (Ac (val a)).length false o (fun s t=>(K 0 s true [] t))) (cond (decide ((((Ac (val a)).length:Nat):Int)≤(2:Int))) (Ln N (Aa (Ac (val a))) (Ac (val a)).length false o (fun p=>(Ln N (Aa (Ac (val b))) (Ac (val b)).length false o' (fun o=>(cond (o==(0:Int)) none (Bh N (IntKind.wrap .u64 (Int.tdiv p o)) (fun u w=>(cond (o==(0:Int)) none (Bh N (Int.tmod p o) (fun x y=>(K u x true w y))))))))))) (cond ((((Ac (val b)).length:Nat):Int)==(1:Int)) (cond (Ap (0:Int) (Ac (val b)).length) (Gb .u32 (Aa (Ac (val b))) fun z=>(D8 N (Aa (Ac (val a))) (Ac (val a)).length false o z (fun aa ab ac ad=>(K aa ab true ac ad)))) none) (F1 N (Aa (Ac (val a))) (Ac (val a)).length false o (Aa (Ac (val b))) (Ac (val b)).length false o' (fun ae af ag ah=>(K ae af true ag ah))))):=by
  intro K
  rw[OC];unfold SF
  rw[Bj G D (e.le (by omega)),Bj I F (e.le (by omega)),gL v,cf,Tc rfl rfl (Ab _) (Ab _) (e.le (by omega)),Ad,Ad]
 by_cases c:val a<val b
 ·refine⟨[],Ac (val a),O8,by rw[Nat.div_eq_of_lt c];rfl,Ab _,by rw[Nat.mod_eq_of_lt c,Ad],fun K=>?_⟩
  rw[start,show decide (Fn (val a) (val b)<0)=true by (unfold Fn;rw[if_pos c];rfl),ct,Td rfl (Ab _) (e.le (by omega)),Ad,Nat.div_eq_of_lt c,Nat.mod_eq_of_lt c,Bx];rfl
 ·have d:decide (Fn (val a) (val b)<0)=false:=by unfold Fn;rw[if_neg c];split<;>rfl
  have j:=Al (Nat.le_of_not_lt c)
  by_cases f:(Ac (val a)).length≤2
  ·have av:=VH f
   have bv:=VH (Nat.le_trans j f)
   have k:val a/val b<18446744073709551616:=Nat.lt_of_le_of_lt (Nat.div_le_self _ _) av
   have A:val a%val b<18446744073709551616:=Nat.lt_of_le_of_lt (Nat.mod_le _ _) av
   obtain⟨Sq,a1,a2,a3⟩:=Ha (R:=R) (N:=N) k (by omega)
   obtain⟨Sr,L,M,S⟩:=Ha (R:=R) (N:=N) A (by omega)
   refine⟨Sq,Sr,a1,a2,L,M,fun K=>?_⟩
   rw[start,d,cf,show decide ((((Ac (val a)).length:Nat):Int)≤2)=true by simp;omega,ct,Zg rfl (Ab _) f (by omega),Zg rfl (Ab _) (by omega) (by omega),Ad,Ad,gL i,cf,OH,Fj k,a3,cf,HZ,S]
  ·have l:decide ((((Ac (val a)).length:Nat):Int)≤2)=false:=by simp;omega
   by_cases B:(Ac (val b)).length=1
   ·obtain⟨x,C⟩:∃ x,Ac (val b)=[x]:=by
     match h:Ac (val b),B with
     | [x],_=>exact⟨x,rfl⟩
    have q:x=val b:=by have:=Ad (val b);rw[C] at this;simpa[val] using this
    have xl:x<4294967296:=by have:=Ab (val b);rw[C] at this;exact(Ci.1 this).1
    obtain⟨Sq,Sr,a1,a2,a3,a4,a5⟩:=se (R:=R) (N:=N) (a:=Ac (val a)) (t:=false) (o:=o) (b:=x) rfl (Ab _) (by omega) xl (e.le (by omega))
    rw[Ad,q] at a2 a4 a5
    refine⟨Sq,Sr,a1,a2,a3,a4,fun K=>?_⟩
    rw[start,d,cf,l,cf,C]
    simp only[List.length_cons,List.length_nil,O9,Tx]
    rw[show((((0+1:Nat)):Int)==1)=true by rfl,ct,show Ap 0 (0+1)=true by decide,ct,q,a5]
   ·obtain⟨Sq,Sr,a1,a2,a3,a4,a5⟩:=yX (R:=R) (N:=N) (a:=Ac (val a)) (b:=Ac (val b)) (t:=false) (o:=o) (t':=false) (o':=o') rfl rfl (Ab _) (Ab _) (by omega) j (iS _ _) (e.le (by omega))
    rw[Ad,Ad] at a2 a4 a5
    refine⟨Sq,Sr,a1,a2,a3,a4,fun K=>?_⟩
    rw[start,d,cf,l,cf,show((((Ac (val b)).length:Nat):Int)==1)=false by rw[beq_eq_false_iff_ne];omega,cf,a5]
end
end Gx

namespace Gx
open Go Go.Proofs
section
variable {R:Type}
def Aez (A B u0 u1 v0 v1:Nat) (e:Bool):Prop:=v0=0∨(1≤u1∧1≤v1∧match e with
 | true=>v0*B≤u0*A∧u1*A≤v1*B∧(v0+v1)*B≤(u0+u1)*A∧u0*v1=v0*u1+1
 | false=>u0*A≤v0*B∧v1*B≤u1*A∧(u0+u1)*A≤(v0+v1)*B∧u1*v0=v1*u0+1)
structure Lead (X Y x y u1 u2 v1 v2:Nat) (e:Bool):Prop where
 le:y≤x
 idV:x*v2+y*v1=X
 idU:x*u2+y*u1=Y
 pos:1≤v2
 par:match e with
  | false=>x+v1*Y=u1*X∧y+u2*X=v2*Y∧u1*v2=v1*u2+1
  | true=>x+u1*X=v1*Y∧y+v2*Y=u2*X∧u2*v1=v2*u1+1
 small:(v1=0∧u1=1∧u2=0∧v2=1∧e=false)∨(1≤v1∧u1≤v1∧u2≤v2∧1≤u2)
theorem Lead.init {X Y:Nat} (h:Y≤X):Lead X Y X Y 1 0 0 1 false:=⟨h,by simp,by simp,by omega,by simp,.inl ⟨rfl,rfl,rfl,rfl,rfl⟩⟩
theorem Lead.step {X Y x y u1 u2 v1 v2:Nat} {e:Bool} (L:Lead X Y x y u1 u2 v1 v2 e) (n:1≤y):Lead X Y y (x%y) u2 (u1+x/y*u2) v2 (v1+x/y*v2) (!e):=by
 have b:=Nat.div_add_mod x y
 have l:=Nat.mod_lt x (show 0<y by omega)
 have hq:1≤x/y:=by rw[Nat.le_div_iff_mul_le (by omega)];have:=L.le;omega
 generalize x/y=q at *
 generalize x%y=r at *
 have c:=L.pos
 refine⟨by omega,?_,?_,?_,?_,?_⟩
 ·rw[←L.idV,←b,Nat.mul_add,Nat.add_mul,Nat.mul_assoc];omega
 ·rw[←L.idU,←b,Nat.mul_add,Nat.add_mul,Nat.mul_assoc];omega
 ·have:=Nat.mul_le_mul hq c;omega
 ·have p:=L.par
  cases e with
  | false =>
   obtain⟨m,d,i⟩:=p
   refine⟨d,?_,?_⟩
   ·have j:q*(y+u2*X)=q*(v2*Y):=by rw[d]
    rw[Nat.mul_add,←Nat.mul_assoc,←Nat.mul_assoc] at j
    rw[Nat.mul_comm y q] at b
    rw[Nat.add_mul,Nat.add_mul];omega
   ·rw[Nat.add_mul,Nat.add_mul,Nat.mul_right_comm q u2,i];omega
  | true =>
   obtain⟨m,d,i⟩:=p
   refine⟨d,?_,?_⟩
   ·have j:q*(y+v2*Y)=q*(u2*X):=by rw[d]
    rw[Nat.mul_add,←Nat.mul_assoc,←Nat.mul_assoc] at j
    rw[Nat.mul_comm y q] at b
    rw[Nat.add_mul,Nat.add_mul];omega
   ·rw[Nat.mul_add,Nat.mul_add,i,Nat.mul_left_comm u2 q,Nat.mul_left_comm v2 q,Nat.mul_comm u2 v2];omega
 ·right
  rcases L.small with⟨s1,s2,f,k,_⟩ | ⟨s1,s2,f,k⟩
  ·subst s1 s2 f k;exact⟨by omega,by omega,by omega,by omega⟩
  ·have s:q*u2≤q*v2:=Nat.mul_le_mul_left _ f
   exact⟨c,f,by omega,by have:=Nat.mul_le_mul hq k;omega⟩
theorem Lead.cof {X Y x y u1 u2 v1 v2 A B P:Nat} {e:Bool} (L:Lead X Y x y u1 u2 v1 v2 e) (hA:X*P≤A) (hA':A<(X+1)*P) (hB:Y*P≤B) (hB':B<(Y+1)*P) (c1:v2≤y) (c:v1+v2≤x - y):Aez A B u1 u2 v1 v2 (!e):=by
 have p:=L.par
 have d:=L.le
 rcases L.small with⟨s1,_⟩ | ⟨s1,s2,k,f⟩
 ·exact .inl s1
 ·refine .inr ⟨f,L.pos,?_⟩
  cases e with
  | false =>
   obtain⟨i,j,b⟩:=p
   have n1:u2*A≤v2*B:=Vq hB hA' (w:=y) (by omega) (by omega)
   have n2:(v1+v2)*B≤(u1+u2)*A:=Vq hA hB' (w:=x - y) (by rw[Nat.add_mul,Nat.add_mul];omega) c
   refine⟨?_,n1,n2,b⟩
   rw[Nat.add_mul,Nat.add_mul] at n2;omega
  | true =>
   obtain⟨i,j,b⟩:=p
   have n1:v2*B≤u2*A:=Vq hA hB' (w:=y) (by omega) (by omega)
   have n2:(u1+u2)*A≤(v1+v2)*B:=Vq hB hA' (w:=x - y) (by rw[Nat.add_mul,Nat.add_mul];omega) (by omega)
   refine⟨?_,n1,n2,b⟩
   rw[Nat.add_mul,Nat.add_mul] at n2;omega
theorem H' {x y:Nat} (c:1≤y) (h:y≤x):2*(y*(x%y))≤x*y:=by
 have d:=Nat.div_add_mod x y
 have e:=Nat.mod_lt x (show 0<y by omega)
 have hq:1≤x/y:=by rw[Nat.le_div_iff_mul_le (by omega)];omega
 have f:y*1≤y*(x/y):=Nat.mul_le_mul_left _ hq
 have b:2*(x%y)≤x:=by omega
 have:=Nat.mul_le_mul_left y b
 rw[Nat.mul_comm x y,Nat.mul_left_comm];exact this
def xL (u0 u1 v0 v1:Nat) (e:Bool):LA:=[.int .u64 (u0:Int),.int .u64 (u1:Int),.int .u64 (v0:Int),.int .u64 (v1:Int),.bool e]
theorem yY {N:Nat} {X Y A B P:Nat} (hX:X<18446744073709551616) (hYX:Y≤X) (hA:X*P≤A) (hA':A<(X+1)*P) (hB:Y*P≤B) (hB':B<(Y+1)*P):∀ (k b x y u0 u1 u2 v0 v1 v2:Nat) (e:Bool),k<b→x*y<2 ^ k→Lead X Y x y u1 u2 v1 v2 e→Aez A B u0 u1 v0 v1 e→u0<18446744073709551616→u1<18446744073709551616→v0<18446744073709551616→v1<18446744073709551616 →
  ∃ (a1 a2 f d:Nat) (s:Bool),Aez A B a1 a2 f d s∧a1<18446744073709551616∧a2<18446744073709551616∧f<18446744073709551616∧d<18446744073709551616∧∀ K:LA→O R,C2 N K b (x:Int) (y:Int) (u0:Int) (u1:Int) (u2:Int) (v0:Int) (v1:Int) (v2:Int) e=K (xL a1 a2 f d s):=by
 intro k
 induction k with
 | zero =>
  intro b x y u0 u1 u2 v0 v1 v2 e G i L C f d t m
  obtain⟨b,rfl⟩:∃ F,b=F+1:=⟨b - 1,by omega⟩
  have l:y=0:=by
   rcases Nat.eq_zero_or_pos y with h | h
   ·exact h
   ·have h3:=Nat.mul_le_mul_left x (show 1≤y by omega)
    have h4:=L.le
    rw[Nat.pow_zero] at i
    omega
  refine⟨u0,u1,v0,v1,e,C,f,d,t,m,fun K=>?_⟩
  rw[C2];unfold Gh
  have:=L.pos
  rw[show decide ((y:Int)≥(v2:Int))=false by simp;omega];rfl
 | succ k I =>
  intro b x y u0 u1 u2 v0 v1 v2 e G i L C f d t m
  obtain⟨b,rfl⟩:∃ F,b=F+1:=⟨b - 1,by omega⟩
  have u:=L.pos
  have j:=L.le
  by_cases c1:v2≤y
  ·have l:1≤y:=by omega
   have hxX:x≤X:=by
    have:=Nat.mul_le_mul_left x u
    have:=L.idV;omega
   have D:v1+v2≤X:=by
    have M:=Nat.mul_le_mul_right v2 (show 1≤x by omega)
    have h2:=Nat.mul_le_mul_right v1 l
    have:=L.idV;omega
   by_cases S:v1+v2≤x - y
   ·have L':=L.step l
    have C':=L.cof hA hA' hB hB' c1 S
    have i1:=L'.idV
    have i2:=L'.idU
    have w1:v1+x/y*v2≤X:=by
     have:=Nat.mul_le_mul_right (v1+x/y*v2) l;omega
    have w2:u1+x/y*u2≤Y:=by
     have:=Nat.mul_le_mul_right (u1+x/y*u2) l;omega
    have v:u2<18446744073709551616:=by
     have M:=Nat.mul_le_mul_right u2 (show 1≤x by omega)
     have:=L.idU;omega
    have n:v2<18446744073709551616:=by omega
    have z:y*(x%y)<2 ^ k:=by
     have:=H' l j
     rw[Nat.pow_succ] at i;omega
    obtain⟨a1,a2,T,U,s,V,r2,r3,r4,r5,r6⟩:=I b y (x%y) u1 u2 (u1+x/y*u2) v1 v2 (v1+x/y*v2) (!e) (by omega) z L' C' d v m n
    refine⟨a1,a2,T,U,s,V,r2,r3,r4,r5,fun K=>?_⟩
    rw[C2];unfold Gh
    have c:x<18446744073709551616:=by omega
    have q:x/y<18446744073709551616:=Nat.lt_of_le_of_lt (Nat.div_le_self _ _) c
    rw[show decide ((y:Int)≥(v2:Int))=true by simp;omega,show((true:Bool)==true)=true by rfl,ct,aS c j,Xj,Fj (show v1+v2<18446744073709551616 by omega),show decide (((x - y:Nat):Int)≥((v1+v2:Nat):Int))=true by rw[decide_eq_true_eq];omega,xH,ct]
    unfold P4
    dsimp only
    rw[gL (by omega),cf,cf,OH,HZ,Fj q,iT,iT,Fj (show x/y*u2<18446744073709551616 by omega),Fj (show x/y*v2<18446744073709551616 by omega),Xj,Xj,Fj (show u1+x/y*u2<18446744073709551616 by omega),Fj (show v1+x/y*v2<18446744073709551616 by omega)]
    exact r6 K
   ·refine⟨u0,u1,v0,v1,e,C,f,d,t,m,fun K=>?_⟩
    rw[C2];unfold Gh
    rw[show decide ((y:Int)≥(v2:Int))=true by simp;omega,show((true:Bool)==true)=true by rfl,ct,aS (by omega) j,Xj,Fj (show v1+v2<18446744073709551616 by omega),show decide (((x - y:Nat):Int)≥((v1+v2:Nat):Int))=false by rw[decide_eq_false_iff_not];omega,xH,cf]
    rfl
  ·refine⟨u0,u1,v0,v1,e,C,f,d,t,m,fun K=>?_⟩
   rw[C2];unfold Gh
   rw[show decide ((y:Int)≥(v2:Int))=false by simp;omega];rfl
end
end Gx

namespace Gx
open Go Go.Proofs
section
variable {R:Type}
theorem bS {N:Nat} {a:List Nat} {n:Nat} {t o:Bool} {i:Nat} {K:Int→O R} (b:n=a.length) (c:Ae a):Hc N (i:Int) (Aa a) n t o K=K ((a.getD i 0:Nat):Int):=by
 subst b
 rw[Zh];unfold Xl
 by_cases h:i<a.length
 ·have:=Au c h
  rw[NR h,ct,Ak h,ct,GA h,Fj (by omega),List.getD_eq_getElem?_getD,List.getElem?_eq_getElem h];rfl
 ·rw[VC (by omega),cf,List.getD_eq_getElem?_getD,List.getElem?_eq_none (by omega)];rfl
theorem Tf {a:List Nat} (b:Ae a) (i:Nat):a.getD i 0<4294967296:=by
 by_cases h:i<a.length
 ·rw[List.getD_eq_getElem?_getD,List.getElem?_eq_getElem h];exact Au b h
 ·rw[List.getD_eq_getElem?_getD,List.getElem?_eq_none (by omega)];simp
theorem Aau {a:List Nat} {n:Nat} (e:a.length≤n+3):val a=val (a.take n)+4294967296 ^ n*((a.getD (n+2) 0*4294967296+a.getD (n+1) 0)*4294967296+a.getD n 0):=by
 have b:=Mh a (n+2)
 have c:=Mh a (n+1)
 have d:=Mh a n
 rw[List.take_of_length_le (by omega)] at b
 have x1:4294967296 ^ (n+2)*a.getD (n+2) 0=4294967296 ^ n*(a.getD (n+2) 0*4294967296*4294967296):=by rw[Nat.pow_succ (n:=4294967296) (m:=n+1),Nat.pow_succ,Aed,Aed]
 have x2:4294967296 ^ (n+1)*a.getD (n+1) 0=4294967296 ^ n*(a.getD (n+1) 0*4294967296):=by rw[Nat.pow_succ,Aed]
 rw[b,c,d,x1,x2,Nat.add_mul,Nat.mul_add,Nat.mul_add];omega
theorem dL {N:Nat} {a:List Nat} {m n s:Nat} {t o:Bool} {K:Int→O R} (i:m=a.length) (d:Ae a) (y:a.length≤n+3) (S:s≤31) (c:a.getD (n+2) 0*2 ^ s<4294967296) (T:n≤1000000000000) :
  Te N (Aa a) m t o ((n+3:Nat):Int) (s:Int) K=K ((val a/(4294967296 ^ n*2 ^ (32 - s)):Nat):Int)∧val a/(4294967296 ^ n*2 ^ (32 - s))<18446744073709551616:=by
 have z:0<2 ^ s:=Nat.pow_pos (by omega)
 have e:0<2 ^ (32 - s):=Nat.pow_pos (by omega)
 have hP:0<4294967296 ^ n:=Nat.pow_pos (by omega)
 have b:2 ^ s*2 ^ (32 - s)=4294967296:=by rw[←Nat.pow_add,show s+(32 - s)=32 by omega]
 have A:=Tf d (n+2)
 have B:=Tf d (n+1)
 have C:=Tf d n
 have tk:=Bi (Bu d n)
 have SH:val (a.take n)<4294967296 ^ n:=by
  refine Nat.lt_of_lt_of_le tk (Nat.pow_le_pow_right (by omega) ?_)
  rw[List.length_take];omega
 have D:=Aau y
 generalize j:a.getD (n+2) 0=a0 at *
 generalize k:a.getD (n+1) 0=a1 at *
 generalize l:a.getD n 0=a2 at *
 have q:a0<2 ^ (32 - s):=by
  rw[←b,Nat.mul_comm] at c;exact Nat.lt_of_mul_lt_mul_left c
 have f:(a0*4294967296+a1)*2 ^ s<18446744073709551616:=by
  have x1:(a0+1)*4294967296≤2 ^ (32 - s)*4294967296:=Nat.mul_le_mul_right _ q
  have x2:a0*4294967296+a1<2 ^ (32 - s)*4294967296:=by rw[Nat.add_mul] at x1;omega
  have x3:=(Nat.mul_lt_mul_right z).2 x2
  rw[Nat.mul_right_comm,Nat.mul_comm (2 ^ (32 - s)),b] at x3
  exact x3
 have u:a2/2 ^ (32 - s)<2 ^ s:=by
  rw[Nat.div_lt_iff_lt_mul e,b];exact C
 have hq:val a/(4294967296 ^ n*2 ^ (32 - s))=(a0*4294967296+a1)*2 ^ s+a2/2 ^ (32 - s):=by
  rw[←Nat.div_div_eq_div_mul,D,Nat.add_mul_div_left _ _ hP,Nat.div_eq_of_lt SH,Nat.zero_add]
  have:(a0*4294967296+a1)*4294967296+a2=a2+2 ^ (32 - s)*((a0*4294967296+a1)*2 ^ s):=by
   rw[Nat.mul_left_comm,Nat.mul_comm (2 ^ (32 - s)),b];omega
  rw[this,Nat.add_mul_div_left _ _ e];omega
 have F:(a0*4294967296+a1)*2 ^ s+a2/2 ^ (32 - s)<18446744073709551616:=by
  have v:2 ^ s*2 ^ (64 - s)=18446744073709551616:=by rw[←Nat.pow_add,show s+(64 - s)=64 by omega]
  obtain⟨r,x⟩:∃ r,18446744073709551616=2 ^ s*r:=⟨2 ^ (64 - s),v.symm⟩
  rw[x,Nat.mul_comm] at f
  have x1:=Nat.lt_of_mul_lt_mul_left f
  have x2:(a0*4294967296+a1+1)*2 ^ s≤r*2 ^ s:=Nat.mul_le_mul_right _ x1
  rw[Nat.add_mul,Nat.mul_comm r,←x] at x2
  omega
 rw[hq]
 refine⟨?_,F⟩
 rw[NS];unfold RZ
 have G:IntKind.wrap .i64 (((n+3:Nat):Int) - 1)=((n+2:Nat):Int):=by rw[i64 (by omega)];omega
 have I:IntKind.wrap .i64 (((n+3:Nat):Int) - 2)=((n+1:Nat):Int):=by rw[i64 (by omega)];omega
 have L:IntKind.wrap .i64 (((n+3:Nat):Int) - 3)=((n:Nat):Int):=by rw[i64 (by omega)];omega
 have M:IntKind.wrap .i64 ((32:Int) - (s:Int))=((32 - s:Nat):Int):=by rw[i64 (by omega)];omega
 rw[G,I,L,M,bS i d,bS i d,show decide (((s:Nat):Int)<0)=false by simp,cf,bS i d,show decide (((32 - s:Nat):Int)<0)=false by simp,cf]
 rw[j,k,l,Adu A B,Int.toNat_natCast,Int.toNat_natCast,Nat.min_eq_left (by omega),Nat.min_eq_left (by omega),Nd,show(2:Int) ^ s=((2 ^ s:Nat):Int) by simp,iT,Fj f,vH f (by omega),aU u]
theorem qL {N:Nat} {a b:List Nat} {n m:Nat} {t o t' o':Bool} (U:n=a.length) (V:m=b.length) (v:Ae a) (hb:Ae b) (j:3≤a.length) (f:a.getLast (by intro h;rw[h] at j;simp at j)≠0) (hlb:b.length≤a.length) (x:val b≤val a) (G:fit a.length N) :
  ∃ (a1 a2 l q:Nat) (e:Bool),Aez (val a) (val b) a1 a2 l q e∧a1<18446744073709551616∧a2<18446744073709551616∧l<18446744073709551616∧q<18446744073709551616∧∀ K:LA→O R,Pk N (Aa a) n t o (Aa b) m t' o' K=K (xL a1 a2 l q e):=by
 subst U V
 have h1:=G.1;have h2:=G.2
 obtain⟨k,I⟩:∃ k,a.length=k+3:=⟨a.length - 3,by omega⟩
 have L:a[k+2]'(by omega)≠0:=by
  rw[List.getLast_eq_getElem] at f
  simp only[I] at f
  exact f
 have ak:=Au v (show k+2<a.length by omega)
 obtain⟨s,s1,s2,M,s4⟩:=xI (R:=R) (N:=N) (c:=a[k+2]'(by omega)) (by omega) ak
 have y:a.getD (k+2) 0=a[k+2]'(by omega):=by rw[List.getD_eq_getElem?_getD,List.getElem?_eq_getElem (by omega)];rfl
 have i:b.getD (k+2) 0≤a[k+2]'(by omega):=by
  apply Nat.le_of_not_lt;intro d
  have u:k+2<b.length:=by
   apply Nat.lt_of_not_le;intro C
   rw[List.getD_eq_getElem?_getD,List.getElem?_eq_none C] at d;simp at d
  have D:b.getD (k+2) 0=b[k+2]:=by rw[List.getD_eq_getElem?_getD,List.getElem?_eq_getElem u];rfl
  rw[D] at d
  have x1:=BZ v (n:=k+2) (by omega)
  have x2:=vP u
  have x3:(a[k+2]+1)*4294967296 ^ (k+2)≤b[k+2]*4294967296 ^ (k+2):=Nat.mul_le_mul_right _ d
  rw[Nat.mul_comm] at x2
  omega
 have F:b.getD (k+2) 0*2 ^ s<4294967296:=Nat.lt_of_le_of_lt (Nat.mul_le_mul_right _ i) M
 have hPP:0<4294967296 ^ k*2 ^ (32 - s):=Nat.mul_pos (Nat.pow_pos (by omega)) (Nat.pow_pos (by omega))
 have wa:=fun K=>dL (R:=R) (N:=N) (a:=a) (m:=a.length) (n:=k) (s:=s) (t:=false) (o:=o) (K:=K) rfl v (by omega) s1 (by rw[y];exact M) (by omega)
 have wb:=fun K=>dL (R:=R) (N:=N) (a:=b) (m:=b.length) (n:=k) (s:=s) (t:=false) (o:=o') (K:=K) rfl hb (by omega) s1 F (by omega)
 have hX:=(wa fun _=>none).2
 generalize hP:4294967296 ^ k*2 ^ (32 - s)=P at *
 have hYX:val b/P≤val a/P:=Nat.div_le_div_right x
 have S:∀ z,z/P*P≤z:=fun z=>Nat.div_mul_le_self z P
 have T:∀ z,z<(z/P+1)*P:=fun z=>by
  have:=Nat.div_add_mod z P;have:=Nat.mod_lt z hPP
  rw[Nat.add_mul,Nat.mul_comm];omega
 obtain⟨a1,a2,l,q,e,r1,r2,r3,r4,r5,r6⟩:=yY (R:=R) (N:=N) (X:=val a/P) (Y:=val b/P) (A:=val a) (B:=val b) (P:=P) hX hYX (S _) (T _) (S _) (T _) 128 N (val a/P) (val b/P) 0 1 0 0 0 1 false (by omega) (by
  have:=Nat.mul_lt_mul'' hX (Nat.lt_of_le_of_lt hYX hX)
  exact this) (Lead.init hYX) (.inl rfl) (by omega) (by omega) (by omega) (by omega)
 refine⟨a1,a2,l,q,e,r1,r2,r3,r4,r5,fun K=>?_⟩
 rw[HR];unfold V0
 have w1:IntKind.wrap .i64 (((a.length:Nat):Int) - 1)=((k+2:Nat):Int):=by rw[i64 (by omega)];omega
 rw[w1,Ak (by omega),ct,GA (by omega),s4,show((a.length:Nat):Int)=((k+3:Nat):Int) by rw[I],(wa _).1,(wb _).1]
 exact r6 K
theorem R6 {N:Nat} {a b:List Nat} {n m:Nat} {x y:Nat} {t o t' o':Bool} (v:n=a.length) (z:m=b.length) (i:Ae a) (j:Ae b) (d:x<18446744073709551616) (e:y<18446744073709551616) (f:val b*y≤val a*x) (c:fit (a.length+b.length+4) N) :
  ∃ S,Ae S∧val S=val a*x - val b*y∧∀ K:Nat→LA→O R,Ea N (Aa a) n t o (x:Int) (Aa b) m t' o' (y:Int) K=K (Ac (val a*x - val b*y)).length (Aa S):=by
 subst v z
 have C:=c.1;have D:=c.2
 obtain⟨Sx,x1,x2,x3⟩:=Ha (R:=R) (N:=N) d (by omega)
 obtain⟨Sy,y1,y2,y3⟩:=Ha (R:=R) (N:=N) e (by omega)
 have lx:=R5 d
 have ly:=R5 e
 obtain⟨P1,A,k,l⟩:=VG (R:=R) (N:=N) (a:=a) (b:=Ac x) (t:=false) (o:=o) (t':=false) (o':=true) rfl rfl i (Ab _) (c.le (by omega))
 obtain⟨P2,B,q,s⟩:=VG (R:=R) (N:=N) (a:=b) (b:=Ac y) (t:=false) (o:=o') (t':=false) (o':=true) rfl rfl j (Ab _) (c.le (by omega))
 rw[Ad] at k l q s
 have l1:(Ac (val a*x)).length≤a.length+2:=A4 (by
  have:=Nat.mul_lt_mul'' (Bi i) d
  rw[Nat.pow_add];exact this)
 have l2:(Ac (val b*y)).length≤b.length+2:=A4 (by
  have:=Nat.mul_lt_mul'' (Bi j) e
  rw[Nat.pow_add];exact this)
 obtain⟨S,s1,s2,u⟩:=VF (R:=R) (N:=N) (a:=Ac (val a*x)) (b:=Ac (val b*y)) (t:=false) (o:=true) (t':=false) (o':=true) rfl rfl (Ab _) (Ab _) (c.le (by omega)) (by rw[Ad,Ad];exact f)
 rw[Ad,Ad] at s2 u
 refine⟨S,s1,s2,fun K=>?_⟩
 rw[HW];unfold HV
 have tx:List.take ((Ac x).length*1) (Aa Sx)=Aa (Ac x):=by rw[←x2,H2 x1]
 have ty:List.take ((Ac y).length*1) (Aa Sy)=Aa (Ac y):=by rw[←y2,H2 y1]
 have t1:List.take ((Ac (val a*x)).length*1) (Aa P1)=Aa (Ac (val a*x)):=by rw[←k,H2 A]
 have t2:List.take ((Ac (val b*y)).length*1) (Aa P2)=Aa (Ac (val b*y)):=by rw[←q,H2 B]
 rw[x3,tx,l,y3,ty,s,t1,t2,u]
end
end Gx

namespace Gx
open Go Go.Proofs
section
variable {R:Type}
theorem yZ {N:Nat} (hN:4≤N):∀ (k b x y:Nat),k<b→x*y<2 ^ k→y≤x→x<18446744073709551616→∃ S,Ae S∧val S=Nat.gcd x y∧∀ (d:LA→Nat→Bool→LA→Nat→Bool→O R) (K:Nat→LA→O R),Mi N d K b (x:Int) (y:Int)=K (Ac (Nat.gcd x y)).length (Aa S):=by
 have base:∀ (b x:Nat),x<18446744073709551616→∃ S,Ae S∧val S=Nat.gcd x 0∧∀ (d:LA→Nat→Bool→LA→Nat→Bool→O R) (K:Nat→LA→O R),Mi N d K (b+1) (x:Int) ((0:Nat):Int)=K (Ac (Nat.gcd x 0)).length (Aa S):=by
  intro b x e
  obtain⟨S,s1,s2,i⟩:=Ha (R:=R) (N:=N) e hN
  refine⟨S,s1,by rw[s2,Nat.gcd_zero_right],fun d K=>?_⟩
  rw[Mi];unfold BX
  rw[show(((0:Nat):Int) != 0)=false by rfl,cf,i,Nat.gcd_zero_right]
 intro k
 induction k with
 | zero =>
  intro b x y j c f e
  obtain⟨b,rfl⟩:∃ F,b=F+1:=⟨b - 1,by omega⟩
  have l:y=0:=by
   rcases Nat.eq_zero_or_pos y with h | h
   ·exact h
   ·have q:=Nat.mul_le_mul_left x (show 1≤y by omega)
    rw[Nat.pow_zero] at c;omega
  subst l
  exact base b x e
 | succ k m =>
  intro b x y j c f e
  obtain⟨b,rfl⟩:∃ F,b=F+1:=⟨b - 1,by omega⟩
  rcases Nat.eq_zero_or_pos y with h | h
  ·subst h;exact base b x e
  ·have s:=H' (show 1≤y by omega) f
   have t:=Nat.mod_lt x h
   obtain⟨S,s1,s2,i⟩:=m b y (x%y) (by omega) (by rw[Nat.pow_succ] at c;omega) (by omega) (by omega)
   have n:Nat.gcd y (x%y)=Nat.gcd x y:=by rw[Nat.gcd_comm,←Nat.gcd_rec,Nat.gcd_comm]
   rw[n] at s2 i
   refine⟨S,s1,s2,fun d K=>?_⟩
   rw[Mi];unfold BX
   rw[show((y:Int) != 0)=true by rw[bne_iff_ne];omega,ct,gL (by omega),cf,HZ]
   exact i d K
theorem oT {a b u v s t x y:Nat} (d:x+v*b=u*a) (e:y+s*a=t*b) (c:u*t=v*s+1):t*x+v*y=a∧s*x+u*y=b:=by
 constructor
 ·have f:t*x+t*v*b=t*u*a:=by rw[Nat.mul_assoc,Nat.mul_assoc,←Nat.mul_add,d]
  have i:v*y+v*s*a=v*t*b:=by rw[Nat.mul_assoc,Nat.mul_assoc,←Nat.mul_add,e]
  have j:t*u*a=v*s*a+a:=by rw[Nat.mul_comm t u,c,Nat.add_mul,Nat.one_mul]
  have k:t*v*b=v*t*b:=by rw[Nat.mul_comm t v]
  omega
 ·have f:s*x+s*v*b=s*u*a:=by rw[Nat.mul_assoc,Nat.mul_assoc,←Nat.mul_add,d]
  have i:u*y+u*s*a=u*t*b:=by rw[Nat.mul_assoc,Nat.mul_assoc,←Nat.mul_add,e]
  have j:u*t*b=v*s*b+b:=by rw[c,Nat.add_mul,Nat.one_mul]
  have k:s*u*a=u*s*a:=by rw[Nat.mul_comm s u]
  have l:s*v*b=v*s*b:=by rw[Nat.mul_comm s v]
  omega
theorem oU {A B a b p q r s:Nat} (hA:p*a+q*b=A) (hB:r*a+s*b=B) (c:1≤p) (hq:1≤q) (d:1≤r) (e:b≤a):2*(a*b)≤A*B∧a≤A:=by
 have j:=Nat.mul_le_mul_right a c
 have k:=Nat.mul_le_mul_right b hq
 have l:=Nat.mul_le_mul_right a d
 have f:2*b≤A:=by omega
 have i:a≤B:=by omega
 have:=Nat.mul_le_mul f i
 refine⟨?_,by omega⟩
 rw[Nat.mul_comm a b,←Nat.mul_assoc];exact this
theorem Ady {u0 u1 v0 v1:Nat} {e:Bool}:setCells [(.int .u64 0),(.int .u64 0),(.int .u64 0),(.int .u64 0),(.bool false)] 0 (xL u0 u1 v0 v1 e)=xL u0 u1 v0 v1 e:=rfl
theorem sh {N:Nat}:∀ (k c A B:Nat) (d f:Bool),k<c→A*B<2 ^ k→B≤A→fit (2*(Ac A).length+4) N→∃ S,Ae S∧val S=Nat.gcd A B∧∀ K:Nat→LA→O R,Do N K c (Aa (Ac A)) (Ac A).length d (Aa (Ac B)) (Ac B).length f=K (Ac (Nat.gcd A B)).length (Aa S):=by
 have base:∀ (c A:Nat) (d f:Bool),fit (2*(Ac A).length+4) N→∃ S,Ae S∧val S=Nat.gcd A 0∧∀ K:Nat→LA→O R,Do N K (c+1) (Aa (Ac A)) (Ac A).length d (Aa (Ac 0)) (Ac 0).length f=K (Ac (Nat.gcd A 0)).length (Aa S):=by
  intro c A d f j
  refine⟨Ac A,Ab _,by rw[Ad,Nat.gcd_zero_right],fun K=>?_⟩
  rw[Do];unfold Uj
  rw[Bx,show decide ((((([]:List Nat).length:Nat)):Int)>0)=false by decide,cf,Td rfl (Ab _) (j.le (by omega)),Ad,Nat.gcd_zero_right]
 intro k
 induction k with
 | zero =>
  intro c A B d f U n m j
  obtain⟨c,rfl⟩:∃ F,c=F+1:=⟨c - 1,by omega⟩
  have hy:B=0:=by
   rcases Nat.eq_zero_or_pos B with h | h
   ·exact h
   ·have h3:=Nat.mul_le_mul_left A (show 1≤B by omega)
    rw[Nat.pow_zero] at n;omega
  subst hy
  exact base c A d f j
 | succ k V =>
  intro c A B d f U n m j
  have h1:=j.1;have h2:=j.2
  obtain⟨c,rfl⟩:∃ F,c=F+1:=⟨c - 1,by omega⟩
  rcases Nat.eq_zero_or_pos B with h | h
  ·subst h;exact base c A d f j
  have X:=Al m
  have hbl:(Ac B).length≠0:=fun h0=>by have:=A2.1 h0;omega
  have C:decide ((((Ac B).length:Nat):Int)>0)=true:=by rw[decide_eq_true_eq];omega
  by_cases D:(Ac A).length≤2
  ·have av:=VH D
   obtain⟨S,s1,s2,s⟩:=yZ (R:=R) (N:=N) (by omega) 128 N A B (by omega) (by have:=Nat.mul_lt_mul'' av (Nat.lt_of_le_of_lt m av);exact this) m av
   refine⟨S,s1,s2,fun K=>?_⟩
   rw[Do];unfold Uj
   rw[C,ct,show decide ((((Ac A).length:Nat):Int)≤2)=true by rw[decide_eq_true_eq];omega,ct,Zg rfl (Ab _) D (by omega),Zg rfl (Ab _) (by omega) (by omega),Ad,Ad]
   exact s _ K
  ·have Y:decide ((((Ac A).length:Nat):Int)≤2)=false:=by rw[decide_eq_false_iff_not];omega
   obtain⟨a1,a2,i,l,e,v,r2,r3,r4,r5,r6⟩:=qL (R:=R) (N:=N) (a:=Ac A) (b:=Ac B) (t:=false) (o:=d) (t':=false) (o':=f) rfl rfl (Ab _) (Ab _) (by omega) (iS _ _) X (by rw[Ad,Ad];exact m) (j.le (by omega))
   rw[Ad,Ad] at v
   have start:∀ K:Nat→LA→O R,Do N K (c+1) (Aa (Ac A)) (Ac A).length d (Aa (Ac B)) (Ac B).length f=cond ((i:Int)==0) (De N (Aa (Ac A)) (Ac A).length false d (Aa (Ac B)) (Ac B).length false f (fun bm ag bn bo ar=>(Do N K c (Aa (Ac B)) (Ac B).length f (List.take (ag*1) ar) ag false))) (cond e (Ea N (Aa (Ac A)) (Ac A).length false d (a1:Int) (Aa (Ac B)) (Ac B).length false f (i:Int) (fun ah ax=>Ea N (Aa (Ac B)) (Ac B).length false f (l:Int) (Aa (Ac A)) (Ac A).length false d (a2:Int) (fun ai ba=>(Do N K c (List.take (ah*1) ax) ah false (List.take (ai*1) ba) ai false)))) (Ea N (Aa (Ac B)) (Ac B).length false f (i:Int) (Aa (Ac A)) (Ac A).length false d (a1:Int) (fun aj bd=>Ea N (Aa (Ac A)) (Ac A).length false d (a2:Int) (Aa (Ac B)) (Ac B).length false f (l:Int) (fun ak bg=>(Do N K c (List.take (aj*1) bd) aj false (List.take (ak*1) bg) ak false))))):=by
    intro K
    rw[Do];unfold Uj
    rw[C,ct,Y,cf,r6,Ady]
    rfl
   by_cases u:i=0
   ·obtain⟨Sq,Sr,q1,q2,q3,q4,q5⟩:=V7 (R:=R) (N:=N) (a:=Ac A) (b:=Ac B) (t:=false) (o:=d) (t':=false) (o':=f) rfl rfl (Ab _) (Ab _) (by rw[Ad];omega) (j.le (by omega))
    rw[Ad,Ad] at q2 q4 q5
    have hm:=Nat.mod_lt A h
    have hh:=H' (show 1≤B by omega) m
    obtain⟨S,s1,s2,s⟩:=V c B (A%B) f false (by omega) (by rw[Nat.pow_succ] at n;omega) (by omega) (j.le (by omega))
    have z:Nat.gcd B (A%B)=Nat.gcd A B:=by rw[Nat.gcd_comm,←Nat.gcd_rec,Nat.gcd_comm]
    rw[z] at s2 s
    refine⟨S,s1,s2,fun K=>?_⟩
    have tk:List.take ((Ac (A%B)).length*1) (Aa Sr)=Aa (Ac (A%B)):=by rw[←q4,H2 q3]
    rw[start,Afp u,ct,q5,tk,s]
   ·rcases v with v | ⟨p1,p2,v⟩
    ·exact absurd v u
    cases e with
    | true =>
     obtain⟨c1,c2,c3,G⟩:=v
     obtain⟨S1,t1,t2,t3⟩:=R6 (R:=R) (N:=N) (a:=Ac A) (b:=Ac B) (x:=a1) (y:=i) (t:=false) (o:=d) (t':=false) (o':=f) rfl rfl (Ab _) (Ab _) r2 r4 (by rw[Ad,Ad,Nat.mul_comm,Nat.mul_comm A];exact c1) (j.le (by omega))
     obtain⟨S2,w1,I,L⟩:=R6 (R:=R) (N:=N) (a:=Ac B) (b:=Ac A) (x:=l) (y:=a2) (t:=false) (o:=f) (t':=false) (o':=d) rfl rfl (Ab _) (Ab _) r5 r3 (by rw[Ad,Ad,Nat.mul_comm,Nat.mul_comm B];exact c2) (j.le (by omega))
     rw[Ad,Ad] at t2 t3 I L
     have M:(A*a1 - B*i)+i*B=a1*A:=by rw[Nat.mul_comm A,Nat.mul_comm B];omega
     have T:(B*l - A*a2)+a2*A=l*B:=by rw[Nat.mul_comm A,Nat.mul_comm B];omega
     have q:B*l - A*a2≤A*a1 - B*i:=by rw[Nat.add_mul,Nat.add_mul] at c3;omega
     obtain⟨i1,i2⟩:=oT M T G
     have z:=sQ M T G
     obtain⟨i3,i4⟩:=oU i1 i2 p2 (by omega) p1 q
     have hl:=Al i4
     obtain⟨S,s1,s2,s⟩:=V c (A*a1 - B*i) (B*l - A*a2) false false (by omega) (by rw[Nat.pow_succ] at n;omega) q (j.le (by omega))
     rw[z] at s2 s
     refine⟨S,s1,s2,fun K=>?_⟩
     have tk1:List.take ((Ac (A*a1 - B*i)).length*1) (Aa S1)=Aa (Ac (A*a1 - B*i)):=by rw[←t2,H2 t1]
     have SH:List.take ((Ac (B*l - A*a2)).length*1) (Aa S2)=Aa (Ac (B*l - A*a2)):=by rw[←I,H2 w1]
     rw[start,gL u,cf,ct,t3,L,tk1,SH,s]
    | false =>
     obtain⟨c1,c2,c3,G⟩:=v
     obtain⟨S1,t1,t2,t3⟩:=R6 (R:=R) (N:=N) (a:=Ac B) (b:=Ac A) (x:=i) (y:=a1) (t:=false) (o:=f) (t':=false) (o':=d) rfl rfl (Ab _) (Ab _) r4 r2 (by rw[Ad,Ad,Nat.mul_comm,Nat.mul_comm B];exact c1) (j.le (by omega))
     obtain⟨S2,w1,I,L⟩:=R6 (R:=R) (N:=N) (a:=Ac A) (b:=Ac B) (x:=a2) (y:=l) (t:=false) (o:=d) (t':=false) (o':=f) rfl rfl (Ab _) (Ab _) r3 r5 (by rw[Ad,Ad,Nat.mul_comm,Nat.mul_comm A];exact c2) (j.le (by omega))
     rw[Ad,Ad] at t2 t3 I L
     have M:(B*i - A*a1)+a1*A=i*B:=by rw[Nat.mul_comm A,Nat.mul_comm B];omega
     have T:(A*a2 - B*l)+l*B=a2*A:=by rw[Nat.mul_comm A,Nat.mul_comm B];omega
     have q:A*a2 - B*l≤B*i - A*a1:=by rw[Nat.add_mul,Nat.add_mul] at c3;omega
     obtain⟨i1,i2⟩:=oT T M G
     have z:=sQ T M G
     rw[Nat.gcd_comm] at z
     rw[Nat.add_comm] at i1 i2
     obtain⟨i3,i4⟩:=oU i1 i2 p2 (by omega) p1 q
     have hl:=Al i4
     obtain⟨S,s1,s2,s⟩:=V c (B*i - A*a1) (A*a2 - B*l) false false (by omega) (by rw[Nat.pow_succ] at n;omega) q (j.le (by omega))
     rw[z] at s2 s
     refine⟨S,s1,s2,fun K=>?_⟩
     have tk1:List.take ((Ac (B*i - A*a1)).length*1) (Aa S1)=Aa (Ac (B*i - A*a1)):=by rw[←t2,H2 t1]
     have SH:List.take ((Ac (A*a2 - B*l)).length*1) (Aa S2)=Aa (Ac (A*a2 - B*l)):=by rw[←I,H2 w1]
     rw[start,gL u,cf,cf,t3,L,tk1,SH,s]
theorem si (n m:Nat):4294967296 ^ n*4294967296 ^ m=2 ^ (32*(n+m)):=by
 rw[←Nat.pow_add,show(4294967296:Nat)=2 ^ 32 by rfl,←Nat.pow_mul]
theorem Aav {N:Nat} {a b:List Nat} {n m:Nat} {t o t' o':Bool} (k:n=a.length) (l:m=b.length) (f:Ae a) (i:Ae b) (d:fit (2*(a.length+b.length)+4) N) :
  ∃ S,Ae S∧val S=Nat.gcd (val a) (val b)∧∀ K:Nat→LA→O R,HY N (Aa a) n t o (Aa b) m t' o' K=K (Ac (Nat.gcd (val a) (val b))).length (Aa S):=by
 have q:=d.1;have s:=d.2
 have la:=(Az f).2
 have lb:=(Az i).2
 have c:val a*val b<2 ^ (32*(a.length+b.length)):=by rw[←si];exact Nat.mul_lt_mul'' (Bi f) (Bi i)
 have start:∀ K:Nat→LA→O R,HY N (Aa a) n t o (Aa b) m t' o' K=cond (decide (Fn (val a) (val b)<0)) (Do N K N (Aa (Ac (val b))) (Ac (val b)).length o' (Aa (Ac (val a))) (Ac (val a)).length o) (Do N K N (Aa (Ac (val a))) (Ac (val a)).length o (Aa (Ac (val b))) (Ac (val b)).length o'):=by
  intro K
  rw[jL];unfold gM MA SG
  dsimp only
  rw[Bj k f (d.le (by omega)),Bj l i (d.le (by omega)),Tc rfl rfl (Ab _) (Ab _) (d.le (by omega)),Ad,Ad]
 by_cases e:val a<val b
 ·obtain⟨S,s1,s2,j⟩:=sh (R:=R) (N:=N) (32*(a.length+b.length)) N (val b) (val a) o' o (by omega) (by rw[Nat.mul_comm];exact c) (by omega) (d.le (by omega))
  rw[Nat.gcd_comm] at s2
  refine⟨S,s1,s2,fun K=>?_⟩
  rw[start,show decide (Fn (val a) (val b)<0)=true by (unfold Fn;rw[if_pos e];rfl),ct,j,Nat.gcd_comm]
 ·obtain⟨S,s1,s2,j⟩:=sh (R:=R) (N:=N) (32*(a.length+b.length)) N (val a) (val b) o o' (by omega) c (by omega) (d.le (by omega))
  refine⟨S,s1,s2,fun K=>?_⟩
  rw[start,show decide (Fn (val a) (val b)<0)=false by (unfold Fn;rw[if_neg e];split<;>rfl),cf,j]
end
end Gx

namespace Gx
open Go Go.Proofs
open IntKind (wrap)
set_option maxRecDepth 100000
noncomputable section
variable {R:Type} (N:Nat)
def SI (d:LA) (f:Bool) (g:LA) (i:Nat) (m l:Bool) (r0:LA→O R):O R :=
 (Qc d fun v=>(Ir 1 (d.drop 1) fun w x=>(cond (Nat.beq (d.length) 2) (VB N [(.bool v),(.imm w x 1 false f)] (f||false) (fun q c o=>(Nj N g i false l (fun e p=>(cond (((c:Nat):Int)==0) (r0 [(.bool false),.nsl,(.imm [(.int .u32 1)] 1 1 false false)]) (HY N (o.take (c*1)) c false true (p.take (e*1)) e false true (fun b n=>(cond ((((b:Nat):Int) != 1)==false) (cond (Ap 0 b) (Gb .u32 n fun y=>(cond (cond false true (y != 1)) (De N (o.take (c*1)) c false true (n.take (b*1)) b false true (fun r ae af z ag=>(De N (p.take (e*1)) e false true (n.take (b*1)) b false true (fun s ah ai aa aj=>(r0 [(.bool q),(.imm (z.take (r*1)) r 1 false false),(.imm (aa.take (s*1)) s 1 false false)]))))) (r0 [(.bool q),(.imm (o.take (c*1)) c 1 false false),(.imm (p.take (e*1)) e 1 false false)]))) none) (De N (o.take (c*1)) c false true (n.take (b*1)) b false true (fun t ak al ab am=>(De N (p.take (e*1)) e false true (n.take (b*1)) b false true (fun u an ao ac ap=>(r0 [(.bool q),(.imm (ab.take (t*1)) t 1 false false),(.imm (ac.take (u*1)) u 1 false false)]))))))))))))) none)))
def Po:=(Ag (@SI R)).1
theorem OI:@Po R=@SI R:=(Ag _).2
def qM:Hints:={ H:=hL,modes:=[(3,0)],cob:=[2] }
def sj:Dx:=[(211,vN N),(212,Pf N),(213,yV N),(134,BV N)]
def VU (F:KF R):LA→O R:=(fun ad=>F (.pagg ad false) [])
theorem VV (d:LA) (f:Bool) (g:LA) (i:Nat) (m l:Bool) (F:KF R):Cq (sj N) qM N 129 [(.pagg d f),(.imm g i 1 m l)] [] F=(Po N d f g i m l (VU F)):=by
 rw[OI]
 kernel_rfl
def OJ (a:LA) (h:Ah) (k:KF R):O R :=
 match a,h with
 | [(.pagg d f),(.imm g i 1 m l)],[]=>(Po N d f g i m l (VU k))
 | _,_=>none
theorem VW:Ao N 129 @OJ:=by
 intro R Q a h k j;unfold OJ;split;exact Av (VV ..) (VV ..) ⟨vO N,Pg N,yW N,BW N,trivial⟩;exact Ax
def VX:=Aw (VW N)
def VY:=Cr (VW N)
def VZ (b:LA) (c:Bool) (r0:LA→O R):O R :=
 (cond (Nat.ble 3 (b.length)) (K3 N (b.take 3) c (fun f g i=>(cond i (Gs N f g (fun d=>(cond ((Nat.beq 0 0)&&((Nat.beq (d.length) 3)&&(Nat.beq 3 3))) (cond (Nat.ble 3 (d.length)) (r0 (d.take 3)) none) none))) (cond (Nat.ble 3 (b.length)) (Qe N (b.take 3) c (fun l m n o p=>(Po N l m n o false p (fun e=>(cond ((Nat.beq 0 0)&&((Nat.beq (e.length) 3)&&(Nat.beq 3 3))) (cond (Nat.ble 3 (e.length)) (r0 (e.take 3)) none) none))))) none)))) none)
def B_:=(Ag (@VZ R)).1
theorem IA:@B_ R=@VZ R:=(Ag _).2
def y4:Dx:=[(127,dD N),(128,HM N),(130,HO N),(129,VX N)]
def jP (F:KF R):LA→O R:=(fun q=>F (.pagg q false) [])
theorem jQ (b:LA) (c:Bool) (F:KF R):Cq (y4 N) I0 N 62 [(.pagg b c)] [] F=(B_ N b c (jP F)):=by
 rw[IA]
 kernel_rfl
def dM (a:LA) (h:Ah) (k:KF R):O R :=
 match a,h with
 | [(.pagg b c)],[]=>(B_ N b c (jP k))
 | _,_=>none
theorem jR:Ao N 62 @dM:=by
 intro R Q a h k j;unfold dM;split;exact Av (jQ ..) (jQ ..) ⟨dE N,HN N,HP N,VY N,trivial⟩;exact Ax
def SK:=Aw (jR N)
def SL:=Cr (jR N)
def qN (c:LA) (e:Bool) (d:LA) (b:Bool) (r0:LA→Bool→O R):O R :=
 (Qc c fun m=>(Ir 1 (c.drop 1) fun n o=>(cond (Nat.beq (c.length) 2) (Qc d fun g=>(Ir 1 (d.drop 1) fun i l=>(cond (Nat.beq (d.length) 2) (Ij N [(.bool g),(.imm i l 1 false b)] (b||false) (fun p=>(cond (p==0) (r0 [(.bool false),.nsl,.nsl] false) (B_ N [(.bool (!(m==g))),(.imm n o 1 false e),(.imm i l 1 false b)] (e||(b||false)) (fun f=>(cond ((Nat.beq 0 0)&&((Nat.beq (f.length) 3)&&(Nat.beq 3 3))) (cond (Nat.ble 3 (f.length)) (r0 (f.take 3) true) none) none)))))) none))) none)))
def jS:=(Ag (@qN R)).1
theorem jT:@jS R=@qN R:=(Ag _).2
def y5:Hints:={ H:=hL,modes:=[(3,0),(0,0)],cob:=[2,3] }
def Aaw:Dx:=[(125,T5 N),(62,SK N)]
def oV (F:KF R):LA→Bool→O R:=(fun q r=>F (.tup [(.pagg q false),(.bool r)]) [])
theorem oW (c:LA) (e:Bool) (d:LA) (b:Bool) (F:KF R):Cq (Aaw N) y5 N 82 [(.pagg c e),(.pagg d b)] [] F=(jS N c e d b (oV F)):=by
 rw[jT]
 kernel_rfl
def jU (a:LA) (h:Ah) (k:KF R):O R :=
 match a,h with
 | [(.pagg c e),(.pagg d b)],[]=>(jS N c e d b (oV k))
 | _,_=>none
theorem oX:Ao N 82 @jU:=by
 intro R Q a h k j;unfold jU;split;exact Av (oW ..) (oW ..) ⟨T6 N,SL N,trivial⟩;exact Ax
def y6:=Aw (oX N)
def y7:=Cr (oX N)
def R7 (N:Nat) (r0:Nat→LA→O R) (d:LA) (c:Nat) (f e:Bool) (k0:Int→O R) (b:Int):O R :=
 (cond ((decide (b>0))==true) (cond (Ap (wrap .i64 (b - 1)) c) (Gb .u32 (d.drop (((wrap .i64 (b - 1)).toNat)*1)) fun g=>(cond (cond true (g==0) false) (k0 (wrap .i64 (b - 1))) (cond ((decide ((0:Int)≤(0:Int)))&&((decide (0≤b))&&((decide (b≤((c:Nat):Int)))&&(decide (((c:Nat):Int)≤((c:Nat):Int)))))) (cond ((!e)||(Cz (d.take ((b.toNat)*1)))) (cond ((Nat.ble (0+(b.toNat)) 140737488355328)&&(Nat.ble ((0+(b.toNat))*4) 140737488355328)) (r0 (0+(b.toNat)) (d.take ((b.toNat)*1))) none) none) none))) none) (cond ((decide ((0:Int)≤(0:Int)))&&((decide (0≤b))&&((decide (b≤((c:Nat):Int)))&&(decide (((c:Nat):Int)≤((c:Nat):Int)))))) (cond ((!e)||(Cz (d.take ((b.toNat)*1)))) (cond ((Nat.ble (0+(b.toNat)) 140737488355328)&&(Nat.ble ((0+(b.toNat))*4) 140737488355328)) (r0 (0+(b.toNat)) (d.take ((b.toNat)*1))) none) none) none))
def I6 (r0:Nat→LA→O R) (d:LA) (c:Nat) (f e:Bool):Nat→Int→O R
 | 0,_=>none
 | n+1,b=>(R7 N r0 d c f e (I6 r0 d c f e n) b)
def Zu (N:Nat) (r0:Nat→LA→O R) (q0:Int→O R) (d:LA) (c:Nat) (f e:Bool):O R :=
 (q0 ((c:Nat):Int))
def Co:=(Ag (fun (N:Nat) (d:LA) (c:Nat) (f e:Bool) (r0:Nat→LA→O R)=>(Zu N r0 (fun b=>(I6 N r0 d c f e N b)) d c f e))).1
theorem B' (d c f e r0):(@Co R N d c f e r0)=(Zu N r0 (fun b=>(I6 N r0 d c f e N b)) d c f e):=by rw[Co,(Ag _).2]
def sk (F:KF R):=S6 Tryz.f150 ck [] [] N F
def Qf (F:KF R):Nat→LA→O R:=(fun i l=>F (.own 300000 0 i) (hq [(bQ 1 l)]))
def sm (d:LA) (c:Nat) (f e:Bool) (b:Int):St:=⟨[(0,(.imm d c 1 f e)),(3,(iv b))],[]⟩
def sn (F:KF R):=sk N F [1,1,0,0] []
theorem IB (F:KF R) (d:LA) (c:Nat) (f e:Bool):∀ (n:Nat) (b:Int),Ay (sn N F) n (sm d c f e b)=(I6 N (Qf F) d c f e n b)
 | 0,_=>by kernel_rfl
 | n+1,b=>Eq.trans (by kernel_rfl) (El (R7 N (Qf F) d c f e · b) (funext fun b=>(IB F d c f e n b)):_)
theorem dN (d:LA) (c:Nat) (f e:Bool) (F:KF R):Cq [] ck N 150 [(.imm d c 1 f e)] [] F=(Co N d c f e (Qf F)):=by
 rw[B']
 exact Eq.trans (by kernel_rfl) (El (Zu N (Qf F) · d c f e) (funext fun b=>(At ..).trans (IB N F d c f e N b)):_)
def V_ (a:LA) (h:Ah) (k:KF R):O R :=
 match a,h with
 | [(.imm d c 1 f e)],[]=>(Co N d c f e (Qf k))
 | _,_=>none
theorem dO:Ao N 150 @V_:=by
 intro R Q a h k j;unfold V_;split;exact Av (dN ..) (dN ..) trivial;exact Ax
def Em:=Aw (dO N)
def En:=Cr (dO N)
def Q5 (b:Int) (r0:Nat→LA→O R):O R :=
 (Co N [(.int .u32 (wrap .u32 b)),(.int .u32 (wrap .u32 (Int.fdiv b (2 ^ 32))))] 2 false true (fun c d=>(r0 c d)))
def Dz:=(Ag (@Q5 R)).1
theorem Uk:@Dz R=@Q5 R:=(Ag _).2
def bT:Dx:=[(150,Em N)]
def V8 (F:KF R):Nat→LA→O R:=(fun e f=>F (.own 300000 0 e) (hq [(bQ 1 f)]))
theorem V9 (b:Int) (F:KF R):Cq (bT N) Aaa N 88 [(.int .u64 b)] [] F=(Dz N b (V8 F)):=by
 rw[Uk]
 kernel_rfl
def Ul (a:LA) (h:Ah) (k:KF R):O R :=
 match a,h with
 | [(.int .u64 b)],[]=>(Dz N b (V8 k))
 | _,_=>none
theorem Wa:Ao N 88 @Ul:=by
 intro R Q a h k j;unfold Ul;split;exact Av (V9 ..) (V9 ..) ⟨En N,trivial⟩;exact Ax
def Wb:=Aw (Wa N)
def Wc:=Cr (Wa N)
def bU (b:Bool) (c:LA) (d:Nat) (f e:Bool) (r0:LA→O R):O R :=
 (Co N c d false e (fun g i=>(cond (b==true) (r0 [(.bool (cond true (decide (((g:Nat):Int)>0)) false)),(.imm (i.take (g*1)) g 1 false false)]) (r0 [(.bool false),(.imm (i.take (g*1)) g 1 false false)]))))
def Ef:=(Ag (@bU R)).1
theorem V':@Ef R=@bU R:=(Ag _).2
def vS:Dx:=[(150,Em N)]
def dP (F:KF R):LA→O R:=(fun l=>F (.pagg l false) [])
theorem dQ (b:Bool) (c:LA) (d:Nat) (f e:Bool) (F:KF R):Cq (vS N) I0 N 83 [(.bool b),(.imm c d 1 f e)] [] F=(Ef N b c d f e (dP F)):=by
 rw[V']
 kernel_rfl
def WA (a:LA) (h:Ah) (k:KF R):O R :=
 match a,h with
 | [(.bool b),(.imm c d 1 f e)],[]=>(Ef N b c d f e (dP k))
 | _,_=>none
theorem dR:Ao N 83 @WA:=by
 intro R Q a h k j;unfold WA;split;exact Av (dQ ..) (dQ ..) ⟨En N,trivial⟩;exact Ax
def Gu:=Aw (dR N)
def Gv:=Cr (dR N)
def CA (b:Int) (r0:LA→O R):O R :=
 (cond (decide (b<0)) (Dz N (wrap .u64 ((wrap .u64 (wrap .i64 ((0:Int) - (wrap .i64 (b+1)))))+1)) (fun e g=>(Ef N true (g.take (e*1)) e false true (fun c=>(cond ((Nat.beq 0 0)&&((Nat.beq (c.length) 2)&&(Nat.beq 2 2))) (cond (Nat.ble 2 (c.length)) (r0 (c.take 2)) none) none))))) (Dz N (wrap .u64 b) (fun f i=>(Ef N false (i.take (f*1)) f false true (fun d=>(cond ((Nat.beq 0 0)&&((Nat.beq (d.length) 2)&&(Nat.beq 2 2))) (cond (Nat.ble 2 (d.length)) (r0 (d.take 2)) none) none))))))
def A8:=(Ag (@CA R)).1
theorem EL:@A8 R=@CA R:=(Ag _).2
def m8:Dx:=[(88,Wb N),(83,Gu N)]
def IC (F:KF R):LA→O R:=(fun l=>F (.pagg l false) [])
theorem ID (b:Int) (F:KF R):Cq (m8 N) I0 N 32 [(iv b)] [] F=(A8 N b (IC F)):=by
 rw[EL]
 kernel_rfl
def EM (a:LA) (h:Ah) (k:KF R):O R :=
 match a,h with
 | [(.int .i64 b)],[]=>(A8 N b (IC k))
 | _,_=>none
theorem IE:Ao N 32 @EM:=by
 intro R Q a h k j;unfold EM;split;exact Av (ID ..) (ID ..) ⟨Wc N,Gv N,trivial⟩;exact Ax
def C5:=Aw (IE N)
def C6:=Cr (IE N)
def bV (b:LA) (c:Bool) (r0:LA→O R):O R :=
 (Qc b fun e=>(Ir 1 (b.drop 1) fun f g=>(Ef N e f g false c (fun d=>(cond ((Nat.beq 0 0)&&((Nat.beq (d.length) 2)&&(Nat.beq 2 2))) (cond (Nat.ble 2 (d.length)) (r0 (d.take 2)) none) none)))))
def E3:=(Ag (@bV R)).1
theorem WB:@E3 R=@bV R:=(Ag _).2
def vT:Dx:=[(83,Gu N)]
def dS (F:KF R):LA→O R:=(fun i=>F (.pagg i false) [])
theorem dT (b:LA) (c:Bool) (F:KF R):Cq (vT N) I0 N 26 [(.pagg b c)] [] F=(E3 N b c (dS F)):=by
 rw[WB]
 kernel_rfl
def WC (a:LA) (h:Ah) (k:KF R):O R :=
 match a,h with
 | [(.pagg b c)],[]=>(E3 N b c (dS k))
 | _,_=>none
theorem dU:Ao N 26 @WC:=by
 intro R Q a h k j;unfold WC;split;exact Av (dT ..) (dT ..) ⟨Gv N,trivial⟩;exact Ax
def Mj:=Aw (dU N)
def Mk:=Cr (dU N)
def bW (b:LA) (c:Bool) (r0:Int→O R):O R :=
 (cond (Nat.ble 2 (b.length)) (E3 N (b.take 2) c (fun d=>(cond ((Nat.beq (d.length) 2)&&((Nat.ble 2 (b.length))&&(!false))) (Qc (setCells b 0 d) fun e=>(cond e (r0 (-1)) (Ir 1 ((setCells b 0 d).drop 1) fun i f=>(cond (((f:Nat):Int)==0) (r0 0) (r0 1))))) none))) none)
def Gl:=(Ag (@bW R)).1
theorem WD:@Gl R=@bW R:=(Ag _).2
def vU:Dx:=[(26,Mj N)]
def dV (F:KF R):Int→O R:=(fun g=>F (iv g) [])
theorem dW (b:LA) (c:Bool) (F:KF R):Cq (vU N) Cn N 138 [(.pagg b c)] [] F=(Gl N b c (dV F)):=by
 rw[WD]
 kernel_rfl
def WE (a:LA) (h:Ah) (k:KF R):O R :=
 match a,h with
 | [(.pagg b c)],[]=>(Gl N b c (dV k))
 | _,_=>none
theorem dX:Ao N 138 @WE:=by
 intro R Q a h k j;unfold WE;split;exact Av (dW ..) (dW ..) ⟨Mk N,trivial⟩;exact Ax
def Qg:=Aw (dX N)
def Qh:=Cr (dX N)
def bX (N:Nat) (r0:LA→O R):O R :=
 (r0 [(.bool false),(.imm [] 0 1 false false),(.imm [(.int .u32 1)] 1 1 false false)])
def IF:=(Ag (@bX R)).1
theorem WF:@IF R=@bX R:=(Ag _).2
def dY (F:KF R):LA→O R:=(fun b=>F (.pagg b false) [])
theorem dZ (F:KF R):Cq [] I0 N 151 [] [] F=(IF N (dY F)):=by
 rw[WF]
 kernel_rfl
def WG (a:LA) (h:Ah) (k:KF R):O R :=
 match a,h with
 | [],[]=>(IF N (dY k))
 | _,_=>none
theorem d5:Ao N 151 @WG:=by
 intro R Q a h k j;unfold WG;split;exact Av (dZ ..) (dZ ..) trivial;exact Ax
def sr:=Aw (d5 N)
def su:=Cr (d5 N)
def P6 (N:Nat) (r0:Bool→O R) (d:LA) (b:Nat) (f g:Bool) (e:LA) (c:Nat) (i l:Bool) (k0:Int→O R) (m:Int):O R :=
 (cond (decide (m<((b:Nat):Int))) (cond (Ap m b) (Gb .u32 (d.drop ((m.toNat)*1)) fun o=>(cond (Ap m c) (Gb .u32 (e.drop ((m.toNat)*1)) fun p=>(cond (o != p) (r0 false) (k0 (wrap .i64 (m+1))))) none)) none) (r0 true))
def He (r0:Bool→O R) (d:LA) (b:Nat) (f g:Bool) (e:LA) (c:Nat) (i l:Bool):Nat→Int→O R
 | 0,_=>none
 | n+1,m=>(P6 N r0 d b f g e c i l (He r0 d b f g e c i l n) m)
def CB (N:Nat) (r0:Bool→O R) (q0:Int→O R) (d:LA) (b:Nat) (f g:Bool) (e:LA) (c:Nat) (i l:Bool):O R :=
 (cond (((b:Nat):Int) != ((c:Nat):Int)) (r0 false) (q0 0))
def H6:=(Ag (fun (N:Nat) (d:LA) (b:Nat) (f g:Bool) (e:LA) (c:Nat) (i l:Bool) (r0:Bool→O R)=>(CB N r0 (fun m=>(He N r0 d b f g e c i l N m)) d b f g e c i l))).1
theorem OK (d b f g e c i l r0):(@H6 R N d b f g e c i l r0)=(CB N r0 (fun m=>(He N r0 d b f g e c i l N m)) d b f g e c i l):=by rw[H6,(Ag _).2]
def WH:Hints:={ H:=(hS hL (hS hL (hS (hS hL (hS (hP [0,1,5] hL) hL)) hL))) }
def qO (F:KF R):=S6 Tryz.f65 WH [] [] N F
def Nr (F:KF R):Bool→O R:=(fun q=>F (.bool q) [])
def qP (d:LA) (b:Nat) (f g:Bool) (e:LA) (c:Nat) (i l:Bool) (m:Int):St:=⟨[(0,(.imm d b 1 f g)),(1,(.imm e c 1 i l)),(5,(iv m))],[]⟩
def qQ (F:KF R):=qO N F [1,1,0,1,0] []
theorem EN (F:KF R) (d:LA) (b:Nat) (f g:Bool) (e:LA) (c:Nat) (i l:Bool):∀ (n:Nat) (m:Int),Ay (qQ N F) n (qP d b f g e c i l m)=(He N (Nr F) d b f g e c i l n m)
 | 0,_=>by kernel_rfl
 | n+1,m=>Eq.trans (by kernel_rfl) (El (P6 N (Nr F) d b f g e c i l · m) (funext fun m=>(EN F d b f g e c i l n m)):_)
theorem WI (d:LA) (b:Nat) (f g:Bool) (e:LA) (c:Nat) (i l:Bool) (F:KF R):Cq [] WH N 65 [(.imm d b 1 f g),(.imm e c 1 i l)] [] F=(H6 N d b f g e c i l (Nr F)):=by
 rw[OK]
 exact Eq.trans (by kernel_rfl) (El (CB N (Nr F) · d b f g e c i l) (funext fun m=>(At ..).trans (EN N F d b f g e c i l N m)):_)
def OL (a:LA) (h:Ah) (k:KF R):O R :=
 match a,h with
 | [(.imm d b 1 f g),(.imm e c 1 i l)],[]=>(H6 N d b f g e c i l (Nr k))
 | _,_=>none
theorem WJ:Ao N 65 @OL:=by
 intro R Q a h k j;unfold OL;split;exact Av (WI ..) (WI ..) trivial;exact Ax
def Ns:=Aw (WJ N)
def Nt:=Cr (WJ N)
def D0 (N:Nat) (r0:Int→Bool→O R) (b:Nat) (d:LA) (k0:Int→Int→O R) (e c:Int):O R :=
 (cond (decide (c≥0)) (cond (Ap c b) (Gb .u32 (d.drop (0+((c.toNat)*1))) fun m=>(k0 (Me .u64 (wrap .u64 (e*2 ^ 32)) (wrap .u64 m)) (wrap .i64 (c - 1)))) none) (r0 e true))
def C3 (r0:Int→Bool→O R) (b:Nat) (d:LA):Nat→Int→Int→O R
 | 0,_,_=>none
 | n+1,e,c=>(D0 N r0 b d (C3 r0 b d n) e c)
def Wd (r0:Int→Bool→O R) (q0:Nat→LA→Int→Int→O R) (f:LA) (g:Nat) (l i:Bool):O R :=
 (Co N f g false i (fun b d=>(cond (decide (((b:Nat):Int)>2)) (r0 0 false) (q0 b d 0 (wrap .i64 (((b:Nat):Int) - 1))))))
def E4:=(Ag (fun (N:Nat) (f:LA) (g:Nat) (l i:Bool) (r0:Int→Bool→O R)=>(Wd N r0 (fun b d e c=>(C3 N r0 b d N e c)) f g l i))).1
theorem IG (f g l i r0):(@E4 R N f g l i r0)=(Wd N r0 (fun b d e c=>(C3 N r0 b d N e c)) f g l i):=by rw[E4,(Ag _).2]
def OM:Hints:={ H:=(hS hL (hS hL (hS hL (hS hL (hS (hS hL (hS (hP [0,4,5] hL) hL)) hL))))) }
def WK:Dx:=[(150,Em N)]
def m_ (F:KF R):=S6 Tryz.f89 OM (WK N) [] N F
def K5 (F:KF R):Int→Bool→O R:=(fun o p=>F (.tup [(.int .u64 o),(.bool p)]) [])
def ma (b:Nat) (d:LA) (e c:Int):St:=⟨[(0,(.own 300000 0 b)),(4,(.int .u64 e)),(5,(iv c))],(hq [(bQ 1 d)])⟩
def mb (F:KF R):=m_ N F [1,1,1,1,0,1,0] []
theorem Zv (F:KF R) (b:Nat) (d:LA):∀ (n:Nat) (e c:Int),Ay (mb N F) n (ma b d e c)=(C3 N (K5 F) b d n e c)
 | 0,_,_=>by kernel_rfl
 | n+1,e,c=>Eq.trans (by kernel_rfl) (El (D0 N (K5 F) b d · e c) (funext fun e=>funext fun c=>(Zv F b d n e c)):_)
theorem ON (f:LA) (g:Nat) (l i:Bool) (F:KF R):Cq (WK N) OM N 89 [(.imm f g 1 l i)] [] F=(E4 N f g l i (K5 F)):=by
 rw[IG]
 exact Eq.trans (by kernel_rfl) (El (Wd N (K5 F) · f g l i) (funext fun b=>funext fun d=>funext fun e=>funext fun c=>(At ..).trans (Zv N F b d N e c)):_)
def IH (a:LA) (h:Ah) (k:KF R):O R :=
 match a,h with
 | [(.imm f g 1 l i)],[]=>(E4 N f g l i (K5 k))
 | _,_=>none
theorem OO:Ao N 89 @IH:=by
 intro R Q a h k j;unfold IH;split;exact Av (ON ..) (ON ..) ⟨En N,trivial⟩;exact Ax
def Xm:=Aw (OO N)
def Xn:=Cr (OO N)
def Nu (N:Nat) (r0:Int→O R) (k0:Int→Int→O R) (b c:Int):O R :=
 (cond (decide (c>0)) (k0 (wrap .i64 (b+1)) (Int.fdiv c (2 ^ 1))) (r0 b))
def Gw (r0:Int→O R):Nat→Int→Int→O R
 | 0,_,_=>none
 | n+1,b,c=>(Nu N r0 (Gw r0 n) b c)
def Zw (r0:Int→O R) (q0:Int→Int→O R) (d:LA) (e:Nat) (g f:Bool):O R :=
 (Co N d e false f (fun i l=>(cond (((i:Nat):Int)==0) (r0 0) (cond (Ap (wrap .i64 (((i:Nat):Int) - 1)) i) (Gb .u32 (l.drop (0+(((wrap .i64 (((i:Nat):Int) - 1)).toNat)*1))) fun m=>(q0 (wrap .i64 (32*(wrap .i64 (((i:Nat):Int) - 1)))) m)) none))))
def Zx:=(Ag (fun (N:Nat) (d:LA) (e:Nat) (g f:Bool) (r0:Int→O R)=>(Zw N r0 (fun b c=>(Gw N r0 N b c)) d e g f))).1
theorem CC (d e g f r0):(@Zx R N d e g f r0)=(Zw N r0 (fun b c=>(Gw N r0 N b c)) d e g f):=by rw[Zx,(Ag _).2]
def d6:Hints:={ H:=(hS hL (hS hL (hS hL (hS hL (hS (hS hL (hS (hP [3,4] hL) hL)) hL))))) }
def jV:Dx:=[(150,Em N)]
def sv (F:KF R):=S6 Tryz.f206 d6 (jV N) [] N F
def Qi (F:KF R):Int→O R:=(fun o=>F (iv o) [])
def sw (b c:Int):St:=⟨[(3,(iv b)),(4,(.int .u32 c))],[]⟩
def sx (F:KF R):=sv N F [1,1,1,1,0,1,0] []
theorem II (F:KF R):∀ (n:Nat) (b c:Int),Ay (sx N F) n (sw b c)=(Gw N (Qi F) n b c)
 | 0,_,_=>by kernel_rfl
 | n+1,b,c=>Eq.trans (by kernel_rfl) (El (Nu N (Qi F) · b c) (funext fun b=>funext fun c=>(II F n b c)):_)
theorem d7 (d:LA) (e:Nat) (g f:Bool) (F:KF R):Cq (jV N) d6 N 206 [(.imm d e 1 g f)] [] F=(Zx N d e g f (Qi F)):=by
 rw[CC]
 exact Eq.trans (by kernel_rfl) (El (Zw N (Qi F) · d e g f) (funext fun b=>funext fun c=>(At ..).trans (II N F N b c)):_)
def WL (a:LA) (h:Ah) (k:KF R):O R :=
 match a,h with
 | [(.imm d e 1 g f)],[]=>(Zx N d e g f (Qi k))
 | _,_=>none
theorem d8:Ao N 206 @WL:=by
 intro R Q a h k j;unfold WL;split;exact Av (d7 ..) (d7 ..) ⟨En N,trivial⟩;exact Ax
def sy:=Aw (d8 N)
def tA:=Cr (d8 N)
def Um (N:Nat) (k0:Nat→Int→Int→LA→O R) (r0:Nat→LA→O R) (d:LA) (b:Nat) (f g:Bool) (e:LA) (c:Nat) (i l:Bool) (m:Nat) (o:LA) (s q:Int):O R :=
 (cond (decide (q<((c:Nat):Int))) (cond (Ap q c) (Gb .u32 (e.drop ((q.toNat)*1)) fun t=>(cond (Ap q m) (cond ((Nat.beq 1 1)&&((Nat.ble ((0+((q.toNat)*1))+1) (o.length))&&(!false))) (k0 m (Int.fdiv (wrap .u64 (s+(wrap .u64 t))) (2 ^ 32)) (wrap .i64 (q+1)) (o.set (0+((q.toNat)*1)) (.int .u32 (wrap .u32 (wrap .u64 (s+(wrap .u64 t))))))) none) none)) none) (cond (Ap q m) (cond ((Nat.beq 1 1)&&((Nat.ble ((0+((q.toNat)*1))+1) (o.length))&&(!false))) (k0 m (Int.fdiv s (2 ^ 32)) (wrap .i64 (q+1)) (o.set (0+((q.toNat)*1)) (.int .u32 (wrap .u32 s)))) none) none))
def We (r0:Nat→LA→O R) (d:LA) (b:Nat) (f g:Bool) (e:LA) (c:Nat) (i l:Bool) (k0:Nat→Int→Int→LA→O R) (q1:Int→Int→O R) (m:Nat) (r p:Int) (o:LA):O R :=
 (cond (decide (p<((m:Nat):Int))) (cond (decide (p<((b:Nat):Int))) (cond (Ap p b) (Gb .u32 (d.drop ((p.toNat)*1)) fun u=>(q1 (wrap .u64 (r+(wrap .u64 u))) p)) none) (q1 r p)) (Co N (o.take (m*1)) m false true (fun v w=>(r0 v w))))
def F2 (r0:Nat→LA→O R) (d:LA) (b:Nat) (f g:Bool) (e:LA) (c:Nat) (i l:Bool):Nat→Nat→Int→Int→LA→O R
 | 0,_,_,_,_=>none
 | n+1,m,r,p,o=>(We N r0 d b f g e c i l (F2 r0 d b f g e c i l n) (fun s q=>(Um N (F2 r0 d b f g e c i l n) r0 d b f g e c i l m o s q)) m r p o)
def WM (N:Nat) (r0:Nat→LA→O R) (q0:Nat→Int→Int→LA→O R) (d:LA) (b:Nat) (f g:Bool) (e:LA) (c:Nat) (i l:Bool):O R :=
 (cond ((decide (0≤(wrap .i64 ((AW ((b:Nat):Int) ((c:Nat):Int))+1))))&&((decide ((wrap .i64 ((AW ((b:Nat):Int) ((c:Nat):Int))+1))≤(wrap .i64 ((AW ((b:Nat):Int) ((c:Nat):Int))+1))))&&((decide ((wrap .i64 ((AW ((b:Nat):Int) ((c:Nat):Int))+1))≤140737488355328))&&(decide (((wrap .i64 ((AW ((b:Nat):Int) ((c:Nat):Int))+1))*((4:Nat):Int))≤140737488355328))))) (q0 ((wrap .i64 ((AW ((b:Nat):Int) ((c:Nat):Int))+1)).toNat) 0 0 (List.replicate ((wrap .i64 ((AW ((b:Nat):Int) ((c:Nat):Int))+1)).toNat) (.int .u32 0))) none)
def Wf:=(Ag (fun (N:Nat) (d:LA) (b:Nat) (f g:Bool) (e:LA) (c:Nat) (i l:Bool) (r0:Nat→LA→O R)=>(WM N r0 (fun m r p o=>(F2 N r0 d b f g e c i l N m r p o)) d b f g e c i l))).1
theorem d9 (d b f g e c i l r0):(@Wf R N d b f g e c i l r0)=(WM N r0 (fun m r p o=>(F2 N r0 d b f g e c i l N m r p o)) d b f g e c i l):=by rw[Wf,(Ag _).2]
def jW:Hints:={ H:=(hS hL (hS hL (hS hL (hS (hS hL (hS (hP [0,1,5,6,7] (hS hL (hS (hS (hJ [0,1,5,6,7] hL hL) hL) hL))) hL)) hL)))),nils:=[(4,1)],modes:=[(2,1)] }
def oY:Dx:=[(150,Em N)]
def jX (F:KF R):=S6 Tryz.f207 jW (oY N) [] N F
def L6 (F:KF R):Nat→LA→O R:=(fun x y=>F (.own 300000 0 x) (hq [(bQ 1 y)]))
def vV (d:LA) (b:Nat) (f g:Bool) (e:LA) (c:Nat) (i l:Bool) (m:Nat) (o:LA) (s q:Int):St:=⟨[(0,(.imm d b 1 f g)),(1,(.imm e c 1 i l)),(5,(.own 300000 0 m)),(6,(.int .u64 s)),(7,(iv q))],(hq [(bQ 1 o)])⟩
def vW (F:KF R) (Q0:St→O R):=jX N F [1,1,1,0,1,0,0,1,0,0,1] [Q0]
def jY (d:LA) (b:Nat) (f g:Bool) (e:LA) (c:Nat) (i l:Bool) (m:Nat) (r p:Int) (o:LA):St:=⟨[(0,(.imm d b 1 f g)),(1,(.imm e c 1 i l)),(5,(.own 300000 0 m)),(6,(.int .u64 r)),(7,(iv p))],(hq [(bQ 1 o)])⟩
def jZ (F:KF R):=jX N F [1,1,1,0,1,0] []
theorem mc (Q0:St→O R) (F:KF R) (d:LA) (b:Nat) (f g:Bool) (e:LA) (c:Nat) (i l:Bool) (m:Nat) (o:LA):∀ (s q:Int),Eh (vW N F Q0) (vV d b f g e c i l m o s q)=(Um N (fun m r p o=>Q0 (jY d b f g e c i l m r p o)) (L6 F) d b f g e c i l m o s q):=by
 intro s q
 kernel_rfl
theorem OP (F:KF R) (d:LA) (b:Nat) (f g:Bool) (e:LA) (c:Nat) (i l:Bool):∀ (n m:Nat) (r p:Int) (o:LA),Ay (jZ N F) n (jY d b f g e c i l m r p o)=(F2 N (L6 F) d b f g e c i l n m r p o)
 | 0,_,_,_,_=>by kernel_rfl
 | n+1,m,r,p,o=>have e0:=(funext fun m=>funext fun r=>funext fun p=>funext fun o=>(OP F d b f g e c i l n m r p o))
  Eq.trans (by kernel_rfl) (vC (We N (L6 F) d b f g e c i l · · m r p o) e0 (funext fun s=>funext fun q=>(Bo ..).trans ((mc N (Ay (jZ N F) n) F d b f g e c i l m o s q).trans (El (Um N · (L6 F) d b f g e c i l m o s q) e0))):_)
theorem j0 (d:LA) (b:Nat) (f g:Bool) (e:LA) (c:Nat) (i l:Bool) (F:KF R):Cq (oY N) jW N 207 [(.imm d b 1 f g),(.imm e c 1 i l)] [] F=(Wf N d b f g e c i l (L6 F)):=by
 rw[d9]
 exact Eq.trans (by kernel_rfl) (El (WM N (L6 F) · d b f g e c i l) (funext fun m=>funext fun r=>funext fun p=>funext fun o=>(At ..).trans (OP N F d b f g e c i l N m r p o)):_)
def d_ (a:LA) (h:Ah) (k:KF R):O R :=
 match a,h with
 | [(.imm d b 1 f g),(.imm e c 1 i l)],[]=>(Wf N d b f g e c i l (L6 k))
 | _,_=>none
theorem j1:Ao N 207 @d_:=by
 intro R Q a h k j;unfold d_;split;exact Av (j0 ..) (j0 ..) ⟨En N,trivial⟩;exact Ax
def j2:=Aw (j1 N)
def j3:=Cr (j1 N)
def j4 (N:Nat) (d:LA) (c:Nat) (e f:Bool) (b:Int) (r0:Int→O R):O R :=
 (cond (decide ((wrap .i64 (Int.tdiv b 32))≥((c:Nat):Int))) (r0 0) (cond (Ap (wrap .i64 (Int.tdiv b 32)) c) (Gb .u32 (d.drop (((wrap .i64 (Int.tdiv b 32)).toNat)*1)) fun g=>(cond (decide ((wrap .u64 (Int.tmod b 32))<0)) none (r0 (vB .u32 (Int.fdiv g (2 ^ (min ((wrap .u64 (Int.tmod b 32)).toNat) 32))) 1)))) none))
def WN:=(Ag (@j4 R)).1
theorem dc:@WN R=@j4 R:=(Ag _).2
def j5 (F:KF R):Int→O R:=(fun i=>F (.int .u32 i) [])
theorem j6 (d:LA) (c:Nat) (e f:Bool) (b:Int) (F:KF R):Cq [] Cn N 208 [(.imm d c 1 e f),(iv b)] [] F=(WN N d c e f b (j5 F)):=by
 rw[dc]
 kernel_rfl
def dd (a:LA) (h:Ah) (k:KF R):O R :=
 match a,h with
 | [(.imm d c 1 e f),(.int .i64 b)],[]=>(WN N d c e f b (j5 k))
 | _,_=>none
theorem j7:Ao N 208 @dd:=by
 intro R Q a h k j;unfold dd;split;exact Av (j6 ..) (j6 ..) trivial;exact Ax
def vX:=Aw (j7 N)
def vY:=Cr (j7 N)
def Lo (N:Nat) (r0:Int→O R) (c d:Nat) (e f:LA) (k0:Int→O R) (b:Int):O R :=
 (cond (decide (b≥0)) (cond (Ap b c) (Gb .u32 (e.drop (0+((b.toNat)*1))) fun s=>(cond (Ap b d) (Gb .u32 (f.drop (0+((b.toNat)*1))) fun t=>(cond (decide (s<t)) (r0 (-1)) (cond (Ap b c) (Gb .u32 (e.drop (0+((b.toNat)*1))) fun u=>(cond (Ap b d) (Gb .u32 (f.drop (0+((b.toNat)*1))) fun v=>(cond (decide (u>v)) (r0 1) (k0 (wrap .i64 (b - 1))))) none)) none))) none)) none) (r0 0))
def E5 (r0:Int→O R) (c d:Nat) (e f:LA):Nat→Int→O R
 | 0,_=>none
 | n+1,b=>(Lo N r0 c d e f (E5 r0 c d e f n) b)
def R8 (r0:Int→O R) (q0:Nat→Nat→LA→LA→Int→O R) (g:LA) (i:Nat) (q l:Bool) (m:LA) (o:Nat) (r p:Bool):O R :=
 (Co N g i false l (fun c e=>(Co N m o false p (fun d f=>(cond (((c:Nat):Int) != ((d:Nat):Int)) (cond (decide (((c:Nat):Int)<((d:Nat):Int))) (r0 (-1)) (r0 1)) (q0 c d e f (wrap .i64 (((c:Nat):Int) - 1))))))))
def Ml:=(Ag (fun (N:Nat) (g:LA) (i:Nat) (q l:Bool) (m:LA) (o:Nat) (r p:Bool) (r0:Int→O R)=>(R8 N r0 (fun c d e f b=>(E5 N r0 c d e f N b)) g i q l m o r p))).1
theorem EO (g i q l m o r p r0):(@Ml R N g i q l m o r p r0)=(R8 N r0 (fun c d e f b=>(E5 N r0 c d e f N b)) g i q l m o r p):=by rw[Ml,(Ag _).2]
def OQ:Dx:=[(150,Em N)]
def j8 (F:KF R):=S6 Tryz.f272 nc (OQ N) [] N F
def I7 (F:KF R):Int→O R:=(fun w=>F (iv w) [])
def j9 (c d:Nat) (e f:LA) (b:Int):St:=⟨[(0,(.own 300000 0 c)),(1,(.own 300001 0 d)),(5,(iv b))],(hq [(bQ 1 e),(bQ 1 f)])⟩
def j_ (F:KF R):=j8 N F [1,1,1,0,1,0] []
theorem Wg (F:KF R) (c d:Nat) (e f:LA):∀ (n:Nat) (b:Int),Ay (j_ N F) n (j9 c d e f b)=(E5 N (I7 F) c d e f n b)
 | 0,_=>by kernel_rfl
 | n+1,b=>Eq.trans (by kernel_rfl) (El (Lo N (I7 F) c d e f · b) (funext fun b=>(Wg F c d e f n b)):_)
theorem IJ (g:LA) (i:Nat) (q l:Bool) (m:LA) (o:Nat) (r p:Bool) (F:KF R):Cq (OQ N) nc N 272 [(.imm g i 1 q l),(.imm m o 1 r p)] [] F=(Ml N g i q l m o r p (I7 F)):=by
 rw[EO]
 exact Eq.trans (by kernel_rfl) (El (R8 N (I7 F) · g i q l m o r p) (funext fun c=>funext fun d=>funext fun e=>funext fun f=>funext fun b=>(At ..).trans (Wg N F c d e f N b)):_)
def EP (a:LA) (h:Ah) (k:KF R):O R :=
 match a,h with
 | [(.imm g i 1 q l),(.imm m o 1 r p)],[]=>(Ml N g i q l m o r p (I7 k))
 | _,_=>none
theorem IK:Ao N 272 @EP:=by
 intro R Q a h k j;unfold EP;split;exact Av (IJ ..) (IJ ..) ⟨En N,trivial⟩;exact Ax
def ja:=Aw (IK N)
def jb:=Cr (IK N)
def Un (N:Nat) (k0:Int→Int→LA→O R) (r0:Nat→Bool→LA→O R) (b d:Nat) (e f c:LA) (i m:Int):O R :=
 (cond (Ap i b) (Gb .u32 (e.drop (0+((i.toNat)*1))) fun w=>(cond (decide ((wrap .u64 w)<m)) (cond (Ap i b) (cond ((Nat.beq 1 1)&&((Nat.ble ((0+((i.toNat)*1))+1) (c.length))&&(!false))) (k0 1 (wrap .i64 (i+1)) (c.set (0+((i.toNat)*1)) (.int .u32 (wrap .u32 (wrap .u64 ((wrap .u64 ((wrap .u64 w)+4294967296)) - m)))))) none) none) (cond (Ap i b) (cond ((Nat.beq 1 1)&&((Nat.ble ((0+((i.toNat)*1))+1) (c.length))&&(!false))) (k0 0 (wrap .i64 (i+1)) (c.set (0+((i.toNat)*1)) (.int .u32 (wrap .u32 (wrap .u64 ((wrap .u64 w) - m)))))) none) none))) none)
def Wh (r0:Nat→Bool→LA→O R) (b d:Nat) (e f:LA) (k0:Int→Int→LA→O R) (q1:Int→Int→O R) (l g:Int) (c:LA):O R :=
 (cond (decide (g<((b:Nat):Int))) (cond (decide (g<((d:Nat):Int))) (cond (Ap g d) (Gb .u32 (f.drop (0+((g.toNat)*1))) fun x=>(q1 g (wrap .u64 (l+(wrap .u64 x))))) none) (q1 g l)) (Co N (c.take (b*1)) b false true (fun y z=>(r0 y true z))))
def F3 (r0:Nat→Bool→LA→O R) (b d:Nat) (e f:LA):Nat→Int→Int→LA→O R
 | 0,_,_,_=>none
 | n+1,l,g,c=>(Wh N r0 b d e f (F3 r0 b d e f n) (fun i m=>(Un N (F3 r0 b d e f n) r0 b d e f c i m)) l g c)
def WO (r0:Nat→Bool→LA→O R) (q0:Nat→Nat→LA→LA→Int→Int→LA→O R) (o:LA) (p:Nat) (u q:Bool) (r:LA) (s:Nat) (v t:Bool):O R :=
 (Ml N o p false q r s false t (fun aa=>(cond (decide (aa<0)) (r0 0 false []) (Co N o p false q (fun b e=>(Co N r s false t (fun d f=>(cond ((decide (0≤((b:Nat):Int)))&&((decide (((b:Nat):Int)≤((b:Nat):Int)))&&((decide (((b:Nat):Int)≤140737488355328))&&(decide ((((b:Nat):Int)*((4:Nat):Int))≤140737488355328))))) (q0 b d e f 0 0 (List.replicate b (.int .u32 0))) none))))))))
def Wi:=(Ag (fun (N:Nat) (o:LA) (p:Nat) (u q:Bool) (r:LA) (s:Nat) (v t:Bool) (r0:Nat→Bool→LA→O R)=>(WO N r0 (fun b d e f l g c=>(F3 N r0 b d e f N l g c)) o p u q r s v t))).1
theorem de (o p u q r s v t r0):(@Wi R N o p u q r s v t r0)=(WO N r0 (fun b d e f l g c=>(F3 N r0 b d e f N l g c)) o p u q r s v t):=by rw[Wi,(Ag _).2]
def jc:Hints:={ H:=(hS hL (hS hL (hS hL (hS hL (hS hL (hS (hS hL (hS (hP [0,1,6,7,8] (hS hL (hS (hS (hS hL (hJ [0,1,6,8,9] hL hL)) hL) hL))) hL)) hL)))))),nils:=[(4,1)],modes:=[(2,1),(0,0)] }
def oZ:Dx:=[(272,ja N),(150,Em N)]
def jd (F:KF R):=S6 Tryz.f209 jc (oZ N) [] N F
def L7 (F:KF R):Nat→Bool→LA→O R:=(fun ab ac ad=>F (.tup [(.own 300000 0 ab),(.bool ac)]) (hq [(bQ 1 ad)]))
def vZ (b d:Nat) (e f c:LA) (i m:Int):St:=⟨[(0,(.own 300000 0 b)),(1,(.own 300001 0 d)),(6,(.own 300002 0 b)),(8,(iv i)),(9,(.int .u64 m))],(hq [(bQ 1 e),(bQ 1 f),(bQ 1 c)])⟩
def v6 (F:KF R) (Q0:St→O R):=jd N F [1,1,1,1,1,0,1,0,0,1,0,0,1,1] [Q0]
def je (b d:Nat) (e f:LA) (l g:Int) (c:LA):St:=⟨[(0,(.own 300000 0 b)),(1,(.own 300001 0 d)),(6,(.own 300002 0 b)),(7,(.int .u64 l)),(8,(iv g))],(hq [(bQ 1 e),(bQ 1 f),(bQ 1 c)])⟩
def jf (F:KF R):=jd N F [1,1,1,1,1,0,1,0] []
theorem md (Q0:St→O R) (F:KF R) (b d:Nat) (e f c:LA):∀ (i m:Int),Eh (v6 N F Q0) (vZ b d e f c i m)=(Un N (fun l g c=>Q0 (je b d e f l g c)) (L7 F) b d e f c i m):=by
 intro i m
 kernel_rfl
theorem OR (F:KF R) (b d:Nat) (e f:LA):∀ (n:Nat) (l g:Int) (c:LA),Ay (jf N F) n (je b d e f l g c)=(F3 N (L7 F) b d e f n l g c)
 | 0,_,_,_=>by kernel_rfl
 | n+1,l,g,c=>have e0:=(funext fun l=>funext fun g=>funext fun c=>(OR F b d e f n l g c))
  Eq.trans (by kernel_rfl) (vC (Wh N (L7 F) b d e f · · l g c) e0 (funext fun i=>funext fun m=>(Bo ..).trans ((md N (Ay (jf N F) n) F b d e f c i m).trans (El (Un N · (L7 F) b d e f c i m) e0))):_)
theorem jg (o:LA) (p:Nat) (u q:Bool) (r:LA) (s:Nat) (v t:Bool) (F:KF R):Cq (oZ N) jc N 209 [(.imm o p 1 u q),(.imm r s 1 v t)] [] F=(Wi N o p u q r s v t (L7 F)):=by
 rw[de]
 exact Eq.trans (by kernel_rfl) (El (WO N (L7 F) · o p u q r s v t) (funext fun b=>funext fun d=>funext fun e=>funext fun f=>funext fun l=>funext fun g=>funext fun c=>(At ..).trans (OR N F b d e f N l g c)):_)
def df (a:LA) (h:Ah) (k:KF R):O R :=
 match a,h with
 | [(.imm o p 1 u q),(.imm r s 1 v t)],[]=>(Wi N o p u q r s v t (L7 k))
 | _,_=>none
theorem jh:Ao N 209 @df:=by
 intro R Q a h k j;unfold df;split;exact Av (jg ..) (jg ..) ⟨jb N,En N,trivial⟩;exact Ax
def ji:=Aw (jh N)
def jj:=Cr (jh N)
def H7 (k1:Nat→Int→LA→LA→O R) (r0:Nat→Nat→Bool→LA→LA→O R) (c:LA) (b:Nat) (e d:Bool) (f:Nat) (i:Int) (g l:LA) (p:Nat) (q:LA):O R :=
 (Wi N (q.take (p*1)) p false true (g.take (f*1)) f false true (fun z aa ab=>(cond aa (cond (Ap (wrap .i64 (Int.tdiv i 32)) b) (Gb .u32 (l.drop (0+(((wrap .i64 (Int.tdiv i 32)).toNat)*1))) fun ac=>(cond (decide ((wrap .u64 (Int.tmod i 32))<0)) none (cond (Ap (wrap .i64 (Int.tdiv i 32)) b) (cond ((Nat.beq 1 1)&&((Nat.ble ((0+(((wrap .i64 (Int.tdiv i 32)).toNat)*1))+1) (l.length))&&(!false))) (k1 z (wrap .i64 (i - 1)) (l.set (0+(((wrap .i64 (Int.tdiv i 32)).toNat)*1)) (.int .u32 (Me .u32 ac (wrap .u32 ((1:Int)*2 ^ (min ((wrap .u64 (Int.tmod i 32)).toNat) 32)))))) ab) none) none))) none) (k1 p (wrap .i64 (i - 1)) l q))))
def Nv (r0:Nat→Nat→Bool→LA→LA→O R) (c:LA) (b:Nat) (e d:Bool) (f:Nat) (g:LA) (k1:Nat→Int→LA→LA→O R) (q2:Nat→LA→O R) (m:Nat) (i:Int) (l o:LA):O R :=
 (cond (decide (i≥0)) (Wf N (o.take (m*1)) m false true (o.take (m*1)) m false true (fun w x=>(WN N c b false d i (fun ad=>(cond (ad==1) (Wf N (x.take (w*1)) w false true [(.int .u32 1)] 1 false true (fun ae af=>(q2 ae af))) (q2 w x)))))) (Co N (l.take (b*1)) b false true (fun ag ah=>(Co N (o.take (m*1)) m false true (fun ai aj=>(r0 ag ai true ah aj))))))
def Dt (r0:Nat→Nat→Bool→LA→LA→O R) (c:LA) (b:Nat) (e d:Bool) (f:Nat) (g:LA):Nat→Nat→Int→LA→LA→O R
 | 0,_,_,_,_=>none
 | n+1,m,i,l,o=>(Nv N r0 c b e d f g (Dt r0 c b e d f g n) (fun p q=>(H7 N (Dt r0 c b e d f g n) r0 c b e d f i g l p q)) m i l o)
def Uo (r0:Nat→Nat→Bool→LA→LA→O R) (c:LA) (b:Nat) (e d:Bool) (f:Nat) (g:LA) (q1:Nat→Int→LA→LA→O R):O R :=
 (cond ((decide (0≤((b:Nat):Int)))&&((decide (((b:Nat):Int)≤((b:Nat):Int)))&&((decide (((b:Nat):Int)≤140737488355328))&&(decide ((((b:Nat):Int)*((4:Nat):Int))≤140737488355328))))) (Zx N c b false d (fun ak=>(q1 0 (wrap .i64 (ak - 1)) (List.replicate b (.int .u32 0)) []))) none)
def K6 (r0:Nat→Nat→Bool→LA→LA→O R) (c:LA) (b:Nat) (e d:Bool) (f:Nat) (g:LA):O R:=(Uo N r0 c b e d f g (fun m i l o=>(Dt N r0 c b e d f g N m i l o)))
def Wj (r0:Nat→Nat→Bool→LA→LA→O R) (q0:Nat→LA→O R) (c:LA) (b:Nat) (e d:Bool) (r:LA) (s:Nat) (u t:Bool):O R :=
 (Co N r s false t (fun f g=>(cond (((f:Nat):Int)==0) (r0 0 0 false [] []) (E4 N c b false d (fun y al=>(E4 N (g.take (f*1)) f false true (fun v am=>(cond (al==true) (cond (cond true am false) (cond (v==0) none (Dz N (wrap .u64 (Int.tdiv y v)) (fun an ao=>(cond (v==0) none (Dz N (Int.tmod y v) (fun ap aq=>(r0 an ap true ao aq))))))) (q0 f g)) (q0 f g)))))))))
def F4:=(Ag (fun (N:Nat) (c:LA) (b:Nat) (e d:Bool) (r:LA) (s:Nat) (u t:Bool) (r0:Nat→Nat→Bool→LA→LA→O R)=>(Wj N r0 (fun f g=>(K6 N r0 c b e d f g)) c b e d r s u t))).1
theorem IL (c b e d r s u t r0):(@F4 R N c b e d r s u t r0)=(Wj N r0 (fun f g=>(K6 N r0 c b e d f g)) c b e d r s u t):=by rw[F4,(Ag _).2]
def OS:Hints:={ H:=(hS hL (hS hL (hS hL (hS hL (hJ [0,1,5] hL (hS hL (hS (hS hL (hS (hP [0,1,4,5,11] (hS hL (hS (hS (hS hL (hJ [0,1,4,5,11] hL hL)) hL) hL))) hL)) hL))))))),nils:=[(4,1),(5,1)],modes:=[(2,1),(2,1),(0,0)] }
def WP:Dx:=[(150,Em N),(89,Xm N),(88,Wb N),(206,sy N),(207,j2 N),(208,vX N),(209,ji N)]
def Xo (F:KF R):=S6 Tryz.f126 OS (WP N) [] N F
def Du (F:KF R):Nat→Nat→Bool→LA→LA→O R:=(fun ar au av aw ax=>F (.tup [(.own 300000 0 ar),(.own 300001 0 au),(.bool av)]) (hq [(bQ 1 aw),(bQ 1 ax)]))
def mf (c:LA) (b:Nat) (e d:Bool) (f:Nat) (i:Int) (g l:LA) (p:Nat) (q:LA):St:=⟨[(0,(.imm c b 1 e d)),(1,(.own 300000 0 f)),(4,(.own 300001 0 b)),(5,(.own 300002 0 p)),(11,(iv i))],(hq [(bQ 1 g),(bQ 1 l),(bQ 1 q)])⟩
def mg (F:KF R) (Q1:St→O R):=Xo N F [1,1,1,1,1,1,0,1,0,0,1,0,0,1,1] [Q1]
def OT (c:LA) (b:Nat) (e d:Bool) (f:Nat) (g:LA) (m:Nat) (i:Int) (l o:LA):St:=⟨[(0,(.imm c b 1 e d)),(1,(.own 300000 0 f)),(4,(.own 300001 0 b)),(5,(.own 300002 0 m)),(11,(iv i))],(hq [(bQ 1 g),(bQ 1 l),(bQ 1 o)])⟩
def OU (F:KF R):=Xo N F [1,1,1,1,1,1,0,1,0] []
def mh (c:LA) (b:Nat) (e d:Bool) (f:Nat) (g:LA):St:=⟨[(0,(.imm c b 1 e d)),(1,(.own 300000 0 f)),(5,(.own 300001 0 0))],(hq [(bQ 1 g),(bQ 1 [])])⟩
def mi (F:KF R):=Xo N F [1,1,1,1,1] []
theorem bY (Q1:St→O R) (F:KF R) (c:LA) (b:Nat) (e d:Bool) (f:Nat) (i:Int) (g l:LA):∀ (p:Nat) (q:LA),Eh (mg N F Q1) (mf c b e d f i g l p q)=(H7 N (fun m i l o=>Q1 (OT c b e d f g m i l o)) (Du F) c b e d f i g l p q):=by
 intro p q
 kernel_rfl
theorem Zy (F:KF R) (c:LA) (b:Nat) (e d:Bool) (f:Nat) (g:LA):∀ (n m:Nat) (i:Int) (l o:LA),Ay (OU N F) n (OT c b e d f g m i l o)=(Dt N (Du F) c b e d f g n m i l o)
 | 0,_,_,_,_=>by kernel_rfl
 | n+1,m,i,l,o=>have e0:=(funext fun m=>funext fun i=>funext fun l=>funext fun o=>(Zy F c b e d f g n m i l o))
  Eq.trans (by kernel_rfl) (vC (Nv N (Du F) c b e d f g · · m i l o) e0 (funext fun p=>funext fun q=>(Bo ..).trans ((bY N (Ay (OU N F) n) F c b e d f i g l p q).trans (El (H7 N · (Du F) c b e d f i g l p q) e0))):_)
theorem bZ (F:KF R) (c:LA) (b:Nat) (e d:Bool) (f:Nat) (g:LA):Eh (mi N F) (mh c b e d f g)=(K6 N (Du F) c b e d f g):=by
 exact Eq.trans (by kernel_rfl) (El (Uo N (Du F) c b e d f g ·) (funext fun m=>funext fun i=>funext fun l=>funext fun o=>(At ..).trans (Zy N F c b e d f g N m i l o)):_)
theorem OV (c:LA) (b:Nat) (e d:Bool) (r:LA) (s:Nat) (u t:Bool) (F:KF R):Cq (WP N) OS N 126 [(.imm c b 1 e d),(.imm r s 1 u t)] [] F=(F4 N c b e d r s u t (Du F)):=by
 rw[IL]
 exact Eq.trans (by kernel_rfl) (El (Wj N (Du F) · c b e d r s u t) (funext fun f=>funext fun g=>(Bo ..).trans (bZ N F c b e d f g)):_)
def IM (a:LA) (h:Ah) (k:KF R):O R :=
 match a,h with
 | [(.imm c b 1 e d),(.imm r s 1 u t)],[]=>(F4 N c b e d r s u t (Du k))
 | _,_=>none
theorem OW:Ao N 126 @IM:=by
 intro R Q a h k j;unfold IM;split;exact Av (OV ..) (OV ..) ⟨En N,Xn N,Wc N,tA N,j3 N,vY N,jj N,trivial⟩;exact Ax
def Xp:=Aw (OW N)
def Xq:=Cr (OW N)
def Mm (r0:Nat→LA→O R) (k0:Nat→Nat→LA→LA→O R) (c b:Nat) (d e:LA):O R :=
 (cond (decide (((b:Nat):Int)>0)) (F4 N (d.take (c*1)) c false true (e.take (b*1)) b false true (fun z r aa ab s=>(k0 b r e s))) (r0 c d))
def C7 (r0:Nat→LA→O R):Nat→Nat→Nat→LA→LA→O R
 | 0,_,_,_,_=>none
 | n+1,c,b,d,e=>(Mm N r0 (C7 r0 n) c b d e)
def WQ (r0:Nat→LA→O R) (q0:Nat→Nat→LA→LA→O R) (f:LA) (g:Nat) (p i:Bool) (l:LA) (m:Nat) (q o:Bool):O R :=
 (Co N f g false i (fun t u=>(Co N l m false o (fun v w=>(q0 t v u w)))))
def MB:=(Ag (fun (N:Nat) (f:LA) (g:Nat) (p i:Bool) (l:LA) (m:Nat) (q o:Bool) (r0:Nat→LA→O R)=>(WQ N r0 (fun c b d e=>(C7 N r0 N c b d e)) f g p i l m q o))).1
theorem dg (f g p i l m q o r0):(@MB R N f g p i l m q o r0)=(WQ N r0 (fun c b d e=>(C7 N r0 N c b d e)) f g p i l m q o):=by rw[MB,(Ag _).2]
def jk:Hints:={ H:=(hS hL (hS hL (hS (hS (hP [0,1] hL) hL) hL))),nils:=[(4,1)],modes:=[(2,1)] }
def o0:Dx:=[(150,Em N),(126,Xp N)]
def v7 (F:KF R):=S6 Tryz.f221 jk (o0 N) [] N F
def Up (F:KF R):Nat→LA→O R:=(fun x y=>F (.own 300000 0 x) (hq [(bQ 1 y)]))
def v8 (c b:Nat) (d e:LA):St:=⟨[(0,(.own 300000 0 c)),(1,(.own 300001 0 b))],(hq [(bQ 1 d),(bQ 1 e)])⟩
def v_ (F:KF R):=v7 N F [1,1,0,0] []
theorem OX (F:KF R):∀ (n:Nat) (c b:Nat) (d e:LA),Ay (v_ N F) n (v8 c b d e)=(C7 N (Up F) n c b d e)
 | 0,_,_,_,_=>by kernel_rfl
 | n+1,c,b,d,e=>Eq.trans (by kernel_rfl) (El (Mm N (Up F) · c b d e) (funext fun c=>funext fun b=>funext fun d=>funext fun e=>(OX F n c b d e)):_)
theorem jl (f:LA) (g:Nat) (p i:Bool) (l:LA) (m:Nat) (q o:Bool) (F:KF R):Cq (o0 N) jk N 221 [(.imm f g 1 p i),(.imm l m 1 q o)] [] F=(MB N f g p i l m q o (Up F)):=by
 rw[dg]
 exact Eq.trans (by kernel_rfl) (El (WQ N (Up F) · f g p i l m q o) (funext fun c=>funext fun b=>funext fun d=>funext fun e=>(At ..).trans (OX N F N c b d e)):_)
def dh (a:LA) (h:Ah) (k:KF R):O R :=
 match a,h with
 | [(.imm f g 1 p i),(.imm l m 1 q o)],[]=>(MB N f g p i l m q o (Up k))
 | _,_=>none
theorem jm:Ao N 221 @dh:=by
 intro R Q a h k j;unfold dh;split;exact Av (jl ..) (jl ..) ⟨En N,Xq N,trivial⟩;exact Ax
def va:=Aw (jm N)
def vd:=Cr (jm N)
def jn (b:LA) (c:Bool) (d:LA) (e:Bool) (r0:LA→O R):O R :=
 (Ir 1 (b.drop 1) fun i l=>(Ir 1 (d.drop 1) fun m n=>(MB N i l false c m n false e (fun g o=>(Ef N false (o.take (g*1)) g false true (fun f=>(cond ((Nat.beq 0 0)&&((Nat.beq (f.length) 2)&&(Nat.beq 2 2))) (cond (Nat.ble 2 (f.length)) (r0 (f.take 2)) none) none)))))))
def WR:=(Ag (@jn R)).1
theorem di:@WR R=@jn R:=(Ag _).2
def y8:Dx:=[(221,va N),(83,Gu N)]
def jo (F:KF R):LA→O R:=(fun p=>F (.pagg p false) [])
theorem jq (b:LA) (c:Bool) (d:LA) (e:Bool) (F:KF R):Cq (y8 N) I0 N 152 [(.pagg b c),(.pagg d e)] [] F=(WR N b c d e (jo F)):=by
 rw[di]
 kernel_rfl
def dj (a:LA) (h:Ah) (k:KF R):O R :=
 match a,h with
 | [(.pagg b c),(.pagg d e)],[]=>(WR N b c d e (jo k))
 | _,_=>none
theorem jr:Ao N 152 @dj:=by
 intro R Q a h k j;unfold dj;split;exact Av (jq ..) (jq ..) ⟨vd N,Gv N,trivial⟩;exact Ax
def ve:=Aw (jr N)
def vf:=Cr (jr N)
def js (b:LA) (c:Bool) (r0:LA→O R):O R :=
 (Ir 1 (b.drop 1) fun e f=>(Ef N false e f false c (fun d=>(cond ((Nat.beq 0 0)&&((Nat.beq (d.length) 2)&&(Nat.beq 2 2))) (cond (Nat.ble 2 (d.length)) (r0 (d.take 2)) none) none))))
def MC:=(Ag (@js R)).1
theorem dk:@MC R=@js R:=(Ag _).2
def y9:Dx:=[(83,Gu N)]
def jt (F:KF R):LA→O R:=(fun g=>F (.pagg g false) [])
theorem ju (b:LA) (c:Bool) (F:KF R):Cq (y9 N) I0 N 140 [(.pagg b c)] [] F=(MC N b c (jt F)):=by
 rw[dk]
 kernel_rfl
def dl (a:LA) (h:Ah) (k:KF R):O R :=
 match a,h with
 | [(.pagg b c)],[]=>(MC N b c (jt k))
 | _,_=>none
theorem jv:Ao N 140 @dl:=by
 intro R Q a h k j;unfold dl;split;exact Av (ju ..) (ju ..) ⟨Gv N,trivial⟩;exact Ax
def vg:=Aw (jv N)
def vh:=Cr (jv N)
def jw (b:LA) (d:Bool) (c:LA) (e:Bool) (r0:LA→O R):O R :=
 (Qc b fun o=>(Qc c fun p=>(cond (o==p) (Qc b fun q=>(Ir 1 (b.drop 1) fun r s=>(Ir 1 (c.drop 1) fun t u=>(Wf N r s false d t u false e (fun l v=>(Ef N q (v.take (l*1)) l false true (fun f=>(cond ((Nat.beq 0 0)&&((Nat.beq (f.length) 2)&&(Nat.beq 2 2))) (cond (Nat.ble 2 (f.length)) (r0 (f.take 2)) none) none)))))))) (Ir 1 (b.drop 1) fun w x=>(Ir 1 (c.drop 1) fun y z=>(Wi N w x false d y z false e (fun m aa ab=>(cond aa (Qc b fun ac=>(Ef N ac (ab.take (m*1)) m false true (fun g=>(cond ((Nat.beq 0 0)&&((Nat.beq (g.length) 2)&&(Nat.beq 2 2))) (cond (Nat.ble 2 (g.length)) (r0 (g.take 2)) none) none)))) (Ir 1 (c.drop 1) fun ad ae=>(Ir 1 (b.drop 1) fun af ag=>(Wi N ad ae false e af ag false d (fun n ak ah=>(Qc c fun ai=>(Ef N ai (ah.take (n*1)) n false true (fun i=>(cond ((Nat.beq 0 0)&&((Nat.beq (i.length) 2)&&(Nat.beq 2 2))) (cond (Nat.ble 2 (i.length)) (r0 (i.take 2)) none) none))))))))))))))))
def Lp:=(Ag (@jw R)).1
theorem dm:@Lp R=@jw R:=(Ag _).2
def y_:Dx:=[(207,j2 N),(83,Gu N),(209,ji N)]
def jx (F:KF R):LA→O R:=(fun aj=>F (.pagg aj false) [])
theorem jy (b:LA) (d:Bool) (c:LA) (e:Bool) (F:KF R):Cq (y_ N) I0 N 139 [(.pagg b d),(.pagg c e)] [] F=(Lp N b d c e (jx F)):=by
 rw[dm]
 kernel_rfl
def dn (a:LA) (h:Ah) (k:KF R):O R :=
 match a,h with
 | [(.pagg b d),(.pagg c e)],[]=>(Lp N b d c e (jx k))
 | _,_=>none
theorem jz:Ao N 139 @dn:=by
 intro R Q a h k j;unfold dn;split;exact Av (jy ..) (jy ..) ⟨j3 N,Gv N,jj N,trivial⟩;exact Ax
def CD:=Aw (jz N)
def CE:=Cr (jz N)
def kA (b:LA) (c:Bool) (r0:LA→O R):O R :=
 (Qc b fun e=>(Ir 1 (b.drop 1) fun f g=>(Ef N (!e) f g false c (fun d=>(cond ((Nat.beq 0 0)&&((Nat.beq (d.length) 2)&&(Nat.beq 2 2))) (cond (Nat.ble 2 (d.length)) (r0 (d.take 2)) none) none)))))
def R9:=(Ag (@kA R)).1
theorem dp:@R9 R=@kA R:=(Ag _).2
def ya:Dx:=[(83,Gu N)]
def kB (F:KF R):LA→O R:=(fun i=>F (.pagg i false) [])
theorem kC (b:LA) (c:Bool) (F:KF R):Cq (ya N) I0 N 153 [(.pagg b c)] [] F=(R9 N b c (kB F)):=by
 rw[dp]
 kernel_rfl
def dq (a:LA) (h:Ah) (k:KF R):O R :=
 match a,h with
 | [(.pagg b c)],[]=>(R9 N b c (kB k))
 | _,_=>none
theorem kD:Ao N 153 @dq:=by
 intro R Q a h k j;unfold dq;split;exact Av (kC ..) (kC ..) ⟨Gv N,trivial⟩;exact Ax
def SM:=Aw (kD N)
def SN:=Cr (kD N)
def kE (b:LA) (d:Bool) (c:LA) (e:Bool) (r0:LA→O R):O R :=
 (cond (Nat.ble 2 (b.length)) (cond (Nat.ble 2 (c.length)) (R9 N (c.take 2) e (fun g=>(Lp N (b.take 2) d g false (fun f=>(cond ((Nat.beq 0 0)&&((Nat.beq (f.length) 2)&&(Nat.beq 2 2))) (cond (Nat.ble 2 (f.length)) (r0 (f.take 2)) none) none))))) none) none)
def CF:=(Ag (@kE R)).1
theorem dr:@CF R=@kE R:=(Ag _).2
def yb:Dx:=[(153,SM N),(139,CD N)]
def kF (F:KF R):LA→O R:=(fun i=>F (.pagg i false) [])
theorem kG (b:LA) (d:Bool) (c:LA) (e:Bool) (F:KF R):Cq (yb N) I0 N 141 [(.pagg b d),(.pagg c e)] [] F=(CF N b d c e (kF F)):=by
 rw[dr]
 kernel_rfl
def dt (a:LA) (h:Ah) (k:KF R):O R :=
 match a,h with
 | [(.pagg b d),(.pagg c e)],[]=>(CF N b d c e (kF k))
 | _,_=>none
theorem kH:Ao N 141 @dt:=by
 intro R Q a h k j;unfold dt;split;exact Av (kG ..) (kG ..) ⟨SN N,CE N,trivial⟩;exact Ax
def kI:=Aw (kH N)
def kJ:=Cr (kH N)
end
end Gx

namespace Gx
open Go Go.Proofs
section
variable {R:Type}
theorem Aem {c:Nat} (h:c≤1000000000000):((Nat.ble (0+c) 140737488355328)&&(Nat.ble ((0+c)*4) 140737488355328))=true:=by simp;omega
theorem SO {N:Nat} {l:List Nat} {t o:Bool} {K:Nat→LA→O R} (e:Ae l) (i:l.length≤1000000000000):∀ (c b:Nat),c≤l.length→c<b →
  I6 N K (Aa l) l.length t o b (c:Int)=K (Ac (val (l.take c))).length (Aa (Ac (val (l.take c))))
 | 0,b+1,f,_=>by
  rw[I6];unfold R7
  rw[show decide (((0:Nat):Int)>0)=false by simp]
  rw[show((false:Bool)==true)=false by rfl,cf,Ac3 (by omega),ct,Int.toNat_natCast,Nat.mul_one,Pa,Vr,Bool.or_true,ct,Aem (by omega),ct];rfl
 | c+1,b+1,f,j=>by
  rw[I6];unfold R7
  rw[Adt,ct,wP (by omega),Ak (by omega),ct,GA (by omega),xH,Ac3 (by omega),ct,SO e i c b (by omega) (by omega),Int.toNat_natCast,Nat.mul_one,Pa,Vr,Bool.or_true,ct,Aem (by omega),ct,Nat.zero_add]
  by_cases d:l[c]=0
  ·rw[Ar (by omega),d];simp
  ·rw[qD e (by omega) d,List.length_take,Nat.min_eq_left f]
   rw[gL d,cf]
theorem Ck {N:Nat} {l:List Nat} {n:Nat} {t o:Bool} {K:Nat→LA→O R} (c:n=l.length) (d:Ae l) (b:fit l.length N):Co N (Aa l) n t o K=K (Ac (val l)).length (Aa (Ac (val l))):=by
 subst c
 have e:=b.1;have f:=b.2
 rw[B'];unfold Zu
 dsimp only
 rw[SO d (by omega) l.length N (Nat.le_refl _) (by omega),List.take_length]
theorem tB {N:Nat} {a b:List Nat} {t o t' o':Bool} {K:Bool→O R} (i:a.length≤1000000000000) (k:a.length=b.length):∀ (m j c:Nat),j+m=a.length→m<c →
  He N K (Aa a) a.length t o (Aa b) b.length t' o' c (j:Int)=K (decide (a.drop j=b.drop j))
 | 0,j,c+1,l,_=>by
  rw[He];unfold P6
  rw[VC (by omega),cf,List.drop_eq_nil_of_le (by omega),List.drop_eq_nil_of_le (by omega)];simp
 | m+1,j,c+1,l,n=>by
  have e:j<a.length:=by omega
  have f:j<b.length:=by omega
  rw[He];unfold P6
  rw[NR e,ct,Ak e,ct,GA e,Ak f,ct,GA f,wS (by omega),tB i k m (j+1) c (by omega) (by omega),List.drop_eq_getElem_cons e,List.drop_eq_getElem_cons f]
  by_cases h:a[j]=b[j]
  ·rw[show((((a[j]:Nat):Int) != ((b[j]:Nat):Int)))=false by simp[h],cf];congr 1;rw[decide_eq_decide,List.cons.injEq];exact⟨fun d=>⟨h,d⟩,fun d=>d.2⟩
  ·rw[show((((a[j]:Nat):Int) != ((b[j]:Nat):Int)))=true by rw[bne_iff_ne];omega,ct];congr 1;symm;rw[decide_eq_false_iff_not,List.cons.injEq];exact fun d=>h d.1
theorem IN {N:Nat} {a b:List Nat} {n m:Nat} {t o t' o':Bool} {K:Bool→O R} (e:n=a.length) (f:m=b.length) (d:fit a.length N):H6 N (Aa a) n t o (Aa b) m t' o' K=K (decide (a=b)):=by
 subst e f
 have i:=d.1;have j:=d.2
 rw[OK];unfold CB
 by_cases c:a.length=b.length
 ·rw[show(((a.length:Nat):Int) != ((b.length:Nat):Int))=false by simp[c],cf]
  have:=tB (R:=R) (N:=N) (t:=t) (o:=o) (t':=t') (o':=o') (K:=K) (by omega) c a.length 0 N (by omega) (by omega)
  simpa using this
 ·rw[show(((a.length:Nat):Int) != ((b.length:Nat):Int))=true by rw[bne_iff_ne];omega,ct]
  congr 1;symm;rw[decide_eq_false_iff_not];intro h;exact c (by rw[h])
theorem Wk {N:Nat} {v:Nat} {K:Nat→LA→O R} (d:v<18446744073709551616) (hN:4≤N):Dz N (v:Int) K=K (Ac v).length (Aa (Ac v)):=by
 have c:Ae [v%4294967296,v/4294967296]:=Ci.2 ⟨by omega,Ci.2 ⟨by omega,O8⟩⟩
 have b:val [v%4294967296,v/4294967296]=v:=by simp[val];omega
 rw[Uk];unfold Q5
 rw[RF,aT,xF (show v/4294967296<4294967296 by omega)]
 have:=SO (R:=R) (N:=N) (l:=[v%4294967296,v/4294967296]) (t:=false) (o:=true) (K:=K) c (by simp) 2 N (by simp) (by omega)
 rw[show [v%4294967296,v/4294967296].take 2=[v%4294967296,v/4294967296] by rfl,b] at this
 rw[B'];unfold Zu
 exact this
theorem Nw {N:Nat} {l:List Nat} {n:Nat} {t o:Bool} {K:Int→Bool→O R} (m:n=l.length) (q:Ae l) (j:fit l.length N):E4 N (Aa l) n t o K=if val l<18446744073709551616 then K (val l:Int) true else K 0 false:=by
 have v:=j.1
 rw[IG];unfold Wd
 rw[Ck m q j]
 by_cases h:val l<18446744073709551616
 ·have s:=R5 h
  rw[if_pos h,show decide ((((Ac (val l)).length:Nat):Int)>2)=false by simp;omega,cf]
  have c:=Ad (val l)
  have f:=Ab (val l)
  obtain⟨M,hM⟩:∃ M,N=M+4:=⟨N - 4,by omega⟩
  rw[hM]
  generalize Ac (val l)=d at *
  match d,s,c,f with
  | [],_,c,_ =>
   dsimp only
   rw[C3];unfold D0
   rw[←c,i64 (by simp)];rfl
  | [x],_,c,f =>
   have i:=(Ci.1 f).1
   have e:val l=x:=by rw[←c];simp[val]
   dsimp only
   rw[C3];unfold D0
   rw[i64 (by simp),show((([x]:List Nat).length:Nat):Int) - 1=((0:Nat):Int) by rfl,show decide (((0:Nat):Int)≥0)=true by rfl,ct,Ak (by simp),ct,VD (by simp)]
   rw[C3];unfold D0
   rw[i64 (by simp),show decide ((((0:Nat):Int) - 1)≥0)=false by rfl,cf]
   have:=Adu (a:=0) (b:=x) (by omega) i
   simp only[List.getElem_cons_zero]
   rw[Fj (show x<18446744073709551616 by omega),show(0:Int)=((0:Nat):Int) by rfl,this,e];simp
  | [x,y],_,c,f =>
   have i:=(Ci.1 f).1
   have k:=(Ci.1 (Ci.1 f).2).1
   have e:val l=y*4294967296+x:=by rw[←c];simp[val];omega
   dsimp only
   rw[C3];unfold D0
   rw[i64 (by simp),show((([x,y]:List Nat).length:Nat):Int) - 1=((1:Nat):Int) by rfl,show decide (((1:Nat):Int)≥0)=true by rfl,ct,Ak (by simp),ct,VD (by simp)]
   rw[C3];unfold D0
   rw[i64 (by simp),show(((1:Nat):Int) - 1)=((0:Nat):Int) by rfl,show decide (((0:Nat):Int)≥0)=true by rfl,ct,Ak (by simp),ct,VD (by simp)]
   rw[C3];unfold D0
   rw[i64 (by simp),show decide ((((0:Nat):Int) - 1)≥0)=false by rfl,cf]
   have o1:=Adu (a:=0) (b:=y) (by omega) k
   have o2:=Adu (a:=y) (b:=x) k i
   simp only[List.getElem_cons_zero,List.getElem_cons_succ]
   rw[Fj (show y<18446744073709551616 by omega),Fj (show x<18446744073709551616 by omega),show(0:Int)=((0:Nat):Int) by rfl,o1,Nat.zero_mul,Nat.zero_add,o2,e]
 ·have:¬ (Ac (val l)).length≤2:=fun u=>h (VH u)
  rw[if_neg h,show decide ((((Ac (val l)).length:Nat):Int)>2)=true by simp;omega,ct]
theorem o4 {N:Nat} {x y:List Nat} {K:Int→O R} (e:Ae x) (f:Ae y) (k:x.length≤1000000000000) (l:x.length=y.length):∀ (i b:Nat),i≤x.length→i<b →
  E5 N K x.length y.length (Aa x) (Aa y) b ((i:Int) - 1)=K (Fn (val (x.take i)) (val (y.take i)))
 | 0,b+1,_,_=>by
  rw[E5];unfold Lo
  rw[show decide ((((0:Nat):Int) - 1)≥0)=false by simp,cf]
  simp[Zf]
 | i+1,b+1,m,n=>by
  rw[E5];unfold Lo
  rw[show(((i+1:Nat):Int) - 1)=(i:Int) by omega,show decide ((i:Int)≥0)=true by simp,ct,Ak (by omega),ct,VD (by omega),Ak (by omega),ct,VD (by omega),ct,VD (by omega),ct,VD (by omega),i64 (by omega),
   o4 e f k l i b (by omega) (by omega),Ar (by omega),Ar (by omega)]
  have c:=Bi (Bu e i)
  have d:=Bi (Bu f i)
  rw[List.length_take,Nat.min_eq_left (by omega)] at c d
  by_cases c1:x[i]<y[i]
  ·have:=gK c d c1
   rw[show decide (((x[i]:Nat):Int)<((y[i]:Nat):Int))=true by simp;exact c1,ct]
   unfold Fn;rw[if_pos this]
  ·by_cases j:y[i]<x[i]
   ·have:=gK d c j
    rw[show decide (((x[i]:Nat):Int)<((y[i]:Nat):Int))=false by simp;omega,cf,show decide (((x[i]:Nat):Int)>((y[i]:Nat):Int))=true by simp;exact j,ct]
    unfold Fn;rw[if_neg (by omega),if_pos this]
   ·have:x[i]=y[i]:=by omega
    rw[show decide (((x[i]:Nat):Int)<((y[i]:Nat):Int))=false by simp;omega,cf,show decide (((x[i]:Nat):Int)>((y[i]:Nat):Int))=false by simp;omega,cf,this]
    unfold Fn
    congr 1
    by_cases a1:val (x.take i)<val (y.take i)
    ·rw[if_pos a1,if_pos (by omega)]
    ·by_cases a2:val (y.take i)<val (x.take i)
     ·rw[if_neg a1,if_pos a2,if_neg (by omega),if_pos (by omega)]
     ·rw[if_neg a1,if_neg a2,if_neg (by omega),if_neg (by omega)]
theorem yc {N:Nat} {a b:List Nat} {n m:Nat} {t o t' o':Bool} {K:Int→O R} (j:n=a.length) (k:m=b.length) (d:Ae a) (e:Ae b) (c:fit (a.length+b.length) N) :
  Ml N (Aa a) n t o (Aa b) m t' o' K=K (Fn (val a) (val b)):=by
 subst j k
 have l:=c.1;have q:=c.2
 rw[EO];unfold R8
 dsimp only
 rw[Ck rfl d (c.le (by omega)),Ck rfl e (c.le (by omega))]
 have la:=(Az d).2
 have lb:=(Az e).2
 by_cases f:(Ac (val a)).length=(Ac (val b)).length
 ·rw[show((((Ac (val a)).length:Nat):Int) != (((Ac (val b)).length:Nat):Int))=false by simp;omega,cf,i64 (by omega),o4 (Ab _) (Ab _) (by omega) f _ N (Nat.le_refl _) (by omega),List.take_length,f,List.take_length,Ad,Ad]
 ·rw[show((((Ac (val a)).length:Nat):Int) != (((Ac (val b)).length:Nat):Int))=true by simp;omega,ct]
  by_cases i:(Ac (val a)).length<(Ac (val b)).length
  ·have:=BU i
   rw[NR i,ct]
   unfold Fn;rw[if_pos this]
  ·have:=BU (show(Ac (val b)).length<(Ac (val a)).length by omega)
   rw[VC (by omega),cf]
   unfold Fn;rw[if_neg (by omega),if_pos this]
end
end Gx

namespace Gx
open Go Go.Proofs
open IntKind (wrap)
set_option maxRecDepth 100000
noncomputable section
variable {R:Type} (N:Nat)
def Wl (f:LA) (m:Bool) (e:LA) (l:Bool) (r0:LA→LA→Bool→O R):O R :=
 (Ir 1 (f.drop 1) fun p q=>(Ir 1 (e.drop 1) fun r s=>(F4 N p q false m r s false l (fun n o t u v=>(cond (!t) (r0 [(.bool false),.nsl] [(.bool false),.nsl] false) (Qc f fun w=>(Qc e fun x=>(Ef N (!(w==x)) (u.take (n*1)) n false true (fun b=>(Qc f fun y=>(Ef N y (v.take (o*1)) o false true (fun c=>(cond ((Nat.beq 0 0)&&((Nat.beq (b.length) 2)&&(Nat.beq 2 2))) (cond ((Nat.beq 0 0)&&((Nat.beq (c.length) 2)&&(Nat.beq 2 2))) (Qc c fun z=>(cond z (cond (Nat.ble 2 (c.length)) (cond (Nat.ble 2 (e.length)) (MC N (e.take 2) l (fun aa=>(Lp N (c.take 2) false aa false (fun d=>(cond ((Nat.beq (d.length) 2)&&((Nat.ble 2 (c.length))&&(!false))) (Qc e fun ab=>(cond ab (cond (Nat.ble 2 (b.length)) (A8 N 1 (fun ac=>(Lp N (b.take 2) false ac false (fun g=>(cond ((Nat.beq (g.length) 2)&&((Nat.ble 2 (b.length))&&(!false))) (cond (Nat.ble 2 ((setCells b 0 g).length)) (cond (Nat.ble 2 ((setCells c 0 d).length)) (cond ((Nat.beq (((setCells b 0 g).take 2).length) 2)&&((Nat.ble 2 ((setCells b 0 g).length))&&(!false))) (cond ((Nat.beq (((setCells c 0 d).take 2).length) 2)&&((Nat.ble 2 ((setCells c 0 d).length))&&(!false))) (cond (Nat.ble 2 ((setCells (setCells b 0 g) 0 ((setCells b 0 g).take 2)).length)) (cond (Nat.ble 2 ((setCells (setCells c 0 d) 0 ((setCells c 0 d).take 2)).length)) (r0 ((setCells (setCells b 0 g) 0 ((setCells b 0 g).take 2)).take 2) ((setCells (setCells c 0 d) 0 ((setCells c 0 d).take 2)).take 2) true) none) none) none) none) none) none) none))))) none) (cond (Nat.ble 2 (b.length)) (A8 N 1 (fun ad=>(CF N (b.take 2) false ad false (fun i=>(cond ((Nat.beq (i.length) 2)&&((Nat.ble 2 (b.length))&&(!false))) (cond (Nat.ble 2 ((setCells b 0 i).length)) (cond (Nat.ble 2 ((setCells c 0 d).length)) (cond ((Nat.beq (((setCells b 0 i).take 2).length) 2)&&((Nat.ble 2 ((setCells b 0 i).length))&&(!false))) (cond ((Nat.beq (((setCells c 0 d).take 2).length) 2)&&((Nat.ble 2 ((setCells c 0 d).length))&&(!false))) (cond (Nat.ble 2 ((setCells (setCells b 0 i) 0 ((setCells b 0 i).take 2)).length)) (cond (Nat.ble 2 ((setCells (setCells c 0 d) 0 ((setCells c 0 d).take 2)).length)) (r0 ((setCells (setCells b 0 i) 0 ((setCells b 0 i).take 2)).take 2) ((setCells (setCells c 0 d) 0 ((setCells c 0 d).take 2)).take 2) true) none) none) none) none) none) none) none))))) none))) none))))) none) none) (cond (Nat.ble 2 (b.length)) (cond (Nat.ble 2 (c.length)) (cond ((Nat.beq ((b.take 2).length) 2)&&((Nat.ble 2 (b.length))&&(!false))) (cond ((Nat.beq ((c.take 2).length) 2)&&((Nat.ble 2 (c.length))&&(!false))) (cond (Nat.ble 2 ((setCells b 0 (b.take 2)).length)) (cond (Nat.ble 2 ((setCells c 0 (c.take 2)).length)) (r0 ((setCells b 0 (b.take 2)).take 2) ((setCells c 0 (c.take 2)).take 2) true) none) none) none) none) none) none))) none) none)))))))))))))
def C8:=(Ag (@Wl R)).1
theorem Uq:@C8 R=@Wl R:=(Ag _).2
def qR:Dx:=[(126,Xp N),(83,Gu N),(140,vg N),(139,CD N),(32,C5 N),(141,kI N)]
def OY (F:KF R):LA→LA→Bool→O R:=(fun ae af ag=>F (.tup [(.pagg ae false),(.pagg af false),(.bool ag)]) [])
theorem OZ (f:LA) (m:Bool) (e:LA) (l:Bool) (F:KF R):Cq (qR N) Aeh N 71 [(.pagg f m),(.pagg e l)] [] F=(C8 N f m e l (OY F)):=by
 rw[Uq]
 kernel_rfl
def IP (a:LA) (h:Ah) (k:KF R):O R :=
 match a,h with
 | [(.pagg f m),(.pagg e l)],[]=>(C8 N f m e l (OY k))
 | _,_=>none
theorem O_:Ao N 71 @IP:=by
 intro R Q a h k j;unfold IP;split;exact Av (OZ ..) (OZ ..) ⟨Xq N,Gv N,vh N,CE N,C6 N,kJ N,trivial⟩;exact Ax
def K7:=Aw (O_ N)
def K8:=Cr (O_ N)
def Wm (r0:LA→O R) (e:Bool) (c:LA) (d:Bool) (b:LA):O R :=
 (cond (Nat.ble 2 (c.length)) (cond (Nat.ble 2 (b.length)) (WR N (c.take 2) e (b.take 2) d (fun l=>(cond ((Nat.beq 0 0)&&((Nat.beq (l.length) 2)&&(Nat.beq 2 2))) (cond (Nat.ble 2 (c.length)) (cond (Nat.ble 2 (l.length)) (C8 N (c.take 2) e (l.take 2) false (fun f w af=>(cond ((Nat.beq 0 0)&&((Nat.beq (f.length) 2)&&(Nat.beq 2 2))) (cond ((Nat.beq 0 0)&&((Nat.beq (w.length) 2)&&(Nat.beq 2 2))) (cond (Nat.ble 2 (b.length)) (cond (Nat.ble 2 (l.length)) (C8 N (b.take 2) d (l.take 2) false (fun g x ag=>(cond ((Nat.beq 0 0)&&((Nat.beq (g.length) 2)&&(Nat.beq 2 2))) (cond ((Nat.beq 0 0)&&((Nat.beq (x.length) 2)&&(Nat.beq 2 2))) (Qc g fun y=>(cond y (cond (Nat.ble 2 (f.length)) (R9 N (f.take 2) false (fun i=>(cond (Nat.ble 2 (g.length)) (R9 N (g.take 2) false (fun v=>(cond ((Nat.beq (i.length) 2)&&((Nat.ble 2 (f.length))&&(!false))) (cond ((Nat.beq (v.length) 2)&&((Nat.ble 2 (g.length))&&(!false))) (cond (Nat.ble 2 ((setCells f 0 i).length)) (Ir 1 ((setCells g 0 v).drop 1) fun o p=>(cond ((Nat.beq (((setCells f 0 i).take 2).length) 2)&&(Nat.ble 2 3)) (cond ((Nat.beq 1 1)&&(Nat.ble 3 ((setCells [(.bool false),.nsl,.nsl] 0 ((setCells f 0 i).take 2)).length))) (cond ((Nat.beq 0 0)&&((Nat.beq (((setCells [(.bool false),.nsl,.nsl] 0 ((setCells f 0 i).take 2)).set 2 (.imm o p 1 false false)).length) 3)&&(Nat.beq 3 3))) (cond (Nat.ble 3 (((setCells [(.bool false),.nsl,.nsl] 0 ((setCells f 0 i).take 2)).set 2 (.imm o p 1 false false)).length)) (r0 (((setCells [(.bool false),.nsl,.nsl] 0 ((setCells f 0 i).take 2)).set 2 (.imm o p 1 false false)).take 3)) none) none) none) none)) none) none) none))) none))) none) (cond (Nat.ble 2 (f.length)) (Ir 1 (g.drop 1) fun q r=>(cond ((Nat.beq ((f.take 2).length) 2)&&(Nat.ble 2 3)) (cond ((Nat.beq 1 1)&&(Nat.ble 3 ((setCells [(.bool false),.nsl,.nsl] 0 (f.take 2)).length))) (cond ((Nat.beq 0 0)&&((Nat.beq (((setCells [(.bool false),.nsl,.nsl] 0 (f.take 2)).set 2 (.imm q r 1 false false)).length) 3)&&(Nat.beq 3 3))) (cond (Nat.ble 3 (((setCells [(.bool false),.nsl,.nsl] 0 (f.take 2)).set 2 (.imm q r 1 false false)).length)) (r0 (((setCells [(.bool false),.nsl,.nsl] 0 (f.take 2)).set 2 (.imm q r 1 false false)).take 3)) none) none) none) none)) none))) none) none))) none) none) none) none))) none) none) none))) none) none)
def MD (r0:LA→O R) (q0:O R) (c:LA) (e:Bool) (b:LA) (d:Bool):O R :=
 (cond (Nat.ble 2 (b.length)) (Gl N (b.take 2) d (fun z=>(cond (z==0) (IF N (fun s=>(cond ((Nat.beq 0 0)&&((Nat.beq (s.length) 3)&&(Nat.beq 3 3))) (cond (Nat.ble 3 (s.length)) (r0 (s.take 3)) none) none))) (cond (Nat.ble 2 (b.length)) (E3 N (b.take 2) d (fun n=>(cond ((Nat.beq 0 0)&&((Nat.beq (n.length) 2)&&(Nat.beq 2 2))) (Qc n fun aa=>(cond ((!aa)==true) (Ir 1 (n.drop 1) fun ab ac=>(H6 N ab ac false false [(.int .u32 1)] 1 false true (fun ad=>(cond (cond true ad false) (cond (Nat.ble 2 (c.length)) (E3 N (c.take 2) e (fun m=>(Ir 1 (n.drop 1) fun t u=>(cond ((Nat.beq (m.length) 2)&&(Nat.ble 2 3)) (cond ((Nat.beq 1 1)&&(Nat.ble 3 ((setCells [(.bool false),.nsl,.nsl] 0 m).length))) (cond ((Nat.beq 0 0)&&((Nat.beq (((setCells [(.bool false),.nsl,.nsl] 0 m).set 2 (.imm t u 1 false false)).length) 3)&&(Nat.beq 3 3))) (cond (Nat.ble 3 (((setCells [(.bool false),.nsl,.nsl] 0 m).set 2 (.imm t u 1 false false)).length)) (r0 (((setCells [(.bool false),.nsl,.nsl] 0 m).set 2 (.imm t u 1 false false)).take 3)) none) none) none) none)))) none) q0)))) q0)) none))) none)))) none)
def Gm:=(Ag (fun (N:Nat) (c:LA) (e:Bool) (b:LA) (d:Bool) (r0:LA→O R)=>(MD N r0 (Wm N r0 e c d b) c e b d))).1
theorem WS (c e b d r0):(@Gm R N c e b d r0)=(MD N r0 (Wm N r0 e c d b) c e b d):=by rw[Gm,(Ag _).2]
def du:Hints:={ H:=(hS hL (hS hL (hJ [2,3,4] hL hL))),modes:=[(3,0)] }
def kK:Dx:=[(138,Qg N),(151,sr N),(26,Mj N),(65,Ns N),(152,ve N),(71,K7 N),(153,SM N)]
def tC (F:KF R):=S6 Tryz.f84 du (kK N) [] N F
def Wn (F:KF R):LA→O R:=(fun ae=>F (.pagg ae false) [])
def tD (e:Bool) (c:LA) (d:Bool) (b:LA):St:=⟨[(2,(op 0)),(3,(op 1)),(4,(op 2))],(hq [(bP e 0 c),(bP d 0 b),(bN 0 [(.bool false),.nsl,.nsl])])⟩
def tE (F:KF R):=tC N F [1,1,1] []
theorem kL (F:KF R) (e:Bool) (c:LA) (d:Bool) (b:LA):Eh (tE N F) (tD e c d b)=(Wm N (Wn F) e c d b):=by
 kernel_rfl
theorem dv (c:LA) (e:Bool) (b:LA) (d:Bool) (F:KF R):Cq (kK N) du N 84 [(.pagg c e),(.pagg b d)] [] F=(Gm N c e b d (Wn F)):=by
 rw[WS]
 exact Eq.trans (by kernel_rfl) (El (MD N (Wn F) · c e b d) ((Bo ..).trans (kL N F e c d b)):_)
def WT (a:LA) (h:Ah) (k:KF R):O R :=
 match a,h with
 | [(.pagg c e),(.pagg b d)],[]=>(Gm N c e b d (Wn k))
 | _,_=>none
theorem dw:Ao N 84 @WT:=by
 intro R Q a h k j;unfold WT;split;exact Av (dv ..) (dv ..) ⟨Qh N,su N,Mk N,Nt N,vf N,K8 N,SN N,trivial⟩;exact Ax
def I8:=Aw (dw N)
def I9:=Cr (dw N)
def qS (b c:Int) (r0:LA→O R):O R :=
 (A8 N b (fun e=>(A8 N c (fun f=>(Gm N e false f false (fun d=>(cond ((Nat.beq 0 0)&&((Nat.beq (d.length) 3)&&(Nat.beq 3 3))) (cond (Nat.ble 3 (d.length)) (r0 (d.take 3)) none) none)))))))
def Q6:=(Ag (@qS R)).1
theorem kM:@Q6 R=@qS R:=(Ag _).2
def Aax:Dx:=[(32,C5 N),(84,I8 N)]
def o5 (F:KF R):LA→O R:=(fun g=>F (.pagg g false) [])
theorem o6 (b c:Int) (F:KF R):Cq (Aax N) I0 N 59 [(iv b),(iv c)] [] F=(Q6 N b c (o5 F)):=by
 rw[kM]
 kernel_rfl
def kN (a:LA) (h:Ah) (k:KF R):O R :=
 match a,h with
 | [(.int .i64 b),(.int .i64 c)],[]=>(Q6 N b c (o5 k))
 | _,_=>none
theorem o7:Ao N 59 @kN:=by
 intro R Q a h k j;unfold kN;split;exact Av (o6 ..) (o6 ..) ⟨C6 N,I9 N,trivial⟩;exact Ax
def yd:=Aw (o7 N)
def ye:=Cr (o7 N)
def Fp (r0:LA→LA→Bool→O R) (g f:Nat) (e:Bool) (b:LA) (d:Bool) (c i l:LA) (m:Bool):O R :=
 (cond m (RO N (i.take (g*1)) g false true [(.int .u32 1)] 1 false true (fun n p=>(Ir 1 (c.drop 1) fun r s=>(Xk N r s false d (l.take (f*1)) f false true (fun o ak q=>(Qc b fun t=>(Qc c fun u=>(Cv N (!(t==u)) n p (fun v=>(Cv N false o q (fun w=>(r0 [(.bool v),(.imm (p.take (n*1)) n 1 false false)] [(.bool w),(.imm (q.take (o*1)) o 1 false false)] true)))))))))))) (Qc b fun x=>(Qc c fun y=>(Cv N (!(x==y)) g i (fun z=>(Cv N false f l (fun aa=>(r0 [(.bool z),(.imm (i.take (g*1)) g 1 false false)] [(.bool aa),(.imm (l.take (f*1)) f 1 false false)] true))))))))
def CG (r0:LA→LA→Bool→O R) (q0:Nat→Nat→LA→LA→Bool→O R) (b:LA) (e:Bool) (c:LA) (d:Bool):O R :=
 (Ir 1 (b.drop 1) fun ab ac=>(Ir 1 (c.drop 1) fun ad ae=>(De N ab ac false e ad ae false d (fun g f af i l=>(cond (!af) (r0 [(.bool false),.nsl] [(.bool false),.nsl] false) (Qc b fun ag=>(cond (ag==true) (q0 g f i l (cond true (decide (((f:Nat):Int)>0)) false)) (q0 g f i l false))))))))
def D5:=(Ag (fun (N:Nat) (b:LA) (e:Bool) (c:LA) (d:Bool) (r0:LA→LA→Bool→O R)=>(CG N r0 (fun g f i l m=>(Fp N r0 g f e b d c i l m)) b e c d))).1
theorem O' (b e c d r0):(@D5 R N b e c d r0)=(CG N r0 (fun g f i l m=>(Fp N r0 g f e b d c i l m)) b e c d):=by rw[D5,(Ag _).2]
def WU:Hints:={ H:=(hS hL (hS hL (hS hL (hS (hJ [2,3,4,5,7,8,28] hL hL) hL)))),modes:=[(3,0),(3,0),(0,0)] }
def dx:Dx:=[(134,BV N),(135,oC N),(136,bA N),(132,G6 N)]
def qT (F:KF R):=S6 Tryz.f67 WU (dx N) [] N F
def Sa (F:KF R):LA→LA→Bool→O R:=(fun ah ai aj=>F (.tup [(.pagg ah false),(.pagg ai false),(.bool aj)]) [])
def qU (g f:Nat) (e:Bool) (b:LA) (d:Bool) (c i l:LA) (m:Bool):St:=⟨[(2,(op 0)),(3,(op 1)),(4,(op 2)),(5,(op 3)),(7,(.own 300004 0 g)),(8,(.own 300005 0 f)),(28,(.bool m))],(hq [(bP e 0 b),(bP d 0 c),(bN 0 [(.bool false),.nsl]),(bN 0 [(.bool false),.nsl]),(bQ 1 i),(bQ 1 l)])⟩
def qV (F:KF R):=qT N F [1,1,1,0,1] []
theorem fk (F:KF R) (g f:Nat) (e:Bool) (b:LA) (d:Bool) (c i l:LA):∀ (m:Bool),Eh (qV N F) (qU g f e b d c i l m)=(Fp N (Sa F) g f e b d c i l m):=by
 intro m
 kernel_rfl
theorem WV (b:LA) (e:Bool) (c:LA) (d:Bool) (F:KF R):Cq (dx N) WU N 67 [(.pagg b e),(.pagg c d)] [] F=(D5 N b e c d (Sa F)):=by
 rw[O']
 exact Eq.trans (by kernel_rfl) (El (CG N (Sa F) · b e c d) (funext fun g=>funext fun f=>funext fun i=>funext fun l=>funext fun m=>(Bo ..).trans (fk N F g f e b d c i l m)):_)
def PA (a:LA) (h:Ah) (k:KF R):O R :=
 match a,h with
 | [(.pagg b e),(.pagg c d)],[]=>(D5 N b e c d (Sa k))
 | _,_=>none
theorem WW:Ao N 67 @PA:=by
 intro R Q a h k j;unfold PA;split;exact Av (WV ..) (WV ..) ⟨BW N,oD N,bB N,G7 N,trivial⟩;exact Ax
def Sb:=Aw (WW N)
def Sc:=Cr (WW N)
def IQ (b:LA) (d:Bool) (c:LA) (e:Bool) (r0:Int→O R):O R :=
 (cond (Nat.ble 2 (b.length)) (Ij N (b.take 2) d (fun f=>(cond (Nat.ble 2 (c.length)) (Ij N (c.take 2) e (fun g=>(cond (decide (f<g)) (r0 (-1)) (cond (decide (f>g)) (r0 1) (cond (decide (f<0)) (Ir 1 (c.drop 1) fun i l=>(Ir 1 (b.drop 1) fun m n=>(C1 N i l false e m n false d (fun o=>(r0 o))))) (Ir 1 (b.drop 1) fun p q=>(Ir 1 (c.drop 1) fun r s=>(C1 N p q false d r s false e (fun t=>(r0 t)))))))))) none))) none)
def L8:=(Ag (@IQ R)).1
theorem IR:@L8 R=@IQ R:=(Ag _).2
def qW:Dx:=[(125,T5 N),(131,J8 N)]
def PB (F:KF R):Int→O R:=(fun u=>F (iv u) [])
theorem PC (b:LA) (d:Bool) (c:LA) (e:Bool) (F:KF R):Cq (qW N) Cn N 63 [(.pagg b d),(.pagg c e)] [] F=(L8 N b d c e (PB F)):=by
 rw[IR]
 kernel_rfl
def IS (a:LA) (h:Ah) (k:KF R):O R :=
 match a,h with
 | [(.pagg b d),(.pagg c e)],[]=>(L8 N b d c e (PB k))
 | _,_=>none
theorem PD:Ao N 63 @IS:=by
 intro R Q a h k j;unfold IS;split;exact Av (PC ..) (PC ..) ⟨T6 N,J9 N,trivial⟩;exact Ax
def Xr:=Aw (PD N)
def Xs:=Cr (PD N)
def qX (b:LA) (c:Bool) (r0:Bool→Nat→LA→O R):O R :=
 (Ir 1 (b.drop 1) fun f g=>(Nj N f g false c (fun d e=>(Cv N false d e (fun i=>(r0 i d e))))))
def kO:=(Ag (@qX R)).1
theorem kP:@kO R=@qX R:=(Ag _).2
def Aay:Dx:=[(212,Pf N),(132,G6 N)]
def o8 (F:KF R):Bool→Nat→LA→O R:=(fun l m n=>F (.agg [(.bool l),(.own 300000 0 m)]) (hq [(bQ 1 n)]))
theorem o_ (b:LA) (c:Bool) (F:KF R):Cq (Aay N) Cn N 200 [(.pagg b c)] [] F=(kO N b c (o8 F)):=by
 rw[kP]
 kernel_rfl
def kQ (a:LA) (h:Ah) (k:KF R):O R :=
 match a,h with
 | [(.pagg b c)],[]=>(kO N b c (o8 k))
 | _,_=>none
theorem oa:Ao N 200 @kQ:=by
 intro R Q a h k j;unfold kQ;split;exact Av (o_ ..) (o_ ..) ⟨Pg N,G7 N,trivial⟩;exact Ax
def yf:=Aw (oa N)
def yg:=Cr (oa N)
def Qj (N:Nat) (r0:Int→Bool→O R) (d:Int) (c:Bool) (b:LA) (e:Bool):O R :=
 (cond e (r0 (wrap .i64 (wrap .u64 ((0:Int) - d))) true) (Qc b fun f=>(cond ((!f)==true) (cond (cond true (decide (d<9223372036854775808)) false) (r0 (wrap .i64 d) true) (r0 0 false)) (r0 0 false))))
def ME (r0:Int→Bool→O R) (q0:Int→Bool→O R) (b:LA) (c:Bool):O R :=
 (Ir 1 (b.drop 1) fun g i=>(Pj N g i false c (fun d l=>(cond (!l) (r0 0 false) (Qc b fun m=>(cond (m==true) (q0 d (cond true (decide (d≤9223372036854775808)) false)) (q0 d false)))))))
def Qk:=(Ag (fun (N:Nat) (b:LA) (c:Bool) (r0:Int→Bool→O R)=>(ME N r0 (fun d e=>(Qj N r0 d c b e)) b c))).1
theorem WX (b c r0):(@Qk R N b c r0)=(ME N r0 (fun d e=>(Qj N r0 d c b e)) b c):=by rw[Qk,(Ag _).2]
def dy:Hints:={ H:=(hS hL (hS hL (hS (hS (hS hL (hS hL (hJ [1,4,15] hL hL))) hL) hL))) }
def kR:Dx:=[(210,UX N)]
def tF (F:KF R):=S6 Tryz.f201 dy (kR N) [] N F
def Wo (F:KF R):Int→Bool→O R:=(fun n o=>F (.tup [(iv n),(.bool o)]) [])
def tG (d:Int) (c:Bool) (b:LA) (e:Bool):St:=⟨[(1,(op 0)),(4,(.int .u64 d)),(15,(.bool e))],(hq [(bP c 0 b)])⟩
def tH (F:KF R):=tF N F [1,1,0,0,1,1,1] []
theorem kS (F:KF R) (d:Int) (c:Bool) (b:LA):∀ (e:Bool),Eh (tH N F) (tG d c b e)=(Qj N (Wo F) d c b e):=by
 intro e
 kernel_rfl
theorem dz (b:LA) (c:Bool) (F:KF R):Cq (kR N) dy N 201 [(.pagg b c)] [] F=(Qk N b c (Wo F)):=by
 rw[WX]
 exact Eq.trans (by kernel_rfl) (El (ME N (Wo F) · b c) (funext fun d=>funext fun e=>(Bo ..).trans (kS N F d c b e)):_)
def WY (a:LA) (h:Ah) (k:KF R):O R :=
 match a,h with
 | [(.pagg b c)],[]=>(Qk N b c (Wo k))
 | _,_=>none
theorem eA:Ao N 201 @WY:=by
 intro R Q a h k j;unfold WY;split;exact Av (dz ..) (dz ..) ⟨UY N,trivial⟩;exact Ax
def tI:=Aw (eA N)
def tJ:=Cr (eA N)
def Zz (r0:LA→O R) (d:Bool) (b:LA) (e:Bool) (c:LA):O R :=
 (cond (Nat.ble 3 (b.length)) (Qe N (b.take 3) d (fun f o p q r=>(cond ((Nat.beq 0 0)&&((Nat.beq (f.length) 2)&&(Nat.beq 2 2))) (cond (Nat.ble 3 (c.length)) (Qe N (c.take 3) e (fun g s t u v=>(cond ((Nat.beq 0 0)&&((Nat.beq (g.length) 2)&&(Nat.beq 2 2))) (cond (Nat.ble 2 (f.length)) (cond (Nat.ble 2 (g.length)) (Pe N (f.take 2) o (g.take 2) s (fun w m x=>(BO N p q false r t u false v (fun n y=>(Po N [(.bool w),(.imm (x.take (m*1)) m 1 false true)] true (y.take (n*1)) n false true (fun i=>(cond ((Nat.beq 0 0)&&((Nat.beq (i.length) 3)&&(Nat.beq 3 3))) (cond (Nat.ble 3 (i.length)) (r0 (i.take 3)) none) none))))))) none) none) none))) none) none))) none)
def MF (r0:LA→O R) (q0:O R) (b:LA) (d:Bool) (c:LA) (e:Bool):O R :=
 (cond (Nat.ble 3 (b.length)) (K3 N (b.take 3) d (fun z aa ab=>(cond (Nat.ble 3 (c.length)) (K3 N (c.take 3) e (fun ac ad ae=>(cond (ab==true) (cond (cond true ae false) (Gs N (wrap .i64 (z*ac)) (wrap .i64 (aa*ad)) (fun l=>(cond ((Nat.beq 0 0)&&((Nat.beq (l.length) 3)&&(Nat.beq 3 3))) (cond (Nat.ble 3 (l.length)) (r0 (l.take 3)) none) none))) q0) q0))) none))) none)
def b6:=(Ag (fun (N:Nat) (b:LA) (d:Bool) (c:LA) (e:Bool) (r0:LA→O R)=>(MF N r0 (Zz N r0 d b e c) b d c e))).1
theorem CH (b d c e r0):(@b6 R N b d c e r0)=(MF N r0 (Zz N r0 d b e c) b d c e):=by rw[b6,(Ag _).2]
def oc:Hints:={ H:=(hS hL (hS hL (hS hL (hJ [2,3,4] hL hL)))),modes:=[(3,0)] }
def tK:Dx:=[(127,dD N),(128,HM N),(130,HO N),(68,Y7 N),(137,aZ N),(129,VX N)]
def yh (F:KF R):=S6 Tryz.f76 oc (tK N) [] N F
def MG (F:KF R):LA→O R:=(fun af=>F (.pagg af false) [])
def yi (d:Bool) (b:LA) (e:Bool) (c:LA):St:=⟨[(2,(op 0)),(3,(op 1)),(4,(op 2))],(hq [(bP d 0 b),(bP e 0 c),(bN 0 [(.bool false),.nsl,.nsl])])⟩
def yj (F:KF R):=yh N F [1,1,1,1] []
theorem qY (F:KF R) (d:Bool) (b:LA) (e:Bool) (c:LA):Eh (yj N F) (yi d b e c)=(Zz N (MG F) d b e c):=by
 kernel_rfl
theorem od (b:LA) (d:Bool) (c:LA) (e:Bool) (F:KF R):Cq (tK N) oc N 76 [(.pagg b d),(.pagg c e)] [] F=(b6 N b d c e (MG F)):=by
 rw[CH]
 exact Eq.trans (by kernel_rfl) (El (MF N (MG F) · b d c e) ((Bo ..).trans (qY N F d b e c)):_)
def kT (a:LA) (h:Ah) (k:KF R):O R :=
 match a,h with
 | [(.pagg b d),(.pagg c e)],[]=>(b6 N b d c e (MG k))
 | _,_=>none
theorem oe:Ao N 76 @kT:=by
 intro R Q a h k j;unfold kT;split;exact Av (od ..) (od ..) ⟨dE N,HN N,HP N,Y8 N,a6 N,VY N,trivial⟩;exact Ax
def yk:=Aw (oe N)
def ym:=Cr (oe N)
def b7 (d:LA) (e:Bool) (r0:LA→LA→LA→Bool→O R):O R :=
 (cond (Nat.ble 3 (d.length)) (Qe N (d.take 3) e (fun g m i l f=>(cond ((Nat.beq 0 0)&&((Nat.beq (g.length) 2)&&(Nat.beq 2 2))) (cond (Nat.ble 2 (g.length)) (D5 N (g.take 2) m [(.bool false),(.imm i l 1 false f)] (f||false) (fun b c r=>(cond ((Nat.beq 0 0)&&((Nat.beq (b.length) 2)&&(Nat.beq 2 2))) (cond ((Nat.beq 0 0)&&((Nat.beq (c.length) 2)&&(Nat.beq 2 2))) (cond (Nat.ble 2 (b.length)) (cond (Nat.ble 2 (c.length)) (cond ((Nat.beq ((b.take 2).length) 2)&&((Nat.ble 2 (b.length))&&(!false))) (cond ((Nat.beq ((c.take 2).length) 2)&&((Nat.ble 2 (c.length))&&(!false))) (cond (Nat.ble 2 ((setCells b 0 (b.take 2)).length)) (cond (Nat.ble 2 ((setCells c 0 (c.take 2)).length)) (r0 ((setCells b 0 (b.take 2)).take 2) ((setCells c 0 (c.take 2)).take 2) [(.bool false),(.imm i l 1 false f)] (f||false)) none) none) none) none) none) none) none) none))) none) none))) none)
def IT:=(Ag (@b7 R)).1
theorem WZ:@IT R=@b7 R:=(Ag _).2
def tL:Hints:={ H:=hL,modes:=[(3,0),(3,0),(3,0)] }
def vj:Dx:=[(130,HO N),(67,Sb N)]
def eB (F:KF R):LA→LA→LA→Bool→O R:=(fun n o p q=>F (.tup [(.pagg n false),(.pagg o false),(.pagg p q)]) [])
theorem eC (d:LA) (e:Bool) (F:KF R):Cq (vj N) tL N 143 [(.pagg d e)] [] F=(IT N d e (eB F)):=by
 rw[WZ]
 kernel_rfl
def W_ (a:LA) (h:Ah) (k:KF R):O R :=
 match a,h with
 | [(.pagg d e)],[]=>(IT N d e (eB k))
 | _,_=>none
theorem eD:Ao N 143 @W_:=by
 intro R Q a h k j;unfold W_;split;exact Av (eC ..) (eC ..) ⟨HP N,Sc N,trivial⟩;exact Ax
def tM:=Aw (eD N)
def tN:=Cr (eD N)
def Ql (r0:LA→O R) (c:Int) (b:LA) (d:Bool):O R :=
 (cond ((decide (c>0))==false) (cond ((c==0)==true) (cond (cond false true (cond true d false)) (cond (Nat.ble 2 (b.length)) (Bm N 1 (fun q l r=>(BQ N (b.take 2) false [(.bool q),(.imm (r.take (l*1)) l 1 false true)] true (fun s m t=>(r0 [(.bool s),(.imm (t.take (m*1)) m 1 false false)]))))) none) (cond (Nat.ble 2 (b.length)) (cond ((Nat.beq 0 0)&&((Nat.beq ((b.take 2).length) 2)&&(Nat.beq 2 2))) (cond (Nat.ble 2 ((b.take 2).length)) (r0 ((b.take 2).take 2)) none) none) none)) (cond (Nat.ble 2 (b.length)) (cond ((Nat.beq 0 0)&&((Nat.beq ((b.take 2).length) 2)&&(Nat.beq 2 2))) (cond (Nat.ble 2 ((b.take 2).length)) (r0 ((b.take 2).take 2)) none) none) none)) (cond (Nat.ble 2 (b.length)) (Bm N 1 (fun u n v=>(BQ N (b.take 2) false [(.bool u),(.imm (v.take (n*1)) n 1 false true)] true (fun w o x=>(r0 [(.bool w),(.imm (x.take (o*1)) o 1 false false)]))))) none))
def MH (r0:LA→O R) (q0:Int→LA→Bool→O R) (e:LA) (f:Bool):O R :=
 (cond (Nat.ble 3 (e.length)) (IT N (e.take 3) f (fun b g i y=>(cond ((Nat.beq 0 0)&&((Nat.beq (b.length) 2)&&(Nat.beq 2 2))) (cond ((Nat.beq 0 0)&&((Nat.beq (g.length) 2)&&(Nat.beq 2 2))) (cond ((Nat.beq 0 0)&&((Nat.beq (i.length) 2)&&(Nat.beq 2 2))) (cond (Nat.ble 2 (g.length)) (cond (Nat.ble 2 (g.length)) (BQ N (g.take 2) false (g.take 2) false (fun z p aa=>(cond (Nat.ble 2 (i.length)) (L8 N [(.bool z),(.imm (aa.take (p*1)) p 1 false true)] true (i.take 2) y (fun c=>(Ir 1 (b.drop 1) fun ag ab=>(cond ((decide (((ab:Nat):Int)>0))==true) (Ir 1 (b.drop 1) fun ac ad=>(cond (Ap 0 ad) (Gb .u32 ac fun ae=>(q0 c b (cond true ((Int.tmod ae 2)==1) false))) none)) (q0 c b false))))) none))) none) none) none) none) none))) none)
def Z0:=(Ag (fun (N:Nat) (e:LA) (f:Bool) (r0:LA→O R)=>(MH N r0 (fun c b d=>(Ql N r0 c b d)) e f))).1
theorem XA (e f r0):(@Z0 R N e f r0)=(MH N r0 (fun c b d=>(Ql N r0 c b d)) e f):=by rw[Z0,(Ag _).2]
def eE:Hints:={ H:=(hS hL (hS hL (hS hL (hJ [2,3,6,7] hL hL)))),modes:=[(3,0)] }
def kU:Dx:=[(143,tM N),(144,oK N),(63,Xr N),(64,Fw N)]
def tO (F:KF R):=S6 Tryz.f75 eE (kU N) [] N F
def Wp (F:KF R):LA→O R:=(fun af=>F (.pagg af false) [])
def tP (c:Int) (b:LA) (d:Bool):St:=⟨[(2,(op 0)),(3,(op 1)),(6,(iv c)),(7,(.bool d))],(hq [(bN 0 [(.bool false),.nsl]),(bQ 0 b)])⟩
def tQ (F:KF R):=tO N F [1,1,1,1] []
theorem kV (F:KF R) (c:Int) (b:LA):∀ (d:Bool),Eh (tQ N F) (tP c b d)=(Ql N (Wp F) c b d):=by
 intro d
 kernel_rfl
theorem eF (e:LA) (f:Bool) (F:KF R):Cq (kU N) eE N 75 [(.pagg e f)] [] F=(Z0 N e f (Wp F)):=by
 rw[XA]
 exact Eq.trans (by kernel_rfl) (El (MH N (Wp F) · e f) (funext fun c=>funext fun b=>funext fun d=>(Bo ..).trans (kV N F c b d)):_)
def XB (a:LA) (h:Ah) (k:KF R):O R :=
 match a,h with
 | [(.pagg e f)],[]=>(Z0 N e f (Wp k))
 | _,_=>none
theorem eG:Ao N 75 @XB:=by
 intro R Q a h k j;unfold XB;split;exact Av (eF ..) (eF ..) ⟨tN N,oL N,Xs N,Fx N,trivial⟩;exact Ax
def tR:=Aw (eG N)
def tS:=Cr (eG N)
def CI (b:LA) (d:Bool) (c:LA) (e:Bool) (r0:Bool→O R):O R :=
 (Qc b fun f=>(Qc c fun g=>(cond ((f==g)==true) (Ir 1 (b.drop 1) fun i l=>(Ir 1 (c.drop 1) fun m n=>(H6 N i l false d m n false e (fun o=>(r0 (cond true o false)))))) (r0 false))))
def H8:=(Ag (@CI R)).1
theorem Xt:@H8 R=@CI R:=(Ag _).2
def tT:Dx:=[(65,Ns N)]
def XC (F:KF R):Bool→O R:=(fun p=>F (.bool p) [])
theorem XD (b:LA) (d:Bool) (c:LA) (e:Bool) (F:KF R):Cq (tT N) Cn N 25 [(.pagg b d),(.pagg c e)] [] F=(H8 N b d c e (XC F)):=by
 rw[Xt]
 kernel_rfl
def PE (a:LA) (h:Ah) (k:KF R):O R :=
 match a,h with
 | [(.pagg b d),(.pagg c e)],[]=>(H8 N b d c e (XC k))
 | _,_=>none
theorem XE:Ao N 25 @PE:=by
 intro R Q a h k j;unfold PE;split;exact Av (XD ..) (XD ..) ⟨Nt N,trivial⟩;exact Ax
def XF:=Aw (XE N)
def XG:=Cr (XE N)
def CJ (b:LA) (d:Bool) (c:LA) (e:Bool) (r0:Bool→O R):O R :=
 (cond (Nat.ble 2 (b.length)) (cond (Nat.ble 2 (c.length)) (H8 N (b.take 2) d (c.take 2) e (fun f=>(cond (f==true) (Ir 1 (b.drop 2) fun g i=>(Ir 1 (c.drop 2) fun l m=>(H6 N g i false d l m false e (fun n=>(r0 (cond true n false)))))) (r0 false)))) none) none)
def D6:=(Ag (@CJ R)).1
theorem Xu:@D6 R=@CJ R:=(Ag _).2
def tU:Dx:=[(25,XF N),(65,Ns N)]
def XH (F:KF R):Bool→O R:=(fun o=>F (.bool o) [])
theorem XI (b:LA) (d:Bool) (c:LA) (e:Bool) (F:KF R):Cq (tU N) Cn N 27 [(.pagg b d),(.pagg c e)] [] F=(D6 N b d c e (XH F)):=by
 rw[Xu]
 kernel_rfl
def PF (a:LA) (h:Ah) (k:KF R):O R :=
 match a,h with
 | [(.pagg b d),(.pagg c e)],[]=>(D6 N b d c e (XH k))
 | _,_=>none
theorem XJ:Ao N 27 @PF:=by
 intro R Q a h k j;unfold PF;split;exact Av (XI ..) (XI ..) ⟨XG N,Nt N,trivial⟩;exact Ax
def CK:=Aw (XJ N)
def CL:=Cr (XJ N)
def b8 (b:LA) (c:Bool) (r0:LA→O R):O R :=
 (cond (Nat.ble 2 (b.length)) (Ir 1 (b.drop 2) fun e f=>(Gm N (b.take 2) c [(.bool false),(.imm e f 1 false c)] (c||false) (fun d=>(cond ((Nat.beq 0 0)&&((Nat.beq (d.length) 3)&&(Nat.beq 3 3))) (cond (Nat.ble 3 (d.length)) (r0 (d.take 3)) none) none)))) none)
def B4:=(Ag (@b8 R)).1
theorem XK:@B4 R=@b8 R:=(Ag _).2
def vq:Dx:=[(84,I8 N)]
def eH (F:KF R):LA→O R:=(fun g=>F (.pagg g false) [])
theorem eI (b:LA) (c:Bool) (F:KF R):Cq (vq N) I0 N 28 [(.pagg b c)] [] F=(B4 N b c (eH F)):=by
 rw[XK]
 kernel_rfl
def XL (a:LA) (h:Ah) (k:KF R):O R :=
 match a,h with
 | [(.pagg b c)],[]=>(B4 N b c (eH k))
 | _,_=>none
theorem eJ:Ao N 28 @XL:=by
 intro R Q a h k j;unfold XL;split;exact Av (eI ..) (eI ..) ⟨I9 N,trivial⟩;exact Ax
def Eo:=Aw (eJ N)
def Ep:=Cr (eJ N)
def CM (d:LA) (e:Bool) (b:LA) (c:Bool) (r0:Bool→O R):O R :=
 (cond (Nat.ble 2 (b.length)) (cond (Nat.ble 2 (d.length)) (C8 N (b.take 2) c (d.take 2) e (fun i f g=>(cond ((Nat.beq 0 0)&&((Nat.beq (i.length) 2)&&(Nat.beq 2 2))) (cond ((Nat.beq 0 0)&&((Nat.beq (f.length) 2)&&(Nat.beq 2 2))) (cond (g==true) (cond (Nat.ble 2 (f.length)) (Gl N (f.take 2) false (fun l=>(cond ((cond true (l==0) false)==false) (cond ((!g)==true) (cond (Nat.ble 2 (b.length)) (Gl N (b.take 2) c (fun m=>(r0 (cond false true (cond true (m==0) false))))) none) (r0 false)) (r0 true)))) none) (cond ((!g)==true) (cond (Nat.ble 2 (b.length)) (Gl N (b.take 2) c (fun n=>(r0 (cond false true (cond true (n==0) false))))) none) (r0 false))) none) none))) none) none)
def Mn:=(Ag (@CM R)).1
theorem EQ:@Mn R=@CM R:=(Ag _).2
def mj:Dx:=[(71,K7 N),(138,Qg N)]
def IU (F:KF R):Bool→O R:=(fun o=>F (.bool o) [])
theorem IV (d:LA) (e:Bool) (b:LA) (c:Bool) (F:KF R):Cq (mj N) Cn N 70 [(.pagg d e),(.pagg b c)] [] F=(Mn N d e b c (IU F)):=by
 rw[EQ]
 kernel_rfl
def ER (a:LA) (h:Ah) (k:KF R):O R :=
 match a,h with
 | [(.pagg d e),(.pagg b c)],[]=>(Mn N d e b c (IU k))
 | _,_=>none
theorem IW:Ao N 70 @ER:=by
 intro R Q a h k j;unfold ER;split;exact Av (IV ..) (IV ..) ⟨K8 N,Qh N,trivial⟩;exact Ax
def kW:=Aw (IW N)
def kX:=Cr (IW N)
def CN (b:LA) (d:Bool) (c:LA) (e:Bool) (r0:Int→O R):O R :=
 (cond (Nat.ble 2 (b.length)) (cond (Nat.ble 2 (c.length)) (CF N (b.take 2) d (c.take 2) e (fun f=>(Gl N f false (fun g=>(r0 g))))) none) none)
def Ja:=(Ag (@CN R)).1
theorem ES:@Ja R=@CN R:=(Ag _).2
def ml:Dx:=[(141,kI N),(138,Qg N)]
def IX (F:KF R):Int→O R:=(fun i=>F (iv i) [])
theorem IY (b:LA) (d:Bool) (c:LA) (e:Bool) (F:KF R):Cq (ml N) Cn N 72 [(.pagg b d),(.pagg c e)] [] F=(Ja N b d c e (IX F)):=by
 rw[ES]
 kernel_rfl
def ET (a:LA) (h:Ah) (k:KF R):O R :=
 match a,h with
 | [(.pagg b d),(.pagg c e)],[]=>(Ja N b d c e (IX k))
 | _,_=>none
theorem IZ:Ao N 72 @ET:=by
 intro R Q a h k j;unfold ET;split;exact Av (IY ..) (IY ..) ⟨kJ N,Qh N,trivial⟩;exact Ax
def kY:=Aw (IZ N)
def kZ:=Cr (IZ N)
def Wq (N:Nat) (k0:Nat→Int→LA→O R) (r0:Nat→LA→O R) (d:LA) (c:Nat) (f g:Bool) (e:LA) (b:Nat) (i l:Bool) (m:Nat) (k1:Int→Int→Int→LA→O R) (o t p:Int) (s:LA):O R :=
 (cond (decide (p<((b:Nat):Int))) (cond (Ap (wrap .i64 (o+p)) m) (Gb .u32 (s.drop (0+(((wrap .i64 (o+p)).toNat)*1))) fun u=>(cond (Ap o c) (Gb .u32 (d.drop ((o.toNat)*1)) fun v=>(cond (Ap p b) (Gb .u32 (e.drop ((p.toNat)*1)) fun w=>(cond (Ap (wrap .i64 (o+p)) m) (cond ((Nat.beq 1 1)&&((Nat.ble ((0+(((wrap .i64 (o+p)).toNat)*1))+1) (s.length))&&(!false))) (k1 o (Int.fdiv (wrap .u64 (t+(wrap .u64 ((wrap .u64 u)+(wrap .u64 ((wrap .u64 v)*(wrap .u64 w))))))) (2 ^ 32)) (wrap .i64 (p+1)) (s.set (0+(((wrap .i64 (o+p)).toNat)*1)) (.int .u32 (wrap .u32 (wrap .u64 (t+(wrap .u64 ((wrap .u64 u)+(wrap .u64 ((wrap .u64 v)*(wrap .u64 w))))))))))) none) none)) none)) none)) none) (cond (Ap (wrap .i64 (o+((b:Nat):Int))) m) (cond ((Nat.beq 1 1)&&((Nat.ble ((0+(((wrap .i64 (o+((b:Nat):Int))).toNat)*1))+1) (s.length))&&(!false))) (k0 m (wrap .i64 (o+1)) (s.set (0+(((wrap .i64 (o+((b:Nat):Int))).toNat)*1)) (.int .u32 (wrap .u32 t)))) none) none))
def L9 (k0:Nat→Int→LA→O R) (r0:Nat→LA→O R) (d:LA) (c:Nat) (f g:Bool) (e:LA) (b:Nat) (i l:Bool) (m:Nat):Nat→Int→Int→Int→LA→O R
 | 0,_,_,_,_=>none
 | n+1,o,t,p,s=>(Wq N k0 r0 d c f g e b i l m (L9 k0 r0 d c f g e b i l m n) o t p s)
def Wr (r0:Nat→LA→O R) (d:LA) (c:Nat) (f g:Bool) (e:LA) (b:Nat) (i l:Bool) (k0:Nat→Int→LA→O R) (q1:Int→Int→Int→LA→O R) (m:Nat) (q:Int) (r:LA):O R :=
 (cond (decide (q<((c:Nat):Int))) (q1 q 0 0 r) (Co N (r.take (m*1)) m false true (fun x y=>(r0 x y))))
def Hf (r0:Nat→LA→O R) (d:LA) (c:Nat) (f g:Bool) (e:LA) (b:Nat) (i l:Bool):Nat→Nat→Int→LA→O R
 | 0,_,_,_=>none
 | n+1,m,q,r=>(Wr N r0 d c f g e b i l (Hf r0 d c f g e b i l n) (fun o t p s=>(L9 N (Hf r0 d c f g e b i l n) r0 d c f g e b i l m N o t p s)) m q r)
def XM (N:Nat) (r0:Nat→LA→O R) (q0:Nat→Int→LA→O R) (d:LA) (c:Nat) (f g:Bool) (e:LA) (b:Nat) (i l:Bool):O R :=
 (cond ((decide (0≤(wrap .i64 (((c:Nat):Int)+((b:Nat):Int)))))&&((decide ((wrap .i64 (((c:Nat):Int)+((b:Nat):Int)))≤(wrap .i64 (((c:Nat):Int)+((b:Nat):Int)))))&&((decide ((wrap .i64 (((c:Nat):Int)+((b:Nat):Int)))≤140737488355328))&&(decide (((wrap .i64 (((c:Nat):Int)+((b:Nat):Int)))*((4:Nat):Int))≤140737488355328))))) (q0 ((wrap .i64 (((c:Nat):Int)+((b:Nat):Int))).toNat) 0 (List.replicate ((wrap .i64 (((c:Nat):Int)+((b:Nat):Int))).toNat) (.int .u32 0))) none)
def MI:=(Ag (fun (N:Nat) (d:LA) (c:Nat) (f g:Bool) (e:LA) (b:Nat) (i l:Bool) (r0:Nat→LA→O R)=>(XM N r0 (fun m q r=>(Hf N r0 d c f g e b i l N m q r)) d c f g e b i l))).1
theorem eK (d c f g e b i l r0):(@MI R N d c f g e b i l r0)=(XM N r0 (fun m q r=>(Hf N r0 d c f g e b i l N m q r)) d c f g e b i l):=by rw[MI,(Ag _).2]
def k5:Hints:={ H:=(hS hL (hS hL (hS (hS hL (hS (hP [0,1,5,6] (hS hL (hS (hS (hS hL (hS (hS hL (hS (hP [0,1,5,6,7,8] hL) hL)) hL)) hL) hL))) hL)) hL))),nils:=[(4,1)],modes:=[(2,1)] }
def og:Dx:=[(150,Em N)]
def k6 (F:KF R):=S6 Tryz.f156 k5 (og N) [] N F
def Jb (F:KF R):Nat→LA→O R:=(fun z aa=>F (.own 300000 0 z) (hq [(bQ 1 aa)]))
def vr (d:LA) (c:Nat) (f g:Bool) (e:LA) (b:Nat) (i l:Bool) (m:Nat) (o t p:Int) (s:LA):St:=⟨[(0,(.imm d c 1 f g)),(1,(.imm e b 1 i l)),(5,(.own 300000 0 m)),(6,(iv o)),(7,(.int .u64 t)),(8,(iv p))],(hq [(bQ 1 s)])⟩
def vt (F:KF R) (Q0:St→O R):=k6 N F [1,1,0,1,0,0,1,0,0,1,0,1,0] [Q0]
def SP (d:LA) (c:Nat) (f g:Bool) (e:LA) (b:Nat) (i l:Bool) (m:Nat) (q:Int) (r:LA):St:=⟨[(0,(.imm d c 1 f g)),(1,(.imm e b 1 i l)),(5,(.own 300000 0 m)),(6,(iv q))],(hq [(bQ 1 r)])⟩
def k7 (F:KF R):=k6 N F [1,1,0,1,0] []
theorem PG (Q0:St→O R) (F:KF R) (d:LA) (c:Nat) (f g:Bool) (e:LA) (b:Nat) (i l:Bool) (m:Nat):∀ (n:Nat) (o t p:Int) (s:LA),Ay (vt N F Q0) n (vr d c f g e b i l m o t p s)=(L9 N (fun m q r=>Q0 (SP d c f g e b i l m q r)) (Jb F) d c f g e b i l m n o t p s)
 | 0,_,_,_,_=>by kernel_rfl
 | n+1,o,t,p,s=>Eq.trans (by kernel_rfl) (El (Wq N (fun m q r=>Q0 (SP d c f g e b i l m q r)) (Jb F) d c f g e b i l m · o t p s) (funext fun o=>funext fun t=>funext fun p=>funext fun s=>(PG Q0 F d c f g e b i l m n o t p s)):_)
theorem PH (F:KF R) (d:LA) (c:Nat) (f g:Bool) (e:LA) (b:Nat) (i l:Bool):∀ (n m:Nat) (q:Int) (r:LA),Ay (k7 N F) n (SP d c f g e b i l m q r)=(Hf N (Jb F) d c f g e b i l n m q r)
 | 0,_,_,_=>by kernel_rfl
 | n+1,m,q,r=>have e0:=(funext fun m=>funext fun q=>funext fun r=>(PH F d c f g e b i l n m q r))
  Eq.trans (by kernel_rfl) (vC (Wr N (Jb F) d c f g e b i l · · m q r) e0 (funext fun o=>funext fun t=>funext fun p=>funext fun s=>(At ..).trans ((PG N (Ay (k7 N F) n) F d c f g e b i l m N o t p s).trans (El (L9 N · (Jb F) d c f g e b i l m N o t p s) e0))):_)
theorem k8 (d:LA) (c:Nat) (f g:Bool) (e:LA) (b:Nat) (i l:Bool) (F:KF R):Cq (og N) k5 N 156 [(.imm d c 1 f g),(.imm e b 1 i l)] [] F=(MI N d c f g e b i l (Jb F)):=by
 rw[eK]
 exact Eq.trans (by kernel_rfl) (El (XM N (Jb F) · d c f g e b i l) (funext fun m=>funext fun q=>funext fun r=>(At ..).trans (PH N F d c f g e b i l N m q r)):_)
def eL (a:LA) (h:Ah) (k:KF R):O R :=
 match a,h with
 | [(.imm d c 1 f g),(.imm e b 1 i l)],[]=>(MI N d c f g e b i l (Jb k))
 | _,_=>none
theorem k9:Ao N 156 @eL:=by
 intro R Q a h k j;unfold eL;split;exact Av (k8 ..) (k8 ..) ⟨En N,trivial⟩;exact Ax
def vu:=Aw (k9 N)
def vw:=Cr (k9 N)
def k_ (b:LA) (d:Bool) (c:LA) (e:Bool) (r0:LA→O R):O R :=
 (Qc b fun i=>(Qc c fun l=>(Ir 1 (b.drop 1) fun m n=>(Ir 1 (c.drop 1) fun o p=>(MI N m n false d o p false e (fun g q=>(Ef N (!(i==l)) (q.take (g*1)) g false true (fun f=>(cond ((Nat.beq 0 0)&&((Nat.beq (f.length) 2)&&(Nat.beq 2 2))) (cond (Nat.ble 2 (f.length)) (r0 (f.take 2)) none) none)))))))))
def Nx:=(Ag (@k_ R)).1
theorem eM:@Nx R=@k_ R:=(Ag _).2
def yn:Dx:=[(156,vu N),(83,Gu N)]
def kc (F:KF R):LA→O R:=(fun r=>F (.pagg r false) [])
theorem ke (b:LA) (d:Bool) (c:LA) (e:Bool) (F:KF R):Cq (yn N) I0 N 95 [(.pagg b d),(.pagg c e)] [] F=(Nx N b d c e (kc F)):=by
 rw[eM]
 kernel_rfl
def eN (a:LA) (h:Ah) (k:KF R):O R :=
 match a,h with
 | [(.pagg b d),(.pagg c e)],[]=>(Nx N b d c e (kc k))
 | _,_=>none
theorem kf:Ao N 95 @eN:=by
 intro R Q a h k j;unfold eN;split;exact Av (ke ..) (ke ..) ⟨vw N,Gv N,trivial⟩;exact Ax
def SQ:=Aw (kf N)
def SR:=Cr (kf N)
def ST (b:LA) (c:Bool) (r0:LA→O R):O R :=
 (cond (Nat.ble 2 (b.length)) (A8 N 1 (fun e=>(Gm N (b.take 2) c e false (fun d=>(cond ((Nat.beq 0 0)&&((Nat.beq (d.length) 3)&&(Nat.beq 3 3))) (cond (Nat.ble 3 (d.length)) (r0 (d.take 3)) none) none))))) none)
def H9:=(Ag (@ST R)).1
theorem PI:@H9 R=@ST R:=(Ag _).2
def tV:Dx:=[(32,C5 N),(84,I8 N)]
def XN (F:KF R):LA→O R:=(fun f=>F (.pagg f false) [])
theorem XO (b:LA) (c:Bool) (F:KF R):Cq (tV N) I0 N 30 [(.pagg b c)] [] F=(H9 N b c (XN F)):=by
 rw[PI]
 kernel_rfl
def PJ (a:LA) (h:Ah) (k:KF R):O R :=
 match a,h with
 | [(.pagg b c)],[]=>(H9 N b c (XN k))
 | _,_=>none
theorem XP:Ao N 30 @PJ:=by
 intro R Q a h k j;unfold PJ;split;exact Av (XO ..) (XO ..) ⟨C6 N,I9 N,trivial⟩;exact Ax
def Sd:=Aw (XP N)
def Se:=Cr (XP N)
def kg (b:LA) (c:Bool) (r0:LA→O R):O R :=
 (cond (Nat.ble 3 (b.length)) (B4 N (b.take 3) c (fun d=>(Ir 1 (d.drop 2) fun e f=>(r0 [(.bool false),(.imm e f 1 false false)])))) none)
def Lq:=(Ag (@kg R)).1
theorem eO:@Lq R=@kg R:=(Ag _).2
def yp:Dx:=[(28,Eo N)]
def ki (F:KF R):LA→O R:=(fun g=>F (.pagg g false) [])
theorem kj (b:LA) (c:Bool) (F:KF R):Cq (yp N) I0 N 87 [(.pagg b c)] [] F=(Lq N b c (ki F)):=by
 rw[eO]
 kernel_rfl
def eP (a:LA) (h:Ah) (k:KF R):O R :=
 match a,h with
 | [(.pagg b c)],[]=>(Lq N b c (ki k))
 | _,_=>none
theorem ko:Ao N 87 @eP:=by
 intro R Q a h k j;unfold eP;split;exact Av (kj ..) (kj ..) ⟨Ep N,trivial⟩;exact Ax
def CO:=Aw (ko N)
def CP:=Cr (ko N)
def kp (b:LA) (d:Bool) (c:LA) (e:Bool) (r0:LA→O R):O R :=
 (cond (Nat.ble 3 (b.length)) (B4 N (b.take 3) d (fun g=>(cond (Nat.ble 2 (g.length)) (cond (Nat.ble 3 (c.length)) (B4 N (c.take 3) e (fun i=>(cond (Nat.ble 2 (i.length)) (Nx N (g.take 2) false (i.take 2) false (fun l=>(cond (Nat.ble 3 (b.length)) (Lq N (b.take 3) d (fun m=>(cond (Nat.ble 3 (c.length)) (Lq N (c.take 3) e (fun n=>(Nx N m false n false (fun o=>(Gm N l false o false (fun f=>(cond ((Nat.beq 0 0)&&((Nat.beq (f.length) 3)&&(Nat.beq 3 3))) (cond (Nat.ble 3 (f.length)) (r0 (f.take 3)) none) none))))))) none))) none))) none))) none) none))) none)
def Ny:=(Ag (@kp R)).1
theorem eQ:@Ny R=@kp R:=(Ag _).2
def yq:Dx:=[(28,Eo N),(95,SQ N),(87,CO N),(84,I8 N)]
def kq (F:KF R):LA→O R:=(fun p=>F (.pagg p false) [])
theorem ku (b:LA) (d:Bool) (c:LA) (e:Bool) (F:KF R):Cq (yq N) I0 N 41 [(.pagg b d),(.pagg c e)] [] F=(Ny N b d c e (kq F)):=by
 rw[eQ]
 kernel_rfl
def eR (a:LA) (h:Ah) (k:KF R):O R :=
 match a,h with
 | [(.pagg b d),(.pagg c e)],[]=>(Ny N b d c e (kq k))
 | _,_=>none
theorem kv:Ao N 41 @eR:=by
 intro R Q a h k j;unfold eR;split;exact Av (ku ..) (ku ..) ⟨Ep N,SR N,CP N,I9 N,trivial⟩;exact Ax
def SU:=Aw (kv N)
def SV:=Cr (kv N)
def SW (b:LA) (c:Bool) (r0:LA→O R):O R :=
 (cond (Nat.ble 3 (b.length)) (B4 N (b.take 3) c (fun e=>(cond (Nat.ble 2 (e.length)) (cond (Nat.ble 3 (b.length)) (Lq N (b.take 3) c (fun f=>(C8 N (e.take 2) false f false (fun d g l=>(cond ((Nat.beq 0 0)&&((Nat.beq (d.length) 2)&&(Nat.beq 2 2))) (cond ((Nat.beq 0 0)&&((Nat.beq (g.length) 2)&&(Nat.beq 2 2))) (cond (Nat.ble 2 (d.length)) (cond ((Nat.beq 0 0)&&((Nat.beq ((d.take 2).length) 2)&&(Nat.beq 2 2))) (cond (Nat.ble 2 ((d.take 2).length)) (r0 ((d.take 2).take 2)) none) none) none) none) none))))) none) none))) none)
def Mo:=(Ag (@SW R)).1
theorem PK:@Mo R=@SW R:=(Ag _).2
def tW:Dx:=[(28,Eo N),(87,CO N),(71,K7 N)]
def XQ (F:KF R):LA→O R:=(fun i=>F (.pagg i false) [])
theorem XR (b:LA) (c:Bool) (F:KF R):Cq (tW N) I0 N 31 [(.pagg b c)] [] F=(Mo N b c (XQ F)):=by
 rw[PK]
 kernel_rfl
def PL (a:LA) (h:Ah) (k:KF R):O R :=
 match a,h with
 | [(.pagg b c)],[]=>(Mo N b c (XQ k))
 | _,_=>none
theorem XS:Ao N 31 @PL:=by
 intro R Q a h k j;unfold PL;split;exact Av (XR ..) (XR ..) ⟨Ep N,CP N,K8 N,trivial⟩;exact Ax
def XT:=Aw (XS N)
def XU:=Cr (XS N)
def CQ (b:Int) (r0:LA→O R):O R :=
 (A8 N b (fun d=>(A8 N 1 (fun e=>(Gm N d false e false (fun c=>(cond ((Nat.beq 0 0)&&((Nat.beq (c.length) 3)&&(Nat.beq 3 3))) (cond (Nat.ble 3 (c.length)) (r0 (c.take 3)) none) none)))))))
def Mp:=(Ag (@CQ R)).1
theorem EU:@Mp R=@CQ R:=(Ag _).2
def mm:Dx:=[(32,C5 N),(84,I8 N)]
def I_ (F:KF R):LA→O R:=(fun f=>F (.pagg f false) [])
theorem JA (b:Int) (F:KF R):Cq (mm N) I0 N 94 [(iv b)] [] F=(Mp N b (I_ F)):=by
 rw[EU]
 kernel_rfl
def EV (a:LA) (h:Ah) (k:KF R):O R :=
 match a,h with
 | [(.int .i64 b)],[]=>(Mp N b (I_ k))
 | _,_=>none
theorem JB:Ao N 94 @EV:=by
 intro R Q a h k j;unfold EV;split;exact Av (JA ..) (JA ..) ⟨C6 N,I9 N,trivial⟩;exact Ax
def kw:=Aw (JB N)
def ky:=Cr (JB N)
def kz (b:LA) (c:Bool) (r0:LA→O R):O R :=
 (cond (Nat.ble 3 (b.length)) (B4 N (b.take 3) c (fun e=>(cond (Nat.ble 2 (e.length)) (R9 N (e.take 2) false (fun f=>(cond (Nat.ble 3 (b.length)) (Lq N (b.take 3) c (fun g=>(Gm N f false g false (fun d=>(cond ((Nat.beq 0 0)&&((Nat.beq (d.length) 3)&&(Nat.beq 3 3))) (cond (Nat.ble 3 (d.length)) (r0 (d.take 3)) none) none))))) none))) none))) none)
def XV:=(Ag (@kz R)).1
theorem eS:@XV R=@kz R:=(Ag _).2
def yr:Dx:=[(28,Eo N),(153,SM N),(87,CO N),(84,I8 N)]
def lA (F:KF R):LA→O R:=(fun i=>F (.pagg i false) [])
theorem lB (b:LA) (c:Bool) (F:KF R):Cq (yr N) I0 N 155 [(.pagg b c)] [] F=(XV N b c (lA F)):=by
 rw[eS]
 kernel_rfl
def eT (a:LA) (h:Ah) (k:KF R):O R :=
 match a,h with
 | [(.pagg b c)],[]=>(XV N b c (lA k))
 | _,_=>none
theorem lC:Ao N 155 @eT:=by
 intro R Q a h k j;unfold eT;split;exact Av (lB ..) (lB ..) ⟨Ep N,SN N,CP N,I9 N,trivial⟩;exact Ax
def vz:=Aw (lC N)
def wB:=Cr (lC N)
def lD (b:LA) (d:Bool) (c:LA) (e:Bool) (r0:LA→O R):O R :=
 (cond (Nat.ble 3 (b.length)) (B4 N (b.take 3) d (fun f=>(cond (Nat.ble 3 (c.length)) (B4 N (c.take 3) e (fun g=>(cond ((Nat.beq 0 0)&&((Nat.beq (f.length) 3)&&(Nat.beq 3 3))) (cond ((Nat.beq 0 0)&&((Nat.beq (g.length) 3)&&(Nat.beq 3 3))) (cond (Nat.ble 2 (f.length)) (cond (Nat.ble 3 (c.length)) (Lq N (c.take 3) e (fun l=>(Nx N (f.take 2) false l false (fun m=>(cond (Nat.ble 2 (g.length)) (cond (Nat.ble 3 (b.length)) (Lq N (b.take 3) d (fun n=>(Nx N (g.take 2) false n false (fun o=>(Lp N m false o false (fun p=>(cond (Nat.ble 3 (b.length)) (Lq N (b.take 3) d (fun q=>(cond (Nat.ble 3 (c.length)) (Lq N (c.take 3) e (fun r=>(Nx N q false r false (fun s=>(Gm N p false s false (fun i=>(cond ((Nat.beq 0 0)&&((Nat.beq (i.length) 3)&&(Nat.beq 3 3))) (cond (Nat.ble 3 (i.length)) (r0 (i.take 3)) none) none))))))) none))) none))))))) none) none))))) none) none) none) none))) none))) none)
def XW:=(Ag (@lD R)).1
theorem eV:@XW R=@lD R:=(Ag _).2
def yu:Dx:=[(28,Eo N),(87,CO N),(95,SQ N),(139,CD N),(84,I8 N)]
def lE (F:KF R):LA→O R:=(fun t=>F (.pagg t false) [])
theorem lF (b:LA) (d:Bool) (c:LA) (e:Bool) (F:KF R):Cq (yu N) I0 N 154 [(.pagg b d),(.pagg c e)] [] F=(XW N b d c e (lE F)):=by
 rw[eV]
 kernel_rfl
def eX (a:LA) (h:Ah) (k:KF R):O R :=
 match a,h with
 | [(.pagg b d),(.pagg c e)],[]=>(XW N b d c e (lE k))
 | _,_=>none
theorem lG:Ao N 154 @eX:=by
 intro R Q a h k j;unfold eX;split;exact Av (lF ..) (lF ..) ⟨Ep N,CP N,SR N,CE N,I9 N,trivial⟩;exact Ax
def wC:=Aw (lG N)
def wD:=Cr (lG N)
def lH (b:LA) (d:Bool) (c:LA) (e:Bool) (r0:LA→O R):O R :=
 (cond (Nat.ble 3 (b.length)) (cond (Nat.ble 3 (c.length)) (XV N (c.take 3) e (fun g=>(XW N (b.take 3) d g false (fun f=>(cond ((Nat.beq 0 0)&&((Nat.beq (f.length) 3)&&(Nat.beq 3 3))) (cond (Nat.ble 3 (f.length)) (r0 (f.take 3)) none) none))))) none) none)
def Ws:=(Ag (@lH R)).1
theorem eY:@Ws R=@lH R:=(Ag _).2
def yv:Dx:=[(155,vz N),(154,wC N)]
def lI (F:KF R):LA→O R:=(fun i=>F (.pagg i false) [])
theorem lJ (b:LA) (d:Bool) (c:LA) (e:Bool) (F:KF R):Cq (yv N) I0 N 86 [(.pagg b d),(.pagg c e)] [] F=(Ws N b d c e (lI F)):=by
 rw[eY]
 kernel_rfl
def eZ (a:LA) (h:Ah) (k:KF R):O R :=
 match a,h with
 | [(.pagg b d),(.pagg c e)],[]=>(Ws N b d c e (lI k))
 | _,_=>none
theorem lK:Ao N 86 @eZ:=by
 intro R Q a h k j;unfold eZ;split;exact Av (lJ ..) (lJ ..) ⟨wB N,wD N,trivial⟩;exact Ax
def lL:=Aw (lK N)
def lM:=Cr (lK N)
def b9 (b:LA) (c:Bool) (r0:Int→O R):O R :=
 (cond (Nat.ble 3 (b.length)) (B4 N (b.take 3) c (fun d=>(cond (Nat.ble 2 (d.length)) (Gl N (d.take 2) false (fun e=>(r0 e))) none))) none)
def JC:=(Ag (@b9 R)).1
theorem XX:@JC R=@b9 R:=(Ag _).2
def wE:Dx:=[(28,Eo N),(138,Qg N)]
def e_ (F:KF R):Int→O R:=(fun f=>F (iv f) [])
theorem ee (b:LA) (c:Bool) (F:KF R):Cq (wE N) Cn N 85 [(.pagg b c)] [] F=(JC N b c (e_ F)):=by
 rw[XX]
 kernel_rfl
def XY (a:LA) (h:Ah) (k:KF R):O R :=
 match a,h with
 | [(.pagg b c)],[]=>(JC N b c (e_ k))
 | _,_=>none
theorem ef:Ao N 85 @XY:=by
 intro R Q a h k j;unfold XY;split;exact Av (ee ..) (ee ..) ⟨Ep N,Qh N,trivial⟩;exact Ax
def tX:=Aw (ef N)
def tY:=Cr (ef N)
def CS (b:LA) (d:Bool) (c:LA) (e:Bool) (r0:Int→O R):O R :=
 (cond (Nat.ble 3 (b.length)) (cond (Nat.ble 3 (c.length)) (Ws N (b.take 3) d (c.take 3) e (fun f=>(JC N f false (fun g=>(r0 g))))) none) none)
def Fq:=(Ag (@CS R)).1
theorem EW:@Fq R=@CS R:=(Ag _).2
def mn:Dx:=[(86,lL N),(85,tX N)]
def JD (F:KF R):Int→O R:=(fun i=>F (iv i) [])
theorem JE (b:LA) (d:Bool) (c:LA) (e:Bool) (F:KF R):Cq (mn N) Cn N 29 [(.pagg b d),(.pagg c e)] [] F=(Fq N b d c e (JD F)):=by
 rw[EW]
 kernel_rfl
def EX (a:LA) (h:Ah) (k:KF R):O R :=
 match a,h with
 | [(.pagg b d),(.pagg c e)],[]=>(Fq N b d c e (JD k))
 | _,_=>none
theorem JF:Ao N 29 @EX:=by
 intro R Q a h k j;unfold EX;split;exact Av (JE ..) (JE ..) ⟨lM N,tY N,trivial⟩;exact Ax
def JG:=Aw (JF N)
def JH:=Cr (JF N)
end
end Gx

namespace Gx
open Go Go.Proofs
section
variable {R:Type}
theorem Aen (a b:Nat):AW (a:Int) (b:Int)=((max a b:Nat):Int):=by
 unfold AW
 by_cases h:(b:Int)>(a:Int)
 ·rw[decide_eq_true h];show(b:Int)=_;omega
 ·rw[decide_eq_false h];show(a:Int)=_;omega
theorem oh {N:Nat} {a b:List Nat} {t o t' o':Bool} {n:Nat} (u:Ae a) (v:Ae b) (x:a.length<n) (y:b.length<n) (L:n≤max a.length b.length+1) (l:fit n N):∀ (m d f:Nat) (S:List Nat) (c:Nat),d+m=n→m<f→Ae S→S.length=n→yQ S d→c≤1 →
  val S+4294967296 ^ d*c=val (a.take d)+val (b.take d) →
  ∀ K:Nat→LA→O R,F2 N K (Aa a) a.length t o (Aa b) b.length t' o' f n (c:Int) (d:Int) (Aa S)=K (Ac (val a+val b)).length (Aa (Ac (val a+val b)))
 | 0,d,f+1,S,c,M,_,hS,q,z,T,A=>by
  intro K
  have B:d=n:=by omega
  subst B
  rw[List.take_of_length_le (by omega),List.take_of_length_le (by omega)] at A
  have C:c=0:=by
   rcases Nat.eq_zero_or_pos c with h | h
   ·exact h
   ·exfalso
    have D:c=1:=by omega
    subst D
    obtain⟨e,rfl⟩:∃ e,d=e+1:=⟨d - 1,by omega⟩
    have x1:=Bi u
    have x2:=Bi v
    have y1:4294967296 ^ a.length≤4294967296 ^ e:=Nat.pow_le_pow_right (by omega) (by omega)
    have y2:4294967296 ^ b.length≤4294967296 ^ e:=Nat.pow_le_pow_right (by omega) (by omega)
    rw[Nat.pow_succ] at A
    omega
  subst C
  have F:val S=val a+val b:=by omega
  rw[F2];unfold We
  rw[VC (Nat.le_refl _),cf,Nat.mul_one,List.take_of_length_le (by rw[Bg];omega),Ck q.symm hS (by rw[q];exact l),F]
 | m+1,d,f+1,S,c,M,U,hS,q,z,T,A=>by
  intro K
  have V:=l.1;have X:=l.2
  have ga:=Tf u d
  have gb:=Tf v d
  have step:∀ s:Nat,s=c+a.getD d 0+b.getD d 0→val (S.set d (s%4294967296))+4294967296 ^ (d+1)*(s/4294967296)=val (a.take (d+1))+val (b.take (d+1)):=by
   intro s G
   rw[P3 z (by omega),Mh a d,Mh b d,Nat.pow_succ]
   have e:=I4 (4294967296 ^ d) s
   have Y:4294967296 ^ d*s=4294967296 ^ d*c+4294967296 ^ d*a.getD d 0+4294967296 ^ d*b.getD d 0:=by rw[G,Nat.mul_add,Nat.mul_add]
   omega
  have next:∀ s:Nat,s=c+a.getD d 0+b.getD d 0→F2 N K (Aa a) a.length t o (Aa b) b.length t' o' f n ((s/4294967296:Nat):Int) ((d+1:Nat):Int) (Aa (S.set d (s%4294967296)))=K (Ac (val a+val b)).length (Aa (Ac (val a+val b))):=by
   intro s G
   exact oh u v x y L l m (d+1) f (S.set d (s%4294967296)) (s/4294967296) (by omega) (by omega) (B0 hS (by omega) d) (by simpa using q) (Vz z) (by omega) (step s G) K
  have second:∀ w:Nat,w=c+a.getD d 0→Um N (F2 N K (Aa a) a.length t o (Aa b) b.length t' o' f) K (Aa a) a.length t o (Aa b) b.length t' o' n (Aa S) (w:Int) (d:Int)=K (Ac (val a+val b)).length (Aa (Ac (val a+val b))):=by
   intro w I
   unfold Um
   by_cases i:d<b.length
   ·have k:b.getD d 0=b[d]:=by rw[List.getD_eq_getElem?_getD,List.getElem?_eq_getElem i];rfl
    rw[NR i,ct,Ak i,ct,GA i,Ak (by omega),ct,n0 (by omega),ct,Fj (show b[d]<18446744073709551616 by omega),Xj,Fj (show w+b[d]<18446744073709551616 by omega),aT,RF,HQ,wS (by omega)]
    exact next _ (by rw[I,k])
   ·have k:b.getD d 0=0:=by rw[List.getD_eq_getElem?_getD,List.getElem?_eq_none (by omega)];rfl
    rw[VC (by omega),cf,Ak (by omega),ct,n0 (by omega),ct,aT,RF,HQ,wS (by omega)]
    exact next _ (by rw[I,k];rfl)
  rw[F2];unfold We
  rw[NR (by omega),ct]
  by_cases j:d<a.length
  ·have k:a.getD d 0=a[d]:=by rw[List.getD_eq_getElem?_getD,List.getElem?_eq_getElem j];rfl
   rw[NR j,ct,Ak j,ct,GA j,Fj (show a[d]<18446744073709551616 by omega),Xj,Fj (show c+a[d]<18446744073709551616 by omega)]
   exact second _ (by rw[k])
  ·have k:a.getD d 0=0:=by rw[List.getD_eq_getElem?_getD,List.getElem?_eq_none (by omega)];rfl
   rw[VC (by omega),cf]
   exact second _ (by rw[k];rfl)
theorem b_ {N:Nat} {a b:List Nat} {n m:Nat} {t o t' o':Bool} {K:Nat→LA→O R} (d:n=a.length) (e:m=b.length) (f:Ae a) (i:Ae b) (c:fit (a.length+b.length+1) N) :
  Wf N (Aa a) n t o (Aa b) m t' o' K=K (Ac (val a+val b)).length (Aa (Ac (val a+val b))):=by
 subst d e
 have j:=c.1;have k:=c.2
 rw[d9];unfold WM
 rw[Aen,wS (by omega),zX (by omega),ct,Int.toNat_natCast,Ca]
 exact oh f i (n:=max a.length b.length+1) (by omega) (by omega) (Nat.le_refl _) (c.le (by omega)) (max a.length b.length+1) 0 N (List.replicate (max a.length b.length+1) 0) 0 (by omega) (by omega) (By _) (by simp) (H3 _) (by omega) (by rw[C0];simp[val]) K
theorem oi {N:Nat} {a b:List Nat} (C:Ae a) (D:Ae b) (t:fit a.length N) (q:b.length≤a.length) (u:val b≤val a):∀ (m d f:Nat) (S:List Nat) (c:Nat),d+m=a.length→m<f→Ae S→S.length=a.length→yQ S d→c≤1 →
  val S+val (b.take d)=val (a.take d)+4294967296 ^ d*c →
  ∀ K:Nat→Bool→LA→O R,F3 N K a.length b.length (Aa a) (Aa b) f (c:Int) (d:Int) (Aa S)=K (Ac (val a - val b)).length true (Aa (Ac (val a - val b)))
 | 0,d,f+1,S,c,G,_,hS,s,v,I,F=>by
  intro K
  have x:d=a.length:=by omega
  subst x
  rw[List.take_length,List.take_of_length_le q] at F
  have k:=Bi hS
  rw[s] at k
  have z:c=0:=by
   rcases Nat.lt_or_ge 0 c with h | h
   ·exfalso
    have:c=1:=by omega
    subst this
    omega
   ·omega
  subst z
  have A:val S=val a - val b:=by omega
  rw[F3];unfold Wh
  rw[VC (Nat.le_refl _),cf,Nat.mul_one,List.take_of_length_le (by rw[Bg];omega),Ck s.symm hS (by rw[s];exact t),A]
 | m+1,d,f+1,S,c,G,L,hS,s,v,I,F=>by
  intro K
  have T:=t.1;have U:=t.2
  have i:d<a.length:=by omega
  have ad:=Au C i
  have gb:=Tf D d
  have step:∀ y g c':Nat,y=c+b.getD d 0→a[d]+4294967296*c'=g+y→val (S.set d g)+val (b.take (d+1))=val (a.take (d+1))+4294967296 ^ (d+1)*c':=by
   intro y g c' n l
   rw[P3 v (by omega),Ar i,Mh b d,Nat.pow_succ,Nat.mul_assoc]
   have e:4294967296 ^ d*(a[d]+4294967296*c')=4294967296 ^ d*(g+(c+b.getD d 0)):=by rw[l,n]
   rw[Nat.mul_add,Nat.mul_add,Nat.mul_add] at e
   omega
  have next:∀ y g c':Nat,g<4294967296→c'≤1→y=c+b.getD d 0→a[d]+4294967296*c'=g+y→F3 N K a.length b.length (Aa a) (Aa b) f (c':Int) ((d+1:Nat):Int) (Aa (S.set d g))=K (Ac (val a - val b)).length true (Aa (Ac (val a - val b))):=by
   intro y g c' l B n M
   exact oi C D t q u m (d+1) f (S.set d g) c' (by omega) (by omega) (B0 hS l d) (by simpa using s) (Vz v) B (step y g c' n M) K
  have second:∀ y:Nat,y=c+b.getD d 0→Un N (F3 N K a.length b.length (Aa a) (Aa b) f) K a.length b.length (Aa a) (Aa b) (Aa S) (d:Int) (y:Int)=K (Ac (val a - val b)).length true (Aa (Ac (val a - val b))):=by
   intro y n
   unfold Un
   rw[Ak i,ct,VD i,Fj (show a[d]<18446744073709551616 by omega)]
   by_cases k:a[d]<y
   ·rw[NR k,ct,ct,n0 (by omega),ct,show((a[d]:Nat):Int)+4294967296=((a[d]+4294967296:Nat):Int) by omega,Fj (show a[d]+4294967296<18446744073709551616 by omega),aS (by omega) (by omega),xF (by omega),HQ,wS (by omega)]
    exact next y (a[d]+4294967296 - y) 1 (by omega) (by omega) n (by omega)
   ·rw[VC (by omega),cf,ct,n0 (by omega),ct,aS (by omega) (by omega),xF (by omega),HQ,wS (by omega)]
    exact next y (a[d] - y) 0 (by omega) (by omega) n (by omega)
  rw[F3];unfold Wh
  rw[NR i,ct]
  by_cases j:d<b.length
  ·have l:b.getD d 0=b[d]:=by rw[List.getD_eq_getElem?_getD,List.getElem?_eq_getElem j];rfl
   rw[NR j,ct,Ak j,ct,VD j,Fj (show b[d]<18446744073709551616 by omega),Xj,Fj (show c+b[d]<18446744073709551616 by omega)]
   exact second _ (by rw[l])
  ·have l:b.getD d 0=0:=by rw[List.getD_eq_getElem?_getD,List.getElem?_eq_none (by omega)];rfl
   rw[VC (by omega),cf]
   exact second _ (by rw[l];rfl)
theorem bp {N:Nat} {a b:List Nat} {n m:Nat} {t o t' o':Bool} {K:Nat→Bool→LA→O R} (j:n=a.length) (k:m=b.length) (e:Ae a) (f:Ae b) (d:fit (a.length+b.length) N) :
  Wi N (Aa a) n t o (Aa b) m t' o' K=if val b≤val a then K (Ac (val a - val b)).length true (Aa (Ac (val a - val b))) else K 0 false []:=by
 subst j k
 have l:=d.1;have q:=d.2
 have la:=(Az e).2
 have lb:=(Az f).2
 rw[de];unfold WO
 dsimp only
 rw[yc rfl rfl e f d]
 by_cases c:val b≤val a
 ·have i:=Al c
  rw[if_pos c,show decide (Fn (val a) (val b)<0)=false by (unfold Fn;rw[if_neg (by omega)];split<;>rfl),cf,Ck rfl e (d.le (by omega)),Ck rfl f (d.le (by omega)),zX (by omega),ct,Ca]
  have:=oi (R:=R) (N:=N) (a:=Ac (val a)) (b:=Ac (val b)) (Ab _) (Ab _) (d.le (by omega)) i (by rw[Ad,Ad];exact c) (Ac (val a)).length 0 N (List.replicate (Ac (val a)).length 0) 0 (by omega) (by omega) (By _) (by simp) (H3 _) (by omega) (by rw[C0];simp[val]) K
  rw[Ad,Ad] at this
  exact this
 ·rw[if_neg c,show decide (Fn (val a) (val b)<0)=true by (unfold Fn;rw[if_pos (by omega)];rfl),ct]
theorem xM {N:Nat} {x y:List Nat} {c d c' d':Bool} {f:Nat} (F:Ae x) (G:Ae y) (t:f<x.length) (L:x.length+y.length≤1000000000000):∀ (m l b:Nat) (S:List Nat) (p:Nat) (v:Nat),l+m=y.length→m<b→Ae S→S.length=x.length+y.length→yQ S (f+y.length)→p<4294967296 →
  val S+4294967296 ^ (f+l)*p=v+4294967296 ^ f*(x[f]*val (y.take l)) →
  ∃ S',Ae S'∧S'.length=x.length+y.length∧val S'=v+4294967296 ^ f*(x[f]*val y)∧∀ (n:Nat→Int→LA→O R) (K:Nat→LA→O R),L9 N n K (Aa x) x.length c d (Aa y) y.length c' d' (x.length+y.length) b (f:Int) (p:Int) (l:Int) (Aa S)=n (x.length+y.length) ((f+1:Nat):Int) (Aa S')
 | 0,l,b+1,S,p,v,M,_,hS,i,A,u,B=>by
  have C:l=y.length:=by omega
  subst C
  rw[List.take_length] at B
  refine⟨S.set (f+y.length) p,B0 hS u _,by simpa using i,by rw[P3 A (by omega),B],fun n K=>?_⟩
  rw[L9];unfold Wq
  rw[VC (Nat.le_refl _),cf,wA (by omega),Ak (by omega),ct,n0 (by omega),ct,xF u,HQ,wS (by omega)]
 | m+1,l,b+1,S,p,v,M,T,hS,i,A,u,B=>by
  have k:l<y.length:=by omega
  have yl:=Au G k
  have hq:=Au F t
  have z:f+l<S.length:=by omega
  have sl:=Au hS z
  have U:=s_ u hq yl sl
  have D:x[f]*y[l]<18446744073709551616:=by omega
  generalize q:p+(x[f]*y[l]+S[f+l])=s at *
  have I:=VE (v:=s%4294967296) z
  have key:val (S.set (f+l) (s%4294967296))+4294967296 ^ (f+(l+1))*(s/4294967296)=v+4294967296 ^ f*(x[f]*val (y.take (l+1))):=by
   rw[Ar k,←Nat.add_assoc f l 1,Nat.pow_succ]
   have e:=I4 (4294967296 ^ (f+l)) s
   have e2:4294967296 ^ (f+l)*s=4294967296 ^ (f+l)*p+(4294967296 ^ (f+l)*(x[f]*y[l])+4294967296 ^ (f+l)*S[f+l]):=by rw[←q,Nat.mul_add,Nat.mul_add]
   have e3:4294967296 ^ f*(x[f]*(val (y.take l)+4294967296 ^ l*y[l]))=4294967296 ^ f*(x[f]*val (y.take l))+4294967296 ^ (f+l)*(x[f]*y[l]):=by
    rw[Nat.mul_add,Nat.mul_add,Nat.pow_add]
    congr 1
    rw[Nat.mul_assoc];congr 1
    rw[←Nat.mul_assoc,←Nat.mul_assoc,Nat.mul_comm x[f]]
   omega
  obtain⟨S',V,X,Y,q4⟩:=xM (N:=N) (c:=c) (d:=d) (c':=c') (d':=d') F G t L m (l+1) b (S.set (f+l) (s%4294967296)) (s/4294967296) v (by omega) (by omega) (B0 hS (by omega) _) (by simpa using i) (fun j hj hk=>by
   rw[List.getElem_set,if_neg (by omega)];exact A j (by simpa using hj) hk) (by omega) key
  refine⟨S',V,X,Y,fun n K=>?_⟩
  rw[L9];unfold Wq
  rw[NR k,ct,wA (by omega),Ak (by omega),ct,VD z,Ak t,ct,GA t,Ak k,ct,GA k,ct,n0 z,ct,Fj (show x[f]<18446744073709551616 by omega),Fj (show y[l]<18446744073709551616 by omega),Fj (show S[f+l]<18446744073709551616 by omega),iT,Fj D,Xj,Nat.add_comm S[f+l],Fj (by omega),Xj,q,Fj U,aT,RF,HQ,wS (by omega)]
  exact q4 n K
theorem tZ {N:Nat} {x y:List Nat} {c d c' d':Bool} (q:Ae x) (s:Ae y) (e:fit (x.length+y.length) N):∀ (m f b:Nat) (S:List Nat),f+m=x.length→m<b→Ae S→S.length=x.length+y.length →
  val S=val (x.take f)*val y →
  ∀ K:Nat→LA→O R,Hf N K (Aa x) x.length c d (Aa y) y.length c' d' b (x.length+y.length) (f:Int) (Aa S)=K (Ac (val x*val y)).length (Aa (Ac (val x*val y)))
 | 0,f,b+1,S,v,_,hS,i,n=>by
  intro K
  have t:f=x.length:=by omega
  subst t
  rw[List.take_length] at n
  rw[Hf];unfold Wr
  rw[VC (Nat.le_refl _),cf,Nat.mul_one,List.take_of_length_le (by rw[Bg];omega),Ck i.symm hS (by rw[i];exact e),n]
 | m+1,f,b+1,S,v,z,hS,i,n=>by
  intro K
  have G:=e.1;have I:=e.2
  have k:f<x.length:=by omega
  have u:=Bi (Bu q f)
  rw[List.length_take,Nat.min_eq_left (by omega)] at u
  have A:=Bi s
  have j:val S<4294967296 ^ (f+y.length):=by
   rw[n,Nat.pow_add];exact Nat.mul_lt_mul'' u A
  have l:val (x.take (f+1))*val y=val S+4294967296 ^ f*(x[f]*val y):=by
   rw[Ar k,Nat.add_mul,n,Nat.mul_assoc]
  obtain⟨S1,B,C,D,F⟩:=xM (R:=R) (N:=N) (x:=x) (y:=y) (c:=c) (d:=d) (c':=c') (d':=d') (f:=f) q s k (by omega) y.length 0 N S 0 (val S) (by omega) (by omega) hS i (Aam j) (by omega) (by simp[val])
  rw[Hf];unfold Wr
  rw[NR k,ct]
  have:=F (Hf N K (Aa x) x.length c d (Aa y) y.length c' d' b) K
  simp only[Int.natCast_zero] at this
  dsimp only
  rw[this]
  exact tZ q s e m (f+1) b S1 (by omega) (by omega) B C (by rw[D,l]) K
theorem yw {N:Nat} {a b:List Nat} {n m:Nat} {t o t' o':Bool} {K:Nat→LA→O R} (d:n=a.length) (e:m=b.length) (f:Ae a) (i:Ae b) (c:fit (a.length+b.length) N) :
  MI N (Aa a) n t o (Aa b) m t' o' K=K (Ac (val a*val b)).length (Aa (Ac (val a*val b))):=by
 subst d e
 have j:=c.1;have k:=c.2
 rw[eK];unfold XM
 rw[wA (by omega),zX (by omega),ct,Int.toNat_natCast,Ca]
 exact tZ f i c a.length 0 N (List.replicate (a.length+b.length) 0) (by omega) (by omega) (By _) (by simp) (by rw[C0];simp[val]) K
end
end Gx

namespace Gx
open Go Go.Proofs
section
variable {R:Type}
theorem lN {N:Nat}:∀ (k c n v:Nat),v<2 ^ k→k<c→n+k≤1000000000000→∃ b:Nat,b≤k∧v<2 ^ b∧(v≠0→2 ^ b≤2*v)∧(v=0→b=0)∧∀ K:Int→O R,Gw N K c (n:Int) (v:Int)=K ((n+b:Nat):Int)
 | 0,c+1,n,v,e,_,_=>by
  have d:v=0:=by simpa using e
  subst d
  refine⟨0,by omega,by simp,fun h=>absurd rfl h,fun _=>rfl,fun K=>?_⟩
  rw[Gw];unfold Nu
  rw[show decide (((0:Nat):Int)>0)=false by rfl,cf];rfl
 | k+1,c+1,n,v,e,m,q=>by
  by_cases d:v=0
  ·subst d
   refine⟨0,by omega,by simp,fun h=>absurd rfl h,fun _=>rfl,fun K=>?_⟩
   rw[Gw];unfold Nu
   rw[show decide (((0:Nat):Int)>0)=false by rfl,cf];rfl
  ·obtain⟨b,s,t,i,j,l⟩:=lN (N:=N) k c (n+1) (v/2) (by rw[Nat.pow_succ] at e;omega) (by omega) (by omega)
   refine⟨b+1,by omega,by rw[Nat.pow_succ];omega,fun _=>?_,fun h=>absurd h d,fun K=>?_⟩
   ·by_cases f:v/2=0
    ·rw[j f];simp;omega
    ·have:=i f;rw[Nat.pow_succ];omega
   ·rw[Gw];unfold Nu
    rw[show decide (((v:Nat):Int)>0)=true by rw[decide_eq_true_eq];omega,ct,wS (by omega),Nd v 1,show v/2 ^ 1=v/2 by rfl,l]
    congr 2;omega
theorem wF {N:Nat} {a:List Nat} {n:Nat} {t o:Bool} (j:n=a.length) (f:Ae a) (e:fit a.length N):∃ nb:Nat,nb≤32*a.length∧val a<2 ^ nb∧(val a≠0→2 ^ nb≤2*val a)∧(val a=0→nb=0)∧∀ K:Int→O R,Zx N (Aa a) n t o K=K (nb:Int):=by
 have y:=e.1;have z:=e.2
 have la:=(Az f).2
 by_cases d:val a=0
 ·refine⟨0,by omega,by rw[d];simp,fun h=>absurd d h,fun _=>rfl,fun K=>?_⟩
  rw[CC];unfold Zw
  rw[Ck j f e,d,Bx];rfl
 ·have m:(Ac (val a)).length≠0:=fun h=>d (A2.1 h)
  obtain⟨k,i⟩:∃ k,(Ac (val a)).length=k+1:=⟨(Ac (val a)).length - 1,by omega⟩
  have top:=Au (Ab (val a)) (show k<(Ac (val a)).length by omega)
  have c:(Ac (val a))[k]'(by omega)≠0:=by
   have:=iS (val a) (RE d)
   rw[List.getLast_eq_getElem] at this
   simp only[i,Nat.add_sub_cancel] at this
   exact this
  have tf:=Zt i
  have tl:=BZ (Ab (val a)) i
  rw[Ad] at tf tl
  obtain⟨b,A,q,s,B,u⟩:=lN (R:=R) (N:=N) 32 N (32*k) ((Ac (val a))[k]'(by omega)) (by exact top) (by omega) (by omega)
  have l:(2:Nat) ^ (32*k+b)=4294967296 ^ k*2 ^ b:=by rw[Nat.pow_add,Nat.pow_mul]
  refine⟨32*k+b,by omega,?_,fun _=>?_,fun h=>absurd h d,fun K=>?_⟩
  ·rw[l]
   have:((Ac (val a))[k]'(by omega)+1)*4294967296 ^ k≤2 ^ b*4294967296 ^ k:=Nat.mul_le_mul_right _ q
   rw[Nat.mul_comm (2 ^ b)] at this;omega
  ·rw[l]
   have:=Nat.mul_le_mul_left (4294967296 ^ k) (s c)
   rw[Nat.mul_left_comm] at this
   omega
  ·rw[CC];unfold Zw
   have v:IntKind.wrap .i64 ((((Ac (val a)).length:Nat):Int) - 1)=((k:Nat):Int):=by rw[i64 (by omega)];omega
   have x:IntKind.wrap .i64 ((32:Int)*((k:Nat):Int))=((32*k:Nat):Int):=by rw[i64 (by omega)];omega
   rw[Ck j f e,gL m,cf,v,Ak (by omega),ct,VD (by omega),x]
   exact u K
theorem t6 {a:List Nat} {j:Nat} (h:j<a.length):val a=val (a.take j)+4294967296 ^ j*(a[j]+4294967296*val (a.drop (j+1))):=by
 have:=Lz (a.take j) (a.drop j)
 rw[List.take_append_drop,List.length_take,Nat.min_eq_left (by omega),H_ h] at this
 exact this
theorem bq (j k:Nat):(2:Nat) ^ (32*j+k)=4294967296 ^ j*2 ^ k:=by rw[Nat.pow_add,Nat.pow_mul]
theorem Acb {a:List Nat} {j k:Nat} (b:Ae a) (h:j<a.length) (f:k<32):val a/2 ^ (32*j+k)%2=a[j]/2 ^ k%2:=by
 have tl:=Bi (Bu b j)
 rw[List.length_take,Nat.min_eq_left (by omega)] at tl
 have hP:0<4294967296 ^ j:=Nat.pow_pos (by omega)
 have c:0<2 ^ k:=Nat.pow_pos (by omega)
 rw[bq,←Nat.div_div_eq_div_mul,t6 h,Nat.add_mul_div_left _ _ hP,Nat.div_eq_of_lt tl,Nat.zero_add]
 have e:4294967296=2 ^ k*(2*2 ^ (31 - k)):=by rw[←Nat.pow_succ',←Nat.pow_add,show k+(31 - k+1)=32 by omega]
 have d:4294967296*val (a.drop (j+1))=2 ^ k*(2*(2 ^ (31 - k)*val (a.drop (j+1)))):=by
  rw[←Nat.mul_assoc 2,←Nat.mul_assoc,←e]
 rw[d,Nat.add_mul_div_left _ _ c,Nat.add_mul_mod_self_left]
theorem yx {N:Nat} {a:List Nat} {n:Nat} {t o:Bool} {i:Nat} {K:Int→O R} (j:n=a.length) (f:Ae a) (q:i<32*a.length) (s:a.length≤1000000000):WN N (Aa a) n t o (i:Int) K=K ((val a/2 ^ i%2:Nat):Int):=by
 subst j
 have c:i/32<a.length:=by omega
 have aj:=Au f c
 rw[dc];unfold j4
 have l:IntKind.wrap .i64 (Int.tdiv ((i:Nat):Int) 32)=((i/32:Nat):Int):=by rw[show(32:Int)=((32:Nat):Int) by rfl,OH,i64 (by omega)]
 have m:IntKind.wrap .u64 (Int.tmod ((i:Nat):Int) 32)=((i%32:Nat):Int):=by rw[show(32:Int)=((32:Nat):Int) by rfl,HZ,Fj (by omega)]
 rw[l,m,show decide (((i/32:Nat):Int)≥((a.length:Nat):Int))=false by rw[decide_eq_false_iff_not];omega,cf,Ak c,ct,GA c,show decide (((i%32:Nat):Int)<0)=false by rw[decide_eq_false_iff_not];omega,cf,Int.toNat_natCast,Nat.min_eq_left (by omega),Nd]
 have d:a[i/32]/2 ^ (i%32)<4294967296:=Nat.lt_of_le_of_lt (Nat.div_le_self _ _) aj
 have e:=vF (k:=.u32) rfl (a:=a[i/32]/2 ^ (i%32)) (b:=1) d (by decide)
 rw[show(1:Int)=((1:Nat):Int) by rfl,e,Nat.and_one_is_mod]
 have:=Acb f c (k:=i%32) (by omega)
 rw[Nat.div_add_mod] at this
 rw[this]
theorem Aaz {Q:List Nat} {j k:Nat} (hQ:Ae Q) (h:j<Q.length) (d:k<32) (b:2 ^ (32*j+k+1)∣val Q):2 ^ (k+1)∣Q[j]:=by
 have tl:=Bi (Bu hQ j)
 rw[List.length_take,Nat.min_eq_left (by omega)] at tl
 have hP:0<4294967296 ^ j:=Nat.pow_pos (by omega)
 rw[Nat.add_assoc,bq,t6 h] at b
 have c:val (Q.take j)=0:=by
  have x1:4294967296 ^ j∣val (Q.take j):=(Nat.dvd_add_left (Nat.dvd_mul_right _ _)).1 (Nat.dvd_trans (Nat.dvd_mul_right _ _) b)
  exact Nat.eq_zero_of_dvd_of_lt x1 tl
 rw[c,Nat.zero_add] at b
 have x2:=Nat.dvd_of_mul_dvd_mul_left hP b
 have x3:2 ^ (k+1)∣4294967296*val (Q.drop (j+1)):=Nat.dvd_trans ⟨2 ^ (31 - k),by rw[←Nat.pow_add,show k+1+(31 - k)=32 by omega]⟩ (Nat.dvd_mul_right _ _)
 exact(Nat.dvd_add_left x3).1 x2
theorem br {N:Nat} {a b:List Nat} {t o:Bool} {B:Nat} (S:Ae a) (q:b=Ac B) (hB:0<B) (l:fit (a.length+2*b.length+4) N):∀ (i d:Nat) (Q:List Nat) (r:Nat),i<d→i≤32*a.length→Ae Q→Q.length=a.length→r=val a/2 ^ i%B→val Q=val a/2 ^ i/B*2 ^ i →
  ∀ K:Nat→Nat→Bool→LA→LA→O R,Dt N K (Aa a) a.length t o b.length (Aa b) d (Ac r).length ((i:Int) - 1) (Aa Q) (Aa (Ac r))=K (Ac (val a/B)).length (Ac (val a%B)).length true (Aa (Ac (val a/B))) (Aa (Ac (val a%B)))
 | 0,d+1,Q,r,_,_,hQ,C,s,u=>by
  intro K
  rw[Nat.pow_zero,Nat.div_one] at s u
  rw[Nat.mul_one] at u
  have lr:(Ac r).length≤b.length:=by
   rw[q];apply Al;rw[s];exact Nat.le_of_lt (Nat.mod_lt _ hB)
  rw[Dt];unfold Nv
  rw[show decide ((((0:Nat):Int) - 1)≥0)=false by rfl,cf,Nat.mul_one,List.take_of_length_le (by rw[Bg];omega),Ck C.symm hQ (by rw[C];exact l.le (by omega)),Nat.mul_one,List.take_of_length_le (by rw[Bg];omega),Ck rfl (Ab _) (l.le (by omega)),Ad,u,s]
 | i+1,d+1,Q,r,hfu,hi,hQ,C,s,u=>by
  intro K
  have h1:=l.1;have h2:=l.2
  have hrB:r<B:=by rw[s];exact Nat.mod_lt _ hB
  have lr:(Ac r).length≤b.length:=by rw[q];exact Al (Nat.le_of_lt hrB)
  have j:val a/2 ^ i=2*(val a/2 ^ (i+1))+val a/2 ^ i%2:=by
   have:=Nat.div_add_mod (val a/2 ^ i) 2
   rw[Nat.div_div_eq_div_mul,←Nat.pow_succ] at this
   exact this.symm
  have T:=Nat.div_add_mod (val a/2 ^ (i+1)) B
  have hb2:val a/2 ^ i%2<2:=Nat.mod_lt _ (by omega)
  generalize hH:val a/2 ^ (i+1)=H at *
  generalize D:val a/2 ^ i%2=bt at *
  have f:val a/2 ^ i=B*(2*(H/B))+(2*r+bt):=by
   rw[j,s,Nat.mul_left_comm];omega
  clear s T j
  have F:i/32<Q.length:=by omega
  have qj:=Au hQ F
  have G:2 ^ (32*(i/32)+i%32+1)∣val Q:=by rw[Nat.div_add_mod,u];exact Nat.dvd_mul_left _ _
  have y:=Aaz hQ F (Nat.mod_lt _ (by omega)) G
  have U:2 ^ i=4294967296 ^ (i/32)*2 ^ (i%32):=by rw[←bq,Nat.div_add_mod]
  have I:2 ^ (i%32+1)≤4294967296:=(Nat.pow_le_pow_right (by omega) (show i%32+1≤32 by omega):2 ^ (i%32+1)≤2 ^ 32)
  have L:Me .u32 ((Q[i/32]:Nat):Int) (IntKind.wrap .u32 ((1:Int)*2 ^ (min (Int.toNat ((i%32:Nat):Int)) 32)))=((Q[i/32]+2 ^ (i%32):Nat):Int)∧Q[i/32]+2 ^ (i%32)<4294967296:=by
   obtain⟨c,V⟩:=y
   have Y:0<2 ^ (i%32):=Nat.pow_pos (by omega)
   have X:Q[i/32]+2 ^ (i%32)<4294967296:=by
    obtain⟨w,hw⟩:∃ w,4294967296=2 ^ (i%32+1)*w:=⟨2 ^ (31 - i%32),by rw[←Nat.pow_add,show i%32+1+(31 - i%32)=32 by omega]⟩
    have x1:c<w:=by rw[V,hw] at qj;exact Nat.lt_of_mul_lt_mul_left qj
    have x2:=Nat.mul_le_mul_left (2 ^ (i%32+1)) (show c+1≤w from x1)
    rw[Nat.mul_add,←hw,←V,Nat.mul_one,Nat.pow_succ] at x2
    omega
   refine⟨?_,X⟩
   rw[Int.toNat_natCast,Nat.min_eq_left (by omega),Int.one_mul,show(2:Int) ^ (i%32)=((2 ^ (i%32):Nat):Int) by simp,xF (by rw[Nat.pow_succ] at I;omega),na (k:=.u32) rfl qj (by show 2 ^ (i%32)<4294967296;rw[Nat.pow_succ] at I;omega)]
   congr 1
   have e:Q[i/32]=c*2 ^ (i%32+1):=by rw[V,Nat.mul_comm]
   rw[e];exact aU (by rw[Nat.pow_succ];omega)
  have w1:IntKind.wrap .i64 (Int.tdiv ((i:Nat):Int) 32)=((i/32:Nat):Int):=by rw[show(32:Int)=((32:Nat):Int) by rfl,OH,i64 (by omega)]
  have w2:IntKind.wrap .u64 (Int.tmod ((i:Nat):Int) 32)=((i%32:Nat):Int):=by rw[show(32:Int)=((32:Nat):Int) by rfl,HZ,Fj (by omega)]
  have l2:(Ac (2*r+bt)).length≤b.length+1:=by
   apply A4
   have x1:=Bi (Ab B)
   rw[Ad,←q] at x1
   rw[Nat.pow_succ];omega
  have second:H7 N (Dt N K (Aa a) a.length t o b.length (Aa b) d) K (Aa a) a.length t o b.length ((i:Nat):Int) (Aa b) (Aa Q) (Ac (2*r+bt)).length (Aa (Ac (2*r+bt)))=K (Ac (val a/B)).length (Ac (val a%B)).length true (Aa (Ac (val a/B))) (Aa (Ac (val a%B))):=by
   unfold H7
   have lb:Ae b:=by rw[q];exact Ab _
   have vb:val b=B:=by rw[q,Ad]
   rw[Nat.mul_one,Nat.mul_one,List.take_of_length_le (by rw[Bg];omega),List.take_of_length_le (by rw[Bg];omega),bp rfl rfl (Ab _) lb (l.le (by omega)),Ad,vb]
   by_cases M:B≤2*r+bt
   ·have z:val a/2 ^ i/B=2*(H/B)+1:=by
     rw[f,show B*(2*(H/B))+(2*r+bt)=B*(2*(H/B)+1)+(2*r+bt - B) by rw[Nat.mul_add];omega,Nat.mul_add_div hB,Nat.div_eq_of_lt (show 2*r+bt - B<B by omega),Nat.add_zero]
    have A:val a/2 ^ i%B=2*r+bt - B:=by
     rw[f,show B*(2*(H/B))+(2*r+bt)=B*(2*(H/B)+1)+(2*r+bt - B) by rw[Nat.mul_add];omega,Nat.mul_add_mod,Nat.mod_eq_of_lt (by omega)]
    rw[if_pos M,ct,w1,w2,Ak (by omega),ct,VD F,show decide (((i%32:Nat):Int)<0)=false by rw[decide_eq_false_iff_not];omega,cf,ct,n0 F,ct,L.1,HQ,i64 (by omega)]
    refine br S q hB l i d (Q.set (i/32) (Q[i/32]+2 ^ (i%32))) (2*r+bt - B) (by omega) (by omega) (B0 hQ L.2 _) (by simpa using C) A.symm ?_ K
    have x1:=VE (v:=Q[i/32]+2 ^ (i%32)) F
    rw[Nat.mul_add,←U] at x1
    rw[z,Nat.add_mul,Nat.one_mul,Nat.mul_comm 2,Nat.mul_assoc,Nat.mul_comm 2,←Nat.pow_succ,←u]
    omega
   ·have z:val a/2 ^ i/B=2*(H/B):=by rw[f,Nat.mul_add_div hB,Nat.div_eq_of_lt (show 2*r+bt<B by omega),Nat.add_zero]
    have A:val a/2 ^ i%B=2*r+bt:=by rw[f,Nat.mul_add_mod,Nat.mod_eq_of_lt (by omega)]
    rw[if_neg M,cf,i64 (by omega)]
    refine br S q hB l i d Q (2*r+bt) (by omega) (by omega) hQ C A.symm ?_ K
    rw[z,Nat.mul_comm 2,Nat.mul_assoc,Nat.mul_comm 2,←Nat.pow_succ,←u]
  rw[Dt];unfold Nv
  rw[show(((i+1:Nat):Int) - 1)=((i:Nat):Int) by omega,show decide (((i:Nat):Int)≥0)=true by rw[decide_eq_true_eq];omega,ct,Nat.mul_one,List.take_of_length_le (by rw[Bg];omega),b_ rfl rfl (Ab _) (Ab _) (l.le (by omega)),Ad,yx rfl S (by omega) (by omega),D]
  have l3:(Ac (r+r)).length≤b.length+1:=by
   apply A4
   have x1:=Bi (Ab B)
   rw[Ad,←q] at x1
   rw[Nat.pow_succ];omega
  rcases(show bt=0∨bt=1 by omega) with rfl | rfl
  ·rw[show(((0:Nat):Int)==1)=false by rfl,cf]
   rw[show 2*r+0=r+r by omega] at second
   exact second
  ·rw[show(((1:Nat):Int)==1)=true by rfl,ct,Nat.mul_one,List.take_of_length_le (by rw[Bg];omega)]
   have:=b_ (R:=R) (N:=N) (a:=Ac (r+r)) (b:=[1]) (n:=(Ac (r+r)).length) (m:=1) (t:=false) (o:=true) (t':=false) (o':=true) (K:=fun af ag=>H7 N (Dt N K (Aa a) a.length t o b.length (Aa b) d) K (Aa a) a.length t o b.length ((i:Nat):Int) (Aa b) (Aa Q) af ag) rfl rfl (Ab _) (by intro x hx;simp at hx;omega) (l.le (by simp;omega))
   rw[Ad,show val [1]=1 by rfl,show r+r+1=2*r+1 by omega] at this
   exact this.trans second
end
end Gx

namespace Gx
open Go Go.Proofs
section
variable {R:Type}
theorem Nz {N:Nat} {a b:List Nat} {n m:Nat} {t o t' o':Bool} {K:Nat→Nat→Bool→LA→LA→O R} (j:n=a.length) (v:m=b.length) (k:Ae a) (s:Ae b) (f:val b≠0) (e:fit (a.length+2*b.length+4) N) :
  F4 N (Aa a) n t o (Aa b) m t' o' K=K (Ac (val a/val b)).length (Ac (val a%val b)).length true (Aa (Ac (val a/val b))) (Aa (Ac (val a%val b))):=by
 have x:=e.1;have y:=e.2
 have lb:=(Az s).2
 have l:(Ac (val b)).length≠0:=fun h=>f (A2.1 h)
 rw[IL];unfold Wj
 dsimp only
 have long:K6 N K (Aa a) n t o (Ac (val b)).length (Aa (Ac (val b)))=K (Ac (val a/val b)).length (Ac (val a%val b)).length true (Aa (Ac (val a/val b))) (Aa (Ac (val a%val b))):=by
  obtain⟨nb,n1,n2,n3,n4,n5⟩:=wF (R:=R) (N:=N) (a:=a) (n:=n) (t:=false) (o:=o) j k (e.le (by omega))
  unfold K6 Uo
  dsimp only
  rw[n5,j,zX (by omega),ct,Ca,i64 (by omega)]
  have u:val a/2 ^ nb=0:=Nat.div_eq_of_lt n2
  have:=br (R:=R) (N:=N) (a:=a) (b:=Ac (val b)) (t:=t) (o:=o) (B:=val b) k rfl (by omega) (e.le (by omega)) nb N (List.replicate a.length 0) 0 (by omega) n1 (By _) (by simp) (by rw[u];simp) (by rw[u,C0];simp) K
  exact this
 rw[Ck v s (e.le (by omega)),gL l,cf,Nw j k (e.le (by omega)),Nat.mul_one,List.take_of_length_le (by rw[Bg];exact Nat.le_refl _)]
 by_cases d:val a<18446744073709551616
 ·rw[if_pos d,Nw rfl (Ab _) (e.le (by omega)),Ad]
  by_cases c:val b<18446744073709551616
  ·have i:val a/val b<18446744073709551616:=Nat.lt_of_le_of_lt (Nat.div_le_self _ _) d
   have q:val a%val b<18446744073709551616:=Nat.lt_of_le_of_lt (Nat.mod_le _ _) d
   rw[if_pos c,show((true:Bool)==true)=true by rfl,ct,xH,ct,gL f,cf,OH,Fj i,Wk i (by omega),cf,HZ,Wk q (by omega)]
  ·rw[if_neg c,show((true:Bool)==true)=true by rfl,ct,xH,cf,long]
 ·rw[if_neg d,Nw rfl (Ab _) (e.le (by omega)),Ad]
  by_cases c:val b<18446744073709551616
  ·rw[if_pos c,show((false:Bool)==true)=false by rfl,cf,long]
  ·rw[if_neg c,show((false:Bool)==true)=false by rfl,cf,long]
theorem yy {N:Nat}:∀ (k b A B:Nat),k<b→A*B<2 ^ k→B<A→fit (3*(Ac A).length+4) N→∀ K:Nat→LA→O R,C7 N K b (Ac A).length (Ac B).length (Aa (Ac A)) (Aa (Ac B))=K (Ac (Nat.gcd A B)).length (Aa (Ac (Nat.gcd A B))):=by
 have base:∀ (b A:Nat) (K:Nat→LA→O R),C7 N K (b+1) (Ac A).length (Ac 0).length (Aa (Ac A)) (Aa (Ac 0))=K (Ac (Nat.gcd A 0)).length (Aa (Ac (Nat.gcd A 0))):=by
  intro b A K
  rw[C7];unfold Mm
  rw[Bx,show decide ((((([]:List Nat).length:Nat)):Int)>0)=false by decide,cf,Nat.gcd_zero_right]
 intro k
 induction k with
 | zero =>
  intro b A B f c d e K
  obtain⟨b,rfl⟩:∃ F,b=F+1:=⟨b - 1,by omega⟩
  have i:B=0:=by
   rcases Nat.eq_zero_or_pos B with h | h
   ·exact h
   ·have t:=Nat.mul_le_mul_left A (show 1≤B by omega)
    rw[Nat.pow_zero] at c;omega
  subst i
  exact base b A K
 | succ k j =>
  intro b A B f c d e K
  have u:=e.1;have v:=e.2
  obtain⟨b,rfl⟩:∃ F,b=F+1:=⟨b - 1,by omega⟩
  rcases Nat.eq_zero_or_pos B with h | h
  ·subst h;exact base b A K
  have l:=Al (Nat.le_of_lt d)
  have m:(Ac B).length≠0:=fun n=>by have:=A2.1 n;omega
  have q:=Nat.mod_lt A h
  have x:=H' (show 1≤B by omega) (Nat.le_of_lt d)
  have:=j b B (A%B) (by omega) (by rw[Nat.pow_succ] at c;omega) q (e.le (by omega)) K
  have s:Nat.gcd B (A%B)=Nat.gcd A B:=by rw[Nat.gcd_comm,←Nat.gcd_rec,Nat.gcd_comm]
  rw[s] at this
  rw[C7];unfold Mm
  rw[show decide ((((Ac B).length:Nat):Int)>0)=true by rw[decide_eq_true_eq];omega,ct,Nat.mul_one,Nat.mul_one,List.take_of_length_le (by rw[Bg];exact Nat.le_refl _),List.take_of_length_le (by rw[Bg];exact Nat.le_refl _),Nz rfl rfl (Ab _) (Ab _) (by rw[Ad];omega) (e.le (by omega)),Ad,Ad]
  exact this
theorem yz {N:Nat} {a b:List Nat} {n m:Nat} {t o t' o':Bool} {K:Nat→LA→O R} (l:n=a.length) (q:m=b.length) (f:Ae a) (i:Ae b) (d:fit (3*(a.length+b.length)+4) N) :
  MB N (Aa a) n t o (Aa b) m t' o' K=K (Ac (Nat.gcd (val a) (val b))).length (Aa (Ac (Nat.gcd (val a) (val b)))):=by
 have x:=d.1;have y:=d.2
 have la:=(Az f).2
 have lb:=(Az i).2
 have j:val a*val b<2 ^ (32*(a.length+b.length)):=by rw[←si];exact Nat.mul_lt_mul'' (Bi f) (Bi i)
 rw[dg];unfold WQ
 dsimp only
 rw[Ck l f (d.le (by omega)),Ck q i (d.le (by omega))]
 obtain⟨F,hF⟩:∃ F,N=F+1:=⟨N - 1,by omega⟩
 rcases Nat.eq_zero_or_pos (val b) with h | h
 ·rw[h,Bx,Nat.gcd_zero_right,hF,C7];unfold Mm
  rw[show decide ((((([]:List Nat).length:Nat)):Int)>0)=false by decide,cf]
 ·have k:=Nat.mod_lt (val a) h
  have s:(Ac (val b)).length≠0:=fun u=>by have:=A2.1 u;omega
  have c:val b*(val a%val b)<2 ^ (32*(a.length+b.length)):=by
   have:val b*(val a%val b)≤val b*val a:=Nat.mul_le_mul_left _ (Nat.mod_le _ _)
   rw[Nat.mul_comm (val b) (val a)] at this;omega
  have:=yy (R:=R) (N:=N) (32*(a.length+b.length)) F (val b) (val a%val b) (by omega) c k (d.le (by omega)) K
  have v:Nat.gcd (val b) (val a%val b)=Nat.gcd (val a) (val b):=by rw[Nat.gcd_comm,←Nat.gcd_rec,Nat.gcd_comm]
  rw[v] at this
  have e:C7 N K (F+1) (Ac (val a)).length (Ac (val b)).length (Aa (Ac (val a))) (Aa (Ac (val b)))=C7 N K F (Ac (val b)).length (Ac (val a%val b)).length (Aa (Ac (val b))) (Aa (Ac (val a%val b))):=by
   rw[C7];unfold Mm
   rw[show decide ((((Ac (val b)).length:Nat):Int)>0)=true by rw[decide_eq_true_eq];omega,ct,Nat.mul_one,Nat.mul_one,List.take_of_length_le (by rw[Bg];exact Nat.le_refl _),List.take_of_length_le (by rw[Bg];exact Nat.le_refl _),Nz rfl rfl (Ab _) (Ab _) (by rw[Ad];omega) (d.le (by omega)),Ad,Ad]
  conv=>lhs;rw[show(C7 N K N)=C7 N K (F+1) by rw[←hF]]
  rw[e];exact this
end
end Gx

namespace Gx
open Go Go.Proofs
section
variable {R:Type}
inductive LS where
 | nil
 | of (l:List Nat) (t o:Bool)
def LS.l:LS→List Nat
 | .nil=>[]
 | .of l _ _=>l
def LS.av:LS→AV
 | .nil=>.nsl
 | .of l t o=>.imm (Aa l) l.length 1 t o
theorem wG {s:LS} {r:LA} {f:LA→Nat→O R}:Ir 1 (s.av::r) f=f (Aa s.l) s.l.length:=by
 cases s<;>simp[Ir,LS.av,LS.l,Ab2,Aa]
theorem Ada {b:Bool} {r:LA} {f:Bool→O R}:Qc (.bool b::r) f=f b:=by simp[Qc,asBool]
def Bf (neg:Bool) (s:LS):LA:=[.bool neg,s.av]
def An (neg:Bool) (s:LS):Int:=if neg then -(val s.l:Int) else (val s.l:Int)
theorem Ba (neg:Bool) (s:LS):(An neg s).natAbs=val s.l:=by unfold An;cases neg<;>simp
theorem Gn {neg:Bool} {s:LS} {f:Bool→O R}:Qc (Bf neg s) f=f neg:=Ada
theorem F5 {neg:Bool} {s:LS} {f:LA→Nat→O R}:Ir 1 (List.drop 1 (Bf neg s)) f=f (Aa s.l) s.l.length:=by rw[Bf,List.drop_succ_cons,List.drop_zero,wG]
theorem Cx {N:Nat} {c:Bool} {a:Nat} {b:LA} {K:Bool→O R}:Cv N c a b K=K (c&&decide (0<a)):=by
 rw[NA];unfold RL
 cases c<;>simp
theorem Kd {z:Int} {c:Bool} {m:Nat} (h:z=if c then -(m:Int) else (m:Int)):(c&&decide (0<(Ac m).length))=decide (z<0)∧z.natAbs=m:=by
 have e:z.natAbs=m:=by rw[h];cases c<;>simp
 refine⟨?_,e⟩
 by_cases d:m=0
 ·subst d;rw[h,Bx];cases c<;>simp
 ·have:0<(Ac m).length:=by
   rcases Nat.eq_zero_or_pos (Ac m).length with b | b
   ·exact absurd (A2.1 b) d
   ·exact b
  rw[h];cases c<;>simp[this]<;>omega
theorem F6 {N:Nat} {v:Int} (i:-9223372036854775808≤v∧v≤9223372036854775807) (hN:4≤N):∃ S,Ae S∧val S=v.natAbs∧∀ K:Bool→Nat→LA→O R,Bm N v K=K (decide (v<0)) (Ac v.natAbs).length (Aa S):=by
 have d:v.natAbs<18446744073709551616:=by omega
 obtain⟨S,s1,s2,c⟩:=Ha (R:=R) (N:=N) d hN
 refine⟨S,s1,s2,fun K=>?_⟩
 rw[HE];unfold HD
 by_cases h:v<0
 ·have e:IntKind.wrap .u64 ((0:Int) - IntKind.wrap .u64 v)=(v.natAbs:Int):=by rw[HB,HB];omega
  rw[decide_eq_true h,ct,e,c,Cx]
  have f:v.natAbs≠0:=by omega
  have:0<(Ac v.natAbs).length:=by
   rcases Nat.eq_zero_or_pos (Ac v.natAbs).length with b | b
   ·exact absurd (A2.1 b) f
   ·exact b
  simp[this]
 ·have e:IntKind.wrap .u64 v=(v.natAbs:Int):=by rw[HB];omega
  rw[decide_eq_false h,cf,e,c,Cx];rfl
theorem Pp {N:Nat} {neg:Bool} {s:LS} {o:Bool} {K:Int→O R} (b:Ae s.l) (c:fit s.l.length N):Ij N (Bf neg s) o K=K (An neg s).sign:=by
 rw[cv];unfold il
 rw[F5,jI rfl b c]
 unfold An
 by_cases h:val s.l=0
 ·rw[h,Zf,show((0:Int)==0)=true by rfl,ct];cases neg<;>rfl
 ·have:Fn (val s.l) 0=1:=by unfold Fn;rw[if_neg (by omega),if_pos (by omega)]
  rw[this,show((1:Int)==0)=false by rfl,cf,Gn]
  cases neg
  ·rw[cf];simp only[Bool.false_eq_true,if_false]
   congr 1
   rw[Int.sign_eq_one_of_pos];omega
  ·rw[ct];simp only[if_true]
   congr 1
   rw[Int.sign_eq_neg_one_of_neg];omega
theorem bs {N:Nat} {n1 n2:Bool} {s1 s2:LS} {o1 o2:Bool} (d:Ae s1.l) (e:Ae s2.l) (f:fit (s1.l.length+s2.l.length) N):∃ S,Ae S∧val S=(An n1 s1*An n2 s2).natAbs∧∀ K:Bool→Nat→LA→O R,Pe N (Bf n1 s1) o1 (Bf n2 s2) o2 K=K (decide (An n1 s1*An n2 s2<0)) (Ac (An n1 s1*An n2 s2).natAbs).length (Aa S):=by
 obtain⟨S,a1,a2,a3⟩:=VG (R:=R) (N:=N) (a:=s1.l) (b:=s2.l) (t:=false) (o:=o1) (t':=false) (o':=o2) rfl rfl d e f
 have i:An n1 s1*An n2 s2=if (!(n1==n2)) then -((val s1.l*val s2.l:Nat):Int) else ((val s1.l*val s2.l:Nat):Int):=by
  unfold An;cases n1<;>cases n2<;>simp[Int.mul_neg,Int.neg_mul]
 obtain⟨c1,c⟩:=Kd i
 refine⟨S,a1,by rw[a2,c],fun K=>?_⟩
 rw[iZ];unfold pv
 rw[Gn,Gn,F5,F5,a3,Cx,c1,c]
theorem bu {N:Nat} {n1 n2:Bool} {s1 s2:LS} {o1 o2:Bool} (f:Ae s1.l) (i:Ae s2.l) (j:fit (s1.l.length+s2.l.length+1) N):∃ S,Ae S∧val S=(An n1 s1+An n2 s2).natAbs∧∀ K:Bool→Nat→LA→O R,BQ N (Bf n1 s1) o1 (Bf n2 s2) o2 K=K (decide (An n1 s1+An n2 s2<0)) (Ac (An n1 s1+An n2 s2).natAbs).length (Aa S):=by
 by_cases k:n1=n2
 ·subst k
  obtain⟨S,a1,a2,a3⟩:=s9 (R:=R) (N:=N) (a:=s1.l) (b:=s2.l) (t:=false) (o:=o1) (t':=false) (o':=o2) rfl rfl f i j
  have d:An n1 s1+An n1 s2=if n1 then -((val s1.l+val s2.l:Nat):Int) else ((val s1.l+val s2.l:Nat):Int):=by
   unfold An;cases n1<;>simp;omega
  obtain⟨c1,c⟩:=Kd d
  refine⟨S,a1,by rw[a2,c],fun K=>?_⟩
  rw[BR];unfold UQ
  rw[Gn,Gn,show(n1==n1)=true by simp,ct,Gn,F5,F5,a3,Cx,c1,c]
 ·have e:(n1==n2)=false:=by simp[k]
  by_cases m:val s2.l≤val s1.l
  ·obtain⟨S,a1,a2,a3⟩:=VF (R:=R) (N:=N) (a:=s1.l) (b:=s2.l) (t:=false) (o:=o1) (t':=false) (o':=o2) rfl rfl f i (j.le (by omega)) m
   have d:An n1 s1+An n2 s2=if n1 then -((val s1.l - val s2.l:Nat):Int) else ((val s1.l - val s2.l:Nat):Int):=by
    unfold An;cases n1<;>cases n2<;>simp at k ⊢<;>omega
   obtain⟨c1,c⟩:=Kd d
   refine⟨S,a1,by rw[a2,c],fun K=>?_⟩
   rw[BR];unfold UQ
   rw[Gn,Gn,e,cf,F5,F5,a3,ct,Gn,Cx,c1,c]
  ·obtain⟨S,a1,a2,a3⟩:=VF (R:=R) (N:=N) (a:=s2.l) (b:=s1.l) (t:=false) (o:=o2) (t':=false) (o':=o1) rfl rfl i f (j.le (by omega)) (by omega)
   have d:An n1 s1+An n2 s2=if n2 then -((val s2.l - val s1.l:Nat):Int) else ((val s2.l - val s1.l:Nat):Int):=by
    unfold An;cases n1<;>cases n2<;>simp at k ⊢<;>omega
   obtain⟨c1,c⟩:=Kd d
   refine⟨S,a1,by rw[a2,c],fun K=>?_⟩
   rw[BR];unfold UQ
   rw[Gn,Gn,e,cf,F5,F5,Aal rfl rfl f i (j.le (by omega)) (by omega),cf,F5,F5,a3,Gn,Cx,c1,c]
theorem wH {N:Nat} {n1:Bool} {s1:LS} {o1:Bool} {K:Bool→Nat→LA→O R} (b:Ae s1.l) (d:fit s1.l.length N):VB N (Bf n1 s1) o1 K=K (decide (An n1 s1<0)) (Ac (An n1 s1).natAbs).length (Aa (Ac (An n1 s1).natAbs)):=by
 obtain⟨c1,e⟩:=Kd (z:=An n1 s1) (c:=n1) (m:=val s1.l) (by unfold An;cases n1<;>simp)
 rw[dI];unfold jD
 rw[Gn,F5,Td rfl b d,Cx,c1,e]
def Om (x y:Int):Int:=if x<y then -1 else if y<x then 1 else 0
theorem Aa0 (x y:Nat):Om (x:Int) (y:Int)=Fn x y:=by unfold Om Fn;simp
theorem Aa1 (x y:Nat):Om (-(x:Int)) (-(y:Int))=Fn y x:=by
 unfold Om Fn
 by_cases h:y<x
 ·rw[if_pos (by omega),if_pos h]
 ·rw[if_neg (by omega),if_neg h]
  by_cases b:x<y
  ·rw[if_pos (by omega),if_pos b]
  ·rw[if_neg (by omega),if_neg b]
theorem Xv {N:Nat} {n1 n2:Bool} {s1 s2:LS} {o1 o2:Bool} {K:Int→O R} (e:Ae s1.l) (f:Ae s2.l) (d:fit (s1.l.length+s2.l.length) N):L8 N (Bf n1 s1) o1 (Bf n2 s2) o2 K=K (Om (An n1 s1) (An n2 s2)):=by
 rw[IR];unfold IQ
 have l2:∀ n s,List.take 2 (Bf n s)=Bf n s:=fun n s=>rfl
 have l3:∀ n s,Nat.ble 2 (List.length (Bf n s))=true:=fun n s=>rfl
 rw[l2,l2,l3,l3,ct,Pp e (d.le (by omega)),ct,Pp f (d.le (by omega))]
 have sg:∀ z:Int,z.sign=if z<0 then -1 else if 0<z then 1 else 0:=by
  intro z
  rcases Int.lt_trichotomy z 0 with h | h | h
  ·rw[Int.sign_eq_neg_one_of_neg h,if_pos h]
  ·subst h;rfl
  ·rw[Int.sign_eq_one_of_pos h,if_neg (by omega),if_pos h]
 by_cases c1:(An n1 s1).sign<(An n2 s2).sign
 ·rw[decide_eq_true c1,ct]
  rw[sg,sg] at c1
  unfold Om;rw[if_pos]
  split at c1<;>split at c1<;>(try split at c1)<;>(try split at c1)<;>omega
 ·rw[decide_eq_false c1,cf]
  by_cases b:(An n1 s1).sign>(An n2 s2).sign
  ·rw[decide_eq_true b,ct]
   rw[sg,sg] at b
   unfold Om;rw[if_neg,if_pos]
   ·split at b<;>split at b<;>(try split at b)<;>(try split at b)<;>omega
   ·split at b<;>split at b<;>(try split at b)<;>(try split at b)<;>omega
  ·rw[decide_eq_false b,cf]
   have q:(An n1 s1).sign=(An n2 s2).sign:=by omega
   by_cases c:(An n1 s1).sign<0
   ·rw[decide_eq_true c,ct,F5,F5,Tc rfl rfl f e (d.le (by omega))]
    have i:An n1 s1<0:=by rw[sg] at c;split at c;assumption;split at c<;>omega
    have j:An n2 s2<0:=by rw[q,sg] at c;split at c;assumption;split at c<;>omega
    have k:An n1 s1=-(val s1.l:Int):=by unfold An at i ⊢;cases n1<;>simp at i ⊢;omega
    have m:An n2 s2=-(val s2.l:Int):=by unfold An at j ⊢;cases n2<;>simp at j ⊢;omega
    rw[k,m,Aa1]
   ·rw[decide_eq_false c,cf,F5,F5,Tc rfl rfl e f (d.le (by omega))]
    have i:0≤An n1 s1:=by
     apply Int.not_lt.1;intro h;rw[Int.sign_eq_neg_one_of_neg h] at c;omega
    have j:0≤An n2 s2:=by
     apply Int.not_lt.1;intro h;rw[q,Int.sign_eq_neg_one_of_neg h] at c;omega
    have k:An n1 s1=(val s1.l:Int):=by have:=Ba n1 s1;omega
    have m:An n2 s2=(val s2.l:Int):=by have:=Ba n2 s2;omega
    rw[k,m,Aa0]
end
end Gx

namespace Gx
open Go Go.Proofs
open IntKind (wrap)
set_option maxRecDepth 100000
noncomputable section
variable {R:Type} (N:Nat)
def SX (c:LA) (d:Bool) (r0:LA→O R):O R :=
 (cond (Nat.ble 3 (c.length)) (Mo N (c.take 3) d (fun b=>(cond ((Nat.beq 0 0)&&((Nat.beq (b.length) 2)&&(Nat.beq 2 2))) (Mp N 2 (fun m=>(cond (Nat.ble 3 (c.length)) (cond (Nat.ble 2 (b.length)) (H9 N (b.take 2) false (fun n=>(Ws N (c.take 3) d n false (fun o=>(Ny N m false o false (fun e=>(cond ((Nat.beq 0 0)&&((Nat.beq (e.length) 3)&&(Nat.beq 3 3))) (cond (Nat.ble 2 (b.length)) (A8 N 2 (fun p=>(C8 N (b.take 2) false p false (fun q f w=>(cond ((Nat.beq 0 0)&&((Nat.beq (q.length) 2)&&(Nat.beq 2 2))) (cond ((Nat.beq 0 0)&&((Nat.beq (f.length) 2)&&(Nat.beq 2 2))) (cond (Nat.ble 3 (e.length)) (Mp N 1 (fun r=>(Fq N (e.take 3) false r false (fun l=>(cond ((decide (l>0))==false) (cond ((l==0)==true) (cond (Nat.ble 2 (f.length)) (Gl N (f.take 2) false (fun s=>(cond (cond false true (cond true (decide (s>0)) false)) (cond (Nat.ble 2 (b.length)) (A8 N 1 (fun t=>(Lp N (b.take 2) false t false (fun g=>(cond ((Nat.beq 0 0)&&((Nat.beq (g.length) 2)&&(Nat.beq 2 2))) (cond (Nat.ble 2 (g.length)) (r0 (g.take 2)) none) none))))) none) (cond (Nat.ble 2 (b.length)) (cond ((Nat.beq 0 0)&&((Nat.beq ((b.take 2).length) 2)&&(Nat.beq 2 2))) (cond (Nat.ble 2 ((b.take 2).length)) (r0 ((b.take 2).take 2)) none) none) none)))) none) (cond (Nat.ble 2 (b.length)) (cond ((Nat.beq 0 0)&&((Nat.beq ((b.take 2).length) 2)&&(Nat.beq 2 2))) (cond (Nat.ble 2 ((b.take 2).length)) (r0 ((b.take 2).take 2)) none) none) none)) (cond (Nat.ble 2 (b.length)) (A8 N 1 (fun u=>(Lp N (b.take 2) false u false (fun i=>(cond ((Nat.beq 0 0)&&((Nat.beq (i.length) 2)&&(Nat.beq 2 2))) (cond (Nat.ble 2 (i.length)) (r0 (i.take 2)) none) none))))) none)))))) none) none) none))))) none) none))))))) none) none))) none))) none)
def Z1:=(Ag (@SX R)).1
theorem PM:@Z1 R=@SX R:=(Ag _).2
def t7:Dx:=[(31,XT N),(94,kw N),(30,Sd N),(86,lL N),(41,SU N),(32,C5 N),(71,K7 N),(29,JG N),(138,Qg N),(139,CD N)]
def XZ (F:KF R):LA→O R:=(fun v=>F (.pagg v false) [])
theorem X_ (c:LA) (d:Bool) (F:KF R):Cq (t7 N) I0 N 77 [(.pagg c d)] [] F=(Z1 N c d (XZ F)):=by
 rw[PM]
 kernel_rfl
def PN (a:LA) (h:Ah) (k:KF R):O R :=
 match a,h with
 | [(.pagg c d)],[]=>(Z1 N c d (XZ k))
 | _,_=>none
theorem YA:Ao N 77 @PN:=by
 intro R Q a h k j;unfold PN;split;exact Av (X_ ..) (X_ ..) ⟨XU N,ky N,Se N,lM N,SV N,C6 N,K8 N,JH N,Qh N,CE N,trivial⟩;exact Ax
def qZ:=Aw (YA N)
def q8:=Cr (YA N)
def N0 (N:Nat) (r0:Int→Bool→O R) (b:Int) (e g:Bool) (f:LA):O R :=
 (cond e (r0 (wrap .i64 ((wrap .i64 ((0:Int) - (wrap .i64 (wrap .u64 (b - 1))))) - 1)) true) (Qc f fun l=>(cond ((!l)==true) (cond (cond true (decide (b<9223372036854775808)) false) (r0 (wrap .i64 b) true) (r0 0 false)) (r0 0 false))))
def CT (r0:Int→Bool→O R) (q0:Int→Bool→Bool→LA→O R) (c:LA) (d:Bool):O R :=
 (cond (Nat.ble 2 (c.length)) (E3 N (c.take 2) d (fun i=>(cond ((Nat.beq (i.length) 2)&&((Nat.ble 2 (c.length))&&(!false))) (Ir 1 ((setCells c 0 i).drop 1) fun m n=>(E4 N m n false (d||false) (fun b o=>(cond (!o) (r0 0 false) (Qc (setCells c 0 i) fun p=>(cond (p==true) (q0 b (cond true (decide (b≤9223372036854775808)) false) (d||false) (setCells c 0 i)) (q0 b false (d||false) (setCells c 0 i)))))))) none))) none)
def Tg:=(Ag (fun (N:Nat) (c:LA) (d:Bool) (r0:Int→Bool→O R)=>(CT N r0 (fun b e g f=>(N0 N r0 b e g f)) c d))).1
theorem PO (c d r0):(@Tg R N c d r0)=(CT N r0 (fun b e g f=>(N0 N r0 b e g f)) c d):=by rw[Tg,(Ag _).2]
def YB:Hints:={ H:=(hS hL (hS hL (hS hL (hS (hS (hS hL (hS hL (hJ [1,4,17] hL hL))) hL) hL)))) }
def eg:Dx:=[(26,Mj N),(89,Xm N)]
def q9 (F:KF R):=S6 Tryz.f33 YB (eg N) [] N F
def Sf (F:KF R):Int→Bool→O R:=(fun q r=>F (.tup [(iv q),(.bool r)]) [])
def q_ (b:Int) (e g:Bool) (f:LA):St:=⟨[(1,(op 0)),(4,(.int .u64 b)),(17,(.bool e))],(hq [(bP g 0 f)])⟩
def qa (F:KF R):=q9 N F [1,1,1,0,0,1,1,1] []
theorem fm (F:KF R) (b:Int):∀ (e g:Bool) (f:LA),Eh (qa N F) (q_ b e g f)=(N0 N (Sf F) b e g f):=by
 intro e g f
 kernel_rfl
theorem YC (c:LA) (d:Bool) (F:KF R):Cq (eg N) YB N 33 [(.pagg c d)] [] F=(Tg N c d (Sf F)):=by
 rw[PO]
 exact Eq.trans (by kernel_rfl) (El (CT N (Sf F) · c d) (funext fun b=>funext fun e=>funext fun g=>funext fun f=>(Bo ..).trans (fm N F b e g f)):_)
def PP (a:LA) (h:Ah) (k:KF R):O R :=
 match a,h with
 | [(.pagg c d)],[]=>(Tg N c d (Sf k))
 | _,_=>none
theorem YD:Ao N 33 @PP:=by
 intro R Q a h k j;unfold PP;split;exact Av (YC ..) (YC ..) ⟨Mk N,Xn N,trivial⟩;exact Ax
def qb:=Aw (YD N)
def qc:=Cr (YD N)
end
end Gx

namespace Gx
open Go Go.Proofs
section
variable {R:Type}
theorem qd (z:Int) (d:Nat) (f:d≠0):(mkRat z d).num.natAbs=z.natAbs/Nat.gcd z.natAbs d∧((mkRat z d).num<0↔z<0)∧(mkRat z d).den=d/Nat.gcd z.natAbs d:=by
 have j:0<Nat.gcd z.natAbs d:=Nat.gcd_pos_of_pos_right _ (by omega)
 rw[Rat.num_mkRat,Rat.den_mkRat,if_neg f,if_neg f,Nat.gcd_comm d]
 have b:((Nat.gcd z.natAbs d:Nat):Int)∣z:=Int.dvd_natAbs.1 (Int.natCast_dvd_natCast.2 (Nat.gcd_dvd_left _ _))
 obtain⟨c,i⟩:=b
 have k:z.natAbs.gcd d=Nat.gcd z.natAbs d:=rfl
 generalize Nat.gcd z.natAbs d=g at *
 refine⟨?_,?_,rfl⟩
 ·rw[i,Int.mul_ediv_cancel_left _ (by omega),Int.natAbs_mul,Int.natAbs_natCast,Nat.mul_div_cancel_left _ j]
 ·rw[i,Int.mul_ediv_cancel_left _ (by omega)]
  constructor
  ·intro h;exact Int.mul_neg_of_pos_of_neg (by omega) h
  ·intro h;rcases Int.lt_or_le c 0 with e | e
   ·exact e
   ·have:=Int.mul_nonneg (show(0:Int)≤g by omega) e;omega
structure RatD where
 neg:Bool
 ns:LS
 ds:LS
def RatD.av (x:RatD):LA:=[.bool x.neg,x.ns.av,x.ds.av]
def RatD.ok (x:RatD):Prop:=Ae x.ns.l∧Ae x.ds.l
def RatD.m (x:RatD):Nat:=max x.ns.l.length x.ds.l.length
def RatD.q (x:RatD):Rat:=mkRat (An x.neg x.ns) (val x.ds.l)
def RatD.can (x:RatD) (q:Rat):Prop:=x.neg=decide (q.num<0)∧x.ns.l=Ac q.num.natAbs∧x.ds.l=Ac q.den
def qm (q:Rat):Nat:=max (Ac q.num.natAbs).length (Ac q.den).length
theorem RatD.can.ok {x:RatD} {q:Rat} (h:x.can q):x.ok:=⟨by rw[h.2.1];exact Ab _,by rw[h.2.2];exact Ab _⟩
theorem RatD.can.m {x:RatD} {q:Rat} (h:x.can q):x.m=qm q:=by unfold RatD.m qm;rw[h.2.1,h.2.2]
theorem RatD.can.q {x:RatD} {q:Rat} (h:x.can q):x.q=q:=by
 unfold RatD.q An
 rw[h.1,h.2.1,h.2.2,Ad,Ad]
 have:(if decide (q.num<0)=true then -(q.num.natAbs:Int) else (q.num.natAbs:Int))=q.num:=by
  by_cases b:q.num<0
  ·rw[if_pos (by simpa using b)];omega
  ·rw[if_neg (by simpa using b)];omega
 rw[this,Rat.mkRat_self]
theorem Ae9 {x:RatD} {f:Bool→O R}:Qc x.av f=f x.neg:=Ada
theorem Adz {x:RatD} {f:LA→Nat→O R}:Ir 1 (List.drop 1 x.av) f=f (Aa x.ns.l) x.ns.l.length:=by rw[RatD.av,List.drop_succ_cons,List.drop_zero,wG]
theorem bw {x:RatD} {f:LA→Nat→O R}:Ir 1 (List.drop 2 x.av) f=f (Aa x.ds.l) x.ds.l.length:=by rw[RatD.av,List.drop_succ_cons,List.drop_succ_cons,List.drop_zero,wG]
theorem Is (x:RatD):Nat.ble 3 (List.length x.av)=true:=rfl
theorem Dp (x:RatD):List.take 3 x.av=x.av:=rfl
theorem Adb (x:RatD):List.take 2 x.av=Bf x.neg x.ns:=rfl
theorem t8 (n:Bool) (s:LS):((Nat.beq 0 0)&&((Nat.beq (List.length (Bf n s)) 2)&&(Nat.beq 2 2)))=true:=rfl
theorem Q7 (n:Bool) (s:LS):Nat.ble 2 (List.length (Bf n s))=true:=rfl
theorem SH (n:Bool) (s:LS):List.take 2 (Bf n s)=Bf n s:=rfl
theorem t_:([.int .u32 1]:LA)=Aa [1]:=rfl
theorem bx:Ae [1]:=by intro x b;simp at b;omega
theorem Hg:Ac 1=[1]:=by rw[Ry (by omega)];simp[Bx]
theorem A0 {v:Nat} {S:List Nat} (b:Ae S) (c:val S=v):List.take ((Ac v).length*1) (Aa S)=Aa (Ac v):=by rw[←c,H2 b]
theorem lO (neg:Bool) (l:List Nat) (t o:Bool):([.bool neg,.imm (Aa l) l.length 1 t o]:LA)=Bf neg (.of l t o):=rfl
theorem B5 {z:Int} {t o:Bool}:An (decide (z<0)) (.of (Ac z.natAbs) t o)=z:=by
 unfold An LS.l;rw[Ad]
 by_cases h:z<0
 ·rw[if_pos (by simpa using h)];omega
 ·rw[if_neg (by simpa using h)];omega
theorem CU {N:Nat} {x:RatD} {o:Bool} (c:x.ok) (f:fit x.m N):∃ (neg:Bool) (s:LS) (l:List Nat) (o1 o2:Bool),Ae s.l∧Ae l∧val l≠0∧s.l.length≤x.m∧l.length≤max x.m 1∧mkRat (An neg s) (val l)=x.q∧∀ K:LA→Bool→LA→Nat→Bool→O R,Qe N x.av o K=K (Bf neg s) o1 (Aa l) l.length o2:=by
 have d:x.ns.l.length≤x.m:=Nat.le_max_left _ _
 have b:x.ds.l.length≤x.m:=Nat.le_max_right _ _
 by_cases e:val x.ds.l=0
 ·refine⟨false,.nil,[1],false,false,O8,bx,by decide,by simp[LS.l],by simp;omega,?_,fun K=>?_⟩
  ·unfold RatD.q;rw[e];simp[An,LS.l,val]
  ·rw[BT];unfold LZ
   rw[bw,jI rfl c.2 (f.le b),e,Zf];rfl
 ·refine⟨x.neg,x.ns,x.ds.l,o,o,c.1,c.2,e,d,by omega,rfl,fun K=>?_⟩
  have:Fn (val x.ds.l) 0=1:=by unfold Fn;rw[if_neg (by omega),if_pos (by omega)]
  rw[BT];unfold LZ
  rw[bw,jI rfl c.2 (f.le b),this,show((1:Int)==0)=false by rfl,cf,show Nat.ble 2 (List.length x.av)=true by rfl,ct,bw,Adb,t8,ct,Q7,ct,SH]
theorem CV {N:Nat} {x:RatD} {o:Bool} (c:x.ok) (f:fit x.m N):(∃ (n:Int) (d:Nat),-2147483648<n∧n<2147483648∧0<d∧d<2147483648∧mkRat n d=x.q∧∀ K:Int→Int→Bool→O R,K3 N x.av o K=K n (d:Int) true)∨(∀ K:Int→Int→Bool→O R,K3 N x.av o K=K 0 0 false):=by
 have i:x.ns.l.length≤x.m:=Nat.le_max_left _ _
 have b:x.ds.l.length≤x.m:=Nat.le_max_right _ _
 by_cases u:val x.ns.l<2147483648
 ·by_cases t:val x.ds.l<2147483648
  ·left
   have e:∀ K:Int→Int→Bool→O R,K3 N x.av o K=Dy N K (val x.ns.l:Int) (val x.ds.l:Int) o x.av false:=by
    intro K
    rw[R3];unfold Tb
    rw[Adz,Gt rfl c.1 (f.le i),if_pos (by omega),bw,Gt rfl c.2 (f.le b),if_pos (by omega)]
    rw[show((!true)==false)=true by rfl,ct,show((cond false true (!true))==false)=true by rfl,ct,show decide (((val x.ns.l:Nat):Int)≥2147483648)=false by rw[decide_eq_false_iff_not];omega,show((cond false true false)==false)=true by rfl,ct,show decide (((val x.ds.l:Nat):Int)≥2147483648)=false by rw[decide_eq_false_iff_not];omega]
    rfl
   by_cases k:val x.ds.l=0
   ·refine⟨0,1,by omega,by omega,by omega,by omega,by unfold RatD.q;rw[k];simp,fun K=>?_⟩
    rw[e];unfold Dy
    rw[cf,Afp k,ct];rfl
   ·have v:=Ba x.neg x.ns
    refine⟨An x.neg x.ns,val x.ds.l,by omega,by omega,by omega,t,rfl,fun K=>?_⟩
    rw[e];unfold Dy
    rw[cf,gL k,cf,Ae9,i64 (a:=((val x.ns.l:Nat):Int)) (by omega),i64 (a:=((val x.ds.l:Nat):Int)) (by omega)]
    unfold An
    cases x.neg
    ·rfl
    ·rw[ct,i64 (by omega),Int.zero_sub];rfl
  ·right
   intro K
   rw[R3];unfold Tb
   rw[Adz,Gt rfl c.1 (f.le i),if_pos (by omega),bw,Gt rfl c.2 (f.le b),show((!true)==false)=true by rfl]
   by_cases j:val x.ds.l<18446744073709551616
   ·rw[if_pos j,ct,show((cond false true (!true))==false)=true by rfl,ct,show decide (((val x.ns.l:Nat):Int)≥2147483648)=false by rw[decide_eq_false_iff_not];omega,show((cond false true false)==false)=true by rfl,ct,show decide (((val x.ds.l:Nat):Int)≥2147483648)=true by rw[decide_eq_true_eq];omega]
    unfold Dy;rfl
   ·rw[if_neg j,ct,show((cond false true (!false))==false)=false by rfl,cf]
    unfold Dy;rfl
 ·right
  intro K
  rw[R3];unfold Tb
  rw[Adz,Gt rfl c.1 (f.le i)]
  by_cases j:val x.ns.l<18446744073709551616
  ·rw[if_pos j,bw,Gt rfl c.2 (f.le b),show((!true)==false)=true by rfl,show decide (((val x.ns.l:Nat):Int)≥2147483648)=true by rw[decide_eq_true_eq];omega]
   by_cases s:val x.ds.l<18446744073709551616
   ·rw[if_pos s,ct,show((cond false true (!true))==false)=true by rfl,ct]
    unfold Dy;rfl
   ·rw[if_neg s,ct,show((cond false true (!false))==false)=false by rfl,cf]
    unfold Dy;rfl
  ·rw[if_neg j,bw,Gt rfl c.2 (f.le b),show((!false)==false)=false by rfl]
   split<;>(rw[cf];unfold Dy;rfl)
theorem oq {N:Nat} {a b c:Nat} {s:Int} (hN:4≤N) (t:a<18446744073709551616) (M:b<9223372036854775808) (u:0<c) (v:c∣a):∀ (k e x y:Nat),k<e→x*y<2 ^ k→y≤x→Nat.gcd x y=c→∃ d:RatD,d.neg=decide (s<0)∧d.ns.l=Ac (a/c)∧d.ds.l=Ac (b/c)∧∀ K:LA→O R,Cb N K s (b:Int) (a:Int) e (x:Int) (y:Int)=K d.av:=by
 have base:∀ (e:Nat),∃ d:RatD,d.neg=decide (s<0)∧d.ns.l=Ac (a/c)∧d.ds.l=Ac (b/c)∧∀ K:LA→O R,Cb N K s (b:Int) (a:Int) (e+1) (c:Int) ((0:Nat):Int)=K d.av:=by
  intro e
  have n:a/c<18446744073709551616:=Nat.lt_of_le_of_lt (Nat.div_le_self _ _) t
  have q:b/c<18446744073709551616:=Nat.lt_of_le_of_lt (Nat.div_le_self _ _) (by omega)
  obtain⟨S1,s1,s2,z⟩:=Ha (R:=R) (N:=N) n hN
  obtain⟨S2,t1,t2,t3⟩:=Ha (R:=R) (N:=N) q hN
  refine⟨⟨decide (s<0),.of (Ac (a/c)) false false,.of (Ac (b/c)) false false⟩,rfl,rfl,rfl,fun K=>?_⟩
  rw[Cb];unfold Hq
  rw[show(((0:Nat):Int) != 0)=false by rfl,cf,gL (by omega),cf,OH,Fj n,z,cf,Fj (show b<18446744073709551616 by omega),OH,Fj q,t3,A0 s1 s2,A0 t1 t2];rfl
 intro k
 induction k with
 | zero =>
  intro e x y A f j i
  obtain⟨e,rfl⟩:∃ F,e=F+1:=⟨e - 1,by omega⟩
  have B:y=0:=by
   rcases Nat.eq_zero_or_pos y with h | h
   ·exact h
   ·have S:=Nat.mul_le_mul_left x (show 1≤y by omega)
    rw[Nat.pow_zero] at f;omega
  subst B
  rw[Nat.gcd_zero_right] at i;subst i
  exact base e
 | succ k C =>
  intro e x y A f j i
  obtain⟨e,rfl⟩:∃ F,e=F+1:=⟨e - 1,by omega⟩
  rcases Nat.eq_zero_or_pos y with h | h
  ·subst h;rw[Nat.gcd_zero_right] at i;subst i;exact base e
  ·have T:=H' (show 1≤y by omega) j
   have U:=Nat.mod_lt x h
   have m:Nat.gcd y (x%y)=Nat.gcd x y:=by rw[Nat.gcd_comm,←Nat.gcd_rec,Nat.gcd_comm]
   obtain⟨d,D,G,I,L⟩:=C e y (x%y) (by omega) (by rw[Nat.pow_succ] at f;omega) (by omega) (by rw[m,i])
   refine⟨d,D,G,I,fun K=>?_⟩
   rw[Cb];unfold Hq
   rw[show((y:Int) != 0)=true by rw[bne_iff_ne];omega,ct,gL (by omega),cf,HZ]
   exact L K
theorem PQ {N:Nat} {s:Int} {b:Nat} (A:-9223372036854775808≤s∧s≤9223372036854775807) (k:0<b) (v:b<9223372036854775808) (hN:1000≤N):∃ d:RatD,d.can (mkRat s b)∧∀ K:LA→O R,Gs N s (b:Int) K=K d.av:=by
 obtain⟨m1,m2,m3⟩:=qd s b (by omega)
 have f:∀ d:RatD,d.neg=decide (s<0)→d.ns.l=Ac (s.natAbs/Nat.gcd s.natAbs b)→d.ds.l=Ac (b/Nat.gcd s.natAbs b)→d.can (mkRat s b):=by
  intro d x y z
  exact⟨by rw[x];congr 1;exact propext m2.symm,by rw[y,m1],by rw[z,m3]⟩
 have j:s.natAbs<18446744073709551616:=by omega
 have start:∀ K:LA→O R,Gs N s (b:Int) K=Cb N K s (b:Int) (s.natAbs:Int) N (b:Int) (s.natAbs:Int):=by
  intro K
  rw[EA];unfold R4 Nn Q3
  dsimp only
  by_cases h:s<0
  ·have e:IntKind.wrap .u64 ((0:Int) - IntKind.wrap .u64 s)=(s.natAbs:Int):=by rw[HB,HB];omega
   rw[decide_eq_true h,ct,e,Fj (by omega)]
  ·have e:IntKind.wrap .u64 s=(s.natAbs:Int):=by rw[HB];omega
   rw[decide_eq_false h,cf,e,Fj (by omega)]
 have i:0<Nat.gcd s.natAbs b:=Nat.gcd_pos_of_pos_right _ k
 by_cases m:s.natAbs≤b
 ·obtain⟨d,n,q,t,u⟩:=oq (R:=R) (N:=N) (a:=s.natAbs) (b:=b) (c:=Nat.gcd s.natAbs b) (s:=s) (by omega) j v i (Nat.gcd_dvd_left _ _) 128 N b s.natAbs (by omega) (by
   have:=Nat.mul_lt_mul'' (show b<18446744073709551616 by omega) j;exact this) m (Nat.gcd_comm _ _)
  exact⟨d,f d n q t,fun K=>by rw[start,u]⟩
 ·obtain⟨F,hF⟩:∃ F,N=F+1:=⟨N - 1,by omega⟩
  obtain⟨d,n,q,t,u⟩:=oq (R:=R) (N:=N) (a:=s.natAbs) (b:=b) (c:=Nat.gcd s.natAbs b) (s:=s) (by omega) j v i (Nat.gcd_dvd_left _ _) 128 F s.natAbs (b%s.natAbs) (by omega) (by
   rw[Nat.mod_eq_of_lt (by omega)]
   have:=Nat.mul_lt_mul'' j (show b<18446744073709551616 by omega);exact this) (by rw[Nat.mod_eq_of_lt (by omega)];omega) (by rw[Nat.mod_eq_of_lt (by omega)])
  refine⟨d,f d n q t,fun K=>?_⟩
  rw[start,←u K]
  conv=>lhs;rw[show(Cb N K s (b:Int) (s.natAbs:Int) N)=Cb N K s (b:Int) (s.natAbs:Int) (F+1) by rw[←hF]]
  rw[Cb];unfold Hq
  rw[show(((s.natAbs:Nat):Int) != 0)=true by rw[bne_iff_ne];omega,ct,gL (by omega),cf,HZ]
end
end Gx

namespace Gx
open Go Go.Proofs
section
variable {R:Type}
theorem Acc {S:List Nat} {g:Nat} (d:Ae S) (e:val S=g) (c:(Ac g).length=1) {f:Int→O R}:Gb .u32 (Aa S) f=f (g:Int):=by
 have i:=(Az d).2
 rw[e,c] at i
 have b:=s8 d
 rw[e,c] at b
 obtain⟨a,j⟩:∃ a,Ac g=[a]:=by
  match h:Ac g,c with
  | [a],_=>exact⟨a,rfl⟩
 have k:a=g:=by have:=Ad g;rw[j] at this;simpa[val] using this
 rw[j,k] at b
 match S,i,b with
 | x::r,_,b =>
  simp at b;subst b
  rw[O9,Tx]
theorem eh {N:Nat} {neg:Bool} {s:LS} {l:List Nat} {n:Nat} {o t o':Bool} (S:n=l.length) (C:Ae s.l) (D:Ae l) (j:val l≠0) (e:fit (2*(s.l.length+l.length)+8) N) :
  ∃ d:RatD,d.can (mkRat (An neg s) (val l))∧∀ K:LA→O R,Po N (Bf neg s) o (Aa l) n t o' K=K d.av:=by
 obtain⟨m1,m2,m3⟩:=qd (An neg s) (val l) j
 have k:=Ba neg s
 have ls:=(Az C).2
 have ll:=(Az D).2
 generalize T:An neg s=z at *
 have start:∀ K:LA→O R,Po N (Bf neg s) o (Aa l) n t o' K=cond ((((Ac z.natAbs).length:Nat):Int)==(0:Int)) (K [(.bool false),.nsl,(.imm [(.int .u32 1)] 1 1 false false)]) (HY N (Aa (Ac z.natAbs)) (Ac z.natAbs).length false true (Aa (Ac (val l))) (Ac (val l)).length false true (fun f g=>(cond ((((f:Nat):Int) != (1:Int))==false) (cond (Ap (0:Int) f) (Gb .u32 g fun y=>(cond (cond false true (y != (1:Int))) (De N (Aa (Ac z.natAbs)) (Ac z.natAbs).length false true (List.take (f*1) g) f false true (fun p ae af z2 ag=>(De N (Aa (Ac (val l))) (Ac (val l)).length false true (List.take (f*1) g) f false true (fun q ah ai aa aj=>(K [(.bool (decide (z<0))),(.imm (List.take (p*1) z2) p 1 false false),(.imm (List.take (q*1) aa) q 1 false false)]))))) (K [(.bool (decide (z<0))),(.imm (Aa (Ac z.natAbs)) (Ac z.natAbs).length 1 false false),(.imm (Aa (Ac (val l))) (Ac (val l)).length 1 false false)]))) none) (De N (Aa (Ac z.natAbs)) (Ac z.natAbs).length false true (List.take (f*1) g) f false true (fun r ak al ab am=>(De N (Aa (Ac (val l))) (Ac (val l)).length false true (List.take (f*1) g) f false true (fun s an ao ac ap=>(K [(.bool (decide (z<0))),(.imm (List.take (r*1) ab) r 1 false false),(.imm (List.take (s*1) ac) s 1 false false)])))))))):=by
  intro K
  rw[OI];unfold SI
  have tk:∀ v:Nat,List.take ((Ac v).length*1) (Aa (Ac v))=Aa (Ac v):=fun v=>A0 (Ab _) (Ad v)
  rw[Gn,F5,show Nat.beq (List.length (Bf neg s)) 2=true by rfl,ct,lO,wH (s1:=.of s.l false o) C (e.le (by simp[LS.l];omega)),show An neg (.of s.l false o)=z by rw[←T];rfl,Td S D (e.le (by omega)),tk,tk]
 by_cases F:z=0
 ·refine⟨⟨false,.nil,.of [1] false false⟩,?_,fun K=>?_⟩
  ·rw[F];simp only[Rat.zero_mkRat]
   exact⟨rfl,rfl,Hg.symm⟩
  ·rw[start,F];rfl
 ·have m:z.natAbs≠0:=by omega
  have i:(Ac z.natAbs).length≠0:=fun h=>m (A2.1 h)
  have U:0<Nat.gcd z.natAbs (val l):=Nat.gcd_pos_of_pos_right _ (by omega)
  have lz:(Ac z.natAbs).length≤s.l.length:=by rw[k];exact ls
  obtain⟨G,I,u,L⟩:=Aav (R:=R) (N:=N) (a:=Ac z.natAbs) (b:=Ac (val l)) (t:=false) (o:=true) (t':=false) (o':=true) rfl rfl (Ab _) (Ab _) (e.le (by omega))
  rw[Ad,Ad] at u L
  have lg:(Ac (Nat.gcd z.natAbs (val l))).length≤l.length:=Nat.le_trans (Al (Nat.gcd_le_right _ (by omega))) ll
  obtain⟨Q1,R1,a1,a2,a3,a4,a5⟩:=V7 (R:=R) (N:=N) (a:=Ac z.natAbs) (b:=Ac (Nat.gcd z.natAbs (val l))) (t:=false) (o:=true) (t':=false) (o':=true) rfl rfl (Ab _) (Ab _) (by rw[Ad];omega) (e.le (by omega))
  obtain⟨Q2,R2,M,x,X,Y,A⟩:=V7 (R:=R) (N:=N) (a:=Ac (val l)) (b:=Ac (Nat.gcd z.natAbs (val l))) (t:=false) (o:=true) (t':=false) (o':=true) rfl rfl (Ab _) (Ab _) (by rw[Ad];omega) (e.le (by omega))
  rw[Ad,Ad] at a2 a5 x A
  have B:decide (z<0)=decide ((mkRat z (val l)).num<0):=by congr 1;exact propext m2.symm
  refine⟨⟨decide (z<0),.of (Ac (z.natAbs/Nat.gcd z.natAbs (val l))) false false,.of (Ac (val l/Nat.gcd z.natAbs (val l))) false false⟩,⟨B,by rw[m1];rfl,by rw[m3];rfl⟩,fun K=>?_⟩
  rw[start,gL i,cf,L,A0 I u]
  by_cases c:(Ac (Nat.gcd z.natAbs (val l))).length=1
  ·rw[show((((((Ac (Nat.gcd z.natAbs (val l))).length:Nat):Int) != (1:Int))==false))=true by rw[c];rfl,ct,show Ap 0 (Ac (Nat.gcd z.natAbs (val l))).length=true by rw[c];rfl,ct,Acc I u c]
   by_cases V:Nat.gcd z.natAbs (val l)=1
   ·rw[V,show(cond false true (((1:Nat):Int) != 1))=false by rfl,cf,Nat.div_one,Nat.div_one];rfl
   ·rw[show(cond false true (((Nat.gcd z.natAbs (val l):Nat):Int) != 1))=true by (show(((Nat.gcd z.natAbs (val l):Nat):Int) != 1)=true;rw[bne_iff_ne];omega),ct,a5,A,A0 a1 a2,A0 M x];rfl
  ·rw[show((((((Ac (Nat.gcd z.natAbs (val l))).length:Nat):Int) != (1:Int))==false))=false by (rw[show((((Ac (Nat.gcd z.natAbs (val l))).length:Nat):Int) != (1:Int))=true by rw[bne_iff_ne];omega];rfl),cf,a5,A,A0 a1 a2,A0 M x];rfl
theorem SY {N:Nat} {x:RatD} {o:Bool} (j:x.ok) (f:fit (4*x.m+10) N):∃ d:RatD,d.can x.q∧∀ K:LA→O R,B_ N x.av o K=K d.av:=by
 have B:=f.1
 rcases CV (R:=R) (N:=N) (o:=o) j (f.le (by omega)) with⟨n,d,n1,n2,k,C,e,hK⟩ | hK
 ·obtain⟨c,c1,i⟩:=PQ (R:=R) (N:=N) (s:=n) (b:=d) (by omega) k (by omega) (by omega)
  rw[e] at c1
  refine⟨c,c1,fun K=>?_⟩
  rw[IA];unfold VZ
  rw[Is,ct,Dp,hK,ct,i];rfl
 ·obtain⟨neg,s,l,o1,o2,u,v,y,D,F,z,A⟩:=CU (R:=R) (N:=N) (o:=o) j (f.le (by omega))
  obtain⟨c,c1,i⟩:=eh (R:=R) (N:=N) (neg:=neg) (s:=s) (l:=l) (n:=l.length) (o:=o1) (t:=false) (o':=o2) rfl u v y (f.le (by omega))
  rw[z] at c1
  refine⟨c,c1,fun K=>?_⟩
  rw[IA];unfold VZ
  rw[Is,ct,Dp,hK,cf,ct,A,i];rfl
def lP (x y:Rat):Int:=if x<y then -1 else if y<x then 1 else 0
theorem xN {a b:Int} (d:-2147483648<a∧a<2147483648) (e:-2147483648<b∧b<2147483648):-4611686018427387904<a*b∧a*b<4611686018427387904:=by
 have c:a.natAbs*b.natAbs≤2147483647*2147483647:=Nat.mul_le_mul (by omega) (by omega)
 rw[←Int.natAbs_mul] at c
 omega
end
end Gx

namespace Gx
open Go Go.Proofs
section
variable {R:Type}
theorem K9 {a b:Int} {k l:Nat} (c:a.natAbs<4294967296 ^ k) (d:b.natAbs<4294967296 ^ l):(a*b).natAbs<4294967296 ^ (k+l):=by
 rw[Int.natAbs_mul,Nat.pow_add];exact Nat.mul_lt_mul'' c d
theorem ta {a b:Int} {k:Nat} (c:a.natAbs<4294967296 ^ k) (d:b.natAbs<4294967296 ^ k):(a+b).natAbs<4294967296 ^ (k+1):=by
 rw[Nat.pow_succ];omega
theorem La {k l:Nat} (h:k≤l):4294967296 ^ k≤4294967296 ^ l:=Nat.pow_le_pow_right (by omega) h
theorem CW {v k:Nat} (h:(Ac v).length≤k):v<4294967296 ^ k:=by
 have:=Bi (Ab v);rw[Ad] at this
 exact Nat.lt_of_lt_of_le this (La h)
theorem Aa2 (n:Bool) (s:LS):An (!n) s=-An n s:=by unfold An;cases n<;>simp
theorem Acd {N:Nat} {x y:RatD} {o o':Bool} (u:x.ok) (v:y.ok) (e:fit (8*(x.m+y.m)+40) N):∃ d:RatD,d.can (x.q*y.q)∧∀ K:LA→O R,Zz N K o x.av o' y.av=K d.av:=by
 obtain⟨n1,s1,l1,a1,z,f,i,A,B,T,C,D⟩:=CU (R:=R) (N:=N) (o:=o) u (e.le (by omega))
 obtain⟨n2,s2,l2,a2,F,j,k,G,I,U,L,M⟩:=CU (R:=R) (N:=N) (o:=o') v (e.le (by omega))
 have zl1:(An n1 s1).natAbs<4294967296 ^ x.m:=by rw[Ba];exact Nat.lt_of_lt_of_le (Bi f) (La B)
 have zl2:(An n2 s2).natAbs<4294967296 ^ y.m:=by rw[Ba];exact Nat.lt_of_lt_of_le (Bi j) (La I)
 have Afa:((val l1:Nat):Int).natAbs<4294967296 ^ (x.m+1):=by rw[Int.natAbs_natCast];exact Nat.lt_of_lt_of_le (Bi i) (La (by omega))
 have dl2:((val l2:Nat):Int).natAbs<4294967296 ^ (y.m+1):=by rw[Int.natAbs_natCast];exact Nat.lt_of_lt_of_le (Bi k) (La (by omega))
 obtain⟨S1,t1,t2,t3⟩:=bs (R:=R) (N:=N) (n1:=n1) (n2:=n2) (s1:=s1) (s2:=s2) (o1:=a1) (o2:=a2) f j (e.le (by omega))
 have L1:=A4 (K9 zl1 zl2)
 obtain⟨S4,v1,v2,v3⟩:=VG (R:=R) (N:=N) (a:=l1) (b:=l2) (t:=false) (o:=z) (t':=false) (o':=F) rfl rfl i k (e.le (by omega))
 have z4:val l1*val l2<4294967296 ^ (x.m+1+(y.m+1)):=by
  have:=K9 Afa dl2;rw[Int.natAbs_mul,Int.natAbs_natCast,Int.natAbs_natCast] at this;exact this
 have L4:=A4 z4
 obtain⟨c,c1,S⟩:=eh (R:=R) (N:=N) (neg:=decide (An n1 s1*An n2 s2<0)) (s:=.of (Ac (An n1 s1*An n2 s2).natAbs) false true) (l:=Ac (val l1*val l2)) (n:=(Ac (val l1*val l2)).length) (o:=true) (t:=false) (o':=true) rfl (Ab _) (Ab _) (by rw[Ad];exact Nat.mul_ne_zero A G) (e.le (show 2*((Ac (An n1 s1*An n2 s2).natAbs).length+(Ac (val l1*val l2)).length)+8≤_ by omega))
 rw[B5,Ad,←Rat.mkRat_mul_mkRat,C,L] at c1
 refine⟨c,c1,fun K=>?_⟩
 unfold Zz
 rw[Is,ct,Dp,D,t8,ct,Is,ct,Dp,M,t8,ct,Q7,ct,Q7,ct,SH,SH,t3,v3,A0 t1 t2,A0 v1 v2,lO,S];rfl
theorem zA {N:Nat} {x y:RatD} {o o':Bool} (z:x.ok) (l:y.ok) (f:fit (8*(x.m+y.m)+40) N):∃ d:RatD,d.can (x.q*y.q)∧∀ K:LA→O R,b6 N x.av o y.av o' K=K d.av:=by
 have G:=f.1
 obtain⟨g,A,t⟩:=Acd (R:=R) (N:=N) (o:=o) (o':=o') z l f
 rcases CV (R:=R) (N:=N) (o:=o) z (f.le (by omega)) with⟨n,d,n1,n2,C,I,e,hK⟩ | hK
 ·rcases CV (R:=R) (N:=N) (o:=o') l (f.le (by omega)) with⟨u,d',i,j,k,v,B,hK'⟩ | hK'
  ·have L:=xN (a:=n) (b:=u) ⟨n1,n2⟩ ⟨i,j⟩
   have M:=xN (a:=(d:Int)) (b:=(d':Int)) (by omega) (by omega)
   have D:((d*d':Nat):Int)=(d:Int)*(d':Int):=by simp
   obtain⟨c,c1,F⟩:=PQ (R:=R) (N:=N) (s:=n*u) (b:=d*d') (by omega) (Nat.mul_pos C k) (by omega) (by omega)
   rw[←Rat.mkRat_mul_mkRat,e,B] at c1
   refine⟨c,c1,fun K=>?_⟩
   rw[CH];unfold MF
   rw[Is,ct,Dp,hK,Is,ct,Dp,hK',show((true:Bool)==true)=true by rfl,ct,xH,ct,i64 (by omega),i64 (by omega),←D,F];rfl
  ·refine⟨g,A,fun K=>?_⟩
   rw[CH];unfold MF
   rw[Is,ct,Dp,hK,Is,ct,Dp,hK',show((true:Bool)==true)=true by rfl,ct,xH,cf,t]
 ·refine⟨g,A,fun K=>?_⟩
  rw[CH];unfold MF
  rcases CV (R:=R) (N:=N) (o:=o') l (f.le (by omega)) with⟨u,d',i,j,k,v,B,hK'⟩ | hK'
  ·rw[Is,ct,Dp,hK,Is,ct,Dp,hK',show((false:Bool)==true)=false by rfl,cf,t]
  ·rw[Is,ct,Dp,hK,Is,ct,Dp,hK',show((false:Bool)==true)=false by rfl,cf,t]
end
end Gx
