/- A part of the proof: what it holds is said by each theorem. -/
import Derived.Test.YtjmfofdghmlldaaGreatDoorP1
set_option linter.unusedVariables false
set_option linter.defProp false
set_option linter.unusedSimpArgs false
namespace Gx
open Go Go.Proofs
open IntKind (wrap)
set_option maxRecDepth 100000
noncomputable section
variable {R:Type} (N:Nat)
def C7 (N:Nat) (r0:Int→O R) (b c:Int):O R :=
 (cond (decide (b≥256)) (cond (Ao (wrap .u8 (Int.fdiv b (2 ^ 8))) 256) (r0 (wrap .i64 ((wrap .i64 (c+8))+(wrap .i64 ((UInt8.toNat (List.getD ([0,1,2,2,3,3,3,3,4,4,4,4,4,4,4,4,5,5,5,5,5,5,5,5,5,5,5,5,5,5,5,5,6,6,6,6,6,6,6,6,6,6,6,6,6,6,6,6,6,6,6,6,6,6,6,6,6,6,6,6,6,6,6,6,7,7,7,7,7,7,7,7,7,7,7,7,7,7,7,7,7,7,7,7,7,7,7,7,7,7,7,7,7,7,7,7,7,7,7,7,7,7,7,7,7,7,7,7,7,7,7,7,7,7,7,7,7,7,7,7,7,7,7,7,7,7,7,7,8,8,8,8,8,8,8,8,8,8,8,8,8,8,8,8,8,8,8,8,8,8,8,8,8,8,8,8,8,8,8,8,8,8,8,8,8,8,8,8,8,8,8,8,8,8,8,8,8,8,8,8,8,8,8,8,8,8,8,8,8,8,8,8,8,8,8,8,8,8,8,8,8,8,8,8,8,8,8,8,8,8,8,8,8,8,8,8,8,8,8,8,8,8,8,8,8,8,8,8,8,8,8,8,8,8,8,8,8,8,8,8,8,8,8,8,8,8,8,8,8,8,8,8,8,8,8,8]:List UInt8) ((wrap .u8 (Int.fdiv b (2 ^ 8))).toNat) 0):Nat):Int))))) none) (cond (Ao (wrap .u8 b) 256) (r0 (wrap .i64 (c+(wrap .i64 ((UInt8.toNat (List.getD ([0,1,2,2,3,3,3,3,4,4,4,4,4,4,4,4,5,5,5,5,5,5,5,5,5,5,5,5,5,5,5,5,6,6,6,6,6,6,6,6,6,6,6,6,6,6,6,6,6,6,6,6,6,6,6,6,6,6,6,6,6,6,6,6,7,7,7,7,7,7,7,7,7,7,7,7,7,7,7,7,7,7,7,7,7,7,7,7,7,7,7,7,7,7,7,7,7,7,7,7,7,7,7,7,7,7,7,7,7,7,7,7,7,7,7,7,7,7,7,7,7,7,7,7,7,7,7,7,8,8,8,8,8,8,8,8,8,8,8,8,8,8,8,8,8,8,8,8,8,8,8,8,8,8,8,8,8,8,8,8,8,8,8,8,8,8,8,8,8,8,8,8,8,8,8,8,8,8,8,8,8,8,8,8,8,8,8,8,8,8,8,8,8,8,8,8,8,8,8,8,8,8,8,8,8,8,8,8,8,8,8,8,8,8,8,8,8,8,8,8,8,8,8,8,8,8,8,8,8,8,8,8,8,8,8,8,8,8,8,8,8,8,8,8,8,8,8,8,8,8,8,8,8,8,8,8]:List UInt8) ((wrap .u8 b).toNat) 0):Nat):Int))))) none))
def I7 (N:Nat) (r0:Int→O R) (q0:Int→Int→O R) (d:Int):O R :=
 (cond (decide (d≥65536)) (q0 (Int.fdiv d (2 ^ 16)) 16) (q0 d 0))
def Ey:=(Aj (fun (N:Nat) (d:Int) (r0:Int→O R)=>(I7 N r0 (fun b c=>(C7 N r0 b c)) d))).1
theorem Pp (d r0):(@Ey R N d r0)=(I7 N r0 (fun b c=>(C7 N r0 b c)) d):=by rw[Ey,(Aj _).2]
def R4:Hints:={ H:=(hS hL (hJ [0,2] hL hL)) }
def NH (F:KF R):=Ty Tryz.f299 R4 [] [] N F
def Gq (F:KF R):Int→O R:=(fun e=>F (iv e) [])
def NI (b c:Int):St:=⟨[(0,(.int .u32 b)),(2,(iv c))],[]⟩
def NJ (F:KF R):=NH N F [1,1] []
theorem CH (F:KF R):∀ (b c:Int),Dx (NJ N F) (NI b c)=(C7 N (Gq F) b c):=by
 intro b c
 kernel_rfl
theorem R5 (d:Int) (F:KF R):Cy [] R4 N 299 [(.int .u32 d)] [] F=(Ey N d (Gq F)):=by
 rw[Pp]
 exact Eq.trans (by kernel_rfl) (E9 (I7 N (Gq F) · d) (funext fun b=>funext fun c=>(Bh ..).trans (CH N F b c)):_)
def Pq (a:LA) (h:Ah) (k:KF R):O R :=
 match a,h with
 | [(.int .u32 d)],[]=>(Ey N d (Gq k))
 | _,_=>none
theorem R6:Ap N 299 @Pq:=by
 intro R Q a h k j;unfold Pq;split;exact Ax (R5 ..) (R5 ..) trivial;exact A2
def NK:=Ay (R6 N)
def NL:=Cz (R6 N)
def Ev (b:Int) (r0:Int→O R):O R :=
 (Ey N b (fun c=>(r0 (wrap .i64 (32 - c)))))
def Bg:=(Aj (@Ev R)).1
theorem G7:@Bg R=@Ev R:=(Aj _).2
def R7:D7:=[(299,NK N)]
def Hs (F:KF R):Int→O R:=(fun d=>F (iv d) [])
theorem Ht (b:Int) (F:KF R):Cy (R7 N) Cl N 275 [(.int .u32 b)] [] F=(Bg N b (Hs F)):=by
 rw[G7]
 kernel_rfl
def G8 (a:LA) (h:Ah) (k:KF R):O R :=
 match a,h with
 | [(.int .u32 b)],[]=>(Bg N b (Hs k))
 | _,_=>none
theorem Hu:Ap N 275 @G8:=by
 intro R Q a h k j;unfold G8;split;exact Ax (Ht ..) (Ht ..) ⟨NL N,trivial⟩;exact A2
def Hv:=Ay (Hu N)
def Hw:=Cz (Hu N)
def Vt (N:Nat) (f:Int) (c:LA) (b:Nat) (d e:Bool) (r0:Int→O R):O R :=
 (cond (decide (f<((b:Nat):Int))) (cond (Ao f b) (F3 .u32 (c.drop ((f.toNat)*1)) fun g=>(r0 (wrap .u64 g))) none) (r0 0))
def Gr:=(Aj (@Vt R)).1
theorem Xa:@Gr R=@Vt R:=(Aj _).2
def AQ (c:LA) (b:Nat) (d e:Bool) (F:KF R):Int→O R:=(fun i=>F (.int .u64 i) [(100000,(bN 0 [(.imm c b 1 d e)]))])
theorem AR (f:Int) (c:LA) (b:Nat) (d e:Bool) (F:KF R):Cy [] Cl N 314 [(iv f),(.optr 100000 0)] [(100000,(bN 0 [(.imm c b 1 d e)]))] F=(Gr N f c b d e (AQ c b d e F)):=by
 rw[Xa]
 kernel_rfl
def Xb (a:LA) (h:Ah) (k:KF R):O R :=
 match a,h with
 | [(.int .i64 f),(.optr 100000 0)],[(100000,⟨false,false,false,false,0,[(.imm c b 1 d e)],false,none⟩)]=>(Gr N f c b d e (AQ c b d e k))
 | _,_=>none
theorem AS:Ap N 314 @Xb:=by
 intro R Q a h k j;unfold Xb;split;exact Ax (AR ..) (AR ..) trivial;exact A2
def cK:=Ay (AS N)
def cL:=Cz (AS N)
def NM (c:LA) (d:Nat) (e f:Bool) (g b:Int) (r0:Int→O R):O R :=
 (Gr N (wrap .i64 (g - 1)) c d e f (fun i=>(Gr N (wrap .i64 (g - 2)) c d e f (fun l=>(cond (decide (b<0)) none (Gr N (wrap .i64 (g - 3)) c d e f (fun m=>(cond (decide ((wrap .i64 (32 - b))<0)) none (r0 (Kx .u64 (wrap .u64 ((Kx .u64 (wrap .u64 (i*2 ^ 32)) l)*2 ^ (min (b.toNat) 64))) (Int.fdiv m (2 ^ (min ((wrap .i64 (32 - b)).toNat) 64)))))))))))))
def Q4:=(Aj (@NM R)).1
theorem JB:@Q4 R=@NM R:=(Aj _).2
def o8:D7:=[(314,cK N)]
def QV (F:KF R):Int→O R:=(fun n=>F (.int .u64 n) [])
theorem QW (c:LA) (d:Nat) (e f:Bool) (g b:Int) (F:KF R):Cy (o8 N) Cl N 298 [(.imm c d 1 e f),(iv g),(iv b)] [] F=(Q4 N c d e f g b (QV F)):=by
 rw[JB]
 kernel_rfl
def JC (a:LA) (h:Ah) (k:KF R):O R :=
 match a,h with
 | [(.imm c d 1 e f),(.int .i64 g),(.int .i64 b)],[]=>(Q4 N c d e f g b (QV k))
 | _,_=>none
theorem QX:Ap N 298 @JC:=by
 intro R Q a h k j;unfold JC;split;exact Ax (QW ..) (QW ..) ⟨cL N,trivial⟩;exact A2
def mS:=Ay (QX N)
def mT:=Cz (QX N)
def N8 (N:Nat) (k0:Int→Int→Int→Int→Int→Int→Int→Int→Bool→O R) (r0:LA→O R) (q o r s t u:Int) (w:Bool):O R :=
 (cond (o==0) none (cond (o==0) none (k0 o (Int.tmod q o) r s (wrap .u64 (r+(wrap .u64 ((wrap .u64 (Int.tdiv q o))*s)))) t u (wrap .u64 (t+(wrap .u64 ((wrap .u64 (Int.tdiv q o))*u)))) (!w))))
def Fv (N:Nat) (r0:LA→O R) (k0:Int→Int→Int→Int→Int→Int→Int→Int→Bool→O R) (q1:Int→Int→Int→Int→Int→Int→Bool→O R) (g c i d m l b e:Int) (f:Bool):O R :=
 (cond ((decide (c≥e))==true) (cond (cond true (decide ((wrap .u64 (g - c))≥(wrap .u64 (b+e)))) false) (q1 g c d m b e f) (r0 [(.int .u64 i),(.int .u64 d),(.int .u64 l),(.int .u64 b),(.bool f)])) (r0 [(.int .u64 i),(.int .u64 d),(.int .u64 l),(.int .u64 b),(.bool f)]))
def Co (r0:LA→O R):Nat→Int→Int→Int→Int→Int→Int→Int→Int→Bool→O R
 | 0,_,_,_,_,_,_,_,_,_=>none
 | n+1,g,c,i,d,m,l,b,e,f=>(Fv N r0 (Co r0 n) (fun q o r s t u w=>(N8 N (Co r0 n) r0 q o r s t u w)) g c i d m l b e f)
def Ua (r0:LA→O R) (q0:Int→Int→Int→Int→Int→Int→Int→Int→Bool→O R) (v:LA) (p:Nat) (ab x:Bool) (y:LA) (z:Nat) (ac aa:Bool):O R :=
 (cond (Ao (wrap .i64 (((p:Nat):Int) - 1)) p) (F3 .u32 (v.drop (((wrap .i64 (((p:Nat):Int) - 1)).toNat)*1)) fun ae=>(Bg N ae (fun ad=>(Q4 N v p false x ((p:Nat):Int) ad (fun af=>(Q4 N y z false aa ((p:Nat):Int) ad (fun ag=>(q0 af ag 0 1 0 0 0 1 false)))))))) none)
def Nt:=(Aj (fun (N:Nat) (v:LA) (p:Nat) (ab x:Bool) (y:LA) (z:Nat) (ac aa:Bool) (r0:LA→O R)=>(Ua N r0 (fun g c i d m l b e f=>(Co N r0 N g c i d m l b e f)) v p ab x y z ac aa))).1
theorem DY (v p ab x y z ac aa r0):(@Nt R N v p ab x y z ac aa r0)=(Ua N r0 (fun g c i d m l b e f=>(Co N r0 N g c i d m l b e f)) v p ab x y z ac aa):=by rw[Nt,(Aj _).2]
def JD:Hints:={ H:=(hS hL (hS hL (hS hL (hS hL (hS hL (hS hL (hS hL (hS (hS (hP [4,7,8,9,10,11,12,13,14,15] (hJ [4,7,8,10,11,13,14,15] hL hL)) hL) hL)))))))),modes:=[(3,0)] }
def QY:D7:=[(275,Hv N),(298,mS N)]
def JE (F:KF R):=Ty Tryz.f273 JD (QY N) [] N F
def Fe (F:KF R):LA→O R:=(fun ah=>F (.pagg ah false) [])
def ik (q o r s t u:Int) (w:Bool):St:=⟨[(4,(op 0)),(7,(.int .u64 q)),(8,(.int .u64 o)),(10,(.int .u64 r)),(11,(.int .u64 s)),(13,(.int .u64 t)),(14,(.int .u64 u)),(15,(.bool w))],(hq [(bQ 0 [(.int .u64 0),(.int .u64 0),(.int .u64 0),(.int .u64 0),(.bool false)])])⟩
def il (F:KF R) (Q0:St→O R):=JE N F [1,1,1,1,1,1,1,0,0,0,1] [Q0]
def JF (g c i d m l b e:Int) (f:Bool):St:=⟨[(4,(op 0)),(7,(.int .u64 g)),(8,(.int .u64 c)),(9,(.int .u64 i)),(10,(.int .u64 d)),(11,(.int .u64 m)),(12,(.int .u64 l)),(13,(.int .u64 b)),(14,(.int .u64 e)),(15,(.bool f))],(hq [(bQ 0 [(.int .u64 0),(.int .u64 0),(.int .u64 0),(.int .u64 0),(.bool false)])])⟩
def JG (F:KF R):=JE N F [1,1,1,1,1,1,1,0,0] []
theorem WC (Q0:St→O R) (F:KF R):∀ (q o r s t u:Int) (w:Bool),Dx (il N F Q0) (ik q o r s t u w)=(N8 N (fun g c i d m l b e f=>Q0 (JF g c i d m l b e f)) (Fe F) q o r s t u w):=by
 intro q o r s t u w
 kernel_rfl
theorem Xc (F:KF R):∀ (n:Nat) (g c i d m l b e:Int) (f:Bool),A5 (JG N F) n (JF g c i d m l b e f)=(Co N (Fe F) n g c i d m l b e f)
 | 0,_,_,_,_,_,_,_,_,_=>by kernel_rfl
 | n+1,g,c,i,d,m,l,b,e,f=>have e0:=(funext fun g=>funext fun c=>funext fun i=>funext fun d=>funext fun m=>funext fun l=>funext fun b=>funext fun e=>funext fun f=>(Xc F n g c i d m l b e f))
  Eq.trans (by kernel_rfl) (ti (Fv N (Fe F) · · g c i d m l b e f) e0 (funext fun q=>funext fun o=>funext fun r=>funext fun s=>funext fun t=>funext fun u=>funext fun w=>(Bh ..).trans ((WC N (A5 (JG N F) n) F q o r s t u w).trans (E9 (N8 N · (Fe F) q o r s t u w) e0))):_)
theorem JH (v:LA) (p:Nat) (ab x:Bool) (y:LA) (z:Nat) (ac aa:Bool) (F:KF R):Cy (QY N) JD N 273 [(.imm v p 1 ab x),(.imm y z 1 ac aa)] [] F=(Nt N v p ab x y z ac aa (Fe F)):=by
 rw[DY]
 exact Eq.trans (by kernel_rfl) (E9 (Ua N (Fe F) · v p ab x y z ac aa) (funext fun g=>funext fun c=>funext fun i=>funext fun d=>funext fun m=>funext fun l=>funext fun b=>funext fun e=>funext fun f=>(Aw ..).trans (Xc N F N g c i d m l b e f)):_)
def DZ (a:LA) (h:Ah) (k:KF R):O R :=
 match a,h with
 | [(.imm v p 1 ab x),(.imm y z 1 ac aa)],[]=>(Nt N v p ab x y z ac aa (Fe k))
 | _,_=>none
theorem JI:Ap N 273 @DZ:=by
 intro R Q a h k j;unfold DZ;split;exact Ax (JH ..) (JH ..) ⟨Hw N,mT N,trivial⟩;exact A2
def io:=Ay (JI N)
def ip:=Cz (JI N)
def Fq (r0:Nat→Nat→LA→LA→O R) (d:LA) (b:Nat) (e f:Bool) (c:Int) (k0:Int→Int→LA→O R) (l g:Int) (i:LA):O R :=
 (cond (decide (g≥0)) (cond (Ao g b) (F3 .u32 (d.drop ((g.toNat)*1)) fun m=>(cond ((wrap .u64 c)==0) none (cond (Ao g b) (cond ((Nat.beq 1 1)&&((Nat.ble ((0+((g.toNat)*1))+1) (i.length))&&(!false))) (cond ((wrap .u64 c)==0) none (k0 (Int.tmod (Kx .u64 (wrap .u64 (l*2 ^ 32)) (wrap .u64 m)) (wrap .u64 c)) (wrap .i64 (g - 1)) (i.set (0+((g.toNat)*1)) (.int .u32 (wrap .u32 (wrap .u64 (Int.tdiv (Kx .u64 (wrap .u64 (l*2 ^ 32)) (wrap .u64 m)) (wrap .u64 c)))))))) none) none))) none) (Nl N b i (fun o=>(Ba N l (fun p q=>(r0 o p i q))))))
def Cd (r0:Nat→Nat→LA→LA→O R) (d:LA) (b:Nat) (e f:Bool) (c:Int):Nat→Int→Int→LA→O R
 | 0,_,_,_=>none
 | n+1,l,g,i=>(Fq N r0 d b e f c (Cd r0 d b e f c n) l g i)
def I8 (N:Nat) (r0:Nat→Nat→LA→LA→O R) (q0:Int→Int→LA→O R) (d:LA) (b:Nat) (e f:Bool) (c:Int):O R :=
 (cond ((decide (0≤((b:Nat):Int)))&&((decide (((b:Nat):Int)≤((b:Nat):Int)))&&((decide (((b:Nat):Int)≤140737488355328))&&(decide ((((b:Nat):Int)*((4:Nat):Int))≤140737488355328))))) (q0 0 (wrap .i64 (((b:Nat):Int) - 1)) (List.replicate b (.int .u32 0))) none)
def Dp:=(Aj (fun (N:Nat) (d:LA) (b:Nat) (e f:Bool) (c:Int) (r0:Nat→Nat→LA→LA→O R)=>(I8 N r0 (fun l g i=>(Cd N r0 d b e f c N l g i)) d b e f c))).1
theorem Pr (d b e f c r0):(@Dp R N d b e f c r0)=(I8 N r0 (fun l g i=>(Cd N r0 d b e f c N l g i)) d b e f c):=by rw[Dp,(Aj _).2]
def R8:Hints:={ H:=(hS hL (hS hL (hS hL (hS (hS hL (hS (hP [0,1,4,6,7] hL) hL)) hL)))),nils:=[(4,1),(5,1)],modes:=[(2,1),(2,1)] }
def Ub:D7:=[(214,VT N),(133,D5 N)]
def NN (F:KF R):=Ty Tryz.f216 R8 (Ub N) [] N F
def Ee (F:KF R):Nat→Nat→LA→LA→O R:=(fun r s t u=>F (.tup [(.own 300000 0 r),(.own 300001 0 s)]) (hq [(bQ 1 t),(bQ 1 u)]))
def NO (d:LA) (b:Nat) (e f:Bool) (c l g:Int) (i:LA):St:=⟨[(0,(.imm d b 1 e f)),(1,(.int .u32 c)),(4,(.own 300000 0 b)),(6,(.int .u64 l)),(7,(iv g))],(hq [(bQ 1 i)])⟩
def NP (F:KF R):=NN N F [1,1,1,0,1,0] []
theorem Mv (F:KF R) (d:LA) (b:Nat) (e f:Bool) (c:Int):∀ (n:Nat) (l g:Int) (i:LA),A5 (NP N F) n (NO d b e f c l g i)=(Cd N (Ee F) d b e f c n l g i)
 | 0,_,_,_=>by kernel_rfl
 | n+1,l,g,i=>Eq.trans (by kernel_rfl) (E9 (Fq N (Ee F) d b e f c · l g i) (funext fun l=>funext fun g=>funext fun i=>(Mv F d b e f c n l g i)):_)
theorem R9 (d:LA) (b:Nat) (e f:Bool) (c:Int) (F:KF R):Cy (Ub N) R8 N 216 [(.imm d b 1 e f),(.int .u32 c)] [] F=(Dp N d b e f c (Ee F)):=by
 rw[Pr]
 exact Eq.trans (by kernel_rfl) (E9 (I8 N (Ee F) · d b e f c) (funext fun l=>funext fun g=>funext fun i=>(Aw ..).trans (Mv N F d b e f c N l g i)):_)
def Ps (a:LA) (h:Ah) (k:KF R):O R :=
 match a,h with
 | [(.imm d b 1 e f),(.int .u32 c)],[]=>(Dp N d b e f c (Ee k))
 | _,_=>none
theorem Sa:Ap N 216 @Ps:=by
 intro R Q a h k j;unfold Ps;split;exact Ax (R9 ..) (R9 ..) ⟨VU N,D6 N,trivial⟩;exact A2
def NQ:=Ay (Sa N)
def NR:=Cz (Sa N)
def Lx (N:Nat) (r0:Nat→LA→O R) (d:LA) (b:Nat) (e f:Bool) (c:Int) (k0:Nat→Int→Int→Int→LA→O R) (i:Nat) (m o g:Int) (l:LA):O R :=
 (cond (decide (g<o)) (cond (Ao g b) (F3 .u32 (d.drop ((g.toNat)*1)) fun p=>(cond (decide (c<0)) none (cond (Ao g i) (cond ((Nat.beq 1 1)&&((Nat.ble ((0+((g.toNat)*1))+1) (l.length))&&(!false))) (k0 i (Int.fdiv (Kx .u64 m (wrap .u64 ((wrap .u64 p)*2 ^ (min (c.toNat) 64)))) (2 ^ 32)) o (wrap .i64 (g+1)) (l.set (0+((g.toNat)*1)) (.int .u32 (wrap .u32 (Kx .u64 m (wrap .u64 ((wrap .u64 p)*2 ^ (min (c.toNat) 64)))))))) none) none))) none) (cond (Ao ((b:Nat):Int) i) (cond ((Nat.beq 1 1)&&((Nat.ble ((0+(b*1))+1) (l.length))&&(!false))) (r0 i (l.set (0+(b*1)) (.int .u32 (wrap .u32 m)))) none) none))
def Ff (r0:Nat→LA→O R) (d:LA) (b:Nat) (e f:Bool) (c:Int):Nat→Nat→Int→Int→Int→LA→O R
 | 0,_,_,_,_,_=>none
 | n+1,i,m,o,g,l=>(Lx N r0 d b e f c (Ff r0 d b e f c n) i m o g l)
def Uc (N:Nat) (r0:Nat→LA→O R) (q0:Nat→Int→Int→Int→LA→O R) (d:LA) (b:Nat) (e f:Bool) (c:Int):O R :=
 (cond ((decide (0≤(wrap .i64 (((b:Nat):Int)+1))))&&((decide ((wrap .i64 (((b:Nat):Int)+1))≤(wrap .i64 (((b:Nat):Int)+1))))&&((decide ((wrap .i64 (((b:Nat):Int)+1))≤140737488355328))&&(decide (((wrap .i64 (((b:Nat):Int)+1))*((4:Nat):Int))≤140737488355328))))) (q0 ((wrap .i64 (((b:Nat):Int)+1)).toNat) 0 ((b:Nat):Int) 0 (List.replicate ((wrap .i64 (((b:Nat):Int)+1)).toNat) (.int .u32 0))) none)
def Km:=(Aj (fun (N:Nat) (d:LA) (b:Nat) (e f:Bool) (c:Int) (r0:Nat→LA→O R)=>(Uc N r0 (fun i m o g l=>(Ff N r0 d b e f c N i m o g l)) d b e f c))).1
theorem D_ (d b e f c r0):(@Km R N d b e f c r0)=(Uc N r0 (fun i m o g l=>(Ff N r0 d b e f c N i m o g l)) d b e f c):=by rw[Km,(Aj _).2]
def JJ:Hints:={ H:=(hS hL (hS hL (hS hL (hS (hS hL (hS (hP [0,1,5,6,13,14,15] hL) hL)) hL)))),nils:=[(4,1)],modes:=[(2,1)] }
def iq (F:KF R):=Ty Tryz.f276 JJ [] [] N F
def Jw (F:KF R):Nat→LA→O R:=(fun q r=>F (.own 300000 0 q) (hq [(bQ 1 r)]))
def ir (d:LA) (b:Nat) (e f:Bool) (c:Int) (i:Nat) (m o g:Int) (l:LA):St:=⟨[(0,(.imm d b 1 e f)),(1,(iv c)),(5,(.own 300000 0 i)),(6,(.int .u64 m)),(13,(.imm d b 1 e f)),(14,(iv o)),(15,(iv g))],(hq [(bQ 1 l)])⟩
def iu (F:KF R):=iq N F [1,1,1,0,1,0] []
theorem Xd (F:KF R) (d:LA) (b:Nat) (e f:Bool) (c:Int):∀ (n i:Nat) (m o g:Int) (l:LA),A5 (iu N F) n (ir d b e f c i m o g l)=(Ff N (Jw F) d b e f c n i m o g l)
 | 0,_,_,_,_,_=>by kernel_rfl
 | n+1,i,m,o,g,l=>Eq.trans (by kernel_rfl) (E9 (Lx N (Jw F) d b e f c · i m o g l) (funext fun i=>funext fun m=>funext fun o=>funext fun g=>funext fun l=>(Xd F d b e f c n i m o g l)):_)
theorem JK (d:LA) (b:Nat) (e f:Bool) (c:Int) (F:KF R):Cy [] JJ N 276 [(.imm d b 1 e f),(iv c)] [] F=(Km N d b e f c (Jw F)):=by
 rw[D_]
 exact Eq.trans (by kernel_rfl) (E9 (Uc N (Jw F) · d b e f c) (funext fun i=>funext fun m=>funext fun o=>funext fun g=>funext fun l=>(Aw ..).trans (Xd N F d b e f c N i m o g l)):_)
def EA (a:LA) (h:Ah) (k:KF R):O R :=
 match a,h with
 | [(.imm d b 1 e f),(.int .i64 c)],[]=>(Km N d b e f c (Jw k))
 | _,_=>none
theorem JL:Ap N 276 @EA:=by
 intro R Q a h k j;unfold EA;split;exact Ax (JK ..) (JK ..) trivial;exact A2
def iw:=Ay (JL N)
def ix:=Cz (JL N)
def I9 (N:Nat) (r0:Int→LA→O R) (c d:Nat) (e m:Int) (f:LA) (b:Nat) (g i:Bool) (k4:Int→Int→Int→LA→O R) (v w q:Int) (t:LA):O R :=
 (cond (decide (q<w)) (cond (Ao q b) (F3 .u32 (f.drop ((q.toNat)*1)) fun aa=>(cond (Ao q d) (F3 .u32 (t.drop (c+((q.toNat)*1))) fun ab=>(cond (Ao q d) (cond ((Nat.beq 1 1)&&((Nat.ble ((c+((q.toNat)*1))+1) (t.length))&&(!false))) (k4 (Int.fdiv (wrap .u64 (v+(wrap .u64 ((wrap .u64 ab)+(wrap .u64 aa))))) (2 ^ 32)) w (wrap .i64 (q+1)) (t.set (c+((q.toNat)*1)) (.int .u32 (wrap .u32 (wrap .u64 (v+(wrap .u64 ((wrap .u64 ab)+(wrap .u64 aa))))))))) none) none)) none)) none) (cond (Ao e d) (F3 .u32 (t.drop (c+((e.toNat)*1))) fun ai=>(cond (Ao e d) (cond ((Nat.beq 1 1)&&((Nat.ble ((c+((e.toNat)*1))+1) (t.length))&&(!false))) (r0 (wrap .u32 (wrap .u64 (m - 1))) (t.set (c+((e.toNat)*1)) (.int .u32 (wrap .u32 (ai+(wrap .u32 v)))))) none) none)) none))
def Ez (r0:Int→LA→O R) (c d:Nat) (e m:Int) (f:LA) (b:Nat) (g i:Bool):Nat→Int→Int→Int→LA→O R
 | 0,_,_,_,_=>none
 | n+1,v,w,q,t=>(I9 N r0 c d e m f b g i (Ez r0 c d e m f b g i n) v w q t)
def Fw (N:Nat) (r0:Int→LA→O R) (c d:Nat) (f:LA) (b:Nat) (g i:Bool) (e m:Int) (k3:Int→Int→Int→LA→O R) (q4:Int→Int→Int→LA→O R) (u x r:Int) (s:LA):O R :=
 (cond (decide (r<x)) (cond (Ao r b) (F3 .u32 (f.drop ((r.toNat)*1)) fun y=>(cond (Ao r d) (F3 .u32 (s.drop (c+((r.toNat)*1))) fun ac=>(cond (Ao r d) (cond ((Nat.beq 1 1)&&((Nat.ble ((c+((r.toNat)*1))+1) (s.length))&&(!false))) (k3 (wrap .u64 ((Int.fdiv (wrap .u64 ((wrap .u64 (m*(wrap .u64 y)))+u)) (2 ^ 32))+(Int.fdiv (wrap .u64 ((wrap .u64 ac) - (wrap .u64 (wrap .u32 (wrap .u64 ((wrap .u64 (m*(wrap .u64 y)))+u)))))) (2 ^ 63)))) x (wrap .i64 (r+1)) (s.set (c+((r.toNat)*1)) (.int .u32 (wrap .u32 (wrap .u64 ((wrap .u64 ac) - (wrap .u64 (wrap .u32 (wrap .u64 ((wrap .u64 (m*(wrap .u64 y)))+u)))))))))) none) none)) none)) none) (cond (Ao e d) (F3 .u32 (s.drop (c+((e.toNat)*1))) fun z=>(cond (Ao e d) (cond ((Nat.beq 1 1)&&((Nat.ble ((c+((e.toNat)*1))+1) (s.length))&&(!false))) (cond ((Int.fdiv (wrap .u64 ((wrap .u64 z) - u)) (2 ^ 63))==0) (r0 (wrap .u32 m) (s.set (c+((e.toNat)*1)) (.int .u32 (wrap .u32 (wrap .u64 ((wrap .u64 z) - u)))))) (q4 0 ((b:Nat):Int) 0 (s.set (c+((e.toNat)*1)) (.int .u32 (wrap .u32 (wrap .u64 ((wrap .u64 z) - u))))))) none) none)) none))
def Dq (r0:Int→LA→O R) (c d:Nat) (f:LA) (b:Nat) (g i:Bool) (e m:Int):Nat→Int→Int→Int→LA→O R
 | 0,_,_,_,_=>none
 | n+1,u,x,r,s=>(Fw N r0 c d f b g i e m (Dq r0 c d f b g i e m n) (fun v w q t=>(Ez N r0 c d e m f b g i N v w q t)) u x r s)
def Nu (N:Nat) (r0:Int→LA→O R) (c d:Nat) (f:LA) (b:Nat) (g i:Bool) (e:Int) (l:LA) (q3:Int→Int→Int→LA→O R) (m:Int):O R :=
 (q3 0 ((b:Nat):Int) 0 l)
def C0 (r0:Int→LA→O R) (c d:Nat) (f:LA) (b:Nat) (g i:Bool) (e:Int) (l:LA) (m:Int):O R:=(Nu N r0 c d f b g i e l (fun u x r s=>(Dq N r0 c d f b g i e m N u x r s)) m)
def Nv (N:Nat) (k0:Int→Int→Int→O R) (r0:Int→LA→O R) (c d:Nat) (f:LA) (b:Nat) (g i:Bool) (e o p:Int) (l:LA) (q2:Int→O R):O R :=
 (cond (Ao (wrap .i64 (e - 1)) b) (F3 .u32 (f.drop (((wrap .i64 (e - 1)).toNat)*1)) fun ad=>(cond ((Int.fdiv (wrap .u64 (p+(wrap .u64 ad))) (2 ^ 32)) != 0) (q2 (wrap .u64 (o - 1))) (k0 e (wrap .u64 (o - 1)) (wrap .u64 (p+(wrap .u64 ad)))))) none)
def G9 (k0:Int→Int→Int→O R) (r0:Int→LA→O R) (c d:Nat) (f:LA) (b:Nat) (g i:Bool) (e o p:Int) (l:LA):O R:=(Nv N k0 r0 c d f b g i e o p l (fun m=>(C0 N r0 c d f b g i e l m)))
def Nw (N:Nat) (r0:Int→LA→O R) (c d:Nat) (f:LA) (b:Nat) (g i:Bool) (l:LA) (k0:Int→Int→Int→O R) (q1:O R) (q2:Int→O R) (e o p:Int):O R :=
 (cond (((Int.fdiv o (2 ^ 32)) != 0)==false) (cond (Ao (wrap .i64 (e - 2)) b) (F3 .u32 (f.drop (((wrap .i64 (e - 2)).toNat)*1)) fun aj=>(cond (Ao (wrap .i64 (e - 2)) d) (F3 .u32 (l.drop (c+(((wrap .i64 (e - 2)).toNat)*1))) fun ak=>(cond (cond false true (decide ((wrap .u64 (o*(wrap .u64 aj)))>(Kx .u64 (wrap .u64 (p*2 ^ 32)) (wrap .u64 ak))))) q1 (q2 o))) none)) none) q1)
def C1 (r0:Int→LA→O R) (c d:Nat) (f:LA) (b:Nat) (g i:Bool) (l:LA):Nat→Int→Int→Int→O R
 | 0,_,_,_=>none
 | n+1,e,o,p=>(Nw N r0 c d f b g i l (C1 r0 c d f b g i l n) (G9 N (C1 r0 c d f b g i l n) r0 c d f b g i e o p l) (fun m=>(C0 N r0 c d f b g i e l m)) e o p)
def N9 (N:Nat) (r0:Int→LA→O R) (q0:Int→Int→Int→O R) (c d:Nat) (f:LA) (b:Nat) (g i:Bool) (l:LA):O R :=
 (cond (Ao ((b:Nat):Int) d) (F3 .u32 (l.drop (c+(b*1))) fun ae=>(cond (Ao (wrap .i64 (((b:Nat):Int) - 1)) d) (F3 .u32 (l.drop (c+(((wrap .i64 (((b:Nat):Int) - 1)).toNat)*1))) fun af=>(cond (Ao (wrap .i64 (((b:Nat):Int) - 1)) b) (F3 .u32 (f.drop (((wrap .i64 (((b:Nat):Int) - 1)).toNat)*1)) fun ag=>(cond ((wrap .u64 ag)==0) none (cond (Ao (wrap .i64 (((b:Nat):Int) - 1)) b) (F3 .u32 (f.drop (((wrap .i64 (((b:Nat):Int) - 1)).toNat)*1)) fun ah=>(cond ((wrap .u64 ah)==0) none (q0 ((b:Nat):Int) (wrap .u64 (Int.tdiv (Kx .u64 (wrap .u64 ((wrap .u64 ae)*2 ^ 32)) (wrap .u64 af)) (wrap .u64 ag))) (Int.tmod (Kx .u64 (wrap .u64 ((wrap .u64 ae)*2 ^ 32)) (wrap .u64 af)) (wrap .u64 ah))))) none))) none)) none)) none)
def Gs:=(Aj (fun (N:Nat) (c d:Nat) (f:LA) (b:Nat) (g i:Bool) (l:LA) (r0:Int→LA→O R)=>(N9 N r0 (fun e o p=>(C1 N r0 c d f b g i l N e o p)) c d f b g i l))).1
theorem Xe (c d f b g i l r0):(@Gs R N c d f b g i l r0)=(N9 N r0 (fun e o p=>(C1 N r0 c d f b g i l N e o p)) c d f b g i l):=by rw[Gs,(Aj _).2]
def AT:Hints:={ H:=(hS hL (hS hL (hS hL (hS hL (hJ [0,1,5,7] (hS (hP [0,1,5,7,8] (hJ [0,1,5,7,8] hL hL)) hL) (hS hL (hS (hS hL (hS (hP [0,1,5,7,9,84,85,86] hL) hL)) (hS hL (hS hL (hS hL (hS hL (hS (hS hL (hS (hP [0,5,7,9,134,135,136] hL) hL)) hL)))))))))))) }
def Ha (F:KF R):=Ty Tryz.f277 AT [] [100000] N F
def A7 (F:KF R):Int→LA→O R:=(fun al am=>F (.int .u32 al) [(100000,(bQ 1 am))])
def cM (c d:Nat) (e m:Int) (f:LA) (b:Nat) (g i:Bool) (v w q:Int) (t:LA):St:=⟨[(0,(.own 100000 c d)),(5,(iv e)),(7,(.int .u64 m)),(9,(.int .u64 v)),(134,(.imm f b 1 g i)),(135,(iv w)),(136,(iv q))],[(100000,(bQ 1 t))]⟩
def cN (F:KF R):=Ha N F [1,1,1,1,1,1,1,1,1,1,1,0,1,0] []
def cO (c d:Nat) (f:LA) (b:Nat) (g i:Bool) (e m u x r:Int) (s:LA):St:=⟨[(0,(.own 100000 c d)),(1,(.imm f b 1 g i)),(5,(iv e)),(7,(.int .u64 m)),(9,(.int .u64 u)),(84,(.imm f b 1 g i)),(85,(iv x)),(86,(iv r))],[(100000,(bQ 1 s))]⟩
def cP (F:KF R):=Ha N F [1,1,1,1,1,1,0,1,0] []
def cQ (c d:Nat) (f:LA) (b:Nat) (g i:Bool) (e:Int) (l:LA) (m:Int):St:=⟨[(0,(.own 100000 c d)),(1,(.imm f b 1 g i)),(5,(iv e)),(7,(.int .u64 m))],[(100000,(bQ 1 l))]⟩
def cR (F:KF R):=Ha N F [1,1,1,1,1] []
def cS (c d:Nat) (f:LA) (b:Nat) (g i:Bool) (e o p:Int) (l:LA):St:=⟨[(0,(.own 100000 c d)),(1,(.imm f b 1 g i)),(5,(iv e)),(7,(.int .u64 o)),(8,(.int .u64 p))],[(100000,(bQ 1 l))]⟩
def cT (F:KF R) (Q0:St→O R):=Ha N F [1,1,1,1,0,0,0,1] [Q0]
def Pc (c d:Nat) (f:LA) (b:Nat) (g i:Bool) (l:LA) (e o p:Int):St:=⟨[(0,(.own 100000 c d)),(1,(.imm f b 1 g i)),(5,(iv e)),(7,(.int .u64 o)),(8,(.int .u64 p))],[(100000,(bQ 1 l))]⟩
def AU (F:KF R):=Ha N F [1,1,1,1,0,0] []
theorem Sb (F:KF R) (c d:Nat) (e m:Int) (f:LA) (b:Nat) (g i:Bool):∀ (n:Nat) (v w q:Int) (t:LA),A5 (cN N F) n (cM c d e m f b g i v w q t)=(Ez N (A7 F) c d e m f b g i n v w q t)
 | 0,_,_,_,_=>by kernel_rfl
 | n+1,v,w,q,t=>Eq.trans (by kernel_rfl) (E9 (I9 N (A7 F) c d e m f b g i · v w q t) (funext fun v=>funext fun w=>funext fun q=>funext fun t=>(Sb F c d e m f b g i n v w q t)):_)
theorem Sc (F:KF R) (c d:Nat) (f:LA) (b:Nat) (g i:Bool) (e m:Int):∀ (n:Nat) (u x r:Int) (s:LA),A5 (cP N F) n (cO c d f b g i e m u x r s)=(Dq N (A7 F) c d f b g i e m n u x r s)
 | 0,_,_,_,_=>by kernel_rfl
 | n+1,u,x,r,s=>Eq.trans (by kernel_rfl) (ti (Fw N (A7 F) c d f b g i e m · · u x r s) (funext fun u=>funext fun x=>funext fun r=>funext fun s=>(Sc F c d f b g i e m n u x r s)) (funext fun v=>funext fun w=>funext fun q=>funext fun t=>(Aw ..).trans (Sb N F c d e m f b g i N v w q t)):_)
theorem Sd (F:KF R) (c d:Nat) (f:LA) (b:Nat) (g i:Bool) (e:Int) (l:LA):∀ (m:Int),Dx (cR N F) (cQ c d f b g i e l m)=(C0 N (A7 F) c d f b g i e l m):=by
 intro m
 exact Eq.trans (by kernel_rfl) (E9 (Nu N (A7 F) c d f b g i e l · m) (funext fun u=>funext fun x=>funext fun r=>funext fun s=>(Aw ..).trans (Sc N F c d f b g i e m N u x r s)):_)
theorem NS (Q0:St→O R) (F:KF R) (c d:Nat) (f:LA) (b:Nat) (g i:Bool) (e o p:Int) (l:LA):Dx (cT N F Q0) (cS c d f b g i e o p l)=(G9 N (fun e o p=>Q0 (Pc c d f b g i l e o p)) (A7 F) c d f b g i e o p l):=by
 exact Eq.trans (by kernel_rfl) (E9 (Nv N (fun e o p=>Q0 (Pc c d f b g i l e o p)) (A7 F) c d f b g i e o p l ·) (funext fun m=>(Bh ..).trans (Sd N F c d f b g i e l m)):_)
theorem Se (F:KF R) (c d:Nat) (f:LA) (b:Nat) (g i:Bool) (l:LA):∀ (n:Nat) (e o p:Int),A5 (AU N F) n (Pc c d f b g i l e o p)=(C1 N (A7 F) c d f b g i l n e o p)
 | 0,_,_,_=>by kernel_rfl
 | n+1,e,o,p=>have e0:=(funext fun e=>funext fun o=>funext fun p=>(Se F c d f b g i l n e o p))
  Eq.trans (by kernel_rfl) (zr (Nw N (A7 F) c d f b g i l · · · e o p) e0 ((Bh ..).trans ((NS N (A5 (AU N F) n) F c d f b g i e o p l).trans (E9 (G9 N · (A7 F) c d f b g i e o p l) e0))) (funext fun m=>(Bh ..).trans (Sd N F c d f b g i e l m)):_)
theorem AW (c d:Nat) (f:LA) (b:Nat) (g i:Bool) (l:LA) (F:KF R):Cy [] AT N 277 [(.own 100000 c d),(.imm f b 1 g i)] [(100000,(bQ 1 l))] F=(Gs N c d f b g i l (A7 F)):=by
 rw[Xe]
 exact Eq.trans (by kernel_rfl) (E9 (N9 N (A7 F) · c d f b g i l) (funext fun e=>funext fun o=>funext fun p=>(Aw ..).trans (Se N F c d f b g i l N e o p)):_)
def Xf (a:LA) (h:Ah) (k:KF R):O R :=
 match a,h with
 | [(.own 100000 c d),(.imm f b 1 g i)],[(100000,⟨false,false,true,false,1,l,false,none⟩)]=>(Gs N c d f b g i l (A7 k))
 | _,_=>none
theorem AX:Ap N 277 @Xf:=by
 intro R Q a h k j;unfold Xf;split;exact Ax (AW ..) (AW ..) trivial;exact A2
def cU:=Ay (AX N)
def cV:=Cz (AX N)
def E3 (r0:Nat→Bool→LA→O R) (d:Bool) (k0:LA→Nat→Int→Nat→LA→Nat→Int→Int→LA→O R) (l:LA) (i:Nat) (e:Int) (g:Nat) (m:LA) (o:Nat) (p b:Int) (f:LA):O R :=
 (cond (decide (b<p)) (cond (Ao b o) (F3 .u32 (m.drop ((b.toNat)*1)) fun u=>(cond (decide ((wrap .i64 (b+1))<((i:Nat):Int))) (cond (Ao (wrap .i64 (b+1)) i) (F3 .u32 (l.drop (((wrap .i64 (b+1)).toNat)*1)) fun w=>(cond (decide (e<0)) none (cond (Ao b g) (cond ((Nat.beq 1 1)&&((Nat.ble ((0+((b.toNat)*1))+1) (f.length))&&(!false))) (k0 l i e g m o p (wrap .i64 (b+1)) (f.set (0+((b.toNat)*1)) (.int .u32 (wrap .u32 (Int.fdiv (Kx .u64 (wrap .u64 u) (wrap .u64 ((wrap .u64 w)*2 ^ 32))) (2 ^ (min (e.toNat) 64))))))) none) none))) none) (cond (decide (e<0)) none (cond (Ao b g) (cond ((Nat.beq 1 1)&&((Nat.ble ((0+((b.toNat)*1))+1) (f.length))&&(!false))) (k0 l i e g m o p (wrap .i64 (b+1)) (f.set (0+((b.toNat)*1)) (.int .u32 (wrap .u32 (Int.fdiv (wrap .u64 u) (2 ^ (min (e.toNat) 64))))))) none) none)))) none) (Nl N g f (fun x=>(r0 x true f))))
def B0 (r0:Nat→Bool→LA→O R) (d:Bool):Nat→LA→Nat→Int→Nat→LA→Nat→Int→Int→LA→O R
 | 0,_,_,_,_,_,_,_,_,_=>none
 | n+1,l,i,e,g,m,o,p,b,f=>(E3 N r0 d (B0 r0 d n) l i e g m o p b f)
def H6 (r0:Nat→Bool→LA→O R) (q0:LA→Nat→Int→Nat→LA→Nat→Int→Int→LA→O R) (r:LA) (s:Nat) (t d:Bool) (c:Int):O R :=
 (cond (decide (c<0)) (r0 0 false []) (Bk N r s t d (fun v q=>(cond (decide ((wrap .i64 (Int.tdiv c 32))≥((q:Nat):Int))) (r0 0 true []) (cond ((decide (0≤(wrap .i64 (Int.tdiv c 32))))&&((decide ((wrap .i64 (Int.tdiv c 32))≤((q:Nat):Int)))&&((decide (((q:Nat):Int)≤((q:Nat):Int)))&&(decide (((q:Nat):Int)≤((q:Nat):Int)))))) (cond ((decide (0≤(((q - ((wrap .i64 (Int.tdiv c 32)).toNat)):Nat):Int)))&&((decide ((((q - ((wrap .i64 (Int.tdiv c 32)).toNat)):Nat):Int)≤(((q - ((wrap .i64 (Int.tdiv c 32)).toNat)):Nat):Int)))&&((decide ((((q - ((wrap .i64 (Int.tdiv c 32)).toNat)):Nat):Int)≤140737488355328))&&(decide (((((q - ((wrap .i64 (Int.tdiv c 32)).toNat)):Nat):Int)*((4:Nat):Int))≤140737488355328))))) (q0 ((v.drop (((wrap .i64 (Int.tdiv c 32)).toNat)*1)).take ((q - ((wrap .i64 (Int.tdiv c 32)).toNat))*1)) (q - ((wrap .i64 (Int.tdiv c 32)).toNat)) (Int.tmod c 32) (q - ((wrap .i64 (Int.tdiv c 32)).toNat)) ((v.drop (((wrap .i64 (Int.tdiv c 32)).toNat)*1)).take ((q - ((wrap .i64 (Int.tdiv c 32)).toNat))*1)) (q - ((wrap .i64 (Int.tdiv c 32)).toNat)) (((q - ((wrap .i64 (Int.tdiv c 32)).toNat)):Nat):Int) 0 (List.replicate (q - ((wrap .i64 (Int.tdiv c 32)).toNat)) (.int .u32 0))) none) none)))))
def Hg:=(Aj (fun (N:Nat) (r:LA) (s:Nat) (t d:Bool) (c:Int) (r0:Nat→Bool→LA→O R)=>(H6 N r0 (fun l i e g m o p b f=>(B0 N r0 d N l i e g m o p b f)) r s t d c))).1
theorem Ly (r s t d c r0):(@Hg R N r s t d c r0)=(H6 N r0 (fun l i e g m o p b f=>(B0 N r0 d N l i e g m o p b f)) r s t d c):=by rw[Hg,(Aj _).2]
def Xg:Hints:={ H:=(hS hL (hS hL (hS hL (hS hL (hS hL (hS hL (hS hL (hS (hS hL (hS (hP [0,6,7,29,30,31] hL) hL)) hL)))))))),nils:=[(4,1)],modes:=[(2,1),(0,0)] }
def AY:D7:=[(214,Dk N)]
def WD (F:KF R):=Ty Tryz.f278 Xg (AY N) [] N F
def Fx (F:KF R):Nat→Bool→LA→O R:=(fun y z aa=>F (.tup [(.own 300000 0 y),(.bool z)]) (hq [(bQ 1 aa)]))
def WE (d:Bool) (l:LA) (i:Nat) (e:Int) (g:Nat) (m:LA) (o:Nat) (p b:Int) (f:LA):St:=⟨[(0,(.imm l i 1 false d)),(6,(iv e)),(7,(.own 300000 0 g)),(29,(.imm m o 1 false d)),(30,(iv p)),(31,(iv b))],(hq [(bQ 1 f)])⟩
def WF (F:KF R):=WD N F [1,1,1,1,1,1,1,0,1,0] []
theorem Pt (F:KF R) (d:Bool):∀ (n:Nat) (l:LA) (i:Nat) (e:Int) (g:Nat) (m:LA) (o:Nat) (p b:Int) (f:LA),A5 (WF N F) n (WE d l i e g m o p b f)=(B0 N (Fx F) d n l i e g m o p b f)
 | 0,_,_,_,_,_,_,_,_,_=>by kernel_rfl
 | n+1,l,i,e,g,m,o,p,b,f=>Eq.trans (by kernel_rfl) (E9 (E3 N (Fx F) d · l i e g m o p b f) (funext fun l=>funext fun i=>funext fun e=>funext fun g=>funext fun m=>funext fun o=>funext fun p=>funext fun b=>funext fun f=>(Pt F d n l i e g m o p b f)):_)
theorem Xh (r:LA) (s:Nat) (t d:Bool) (c:Int) (F:KF R):Cy (AY N) Xg N 278 [(.imm r s 1 t d),(iv c)] [] F=(Hg N r s t d c (Fx F)):=by
 rw[Ly]
 exact Eq.trans (by kernel_rfl) (E9 (H6 N (Fx F) · r s t d c) (funext fun l=>funext fun i=>funext fun e=>funext fun g=>funext fun m=>funext fun o=>funext fun p=>funext fun b=>funext fun f=>(Aw ..).trans (Pt N F d N l i e g m o p b f)):_)
def Ud (a:LA) (h:Ah) (k:KF R):O R :=
 match a,h with
 | [(.imm r s 1 t d),(.int .i64 c)],[]=>(Hg N r s t d c (Fx k))
 | _,_=>none
theorem Xi:Ap N 278 @Ud:=by
 intro R Q a h k j;unfold Ud;split;exact Ax (Xh ..) (Xh ..) ⟨Dl N,trivial⟩;exact A2
def WG:=Ay (Xi N)
def WH:=Cz (Xi N)
def Hx (r0:Nat→Nat→LA→LA→O R) (g:Int) (b c:Nat) (m:LA) (k0:Nat→Int→Int→Int→Int→LA→LA→O R) (l:Nat) (f e o d:Int) (i p:LA):O R :=
 (cond (decide (d<o)) (cond ((decide (0≤(wrap .i64 ((wrap .i64 (e - 1)) - d))))&&((decide ((wrap .i64 ((wrap .i64 (e - 1)) - d))≤(wrap .i64 ((wrap .i64 ((wrap .i64 ((wrap .i64 (e - 1)) - d))+f))+1))))&&((decide ((wrap .i64 ((wrap .i64 ((wrap .i64 ((wrap .i64 (e - 1)) - d))+f))+1))≤((c:Nat):Int)))&&(decide (((c:Nat):Int)≤((c:Nat):Int)))))) (Gs N (0+(((wrap .i64 ((wrap .i64 (e - 1)) - d)).toNat)*1)) (((wrap .i64 ((wrap .i64 ((wrap .i64 ((wrap .i64 (e - 1)) - d))+f))+1)).toNat) - ((wrap .i64 ((wrap .i64 (e - 1)) - d)).toNat)) (m.take (b*1)) b false true p (fun y z=>(cond (Ao (wrap .i64 ((wrap .i64 (e - 1)) - d)) l) (cond ((Nat.beq 1 1)&&((Nat.ble ((0+(((wrap .i64 ((wrap .i64 (e - 1)) - d)).toNat)*1))+1) (i.length))&&(!false))) (k0 l f e o (wrap .i64 (d+1)) (i.set (0+(((wrap .i64 ((wrap .i64 (e - 1)) - d)).toNat)*1)) (.int .u32 y)) z) none) none))) none) (cond ((decide ((0:Int)≤(0:Int)))&&((decide (0≤f))&&((decide (f≤((c:Nat):Int)))&&(decide (((c:Nat):Int)≤((c:Nat):Int)))))) (Hg N (p.take ((f.toNat)*1)) (f.toNat) false true g (fun aa aj ab=>(Nl N l i (fun ac=>(r0 ac aa i ab))))) none))
def Ch (r0:Nat→Nat→LA→LA→O R) (g:Int) (b c:Nat) (m:LA):Nat→Nat→Int→Int→Int→Int→LA→LA→O R
 | 0,_,_,_,_,_,_,_=>none
 | n+1,l,f,e,o,d,i,p=>(Hx N r0 g b c m (Ch r0 g b c m n) l f e o d i p)
def Lz (r0:Nat→Nat→LA→LA→O R) (q0:Int→Nat→LA→Nat→Int→Int→Int→Int→LA→LA→O R) (r:LA) (s:Nat) (v t:Bool) (q:LA) (b:Nat) (w u:Bool):O R :=
 (cond (Ao (wrap .i64 (((b:Nat):Int) - 1)) b) (F3 .u32 (q.drop (((wrap .i64 (((b:Nat):Int) - 1)).toNat)*1)) fun ad=>(Bg N ad (fun g=>(Km N q b false u g (fun x m=>(cond ((decide ((0:Int)≤(0:Int)))&&((decide (0≤((b:Nat):Int)))&&((decide (((b:Nat):Int)≤((x:Nat):Int)))&&(decide (((x:Nat):Int)≤((x:Nat):Int)))))) (Km N r s false t g (fun c ae=>(cond ((decide (0≤(wrap .i64 (((c:Nat):Int) - ((b:Nat):Int)))))&&((decide ((wrap .i64 (((c:Nat):Int) - ((b:Nat):Int)))≤(wrap .i64 (((c:Nat):Int) - ((b:Nat):Int)))))&&((decide ((wrap .i64 (((c:Nat):Int) - ((b:Nat):Int)))≤140737488355328))&&(decide (((wrap .i64 (((c:Nat):Int) - ((b:Nat):Int)))*((4:Nat):Int))≤140737488355328))))) (q0 g c m ((wrap .i64 (((c:Nat):Int) - ((b:Nat):Int))).toNat) ((b:Nat):Int) (wrap .i64 (((c:Nat):Int) - ((b:Nat):Int))) (wrap .i64 (((c:Nat):Int) - ((b:Nat):Int))) 0 (List.replicate ((wrap .i64 (((c:Nat):Int) - ((b:Nat):Int))).toNat) (.int .u32 0)) ae) none))) none)))))) none)
def Fg:=(Aj (fun (N:Nat) (r:LA) (s:Nat) (v t:Bool) (q:LA) (b:Nat) (w u:Bool) (r0:Nat→Nat→LA→LA→O R)=>(Lz N r0 (fun g c m l f e o d i p=>(Ch N r0 g b c m N l f e o d i p)) r s v t q b w u))).1
theorem Ue (r s v t q b w u r0):(@Fg R N r s v t q b w u r0)=(Lz N r0 (fun g c m l f e o d i p=>(Ch N r0 g b c m N l f e o d i p)) r s v t q b w u):=by rw[Fg,(Aj _).2]
def Xj:Hints:={ H:=(hS hL (hS hL (hS hL (hS hL (hS hL (hS hL (hS hL (hS (hS hL (hS (hP [4,6,7,8,9,10,35,36] hL) hL)) hL)))))))),nils:=[(4,1),(5,1)],modes:=[(2,1),(2,1)] }
def AZ:D7:=[(275,Hv N),(276,iw N),(277,cU N),(278,WG N),(214,VT N)]
def WI (F:KF R):=Ty Tryz.f217 Xj (AZ N) [] N F
def Fy (F:KF R):Nat→Nat→LA→LA→O R:=(fun af ag ah ai=>F (.tup [(.own 300000 0 af),(.own 300001 0 ag)]) (hq [(bQ 1 ah),(bQ 1 ai)]))
def WJ (g:Int) (b c:Nat) (m:LA) (l:Nat) (f e o d:Int) (i p:LA):St:=⟨[(4,(.own 300000 0 l)),(6,(iv f)),(7,(iv g)),(8,(.own 300001 0 b)),(9,(.own 300002 0 c)),(10,(iv e)),(35,(iv o)),(36,(iv d))],(hq [(bQ 1 i),(bQ 1 m),(bQ 1 p)])⟩
def WK (F:KF R):=WI N F [1,1,1,1,1,1,1,0,1,0] []
theorem Pu (F:KF R) (g:Int) (b c:Nat) (m:LA):∀ (n l:Nat) (f e o d:Int) (i p:LA),A5 (WK N F) n (WJ g b c m l f e o d i p)=(Ch N (Fy F) g b c m n l f e o d i p)
 | 0,_,_,_,_,_,_,_=>by kernel_rfl
 | n+1,l,f,e,o,d,i,p=>Eq.trans (by kernel_rfl) (E9 (Hx N (Fy F) g b c m · l f e o d i p) (funext fun l=>funext fun f=>funext fun e=>funext fun o=>funext fun d=>funext fun i=>funext fun p=>(Pu F g b c m n l f e o d i p)):_)
theorem Xk (r:LA) (s:Nat) (v t:Bool) (q:LA) (b:Nat) (w u:Bool) (F:KF R):Cy (AZ N) Xj N 217 [(.imm r s 1 v t),(.imm q b 1 w u)] [] F=(Fg N r s v t q b w u (Fy F)):=by
 rw[Ue]
 exact Eq.trans (by kernel_rfl) (E9 (Lz N (Fy F) · r s v t q b w u) (funext fun g=>funext fun c=>funext fun m=>funext fun l=>funext fun f=>funext fun e=>funext fun o=>funext fun d=>funext fun i=>funext fun p=>(Aw ..).trans (Pu N F g b c m N l f e o d i p)):_)
def Uf (a:LA) (h:Ah) (k:KF R):O R :=
 match a,h with
 | [(.imm r s 1 v t),(.imm q b 1 w u)],[]=>(Fg N r s v t q b w u (Fy k))
 | _,_=>none
theorem Xl:Ap N 217 @Uf:=by
 intro R Q a h k j;unfold Uf;split;exact Ax (Xk ..) (Xk ..) ⟨Hw N,ix N,cV N,WH N,VU N,trivial⟩;exact A2
def WL:=Ay (Xl N)
def WM:=Cz (Xl N)
def NT (d:LA) (e:Nat) (f b:Bool) (g:LA) (i:Nat) (l c:Bool) (r0:Nat→Nat→Bool→LA→LA→O R):O R :=
 (Bk N d e f b (fun o m=>(Bk N g i l c (fun p n=>(cond (((n:Nat):Int)==0) (r0 0 0 false [] []) (Cn N o m false b p n false c (fun s=>(cond (decide (s<0)) (Ls N o m false b (fun t u=>(r0 0 t true [] u))) (cond (decide (((m:Nat):Int)≤2)) (Kc N o m false b (fun r=>(Kc N p n false c (fun q=>(cond (q==0) none (Ba N (wrap .u64 (Int.tdiv r q)) (fun v w=>(cond (q==0) none (Ba N (Int.tmod r q) (fun x y=>(r0 v x true w y))))))))))) (cond (((n:Nat):Int)==1) (cond (Ao 0 n) (F3 .u32 p fun z=>(Dp N o m false b z (fun aa ab ac ad=>(r0 aa ab true ac ad)))) none) (Fg N o m false b p n false c (fun ae af ag ah=>(r0 ae af true ag ah)))))))))))))
def Cx:=(Aj (@NT R)).1
theorem JM:@Cx R=@NT R:=(Aj _).2
def mU:Hints:={ H:=hL,nils:=[(4,1),(5,1)],modes:=[(2,1),(2,1),(0,0)] }
def o_:D7:=[(214,Lq N),(131,I5 N),(212,No N),(215,ND N),(133,D5 N),(216,NQ N),(217,WL N)]
def QZ (F:KF R):Nat→Nat→Bool→LA→LA→O R:=(fun ai aj ak al am=>F (.tup [(.own 300000 0 ai),(.own 300001 0 aj),(.bool ak)]) (hq [(bQ 1 al),(bQ 1 am)]))
theorem Q_ (d:LA) (e:Nat) (f b:Bool) (g:LA) (i:Nat) (l c:Bool) (F:KF R):Cy (o_ N) mU N 134 [(.imm d e 1 f b),(.imm g i 1 l c)] [] F=(Cx N d e f b g i l c (QZ F)):=by
 rw[JM]
 kernel_rfl
def JN (a:LA) (h:Ah) (k:KF R):O R :=
 match a,h with
 | [(.imm d e 1 f b),(.imm g i 1 l c)],[]=>(Cx N d e f b g i l c (QZ k))
 | _,_=>none
theorem Q':Ap N 134 @JN:=by
 intro R Q a h k j;unfold JN;split;exact Ax (Q_ ..) (Q_ ..) ⟨Lr N,I6 N,Np N,NE N,D6 N,NR N,WM N,trivial⟩;exact A2
def Ze:=Ay (Q' N)
def Zf:=Cz (Q' N)
def EB (b:LA) (c:Nat) (m d:Bool) (e:Int) (f:LA) (g:Nat) (n i:Bool) (l:Int) (r0:Nat→LA→O R):O R :=
 (Ba N e (fun o s=>(Y6 N b c false d (s.take (o*1)) o false true (fun p t=>(Ba N l (fun q u=>(Y6 N f g false i (u.take (q*1)) q false true (fun r v=>(Vs N (t.take (p*1)) p false true (v.take (r*1)) r false true (fun w aa x=>(r0 w x)))))))))))
def Dr:=(Aj (@EB R)).1
theorem EC:@Dr R=@EB R:=(Aj _).2
def iy:Hints:={ H:=hL,nils:=[(8,1)],modes:=[(2,1)] }
def mV:D7:=[(133,D5 N),(137,VX N),(136,WA N)]
def JO (F:KF R):Nat→LA→O R:=(fun y z=>F (.own 300000 0 y) (hq [(bQ 1 z)]))
theorem JP (b:LA) (c:Nat) (m d:Bool) (e:Int) (f:LA) (g:Nat) (n i:Bool) (l:Int) (F:KF R):Cy (mV N) iy N 274 [(.imm b c 1 m d),(.int .u64 e),(.imm f g 1 n i),(.int .u64 l)] [] F=(Dr N b c m d e f g n i l (JO F)):=by
 rw[EC]
 kernel_rfl
def ED (a:LA) (h:Ah) (k:KF R):O R :=
 match a,h with
 | [(.imm b c 1 m d),(.int .u64 e),(.imm f g 1 n i),(.int .u64 l)],[]=>(Dr N b c m d e f g n i l (JO k))
 | _,_=>none
theorem JQ:Ap N 274 @ED:=by
 intro R Q a h k j;unfold ED;split;exact Ax (JP ..) (JP ..) ⟨D6 N,VY N,WB N,trivial⟩;exact A2
def iz:=Ay (JQ N)
def jA:=Cz (JQ N)
def Zg (k1:LA→Nat→Bool→LA→Nat→Bool→O R) (r0:Nat→LA→O R) (k2:Int→Int→O R) (l i:Int):O R :=
 (cond (i != 0) (cond (i==0) none (k2 i (Int.tmod l i))) (Ba N l (fun al am=>(r0 al am))))
def K1 (k1:LA→Nat→Bool→LA→Nat→Bool→O R) (r0:Nat→LA→O R):Nat→Int→Int→O R
 | 0,_,_=>none
 | n+1,l,i=>(Zg N k1 r0 (K1 k1 r0 n) l i)
def Sf (r0:Nat→LA→O R) (k1:LA→Nat→Bool→LA→Nat→Bool→O R) (q2:Int→Int→O R) (d:LA) (b:Nat) (e:Bool) (f:LA) (c:Nat) (g:Bool):O R :=
 (cond (decide (((c:Nat):Int)>0)) (cond (decide (((b:Nat):Int)≤2)) (Kc N d b false e (fun an=>(Kc N f c false g (fun ao=>(q2 an ao))))) (Nt N d b false e f c false g (fun ab=>(cond ((Nat.beq (ab.length) 5)&&((Nat.ble 5 5)&&(!false))) (F3 .u64 ((setCells [(.int .u64 0),(.int .u64 0),(.int .u64 0),(.int .u64 0),(.bool false)] 0 ab).drop 2) fun ap=>(cond (ap==0) (Cx N d b false e f c false g (fun bl ag bm bn aq=>(k1 f c g (aq.take (ag*1)) ag false))) (Pa ((setCells [(.int .u64 0),(.int .u64 0),(.int .u64 0),(.int .u64 0),(.bool false)] 0 ab).drop 4) fun ar=>(cond ar (F3 .u64 (setCells [(.int .u64 0),(.int .u64 0),(.int .u64 0),(.int .u64 0),(.bool false)] 0 ab) fun au=>(F3 .u64 ((setCells [(.int .u64 0),(.int .u64 0),(.int .u64 0),(.int .u64 0),(.bool false)] 0 ab).drop 2) fun av=>(Dr N d b false e au f c false g av (fun ah aw=>(F3 .u64 ((setCells [(.int .u64 0),(.int .u64 0),(.int .u64 0),(.int .u64 0),(.bool false)] 0 ab).drop 3) fun ax=>(F3 .u64 ((setCells [(.int .u64 0),(.int .u64 0),(.int .u64 0),(.int .u64 0),(.bool false)] 0 ab).drop 1) fun ay=>(Dr N f c false g ax d b false e ay (fun ai az=>(k1 (aw.take (ah*1)) ah false (az.take (ai*1)) ai false))))))))) (F3 .u64 ((setCells [(.int .u64 0),(.int .u64 0),(.int .u64 0),(.int .u64 0),(.bool false)] 0 ab).drop 2) fun ba=>(F3 .u64 (setCells [(.int .u64 0),(.int .u64 0),(.int .u64 0),(.int .u64 0),(.bool false)] 0 ab) fun bb=>(Dr N f c false g ba d b false e bb (fun aj bc=>(F3 .u64 ((setCells [(.int .u64 0),(.int .u64 0),(.int .u64 0),(.int .u64 0),(.bool false)] 0 ab).drop 1) fun bd=>(F3 .u64 ((setCells [(.int .u64 0),(.int .u64 0),(.int .u64 0),(.int .u64 0),(.bool false)] 0 ab).drop 3) fun be=>(Dr N d b false e bd f c false g be (fun ak bf=>(k1 (bc.take (aj*1)) aj false (bf.take (ak*1)) ak false))))))))))))) none)))) (Ls N d b false e (fun bg bh=>(r0 bg bh))))
def C8 (r0:Nat→LA→O R):Nat→LA→Nat→Bool→LA→Nat→Bool→O R
 | 0,_,_,_,_,_,_=>none
 | n+1,d,b,e,f,c,g=>(Sf N r0 (C8 r0 n) (fun l i=>(K1 N (C8 r0 n) r0 N l i)) d b e f c g)
def NU (N:Nat) (r0:Nat→LA→O R) (q1:LA→Nat→Bool→LA→Nat→Bool→O R) (m:LA) (o:Nat) (p:Bool) (q:LA) (r:Nat) (s:Bool):O R :=
 (q1 m o p q r s)
def HJ (r0:Nat→LA→O R) (m:LA) (o:Nat) (p:Bool) (q:LA) (r:Nat) (s:Bool):O R:=(NU N r0 (fun d b e f c g=>(C8 N r0 N d b e f c g)) m o p q r s)
def cy (r0:Nat→LA→O R) (q0:LA→Nat→Bool→LA→Nat→Bool→O R) (v:LA) (w:Nat) (x t:Bool) (y:LA) (z:Nat) (aa u:Bool):O R :=
 (Bk N v w x t (fun ac ad=>(Bk N y z aa u (fun ae af=>(Cn N ac ad false t ae af false u (fun bi=>(cond (decide (bi<0)) (q0 ae af u ac ad t) (q0 ac ad t ae af u))))))))
def EE:=(Aj (fun (N:Nat) (v:LA) (w:Nat) (x t:Bool) (y:LA) (z:Nat) (aa u:Bool) (r0:Nat→LA→O R)=>(cy N r0 (fun m o p q r s=>(HJ N r0 m o p q r s)) v w x t y z aa u))).1
theorem ez (v w x t y z aa u r0):(@EE R N v w x t y z aa u r0)=(cy N r0 (fun m o p q r s=>(HJ N r0 m o p q r s)) v w x t y z aa u):=by rw[EE,(Aj _).2]
def kQ:Hints:={ H:=(hS hL (hS hL (hJ [0,1] hL (hS (hS (hP [0,1] (hS hL (hS (hS (hS hL (hS (hS hL (hS (hS (hP [5,6] hL) hL) hL)) hL)) hL) hL))) hL) hL)))),nils:=[(0,1000001),(1,1000001)],modes:=[(2,1)] }
def oa:D7:=[(214,Lq N),(131,I5 N),(215,ND N),(273,io N),(134,Ze N),(274,iz N),(212,No N),(133,D5 N)]
def WN (F:KF R):=Ty Tryz.f213 kQ (oa N) [] N F
def Hh (F:KF R):Nat→LA→O R:=(fun bj bk=>F (.own 300000 0 bj) (hq [(bQ 1 bk)]))
def uU (l i:Int):St:=⟨[(5,(.int .u64 l)),(6,(.int .u64 i))],[]⟩
def uV (F:KF R) (Q1:St→O R):=WN N F [1,1,1,0,0,0,1,0,0,1,0,1,0,0] [Q1]
def WO (d:LA) (b:Nat) (e:Bool) (f:LA) (c:Nat) (g:Bool):St:=⟨[(0,(.imm d b 1 false e)),(1,(.imm f c 1 false g))],[]⟩
def kR (F:KF R):=WN N F [1,1,1,0,0] []
def uW (m:LA) (o:Nat) (p:Bool) (q:LA) (r:Nat) (s:Bool):St:=⟨[(0,(.imm m o 1 false p)),(1,(.imm q r 1 false s))],[]⟩
def uX (F:KF R):=WN N F [1,1,1] []
theorem RA (Q1:St→O R) (F:KF R):∀ (n:Nat) (l i:Int),A5 (uV N F Q1) n (uU l i)=(K1 N (fun d b e f c g=>Q1 (WO d b e f c g)) (Hh F) n l i)
 | 0,_,_=>by kernel_rfl
 | n+1,l,i=>Eq.trans (by kernel_rfl) (E9 (Zg N (fun d b e f c g=>Q1 (WO d b e f c g)) (Hh F) · l i) (funext fun l=>funext fun i=>(RA Q1 F n l i)):_)
theorem RB (F:KF R):∀ (n:Nat) (d:LA) (b:Nat) (e:Bool) (f:LA) (c:Nat) (g:Bool),A5 (kR N F) n (WO d b e f c g)=(C8 N (Hh F) n d b e f c g)
 | 0,_,_,_,_,_,_=>by kernel_rfl
 | n+1,d,b,e,f,c,g=>have e0:=(funext fun d=>funext fun b=>funext fun e=>funext fun f=>funext fun c=>funext fun g=>(RB F n d b e f c g))
  Eq.trans (by kernel_rfl) (ti (Sf N (Hh F) · · d b e f c g) e0 (funext fun l=>funext fun i=>(Aw ..).trans ((RA N (A5 (kR N F) n) F N l i).trans (E9 (K1 N · (Hh F) N l i) e0))):_)
theorem mW (F:KF R):∀ (m:LA) (o:Nat) (p:Bool) (q:LA) (r:Nat) (s:Bool),Dx (uX N F) (uW m o p q r s)=(HJ N (Hh F) m o p q r s):=by
 intro m o p q r s
 exact Eq.trans (by kernel_rfl) (E9 (NU N (Hh F) · m o p q r s) (funext fun d=>funext fun b=>funext fun e=>funext fun f=>funext fun c=>funext fun g=>(Aw ..).trans (RB N F N d b e f c g)):_)
theorem kS (v:LA) (w:Nat) (x t:Bool) (y:LA) (z:Nat) (aa u:Bool) (F:KF R):Cy (oa N) kQ N 213 [(.imm v w 1 x t),(.imm y z 1 aa u)] [] F=(EE N v w x t y z aa u (Hh F)):=by
 rw[ez]
 exact Eq.trans (by kernel_rfl) (E9 (cy N (Hh F) · v w x t y z aa u) (funext fun m=>funext fun o=>funext fun p=>funext fun q=>funext fun r=>funext fun s=>(Bh ..).trans (mW N F m o p q r s)):_)
def fA (a:LA) (h:Ah) (k:KF R):O R :=
 match a,h with
 | [(.imm v w 1 x t),(.imm y z 1 aa u)],[]=>(EE N v w x t y z aa u (Hh k))
 | _,_=>none
theorem kT:Ap N 213 @fA:=by
 intro R Q a h k j;unfold fA;split;exact Ax (kS ..) (kS ..) ⟨Lr N,I6 N,NE N,ip N,Zf N,jA N,Np N,D6 N,trivial⟩;exact A2
def uY:=Ay (kT N)
def uZ:=Cz (kT N)
end
end Gx

namespace Gx
open Go Go.Proofs
section
variable {R:Type}
def zu:List UInt8:=[0,1,2,2,3,3,3,3,4,4,4,4,4,4,4,4,5,5,5,5,5,5,5,5,5,5,5,5,5,5,5,5,6,6,6,6,6,6,6,6,6,6,6,6,6,6,6,6,6,6,6,6,6,6,6,6,6,6,6,6,6,6,6,6,7,7,7,7,7,7,7,7,7,7,7,7,7,7,7,7,7,7,7,7,7,7,7,7,7,7,7,7,7,7,7,7,7,7,7,7,7,7,7,7,7,7,7,7,7,7,7,7,7,7,7,7,7,7,7,7,7,7,7,7,7,7,7,7,8,8,8,8,8,8,8,8,8,8,8,8,8,8,8,8,8,8,8,8,8,8,8,8,8,8,8,8,8,8,8,8,8,8,8,8,8,8,8,8,8,8,8,8,8,8,8,8,8,8,8,8,8,8,8,8,8,8,8,8,8,8,8,8,8,8,8,8,8,8,8,8,8,8,8,8,8,8,8,8,8,8,8,8,8,8,8,8,8,8,8,8,8,8,8,8,8,8,8,8,8,8,8,8,8,8,8,8,8,8,8,8,8,8,8,8,8,8,8,8,8,8,8,8,8,8,8,8]
theorem xa:∀ i:Fin 256,0<i.1→2 ^ (zu.getD i.1 0).toNat≤2*i.1∧i.1<2 ^ (zu.getD i.1 0).toNat:=by decide +kernel
theorem fB {k y x m:Nat} (h:2 ^ k≤2*y∧y<2 ^ k) (b:y=x/2 ^ m):2 ^ (k+m)≤2*x∧x<2 ^ (k+m):=by
 have c:0<2 ^ m:=Nat.pow_pos (by omega)
 have d:x<2 ^ m*(y+1):=by rw[b];have:=Nat.div_add_mod x (2 ^ m);have:=Nat.mod_lt x c;rw[Nat.mul_add];omega
 have e:2 ^ m*y≤x:=by rw[b];exact Nat.mul_div_le x _
 have f:2 ^ m*(y+1)≤2 ^ m*2 ^ k:=Nat.mul_le_mul_left _ h.2
 have i:2 ^ m*2 ^ k≤2 ^ m*(2*y):=Nat.mul_le_mul_left _ h.1
 rw[Nat.pow_add,Nat.mul_comm (2 ^ k)]
 have j:2 ^ m*(2*y)=2*(2 ^ m*y):=by rw[Nat.mul_left_comm]
 omega
theorem yF {a:Nat} (h:a<256):IntKind.wrap .u8 (a:Int)=(a:Int):=by rw[wrap_u8];congr 1;omega
theorem yG {N:Nat} {a b:Nat} {K:Int→O R} (q:0<a) (s:a<65536) (t:b≤16):∃ k:Nat,2 ^ k≤2*a∧a<2 ^ k∧k≤16∧C7 N K (a:Int) (b:Int)=K ((b+k:Nat):Int):=by
 have small:∀ i:Nat,0<i→i<256→∃ k:Nat,(2 ^ k≤2*i∧i<2 ^ k)∧k≤8∧(zu.getD i 0).toNat=k:=by
  intro i j d
  have:=xa ⟨i,d⟩ j
  refine⟨_,this,?_,rfl⟩
  rcases Nat.lt_or_ge 8 (zu.getD i 0).toNat with h | h
  ·have l:=this.1
   have u:2 ^ 9≤2 ^ (zu.getD i 0).toNat:=Nat.pow_le_pow_right (by omega) h
   simp only at l
   omega
  ·exact h
 by_cases h:a≥256
 ·obtain⟨k,c,n,e⟩:=small (a/256) (by omega) (by omega)
  have f:=fB (m:=8) c (show a/256=a/2 ^ 8 by rfl)
  refine⟨k+8,f.1,f.2,by omega,?_⟩
  unfold C7
  rw[show decide (((a:Nat):Int)≥256)=true by simp;omega,ct,Lm a 8,show a/2 ^ 8=a/256 by rfl,yF (by omega),Ak (by omega),ct,Int.toNat_natCast]
  change K (IntKind.wrap .i64 (IntKind.wrap .i64 ((b:Int)+8)+IntKind.wrap .i64 (((zu.getD (a/256) 0).toNat:Nat):Int)))=_
  rw[e,i64 (a:=(b:Int)+8) (by omega),i64 (a:=(k:Int)) (by omega),i64 (by omega)]
  congr 1;omega
 ·obtain⟨k,c,n,e⟩:=small a (by omega) (by omega)
  refine⟨k,c.1,c.2,by omega,?_⟩
  unfold C7
  rw[show decide (((a:Nat):Int)≥256)=false by simp;omega,cf,yF (by omega),Ak (by omega),ct,Int.toNat_natCast]
  change K (IntKind.wrap .i64 ((b:Int)+IntKind.wrap .i64 (((zu.getD a 0).toNat:Nat):Int)))=_
  rw[e,i64 (a:=(k:Int)) (by omega),i64 (by omega)]
  congr 1
theorem rM {N:Nat} {c:Nat} {K:Int→O R} (l:0<c) (n:c<4294967296):∃ k:Nat,2 ^ k≤2*c∧c<2 ^ k∧k≤32∧Ey N (c:Int) K=K (k:Int):=by
 rw[Pp];unfold I7
 by_cases h:c≥65536
 ·obtain⟨k,e,f,j,d⟩:=yG (R:=R) (N:=N) (a:=c/65536) (b:=16) (K:=K) (by omega) (by omega) (by omega)
  have i:=fB (m:=16) ⟨e,f⟩ (show c/65536=c/2 ^ 16 by rfl)
  refine⟨k+16,i.1,i.2,by omega,?_⟩
  rw[show decide (((c:Nat):Int)≥65536)=true by simp;omega,ct,Lm c 16,show c/2 ^ 16=c/65536 by rfl]
  rw[Nat.add_comm k];exact d
 ·obtain⟨k,e,f,j,d⟩:=yG (R:=R) (N:=N) (a:=c) (b:=0) (K:=K) (by omega) (by omega) (by omega)
  refine⟨k,e,f,by omega,?_⟩
  rw[show decide (((c:Nat):Int)≥65536)=false by simp;omega,cf]
  rw[Nat.zero_add] at d;exact d
theorem tE {N:Nat} {c:Nat} (l:0<c) (m:c<4294967296):∃ s:Nat,s≤31∧2147483648≤c*2 ^ s∧c*2 ^ s<4294967296∧∀ K:Int→O R,Bg N (c:Int) K=K (s:Int):=by
 have key:∀ K:Int→O R,∃ s:Nat,(s≤31∧2147483648≤c*2 ^ s∧c*2 ^ s<4294967296)∧Bg N (c:Int) K=K (s:Int):=by
  intro K
  rw[G7];unfold Ev
  obtain⟨k,n,j,u,q⟩:=rM (R:=R) (N:=N) (K:=fun c=>K (IntKind.wrap .i64 ((32:Int) - c))) l m
  have e:2 ^ k*2 ^ (32 - k)=4294967296:=by rw[←Nat.pow_add,show k+(32 - k)=32 by omega]
  have v:1≤k:=by
   rcases Nat.eq_zero_or_pos k with h | h
   ·subst h;simp at j;omega
   ·exact h
  refine⟨32 - k,⟨by omega,?_,?_⟩,?_⟩
  ·have:=Nat.mul_le_mul_right (2 ^ (32 - k)) n
   rw[e,Nat.mul_assoc] at this;omega
  ·have:=(Nat.mul_lt_mul_right (show 0<2 ^ (32 - k) from Nat.pow_pos (by omega))).2 j
   rw[e] at this;exact this
  ·rw[q,i64 (by omega)];congr 1;omega
 obtain⟨s,d,_⟩:=key fun _=>none
 refine⟨s,d.1,d.2.1,d.2.2,fun K=>?_⟩
 obtain⟨b,t,e⟩:=key K
 have:b=s:=by
  rcases Nat.lt_trichotomy s b with h | h | h
  ·exfalso
   have f:2 ^ (s+1)≤2 ^ b:=Nat.pow_le_pow_right (by omega) h
   have i:=Nat.mul_le_mul_left c f
   rw[Nat.pow_succ,←Nat.mul_assoc] at i
   omega
  ·exact h.symm
  ·exfalso
   have f:2 ^ (b+1)≤2 ^ s:=Nat.pow_le_pow_right (by omega) h
   have i:=Nat.mul_le_mul_left c f
   rw[Nat.pow_succ,←Nat.mul_assoc] at i
   omega
 rw[e,this]
theorem mX {s:Nat} (h:s≤31):2 ^ s≤2147483648:=Nat.pow_le_pow_right (n:=2) (by omega) h
theorem w7 {x c s:Nat} (f:x<4294967296) (b:c<2 ^ s) (d:s≤31):Kx .u64 (c:Int) (IntKind.wrap .u64 ((IntKind.wrap .u64 (x:Int))*2 ^ (min (Int.toNat (s:Int)) 64)))=((x*2 ^ s+c:Nat):Int)∧x*2 ^ s+c<4294967296*2 ^ s:=by
 have i:=mX d
 have j:x*2 ^ s≤4294967295*2 ^ s:=Nat.mul_le_mul_right _ (by omega)
 have e:(x+1)*2 ^ s≤4294967296*2 ^ s:=Nat.mul_le_mul_right _ (by omega)
 rw[Nat.add_mul] at e
 refine⟨?_,by omega⟩
 rw[Ex (by omega),Int.toNat_natCast,Nat.min_eq_left (by omega),show(2:Int) ^ s=((2 ^ s:Nat):Int) by simp,dv,Ex (by omega),rD (by omega) (by omega),Nat.or_comm,VS b]
theorem RC {N:Nat} {a:List Nat} {t o:Bool} {s:Nat} (v:Ad a) (j:s≤31) (k:a.length≤1000000000000):∀ (m d b:Nat) (S:List Nat) (c:Nat),d+m=a.length→m<b→Ad S→S.length=a.length+1→uT S d→c<2 ^ s →
  val S+4294967296 ^ d*c=val (a.take d)*2 ^ s →
  ∃ S',Ad S'∧S'.length=a.length+1∧val S'=val a*2 ^ s∧∀ K:Nat→LA→O R,Ff N K (Ab a) a.length t o (s:Int) b (a.length+1) (c:Int) (a.length:Int) (d:Int) (Ab S)=K (a.length+1) (Ab S')
 | 0,d,b+1,S,c,z,_,hS,l,i,x,n=>by
  have q:d=a.length:=by omega
  subst q
  have L:=mX j
  rw[List.take_length] at n
  refine⟨S.set a.length c,Br hS (by omega) _,by simpa using l,by rw[N7 i (by omega),n],fun K=>?_⟩
  rw[Ff];unfold Lx
  rw[US (Nat.le_refl _),cf,Ak (by omega),ct,zH (by omega),ct,tB (by omega),yE]
 | m+1,d,b+1,S,c,z,A,hS,l,i,x,n=>by
  have f:d<a.length:=by omega
  have ad:=At v f
  obtain⟨B,C⟩:=w7 ad x j
  generalize u:a[d]*2 ^ s+c=w at *
  have y:0<2 ^ s:=Nat.pow_pos (by omega)
  have key:val (S.set d (w%4294967296))+4294967296 ^ (d+1)*(w/4294967296)=val (a.take (d+1))*2 ^ s:=by
   rw[N7 i (by omega),Aq f,Nat.pow_succ,Nat.add_mul,Nat.mul_assoc _ a[d]]
   have e:=H5 (4294967296 ^ d) w
   have M:4294967296 ^ d*w=4294967296 ^ d*(a[d]*2 ^ s)+4294967296 ^ d*c:=by rw[←u,Nat.mul_add]
   omega
  obtain⟨S',D,F,G,I⟩:=RC (t:=t) (o:=o) v j k m (d+1) b (S.set d (w%4294967296)) (w/4294967296) (by omega) (by omega) (Br hS (by omega) d) (by simpa using l) (T9 i) (Nat.div_lt_of_lt_mul C) key
  refine⟨S',D,F,G,fun K=>?_⟩
  rw[Ff];unfold Lx
  rw[NG f,ct,Ak f,ct,CG f,show decide (((s:Nat):Int)<0)=false by simp,cf,Ak (by omega),ct,jc (by omega),ct,B,VR,MU,DX,wS (by omega)]
  exact I K
theorem RD {N:Nat} {a:List Nat} {n:Nat} {t o:Bool} {s:Nat} (c:n=a.length) (d:Ad a) (e:s≤31) (b:fit a.length N) :
  ∃ S',Ad S'∧S'.length=a.length+1∧val S'=val a*2 ^ s∧∀ K:Nat→LA→O R,Km N (Ab a) n t o (s:Int) K=K (a.length+1) (Ab S'):=by
 subst c
 have l:=b.1;have m:=b.2
 obtain⟨S',f,i,j,k⟩:=RC (R:=R) (N:=N) (t:=t) (o:=o) d e (by omega) a.length 0 N (List.replicate (a.length+1) 0) 0 (by omega) (by omega) (Bq _) (by simp) (Hf _) (Nat.pow_pos (by omega)) (by rw[Cm];simp[val])
 refine⟨S',f,i,j,fun K=>?_⟩
 rw[D_];unfold Uc
 rw[zn (by omega),v6 (by omega),ct,Int.toNat_natCast,Bx]
 exact k K
end
end Gx

namespace Gx
open Go Go.Proofs
section
variable {R:Type}
theorem yH {P U Q:List Nat} {i:Nat} (h:i<U.length) {f:Int→O R}:F3 .u32 (List.drop (P.length+((Int.toNat (i:Int))*1)) (Ab (P++(U++Q)))) f=f (U[i]:Nat):=by
 rw[Int.toNat_natCast,Nat.mul_one,oP (by simp;omega)]
 congr 2
 rw[List.getElem_append_right (by omega)]
 simp only[Nat.add_sub_cancel_left]
 rw[List.getElem_append_left h]
theorem zI {P U Q:List Nat} {i:Nat} (h:i<U.length):((Nat.beq 1 1)&&((Nat.ble ((P.length+((Int.toNat (i:Int))*1))+1) (List.length (Ab (P++(U++Q)))))&&(!false)))=true:=by
 rw[A9,Int.toNat_natCast];simp;omega
theorem w8 {P U Q:List Nat} {i v:Nat} (h:i<U.length):List.set (Ab (P++(U++Q))) (P.length+((Int.toNat (i:Int))*1)) (.int .u32 (v:Int))=Ab (P++(U.set i v++Q)):=by
 rw[Int.toNat_natCast,Nat.mul_one,PQ,List.set_append_right _ _ (by omega),Nat.add_sub_cancel_left,List.set_append_left _ _ h]
theorem zc {P U Q:List Nat} {i:Nat} (h:i<U.length) {f:Int→O R}:F3 .u32 (List.drop (P.length+(i*1)) (Ab (P++(U++Q)))) f=f (U[i]:Nat):=by
 have:=yH (R:=R) (P:=P) (Q:=Q) (f:=f) h;rw[Int.toNat_natCast] at this;exact this
theorem RE {X:List Nat} {p g:Nat} (h:p<X.length):val ((X.set p g).take (p+1))=val (X.take p)+4294967296 ^ p*g:=by
 rw[Aq (by simpa using h),List.getElem_set_self,List.take_set_of_le (Nat.le_refl _)]
theorem Xm {X:List Nat} {n:Nat} (h:X.length=n+1):val X=val (X.take n)+4294967296 ^ n*X[n]:=by
 have:=Aq (l:=X) (c:=n) (by omega)
 rwa [List.take_of_length_le (by omega)] at this
theorem tF {D:Nat} (h:1≤D) (b:D<18446744073709551616):IntKind.wrap .u64 ((D:Int) - 1)=((D - 1:Nat):Int):=by rw[DI];omega
theorem xb {D y t:Nat} (hD:D<4294967296) (b:y<4294967296) (c:t≤4294967296):D*y+t<18446744073709551616∧(D*y+t)/4294967296+1≤4294967296:=by
 have:D*y≤4294967295*4294967295:=Nat.mul_le_mul (by omega) (by omega)
 omega
theorem tG {N:Nat} {P Q X v:List Nat} {n D:Nat} {f g:Bool} (L:Ad v) (M:v.length=n) (hX:Ad X) (hXl:X.length=n+1) (T:n≤1000000000000) (hD:D<4294967296) (hD1:1≤D) {r:Nat} (U:val X+val v=4294967296 ^ (n+1)+r) (u:r<4294967296 ^ n) :
  ∀ (m o b:Nat) (Y:List Nat) (c:Nat),o+m=n→m<b→Ad Y→Y.length=n+1→(∀ j (z:j<Y.length) (A:j<X.length),o≤j→Y[j]=X[j])→c≤1→val (Y.take o)+4294967296 ^ o*c=val (X.take o)+val (v.take o) →
  ∃ Y',Ad Y'∧Y'.length=n+1∧val Y'=r∧∀ K:Int→LA→O R,Ez N K P.length (n+1) (n:Int) (D:Int) (Ab v) n f g b (c:Int) (n:Int) (o:Int) (Ab (P++(Y++Q)))=K ((D - 1:Nat):Int) (Ab (P++(Y'++Q)))
 | 0,o,b+1,Y,c,V,_,hY,hYl,i,hc,k=>by
  have B:o=n:=by omega
  subst B
  rw[show v.take o=v by rw[←M];exact List.take_length] at k
  have e1:=Xm hXl
  have eq:val (Y.take o)+4294967296 ^ o*(X[o]+c)=4294967296 ^ o*4294967296+r:=by
   rw[Nat.mul_add,←Nat.pow_succ];omega
  have yt:=Bb (Bn hY o)
  rw[List.length_take,Nat.min_eq_left (by omega)] at yt
  have hP:0<4294967296 ^ o:=Nat.pow_pos (by omega)
  have S:X[o]+c=4294967296:=by
   have z:(val (Y.take o)+4294967296 ^ o*(X[o]+c))/4294967296 ^ o=X[o]+c:=by rw[Nat.add_mul_div_left _ _ hP,Nat.div_eq_of_lt yt,Nat.zero_add]
   have A:(4294967296 ^ o*4294967296+r)/4294967296 ^ o=4294967296:=by rw[Nat.mul_add_div hP,Nat.div_eq_of_lt u,Nat.add_zero]
   rw[←z,eq,A]
  have C:val (Y.take o)=r:=by rw[S] at eq;omega
  have q:Y[o]=X[o]:=i o (by omega) (by omega) (Nat.le_refl _)
  have F:(Y.set o 0).length=o+1:=by simpa using hYl
  refine⟨Y.set o 0,Br hY (by omega) o,F,?_,fun K=>?_⟩
  ·have:=RE (X:=Y) (p:=o) (g:=0) (by omega)
   rw[List.take_of_length_le (by omega),C] at this;simpa using this
  ·rw[Ez];unfold I9
   have hXo:=At hX (show o<X.length by omega)
   rw[US (Nat.le_refl _),cf,Ak (by omega),ct,yH (by omega),ct,zI (by omega),ct,q,tB (show c<4294967296 by omega),Vr,S,MU,w8 (by omega),tF hD1 (by omega),tB (by omega)]
 | m+1,o,b+1,Y,c,V,hfu,hY,hYl,i,hc,k=>by
  have x:o<n:=by omega
  have t:o<v.length:=by omega
  have vo:=At L t
  have d:o<Y.length:=by omega
  have yo:=At hY d
  have q:Y[o]=X[o]:=i o (by omega) (by omega) (Nat.le_refl _)
  have G:c+(Y[o]+v[o])<18446744073709551616:=by omega
  have I:(c+(Y[o]+v[o]))/4294967296≤1:=by omega
  generalize y:c+(Y[o]+v[o])=s at *
  have key:val ((Y.set o (s%4294967296)).take (o+1))+4294967296 ^ (o+1)*(s/4294967296)=val (X.take (o+1))+val (v.take (o+1)):=by
   rw[RE d,Aq (l:=X) (by omega),Aq t,Nat.pow_succ]
   have e:=H5 (4294967296 ^ o) s
   have e2:4294967296 ^ o*s=4294967296 ^ o*c+(4294967296 ^ o*X[o]+4294967296 ^ o*v[o]):=by rw[←y,Nat.mul_add,Nat.mul_add,q]
   omega
  obtain⟨Y',q1,q2,q3,q4⟩:=tG (N:=N) (P:=P) (Q:=Q) (f:=f) (g:=g) L M hX hXl T hD hD1 U u m (o+1) b (Y.set o (s%4294967296)) (s/4294967296) (by omega) (by omega) (Br hY (by omega) o) (by simpa using hYl) (fun j z A hj=>by rw[List.getElem_set,if_neg (by omega)];exact i j (by simpa using z) A (by omega)) I key
  refine⟨Y',q1,q2,q3,fun K=>?_⟩
  rw[Ez];unfold I9
  rw[NG x,ct,Ak x,ct,CG t,Ak (by omega),ct,yH d,ct,zI d,ct,Ex (show v[o]<18446744073709551616 by omega),Ex (show Y[o]<18446744073709551616 by omega),Vr,Ex (by omega),Vr,y,Ex G,VR,MU,w8 d,wS (by omega)]
  exact q4 K
theorem w9 {N:Nat} {P Q U v:List Nat} {n D:Nat} {f g:Bool} (A:Ad v) (B:v.length=n) (hU:Ad U) (hUl:U.length=n+1) (hs:n≤1000000000000) (hN:n+2<N) (hD:D<4294967296) (u:0<val v) (G:val U/val v≤D) (I:D≤val U/val v+1) :
  ∀ (m p b:Nat) (X:List Nat) (t:Nat),p+m=n→m<b→Ad X→X.length=n+1→(∀ j (h1:j<X.length) (h2:j<U.length),p≤j→X[j]=U[j])→t≤4294967296→val (X.take p)+D*val (v.take p)=val (U.take p)+4294967296 ^ p*t →
  ∃ X',Ad X'∧X'.length=n+1∧val X'=val U%val v∧∀ K:Int→LA→O R,Dq N K P.length (n+1) (Ab v) n f g (n:Int) (D:Int) b (t:Int) (n:Int) (p:Int) (Ab (P++(X++Q)))=K ((val U/val v:Nat):Int) (Ab (P++(X'++Q)))
 | 0,p,b+1,X,t,hp,_,hX,hXl,i,L,s=>by
  have M:p=n:=by omega
  subst M
  rw[show v.take p=v by rw[←B];exact List.take_length] at s
  have hXp:X[p]=U[p]:=i p (by omega) (by omega) (Nat.le_refl _)
  have up:=At hU (show p<U.length by omega)
  obtain⟨d,c,S,g2,T,C,F⟩:=HI up L
  have k:(X.set p d).length=p+1:=by simpa using hXl
  have hX2:=Br hX S p
  have V:val (X.set p d)=val (X.take p)+4294967296 ^ p*d:=by
   have:=RE (X:=X) (p:=p) (g:=d) (by omega)
   rwa [List.take_of_length_le (by omega)] at this
  have eU:=Xm hUl
  have main:val (X.set p d)+D*val v=val U+4294967296 ^ (p+1)*c:=by
   have e:4294967296 ^ p*(U[p]+4294967296*c)=4294967296 ^ p*(d+t):=by rw[T]
   rw[Nat.mul_add,Nat.mul_add,←Nat.mul_assoc] at e
   rw[V,eU,Nat.pow_succ];omega
  have hlt:=Bb hX2
  rw[k] at hlt
  have hdm:=Nat.div_add_mod (val U) (val v)
  have hmod:=Nat.mod_lt (val U) u
  have vlt:=Bb A
  rw[B] at vlt
  by_cases hc:c=0
  ·subst hc
   have hDq:D=val U/val v:=by
    have:D≤val U/val v:=by rw[Nat.le_div_iff_mul_le u];omega
    omega
   refine⟨X.set p d,hX2,k,?_,fun K=>?_⟩
   ·rw[hDq,Nat.mul_comm] at main;omega
   ·rw[Dq];unfold Fw
    rw[US (Nat.le_refl _),cf,Ak (by omega),ct,yH (by omega),ct,zI (by omega),ct,hXp,Ex (show U[p]<18446744073709551616 by omega),C,F,show(((0:Nat):Int)==0)=true by rfl,ct,tB hD,w8 (by omega),hDq]
  ·have hc1:c=1:=by omega
   subst hc1
   have hDq:D=val U/val v+1:=by
    have:¬ D≤val U/val v:=fun h=>by
     have:=Nat.mul_le_mul_left (val v) h
     rw[Nat.mul_comm] at this
     omega
    omega
   have hr:val (X.set p d)+val v=4294967296 ^ (p+1)+val U%val v:=by
    rw[hDq,Nat.add_mul,Nat.mul_comm (val U/val v)] at main;omega
   obtain⟨Y',q1,q2,q3,q4⟩:=tG (R:=R) (N:=N) (P:=P) (Q:=Q) (f:=f) (g:=g) (X:=X.set p d) A B hX2 k hs hD (by rw[hDq];exact Nat.le_add_left 1 _) hr (by omega) p 0 N (X.set p d) 0 (by omega) (by omega) hX2 k (fun _ _ _ _=>rfl) (by omega) (by simp[val])
   refine⟨Y',q1,q2,q3,fun K=>?_⟩
   rw[Dq];unfold Fw
   rw[US (Nat.le_refl _),cf,Ak (by omega),ct,yH (by omega),ct,zI (by omega),ct,hXp,Ex (show U[p]<18446744073709551616 by omega),C,F,show(((1:Nat):Int)==0)=false by rfl,cf,w8 (by omega)]
   have:=q4 K
   rw[show D - 1=val U/val v by rw[hDq];rfl] at this
   exact this
 | m+1,p,b+1,X,t,hp,hfu,hX,hXl,i,L,s=>by
  have y:p<n:=by omega
  have x:p<v.length:=by omega
  have vp:=At A x
  have q:p<X.length:=by omega
  have hXp:X[p]=U[p]:=i p (by omega) (by omega) (Nat.le_refl _)
  have up:=At hU (show p<U.length by omega)
  obtain⟨hw1,hw2⟩:=xb hD vp L
  have hDv:D*v[p]<18446744073709551616:=by omega
  generalize z:D*v[p]+t=w at *
  obtain⟨d,c,S,g2,T,C,F⟩:=HI up (show w%4294967296≤4294967296 by omega)
  have key:val ((X.set p d).take (p+1))+D*val (v.take (p+1))=val (U.take (p+1))+4294967296 ^ (p+1)*(w/4294967296+c):=by
   rw[RE q,Aq x,Aq (l:=U) (by omega),Nat.pow_succ]
   have e:=H5 (4294967296 ^ p) w
   have e2:4294967296 ^ p*w=4294967296 ^ p*(D*v[p])+4294967296 ^ p*t:=by rw[←z,Nat.mul_add]
   have e3:4294967296 ^ p*(U[p]+4294967296*c)=4294967296 ^ p*(d+w%4294967296):=by rw[T]
   rw[Nat.mul_add,Nat.mul_add,←Nat.mul_assoc] at e3
   have e4:D*(val (v.take p)+4294967296 ^ p*v[p])=D*val (v.take p)+4294967296 ^ p*(D*v[p]):=by rw[Nat.mul_add,Nat.mul_left_comm]
   rw[e4,Nat.mul_add]
   omega
  obtain⟨X',q1,q2,q3,q4⟩:=w9 (N:=N) (P:=P) (Q:=Q) (f:=f) (g:=g) A B hU hUl hs hN hD u G I m (p+1) b (X.set p d) (w/4294967296+c) (by omega) (by omega) (Br hX S p) (by simpa using hXl) (fun j h1 h2 hj=>by rw[List.getElem_set,if_neg (by omega)];exact i j (by simpa using h1) h2 (by omega)) (by omega) key
  refine⟨X',q1,q2,q3,fun K=>?_⟩
  rw[Dq];unfold Fw
  rw[NG y,ct,Ak y,ct,CG x,Ak (by omega),ct,yH q,ct,zI q,ct,hXp,Ex (show v[p]<18446744073709551616 by omega),dv,Ex hDv,Vr,z,Ex hw1,MU,Ex (show w%4294967296<18446744073709551616 by omega),Ex (show U[p]<18446744073709551616 by omega),C,F,VR,Vr,Ex (by omega),w8 q,wS (by omega)]
  exact q4 K
end
end Gx

namespace Gx
open Go Go.Proofs
section
variable {R:Type}
theorem JR (a b:Nat):Int.tdiv (a:Int) (b:Int)=((a/b:Nat):Int):=rfl
theorem EF (a b:Nat):Int.tmod (a:Int) (b:Int)=((a%b:Nat):Int):=rfl
theorem yI {l:Nat} (h:l<4294967296):(((Int.fdiv (l:Int) (2 ^ 32)) != (0:Int)))=false:=by rw[VR,Nat.div_eq_of_lt h];rfl
theorem yJ {l:Nat} (h:4294967296≤l):(((Int.fdiv (l:Int) (2 ^ 32)) != (0:Int)))=true:=by
 have b:l/4294967296≠0:=by omega
 rw[VR];rw[bne_iff_ne];omega
theorem y7 {a b:Nat} (c:a<4294967296) (d:b<4294967296):Kx .u64 (IntKind.wrap .u64 ((a:Int)*2 ^ 32)) (b:Int)=((a*4294967296+b:Nat):Int):=by
 rw[show(2:Int) ^ 32=((2 ^ 32:Nat):Int) by rfl,dv,Ex (by omega),rD (by omega) (by omega),VS (by omega)]
theorem y8 {B l v1 v2 m u2:Nat} (h:m*B+u2<l*v2):(l*v1+m)*B+u2<l*(v1*B+v2):=by rw[Nat.add_mul,Nat.mul_add,←Nat.mul_assoc l v1];omega
theorem y9 {B l v1 v2 m u2:Nat} (h:l*v2≤m*B+u2):l*(v1*B+v2)≤(l*v1+m)*B+u2:=by rw[Nat.add_mul,Nat.mul_add,←Nat.mul_assoc l v1];omega
theorem y_ {B u0 u1 u2 v1 v2:Nat} (b:v2<B) (h:(u0*B+u1)*B+u2<(v1*B+v2+1)*B):u0*B+u1<v1*B+B:=by
 have:u0*B+u1<v1*B+v2+1:=Nat.lt_of_mul_lt_mul_right (Nat.lt_of_le_of_lt (Nat.le_add_right _ u2) h)
 omega
theorem zA (P x:Nat):P*4294967296*x=P*(x*4294967296):=by rw[Nat.mul_assoc,Nat.mul_comm 4294967296]
theorem w_ {N:Nat} {P Q U v:List Nat} {n:Nat} {f g:Bool} {K:Int→LA→O R} (hn:v.length=n+2) (G:Ad v) (hU:Ad U) (hUl:U.length=n+3) (hs:n≤1000000000000) {v1 v2 u2 top:Nat}
  (I:v[n+1]'(by omega)=v1) (L:v[n]'(by omega)=v2) (M:U[n]'(by omega)=u2) (z:2147483648≤v1) (S:top<v1*4294967296+4294967296)
  (hV:(v1*4294967296+v2)*4294967296 ^ n≤val v) (hV':val v<(v1*4294967296+v2+1)*4294967296 ^ n) (hUU:(top*4294967296+u2)*4294967296 ^ n≤val U) (hUU':val U<(top*4294967296+u2+1)*4294967296 ^ n) (hq:val U/val v<4294967296) :
  ∀ (k b l m:Nat),k<b→4294967296≤m+k*2147483648→m<4294967296→l*v1+m=top→val U/val v≤l→∃ D,D<4294967296∧val U/val v≤D∧D≤val U/val v+1 ∧
   C1 N K P.length (n+3) (Ab v) (n+2) f g (Ab (P++(U++Q))) b ((n+2:Nat):Int) (l:Int) (m:Int)=C0 N K P.length (n+3) (Ab v) (n+2) f g ((n+2:Nat):Int) (Ab (P++(U++Q))) (D:Int):=by
 have X:=At G (show n+1<v.length by omega)
 have Y:=At G (show n<v.length by omega)
 have T:=At hU (show n<U.length by omega)
 rw[I] at X;rw[L] at Y;rw[M] at T
 have hP:0<4294967296 ^ n:=Nat.pow_pos (by omega)
 have j:0<val v:=Nat.lt_of_lt_of_le (Nat.mul_pos (by omega) hP) hV
 intro k
 induction k with
 | zero=>intro b l m _ h1 h2;omega
 | succ k ih =>
  intro b l m hf hm A t B
  obtain⟨b,rfl⟩:∃ F,b=F+1:=⟨b - 1,by omega⟩
  generalize s:val U/val v=q at *
  have wi1:IntKind.wrap .i64 (((n+2:Nat):Int) - 1)=((n+1:Nat):Int):=by rw[i64 (by omega)];omega
  have wi2:IntKind.wrap .i64 (((n+2:Nat):Int) - 2)=((n:Nat):Int):=by rw[i64 (by omega)];omega
  have lower:q<l→l<18446744073709551616→∃ D,D<4294967296∧q≤D∧D≤q+1 ∧
    G9 N (C1 N K P.length (n+3) (Ab v) (n+2) f g (Ab (P++(U++Q))) b) K P.length (n+3) (Ab v) (n+2) f g ((n+2:Nat):Int) (l:Int) (m:Int) (Ab (P++(U++Q)))=C0 N K P.length (n+3) (Ab v) (n+2) f g ((n+2:Nat):Int) (Ab (P++(U++Q))) (D:Int):=by
   intro hlt c
   have i:(l - 1)*v1+(m+v1)=top:=by
    have:l*v1=(l - 1)*v1+v1:=by
     obtain⟨V,rfl⟩:∃ V,l=V+1:=⟨l - 1,by omega⟩
     rw[Nat.add_mul];simp
    omega
   unfold G9 Nv
   rw[wi1,Ak (by omega),ct,CG (show n+1<v.length by omega),I,Ex (show v1<18446744073709551616 by omega),Vr,Ex (show m+v1<18446744073709551616 by omega),tF (by omega) c]
   by_cases u:4294967296≤m+v1
   ·have hDB:l - 1<4294967296:=by
     apply Nat.lt_of_not_le;intro C
     have:=Nat.mul_le_mul_right v1 C
     rw[Nat.mul_comm 4294967296] at this
     omega
    have d:(l - 1)*(v1*4294967296+v2)≤top*4294967296+u2:=by
     have x1:(l - 1)*v2≤4294967295*4294967295:=Nat.mul_le_mul (by omega) (by omega)
     rw[←i,Nat.add_mul,Nat.mul_add,←Nat.mul_assoc]
     omega
    have e:=jl hV' hUU d (by omega) j
    rw[s] at e
    exact⟨l - 1,hDB,by omega,e,by rw[yJ u,ct]⟩
   ·obtain⟨D,d1,d2,d3,d4⟩:=ih b (l - 1) (m+v1) (by omega) (by omega) (by omega) i (by omega)
    exact⟨D,d1,d2,d3,by rw[yI (by omega),cf,d4]⟩
  rw[C1];unfold Nw
  by_cases hlB:l<4294967296
  ·rw[yI hlB,show((false:Bool)==false)=true by rfl,ct,wi2,Ak (by omega),ct,CG (show n<v.length by omega),Ak (by omega),ct,yH (show n<U.length by omega),zm,L,M,Ex (show v2<18446744073709551616 by omega),Ex (show u2<18446744073709551616 by omega),dv]
   have x1:l*v2≤4294967295*4294967295:=Nat.mul_le_mul (by omega) (by omega)
   rw[Ex (show l*v2<18446744073709551616 by omega),y7 A T]
   by_cases x:m*4294967296+u2<l*v2
   ·rw[show decide (((l*v2:Nat):Int)>((m*4294967296+u2:Nat):Int))=true by rw[decide_eq_true_eq];omega,ct]
    have y:val U/val v<l:=jk hV hUU' (by rw[←t];exact y8 x) j
    rw[s] at y
    exact lower y (by omega)
   ·rw[show decide (((l*v2:Nat):Int)>((m*4294967296+u2:Nat):Int))=false by rw[decide_eq_false_iff_not];omega,cf]
    have d:l*(v1*4294967296+v2)≤top*4294967296+u2:=by
     rw[←t];exact y9 (Nat.le_of_not_lt x)
    have e:=jl hV' hUU d (by omega) j
    rw[s] at e
    exact⟨l,hlB,B,e,rfl⟩
  ·rw[yJ (by omega),show((true:Bool)==false)=false by rfl,cf]
   have c:l<18446744073709551616:=by
    have:l*2147483648≤l*v1:=Nat.mul_le_mul_left _ z
    omega
   exact lower (by omega) c
theorem fC {N:Nat} {P Q U v:List Nat} {n:Nat} {f g:Bool} (F:v.length=n+2) (j:Ad v) (hU:Ad U) (hUl:U.length=n+3) (hs:n≤1000000000) (hN:n+8<N) (y:2147483648≤v[n+1]'(by omega)) (z:val U<val v*4294967296) :
  ∃ U',Ad U'∧U'.length=n+3∧val U'=val U%val v∧∀ K:Int→LA→O R,Gs N P.length (n+3) (Ab v) (n+2) f g (Ab (P++(U++Q))) K=K ((val U/val v:Nat):Int) (Ab (P++(U'++Q))):=by
 have b1:=At j (show n+1<v.length by omega)
 have L:=At j (show n<v.length by omega)
 have b3:=At hU (show n<U.length by omega)
 have M:=At hU (show n+1<U.length by omega)
 have S:=At hU (show n+2<U.length by omega)
 have hP:0<4294967296 ^ n:=Nat.pow_pos (by omega)
 have vv:val v=val (v.take n)+4294967296 ^ n*(v[n+1]'(by omega)*4294967296+v[n]'(by omega)):=by
  have b:=Aq (l:=v) (c:=n+1) (by omega)
  have d:=Aq (l:=v) (c:=n) (by omega)
  rw[List.take_of_length_le (by omega)] at b
  rw[b,d,Nat.pow_succ,Nat.mul_add,Nat.mul_assoc,Nat.mul_comm 4294967296 v[n+1]];omega
 have uu:val U=val (U.take n)+4294967296 ^ n*((U[n+2]'(by omega)*4294967296+U[n+1]'(by omega))*4294967296+U[n]'(by omega)):=by
  have G:=Aq (l:=U) (c:=n+2) (by omega)
  have b:=Aq (l:=U) (c:=n+1) (by omega)
  have d:=Aq (l:=U) (c:=n) (by omega)
  rw[List.take_of_length_le (by omega)] at G
  have x1:4294967296 ^ (n+2)*U[n+2]=4294967296 ^ n*(U[n+2]*4294967296*4294967296):=by rw[Nat.pow_succ (n:=4294967296) (m:=n+1),Nat.pow_succ,zA,zA]
  have x2:4294967296 ^ (n+1)*U[n+1]=4294967296 ^ n*(U[n+1]*4294967296):=by rw[Nat.pow_succ,zA]
  rw[G,b,d,x1,x2,Nat.add_mul,Nat.mul_add,Nat.mul_add];omega
 have tv:=Bb (Bn j n)
 have tu:=Bb (Bn hU n)
 rw[List.length_take,Nat.min_eq_left (by omega)] at tv tu
 generalize A:v[n+1]'(by omega)=v1 at *
 generalize T:v[n]'(by omega)=v2 at *
 generalize V:U[n]'(by omega)=u2 at *
 generalize Y:U[n+1]'(by omega)=u1 at *
 generalize e5:U[n+2]'(by omega)=u0 at *
 have k:0<val v:=by
  have:0<4294967296 ^ n*(v1*4294967296+v2):=Nat.mul_pos hP (by omega)
  omega
 have hV:(v1*4294967296+v2)*4294967296 ^ n≤val v:=by rw[Nat.mul_comm];omega
 have hV':val v<(v1*4294967296+v2+1)*4294967296 ^ n:=by rw[Nat.mul_comm,Nat.mul_add];omega
 have hUU:((u0*4294967296+u1)*4294967296+u2)*4294967296 ^ n≤val U:=by rw[Nat.mul_comm];omega
 have hUU':val U<((u0*4294967296+u1)*4294967296+u2+1)*4294967296 ^ n:=by rw[Nat.mul_comm,Nat.mul_add];omega
 have hq:val U/val v<4294967296:=Nat.div_lt_of_lt_mul z
 have e:u0*4294967296+u1<v1*4294967296+4294967296:=by
  have b:((u0*4294967296+u1)*4294967296+u2)*4294967296 ^ n<(v1*4294967296+v2+1)*4294967296 ^ n*4294967296:=by
   have:=(Nat.mul_lt_mul_right (show 0<4294967296 by omega)).2 hV'
   omega
  rw[Nat.mul_right_comm] at b
  exact y_ L (Nat.lt_of_mul_lt_mul_right b)
 obtain⟨top,s⟩:∃ top,u0*4294967296+u1=top:=⟨_,rfl⟩
 rw[s] at hUU hUU' e
 have B:=Nat.div_add_mod top v1
 have I:=Nat.mod_lt top (show 0<v1 by omega)
 have C:val U/val v≤top/v1:=by
  have b:val U/val v<top/v1+1:=by
   apply jk hV hUU' _ k
   have d:top<v1*(top/v1+1):=by rw[Nat.mul_add];omega
   have h3:(top+1)*4294967296≤v1*(top/v1+1)*4294967296:=Nat.mul_le_mul_right _ d
   rw[Nat.mul_add,←Nat.mul_assoc,Nat.mul_comm _ v1]
   omega
  omega
 have key:∀ K:Int→LA→O R,∃ D,D<4294967296∧val U/val v≤D∧D≤val U/val v+1∧Gs N P.length (n+3) (Ab v) (n+2) f g (Ab (P++(U++Q))) K=C0 N K P.length (n+3) (Ab v) (n+2) f g ((n+2:Nat):Int) (Ab (P++(U++Q))) (D:Int):=by
  intro K
  obtain⟨D,t,u,x,i⟩:=w_ (R:=R) (N:=N) (P:=P) (Q:=Q) (f:=f) (g:=g) (K:=K) F j hU hUl (by omega) A T V y e hV hV' hUU hUU' hq 2 N (top/v1) (top%v1) (by omega) (by omega) (by omega) (by rw[Nat.mul_comm];exact B) C
  refine⟨D,t,u,x,?_⟩
  rw[←i,Xe];unfold N9
  have wi1:IntKind.wrap .i64 (((n+2:Nat):Int) - 1)=((n+1:Nat):Int):=by rw[i64 (by omega)];omega
  rw[Ak (by omega),ct,zc (show n+2<U.length by omega),wi1,Ak (by omega),ct,yH (show n+1<U.length by omega),Ak (by omega),ct,CG (show n+1<v.length by omega),A,Y,e5,Ex (show v1<18446744073709551616 by omega),cx (by omega),cf,ct,CG (show n+1<v.length by omega),A,Ex (show v1<18446744073709551616 by omega),cx (by omega),cf,Ex (show u0<18446744073709551616 by omega),Ex (show u1<18446744073709551616 by omega),y7 S M,s,JR,EF,Ex (show top/v1<18446744073709551616 from Nat.lt_of_le_of_lt (Nat.div_le_self _ _) (by omega))]
 have fin:∀ D,D<4294967296→val U/val v≤D→D≤val U/val v+1→∃ U',Ad U'∧U'.length=n+3∧val U'=val U%val v∧∀ K:Int→LA→O R,C0 N K P.length (n+3) (Ab v) (n+2) f g ((n+2:Nat):Int) (Ab (P++(U++Q))) (D:Int)=K ((val U/val v:Nat):Int) (Ab (P++(U'++Q))):=by
  intro D t u x
  obtain⟨X',q1,q2,q3,q4⟩:=w9 (R:=R) (N:=N) (P:=P) (Q:=Q) (U:=U) (v:=v) (n:=n+2) (D:=D) (f:=f) (g:=g) j F hU hUl (by omega) (by omega) t k u x (n+2) 0 N U 0 (by omega) (by omega) hU hUl (fun _ _ _ _=>rfl) (by omega) (by simp[val])
  exact⟨X',q1,q2,q3,fun K=>by unfold C0 Nu;exact q4 K⟩
 by_cases hz:val U/val v+1<4294967296
 ·obtain⟨U1,a1,a2,a3,a4⟩:=fin (val U/val v) hq (Nat.le_refl _) (by omega)
  obtain⟨U2,c1,c2,c3,c4⟩:=fin (val U/val v+1) hz (by omega) (Nat.le_refl _)
  have:U1=U2:=by
   have b:=(Au a1).1;have d:=(Au c1).1
   rw[a3] at b;rw[c3] at d;rw[b,d,a2,c2]
  subst this
  refine⟨U1,a1,a2,a3,fun K=>?_⟩
  obtain⟨D,t,u,x,i⟩:=key K
  have:D=val U/val v∨D=val U/val v+1:=by
   generalize val U/val v=q at *;omega
  rcases this with rfl | rfl
  ·rw[i,a4 K]
  ·rw[i,c4 K]
 ·obtain⟨U1,a1,a2,a3,a4⟩:=fin (val U/val v) hq (Nat.le_refl _) (by omega)
  refine⟨U1,a1,a2,a3,fun K=>?_⟩
  obtain⟨D,t,u,x,i⟩:=key K
  have:D=val U/val v:=by
   generalize val U/val v=q at *;omega
  subst this
  rw[i,a4 K]
end
end Gx

namespace Gx
open Go Go.Proofs
section
variable {R:Type}
theorem EG {l:List Nat} {d:Nat} (h:d<l.length):val (l.drop d)=l[d]+4294967296*val (l.drop (d+1)):=by
 rw[List.drop_eq_getElem_cons h,val]
theorem oc {S:List Nat} {d v:Nat} (h:d<S.length):(S.set d v).drop d=v::S.drop (d+1):=by
 rw[List.drop_eq_getElem_cons (by simpa using h),List.getElem_set_self,List.drop_set_of_lt (by omega)]
theorem ZH {N:Nat} {a:List Nat} {t o:Bool} {b:Nat} (q:Ad a) (f:0<b) (x:b<4294967296) (i:fit a.length N):∀ (c d:Nat) (S:List Nat) (r:Nat),c<d→c≤a.length→Ad S→S.length=a.length→r<b→val (S.drop c)*b+r=val (a.drop c) →
  ∃ S' S2,Ad S'∧val S'=val a/b∧Ad S2∧val S2=val a%b∧∀ K:Nat→Nat→LA→LA→O R,Cd N K (Ab a) a.length t o (b:Int) d (r:Int) ((c:Int) - 1) (Ab S)=K (Ae (val a/b)).length (Ae (val a%b)).length (Ab S') (Ab S2)
 | 0,d+1,S,r,_,_,hS,l,m,j=>by
  have y:=i.1
  rw[List.drop_zero,List.drop_zero] at j
  have hq:val a/b=val S:=by
   rw[←j,Nat.mul_comm,Nat.mul_add_div f,Nat.div_eq_of_lt m,Nat.add_zero]
  have s:val a%b=r:=by rw[←j,Nat.mul_comm,Nat.mul_add_mod,Nat.mod_eq_of_lt m]
  obtain⟨S2,s1,s2,z⟩:=Gp (R:=R) (N:=N) (v:=r) (by omega) (by omega)
  refine⟨S,S2,hS,hq.symm,s1,by rw[s,s2],fun K=>?_⟩
  rw[Cd];unfold Fq
  rw[show decide ((((0:Nat):Int) - 1)≥0)=false by simp,cf,W7 l.symm hS (by rw[l];exact i),z,hq,s]
 | c+1,d+1,S,r,A,L,hS,l,m,j=>by
  have y:=i.1;have M:=i.2
  have e:c<a.length:=by omega
  have ac:=At q e
  have hrB:r<4294967296:=by omega
  have u:r*4294967296+a[c]<b*4294967296:=by
   have:(r+1)*4294967296≤b*4294967296:=Nat.mul_le_mul_right _ m
   rw[Nat.add_mul] at this;omega
  have n:r*4294967296+a[c]<18446744073709551616:=by omega
  obtain⟨w,k⟩:∃ w,r*4294967296+a[c]=w:=⟨_,rfl⟩
  rw[k] at u n
  have hqB:w/b<4294967296:=Nat.div_lt_of_lt_mul u
  have B:=Nat.div_add_mod w b
  obtain⟨S',S2,C,D,F,G,I⟩:=ZH (t:=t) (o:=o) q f x i c d (S.set c (w/b)) (w%b) (by omega) (by omega) (Br hS hqB c) (by simpa using l) (Nat.mod_lt _ f) (by
   rw[oc (by omega),val,EG e,Nat.add_mul,Nat.mul_assoc,←j,Nat.mul_add,Nat.mul_comm (w/b)]
   omega)
  refine⟨S',S2,C,D,F,G,fun K=>?_⟩
  rw[Cd];unfold Fq
  rw[show(((c+1:Nat):Int) - 1)=(c:Int) by omega,show decide ((c:Int)≥0)=true by simp,ct,Ak e,ct,CG e,Ex (show b<18446744073709551616 by omega),cx (by omega),cf,ct,jc (by omega),ct,cf,Ex (show a[c]<18446744073709551616 by omega),y7 hrB ac,k,JR,EF,Ex (show w/b<18446744073709551616 by omega),tB hqB,DX,i64 (by omega)]
  exact I K
theorem od {N:Nat} {a:List Nat} {n:Nat} {t o:Bool} {b:Nat} (e:n=a.length) (f:Ad a) (c:0<b) (i:b<4294967296) (d:fit a.length N) :
  ∃ S' S2,Ad S'∧val S'=val a/b∧Ad S2∧val S2=val a%b∧∀ K:Nat→Nat→LA→LA→O R,Dp N (Ab a) n t o (b:Int) K=K (Ae (val a/b)).length (Ae (val a%b)).length (Ab S') (Ab S2):=by
 subst e
 have s:=d.1;have u:=d.2
 obtain⟨S',S2,j,k,l,m,q⟩:=ZH (R:=R) (t:=t) (o:=o) f c i d a.length N (List.replicate a.length 0) 0 (by omega) (Nat.le_refl _) (Bq _) (by simp) c (by rw[List.drop_eq_nil_of_le (by simp),List.drop_eq_nil_of_le (by simp)];simp[val])
 refine⟨S',S2,j,k,l,m,fun K=>?_⟩
 rw[Pr];unfold I8
 rw[v6 (by omega),ct,i64 (by omega),Bx]
 exact q K
theorem wc {x V s:Nat} (f:x<4294967296) (i:s≤31):(x+4294967296*V)/2 ^ s=(x+4294967296*(V%4294967296))/2 ^ s%4294967296+4294967296*(V/2 ^ s):=by
 have b:0<2 ^ s:=Nat.pow_pos (by omega)
 have d:2 ^ s∣4294967296:=⟨2 ^ (32 - s),by rw[←Nat.pow_add,show s+(32 - s)=32 by omega]⟩
 have key:∀ W,(x+4294967296*W)/2 ^ s=(x+4294967296*(W%2 ^ s))/2 ^ s+4294967296*(W/2 ^ s):=by
  intro W
  have e:x+4294967296*W=x+4294967296*(W%2 ^ s)+2 ^ s*(4294967296*(W/2 ^ s)):=by
   have h:=Nat.div_add_mod W (2 ^ s)
   have:4294967296*W=4294967296*(2 ^ s*(W/2 ^ s)+W%2 ^ s):=by rw[h]
   rw[this,Nat.mul_add,Nat.mul_left_comm];omega
  rw[e,Nat.add_mul_div_left _ _ b]
 have c:(x+4294967296*(V%2 ^ s))/2 ^ s<4294967296:=by
  rw[Nat.div_lt_iff_lt_mul b]
  have:V%2 ^ s+1≤2 ^ s:=Nat.mod_lt _ b
  have:=Nat.mul_le_mul_left 4294967296 this
  rw[Nat.mul_add] at this
  omega
 rw[key V,key (V%4294967296),Nat.mod_mod_of_dvd _ d,Nat.add_mul_mod_self_left,Nat.mod_eq_of_lt c]
theorem xc:∀ {l:List Nat},Ad l→val l%4294967296=l.getD 0 0
 | [],_=>rfl
 | x::r,h=>by
  have:=(B6.1 h).1
  simp[val];omega
theorem oe {N:Nat} {a:List Nat} {o:Bool} {s:Nat} (k:Ad a) (y:s≤31) (l:fit a.length N):∀ (m d b:Nat) (S:List Nat),d+m=a.length→m<b→Ad S→S.length=a.length→uT S d→val S+4294967296 ^ d*(val (a.drop d)/2 ^ s)=val a/2 ^ s →
  ∃ S',Ad S'∧val S'=val a/2 ^ s∧∀ K:Nat→Bool→LA→O R,B0 N K o b (Ab a) a.length (s:Int) a.length (Ab a) a.length (a.length:Int) (d:Int) (Ab S)=K (Ae (val a/2 ^ s)).length true (Ab S')
 | 0,d,b+1,S,z,_,hS,n,q,i=>by
  have t:d=a.length:=by omega
  subst t
  rw[List.drop_length] at i
  simp[val] at i
  refine⟨S,hS,i,fun K=>?_⟩
  rw[B0];unfold E3
  rw[US (Nat.le_refl _),cf,W7 n.symm hS (by rw[n];exact l),i]
 | m+1,d,b+1,S,z,A,hS,n,q,i=>by
  have D:=l.1;have F:=l.2
  have c:d<a.length:=by omega
  have ad:=At k c
  have step:=wc (V:=val (a.drop (d+1))) ad y
  rw[xc (Y2 k _),←EG c] at step
  have B:(a.drop (d+1)).getD 0 0=a.getD (d+1) 0:=by simp[List.getD_eq_getElem?_getD,List.getElem?_drop]
  rw[B] at step
  have go:∀ w,(a[d]+4294967296*a.getD (d+1) 0)/2 ^ s=w→∃ S',Ad S'∧val S'=val a/2 ^ s∧∀ K:Nat→Bool→LA→O R,B0 N K o b (Ab a) a.length (s:Int) a.length (Ab a) a.length (a.length:Int) ((d+1:Nat):Int) (Ab (S.set d (w%4294967296)))=K (Ae (val a/2 ^ s)).length true (Ab S'):=by
   intro w C
   refine oe (o:=o) k y l m (d+1) b (S.set d (w%4294967296)) (by omega) (by omega) (Br hS (by omega) d) (by simpa using n) (T9 q) ?_
   rw[N7 q (by omega),←i,step,C,Nat.pow_succ,Nat.mul_add,Nat.mul_assoc];omega
  by_cases j:d+1<a.length
  ·have an:=At k j
   have f:a.getD (d+1) 0=a[d+1]:=by rw[List.getD_eq_getElem?_getD,List.getElem?_eq_getElem j];rfl
   rw[f] at go
   obtain⟨S',u,v,x⟩:=go _ rfl
   refine⟨S',u,v,fun K=>?_⟩
   rw[B0];unfold E3
   have e:Kx .u64 ((a[d]:Nat):Int) (IntKind.wrap .u64 (((a[d+1]:Nat):Int)*2 ^ 32))=((a[d]+4294967296*a[d+1]:Nat):Int):=by
    rw[show(2:Int) ^ 32=((2 ^ 32:Nat):Int) by rfl,dv,Ex (by omega),rD (by omega) (by omega),Nat.or_comm,VS (by omega)]
    congr 1;omega
   rw[NG c,ct,Ak c,ct,CG c,wS (by omega),NG j,ct,Ak j,ct,CG j,show decide (((s:Nat):Int)<0)=false by simp,cf,ct,jc (by omega),ct,Ex (show a[d]<18446744073709551616 by omega),Ex (show a[d+1]<18446744073709551616 by omega),e,Int.toNat_natCast s,Nat.min_eq_left (by omega),Lm,MU,DX]
   exact x K
  ·have f:a.getD (d+1) 0=0:=by rw[List.getD_eq_getElem?_getD,List.getElem?_eq_none (by omega)];rfl
   rw[f,Nat.mul_zero,Nat.add_zero] at go
   obtain⟨S',u,v,x⟩:=go _ rfl
   refine⟨S',u,v,fun K=>?_⟩
   rw[B0];unfold E3
   rw[NG c,ct,Ak c,ct,CG c,wS (by omega),US (by omega),cf,show decide (((s:Nat):Int)<0)=false by simp,cf,ct,jc (by omega),ct,Ex (show a[d]<18446744073709551616 by omega),Int.toNat_natCast s,Nat.min_eq_left (by omega),Lm,MU,DX]
   exact x K
theorem wd {N:Nat} {a:List Nat} {n:Nat} {t o:Bool} {s:Nat} (e:n=a.length) (c:Ad a) (j:s≤31) (b:fit a.length N) :
  ∃ S',Ad S'∧val S'=val a/2 ^ s∧∀ K:Nat→Bool→LA→O R,Hg N (Ab a) n t o (s:Int) K=K (Ae (val a/2 ^ s)).length true (Ab S'):=by
 have u:=b.1;have v:=b.2
 have la:=(Au c).2
 have f:IntKind.wrap .i64 (Int.tdiv ((s:Nat):Int) 32)=((0:Nat):Int):=by
  rw[show(32:Int)=((32:Nat):Int) by rfl,JR,Nat.div_eq_of_lt (by omega)];decide
 have k:Int.tmod ((s:Nat):Int) 32=(s:Int):=by rw[show(32:Int)=((32:Nat):Int) by rfl,EF,Nat.mod_eq_of_lt (by omega)]
 by_cases d:val a=0
 ·refine⟨[],Nh,by rw[d];simp[val],fun K=>?_⟩
  rw[Ly];unfold H6
  rw[show decide (((s:Nat):Int)<0)=false by simp,cf,Bc e c b,d,f,Nat.zero_div,Bt];rfl
 ·obtain⟨S',l,i,m⟩:=oe (R:=R) (o:=o) (a:=Ae (val a)) (Aa _) j (b.le la) (Ae (val a)).length 0 N (List.replicate (Ae (val a)).length 0) (by omega) (by omega) (Bq _) (by simp) (Hf _) (by rw[Cm];simp)
  rw[Ac] at i
  refine⟨S',l,i,fun K=>?_⟩
  rw[Ly];unfold H6
  have q:(Ae (val a)).length≠0:=fun h=>d (A0.1 h)
  rw[show decide (((s:Nat):Int)<0)=false by simp,cf,Bc e c b,f,k,show decide (((0:Nat):Int)≥(((Ae (val a)).length:Nat):Int))=false by rw[decide_eq_false_iff_not];omega,cf]
  have c1:((decide ((0:Int)≤((0:Nat):Int)))&&((decide (((0:Nat):Int)≤(((Ae (val a)).length:Nat):Int)))&&((decide ((((Ae (val a)).length:Nat):Int)≤(((Ae (val a)).length:Nat):Int)))&&(decide ((((Ae (val a)).length:Nat):Int)≤(((Ae (val a)).length:Nat):Int))))))=true:=by simp
  rw[c1,ct,Int.toNat_natCast,Nat.sub_zero,v6 (by omega),ct,Nat.zero_mul,List.drop_zero,Nat.mul_one,Nj,List.take_length,Bx]
  have:=m K
  rw[Ac] at this
  exact this
end
end Gx

namespace Gx
open Go Go.Proofs
section
variable {R:Type}
theorem Zh {S:List Nat} {k:Nat} (h:val S<4294967296 ^ k):val (S.take k)=val S:=by
 by_cases d:k≤S.length
 ·have b:=Kk (S.take k) (S.drop k)
  rw[List.take_append_drop,List.length_take,Nat.min_eq_left d] at b
  rcases Nat.eq_zero_or_pos (val (S.drop k)) with c | c
  ·rw[c] at b;simpa using b.symm
  ·have:=Nat.le_mul_of_pos_right (4294967296 ^ k) c
   omega
 ·rw[List.take_of_length_le (by omega)]
theorem Zi {S:List Nat} {n:Nat} (hS:Ad S) (h:S.length=n+1):val S<(S[n]+1)*4294967296 ^ n:=by
 have c:=Xm h
 have b:=Bb (Bn hS n)
 rw[List.length_take,Nat.min_eq_left (by omega)] at b
 rw[Nat.add_mul,Nat.mul_comm S[n]];omega
theorem zw {a b c:Nat} (d:a≤b) (e:b≤c):((decide ((0:Int)≤(a:Int)))&&((decide ((a:Int)≤(b:Int)))&&((decide ((b:Int)≤(c:Int)))&&(decide ((c:Int)≤(c:Int))))))=true:=by simp;omega
theorem kU {N:Nat} {v u0 Sv:List Nat} {n D s:Nat} (F:v.length=n+2) (G:Ad v) (y:2147483648≤v[n+1]'(by omega)) (hSv:List.take ((n+2)*1) (Ab Sv)=Ab v) (hu:Ad u0) (L:u0.length=D+(n+2)) (X:s≤31) (m:fit (D+n+4) N) :
  ∀ (j b c:Nat) (W q:List Nat),j<b→c+j=D→Ad W→W.length=u0.length→Ad q→q.length=D→W.take j=u0.take j→val (W.drop j)<val v→val (q.drop j)*val v+val (W.drop j)=val (u0.drop j) →
  ∃ Sq Sr,Ad Sq∧val Sq=val u0/val v∧Ad Sr∧val Sr=val u0%val v/2 ^ s∧∀ K:Nat→Nat→LA→LA→O R,Ch N K (s:Int) (n+2) u0.length (Ab Sv) b D ((n+2:Nat):Int) (D:Int) (D:Int) (c:Int) (Ab q) (Ab W)=K (Ae (val u0/val v)).length (Ae (val u0%val v/2 ^ s)).length (Ab Sq) (Ab Sr)
 | 0,b+1,c,W,q,_,hc,hW,hWl,hq,i,u,I,e=>by
  have h1:=m.1;have h2:=m.2
  simp only[List.drop_zero] at e I
  have x:0<val v:=by omega
  have vlt:=Bb G
  rw[F] at vlt
  have A:val u0/val v=val q:=by rw[←e,Nat.mul_comm,Nat.mul_add_div x,Nat.div_eq_of_lt I,Nat.add_zero]
  have hm:val u0%val v=val W:=by rw[←e,Nat.mul_comm,Nat.mul_add_mod,Nat.mod_eq_of_lt I]
  have ht:val (W.take (n+2))=val W:=Zh (by omega)
  have B:(W.take (n+2)).length=n+2:=by rw[List.length_take];omega
  obtain⟨S',q1,Y,q4⟩:=wd (R:=R) (N:=N) (a:=W.take (n+2)) (n:=n+2) (t:=false) (o:=true) (s:=s) B.symm (Bn hW _) X (m.le (by rw[B];omega))
  rw[ht,←hm] at Y q4
  refine⟨q,S',hq,A.symm,q1,Y,fun K=>?_⟩
  have hcD:c=D:=by omega
  subst hcD
  rw[Ch];unfold Hx
  rw[US (Nat.le_refl _),cf,yD (by omega),ct,Int.toNat_natCast,Nat.mul_one,Nj,q4,W7 i.symm hq (by rw[i];exact m.le (by omega)),←A]
 | j+1,b+1,c,W,q,hfu,hc,hW,hWl,hq,i,u,I,e=>by
  have h1:=m.1;have h2:=m.2
  have vlt:=Bb G
  rw[F] at vlt
  have hjW:j<W.length:=by omega
  have C:j<u0.length:=by omega
  have M:j<q.length:=by omega
  have hWj:W[j]=u0[j]:=by
   have:=congrArg (fun l=>l[j]?) u
   simp only[List.getElem?_take_of_lt (show j<j+1 by omega),List.getElem?_eq_getElem hjW,List.getElem?_eq_getElem C] at this
   exact Option.some.inj this
  have wj:=At hW hjW
  have eW:=EG hjW
  have eu:=EG C
  have hUl:((W.drop j).take (n+3)).length=n+3:=by rw[List.length_take,List.length_drop];omega
  have d:val (W.drop j)<val v*4294967296:=by rw[eW];omega
  have hB:val (W.drop j)<4294967296 ^ (n+3):=by
   have:=(Nat.mul_lt_mul_right (show 0<4294967296 by omega)).2 vlt
   rw[←Nat.pow_succ] at this;exact Nat.lt_trans d this
  have hU:val ((W.drop j).take (n+3))=val (W.drop j):=Zh hB
  have k:W=W.take j++((W.drop j).take (n+3)++(W.drop j).drop (n+3)):=by rw[List.take_append_drop,List.take_append_drop]
  have hPl:(W.take j).length=j:=by rw[List.length_take];omega
  obtain⟨U',u1,u2,u3,u4⟩:=fC (R:=R) (N:=N) (P:=W.take j) (Q:=(W.drop j).drop (n+3)) (U:=(W.drop j).take (n+3)) (v:=v) (n:=n) (f:=false) (g:=true) F G (Bn (Y2 hW _) _) hUl (by omega) (by omega) y (by rw[hU];exact d)
  rw[hU] at u3 u4
  have hQ0:val ((W.drop j).drop (n+3))=0:=by
   have:=Kk ((W.drop j).take (n+3)) ((W.drop j).drop (n+3))
   rw[List.take_append_drop,hU,hUl] at this
   have hp:0<4294967296 ^ (n+3):=Nat.pow_pos (by omega)
   rcases Nat.eq_zero_or_pos (val ((W.drop j).drop (n+3))) with h | h
   ·exact h
   ·have:=Nat.le_mul_of_pos_right (4294967296 ^ (n+3)) h;omega
  have x:0<val v:=by omega
  have T:val (W.drop j)/val v<4294967296:=Nat.div_lt_of_lt_mul d
  have hdm:=Nat.div_add_mod (val (W.drop j)) (val v)
  have V:=Nat.mod_lt (val (W.drop j)) x
  have hW':Ad (W.take j++(U'++(W.drop j).drop (n+3))):=PP.2 ⟨Bn hW _,PP.2 ⟨u1,Y2 (Y2 hW _) _⟩⟩
  have hWl':(W.take j++(U'++(W.drop j).drop (n+3))).length=u0.length:=by
   rw[List.length_append,List.length_append,hPl,u2,List.length_drop,List.length_drop];omega
  have hWd:(W.take j++(U'++(W.drop j).drop (n+3))).drop j=U'++(W.drop j).drop (n+3):=by
   rw[List.drop_append,hPl,Nat.sub_self,List.drop_zero,List.drop_eq_nil_of_le (by omega),List.nil_append]
  have hWt:(W.take j++(U'++(W.drop j).drop (n+3))).take j=u0.take j:=by
   rw[List.take_append,hPl,Nat.sub_self,List.take_zero,List.append_nil,List.take_take,Nat.min_self]
   have:=congrArg (List.take j) u
   rwa [List.take_take,List.take_take,Nat.min_eq_left (by omega)] at this
  have hWv:val (U'++(W.drop j).drop (n+3))=val (W.drop j)%val v:=by rw[Kk,hQ0,u3];simp
  obtain⟨Sq,Sr,a1,a2,a3,a4,a5⟩:=kU (N:=N) F G y hSv hu L X m j b (c+1) (W.take j++(U'++(W.drop j).drop (n+3))) (q.set j (val (W.drop j)/val v)) (by omega) (by omega) hW' hWl' (Br hq T j) (by simpa using i) hWt (by rw[hWd,hWv];exact V) (by
   rw[hWd,hWv,oc M,val,eu,←e,←hWj,Nat.add_mul,Nat.mul_assoc,Nat.mul_add,Nat.mul_comm (val (W.drop j)/val v)]
   omega)
  refine⟨Sq,Sr,a1,a2,a3,a4,fun K=>?_⟩
  have w0:IntKind.wrap .i64 (IntKind.wrap .i64 (((D:Nat):Int) - 1) - (c:Int))=(j:Int):=by
   rw[i64 (a:=((D:Nat):Int) - 1) (by omega),i64 (by omega)];omega
  have w1:IntKind.wrap .i64 (IntKind.wrap .i64 ((j:Int)+((n+2:Nat):Int))+1)=((j+(n+3):Nat):Int):=by
   rw[i64 (a:=(j:Int)+((n+2:Nat):Int)) (by omega),i64 (by omega)];omega
  have:=u4 fun z aa=>cond (Ao (j:Int) D) (cond ((Nat.beq 1 1)&&((Nat.ble ((0+((Int.toNat (j:Int))*1))+1) (List.length (Ab q)))&&(!false))) (Ch N K (s:Int) (n+2) u0.length (Ab Sv) b D ((n+2:Nat):Int) (D:Int) (D:Int) (IntKind.wrap .i64 ((c:Int)+1)) (List.set (Ab q) (0+((Int.toNat (j:Int))*1)) (.int .u32 z)) aa) none) none
  rw[←k,hPl] at this
  rw[Ch];unfold Hx
  rw[NG (by omega),ct,w0,w1,zw (by omega) (by omega),ct,hSv,Int.toNat_natCast,Int.toNat_natCast,Nat.mul_one,Nat.zero_add,show j+(n+3) - j=n+3 by omega]
  rw[Int.toNat_natCast,Nat.mul_one,Nat.zero_add] at this
  rw[this,Ak (by omega),ct,show((Nat.beq 1 1)&&((Nat.ble (j+1) (List.length (Ab q)))&&(!false)))=true by (rw[A9];simp;omega),ct,PQ,wS (by omega)]
  exact a5 K
theorem u5 {N:Nat} {a b:List Nat} {n m:Nat} {t o t' o':Bool} (M:n=a.length) (S:m=b.length) (C:Ad a) (A:Ad b) (l:2≤b.length) (F:b.length≤a.length) (e:b.getLast (by intro h;rw[h] at l;simp at l)≠0) (q:fit (a.length+b.length+4) N) :
  ∃ Sq Sr,Ad Sq∧val Sq=val a/val b∧Ad Sr∧val Sr=val a%val b∧∀ K:Nat→Nat→LA→LA→O R,Fg N (Ab a) n t o (Ab b) m t' o' K=K (Ae (val a/val b)).length (Ae (val a%val b)).length (Ab Sq) (Ab Sr):=by
 subst M S
 have h1:=q.1;have h2:=q.2
 obtain⟨k,y⟩:∃ k,b.length=k+2:=⟨b.length - 2,by omega⟩
 have G:b[k+1]'(by omega)≠0:=by
  rw[List.getLast_eq_getElem] at e
  simp only[y] at e
  exact e
 have bk:=At A (show k+1<b.length by omega)
 obtain⟨s,s1,s2,I,T⟩:=tE (R:=R) (N:=N) (c:=b[k+1]'(by omega)) (by omega) bk
 obtain⟨Sv,v1,v2,v3,v4⟩:=RD (R:=R) (N:=N) (a:=b) (t:=false) (o:=o') (s:=s) rfl A s1 (q.le (by omega))
 obtain⟨Su,L,U,B,V⟩:=RD (R:=R) (N:=N) (a:=a) (t:=false) (o:=o) (s:=s) rfl C s1 (q.le (by omega))
 have z:0<2 ^ s:=Nat.pow_pos (by omega)
 have hP:0<4294967296 ^ (k+1):=Nat.pow_pos (by omega)
 have bt:=Zi A y
 have bf:=Xm y
 have hVlt:val b*2 ^ s<4294967296 ^ (k+2):=by
  have x1:val b*2 ^ s<(b[k+1]+1)*4294967296 ^ (k+1)*2 ^ s:=(Nat.mul_lt_mul_right z).2 bt
  have X:2 ^ s∣4294967296:=⟨2 ^ (32 - s),by rw[←Nat.pow_add,show s+(32 - s)=32 by omega]⟩
  have x2:(b[k+1]+1)*2 ^ s≤4294967296:=by
   obtain⟨r,u⟩:=X
   have x3:b[k+1]<r:=by
    rw[u,Nat.mul_comm] at I
    exact Nat.lt_of_mul_lt_mul_left I
   have x4:(b[k+1]+1)*2 ^ s≤r*2 ^ s:=Nat.mul_le_mul_right _ x3
   have x5:r*2 ^ s=4294967296:=by rw[Nat.mul_comm];exact u.symm
   omega
  have x6:=Nat.mul_le_mul_right (4294967296 ^ (k+1)) x2
  rw[Nat.mul_right_comm] at x1
  rw[Nat.pow_succ,Nat.mul_comm _ 4294967296]
  exact Nat.lt_of_lt_of_le x1 x6
 have x:(Sv.take (k+2)).length=k+2:=by rw[List.length_take];omega
 have d:val (Sv.take (k+2))=val b*2 ^ s:=by rw[Zh (by rw[v3];exact hVlt),v3]
 have f:2147483648*4294967296 ^ (k+1)≤val b*2 ^ s:=by
  have x1:4294967296 ^ (k+1)*b[k+1]≤val b:=by omega
  have x2:=Nat.mul_le_mul_right (2 ^ s) x1
  rw[Nat.mul_assoc,Nat.mul_comm (4294967296 ^ (k+1))] at x2
  have x3:=Nat.mul_le_mul_right (4294967296 ^ (k+1)) s2
  omega
 have i:2147483648≤(Sv.take (k+2))[k+1]'(by omega):=by
  have x1:=Zi (Bn v1 (k+2)) x
  rw[d] at x1
  have x2:=Nat.lt_of_mul_lt_mul_right (Nat.lt_of_le_of_lt f x1)
  omega
 have hDl:Su.length=(a.length+1 - (k+2))+(k+2):=by omega
 have j:val (Su.drop (a.length+1 - (k+2)))<val (Sv.take (k+2)):=by
  have x1:=Kk (Su.take (a.length+1 - (k+2))) (Su.drop (a.length+1 - (k+2)))
  rw[List.take_append_drop,B,List.length_take,Nat.min_eq_left (by omega)] at x1
  have x2:=Bb C
  have x3:val a*2 ^ s<4294967296 ^ a.length*2 ^ s:=(Nat.mul_lt_mul_right z).2 x2
  have x4:a.length=(a.length+1 - (k+2))+(k+1):=by omega
  generalize hE:a.length+1 - (k+2)=E at *
  have x5:4294967296 ^ a.length=4294967296 ^ E*4294967296 ^ (k+1):=by rw[←Nat.pow_add];congr 1
  rw[x5,Nat.mul_assoc] at x3
  have x6:4294967296 ^ E*val (Su.drop E)<4294967296 ^ E*(4294967296 ^ (k+1)*2 ^ s):=by omega
  have x7:=Nat.lt_of_mul_lt_mul_left x6
  have x8:4294967296 ^ (k+1)*2 ^ s≤2147483648*4294967296 ^ (k+1):=by rw[Nat.mul_comm];exact Nat.mul_le_mul_right _ (mX s1)
  rw[d];omega
 obtain⟨Sq,Sr,a1,a2,a3,a4,a5⟩:=kU (R:=R) (N:=N) (v:=Sv.take (k+2)) (u0:=Su) (Sv:=Sv) (n:=k) (D:=a.length+1 - (k+2)) (s:=s) x (Bn v1 _) i (by rw[Nat.mul_one,Nj]) L hDl s1 (q.le (by omega)) (a.length+1 - (k+2)) N 0 Su (List.replicate (a.length+1 - (k+2)) 0) (by omega) (by omega) L rfl (Bq _) (by simp) rfl j (by
  rw[List.drop_eq_nil_of_le (show(List.replicate (a.length+1 - (k+2)) 0).length≤a.length+1 - (k+2) by simp)];simp[val])
 have hq:val Su/val (Sv.take (k+2))=val a/val b:=by rw[B,d,Nat.mul_div_mul_right _ _ z]
 have u:val Su%val (Sv.take (k+2))/2 ^ s=val a%val b:=by rw[B,d,Nat.mul_mod_mul_right,Nat.mul_div_cancel _ z]
 rw[hq] at a2;rw[u] at a4
 refine⟨Sq,Sr,a1,a2,a3,a4,fun K=>?_⟩
 rw[Ue];unfold Lz
 have Y:IntKind.wrap .i64 (((b.length:Nat):Int) - 1)=((k+1:Nat):Int):=by rw[i64 (by omega)];omega
 have w2:IntKind.wrap .i64 (((a.length+1:Nat):Int) - ((b.length:Nat):Int))=((a.length+1 - (k+2):Nat):Int):=by rw[i64 (by omega)];omega
 rw[Y,Ak (by omega),ct,CG (by omega),T,v4,yD (by omega),ct,V,w2,v6 (by omega),ct,Int.toNat_natCast,Bx]
 have:=a5 K
 rw[hq,u,U] at this
 rw[y]
 exact this
theorem Ug {N:Nat} {a b:List Nat} {n m:Nat} {t o t' o':Bool} (G:n=a.length) (I:m=b.length) (D:Ad a) (F:Ad b) (i:val b≠0) (e:fit (a.length+b.length+4) N) :
  ∃ Sq Sr,Ad Sq∧val Sq=val a/val b∧Ad Sr∧val Sr=val a%val b∧∀ K:Nat→Nat→Bool→LA→LA→O R,Cx N (Ab a) n t o (Ab b) m t' o' K=K (Ae (val a/val b)).length (Ae (val a%val b)).length true (Ab Sq) (Ab Sr):=by
 have T:=e.1;have U:=e.2
 have la:=(Au D).2
 have lb:=(Au F).2
 have v:(Ae (val b)).length≠0:=fun h=>i (A0.1 h)
 have start:∀ K:Nat→Nat→Bool→LA→LA→O R,Cx N (Ab a) n t o (Ab b) m t' o' K=cond (decide (E2 (val a) (val b)<0)) (Ls N (Ab (Ae (val a))) (Ae (val a)).length false o (fun s t=>(K 0 s true [] t))) (cond (decide ((((Ae (val a)).length:Nat):Int)≤(2:Int))) (Kc N (Ab (Ae (val a))) (Ae (val a)).length false o (fun p=>(Kc N (Ab (Ae (val b))) (Ae (val b)).length false o' (fun o=>(cond (o==(0:Int)) none (Ba N (IntKind.wrap .u64 (Int.tdiv p o)) (fun u w=>(cond (o==(0:Int)) none (Ba N (Int.tmod p o) (fun x y=>(K u x true w y))))))))))) (cond ((((Ae (val b)).length:Nat):Int)==(1:Int)) (cond (Ao (0:Int) (Ae (val b)).length) (F3 .u32 (Ab (Ae (val b))) fun z=>(Dp N (Ab (Ae (val a))) (Ae (val a)).length false o z (fun aa ab ac ad=>(K aa ab true ac ad)))) none) (Fg N (Ab (Ae (val a))) (Ae (val a)).length false o (Ab (Ae (val b))) (Ae (val b)).length false o' (fun ae af ag ah=>(K ae af true ag ah))))):=by
  intro K
  rw[JM];unfold NT
  rw[Bc G D (e.le (by omega)),Bc I F (e.le (by omega)),cx v,cf,Qz rfl rfl (Aa _) (Aa _) (e.le (by omega)),Ac,Ac]
 by_cases c:val a<val b
 ·refine⟨[],Ae (val a),Nh,by rw[Nat.div_eq_of_lt c];rfl,Aa _,by rw[Nat.mod_eq_of_lt c,Ac],fun K=>?_⟩
  rw[start,show decide (E2 (val a) (val b)<0)=true by (unfold E2;rw[if_pos c];rfl),ct,Q3 rfl (Aa _) (e.le (by omega)),Ac,Nat.div_eq_of_lt c,Nat.mod_eq_of_lt c,Bt];rfl
 ·have d:decide (E2 (val a) (val b)<0)=false:=by unfold E2;rw[if_neg c];split<;>rfl
  have j:=An (Nat.le_of_not_lt c)
  by_cases f:(Ae (val a)).length≤2
  ·have av:=QU f
   have bv:=QU (Nat.le_trans j f)
   have k:val a/val b<18446744073709551616:=Nat.lt_of_le_of_lt (Nat.div_le_self _ _) av
   have A:val a%val b<18446744073709551616:=Nat.lt_of_le_of_lt (Nat.mod_le _ _) av
   obtain⟨Sq,a1,a2,a3⟩:=Gp (R:=R) (N:=N) k (by omega)
   obtain⟨Sr,L,M,S⟩:=Gp (R:=R) (N:=N) A (by omega)
   refine⟨Sq,Sr,a1,a2,L,M,fun K=>?_⟩
   rw[start,d,cf,show decide ((((Ae (val a)).length:Nat):Int)≤2)=true by simp;omega,ct,W9 rfl (Aa _) f (by omega),W9 rfl (Aa _) (by omega) (by omega),Ac,Ac,cx i,cf,JR,Ex k,a3,cf,EF,S]
  ·have l:decide ((((Ae (val a)).length:Nat):Int)≤2)=false:=by simp;omega
   by_cases B:(Ae (val b)).length=1
   ·obtain⟨x,C⟩:∃ x,Ae (val b)=[x]:=by
     match h:Ae (val b),B with
     | [x],_=>exact⟨x,rfl⟩
    have q:x=val b:=by have:=Ac (val b);rw[C] at this;simpa[val] using this
    have xl:x<4294967296:=by have:=Aa (val b);rw[C] at this;exact(B6.1 this).1
    obtain⟨Sq,Sr,a1,a2,a3,a4,a5⟩:=od (R:=R) (N:=N) (a:=Ae (val a)) (t:=false) (o:=o) (b:=x) rfl (Aa _) (by omega) xl (e.le (by omega))
    rw[Ac,q] at a2 a4 a5
    refine⟨Sq,Sr,a1,a2,a3,a4,fun K=>?_⟩
    rw[start,d,cf,l,cf,C]
    simp only[List.length_cons,List.length_nil,Ni,Rp]
    rw[show((((0+1:Nat)):Int)==1)=true by rfl,ct,show Ao 0 (0+1)=true by decide,ct,q,a5]
   ·obtain⟨Sq,Sr,a1,a2,a3,a4,a5⟩:=u5 (R:=R) (N:=N) (a:=Ae (val a)) (b:=Ae (val b)) (t:=false) (o:=o) (t':=false) (o':=o') rfl rfl (Aa _) (Aa _) (by omega) j (du _ _) (e.le (by omega))
    rw[Ac,Ac] at a2 a4 a5
    refine⟨Sq,Sr,a1,a2,a3,a4,fun K=>?_⟩
    rw[start,d,cf,l,cf,show((((Ae (val b)).length:Nat):Int)==1)=false by rw[beq_eq_false_iff_ne];omega,cf,a5]
end
end Gx

namespace Gx
open Go Go.Proofs
section
variable {R:Type}
def zX (A B u0 u1 v0 v1:Nat) (e:Bool):Prop:=v0=0∨(1≤u1∧1≤v1∧match e with
 | true=>v0*B≤u0*A∧u1*A≤v1*B∧(v0+v1)*B≤(u0+u1)*A∧u0*v1=v0*u1+1
 | false=>u0*A≤v0*B∧v1*B≤u1*A∧(u0+u1)*A≤(v0+v1)*B∧u1*v0=v1*u0+1)
structure Lead (X Y x y u1 u2 v1 v2:Nat) (e:Bool):Prop where
 le:y≤x
 idV:x*v2+y*v1=X
 idU:x*u2+y*u1=Y
 pos:1≤v2
 par:match e with
  | false=>x+v1*Y=u1*X∧y+u2*X=v2*Y∧u1*v2=v1*u2+1
  | true=>x+u1*X=v1*Y∧y+v2*Y=u2*X∧u2*v1=v2*u1+1
 small:(v1=0∧u1=1∧u2=0∧v2=1∧e=false)∨(1≤v1∧u1≤v1∧u2≤v2∧1≤u2)
theorem Lead.init {X Y:Nat} (h:Y≤X):Lead X Y X Y 1 0 0 1 false:=⟨h,by simp,by simp,by omega,by simp,.inl ⟨rfl,rfl,rfl,rfl,rfl⟩⟩
theorem Lead.step {X Y x y u1 u2 v1 v2:Nat} {e:Bool} (L:Lead X Y x y u1 u2 v1 v2 e) (n:1≤y):Lead X Y y (x%y) u2 (u1+x/y*u2) v2 (v1+x/y*v2) (!e):=by
 have b:=Nat.div_add_mod x y
 have l:=Nat.mod_lt x (show 0<y by omega)
 have hq:1≤x/y:=by rw[Nat.le_div_iff_mul_le (by omega)];have:=L.le;omega
 generalize x/y=q at *
 generalize x%y=r at *
 have c:=L.pos
 refine⟨by omega,?_,?_,?_,?_,?_⟩
 ·rw[←L.idV,←b,Nat.mul_add,Nat.add_mul,Nat.mul_assoc];omega
 ·rw[←L.idU,←b,Nat.mul_add,Nat.add_mul,Nat.mul_assoc];omega
 ·have:=Nat.mul_le_mul hq c;omega
 ·have p:=L.par
  cases e with
  | false =>
   obtain⟨m,d,i⟩:=p
   refine⟨d,?_,?_⟩
   ·have j:q*(y+u2*X)=q*(v2*Y):=by rw[d]
    rw[Nat.mul_add,←Nat.mul_assoc,←Nat.mul_assoc] at j
    rw[Nat.mul_comm y q] at b
    rw[Nat.add_mul,Nat.add_mul];omega
   ·rw[Nat.add_mul,Nat.add_mul,Nat.mul_right_comm q u2,i];omega
  | true =>
   obtain⟨m,d,i⟩:=p
   refine⟨d,?_,?_⟩
   ·have j:q*(y+v2*Y)=q*(u2*X):=by rw[d]
    rw[Nat.mul_add,←Nat.mul_assoc,←Nat.mul_assoc] at j
    rw[Nat.mul_comm y q] at b
    rw[Nat.add_mul,Nat.add_mul];omega
   ·rw[Nat.mul_add,Nat.mul_add,i,Nat.mul_left_comm u2 q,Nat.mul_left_comm v2 q,Nat.mul_comm u2 v2];omega
 ·right
  rcases L.small with⟨s1,s2,f,k,_⟩ | ⟨s1,s2,f,k⟩
  ·subst s1 s2 f k;exact⟨by omega,by omega,by omega,by omega⟩
  ·have s:q*u2≤q*v2:=Nat.mul_le_mul_left _ f
   exact⟨c,f,by omega,by have:=Nat.mul_le_mul hq k;omega⟩
theorem Lead.cof {X Y x y u1 u2 v1 v2 A B P:Nat} {e:Bool} (L:Lead X Y x y u1 u2 v1 v2 e) (hA:X*P≤A) (hA':A<(X+1)*P) (hB:Y*P≤B) (hB':B<(Y+1)*P) (c1:v2≤y) (c:v1+v2≤x - y):zX A B u1 u2 v1 v2 (!e):=by
 have p:=L.par
 have d:=L.le
 rcases L.small with⟨s1,_⟩ | ⟨s1,s2,k,f⟩
 ·exact .inl s1
 ·refine .inr ⟨f,L.pos,?_⟩
  cases e with
  | false =>
   obtain⟨i,j,b⟩:=p
   have n1:u2*A≤v2*B:=T0 hB hA' (w:=y) (by omega) (by omega)
   have n2:(v1+v2)*B≤(u1+u2)*A:=T0 hA hB' (w:=x - y) (by rw[Nat.add_mul,Nat.add_mul];omega) c
   refine⟨?_,n1,n2,b⟩
   rw[Nat.add_mul,Nat.add_mul] at n2;omega
  | true =>
   obtain⟨i,j,b⟩:=p
   have n1:v2*B≤u2*A:=T0 hA hB' (w:=y) (by omega) (by omega)
   have n2:(u1+u2)*A≤(v1+v2)*B:=T0 hB hA' (w:=x - y) (by rw[Nat.add_mul,Nat.add_mul];omega) (by omega)
   refine⟨?_,n1,n2,b⟩
   rw[Nat.add_mul,Nat.add_mul] at n2;omega
theorem EH {x y:Nat} (c:1≤y) (h:y≤x):2*(y*(x%y))≤x*y:=by
 have d:=Nat.div_add_mod x y
 have e:=Nat.mod_lt x (show 0<y by omega)
 have hq:1≤x/y:=by rw[Nat.le_div_iff_mul_le (by omega)];omega
 have f:y*1≤y*(x/y):=Nat.mul_le_mul_left _ hq
 have b:2*(x%y)≤x:=by omega
 have:=Nat.mul_le_mul_left y b
 rw[Nat.mul_comm x y,Nat.mul_left_comm];exact this
def tH (u0 u1 v0 v1:Nat) (e:Bool):LA:=[.int .u64 (u0:Int),.int .u64 (u1:Int),.int .u64 (v0:Int),.int .u64 (v1:Int),.bool e]
theorem u6 {N:Nat} {X Y A B P:Nat} (hX:X<18446744073709551616) (hYX:Y≤X) (hA:X*P≤A) (hA':A<(X+1)*P) (hB:Y*P≤B) (hB':B<(Y+1)*P):∀ (k b x y u0 u1 u2 v0 v1 v2:Nat) (e:Bool),k<b→x*y<2 ^ k→Lead X Y x y u1 u2 v1 v2 e→zX A B u0 u1 v0 v1 e→u0<18446744073709551616→u1<18446744073709551616→v0<18446744073709551616→v1<18446744073709551616 →
  ∃ (a1 a2 f d:Nat) (s:Bool),zX A B a1 a2 f d s∧a1<18446744073709551616∧a2<18446744073709551616∧f<18446744073709551616∧d<18446744073709551616∧∀ K:LA→O R,Co N K b (x:Int) (y:Int) (u0:Int) (u1:Int) (u2:Int) (v0:Int) (v1:Int) (v2:Int) e=K (tH a1 a2 f d s):=by
 intro k
 induction k with
 | zero =>
  intro b x y u0 u1 u2 v0 v1 v2 e G i L C f d t m
  obtain⟨b,rfl⟩:∃ F,b=F+1:=⟨b - 1,by omega⟩
  have l:y=0:=by
   rcases Nat.eq_zero_or_pos y with h | h
   ·exact h
   ·have h3:=Nat.mul_le_mul_left x (show 1≤y by omega)
    have h4:=L.le
    rw[Nat.pow_zero] at i
    omega
  refine⟨u0,u1,v0,v1,e,C,f,d,t,m,fun K=>?_⟩
  rw[Co];unfold Fv
  have:=L.pos
  rw[show decide ((y:Int)≥(v2:Int))=false by simp;omega];rfl
 | succ k I =>
  intro b x y u0 u1 u2 v0 v1 v2 e G i L C f d t m
  obtain⟨b,rfl⟩:∃ F,b=F+1:=⟨b - 1,by omega⟩
  have u:=L.pos
  have j:=L.le
  by_cases c1:v2≤y
  ·have l:1≤y:=by omega
   have hxX:x≤X:=by
    have:=Nat.mul_le_mul_left x u
    have:=L.idV;omega
   have D:v1+v2≤X:=by
    have M:=Nat.mul_le_mul_right v2 (show 1≤x by omega)
    have h2:=Nat.mul_le_mul_right v1 l
    have:=L.idV;omega
   by_cases S:v1+v2≤x - y
   ·have L':=L.step l
    have C':=L.cof hA hA' hB hB' c1 S
    have i1:=L'.idV
    have i2:=L'.idU
    have w1:v1+x/y*v2≤X:=by
     have:=Nat.mul_le_mul_right (v1+x/y*v2) l;omega
    have w2:u1+x/y*u2≤Y:=by
     have:=Nat.mul_le_mul_right (u1+x/y*u2) l;omega
    have v:u2<18446744073709551616:=by
     have M:=Nat.mul_le_mul_right u2 (show 1≤x by omega)
     have:=L.idU;omega
    have n:v2<18446744073709551616:=by omega
    have z:y*(x%y)<2 ^ k:=by
     have:=EH l j
     rw[Nat.pow_succ] at i;omega
    obtain⟨a1,a2,T,U,s,V,r2,r3,r4,r5,r6⟩:=I b y (x%y) u1 u2 (u1+x/y*u2) v1 v2 (v1+x/y*v2) (!e) (by omega) z L' C' d v m n
    refine⟨a1,a2,T,U,s,V,r2,r3,r4,r5,fun K=>?_⟩
    rw[Co];unfold Fv
    have c:x<18446744073709551616:=by omega
    have q:x/y<18446744073709551616:=Nat.lt_of_le_of_lt (Nat.div_le_self _ _) c
    rw[show decide ((y:Int)≥(v2:Int))=true by simp;omega,show((true:Bool)==true)=true by rfl,ct,VQ c j,Vr,Ex (show v1+v2<18446744073709551616 by omega),show decide (((x - y:Nat):Int)≥((v1+v2:Nat):Int))=true by rw[decide_eq_true_eq];omega,tD,ct]
    unfold N8
    dsimp only
    rw[cx (by omega),cf,cf,JR,EF,Ex q,dv,dv,Ex (show x/y*u2<18446744073709551616 by omega),Ex (show x/y*v2<18446744073709551616 by omega),Vr,Vr,Ex (show u1+x/y*u2<18446744073709551616 by omega),Ex (show v1+x/y*v2<18446744073709551616 by omega)]
    exact r6 K
   ·refine⟨u0,u1,v0,v1,e,C,f,d,t,m,fun K=>?_⟩
    rw[Co];unfold Fv
    rw[show decide ((y:Int)≥(v2:Int))=true by simp;omega,show((true:Bool)==true)=true by rfl,ct,VQ (by omega) j,Vr,Ex (show v1+v2<18446744073709551616 by omega),show decide (((x - y:Nat):Int)≥((v1+v2:Nat):Int))=false by rw[decide_eq_false_iff_not];omega,tD,cf]
    rfl
  ·refine⟨u0,u1,v0,v1,e,C,f,d,t,m,fun K=>?_⟩
   rw[Co];unfold Fv
   rw[show decide ((y:Int)≥(v2:Int))=false by simp;omega];rfl
end
end Gx

namespace Gx
open Go Go.Proofs
section
variable {R:Type}
theorem WP {N:Nat} {a:List Nat} {n:Nat} {t o:Bool} {i:Nat} {K:Int→O R} (b:n=a.length) (c:Ad a):Gr N (i:Int) (Ab a) n t o K=K ((a.getD i 0:Nat):Int):=by
 subst b
 rw[Xa];unfold Vt
 by_cases h:i<a.length
 ·have:=At c h
  rw[NG h,ct,Ak h,ct,CG h,Ex (by omega),List.getD_eq_getElem?_getD,List.getElem?_eq_getElem h];rfl
 ·rw[US (by omega),cf,List.getD_eq_getElem?_getD,List.getElem?_eq_none (by omega)];rfl
theorem Q5 {a:List Nat} (b:Ad a) (i:Nat):a.getD i 0<4294967296:=by
 by_cases h:i<a.length
 ·rw[List.getD_eq_getElem?_getD,List.getElem?_eq_getElem h];exact At b h
 ·rw[List.getD_eq_getElem?_getD,List.getElem?_eq_none (by omega)];simp
theorem wg {a:List Nat} {n:Nat} (e:a.length≤n+3):val a=val (a.take n)+4294967296 ^ n*((a.getD (n+2) 0*4294967296+a.getD (n+1) 0)*4294967296+a.getD n 0):=by
 have b:=K0 a (n+2)
 have c:=K0 a (n+1)
 have d:=K0 a n
 rw[List.take_of_length_le (by omega)] at b
 have x1:4294967296 ^ (n+2)*a.getD (n+2) 0=4294967296 ^ n*(a.getD (n+2) 0*4294967296*4294967296):=by rw[Nat.pow_succ (n:=4294967296) (m:=n+1),Nat.pow_succ,zA,zA]
 have x2:4294967296 ^ (n+1)*a.getD (n+1) 0=4294967296 ^ n*(a.getD (n+1) 0*4294967296):=by rw[Nat.pow_succ,zA]
 rw[b,c,d,x1,x2,Nat.add_mul,Nat.mul_add,Nat.mul_add];omega
theorem ZI {N:Nat} {a:List Nat} {m n s:Nat} {t o:Bool} {K:Int→O R} (i:m=a.length) (d:Ad a) (y:a.length≤n+3) (S:s≤31) (c:a.getD (n+2) 0*2 ^ s<4294967296) (T:n≤1000000000000) :
  Q4 N (Ab a) m t o ((n+3:Nat):Int) (s:Int) K=K ((val a/(4294967296 ^ n*2 ^ (32 - s)):Nat):Int)∧val a/(4294967296 ^ n*2 ^ (32 - s))<18446744073709551616:=by
 have z:0<2 ^ s:=Nat.pow_pos (by omega)
 have e:0<2 ^ (32 - s):=Nat.pow_pos (by omega)
 have hP:0<4294967296 ^ n:=Nat.pow_pos (by omega)
 have b:2 ^ s*2 ^ (32 - s)=4294967296:=by rw[←Nat.pow_add,show s+(32 - s)=32 by omega]
 have A:=Q5 d (n+2)
 have B:=Q5 d (n+1)
 have C:=Q5 d n
 have tk:=Bb (Bn d n)
 have NV:val (a.take n)<4294967296 ^ n:=by
  refine Nat.lt_of_lt_of_le tk (Nat.pow_le_pow_right (by omega) ?_)
  rw[List.length_take];omega
 have D:=wg y
 generalize j:a.getD (n+2) 0=a0 at *
 generalize k:a.getD (n+1) 0=a1 at *
 generalize l:a.getD n 0=a2 at *
 have q:a0<2 ^ (32 - s):=by
  rw[←b,Nat.mul_comm] at c;exact Nat.lt_of_mul_lt_mul_left c
 have f:(a0*4294967296+a1)*2 ^ s<18446744073709551616:=by
  have x1:(a0+1)*4294967296≤2 ^ (32 - s)*4294967296:=Nat.mul_le_mul_right _ q
  have x2:a0*4294967296+a1<2 ^ (32 - s)*4294967296:=by rw[Nat.add_mul] at x1;omega
  have x3:=(Nat.mul_lt_mul_right z).2 x2
  rw[Nat.mul_right_comm,Nat.mul_comm (2 ^ (32 - s)),b] at x3
  exact x3
 have u:a2/2 ^ (32 - s)<2 ^ s:=by
  rw[Nat.div_lt_iff_lt_mul e,b];exact C
 have hq:val a/(4294967296 ^ n*2 ^ (32 - s))=(a0*4294967296+a1)*2 ^ s+a2/2 ^ (32 - s):=by
  rw[←Nat.div_div_eq_div_mul,D,Nat.add_mul_div_left _ _ hP,Nat.div_eq_of_lt NV,Nat.zero_add]
  have:(a0*4294967296+a1)*4294967296+a2=a2+2 ^ (32 - s)*((a0*4294967296+a1)*2 ^ s):=by
   rw[Nat.mul_left_comm,Nat.mul_comm (2 ^ (32 - s)),b];omega
  rw[this,Nat.add_mul_div_left _ _ e];omega
 have F:(a0*4294967296+a1)*2 ^ s+a2/2 ^ (32 - s)<18446744073709551616:=by
  have v:2 ^ s*2 ^ (64 - s)=18446744073709551616:=by rw[←Nat.pow_add,show s+(64 - s)=64 by omega]
  obtain⟨r,x⟩:∃ r,18446744073709551616=2 ^ s*r:=⟨2 ^ (64 - s),v.symm⟩
  rw[x,Nat.mul_comm] at f
  have x1:=Nat.lt_of_mul_lt_mul_left f
  have x2:(a0*4294967296+a1+1)*2 ^ s≤r*2 ^ s:=Nat.mul_le_mul_right _ x1
  rw[Nat.add_mul,Nat.mul_comm r,←x] at x2
  omega
 rw[hq]
 refine⟨?_,F⟩
 rw[JB];unfold NM
 have G:IntKind.wrap .i64 (((n+3:Nat):Int) - 1)=((n+2:Nat):Int):=by rw[i64 (by omega)];omega
 have I:IntKind.wrap .i64 (((n+3:Nat):Int) - 2)=((n+1:Nat):Int):=by rw[i64 (by omega)];omega
 have L:IntKind.wrap .i64 (((n+3:Nat):Int) - 3)=((n:Nat):Int):=by rw[i64 (by omega)];omega
 have M:IntKind.wrap .i64 ((32:Int) - (s:Int))=((32 - s:Nat):Int):=by rw[i64 (by omega)];omega
 rw[G,I,L,M,WP i d,WP i d,show decide (((s:Nat):Int)<0)=false by simp,cf,WP i d,show decide (((32 - s:Nat):Int)<0)=false by simp,cf]
 rw[j,k,l,y7 A B,Int.toNat_natCast,Int.toNat_natCast,Nat.min_eq_left (by omega),Nat.min_eq_left (by omega),Lm,show(2:Int) ^ s=((2 ^ s:Nat):Int) by simp,dv,Ex f,rD f (by omega),VS u]
theorem mY {N:Nat} {a b:List Nat} {n m:Nat} {t o t' o':Bool} (U:n=a.length) (V:m=b.length) (v:Ad a) (hb:Ad b) (j:3≤a.length) (f:a.getLast (by intro h;rw[h] at j;simp at j)≠0) (hlb:b.length≤a.length) (x:val b≤val a) (G:fit a.length N) :
  ∃ (a1 a2 l q:Nat) (e:Bool),zX (val a) (val b) a1 a2 l q e∧a1<18446744073709551616∧a2<18446744073709551616∧l<18446744073709551616∧q<18446744073709551616∧∀ K:LA→O R,Nt N (Ab a) n t o (Ab b) m t' o' K=K (tH a1 a2 l q e):=by
 subst U V
 have h1:=G.1;have h2:=G.2
 obtain⟨k,I⟩:∃ k,a.length=k+3:=⟨a.length - 3,by omega⟩
 have L:a[k+2]'(by omega)≠0:=by
  rw[List.getLast_eq_getElem] at f
  simp only[I] at f
  exact f
 have ak:=At v (show k+2<a.length by omega)
 obtain⟨s,s1,s2,M,s4⟩:=tE (R:=R) (N:=N) (c:=a[k+2]'(by omega)) (by omega) ak
 have y:a.getD (k+2) 0=a[k+2]'(by omega):=by rw[List.getD_eq_getElem?_getD,List.getElem?_eq_getElem (by omega)];rfl
 have i:b.getD (k+2) 0≤a[k+2]'(by omega):=by
  apply Nat.le_of_not_lt;intro d
  have u:k+2<b.length:=by
   apply Nat.lt_of_not_le;intro C
   rw[List.getD_eq_getElem?_getD,List.getElem?_eq_none C] at d;simp at d
  have D:b.getD (k+2) 0=b[k+2]:=by rw[List.getD_eq_getElem?_getD,List.getElem?_eq_getElem u];rfl
  rw[D] at d
  have x1:=Zi v (n:=k+2) (by omega)
  have x2:=rL u
  have x3:(a[k+2]+1)*4294967296 ^ (k+2)≤b[k+2]*4294967296 ^ (k+2):=Nat.mul_le_mul_right _ d
  rw[Nat.mul_comm] at x2
  omega
 have F:b.getD (k+2) 0*2 ^ s<4294967296:=Nat.lt_of_le_of_lt (Nat.mul_le_mul_right _ i) M
 have hPP:0<4294967296 ^ k*2 ^ (32 - s):=Nat.mul_pos (Nat.pow_pos (by omega)) (Nat.pow_pos (by omega))
 have wa:=fun K=>ZI (R:=R) (N:=N) (a:=a) (m:=a.length) (n:=k) (s:=s) (t:=false) (o:=o) (K:=K) rfl v (by omega) s1 (by rw[y];exact M) (by omega)
 have wb:=fun K=>ZI (R:=R) (N:=N) (a:=b) (m:=b.length) (n:=k) (s:=s) (t:=false) (o:=o') (K:=K) rfl hb (by omega) s1 F (by omega)
 have hX:=(wa fun _=>none).2
 generalize hP:4294967296 ^ k*2 ^ (32 - s)=P at *
 have hYX:val b/P≤val a/P:=Nat.div_le_div_right x
 have S:∀ z,z/P*P≤z:=fun z=>Nat.div_mul_le_self z P
 have T:∀ z,z<(z/P+1)*P:=fun z=>by
  have:=Nat.div_add_mod z P;have:=Nat.mod_lt z hPP
  rw[Nat.add_mul,Nat.mul_comm];omega
 obtain⟨a1,a2,l,q,e,r1,r2,r3,r4,r5,r6⟩:=u6 (R:=R) (N:=N) (X:=val a/P) (Y:=val b/P) (A:=val a) (B:=val b) (P:=P) hX hYX (S _) (T _) (S _) (T _) 128 N (val a/P) (val b/P) 0 1 0 0 0 1 false (by omega) (by
  have:=Nat.mul_lt_mul'' hX (Nat.lt_of_le_of_lt hYX hX)
  exact this) (Lead.init hYX) (.inl rfl) (by omega) (by omega) (by omega) (by omega)
 refine⟨a1,a2,l,q,e,r1,r2,r3,r4,r5,fun K=>?_⟩
 rw[DY];unfold Ua
 have w1:IntKind.wrap .i64 (((a.length:Nat):Int) - 1)=((k+2:Nat):Int):=by rw[i64 (by omega)];omega
 rw[w1,Ak (by omega),ct,CG (by omega),s4,show((a.length:Nat):Int)=((k+3:Nat):Int) by rw[I],(wa _).1,(wb _).1]
 exact r6 K
theorem P9 {N:Nat} {a b:List Nat} {n m:Nat} {x y:Nat} {t o t' o':Bool} (v:n=a.length) (z:m=b.length) (i:Ad a) (j:Ad b) (d:x<18446744073709551616) (e:y<18446744073709551616) (f:val b*y≤val a*x) (c:fit (a.length+b.length+4) N) :
  ∃ S,Ad S∧val S=val a*x - val b*y∧∀ K:Nat→LA→O R,Dr N (Ab a) n t o (x:Int) (Ab b) m t' o' (y:Int) K=K (Ae (val a*x - val b*y)).length (Ab S):=by
 subst v z
 have C:=c.1;have D:=c.2
 obtain⟨Sx,x1,x2,x3⟩:=Gp (R:=R) (N:=N) d (by omega)
 obtain⟨Sy,y1,y2,y3⟩:=Gp (R:=R) (N:=N) e (by omega)
 have lx:=Zd d
 have ly:=Zd e
 obtain⟨P1,A,k,l⟩:=QT (R:=R) (N:=N) (a:=a) (b:=Ae x) (t:=false) (o:=o) (t':=false) (o':=true) rfl rfl i (Aa _) (c.le (by omega))
 obtain⟨P2,B,q,s⟩:=QT (R:=R) (N:=N) (a:=b) (b:=Ae y) (t:=false) (o:=o') (t':=false) (o':=true) rfl rfl j (Aa _) (c.le (by omega))
 rw[Ac] at k l q s
 have l1:(Ae (val a*x)).length≤a.length+2:=Bj (by
  have:=Nat.mul_lt_mul'' (Bb i) d
  rw[Nat.pow_add];exact this)
 have l2:(Ae (val b*y)).length≤b.length+2:=Bj (by
  have:=Nat.mul_lt_mul'' (Bb j) e
  rw[Nat.pow_add];exact this)
 obtain⟨S,s1,s2,u⟩:=QS (R:=R) (N:=N) (a:=Ae (val a*x)) (b:=Ae (val b*y)) (t:=false) (o:=true) (t':=false) (o':=true) rfl rfl (Aa _) (Aa _) (c.le (by omega)) (by rw[Ac,Ac];exact f)
 rw[Ac,Ac] at s2 u
 refine⟨S,s1,s2,fun K=>?_⟩
 rw[EC];unfold EB
 have tx:List.take ((Ae x).length*1) (Ab Sx)=Ab (Ae x):=by rw[←x2,He x1]
 have ty:List.take ((Ae y).length*1) (Ab Sy)=Ab (Ae y):=by rw[←y2,He y1]
 have t1:List.take ((Ae (val a*x)).length*1) (Ab P1)=Ab (Ae (val a*x)):=by rw[←k,He A]
 have t2:List.take ((Ae (val b*y)).length*1) (Ab P2)=Ab (Ae (val b*y)):=by rw[←q,He B]
 rw[x3,tx,l,y3,ty,s,t1,t2,u]
end
end Gx

namespace Gx
open Go Go.Proofs
section
variable {R:Type}
theorem u7 {N:Nat} (hN:4≤N):∀ (k b x y:Nat),k<b→x*y<2 ^ k→y≤x→x<18446744073709551616→∃ S,Ad S∧val S=Nat.gcd x y∧∀ (d:LA→Nat→Bool→LA→Nat→Bool→O R) (K:Nat→LA→O R),K1 N d K b (x:Int) (y:Int)=K (Ae (Nat.gcd x y)).length (Ab S):=by
 have base:∀ (b x:Nat),x<18446744073709551616→∃ S,Ad S∧val S=Nat.gcd x 0∧∀ (d:LA→Nat→Bool→LA→Nat→Bool→O R) (K:Nat→LA→O R),K1 N d K (b+1) (x:Int) ((0:Nat):Int)=K (Ae (Nat.gcd x 0)).length (Ab S):=by
  intro b x e
  obtain⟨S,s1,s2,i⟩:=Gp (R:=R) (N:=N) e hN
  refine⟨S,s1,by rw[s2,Nat.gcd_zero_right],fun d K=>?_⟩
  rw[K1];unfold Zg
  rw[show(((0:Nat):Int) != 0)=false by rfl,cf,i,Nat.gcd_zero_right]
 intro k
 induction k with
 | zero =>
  intro b x y j c f e
  obtain⟨b,rfl⟩:∃ F,b=F+1:=⟨b - 1,by omega⟩
  have l:y=0:=by
   rcases Nat.eq_zero_or_pos y with h | h
   ·exact h
   ·have q:=Nat.mul_le_mul_left x (show 1≤y by omega)
    rw[Nat.pow_zero] at c;omega
  subst l
  exact base b x e
 | succ k m =>
  intro b x y j c f e
  obtain⟨b,rfl⟩:∃ F,b=F+1:=⟨b - 1,by omega⟩
  rcases Nat.eq_zero_or_pos y with h | h
  ·subst h;exact base b x e
  ·have s:=EH (show 1≤y by omega) f
   have t:=Nat.mod_lt x h
   obtain⟨S,s1,s2,i⟩:=m b y (x%y) (by omega) (by rw[Nat.pow_succ] at c;omega) (by omega) (by omega)
   have n:Nat.gcd y (x%y)=Nat.gcd x y:=by rw[Nat.gcd_comm,←Nat.gcd_rec,Nat.gcd_comm]
   rw[n] at s2 i
   refine⟨S,s1,s2,fun d K=>?_⟩
   rw[K1];unfold Zg
   rw[show((y:Int) != 0)=true by rw[bne_iff_ne];omega,ct,cx (by omega),cf,EF]
   exact i d K
theorem kV {a b u v s t x y:Nat} (d:x+v*b=u*a) (e:y+s*a=t*b) (c:u*t=v*s+1):t*x+v*y=a∧s*x+u*y=b:=by
 constructor
 ·have f:t*x+t*v*b=t*u*a:=by rw[Nat.mul_assoc,Nat.mul_assoc,←Nat.mul_add,d]
  have i:v*y+v*s*a=v*t*b:=by rw[Nat.mul_assoc,Nat.mul_assoc,←Nat.mul_add,e]
  have j:t*u*a=v*s*a+a:=by rw[Nat.mul_comm t u,c,Nat.add_mul,Nat.one_mul]
  have k:t*v*b=v*t*b:=by rw[Nat.mul_comm t v]
  omega
 ·have f:s*x+s*v*b=s*u*a:=by rw[Nat.mul_assoc,Nat.mul_assoc,←Nat.mul_add,d]
  have i:u*y+u*s*a=u*t*b:=by rw[Nat.mul_assoc,Nat.mul_assoc,←Nat.mul_add,e]
  have j:u*t*b=v*s*b+b:=by rw[c,Nat.add_mul,Nat.one_mul]
  have k:s*u*a=u*s*a:=by rw[Nat.mul_comm s u]
  have l:s*v*b=v*s*b:=by rw[Nat.mul_comm s v]
  omega
theorem kW {A B a b p q r s:Nat} (hA:p*a+q*b=A) (hB:r*a+s*b=B) (c:1≤p) (hq:1≤q) (d:1≤r) (e:b≤a):2*(a*b)≤A*B∧a≤A:=by
 have j:=Nat.mul_le_mul_right a c
 have k:=Nat.mul_le_mul_right b hq
 have l:=Nat.mul_le_mul_right a d
 have f:2*b≤A:=by omega
 have i:a≤B:=by omega
 have:=Nat.mul_le_mul f i
 refine⟨?_,by omega⟩
 rw[Nat.mul_comm a b,←Nat.mul_assoc];exact this
theorem ya {u0 u1 v0 v1:Nat} {e:Bool}:setCells [(.int .u64 0),(.int .u64 0),(.int .u64 0),(.int .u64 0),(.bool false)] 0 (tH u0 u1 v0 v1 e)=tH u0 u1 v0 v1 e:=rfl
theorem og {N:Nat}:∀ (k c A B:Nat) (d f:Bool),k<c→A*B<2 ^ k→B≤A→fit (2*(Ae A).length+4) N→∃ S,Ad S∧val S=Nat.gcd A B∧∀ K:Nat→LA→O R,C8 N K c (Ab (Ae A)) (Ae A).length d (Ab (Ae B)) (Ae B).length f=K (Ae (Nat.gcd A B)).length (Ab S):=by
 have base:∀ (c A:Nat) (d f:Bool),fit (2*(Ae A).length+4) N→∃ S,Ad S∧val S=Nat.gcd A 0∧∀ K:Nat→LA→O R,C8 N K (c+1) (Ab (Ae A)) (Ae A).length d (Ab (Ae 0)) (Ae 0).length f=K (Ae (Nat.gcd A 0)).length (Ab S):=by
  intro c A d f j
  refine⟨Ae A,Aa _,by rw[Ac,Nat.gcd_zero_right],fun K=>?_⟩
  rw[C8];unfold Sf
  rw[Bt,show decide ((((([]:List Nat).length:Nat)):Int)>0)=false by decide,cf,Q3 rfl (Aa _) (j.le (by omega)),Ac,Nat.gcd_zero_right]
 intro k
 induction k with
 | zero =>
  intro c A B d f U n m j
  obtain⟨c,rfl⟩:∃ F,c=F+1:=⟨c - 1,by omega⟩
  have hy:B=0:=by
   rcases Nat.eq_zero_or_pos B with h | h
   ·exact h
   ·have h3:=Nat.mul_le_mul_left A (show 1≤B by omega)
    rw[Nat.pow_zero] at n;omega
  subst hy
  exact base c A d f j
 | succ k V =>
  intro c A B d f U n m j
  have h1:=j.1;have h2:=j.2
  obtain⟨c,rfl⟩:∃ F,c=F+1:=⟨c - 1,by omega⟩
  rcases Nat.eq_zero_or_pos B with h | h
  ·subst h;exact base c A d f j
  have X:=An m
  have hbl:(Ae B).length≠0:=fun h0=>by have:=A0.1 h0;omega
  have C:decide ((((Ae B).length:Nat):Int)>0)=true:=by rw[decide_eq_true_eq];omega
  by_cases D:(Ae A).length≤2
  ·have av:=QU D
   obtain⟨S,s1,s2,s⟩:=u7 (R:=R) (N:=N) (by omega) 128 N A B (by omega) (by have:=Nat.mul_lt_mul'' av (Nat.lt_of_le_of_lt m av);exact this) m av
   refine⟨S,s1,s2,fun K=>?_⟩
   rw[C8];unfold Sf
   rw[C,ct,show decide ((((Ae A).length:Nat):Int)≤2)=true by rw[decide_eq_true_eq];omega,ct,W9 rfl (Aa _) D (by omega),W9 rfl (Aa _) (by omega) (by omega),Ac,Ac]
   exact s _ K
  ·have Y:decide ((((Ae A).length:Nat):Int)≤2)=false:=by rw[decide_eq_false_iff_not];omega
   obtain⟨a1,a2,i,l,e,v,r2,r3,r4,r5,r6⟩:=mY (R:=R) (N:=N) (a:=Ae A) (b:=Ae B) (t:=false) (o:=d) (t':=false) (o':=f) rfl rfl (Aa _) (Aa _) (by omega) (du _ _) X (by rw[Ac,Ac];exact m) (j.le (by omega))
   rw[Ac,Ac] at v
   have start:∀ K:Nat→LA→O R,C8 N K (c+1) (Ab (Ae A)) (Ae A).length d (Ab (Ae B)) (Ae B).length f=cond ((i:Int)==0) (Cx N (Ab (Ae A)) (Ae A).length false d (Ab (Ae B)) (Ae B).length false f (fun bm ag bn bo ar=>(C8 N K c (Ab (Ae B)) (Ae B).length f (List.take (ag*1) ar) ag false))) (cond e (Dr N (Ab (Ae A)) (Ae A).length false d (a1:Int) (Ab (Ae B)) (Ae B).length false f (i:Int) (fun ah ax=>Dr N (Ab (Ae B)) (Ae B).length false f (l:Int) (Ab (Ae A)) (Ae A).length false d (a2:Int) (fun ai ba=>(C8 N K c (List.take (ah*1) ax) ah false (List.take (ai*1) ba) ai false)))) (Dr N (Ab (Ae B)) (Ae B).length false f (i:Int) (Ab (Ae A)) (Ae A).length false d (a1:Int) (fun aj bd=>Dr N (Ab (Ae A)) (Ae A).length false d (a2:Int) (Ab (Ae B)) (Ae B).length false f (l:Int) (fun ak bg=>(C8 N K c (List.take (aj*1) bd) aj false (List.take (ak*1) bg) ak false))))):=by
    intro K
    rw[C8];unfold Sf
    rw[C,ct,Y,cf,r6,ya]
    rfl
   by_cases u:i=0
   ·obtain⟨Sq,Sr,q1,q2,q3,q4,q5⟩:=Ug (R:=R) (N:=N) (a:=Ae A) (b:=Ae B) (t:=false) (o:=d) (t':=false) (o':=f) rfl rfl (Aa _) (Aa _) (by rw[Ac];omega) (j.le (by omega))
    rw[Ac,Ac] at q2 q4 q5
    have hm:=Nat.mod_lt A h
    have hh:=EH (show 1≤B by omega) m
    obtain⟨S,s1,s2,s⟩:=V c B (A%B) f false (by omega) (by rw[Nat.pow_succ] at n;omega) (by omega) (j.le (by omega))
    have z:Nat.gcd B (A%B)=Nat.gcd A B:=by rw[Nat.gcd_comm,←Nat.gcd_rec,Nat.gcd_comm]
    rw[z] at s2 s
    refine⟨S,s1,s2,fun K=>?_⟩
    have tk:List.take ((Ae (A%B)).length*1) (Ab Sr)=Ab (Ae (A%B)):=by rw[←q4,He q3]
    rw[start,zo u,ct,q5,tk,s]
   ·rcases v with v | ⟨p1,p2,v⟩
    ·exact absurd v u
    cases e with
    | true =>
     obtain⟨c1,c2,c3,G⟩:=v
     obtain⟨S1,t1,t2,t3⟩:=P9 (R:=R) (N:=N) (a:=Ae A) (b:=Ae B) (x:=a1) (y:=i) (t:=false) (o:=d) (t':=false) (o':=f) rfl rfl (Aa _) (Aa _) r2 r4 (by rw[Ac,Ac,Nat.mul_comm,Nat.mul_comm A];exact c1) (j.le (by omega))
     obtain⟨S2,w1,I,L⟩:=P9 (R:=R) (N:=N) (a:=Ae B) (b:=Ae A) (x:=l) (y:=a2) (t:=false) (o:=f) (t':=false) (o':=d) rfl rfl (Aa _) (Aa _) r5 r3 (by rw[Ac,Ac,Nat.mul_comm,Nat.mul_comm B];exact c2) (j.le (by omega))
     rw[Ac,Ac] at t2 t3 I L
     have M:(A*a1 - B*i)+i*B=a1*A:=by rw[Nat.mul_comm A,Nat.mul_comm B];omega
     have T:(B*l - A*a2)+a2*A=l*B:=by rw[Nat.mul_comm A,Nat.mul_comm B];omega
     have q:B*l - A*a2≤A*a1 - B*i:=by rw[Nat.add_mul,Nat.add_mul] at c3;omega
     obtain⟨i1,i2⟩:=kV M T G
     have z:=oO M T G
     obtain⟨i3,i4⟩:=kW i1 i2 p2 (by omega) p1 q
     have hl:=An i4
     obtain⟨S,s1,s2,s⟩:=V c (A*a1 - B*i) (B*l - A*a2) false false (by omega) (by rw[Nat.pow_succ] at n;omega) q (j.le (by omega))
     rw[z] at s2 s
     refine⟨S,s1,s2,fun K=>?_⟩
     have tk1:List.take ((Ae (A*a1 - B*i)).length*1) (Ab S1)=Ab (Ae (A*a1 - B*i)):=by rw[←t2,He t1]
     have NV:List.take ((Ae (B*l - A*a2)).length*1) (Ab S2)=Ab (Ae (B*l - A*a2)):=by rw[←I,He w1]
     rw[start,cx u,cf,ct,t3,L,tk1,NV,s]
    | false =>
     obtain⟨c1,c2,c3,G⟩:=v
     obtain⟨S1,t1,t2,t3⟩:=P9 (R:=R) (N:=N) (a:=Ae B) (b:=Ae A) (x:=i) (y:=a1) (t:=false) (o:=f) (t':=false) (o':=d) rfl rfl (Aa _) (Aa _) r4 r2 (by rw[Ac,Ac,Nat.mul_comm,Nat.mul_comm B];exact c1) (j.le (by omega))
     obtain⟨S2,w1,I,L⟩:=P9 (R:=R) (N:=N) (a:=Ae A) (b:=Ae B) (x:=a2) (y:=l) (t:=false) (o:=d) (t':=false) (o':=f) rfl rfl (Aa _) (Aa _) r3 r5 (by rw[Ac,Ac,Nat.mul_comm,Nat.mul_comm A];exact c2) (j.le (by omega))
     rw[Ac,Ac] at t2 t3 I L
     have M:(B*i - A*a1)+a1*A=i*B:=by rw[Nat.mul_comm A,Nat.mul_comm B];omega
     have T:(A*a2 - B*l)+l*B=a2*A:=by rw[Nat.mul_comm A,Nat.mul_comm B];omega
     have q:A*a2 - B*l≤B*i - A*a1:=by rw[Nat.add_mul,Nat.add_mul] at c3;omega
     obtain⟨i1,i2⟩:=kV T M G
     have z:=oO T M G
     rw[Nat.gcd_comm] at z
     rw[Nat.add_comm] at i1 i2
     obtain⟨i3,i4⟩:=kW i1 i2 p2 (by omega) p1 q
     have hl:=An i4
     obtain⟨S,s1,s2,s⟩:=V c (B*i - A*a1) (A*a2 - B*l) false false (by omega) (by rw[Nat.pow_succ] at n;omega) q (j.le (by omega))
     rw[z] at s2 s
     refine⟨S,s1,s2,fun K=>?_⟩
     have tk1:List.take ((Ae (B*i - A*a1)).length*1) (Ab S1)=Ab (Ae (B*i - A*a1)):=by rw[←t2,He t1]
     have NV:List.take ((Ae (A*a2 - B*l)).length*1) (Ab S2)=Ab (Ae (A*a2 - B*l)):=by rw[←I,He w1]
     rw[start,cx u,cf,cf,t3,L,tk1,NV,s]
theorem oh (n m:Nat):4294967296 ^ n*4294967296 ^ m=2 ^ (32*(n+m)):=by
 rw[←Nat.pow_add,show(4294967296:Nat)=2 ^ 32 by rfl,←Nat.pow_mul]
theorem wh {N:Nat} {a b:List Nat} {n m:Nat} {t o t' o':Bool} (k:n=a.length) (l:m=b.length) (f:Ad a) (i:Ad b) (d:fit (2*(a.length+b.length)+4) N) :
  ∃ S,Ad S∧val S=Nat.gcd (val a) (val b)∧∀ K:Nat→LA→O R,EE N (Ab a) n t o (Ab b) m t' o' K=K (Ae (Nat.gcd (val a) (val b))).length (Ab S):=by
 have q:=d.1;have s:=d.2
 have la:=(Au f).2
 have lb:=(Au i).2
 have c:val a*val b<2 ^ (32*(a.length+b.length)):=by rw[←oh];exact Nat.mul_lt_mul'' (Bb f) (Bb i)
 have start:∀ K:Nat→LA→O R,EE N (Ab a) n t o (Ab b) m t' o' K=cond (decide (E2 (val a) (val b)<0)) (C8 N K N (Ab (Ae (val b))) (Ae (val b)).length o' (Ab (Ae (val a))) (Ae (val a)).length o) (C8 N K N (Ab (Ae (val a))) (Ae (val a)).length o (Ab (Ae (val b))) (Ae (val b)).length o'):=by
  intro K
  rw[ez];unfold cy HJ NU
  dsimp only
  rw[Bc k f (d.le (by omega)),Bc l i (d.le (by omega)),Qz rfl rfl (Aa _) (Aa _) (d.le (by omega)),Ac,Ac]
 by_cases e:val a<val b
 ·obtain⟨S,s1,s2,j⟩:=og (R:=R) (N:=N) (32*(a.length+b.length)) N (val b) (val a) o' o (by omega) (by rw[Nat.mul_comm];exact c) (by omega) (d.le (by omega))
  rw[Nat.gcd_comm] at s2
  refine⟨S,s1,s2,fun K=>?_⟩
  rw[start,show decide (E2 (val a) (val b)<0)=true by (unfold E2;rw[if_pos e];rfl),ct,j,Nat.gcd_comm]
 ·obtain⟨S,s1,s2,j⟩:=og (R:=R) (N:=N) (32*(a.length+b.length)) N (val a) (val b) o o' (by omega) c (by omega) (d.le (by omega))
  refine⟨S,s1,s2,fun K=>?_⟩
  rw[start,show decide (E2 (val a) (val b)<0)=false by (unfold E2;rw[if_neg e];split<;>rfl),cf,j]
end
end Gx

namespace Gx
open Go Go.Proofs
open IntKind (wrap)
set_option maxRecDepth 100000
noncomputable section
variable {R:Type} (N:Nat)
def NW (d:LA) (f:Bool) (g:LA) (i:Nat) (m l:Bool) (r0:LA→O R):O R :=
 (Pa d fun v=>(Ip 1 (d.drop 1) fun w x=>(cond (Nat.beq (d.length) 2) (QP N [(.bool v),(.imm w x 1 false f)] (f||false) (fun q c o=>(Ls N g i false l (fun e p=>(cond (((c:Nat):Int)==0) (r0 [(.bool false),.nsl,(.imm [(.int .u32 1)] 1 1 false false)]) (EE N (o.take (c*1)) c false true (p.take (e*1)) e false true (fun b n=>(cond ((((b:Nat):Int) != 1)==false) (cond (Ao 0 b) (F3 .u32 n fun y=>(cond (cond false true (y != 1)) (Cx N (o.take (c*1)) c false true (n.take (b*1)) b false true (fun r ae af z ag=>(Cx N (p.take (e*1)) e false true (n.take (b*1)) b false true (fun s ah ai aa aj=>(r0 [(.bool q),(.imm (z.take (r*1)) r 1 false false),(.imm (aa.take (s*1)) s 1 false false)]))))) (r0 [(.bool q),(.imm (o.take (c*1)) c 1 false false),(.imm (p.take (e*1)) e 1 false false)]))) none) (Cx N (o.take (c*1)) c false true (n.take (b*1)) b false true (fun t ak al ab am=>(Cx N (p.take (e*1)) e false true (n.take (b*1)) b false true (fun u an ao ac ap=>(r0 [(.bool q),(.imm (ab.take (t*1)) t 1 false false),(.imm (ac.take (u*1)) u 1 false false)]))))))))))))) none)))
def Nx:=(Aj (@NW R)).1
theorem JT:@Nx R=@NW R:=(Aj _).2
def mZ:Hints:={ H:=hL,modes:=[(3,0)],cob:=[2] }
def oi:D7:=[(211,rJ N),(212,No N),(213,uY N),(134,Ze N)]
def RF (F:KF R):LA→O R:=(fun ad=>F (.pagg ad false) [])
theorem RG (d:LA) (f:Bool) (g:LA) (i:Nat) (m l:Bool) (F:KF R):Cy (oi N) mZ N 129 [(.pagg d f),(.imm g i 1 m l)] [] F=(Nx N d f g i m l (RF F)):=by
 rw[JT]
 kernel_rfl
def JU (a:LA) (h:Ah) (k:KF R):O R :=
 match a,h with
 | [(.pagg d f),(.imm g i 1 m l)],[]=>(Nx N d f g i m l (RF k))
 | _,_=>none
theorem RH:Ap N 129 @JU:=by
 intro R Q a h k j;unfold JU;split;exact Ax (RG ..) (RG ..) ⟨rK N,Np N,uZ N,Zf N,trivial⟩;exact A2
def RI:=Ay (RH N)
def RK:=Cz (RH N)
def RL (b:LA) (c:Bool) (r0:LA→O R):O R :=
 (cond (Nat.ble 3 (b.length)) (Jv N (b.take 3) c (fun f g i=>(cond i (F5 N f g (fun d=>(cond ((Nat.beq 0 0)&&((Nat.beq (d.length) 3)&&(Nat.beq 3 3))) (cond (Nat.ble 3 (d.length)) (r0 (d.take 3)) none) none))) (cond (Nat.ble 3 (b.length)) (Oj N (b.take 3) c (fun l m n o p=>(Nx N l m n o false p (fun e=>(cond ((Nat.beq 0 0)&&((Nat.beq (e.length) 3)&&(Nat.beq 3 3))) (cond (Nat.ble 3 (e.length)) (r0 (e.take 3)) none) none))))) none)))) none)
def Zj:=(Aj (@RL R)).1
theorem EI:@Zj R=@RL R:=(Aj _).2
def u9:D7:=[(127,ZA N),(128,DT N),(130,DV N),(129,RI N)]
def fD (F:KF R):LA→O R:=(fun q=>F (.pagg q false) [])
theorem fE (b:LA) (c:Bool) (F:KF R):Cy (u9 N) Ln N 62 [(.pagg b c)] [] F=(Zj N b c (fD F)):=by
 rw[EI]
 kernel_rfl
def ZJ (a:LA) (h:Ah) (k:KF R):O R :=
 match a,h with
 | [(.pagg b c)],[]=>(Zj N b c (fD k))
 | _,_=>none
theorem fF:Ap N 62 @ZJ:=by
 intro R Q a h k j;unfold ZJ;split;exact Ax (fE ..) (fE ..) ⟨ZB N,DU N,DW N,RK N,trivial⟩;exact A2
def NX:=Ay (fF N)
def NY:=Cz (fF N)
def m0 (c:LA) (e:Bool) (d:LA) (b:Bool) (r0:LA→Bool→O R):O R :=
 (Pa c fun m=>(Ip 1 (c.drop 1) fun n o=>(cond (Nat.beq (c.length) 2) (Pa d fun g=>(Ip 1 (d.drop 1) fun i l=>(cond (Nat.beq (d.length) 2) (Hr N [(.bool g),(.imm i l 1 false b)] (b||false) (fun p=>(cond (p==0) (r0 [(.bool false),.nsl,.nsl] false) (Zj N [(.bool (!(m==g))),(.imm n o 1 false e),(.imm i l 1 false b)] (e||(b||false)) (fun f=>(cond ((Nat.beq 0 0)&&((Nat.beq (f.length) 3)&&(Nat.beq 3 3))) (cond (Nat.ble 3 (f.length)) (r0 (f.take 3) true) none) none)))))) none))) none)))
def fG:=(Aj (@m0 R)).1
theorem fH:@fG R=@m0 R:=(Aj _).2
def u_:Hints:={ H:=hL,modes:=[(3,0),(0,0)],cob:=[2,3] }
def wi:D7:=[(125,Ry N),(62,NX N)]
def kX (F:KF R):LA→Bool→O R:=(fun q r=>F (.tup [(.pagg q false),(.bool r)]) [])
theorem kY (c:LA) (e:Bool) (d:LA) (b:Bool) (F:KF R):Cy (wi N) u_ N 82 [(.pagg c e),(.pagg d b)] [] F=(fG N c e d b (kX F)):=by
 rw[fH]
 kernel_rfl
def fI (a:LA) (h:Ah) (k:KF R):O R :=
 match a,h with
 | [(.pagg c e),(.pagg d b)],[]=>(fG N c e d b (kX k))
 | _,_=>none
theorem kZ:Ap N 82 @fI:=by
 intro R Q a h k j;unfold fI;split;exact Ax (kY ..) (kY ..) ⟨Rz N,NY N,trivial⟩;exact A2
def ua:=Ay (kZ N)
def ud:=Cz (kZ N)
def Qa (N:Nat) (r0:Nat→LA→O R) (d:LA) (c:Nat) (f e:Bool) (k0:Int→O R) (b:Int):O R :=
 (cond ((decide (b>0))==true) (cond (Ao (wrap .i64 (b - 1)) c) (F3 .u32 (d.drop (((wrap .i64 (b - 1)).toNat)*1)) fun g=>(cond (cond true (g==0) false) (k0 (wrap .i64 (b - 1))) (cond ((decide ((0:Int)≤(0:Int)))&&((decide (0≤b))&&((decide (b≤((c:Nat):Int)))&&(decide (((c:Nat):Int)≤((c:Nat):Int)))))) (cond ((!e)||(Ck (d.take ((b.toNat)*1)))) (cond ((Nat.ble (0+(b.toNat)) 140737488355328)&&(Nat.ble ((0+(b.toNat))*4) 140737488355328)) (r0 (0+(b.toNat)) (d.take ((b.toNat)*1))) none) none) none))) none) (cond ((decide ((0:Int)≤(0:Int)))&&((decide (0≤b))&&((decide (b≤((c:Nat):Int)))&&(decide (((c:Nat):Int)≤((c:Nat):Int)))))) (cond ((!e)||(Ck (d.take ((b.toNat)*1)))) (cond ((Nat.ble (0+(b.toNat)) 140737488355328)&&(Nat.ble ((0+(b.toNat))*4) 140737488355328)) (r0 (0+(b.toNat)) (d.take ((b.toNat)*1))) none) none) none))
def H7 (r0:Nat→LA→O R) (d:LA) (c:Nat) (f e:Bool):Nat→Int→O R
 | 0,_=>none
 | n+1,b=>(Qa N r0 d c f e (H7 r0 d c f e n) b)
def Xn (N:Nat) (r0:Nat→LA→O R) (q0:Int→O R) (d:LA) (c:Nat) (f e:Bool):O R :=
 (q0 ((c:Nat):Int))
def Cc:=(Aj (fun (N:Nat) (d:LA) (c:Nat) (f e:Bool) (r0:Nat→LA→O R)=>(Xn N r0 (fun b=>(H7 N r0 d c f e N b)) d c f e))).1
theorem Zk (d c f e r0):(@Cc R N d c f e r0)=(Xn N r0 (fun b=>(H7 N r0 d c f e N b)) d c f e):=by rw[Cc,(Aj _).2]
def oq (F:KF R):=Ty Tryz.f150 YQ [] [] N F
def Ok (F:KF R):Nat→LA→O R:=(fun i l=>F (.own 300000 0 i) (hq [(bQ 1 l)]))
def ot (d:LA) (c:Nat) (f e:Bool) (b:Int):St:=⟨[(0,(.imm d c 1 f e)),(3,(iv b))],[]⟩
def ou (F:KF R):=oq N F [1,1,0,0] []
theorem EJ (F:KF R) (d:LA) (c:Nat) (f e:Bool):∀ (n:Nat) (b:Int),A5 (ou N F) n (ot d c f e b)=(H7 N (Ok F) d c f e n b)
 | 0,_=>by kernel_rfl
 | n+1,b=>Eq.trans (by kernel_rfl) (E9 (Qa N (Ok F) d c f e · b) (funext fun b=>(EJ F d c f e n b)):_)
theorem ZK (d:LA) (c:Nat) (f e:Bool) (F:KF R):Cy [] YQ N 150 [(.imm d c 1 f e)] [] F=(Cc N d c f e (Ok F)):=by
 rw[Zk]
 exact Eq.trans (by kernel_rfl) (E9 (Xn N (Ok F) · d c f e) (funext fun b=>(Aw ..).trans (EJ N F d c f e N b)):_)
def RM (a:LA) (h:Ah) (k:KF R):O R :=
 match a,h with
 | [(.imm d c 1 f e)],[]=>(Cc N d c f e (Ok k))
 | _,_=>none
theorem ZL:Ap N 150 @RM:=by
 intro R Q a h k j;unfold RM;split;exact Ax (ZK ..) (ZK ..) trivial;exact A2
def D0:=Ay (ZL N)
def D1:=Cz (ZL N)
def Pd (b:Int) (r0:Nat→LA→O R):O R :=
 (Cc N [(.int .u32 (wrap .u32 b)),(.int .u32 (wrap .u32 (Int.fdiv b (2 ^ 32))))] 2 false true (fun c d=>(r0 c d)))
def Dg:=(Aj (@Pd R)).1
theorem Sg:@Dg R=@Pd R:=(Aj _).2
def WQ:D7:=[(150,D0 N)]
def Uh (F:KF R):Nat→LA→O R:=(fun e f=>F (.own 300000 0 e) (hq [(bQ 1 f)]))
theorem Ui (b:Int) (F:KF R):Cy (WQ N) wN N 88 [(.int .u64 b)] [] F=(Dg N b (Uh F)):=by
 rw[Sg]
 kernel_rfl
def Sh (a:LA) (h:Ah) (k:KF R):O R :=
 match a,h with
 | [(.int .u64 b)],[]=>(Dg N b (Uh k))
 | _,_=>none
theorem Uj:Ap N 88 @Sh:=by
 intro R Q a h k j;unfold Sh;split;exact Ax (Ui ..) (Ui ..) ⟨D1 N,trivial⟩;exact A2
def Uk:=Ay (Uj N)
def Ul:=Cz (Uj N)
def WR (b:Bool) (c:LA) (d:Nat) (f e:Bool) (r0:LA→O R):O R :=
 (Cc N c d false e (fun g i=>(cond (b==true) (r0 [(.bool (cond true (decide (((g:Nat):Int)>0)) false)),(.imm (i.take (g*1)) g 1 false false)]) (r0 [(.bool false),(.imm (i.take (g*1)) g 1 false false)]))))
def Dv:=(Aj (@WR R)).1
theorem RN:@Dv R=@WR R:=(Aj _).2
def rN:D7:=[(150,D0 N)]
def ZM (F:KF R):LA→O R:=(fun l=>F (.pagg l false) [])
theorem ZN (b:Bool) (c:LA) (d:Nat) (f e:Bool) (F:KF R):Cy (rN N) Ln N 83 [(.bool b),(.imm c d 1 f e)] [] F=(Dv N b c d f e (ZM F)):=by
 rw[RN]
 kernel_rfl
def RO (a:LA) (h:Ah) (k:KF R):O R :=
 match a,h with
 | [(.bool b),(.imm c d 1 f e)],[]=>(Dv N b c d f e (ZM k))
 | _,_=>none
theorem ZO:Ap N 83 @RO:=by
 intro R Q a h k j;unfold RO;split;exact Ax (ZN ..) (ZN ..) ⟨D1 N,trivial⟩;exact A2
def F7:=Ay (ZO N)
def F8:=Cz (ZO N)
def Zl (b:Int) (r0:LA→O R):O R :=
 (cond (decide (b<0)) (Dg N (wrap .u64 ((wrap .u64 (wrap .i64 ((0:Int) - (wrap .i64 (b+1)))))+1)) (fun e g=>(Dv N true (g.take (e*1)) e false true (fun c=>(cond ((Nat.beq 0 0)&&((Nat.beq (c.length) 2)&&(Nat.beq 2 2))) (cond (Nat.ble 2 (c.length)) (r0 (c.take 2)) none) none))))) (Dg N (wrap .u64 b) (fun f i=>(Dv N false (i.take (f*1)) f false true (fun d=>(cond ((Nat.beq 0 0)&&((Nat.beq (d.length) 2)&&(Nat.beq 2 2))) (cond (Nat.ble 2 (d.length)) (r0 (d.take 2)) none) none))))))
def D2:=(Aj (@Zl R)).1
theorem A_:@D2 R=@Zl R:=(Aj _).2
def jB:D7:=[(88,Uk N),(83,F7 N)]
def EK (F:KF R):LA→O R:=(fun l=>F (.pagg l false) [])
theorem EL (b:Int) (F:KF R):Cy (jB N) Ln N 32 [(iv b)] [] F=(D2 N b (EK F)):=by
 rw[A_]
 kernel_rfl
def BA (a:LA) (h:Ah) (k:KF R):O R :=
 match a,h with
 | [(.int .i64 b)],[]=>(D2 N b (EK k))
 | _,_=>none
theorem EM:Ap N 32 @BA:=by
 intro R Q a h k j;unfold BA;split;exact Ax (EL ..) (EL ..) ⟨Ul N,F8 N,trivial⟩;exact A2
def L0:=Ay (EM N)
def L5:=Cz (EM N)
def WS (b:LA) (c:Bool) (r0:LA→O R):O R :=
 (Pa b fun e=>(Ip 1 (b.drop 1) fun f g=>(Dv N e f g false c (fun d=>(cond ((Nat.beq 0 0)&&((Nat.beq (d.length) 2)&&(Nat.beq 2 2))) (cond (Nat.ble 2 (d.length)) (r0 (d.take 2)) none) none)))))
def Fz:=(Aj (@WS R)).1
theorem RP:@Fz R=@WS R:=(Aj _).2
def rO:D7:=[(83,F7 N)]
def ZP (F:KF R):LA→O R:=(fun i=>F (.pagg i false) [])
theorem ZQ (b:LA) (c:Bool) (F:KF R):Cy (rO N) Ln N 26 [(.pagg b c)] [] F=(Fz N b c (ZP F)):=by
 rw[RP]
 kernel_rfl
def RQ (a:LA) (h:Ah) (k:KF R):O R :=
 match a,h with
 | [(.pagg b c)],[]=>(Fz N b c (ZP k))
 | _,_=>none
theorem ZR:Ap N 26 @RQ:=by
 intro R Q a h k j;unfold RQ;split;exact Ax (ZQ ..) (ZQ ..) ⟨F8 N,trivial⟩;exact A2
def Ol:=Ay (ZR N)
def Om:=Cz (ZR N)
def WT (b:LA) (c:Bool) (r0:Int→O R):O R :=
 (cond (Nat.ble 2 (b.length)) (Fz N (b.take 2) c (fun d=>(cond ((Nat.beq (d.length) 2)&&((Nat.ble 2 (b.length))&&(!false))) (Pa (setCells b 0 d) fun e=>(cond e (r0 (-1)) (Ip 1 ((setCells b 0 d).drop 1) fun i f=>(cond (((f:Nat):Int)==0) (r0 0) (r0 1))))) none))) none)
def Si:=(Aj (@WT R)).1
theorem RR:@Si R=@WT R:=(Aj _).2
def rP:D7:=[(26,Ol N)]
def ZS (F:KF R):Int→O R:=(fun g=>F (iv g) [])
theorem ZT (b:LA) (c:Bool) (F:KF R):Cy (rP N) Cl N 138 [(.pagg b c)] [] F=(Si N b c (ZS F)):=by
 rw[RR]
 kernel_rfl
def RS (a:LA) (h:Ah) (k:KF R):O R :=
 match a,h with
 | [(.pagg b c)],[]=>(Si N b c (ZS k))
 | _,_=>none
theorem ZU:Ap N 138 @RS:=by
 intro R Q a h k j;unfold RS;split;exact Ax (ZT ..) (ZT ..) ⟨Om N,trivial⟩;exact A2
def ZV:=Ay (ZU N)
def ZW:=Cz (ZU N)
def WU (N:Nat) (r0:LA→O R):O R :=
 (r0 [(.bool false),(.imm [] 0 1 false false),(.imm [(.int .u32 1)] 1 1 false false)])
def EN:=(Aj (@WU R)).1
theorem RT:@EN R=@WU R:=(Aj _).2
def ZX (F:KF R):LA→O R:=(fun b=>F (.pagg b false) [])
theorem ZY (F:KF R):Cy [] Ln N 151 [] [] F=(EN N (ZX F)):=by
 rw[RT]
 kernel_rfl
def RU (a:LA) (h:Ah) (k:KF R):O R :=
 match a,h with
 | [],[]=>(EN N (ZX k))
 | _,_=>none
theorem ZZ:Ap N 151 @RU:=by
 intro R Q a h k j;unfold RU;split;exact Ax (ZY ..) (ZY ..) trivial;exact A2
def ov:=Ay (ZZ N)
def ow:=Cz (ZZ N)
def Oa (N:Nat) (r0:Bool→O R) (d:LA) (b:Nat) (f g:Bool) (e:LA) (c:Nat) (i l:Bool) (k0:Int→O R) (m:Int):O R :=
 (cond (decide (m<((b:Nat):Int))) (cond (Ao m b) (F3 .u32 (d.drop ((m.toNat)*1)) fun o=>(cond (Ao m c) (F3 .u32 (e.drop ((m.toNat)*1)) fun p=>(cond (o != p) (r0 false) (k0 (wrap .i64 (m+1))))) none)) none) (r0 true))
def Gt (r0:Bool→O R) (d:LA) (b:Nat) (f g:Bool) (e:LA) (c:Nat) (i l:Bool):Nat→Int→O R
 | 0,_=>none
 | n+1,m=>(Oa N r0 d b f g e c i l (Gt r0 d b f g e c i l n) m)
def Zm (N:Nat) (r0:Bool→O R) (q0:Int→O R) (d:LA) (b:Nat) (f g:Bool) (e:LA) (c:Nat) (i l:Bool):O R :=
 (cond (((b:Nat):Int) != ((c:Nat):Int)) (r0 false) (q0 0))
def Ja:=(Aj (fun (N:Nat) (d:LA) (b:Nat) (f g:Bool) (e:LA) (c:Nat) (i l:Bool) (r0:Bool→O R)=>(Zm N r0 (fun m=>(Gt N r0 d b f g e c i l N m)) d b f g e c i l))).1
theorem JV (d b f g e c i l r0):(@Ja R N d b f g e c i l r0)=(Zm N r0 (fun m=>(Gt N r0 d b f g e c i l N m)) d b f g e c i l):=by rw[Ja,(Aj _).2]
def RV:Hints:={ H:=(hS hL (hS hL (hS (hS hL (hS (hP [0,1,5] hL) hL)) hL))) }
def m5 (F:KF R):=Ty Tryz.f65 RV [] [] N F
def L6 (F:KF R):Bool→O R:=(fun q=>F (.bool q) [])
def m6 (d:LA) (b:Nat) (f g:Bool) (e:LA) (c:Nat) (i l:Bool) (m:Int):St:=⟨[(0,(.imm d b 1 f g)),(1,(.imm e c 1 i l)),(5,(iv m))],[]⟩
def m7 (F:KF R):=m5 N F [1,1,0,1,0] []
theorem BB (F:KF R) (d:LA) (b:Nat) (f g:Bool) (e:LA) (c:Nat) (i l:Bool):∀ (n:Nat) (m:Int),A5 (m7 N F) n (m6 d b f g e c i l m)=(Gt N (L6 F) d b f g e c i l n m)
 | 0,_=>by kernel_rfl
 | n+1,m=>Eq.trans (by kernel_rfl) (E9 (Oa N (L6 F) d b f g e c i l · m) (funext fun m=>(BB F d b f g e c i l n m)):_)
theorem RW (d:LA) (b:Nat) (f g:Bool) (e:LA) (c:Nat) (i l:Bool) (F:KF R):Cy [] RV N 65 [(.imm d b 1 f g),(.imm e c 1 i l)] [] F=(Ja N d b f g e c i l (L6 F)):=by
 rw[JV]
 exact Eq.trans (by kernel_rfl) (E9 (Zm N (L6 F) · d b f g e c i l) (funext fun m=>(Aw ..).trans (BB N F d b f g e c i l N m)):_)
def JW (a:LA) (h:Ah) (k:KF R):O R :=
 match a,h with
 | [(.imm d b 1 f g),(.imm e c 1 i l)],[]=>(Ja N d b f g e c i l (L6 k))
 | _,_=>none
theorem RX:Ap N 65 @JW:=by
 intro R Q a h k j;unfold JW;split;exact Ax (RW ..) (RW ..) trivial;exact A2
def Qb:=Ay (RX N)
def Qc:=Cz (RX N)
def Dh (N:Nat) (r0:Int→Bool→O R) (b:Nat) (d:LA) (k0:Int→Int→O R) (e c:Int):O R :=
 (cond (decide (c≥0)) (cond (Ao c b) (F3 .u32 (d.drop (0+((c.toNat)*1))) fun m=>(k0 (Kx .u64 (wrap .u64 (e*2 ^ 32)) (wrap .u64 m)) (wrap .i64 (c - 1)))) none) (r0 e true))
def Cp (r0:Int→Bool→O R) (b:Nat) (d:LA):Nat→Int→Int→O R
 | 0,_,_=>none
 | n+1,e,c=>(Dh N r0 b d (Cp r0 b d n) e c)
def Um (r0:Int→Bool→O R) (q0:Nat→LA→Int→Int→O R) (f:LA) (g:Nat) (l i:Bool):O R :=
 (Cc N f g false i (fun b d=>(cond (decide (((b:Nat):Int)>2)) (r0 0 false) (q0 b d 0 (wrap .i64 (((b:Nat):Int) - 1))))))
def Ef:=(Aj (fun (N:Nat) (f:LA) (g:Nat) (l i:Bool) (r0:Int→Bool→O R)=>(Um N r0 (fun b d e c=>(Cp N r0 b d N e c)) f g l i))).1
theorem EO (f g l i r0):(@Ef R N f g l i r0)=(Um N r0 (fun b d e c=>(Cp N r0 b d N e c)) f g l i):=by rw[Ef,(Aj _).2]
def JX:Hints:={ H:=(hS hL (hS hL (hS hL (hS hL (hS (hS hL (hS (hP [0,4,5] hL) hL)) hL))))) }
def RY:D7:=[(150,D0 N)]
def jC (F:KF R):=Ty Tryz.f89 JX (RY N) [] N F
def Jx (F:KF R):Int→Bool→O R:=(fun o p=>F (.tup [(.int .u64 o),(.bool p)]) [])
def jD (b:Nat) (d:LA) (e c:Int):St:=⟨[(0,(.own 300000 0 b)),(4,(.int .u64 e)),(5,(iv c))],(hq [(bQ 1 d)])⟩
def jE (F:KF R):=jC N F [1,1,1,1,0,1,0] []
theorem Xo (F:KF R) (b:Nat) (d:LA):∀ (n:Nat) (e c:Int),A5 (jE N F) n (jD b d e c)=(Cp N (Jx F) b d n e c)
 | 0,_,_=>by kernel_rfl
 | n+1,e,c=>Eq.trans (by kernel_rfl) (E9 (Dh N (Jx F) b d · e c) (funext fun e=>funext fun c=>(Xo F b d n e c)):_)
theorem JY (f:LA) (g:Nat) (l i:Bool) (F:KF R):Cy (RY N) JX N 89 [(.imm f g 1 l i)] [] F=(Ef N f g l i (Jx F)):=by
 rw[EO]
 exact Eq.trans (by kernel_rfl) (E9 (Um N (Jx F) · f g l i) (funext fun b=>funext fun d=>funext fun e=>funext fun c=>(Aw ..).trans (Xo N F b d N e c)):_)
def EP (a:LA) (h:Ah) (k:KF R):O R :=
 match a,h with
 | [(.imm f g 1 l i)],[]=>(Ef N f g l i (Jx k))
 | _,_=>none
theorem JZ:Ap N 89 @EP:=by
 intro R Q a h k j;unfold EP;split;exact Ax (JY ..) (JY ..) ⟨D1 N,trivial⟩;exact A2
def Vu:=Ay (JZ N)
def Vv:=Cz (JZ N)
def L7 (N:Nat) (r0:Int→O R) (k0:Int→Int→O R) (b c:Int):O R :=
 (cond (decide (c>0)) (k0 (wrap .i64 (b+1)) (Int.fdiv c (2 ^ 1))) (r0 b))
def F9 (r0:Int→O R):Nat→Int→Int→O R
 | 0,_,_=>none
 | n+1,b,c=>(L7 N r0 (F9 r0 n) b c)
def Xp (r0:Int→O R) (q0:Int→Int→O R) (d:LA) (e:Nat) (g f:Bool):O R :=
 (Cc N d e false f (fun i l=>(cond (((i:Nat):Int)==0) (r0 0) (cond (Ao (wrap .i64 (((i:Nat):Int) - 1)) i) (F3 .u32 (l.drop (0+(((wrap .i64 (((i:Nat):Int) - 1)).toNat)*1))) fun m=>(q0 (wrap .i64 (32*(wrap .i64 (((i:Nat):Int) - 1)))) m)) none))))
def Xq:=(Aj (fun (N:Nat) (d:LA) (e:Nat) (g f:Bool) (r0:Int→O R)=>(Xp N r0 (fun b c=>(F9 N r0 N b c)) d e g f))).1
theorem Zn (d e g f r0):(@Xq R N d e g f r0)=(Xp N r0 (fun b c=>(F9 N r0 N b c)) d e g f):=by rw[Xq,(Aj _).2]
def Z_:Hints:={ H:=(hS hL (hS hL (hS hL (hS hL (hS (hS hL (hS (hP [3,4] hL) hL)) hL))))) }
def fJ:D7:=[(150,D0 N)]
def pA (F:KF R):=Ty Tryz.f206 Z_ (fJ N) [] N F
def On (F:KF R):Int→O R:=(fun o=>F (iv o) [])
def pB (b c:Int):St:=⟨[(3,(iv b)),(4,(.int .u32 c))],[]⟩
def pC (F:KF R):=pA N F [1,1,1,1,0,1,0] []
theorem EQ (F:KF R):∀ (n:Nat) (b c:Int),A5 (pC N F) n (pB b c)=(F9 N (On F) n b c)
 | 0,_,_=>by kernel_rfl
 | n+1,b,c=>Eq.trans (by kernel_rfl) (E9 (L7 N (On F) · b c) (funext fun b=>funext fun c=>(EQ F n b c)):_)
theorem Z' (d:LA) (e:Nat) (g f:Bool) (F:KF R):Cy (fJ N) Z_ N 206 [(.imm d e 1 g f)] [] F=(Xq N d e g f (On F)):=by
 rw[Zn]
 exact Eq.trans (by kernel_rfl) (E9 (Xp N (On F) · d e g f) (funext fun b=>funext fun c=>(Aw ..).trans (EQ N F N b c)):_)
def RZ (a:LA) (h:Ah) (k:KF R):O R :=
 match a,h with
 | [(.imm d e 1 g f)],[]=>(Xq N d e g f (On k))
 | _,_=>none
theorem aA:Ap N 206 @RZ:=by
 intro R Q a h k j;unfold RZ;split;exact Ax (Z' ..) (Z' ..) ⟨D1 N,trivial⟩;exact A2
def pD:=Ay (aA N)
def pE:=Cz (aA N)
def Sj (N:Nat) (k0:Nat→Int→Int→LA→O R) (r0:Nat→LA→O R) (d:LA) (b:Nat) (f g:Bool) (e:LA) (c:Nat) (i l:Bool) (m:Nat) (o:LA) (s q:Int):O R :=
 (cond (decide (q<((c:Nat):Int))) (cond (Ao q c) (F3 .u32 (e.drop ((q.toNat)*1)) fun t=>(cond (Ao q m) (cond ((Nat.beq 1 1)&&((Nat.ble ((0+((q.toNat)*1))+1) (o.length))&&(!false))) (k0 m (Int.fdiv (wrap .u64 (s+(wrap .u64 t))) (2 ^ 32)) (wrap .i64 (q+1)) (o.set (0+((q.toNat)*1)) (.int .u32 (wrap .u32 (wrap .u64 (s+(wrap .u64 t))))))) none) none)) none) (cond (Ao q m) (cond ((Nat.beq 1 1)&&((Nat.ble ((0+((q.toNat)*1))+1) (o.length))&&(!false))) (k0 m (Int.fdiv s (2 ^ 32)) (wrap .i64 (q+1)) (o.set (0+((q.toNat)*1)) (.int .u32 (wrap .u32 s)))) none) none))
def Un (r0:Nat→LA→O R) (d:LA) (b:Nat) (f g:Bool) (e:LA) (c:Nat) (i l:Bool) (k0:Nat→Int→Int→LA→O R) (q1:Int→Int→O R) (m:Nat) (r p:Int) (o:LA):O R :=
 (cond (decide (p<((m:Nat):Int))) (cond (decide (p<((b:Nat):Int))) (cond (Ao p b) (F3 .u32 (d.drop ((p.toNat)*1)) fun u=>(q1 (wrap .u64 (r+(wrap .u64 u))) p)) none) (q1 r p)) (Cc N (o.take (m*1)) m false true (fun v w=>(r0 v w))))
def Fh (r0:Nat→LA→O R) (d:LA) (b:Nat) (f g:Bool) (e:LA) (c:Nat) (i l:Bool):Nat→Nat→Int→Int→LA→O R
 | 0,_,_,_,_=>none
 | n+1,m,r,p,o=>(Un N r0 d b f g e c i l (Fh r0 d b f g e c i l n) (fun s q=>(Sj N (Fh r0 d b f g e c i l n) r0 d b f g e c i l m o s q)) m r p o)
def R_ (N:Nat) (r0:Nat→LA→O R) (q0:Nat→Int→Int→LA→O R) (d:LA) (b:Nat) (f g:Bool) (e:LA) (c:Nat) (i l:Bool):O R :=
 (cond ((decide (0≤(wrap .i64 ((Yn ((b:Nat):Int) ((c:Nat):Int))+1))))&&((decide ((wrap .i64 ((Yn ((b:Nat):Int) ((c:Nat):Int))+1))≤(wrap .i64 ((Yn ((b:Nat):Int) ((c:Nat):Int))+1))))&&((decide ((wrap .i64 ((Yn ((b:Nat):Int) ((c:Nat):Int))+1))≤140737488355328))&&(decide (((wrap .i64 ((Yn ((b:Nat):Int) ((c:Nat):Int))+1))*((4:Nat):Int))≤140737488355328))))) (q0 ((wrap .i64 ((Yn ((b:Nat):Int) ((c:Nat):Int))+1)).toNat) 0 0 (List.replicate ((wrap .i64 ((Yn ((b:Nat):Int) ((c:Nat):Int))+1)).toNat) (.int .u32 0))) none)
def Uo:=(Aj (fun (N:Nat) (d:LA) (b:Nat) (f g:Bool) (e:LA) (c:Nat) (i l:Bool) (r0:Nat→LA→O R)=>(R_ N r0 (fun m r p o=>(Fh N r0 d b f g e c i l N m r p o)) d b f g e c i l))).1
theorem aB (d b f g e c i l r0):(@Uo R N d b f g e c i l r0)=(R_ N r0 (fun m r p o=>(Fh N r0 d b f g e c i l N m r p o)) d b f g e c i l):=by rw[Uo,(Aj _).2]
def fK:Hints:={ H:=(hS hL (hS hL (hS hL (hS (hS hL (hS (hP [0,1,5,6,7] (hS hL (hS (hS (hJ [0,1,5,6,7] hL hL) hL) hL))) hL)) hL)))),nils:=[(4,1)],modes:=[(2,1)] }
def k5:D7:=[(150,D0 N)]
def fL (F:KF R):=Ty Tryz.f207 fK (k5 N) [] N F
def Kn (F:KF R):Nat→LA→O R:=(fun x y=>F (.own 300000 0 x) (hq [(bQ 1 y)]))
def rQ (d:LA) (b:Nat) (f g:Bool) (e:LA) (c:Nat) (i l:Bool) (m:Nat) (o:LA) (s q:Int):St:=⟨[(0,(.imm d b 1 f g)),(1,(.imm e c 1 i l)),(5,(.own 300000 0 m)),(6,(.int .u64 s)),(7,(iv q))],(hq [(bQ 1 o)])⟩
def rR (F:KF R) (Q0:St→O R):=fL N F [1,1,1,0,1,0,0,1,0,0,1] [Q0]
def fM (d:LA) (b:Nat) (f g:Bool) (e:LA) (c:Nat) (i l:Bool) (m:Nat) (r p:Int) (o:LA):St:=⟨[(0,(.imm d b 1 f g)),(1,(.imm e c 1 i l)),(5,(.own 300000 0 m)),(6,(.int .u64 r)),(7,(iv p))],(hq [(bQ 1 o)])⟩
def fN (F:KF R):=fL N F [1,1,1,0,1,0] []
theorem jF (Q0:St→O R) (F:KF R) (d:LA) (b:Nat) (f g:Bool) (e:LA) (c:Nat) (i l:Bool) (m:Nat) (o:LA):∀ (s q:Int),Dx (rR N F Q0) (rQ d b f g e c i l m o s q)=(Sj N (fun m r p o=>Q0 (fM d b f g e c i l m r p o)) (Kn F) d b f g e c i l m o s q):=by
 intro s q
 kernel_rfl
theorem J_ (F:KF R) (d:LA) (b:Nat) (f g:Bool) (e:LA) (c:Nat) (i l:Bool):∀ (n m:Nat) (r p:Int) (o:LA),A5 (fN N F) n (fM d b f g e c i l m r p o)=(Fh N (Kn F) d b f g e c i l n m r p o)
 | 0,_,_,_,_=>by kernel_rfl
 | n+1,m,r,p,o=>have e0:=(funext fun m=>funext fun r=>funext fun p=>funext fun o=>(J_ F d b f g e c i l n m r p o))
  Eq.trans (by kernel_rfl) (ti (Un N (Kn F) d b f g e c i l · · m r p o) e0 (funext fun s=>funext fun q=>(Bh ..).trans ((jF N (A5 (fN N F) n) F d b f g e c i l m o s q).trans (E9 (Sj N · (Kn F) d b f g e c i l m o s q) e0))):_)
theorem fO (d:LA) (b:Nat) (f g:Bool) (e:LA) (c:Nat) (i l:Bool) (F:KF R):Cy (k5 N) fK N 207 [(.imm d b 1 f g),(.imm e c 1 i l)] [] F=(Uo N d b f g e c i l (Kn F)):=by
 rw[aB]
 exact Eq.trans (by kernel_rfl) (E9 (R_ N (Kn F) · d b f g e c i l) (funext fun m=>funext fun r=>funext fun p=>funext fun o=>(Aw ..).trans (J_ N F d b f g e c i l N m r p o)):_)
def aC (a:LA) (h:Ah) (k:KF R):O R :=
 match a,h with
 | [(.imm d b 1 f g),(.imm e c 1 i l)],[]=>(Uo N d b f g e c i l (Kn k))
 | _,_=>none
theorem fP:Ap N 207 @aC:=by
 intro R Q a h k j;unfold aC;split;exact Ax (fO ..) (fO ..) ⟨D1 N,trivial⟩;exact A2
def fQ:=Ay (fP N)
def fR:=Cz (fP N)
def fS (N:Nat) (d:LA) (c:Nat) (e f:Bool) (b:Int) (r0:Int→O R):O R :=
 (cond (decide ((wrap .i64 (Int.tdiv b 32))≥((c:Nat):Int))) (r0 0) (cond (Ao (wrap .i64 (Int.tdiv b 32)) c) (F3 .u32 (d.drop (((wrap .i64 (Int.tdiv b 32)).toNat)*1)) fun g=>(cond (decide ((wrap .u64 (Int.tmod b 32))<0)) none (r0 (qy .u32 (Int.fdiv g (2 ^ (min ((wrap .u64 (Int.tmod b 32)).toNat) 32))) 1)))) none))
def SA:=(Aj (@fS R)).1
theorem aD:@SA R=@fS R:=(Aj _).2
def fT (F:KF R):Int→O R:=(fun i=>F (.int .u32 i) [])
theorem fU (d:LA) (c:Nat) (e f:Bool) (b:Int) (F:KF R):Cy [] Cl N 208 [(.imm d c 1 e f),(iv b)] [] F=(SA N d c e f b (fT F)):=by
 rw[aD]
 kernel_rfl
def aE (a:LA) (h:Ah) (k:KF R):O R :=
 match a,h with
 | [(.imm d c 1 e f),(.int .i64 b)],[]=>(SA N d c e f b (fT k))
 | _,_=>none
theorem fV:Ap N 208 @aE:=by
 intro R Q a h k j;unfold aE;split;exact Ax (fU ..) (fU ..) trivial;exact A2
def rS:=Ay (fV N)
def rT:=Cz (fV N)
def Kd (N:Nat) (r0:Int→O R) (c d:Nat) (e f:LA) (k0:Int→O R) (b:Int):O R :=
 (cond (decide (b≥0)) (cond (Ao b c) (F3 .u32 (e.drop (0+((b.toNat)*1))) fun s=>(cond (Ao b d) (F3 .u32 (f.drop (0+((b.toNat)*1))) fun t=>(cond (decide (s<t)) (r0 (-1)) (cond (Ao b c) (F3 .u32 (e.drop (0+((b.toNat)*1))) fun u=>(cond (Ao b d) (F3 .u32 (f.drop (0+((b.toNat)*1))) fun v=>(cond (decide (u>v)) (r0 1) (k0 (wrap .i64 (b - 1))))) none)) none))) none)) none) (r0 0))
def Eg (r0:Int→O R) (c d:Nat) (e f:LA):Nat→Int→O R
 | 0,_=>none
 | n+1,b=>(Kd N r0 c d e f (Eg r0 c d e f n) b)
def Qd (r0:Int→O R) (q0:Nat→Nat→LA→LA→Int→O R) (g:LA) (i:Nat) (q l:Bool) (m:LA) (o:Nat) (r p:Bool):O R :=
 (Cc N g i false l (fun c e=>(Cc N m o false p (fun d f=>(cond (((c:Nat):Int) != ((d:Nat):Int)) (cond (decide (((c:Nat):Int)<((d:Nat):Int))) (r0 (-1)) (r0 1)) (q0 c d e f (wrap .i64 (((c:Nat):Int) - 1))))))))
def K2:=(Aj (fun (N:Nat) (g:LA) (i:Nat) (q l:Bool) (m:LA) (o:Nat) (r p:Bool) (r0:Int→O R)=>(Qd N r0 (fun c d e f b=>(Eg N r0 c d e f N b)) g i q l m o r p))).1
theorem BC (g i q l m o r p r0):(@K2 R N g i q l m o r p r0)=(Qd N r0 (fun c d e f b=>(Eg N r0 c d e f N b)) g i q l m o r p):=by rw[K2,(Aj _).2]
def KA:D7:=[(150,D0 N)]
def fW (F:KF R):=Ty Tryz.f272 jj (KA N) [] N F
def H8 (F:KF R):Int→O R:=(fun w=>F (iv w) [])
def fX (c d:Nat) (e f:LA) (b:Int):St:=⟨[(0,(.own 300000 0 c)),(1,(.own 300001 0 d)),(5,(iv b))],(hq [(bQ 1 e),(bQ 1 f)])⟩
def fY (F:KF R):=fW N F [1,1,1,0,1,0] []
theorem Up (F:KF R) (c d:Nat) (e f:LA):∀ (n:Nat) (b:Int),A5 (fY N F) n (fX c d e f b)=(Eg N (H8 F) c d e f n b)
 | 0,_=>by kernel_rfl
 | n+1,b=>Eq.trans (by kernel_rfl) (E9 (Kd N (H8 F) c d e f · b) (funext fun b=>(Up F c d e f n b)):_)
theorem ER (g:LA) (i:Nat) (q l:Bool) (m:LA) (o:Nat) (r p:Bool) (F:KF R):Cy (KA N) jj N 272 [(.imm g i 1 q l),(.imm m o 1 r p)] [] F=(K2 N g i q l m o r p (H8 F)):=by
 rw[BC]
 exact Eq.trans (by kernel_rfl) (E9 (Qd N (H8 F) · g i q l m o r p) (funext fun c=>funext fun d=>funext fun e=>funext fun f=>funext fun b=>(Aw ..).trans (Up N F c d e f N b)):_)
def BD (a:LA) (h:Ah) (k:KF R):O R :=
 match a,h with
 | [(.imm g i 1 q l),(.imm m o 1 r p)],[]=>(K2 N g i q l m o r p (H8 k))
 | _,_=>none
theorem ES:Ap N 272 @BD:=by
 intro R Q a h k j;unfold BD;split;exact Ax (ER ..) (ER ..) ⟨D1 N,trivial⟩;exact A2
def fZ:=Ay (ES N)
def f4:=Cz (ES N)
def Sk (N:Nat) (k0:Int→Int→LA→O R) (r0:Nat→Bool→LA→O R) (b d:Nat) (e f c:LA) (i m:Int):O R :=
 (cond (Ao i b) (F3 .u32 (e.drop (0+((i.toNat)*1))) fun w=>(cond (decide ((wrap .u64 w)<m)) (cond (Ao i b) (cond ((Nat.beq 1 1)&&((Nat.ble ((0+((i.toNat)*1))+1) (c.length))&&(!false))) (k0 1 (wrap .i64 (i+1)) (c.set (0+((i.toNat)*1)) (.int .u32 (wrap .u32 (wrap .u64 ((wrap .u64 ((wrap .u64 w)+4294967296)) - m)))))) none) none) (cond (Ao i b) (cond ((Nat.beq 1 1)&&((Nat.ble ((0+((i.toNat)*1))+1) (c.length))&&(!false))) (k0 0 (wrap .i64 (i+1)) (c.set (0+((i.toNat)*1)) (.int .u32 (wrap .u32 (wrap .u64 ((wrap .u64 w) - m)))))) none) none))) none)
def Uq (r0:Nat→Bool→LA→O R) (b d:Nat) (e f:LA) (k0:Int→Int→LA→O R) (q1:Int→Int→O R) (l g:Int) (c:LA):O R :=
 (cond (decide (g<((b:Nat):Int))) (cond (decide (g<((d:Nat):Int))) (cond (Ao g d) (F3 .u32 (f.drop (0+((g.toNat)*1))) fun x=>(q1 g (wrap .u64 (l+(wrap .u64 x))))) none) (q1 g l)) (Cc N (c.take (b*1)) b false true (fun y z=>(r0 y true z))))
def Fi (r0:Nat→Bool→LA→O R) (b d:Nat) (e f:LA):Nat→Int→Int→LA→O R
 | 0,_,_,_=>none
 | n+1,l,g,c=>(Uq N r0 b d e f (Fi r0 b d e f n) (fun i m=>(Sk N (Fi r0 b d e f n) r0 b d e f c i m)) l g c)
def SB (r0:Nat→Bool→LA→O R) (q0:Nat→Nat→LA→LA→Int→Int→LA→O R) (o:LA) (p:Nat) (u q:Bool) (r:LA) (s:Nat) (v t:Bool):O R :=
 (K2 N o p false q r s false t (fun aa=>(cond (decide (aa<0)) (r0 0 false []) (Cc N o p false q (fun b e=>(Cc N r s false t (fun d f=>(cond ((decide (0≤((b:Nat):Int)))&&((decide (((b:Nat):Int)≤((b:Nat):Int)))&&((decide (((b:Nat):Int)≤140737488355328))&&(decide ((((b:Nat):Int)*((4:Nat):Int))≤140737488355328))))) (q0 b d e f 0 0 (List.replicate b (.int .u32 0))) none))))))))
def Ur:=(Aj (fun (N:Nat) (o:LA) (p:Nat) (u q:Bool) (r:LA) (s:Nat) (v t:Bool) (r0:Nat→Bool→LA→O R)=>(SB N r0 (fun b d e f l g c=>(Fi N r0 b d e f N l g c)) o p u q r s v t))).1
theorem aF (o p u q r s v t r0):(@Ur R N o p u q r s v t r0)=(SB N r0 (fun b d e f l g c=>(Fi N r0 b d e f N l g c)) o p u q r s v t):=by rw[Ur,(Aj _).2]
def f8:Hints:={ H:=(hS hL (hS hL (hS hL (hS hL (hS hL (hS (hS hL (hS (hP [0,1,6,7,8] (hS hL (hS (hS (hS hL (hJ [0,1,6,8,9] hL hL)) hL) hL))) hL)) hL)))))),nils:=[(4,1)],modes:=[(2,1),(0,0)] }
def k6:D7:=[(272,fZ N),(150,D0 N)]
def f9 (F:KF R):=Ty Tryz.f209 f8 (k6 N) [] N F
def Ko (F:KF R):Nat→Bool→LA→O R:=(fun ab ac ad=>F (.tup [(.own 300000 0 ab),(.bool ac)]) (hq [(bQ 1 ad)]))
def rU (b d:Nat) (e f c:LA) (i m:Int):St:=⟨[(0,(.own 300000 0 b)),(1,(.own 300001 0 d)),(6,(.own 300002 0 b)),(8,(iv i)),(9,(.int .u64 m))],(hq [(bQ 1 e),(bQ 1 f),(bQ 1 c)])⟩
def rV (F:KF R) (Q0:St→O R):=f9 N F [1,1,1,1,1,0,1,0,0,1,0,0,1,1] [Q0]
def f_ (b d:Nat) (e f:LA) (l g:Int) (c:LA):St:=⟨[(0,(.own 300000 0 b)),(1,(.own 300001 0 d)),(6,(.own 300002 0 b)),(7,(.int .u64 l)),(8,(iv g))],(hq [(bQ 1 e),(bQ 1 f),(bQ 1 c)])⟩
def fa (F:KF R):=f9 N F [1,1,1,1,1,0,1,0] []
theorem jG (Q0:St→O R) (F:KF R) (b d:Nat) (e f c:LA):∀ (i m:Int),Dx (rV N F Q0) (rU b d e f c i m)=(Sk N (fun l g c=>Q0 (f_ b d e f l g c)) (Ko F) b d e f c i m):=by
 intro i m
 kernel_rfl
theorem KB (F:KF R) (b d:Nat) (e f:LA):∀ (n:Nat) (l g:Int) (c:LA),A5 (fa N F) n (f_ b d e f l g c)=(Fi N (Ko F) b d e f n l g c)
 | 0,_,_,_=>by kernel_rfl
 | n+1,l,g,c=>have e0:=(funext fun l=>funext fun g=>funext fun c=>(KB F b d e f n l g c))
  Eq.trans (by kernel_rfl) (ti (Uq N (Ko F) b d e f · · l g c) e0 (funext fun i=>funext fun m=>(Bh ..).trans ((jG N (A5 (fa N F) n) F b d e f c i m).trans (E9 (Sk N · (Ko F) b d e f c i m) e0))):_)
theorem fb (o:LA) (p:Nat) (u q:Bool) (r:LA) (s:Nat) (v t:Bool) (F:KF R):Cy (k6 N) f8 N 209 [(.imm o p 1 u q),(.imm r s 1 v t)] [] F=(Ur N o p u q r s v t (Ko F)):=by
 rw[aF]
 exact Eq.trans (by kernel_rfl) (E9 (SB N (Ko F) · o p u q r s v t) (funext fun b=>funext fun d=>funext fun e=>funext fun f=>funext fun l=>funext fun g=>funext fun c=>(Aw ..).trans (KB N F b d e f N l g c)):_)
def aG (a:LA) (h:Ah) (k:KF R):O R :=
 match a,h with
 | [(.imm o p 1 u q),(.imm r s 1 v t)],[]=>(Ur N o p u q r s v t (Ko k))
 | _,_=>none
theorem fc:Ap N 209 @aG:=by
 intro R Q a h k j;unfold aG;split;exact Ax (fb ..) (fb ..) ⟨f4 N,D1 N,trivial⟩;exact A2
def fe:=Ay (fc N)
def ff:=Cz (fc N)
def Hi (k1:Nat→Int→LA→LA→O R) (r0:Nat→Nat→Bool→LA→LA→O R) (c:LA) (b:Nat) (e d:Bool) (f:Nat) (i:Int) (g l:LA) (p:Nat) (q:LA):O R :=
 (Ur N (q.take (p*1)) p false true (g.take (f*1)) f false true (fun z aa ab=>(cond aa (cond (Ao (wrap .i64 (Int.tdiv i 32)) b) (F3 .u32 (l.drop (0+(((wrap .i64 (Int.tdiv i 32)).toNat)*1))) fun ac=>(cond (decide ((wrap .u64 (Int.tmod i 32))<0)) none (cond (Ao (wrap .i64 (Int.tdiv i 32)) b) (cond ((Nat.beq 1 1)&&((Nat.ble ((0+(((wrap .i64 (Int.tdiv i 32)).toNat)*1))+1) (l.length))&&(!false))) (k1 z (wrap .i64 (i - 1)) (l.set (0+(((wrap .i64 (Int.tdiv i 32)).toNat)*1)) (.int .u32 (Kx .u32 ac (wrap .u32 ((1:Int)*2 ^ (min ((wrap .u64 (Int.tmod i 32)).toNat) 32)))))) ab) none) none))) none) (k1 p (wrap .i64 (i - 1)) l q))))
def L8 (r0:Nat→Nat→Bool→LA→LA→O R) (c:LA) (b:Nat) (e d:Bool) (f:Nat) (g:LA) (k1:Nat→Int→LA→LA→O R) (q2:Nat→LA→O R) (m:Nat) (i:Int) (l o:LA):O R :=
 (cond (decide (i≥0)) (Uo N (o.take (m*1)) m false true (o.take (m*1)) m false true (fun w x=>(SA N c b false d i (fun ad=>(cond (ad==1) (Uo N (x.take (w*1)) w false true [(.int .u32 1)] 1 false true (fun ae af=>(q2 ae af))) (q2 w x)))))) (Cc N (l.take (b*1)) b false true (fun ag ah=>(Cc N (o.take (m*1)) m false true (fun ai aj=>(r0 ag ai true ah aj))))))
def Db (r0:Nat→Nat→Bool→LA→LA→O R) (c:LA) (b:Nat) (e d:Bool) (f:Nat) (g:LA):Nat→Nat→Int→LA→LA→O R
 | 0,_,_,_,_=>none
 | n+1,m,i,l,o=>(L8 N r0 c b e d f g (Db r0 c b e d f g n) (fun p q=>(Hi N (Db r0 c b e d f g n) r0 c b e d f i g l p q)) m i l o)
def Sl (r0:Nat→Nat→Bool→LA→LA→O R) (c:LA) (b:Nat) (e d:Bool) (f:Nat) (g:LA) (q1:Nat→Int→LA→LA→O R):O R :=
 (cond ((decide (0≤((b:Nat):Int)))&&((decide (((b:Nat):Int)≤((b:Nat):Int)))&&((decide (((b:Nat):Int)≤140737488355328))&&(decide ((((b:Nat):Int)*((4:Nat):Int))≤140737488355328))))) (Xq N c b false d (fun ak=>(q1 0 (wrap .i64 (ak - 1)) (List.replicate b (.int .u32 0)) []))) none)
def Jy (r0:Nat→Nat→Bool→LA→LA→O R) (c:LA) (b:Nat) (e d:Bool) (f:Nat) (g:LA):O R:=(Sl N r0 c b e d f g (fun m i l o=>(Db N r0 c b e d f g N m i l o)))
def Us (r0:Nat→Nat→Bool→LA→LA→O R) (q0:Nat→LA→O R) (c:LA) (b:Nat) (e d:Bool) (r:LA) (s:Nat) (u t:Bool):O R :=
 (Cc N r s false t (fun f g=>(cond (((f:Nat):Int)==0) (r0 0 0 false [] []) (Ef N c b false d (fun y al=>(Ef N (g.take (f*1)) f false true (fun v am=>(cond (al==true) (cond (cond true am false) (cond (v==0) none (Dg N (wrap .u64 (Int.tdiv y v)) (fun an ao=>(cond (v==0) none (Dg N (Int.tmod y v) (fun ap aq=>(r0 an ap true ao aq))))))) (q0 f g)) (q0 f g)))))))))
def Fj:=(Aj (fun (N:Nat) (c:LA) (b:Nat) (e d:Bool) (r:LA) (s:Nat) (u t:Bool) (r0:Nat→Nat→Bool→LA→LA→O R)=>(Us N r0 (fun f g=>(Jy N r0 c b e d f g)) c b e d r s u t))).1
theorem ET (c b e d r s u t r0):(@Fj R N c b e d r s u t r0)=(Us N r0 (fun f g=>(Jy N r0 c b e d f g)) c b e d r s u t):=by rw[Fj,(Aj _).2]
def KC:Hints:={ H:=(hS hL (hS hL (hS hL (hS hL (hJ [0,1,5] hL (hS hL (hS (hS hL (hS (hP [0,1,4,5,11] (hS hL (hS (hS (hS hL (hJ [0,1,4,5,11] hL hL)) hL) hL))) hL)) hL))))))),nils:=[(4,1),(5,1)],modes:=[(2,1),(2,1),(0,0)] }
def SC:D7:=[(150,D0 N),(89,Vu N),(88,Uk N),(206,pD N),(207,fQ N),(208,rS N),(209,fe N)]
def Vw (F:KF R):=Ty Tryz.f126 KC (SC N) [] N F
def Dc (F:KF R):Nat→Nat→Bool→LA→LA→O R:=(fun ar au av aw ax=>F (.tup [(.own 300000 0 ar),(.own 300001 0 au),(.bool av)]) (hq [(bQ 1 aw),(bQ 1 ax)]))
def jH (c:LA) (b:Nat) (e d:Bool) (f:Nat) (i:Int) (g l:LA) (p:Nat) (q:LA):St:=⟨[(0,(.imm c b 1 e d)),(1,(.own 300000 0 f)),(4,(.own 300001 0 b)),(5,(.own 300002 0 p)),(11,(iv i))],(hq [(bQ 1 g),(bQ 1 l),(bQ 1 q)])⟩
def jI (F:KF R) (Q1:St→O R):=Vw N F [1,1,1,1,1,1,0,1,0,0,1,0,0,1,1] [Q1]
def KD (c:LA) (b:Nat) (e d:Bool) (f:Nat) (g:LA) (m:Nat) (i:Int) (l o:LA):St:=⟨[(0,(.imm c b 1 e d)),(1,(.own 300000 0 f)),(4,(.own 300001 0 b)),(5,(.own 300002 0 m)),(11,(iv i))],(hq [(bQ 1 g),(bQ 1 l),(bQ 1 o)])⟩
def KE (F:KF R):=Vw N F [1,1,1,1,1,1,0,1,0] []
def jJ (c:LA) (b:Nat) (e d:Bool) (f:Nat) (g:LA):St:=⟨[(0,(.imm c b 1 e d)),(1,(.own 300000 0 f)),(5,(.own 300001 0 0))],(hq [(bQ 1 g),(bQ 1 [])])⟩
def jK (F:KF R):=Vw N F [1,1,1,1,1] []
theorem WV (Q1:St→O R) (F:KF R) (c:LA) (b:Nat) (e d:Bool) (f:Nat) (i:Int) (g l:LA):∀ (p:Nat) (q:LA),Dx (jI N F Q1) (jH c b e d f i g l p q)=(Hi N (fun m i l o=>Q1 (KD c b e d f g m i l o)) (Dc F) c b e d f i g l p q):=by
 intro p q
 kernel_rfl
theorem Xr (F:KF R) (c:LA) (b:Nat) (e d:Bool) (f:Nat) (g:LA):∀ (n m:Nat) (i:Int) (l o:LA),A5 (KE N F) n (KD c b e d f g m i l o)=(Db N (Dc F) c b e d f g n m i l o)
 | 0,_,_,_,_=>by kernel_rfl
 | n+1,m,i,l,o=>have e0:=(funext fun m=>funext fun i=>funext fun l=>funext fun o=>(Xr F c b e d f g n m i l o))
  Eq.trans (by kernel_rfl) (ti (L8 N (Dc F) c b e d f g · · m i l o) e0 (funext fun p=>funext fun q=>(Bh ..).trans ((WV N (A5 (KE N F) n) F c b e d f i g l p q).trans (E9 (Hi N · (Dc F) c b e d f i g l p q) e0))):_)
theorem WW (F:KF R) (c:LA) (b:Nat) (e d:Bool) (f:Nat) (g:LA):Dx (jK N F) (jJ c b e d f g)=(Jy N (Dc F) c b e d f g):=by
 exact Eq.trans (by kernel_rfl) (E9 (Sl N (Dc F) c b e d f g ·) (funext fun m=>funext fun i=>funext fun l=>funext fun o=>(Aw ..).trans (Xr N F c b e d f g N m i l o)):_)
theorem KG (c:LA) (b:Nat) (e d:Bool) (r:LA) (s:Nat) (u t:Bool) (F:KF R):Cy (SC N) KC N 126 [(.imm c b 1 e d),(.imm r s 1 u t)] [] F=(Fj N c b e d r s u t (Dc F)):=by
 rw[ET]
 exact Eq.trans (by kernel_rfl) (E9 (Us N (Dc F) · c b e d r s u t) (funext fun f=>funext fun g=>(Bh ..).trans (WW N F c b e d f g)):_)
def EU (a:LA) (h:Ah) (k:KF R):O R :=
 match a,h with
 | [(.imm c b 1 e d),(.imm r s 1 u t)],[]=>(Fj N c b e d r s u t (Dc k))
 | _,_=>none
theorem KH:Ap N 126 @EU:=by
 intro R Q a h k j;unfold EU;split;exact Ax (KG ..) (KG ..) ⟨D1 N,Vv N,Ul N,pE N,fR N,rT N,ff N,trivial⟩;exact A2
def Vx:=Ay (KH N)
def Vy:=Cz (KH N)
def K3 (r0:Nat→LA→O R) (k0:Nat→Nat→LA→LA→O R) (c b:Nat) (d e:LA):O R :=
 (cond (decide (((b:Nat):Int)>0)) (Fj N (d.take (c*1)) c false true (e.take (b*1)) b false true (fun z r aa ab s=>(k0 b r e s))) (r0 c d))
def Cr (r0:Nat→LA→O R):Nat→Nat→Nat→LA→LA→O R
 | 0,_,_,_,_=>none
 | n+1,c,b,d,e=>(K3 N r0 (Cr r0 n) c b d e)
def SD (r0:Nat→LA→O R) (q0:Nat→Nat→LA→LA→O R) (f:LA) (g:Nat) (p i:Bool) (l:LA) (m:Nat) (q o:Bool):O R :=
 (Cc N f g false i (fun t u=>(Cc N l m false o (fun v w=>(q0 t v u w)))))
def HK:=(Aj (fun (N:Nat) (f:LA) (g:Nat) (p i:Bool) (l:LA) (m:Nat) (q o:Bool) (r0:Nat→LA→O R)=>(SD N r0 (fun c b d e=>(Cr N r0 N c b d e)) f g p i l m q o))).1
theorem aH (f g p i l m q o r0):(@HK R N f g p i l m q o r0)=(SD N r0 (fun c b d e=>(Cr N r0 N c b d e)) f g p i l m q o):=by rw[HK,(Aj _).2]
def fg:Hints:={ H:=(hS hL (hS hL (hS (hS (hP [0,1] hL) hL) hL))),nils:=[(4,1)],modes:=[(2,1)] }
def k7:D7:=[(150,D0 N),(126,Vx N)]
def rW (F:KF R):=Ty Tryz.f221 fg (k7 N) [] N F
def Sm (F:KF R):Nat→LA→O R:=(fun x y=>F (.own 300000 0 x) (hq [(bQ 1 y)]))
def rX (c b:Nat) (d e:LA):St:=⟨[(0,(.own 300000 0 c)),(1,(.own 300001 0 b))],(hq [(bQ 1 d),(bQ 1 e)])⟩
def rY (F:KF R):=rW N F [1,1,0,0] []
theorem KI (F:KF R):∀ (n:Nat) (c b:Nat) (d e:LA),A5 (rY N F) n (rX c b d e)=(Cr N (Sm F) n c b d e)
 | 0,_,_,_,_=>by kernel_rfl
 | n+1,c,b,d,e=>Eq.trans (by kernel_rfl) (E9 (K3 N (Sm F) · c b d e) (funext fun c=>funext fun b=>funext fun d=>funext fun e=>(KI F n c b d e)):_)
theorem fh (f:LA) (g:Nat) (p i:Bool) (l:LA) (m:Nat) (q o:Bool) (F:KF R):Cy (k7 N) fg N 221 [(.imm f g 1 p i),(.imm l m 1 q o)] [] F=(HK N f g p i l m q o (Sm F)):=by
 rw[aH]
 exact Eq.trans (by kernel_rfl) (E9 (SD N (Sm F) · f g p i l m q o) (funext fun c=>funext fun b=>funext fun d=>funext fun e=>(Aw ..).trans (KI N F N c b d e)):_)
def aI (a:LA) (h:Ah) (k:KF R):O R :=
 match a,h with
 | [(.imm f g 1 p i),(.imm l m 1 q o)],[]=>(HK N f g p i l m q o (Sm k))
 | _,_=>none
theorem fi:Ap N 221 @aI:=by
 intro R Q a h k j;unfold aI;split;exact Ax (fh ..) (fh ..) ⟨D1 N,Vy N,trivial⟩;exact A2
def rZ:=Ay (fi N)
def r7:=Cz (fi N)
def fj (b:LA) (c:Bool) (d:LA) (e:Bool) (r0:LA→O R):O R :=
 (Ip 1 (b.drop 1) fun i l=>(Ip 1 (d.drop 1) fun m n=>(HK N i l false c m n false e (fun g o=>(Dv N false (o.take (g*1)) g false true (fun f=>(cond ((Nat.beq 0 0)&&((Nat.beq (f.length) 2)&&(Nat.beq 2 2))) (cond (Nat.ble 2 (f.length)) (r0 (f.take 2)) none) none)))))))
def SE:=(Aj (@fj R)).1
theorem aJ:@SE R=@fj R:=(Aj _).2
def ue:D7:=[(221,rZ N),(83,F7 N)]
def fk (F:KF R):LA→O R:=(fun p=>F (.pagg p false) [])
theorem fl (b:LA) (c:Bool) (d:LA) (e:Bool) (F:KF R):Cy (ue N) Ln N 152 [(.pagg b c),(.pagg d e)] [] F=(SE N b c d e (fk F)):=by
 rw[aJ]
 kernel_rfl
def aK (a:LA) (h:Ah) (k:KF R):O R :=
 match a,h with
 | [(.pagg b c),(.pagg d e)],[]=>(SE N b c d e (fk k))
 | _,_=>none
theorem fm:Ap N 152 @aK:=by
 intro R Q a h k j;unfold aK;split;exact Ax (fl ..) (fl ..) ⟨r7 N,F8 N,trivial⟩;exact A2
def r8:=Ay (fm N)
def r9:=Cz (fm N)
def fq (b:LA) (c:Bool) (r0:LA→O R):O R :=
 (Ip 1 (b.drop 1) fun e f=>(Dv N false e f false c (fun d=>(cond ((Nat.beq 0 0)&&((Nat.beq (d.length) 2)&&(Nat.beq 2 2))) (cond (Nat.ble 2 (d.length)) (r0 (d.take 2)) none) none))))
def HL:=(Aj (@fq R)).1
theorem aL:@HL R=@fq R:=(Aj _).2
def uf:D7:=[(83,F7 N)]
def ft (F:KF R):LA→O R:=(fun g=>F (.pagg g false) [])
theorem fu (b:LA) (c:Bool) (F:KF R):Cy (uf N) Ln N 140 [(.pagg b c)] [] F=(HL N b c (ft F)):=by
 rw[aL]
 kernel_rfl
def aM (a:LA) (h:Ah) (k:KF R):O R :=
 match a,h with
 | [(.pagg b c)],[]=>(HL N b c (ft k))
 | _,_=>none
theorem fv:Ap N 140 @aM:=by
 intro R Q a h k j;unfold aM;split;exact Ax (fu ..) (fu ..) ⟨F8 N,trivial⟩;exact A2
def r_:=Ay (fv N)
def ra:=Cz (fv N)
def fw (b:LA) (d:Bool) (c:LA) (e:Bool) (r0:LA→O R):O R :=
 (Pa b fun o=>(Pa c fun p=>(cond (o==p) (Pa b fun q=>(Ip 1 (b.drop 1) fun r s=>(Ip 1 (c.drop 1) fun t u=>(Uo N r s false d t u false e (fun l v=>(Dv N q (v.take (l*1)) l false true (fun f=>(cond ((Nat.beq 0 0)&&((Nat.beq (f.length) 2)&&(Nat.beq 2 2))) (cond (Nat.ble 2 (f.length)) (r0 (f.take 2)) none) none)))))))) (Ip 1 (b.drop 1) fun w x=>(Ip 1 (c.drop 1) fun y z=>(Ur N w x false d y z false e (fun m aa ab=>(cond aa (Pa b fun ac=>(Dv N ac (ab.take (m*1)) m false true (fun g=>(cond ((Nat.beq 0 0)&&((Nat.beq (g.length) 2)&&(Nat.beq 2 2))) (cond (Nat.ble 2 (g.length)) (r0 (g.take 2)) none) none)))) (Ip 1 (c.drop 1) fun ad ae=>(Ip 1 (b.drop 1) fun af ag=>(Ur N ad ae false e af ag false d (fun n ak ah=>(Pa c fun ai=>(Dv N ai (ah.take (n*1)) n false true (fun i=>(cond ((Nat.beq 0 0)&&((Nat.beq (i.length) 2)&&(Nat.beq 2 2))) (cond (Nat.ble 2 (i.length)) (r0 (i.take 2)) none) none))))))))))))))))
def Qe:=(Aj (@fw R)).1
theorem aN:@Qe R=@fw R:=(Aj _).2
def ug:D7:=[(207,fQ N),(83,F7 N),(209,fe N)]
def fx (F:KF R):LA→O R:=(fun aj=>F (.pagg aj false) [])
theorem fy (b:LA) (d:Bool) (c:LA) (e:Bool) (F:KF R):Cy (ug N) Ln N 139 [(.pagg b d),(.pagg c e)] [] F=(Qe N b d c e (fx F)):=by
 rw[aN]
 kernel_rfl
def aO (a:LA) (h:Ah) (k:KF R):O R :=
 match a,h with
 | [(.pagg b d),(.pagg c e)],[]=>(Qe N b d c e (fx k))
 | _,_=>none
theorem gA:Ap N 139 @aO:=by
 intro R Q a h k j;unfold aO;split;exact Ax (fy ..) (fy ..) ⟨fR N,F8 N,ff N,trivial⟩;exact A2
def NZ:=Ay (gA N)
def N_:=Cz (gA N)
def gB (b:LA) (c:Bool) (r0:LA→O R):O R :=
 (Pa b fun e=>(Ip 1 (b.drop 1) fun f g=>(Dv N (!e) f g false c (fun d=>(cond ((Nat.beq 0 0)&&((Nat.beq (d.length) 2)&&(Nat.beq 2 2))) (cond (Nat.ble 2 (d.length)) (r0 (d.take 2)) none) none)))))
def Qf:=(Aj (@gB R)).1
theorem aP:@Qf R=@gB R:=(Aj _).2
def uh:D7:=[(83,F7 N)]
def gC (F:KF R):LA→O R:=(fun i=>F (.pagg i false) [])
theorem gD (b:LA) (c:Bool) (F:KF R):Cy (uh N) Ln N 153 [(.pagg b c)] [] F=(Qf N b c (gC F)):=by
 rw[aP]
 kernel_rfl
def aQ (a:LA) (h:Ah) (k:KF R):O R :=
 match a,h with
 | [(.pagg b c)],[]=>(Qf N b c (gC k))
 | _,_=>none
theorem gE:Ap N 153 @aQ:=by
 intro R Q a h k j;unfold aQ;split;exact Ax (gD ..) (gD ..) ⟨F8 N,trivial⟩;exact A2
def N':=Ay (gE N)
def OA:=Cz (gE N)
def gF (b:LA) (d:Bool) (c:LA) (e:Bool) (r0:LA→O R):O R :=
 (cond (Nat.ble 2 (b.length)) (cond (Nat.ble 2 (c.length)) (Qf N (c.take 2) e (fun g=>(Qe N (b.take 2) d g false (fun f=>(cond ((Nat.beq 0 0)&&((Nat.beq (f.length) 2)&&(Nat.beq 2 2))) (cond (Nat.ble 2 (f.length)) (r0 (f.take 2)) none) none))))) none) none)
def HM:=(Aj (@gF R)).1
theorem aR:@HM R=@gF R:=(Aj _).2
def ui:D7:=[(153,N' N),(139,NZ N)]
def gG (F:KF R):LA→O R:=(fun i=>F (.pagg i false) [])
theorem gH (b:LA) (d:Bool) (c:LA) (e:Bool) (F:KF R):Cy (ui N) Ln N 141 [(.pagg b d),(.pagg c e)] [] F=(HM N b d c e (gG F)):=by
 rw[aR]
 kernel_rfl
def aS (a:LA) (h:Ah) (k:KF R):O R :=
 match a,h with
 | [(.pagg b d),(.pagg c e)],[]=>(HM N b d c e (gG k))
 | _,_=>none
theorem gJ:Ap N 141 @aS:=by
 intro R Q a h k j;unfold aS;split;exact Ax (gH ..) (gH ..) ⟨OA N,N_ N,trivial⟩;exact A2
def rc:=Ay (gJ N)
def re:=Cz (gJ N)
end
end Gx

namespace Gx
open Go Go.Proofs
section
variable {R:Type}
theorem zJ {c:Nat} (h:c≤1000000000000):((Nat.ble (0+c) 140737488355328)&&(Nat.ble ((0+c)*4) 140737488355328))=true:=by simp;omega
theorem OB {N:Nat} {l:List Nat} {t o:Bool} {K:Nat→LA→O R} (e:Ad l) (i:l.length≤1000000000000):∀ (c b:Nat),c≤l.length→c<b →
  H7 N K (Ab l) l.length t o b (c:Int)=K (Ae (val (l.take c))).length (Ab (Ae (val (l.take c))))
 | 0,b+1,f,_=>by
  rw[H7];unfold Qa
  rw[show decide (((0:Nat):Int)>0)=false by simp]
  rw[show((false:Bool)==true)=false by rfl,cf,yD (by omega),ct,Int.toNat_natCast,Nat.mul_one,Nj,T1,Bool.or_true,ct,zJ (by omega),ct];rfl
 | c+1,b+1,f,j=>by
  rw[H7];unfold Qa
  rw[y6,ct,wP (by omega),Ak (by omega),ct,CG (by omega),tD,yD (by omega),ct,OB e i c b (by omega) (by omega),Int.toNat_natCast,Nat.mul_one,Nj,T1,Bool.or_true,ct,zJ (by omega),ct,Nat.zero_add]
  by_cases d:l[c]=0
  ·rw[Aq (by omega),d];simp
  ·rw[mQ e (by omega) d,List.length_take,Nat.min_eq_left f]
   rw[cx d,cf]
theorem B8 {N:Nat} {l:List Nat} {n:Nat} {t o:Bool} {K:Nat→LA→O R} (c:n=l.length) (d:Ad l) (b:fit l.length N):Cc N (Ab l) n t o K=K (Ae (val l)).length (Ab (Ae (val l))):=by
 subst c
 have e:=b.1;have f:=b.2
 rw[Zk];unfold Xn
 dsimp only
 rw[OB d (by omega) l.length N (Nat.le_refl _) (by omega),List.take_length]
theorem pF {N:Nat} {a b:List Nat} {t o t' o':Bool} {K:Bool→O R} (i:a.length≤1000000000000) (k:a.length=b.length):∀ (m j c:Nat),j+m=a.length→m<c →
  Gt N K (Ab a) a.length t o (Ab b) b.length t' o' c (j:Int)=K (decide (a.drop j=b.drop j))
 | 0,j,c+1,l,_=>by
  rw[Gt];unfold Oa
  rw[US (by omega),cf,List.drop_eq_nil_of_le (by omega),List.drop_eq_nil_of_le (by omega)];simp
 | m+1,j,c+1,l,n=>by
  have e:j<a.length:=by omega
  have f:j<b.length:=by omega
  rw[Gt];unfold Oa
  rw[NG e,ct,Ak e,ct,CG e,Ak f,ct,CG f,wS (by omega),pF i k m (j+1) c (by omega) (by omega),List.drop_eq_getElem_cons e,List.drop_eq_getElem_cons f]
  by_cases h:a[j]=b[j]
  ·rw[show((((a[j]:Nat):Int) != ((b[j]:Nat):Int)))=false by simp[h],cf];congr 1;rw[decide_eq_decide,List.cons.injEq];exact⟨fun d=>⟨h,d⟩,fun d=>d.2⟩
  ·rw[show((((a[j]:Nat):Int) != ((b[j]:Nat):Int)))=true by rw[bne_iff_ne];omega,ct];congr 1;symm;rw[decide_eq_false_iff_not,List.cons.injEq];exact fun d=>h d.1
theorem SF {N:Nat} {a b:List Nat} {n m:Nat} {t o t' o':Bool} {K:Bool→O R} (e:n=a.length) (f:m=b.length) (d:fit a.length N):Ja N (Ab a) n t o (Ab b) m t' o' K=K (decide (a=b)):=by
 subst e f
 have i:=d.1;have j:=d.2
 rw[JV];unfold Zm
 by_cases c:a.length=b.length
 ·rw[show(((a.length:Nat):Int) != ((b.length:Nat):Int))=false by simp[c],cf]
  have:=pF (R:=R) (N:=N) (t:=t) (o:=o) (t':=t') (o':=o') (K:=K) (by omega) c a.length 0 N (by omega) (by omega)
  simpa using this
 ·rw[show(((a.length:Nat):Int) != ((b.length:Nat):Int))=true by rw[bne_iff_ne];omega,ct]
  congr 1;symm;rw[decide_eq_false_iff_not];intro h;exact c (by rw[h])
theorem Ut {N:Nat} {v:Nat} {K:Nat→LA→O R} (d:v<18446744073709551616) (hN:4≤N):Dg N (v:Int) K=K (Ae v).length (Ab (Ae v)):=by
 have c:Ad [v%4294967296,v/4294967296]:=B6.2 ⟨by omega,B6.2 ⟨by omega,Nh⟩⟩
 have b:val [v%4294967296,v/4294967296]=v:=by simp[val];omega
 rw[Sg];unfold Pd
 rw[MU,VR,tB (show v/4294967296<4294967296 by omega)]
 have:=OB (R:=R) (N:=N) (l:=[v%4294967296,v/4294967296]) (t:=false) (o:=true) (K:=K) c (by simp) 2 N (by simp) (by omega)
 rw[show [v%4294967296,v/4294967296].take 2=[v%4294967296,v/4294967296] by rfl,b] at this
 rw[Zk];unfold Xn
 exact this
theorem L9 {N:Nat} {l:List Nat} {n:Nat} {t o:Bool} {K:Int→Bool→O R} (m:n=l.length) (q:Ad l) (j:fit l.length N):Ef N (Ab l) n t o K=if val l<18446744073709551616 then K (val l:Int) true else K 0 false:=by
 have v:=j.1
 rw[EO];unfold Um
 rw[B8 m q j]
 by_cases h:val l<18446744073709551616
 ·have s:=Zd h
  rw[if_pos h,show decide ((((Ae (val l)).length:Nat):Int)>2)=false by simp;omega,cf]
  have c:=Ac (val l)
  have f:=Aa (val l)
  obtain⟨M,hM⟩:∃ M,N=M+4:=⟨N - 4,by omega⟩
  rw[hM]
  generalize Ae (val l)=d at *
  match d,s,c,f with
  | [],_,c,_ =>
   dsimp only
   rw[Cp];unfold Dh
   rw[←c,i64 (by simp)];rfl
  | [x],_,c,f =>
   have i:=(B6.1 f).1
   have e:val l=x:=by rw[←c];simp[val]
   dsimp only
   rw[Cp];unfold Dh
   rw[i64 (by simp),show((([x]:List Nat).length:Nat):Int) - 1=((0:Nat):Int) by rfl,show decide (((0:Nat):Int)≥0)=true by rfl,ct,Ak (by simp),ct,QQ (by simp)]
   rw[Cp];unfold Dh
   rw[i64 (by simp),show decide ((((0:Nat):Int) - 1)≥0)=false by rfl,cf]
   have:=y7 (a:=0) (b:=x) (by omega) i
   simp only[List.getElem_cons_zero]
   rw[Ex (show x<18446744073709551616 by omega),show(0:Int)=((0:Nat):Int) by rfl,this,e];simp
  | [x,y],_,c,f =>
   have i:=(B6.1 f).1
   have k:=(B6.1 (B6.1 f).2).1
   have e:val l=y*4294967296+x:=by rw[←c];simp[val];omega
   dsimp only
   rw[Cp];unfold Dh
   rw[i64 (by simp),show((([x,y]:List Nat).length:Nat):Int) - 1=((1:Nat):Int) by rfl,show decide (((1:Nat):Int)≥0)=true by rfl,ct,Ak (by simp),ct,QQ (by simp)]
   rw[Cp];unfold Dh
   rw[i64 (by simp),show(((1:Nat):Int) - 1)=((0:Nat):Int) by rfl,show decide (((0:Nat):Int)≥0)=true by rfl,ct,Ak (by simp),ct,QQ (by simp)]
   rw[Cp];unfold Dh
   rw[i64 (by simp),show decide ((((0:Nat):Int) - 1)≥0)=false by rfl,cf]
   have o1:=y7 (a:=0) (b:=y) (by omega) k
   have o2:=y7 (a:=y) (b:=x) k i
   simp only[List.getElem_cons_zero,List.getElem_cons_succ]
   rw[Ex (show y<18446744073709551616 by omega),Ex (show x<18446744073709551616 by omega),show(0:Int)=((0:Nat):Int) by rfl,o1,Nat.zero_mul,Nat.zero_add,o2,e]
 ·have:¬ (Ae (val l)).length≤2:=fun u=>h (QU u)
  rw[if_neg h,show decide ((((Ae (val l)).length:Nat):Int)>2)=true by simp;omega,ct]
theorem k8 {N:Nat} {x y:List Nat} {K:Int→O R} (e:Ad x) (f:Ad y) (k:x.length≤1000000000000) (l:x.length=y.length):∀ (i b:Nat),i≤x.length→i<b →
  Eg N K x.length y.length (Ab x) (Ab y) b ((i:Int) - 1)=K (E2 (val (x.take i)) (val (y.take i)))
 | 0,b+1,_,_=>by
  rw[Eg];unfold Kd
  rw[show decide ((((0:Nat):Int) - 1)≥0)=false by simp,cf]
  simp[W8]
 | i+1,b+1,m,n=>by
  rw[Eg];unfold Kd
  rw[show(((i+1:Nat):Int) - 1)=(i:Int) by omega,show decide ((i:Int)≥0)=true by simp,ct,Ak (by omega),ct,QQ (by omega),Ak (by omega),ct,QQ (by omega),ct,QQ (by omega),ct,QQ (by omega),i64 (by omega),
   k8 e f k l i b (by omega) (by omega),Aq (by omega),Aq (by omega)]
  have c:=Bb (Bn e i)
  have d:=Bb (Bn f i)
  rw[List.length_take,Nat.min_eq_left (by omega)] at c d
  by_cases c1:x[i]<y[i]
  ·have:=cv c d c1
   rw[show decide (((x[i]:Nat):Int)<((y[i]:Nat):Int))=true by simp;exact c1,ct]
   unfold E2;rw[if_pos this]
  ·by_cases j:y[i]<x[i]
   ·have:=cv d c j
    rw[show decide (((x[i]:Nat):Int)<((y[i]:Nat):Int))=false by simp;omega,cf,show decide (((x[i]:Nat):Int)>((y[i]:Nat):Int))=true by simp;exact j,ct]
    unfold E2;rw[if_neg (by omega),if_pos this]
   ·have:x[i]=y[i]:=by omega
    rw[show decide (((x[i]:Nat):Int)<((y[i]:Nat):Int))=false by simp;omega,cf,show decide (((x[i]:Nat):Int)>((y[i]:Nat):Int))=false by simp;omega,cf,this]
    unfold E2
    congr 1
    by_cases a1:val (x.take i)<val (y.take i)
    ·rw[if_pos a1,if_pos (by omega)]
    ·by_cases a2:val (y.take i)<val (x.take i)
     ·rw[if_neg a1,if_pos a2,if_neg (by omega),if_pos (by omega)]
     ·rw[if_neg a1,if_neg a2,if_neg (by omega),if_neg (by omega)]
theorem uj {N:Nat} {a b:List Nat} {n m:Nat} {t o t' o':Bool} {K:Int→O R} (j:n=a.length) (k:m=b.length) (d:Ad a) (e:Ad b) (c:fit (a.length+b.length) N) :
  K2 N (Ab a) n t o (Ab b) m t' o' K=K (E2 (val a) (val b)):=by
 subst j k
 have l:=c.1;have q:=c.2
 rw[BC];unfold Qd
 dsimp only
 rw[B8 rfl d (c.le (by omega)),B8 rfl e (c.le (by omega))]
 have la:=(Au d).2
 have lb:=(Au e).2
 by_cases f:(Ae (val a)).length=(Ae (val b)).length
 ·rw[show((((Ae (val a)).length:Nat):Int) != (((Ae (val b)).length:Nat):Int))=false by simp;omega,cf,i64 (by omega),k8 (Aa _) (Aa _) (by omega) f _ N (Nat.le_refl _) (by omega),List.take_length,f,List.take_length,Ac,Ac]
 ·rw[show((((Ae (val a)).length:Nat):Int) != (((Ae (val b)).length:Nat):Int))=true by simp;omega,ct]
  by_cases i:(Ae (val a)).length<(Ae (val b)).length
  ·have:=Zc i
   rw[NG i,ct]
   unfold E2;rw[if_pos this]
  ·have:=Zc (show(Ae (val b)).length<(Ae (val a)).length by omega)
   rw[US (by omega),cf]
   unfold E2;rw[if_neg (by omega),if_pos this]
end
end Gx

namespace Gx
open Go Go.Proofs
open IntKind (wrap)
set_option maxRecDepth 100000
noncomputable section
variable {R:Type} (N:Nat)
def Uu (f:LA) (m:Bool) (e:LA) (l:Bool) (r0:LA→LA→Bool→O R):O R :=
 (Ip 1 (f.drop 1) fun p q=>(Ip 1 (e.drop 1) fun r s=>(Fj N p q false m r s false l (fun n o t u v=>(cond (!t) (r0 [(.bool false),.nsl] [(.bool false),.nsl] false) (Pa f fun w=>(Pa e fun x=>(Dv N (!(w==x)) (u.take (n*1)) n false true (fun b=>(Pa f fun y=>(Dv N y (v.take (o*1)) o false true (fun c=>(cond ((Nat.beq 0 0)&&((Nat.beq (b.length) 2)&&(Nat.beq 2 2))) (cond ((Nat.beq 0 0)&&((Nat.beq (c.length) 2)&&(Nat.beq 2 2))) (Pa c fun z=>(cond z (cond (Nat.ble 2 (c.length)) (cond (Nat.ble 2 (e.length)) (HL N (e.take 2) l (fun aa=>(Qe N (c.take 2) false aa false (fun d=>(cond ((Nat.beq (d.length) 2)&&((Nat.ble 2 (c.length))&&(!false))) (Pa e fun ab=>(cond ab (cond (Nat.ble 2 (b.length)) (D2 N 1 (fun ac=>(Qe N (b.take 2) false ac false (fun g=>(cond ((Nat.beq (g.length) 2)&&((Nat.ble 2 (b.length))&&(!false))) (cond (Nat.ble 2 ((setCells b 0 g).length)) (cond (Nat.ble 2 ((setCells c 0 d).length)) (cond ((Nat.beq (((setCells b 0 g).take 2).length) 2)&&((Nat.ble 2 ((setCells b 0 g).length))&&(!false))) (cond ((Nat.beq (((setCells c 0 d).take 2).length) 2)&&((Nat.ble 2 ((setCells c 0 d).length))&&(!false))) (cond (Nat.ble 2 ((setCells (setCells b 0 g) 0 ((setCells b 0 g).take 2)).length)) (cond (Nat.ble 2 ((setCells (setCells c 0 d) 0 ((setCells c 0 d).take 2)).length)) (r0 ((setCells (setCells b 0 g) 0 ((setCells b 0 g).take 2)).take 2) ((setCells (setCells c 0 d) 0 ((setCells c 0 d).take 2)).take 2) true) none) none) none) none) none) none) none))))) none) (cond (Nat.ble 2 (b.length)) (D2 N 1 (fun ad=>(HM N (b.take 2) false ad false (fun i=>(cond ((Nat.beq (i.length) 2)&&((Nat.ble 2 (b.length))&&(!false))) (cond (Nat.ble 2 ((setCells b 0 i).length)) (cond (Nat.ble 2 ((setCells c 0 d).length)) (cond ((Nat.beq (((setCells b 0 i).take 2).length) 2)&&((Nat.ble 2 ((setCells b 0 i).length))&&(!false))) (cond ((Nat.beq (((setCells c 0 d).take 2).length) 2)&&((Nat.ble 2 ((setCells c 0 d).length))&&(!false))) (cond (Nat.ble 2 ((setCells (setCells b 0 i) 0 ((setCells b 0 i).take 2)).length)) (cond (Nat.ble 2 ((setCells (setCells c 0 d) 0 ((setCells c 0 d).take 2)).length)) (r0 ((setCells (setCells b 0 i) 0 ((setCells b 0 i).take 2)).take 2) ((setCells (setCells c 0 d) 0 ((setCells c 0 d).take 2)).take 2) true) none) none) none) none) none) none) none))))) none))) none))))) none) none) (cond (Nat.ble 2 (b.length)) (cond (Nat.ble 2 (c.length)) (cond ((Nat.beq ((b.take 2).length) 2)&&((Nat.ble 2 (b.length))&&(!false))) (cond ((Nat.beq ((c.take 2).length) 2)&&((Nat.ble 2 (c.length))&&(!false))) (cond (Nat.ble 2 ((setCells b 0 (b.take 2)).length)) (cond (Nat.ble 2 ((setCells c 0 (c.take 2)).length)) (r0 ((setCells b 0 (b.take 2)).take 2) ((setCells c 0 (c.take 2)).take 2) true) none) none) none) none) none) none))) none) none)))))))))))))
def Gu:=(Aj (@Uu R)).1
theorem Sn:@Gu R=@Uu R:=(Aj _).2
def m8:D7:=[(126,Vx N),(83,F7 N),(140,r_ N),(139,NZ N),(32,L0 N),(141,rc N)]
def KJ (F:KF R):LA→LA→Bool→O R:=(fun ae af ag=>F (.tup [(.pagg ae false),(.pagg af false),(.bool ag)]) [])
theorem KK (f:LA) (m:Bool) (e:LA) (l:Bool) (F:KF R):Cy (m8 N) zF N 71 [(.pagg f m),(.pagg e l)] [] F=(Gu N f m e l (KJ F)):=by
 rw[Sn]
 kernel_rfl
def EV (a:LA) (h:Ah) (k:KF R):O R :=
 match a,h with
 | [(.pagg f m),(.pagg e l)],[]=>(Gu N f m e l (KJ k))
 | _,_=>none
theorem KL:Ap N 71 @EV:=by
 intro R Q a h k j;unfold EV;split;exact Ax (KK ..) (KK ..) ⟨Vy N,F8 N,ra N,N_ N,L5 N,re N,trivial⟩;exact A2
def KM:=Ay (KL N)
def KN:=Cz (KL N)
def Uv (r0:LA→O R) (e:Bool) (c:LA) (d:Bool) (b:LA):O R :=
 (cond (Nat.ble 2 (c.length)) (cond (Nat.ble 2 (b.length)) (SE N (c.take 2) e (b.take 2) d (fun l=>(cond ((Nat.beq 0 0)&&((Nat.beq (l.length) 2)&&(Nat.beq 2 2))) (cond (Nat.ble 2 (c.length)) (cond (Nat.ble 2 (l.length)) (Gu N (c.take 2) e (l.take 2) false (fun f w af=>(cond ((Nat.beq 0 0)&&((Nat.beq (f.length) 2)&&(Nat.beq 2 2))) (cond ((Nat.beq 0 0)&&((Nat.beq (w.length) 2)&&(Nat.beq 2 2))) (cond (Nat.ble 2 (b.length)) (cond (Nat.ble 2 (l.length)) (Gu N (b.take 2) d (l.take 2) false (fun g x ag=>(cond ((Nat.beq 0 0)&&((Nat.beq (g.length) 2)&&(Nat.beq 2 2))) (cond ((Nat.beq 0 0)&&((Nat.beq (x.length) 2)&&(Nat.beq 2 2))) (Pa g fun y=>(cond y (cond (Nat.ble 2 (f.length)) (Qf N (f.take 2) false (fun i=>(cond (Nat.ble 2 (g.length)) (Qf N (g.take 2) false (fun v=>(cond ((Nat.beq (i.length) 2)&&((Nat.ble 2 (f.length))&&(!false))) (cond ((Nat.beq (v.length) 2)&&((Nat.ble 2 (g.length))&&(!false))) (cond (Nat.ble 2 ((setCells f 0 i).length)) (Ip 1 ((setCells g 0 v).drop 1) fun o p=>(cond ((Nat.beq (((setCells f 0 i).take 2).length) 2)&&(Nat.ble 2 3)) (cond ((Nat.beq 1 1)&&(Nat.ble 3 ((setCells [(.bool false),.nsl,.nsl] 0 ((setCells f 0 i).take 2)).length))) (cond ((Nat.beq 0 0)&&((Nat.beq (((setCells [(.bool false),.nsl,.nsl] 0 ((setCells f 0 i).take 2)).set 2 (.imm o p 1 false false)).length) 3)&&(Nat.beq 3 3))) (cond (Nat.ble 3 (((setCells [(.bool false),.nsl,.nsl] 0 ((setCells f 0 i).take 2)).set 2 (.imm o p 1 false false)).length)) (r0 (((setCells [(.bool false),.nsl,.nsl] 0 ((setCells f 0 i).take 2)).set 2 (.imm o p 1 false false)).take 3)) none) none) none) none)) none) none) none))) none))) none) (cond (Nat.ble 2 (f.length)) (Ip 1 (g.drop 1) fun q r=>(cond ((Nat.beq ((f.take 2).length) 2)&&(Nat.ble 2 3)) (cond ((Nat.beq 1 1)&&(Nat.ble 3 ((setCells [(.bool false),.nsl,.nsl] 0 (f.take 2)).length))) (cond ((Nat.beq 0 0)&&((Nat.beq (((setCells [(.bool false),.nsl,.nsl] 0 (f.take 2)).set 2 (.imm q r 1 false false)).length) 3)&&(Nat.beq 3 3))) (cond (Nat.ble 3 (((setCells [(.bool false),.nsl,.nsl] 0 (f.take 2)).set 2 (.imm q r 1 false false)).length)) (r0 (((setCells [(.bool false),.nsl,.nsl] 0 (f.take 2)).set 2 (.imm q r 1 false false)).take 3)) none) none) none) none)) none))) none) none))) none) none) none) none))) none) none) none))) none) none)
def HN (r0:LA→O R) (q0:O R) (c:LA) (e:Bool) (b:LA) (d:Bool):O R :=
 (cond (Nat.ble 2 (b.length)) (Si N (b.take 2) d (fun z=>(cond (z==0) (EN N (fun s=>(cond ((Nat.beq 0 0)&&((Nat.beq (s.length) 3)&&(Nat.beq 3 3))) (cond (Nat.ble 3 (s.length)) (r0 (s.take 3)) none) none))) (cond (Nat.ble 2 (b.length)) (Fz N (b.take 2) d (fun n=>(cond ((Nat.beq 0 0)&&((Nat.beq (n.length) 2)&&(Nat.beq 2 2))) (Pa n fun aa=>(cond ((!aa)==true) (Ip 1 (n.drop 1) fun ab ac=>(Ja N ab ac false false [(.int .u32 1)] 1 false true (fun ad=>(cond (cond true ad false) (cond (Nat.ble 2 (c.length)) (Fz N (c.take 2) e (fun m=>(Ip 1 (n.drop 1) fun t u=>(cond ((Nat.beq (m.length) 2)&&(Nat.ble 2 3)) (cond ((Nat.beq 1 1)&&(Nat.ble 3 ((setCells [(.bool false),.nsl,.nsl] 0 m).length))) (cond ((Nat.beq 0 0)&&((Nat.beq (((setCells [(.bool false),.nsl,.nsl] 0 m).set 2 (.imm t u 1 false false)).length) 3)&&(Nat.beq 3 3))) (cond (Nat.ble 3 (((setCells [(.bool false),.nsl,.nsl] 0 m).set 2 (.imm t u 1 false false)).length)) (r0 (((setCells [(.bool false),.nsl,.nsl] 0 m).set 2 (.imm t u 1 false false)).take 3)) none) none) none) none)))) none) q0)))) q0)) none))) none)))) none)
def H9:=(Aj (fun (N:Nat) (c:LA) (e:Bool) (b:LA) (d:Bool) (r0:LA→O R)=>(HN N r0 (Uv N r0 e c d b) c e b d))).1
theorem SG (c e b d r0):(@H9 R N c e b d r0)=(HN N r0 (Uv N r0 e c d b) c e b d):=by rw[H9,(Aj _).2]
def aT:Hints:={ H:=(hS hL (hS hL (hJ [2,3,4] hL hL))),modes:=[(3,0)] }
def gK:D7:=[(138,ZV N),(151,ov N),(26,Ol N),(65,Qb N),(152,r8 N),(71,KM N),(153,N' N)]
def pG (F:KF R):=Ty Tryz.f84 aT (gK N) [] N F
def Uw (F:KF R):LA→O R:=(fun ae=>F (.pagg ae false) [])
def pH (e:Bool) (c:LA) (d:Bool) (b:LA):St:=⟨[(2,(op 0)),(3,(op 1)),(4,(op 2))],(hq [(bP e 0 c),(bP d 0 b),(bN 0 [(.bool false),.nsl,.nsl])])⟩
def pI (F:KF R):=pG N F [1,1,1] []
theorem gL (F:KF R) (e:Bool) (c:LA) (d:Bool) (b:LA):Dx (pI N F) (pH e c d b)=(Uv N (Uw F) e c d b):=by
 kernel_rfl
theorem aU (c:LA) (e:Bool) (b:LA) (d:Bool) (F:KF R):Cy (gK N) aT N 84 [(.pagg c e),(.pagg b d)] [] F=(H9 N c e b d (Uw F)):=by
 rw[SG]
 exact Eq.trans (by kernel_rfl) (E9 (HN N (Uw F) · c e b d) ((Bh ..).trans (gL N F e c d b)):_)
def SH (a:LA) (h:Ah) (k:KF R):O R :=
 match a,h with
 | [(.pagg c e),(.pagg b d)],[]=>(H9 N c e b d (Uw k))
 | _,_=>none
theorem aV:Ap N 84 @SH:=by
 intro R Q a h k j;unfold SH;split;exact Ax (aU ..) (aU ..) ⟨ZW N,ow N,Om N,Qc N,r9 N,KN N,OA N,trivial⟩;exact A2
def Oo:=Ay (aV N)
def Oq:=Cz (aV N)
def m9 (b c:Int) (r0:LA→O R):O R :=
 (D2 N b (fun e=>(D2 N c (fun f=>(H9 N e false f false (fun d=>(cond ((Nat.beq 0 0)&&((Nat.beq (d.length) 3)&&(Nat.beq 3 3))) (cond (Nat.ble 3 (d.length)) (r0 (d.take 3)) none) none)))))))
def Pe:=(Aj (@m9 R)).1
theorem gM:@Pe R=@m9 R:=(Aj _).2
def wk:D7:=[(32,L0 N),(84,Oo N)]
def k9 (F:KF R):LA→O R:=(fun g=>F (.pagg g false) [])
theorem k_ (b c:Int) (F:KF R):Cy (wk N) Ln N 59 [(iv b),(iv c)] [] F=(Pe N b c (k9 F)):=by
 rw[gM]
 kernel_rfl
def gN (a:LA) (h:Ah) (k:KF R):O R :=
 match a,h with
 | [(.int .i64 b),(.int .i64 c)],[]=>(Pe N b c (k9 k))
 | _,_=>none
theorem kc:Ap N 59 @gN:=by
 intro R Q a h k j;unfold gN;split;exact Ax (k_ ..) (k_ ..) ⟨L5 N,Oq N,trivial⟩;exact A2
def uk:=Ay (kc N)
def ul:=Cz (kc N)
def E4 (r0:LA→LA→Bool→O R) (g f:Nat) (e:Bool) (b:LA) (d:Bool) (c i l:LA) (m:Bool):O R :=
 (cond m (NA N (i.take (g*1)) g false true [(.int .u32 1)] 1 false true (fun n p=>(Ip 1 (c.drop 1) fun r s=>(Vs N r s false d (l.take (f*1)) f false true (fun o ak q=>(Pa b fun t=>(Pa c fun u=>(Cg N (!(t==u)) n p (fun v=>(Cg N false o q (fun w=>(r0 [(.bool v),(.imm (p.take (n*1)) n 1 false false)] [(.bool w),(.imm (q.take (o*1)) o 1 false false)] true)))))))))))) (Pa b fun x=>(Pa c fun y=>(Cg N (!(x==y)) g i (fun z=>(Cg N false f l (fun aa=>(r0 [(.bool z),(.imm (i.take (g*1)) g 1 false false)] [(.bool aa),(.imm (l.take (f*1)) f 1 false false)] true))))))))
def Zo (r0:LA→LA→Bool→O R) (q0:Nat→Nat→LA→LA→Bool→O R) (b:LA) (e:Bool) (c:LA) (d:Bool):O R :=
 (Ip 1 (b.drop 1) fun ab ac=>(Ip 1 (c.drop 1) fun ad ae=>(Cx N ab ac false e ad ae false d (fun g f af i l=>(cond (!af) (r0 [(.bool false),.nsl] [(.bool false),.nsl] false) (Pa b fun ag=>(cond (ag==true) (q0 g f i l (cond true (decide (((f:Nat):Int)>0)) false)) (q0 g f i l false))))))))
def Dm:=(Aj (fun (N:Nat) (b:LA) (e:Bool) (c:LA) (d:Bool) (r0:LA→LA→Bool→O R)=>(Zo N r0 (fun g f i l m=>(E4 N r0 g f e b d c i l m)) b e c d))).1
theorem KO (b e c d r0):(@Dm R N b e c d r0)=(Zo N r0 (fun g f i l m=>(E4 N r0 g f e b d c i l m)) b e c d):=by rw[Dm,(Aj _).2]
def SI:Hints:={ H:=(hS hL (hS hL (hS hL (hS (hJ [2,3,4,5,7,8,28] hL hL) hL)))),modes:=[(3,0),(3,0),(0,0)] }
def aW:D7:=[(134,Ze N),(135,kE N),(136,WA N),(132,Gk N)]
def m_ (F:KF R):=Ty Tryz.f67 SI (aW N) [] N F
def Qg (F:KF R):LA→LA→Bool→O R:=(fun ah ai aj=>F (.tup [(.pagg ah false),(.pagg ai false),(.bool aj)]) [])
def ma (g f:Nat) (e:Bool) (b:LA) (d:Bool) (c i l:LA) (m:Bool):St:=⟨[(2,(op 0)),(3,(op 1)),(4,(op 2)),(5,(op 3)),(7,(.own 300004 0 g)),(8,(.own 300005 0 f)),(28,(.bool m))],(hq [(bP e 0 b),(bP d 0 c),(bN 0 [(.bool false),.nsl]),(bN 0 [(.bool false),.nsl]),(bQ 1 i),(bQ 1 l)])⟩
def mb (F:KF R):=m_ N F [1,1,1,0,1] []
theorem cW (F:KF R) (g f:Nat) (e:Bool) (b:LA) (d:Bool) (c i l:LA):∀ (m:Bool),Dx (mb N F) (ma g f e b d c i l m)=(E4 N (Qg F) g f e b d c i l m):=by
 intro m
 kernel_rfl
theorem SK (b:LA) (e:Bool) (c:LA) (d:Bool) (F:KF R):Cy (aW N) SI N 67 [(.pagg b e),(.pagg c d)] [] F=(Dm N b e c d (Qg F)):=by
 rw[KO]
 exact Eq.trans (by kernel_rfl) (E9 (Zo N (Qg F) · b e c d) (funext fun g=>funext fun f=>funext fun i=>funext fun l=>funext fun m=>(Bh ..).trans (cW N F g f e b d c i l m)):_)
def KP (a:LA) (h:Ah) (k:KF R):O R :=
 match a,h with
 | [(.pagg b e),(.pagg c d)],[]=>(Dm N b e c d (Qg k))
 | _,_=>none
theorem SL:Ap N 67 @KP:=by
 intro R Q a h k j;unfold KP;split;exact Ax (SK ..) (SK ..) ⟨Zf N,kF N,WB N,Gl N,trivial⟩;exact A2
def Qh:=Ay (SL N)
def Qi:=Cz (SL N)
def EW (b:LA) (d:Bool) (c:LA) (e:Bool) (r0:Int→O R):O R :=
 (cond (Nat.ble 2 (b.length)) (Hr N (b.take 2) d (fun f=>(cond (Nat.ble 2 (c.length)) (Hr N (c.take 2) e (fun g=>(cond (decide (f<g)) (r0 (-1)) (cond (decide (f>g)) (r0 1) (cond (decide (f<0)) (Ip 1 (c.drop 1) fun i l=>(Ip 1 (b.drop 1) fun m n=>(Cn N i l false e m n false d (fun o=>(r0 o))))) (Ip 1 (b.drop 1) fun p q=>(Ip 1 (c.drop 1) fun r s=>(Cn N p q false d r s false e (fun t=>(r0 t)))))))))) none))) none)
def Kp:=(Aj (@EW R)).1
theorem EX:@Kp R=@EW R:=(Aj _).2
def mc:D7:=[(125,Ry N),(131,I5 N)]
def KQ (F:KF R):Int→O R:=(fun u=>F (iv u) [])
theorem KR (b:LA) (d:Bool) (c:LA) (e:Bool) (F:KF R):Cy (mc N) Cl N 63 [(.pagg b d),(.pagg c e)] [] F=(Kp N b d c e (KQ F)):=by
 rw[EX]
 kernel_rfl
def EY (a:LA) (h:Ah) (k:KF R):O R :=
 match a,h with
 | [(.pagg b d),(.pagg c e)],[]=>(Kp N b d c e (KQ k))
 | _,_=>none
theorem KS:Ap N 63 @EY:=by
 intro R Q a h k j;unfold EY;split;exact Ax (KR ..) (KR ..) ⟨Rz N,I6 N,trivial⟩;exact A2
def Vz:=Ay (KS N)
def V0:=Cz (KS N)
def md (b:LA) (c:Bool) (r0:Bool→Nat→LA→O R):O R :=
 (Ip 1 (b.drop 1) fun f g=>(Ls N f g false c (fun d e=>(Cg N false d e (fun i=>(r0 i d e))))))
def gO:=(Aj (@md R)).1
theorem gP:@gO R=@md R:=(Aj _).2
def wl:D7:=[(212,No N),(132,Gk N)]
def ke (F:KF R):Bool→Nat→LA→O R:=(fun l m n=>F (.agg [(.bool l),(.own 300000 0 m)]) (hq [(bQ 1 n)]))
theorem kf (b:LA) (c:Bool) (F:KF R):Cy (wl N) Cl N 200 [(.pagg b c)] [] F=(gO N b c (ke F)):=by
 rw[gP]
 kernel_rfl
def gQ (a:LA) (h:Ah) (k:KF R):O R :=
 match a,h with
 | [(.pagg b c)],[]=>(gO N b c (ke k))
 | _,_=>none
theorem kg:Ap N 200 @gQ:=by
 intro R Q a h k j;unfold gQ;split;exact Ax (kf ..) (kf ..) ⟨Np N,Gl N,trivial⟩;exact A2
def um:=Ay (kg N)
def uo:=Cz (kg N)
def Ot (N:Nat) (r0:Int→Bool→O R) (d:Int) (c:Bool) (b:LA) (e:Bool):O R :=
 (cond e (r0 (wrap .i64 (wrap .u64 ((0:Int) - d))) true) (Pa b fun f=>(cond ((!f)==true) (cond (cond true (decide (d<9223372036854775808)) false) (r0 (wrap .i64 d) true) (r0 0 false)) (r0 0 false))))
def HO (r0:Int→Bool→O R) (q0:Int→Bool→O R) (b:LA) (c:Bool):O R :=
 (Ip 1 (b.drop 1) fun g i=>(Ns N g i false c (fun d l=>(cond (!l) (r0 0 false) (Pa b fun m=>(cond (m==true) (q0 d (cond true (decide (d≤9223372036854775808)) false)) (q0 d false)))))))
def Ou:=(Aj (fun (N:Nat) (b:LA) (c:Bool) (r0:Int→Bool→O R)=>(HO N r0 (fun d e=>(Ot N r0 d c b e)) b c))).1
theorem SM (b c r0):(@Ou R N b c r0)=(HO N r0 (fun d e=>(Ot N r0 d c b e)) b c):=by rw[Ou,(Aj _).2]
def aX:Hints:={ H:=(hS hL (hS hL (hS (hS (hS hL (hS hL (hJ [1,4,15] hL hL))) hL) hL))) }
def gR:D7:=[(210,QK N)]
def pJ (F:KF R):=Ty Tryz.f201 aX (gR N) [] N F
def Ux (F:KF R):Int→Bool→O R:=(fun n o=>F (.tup [(iv n),(.bool o)]) [])
def pK (d:Int) (c:Bool) (b:LA) (e:Bool):St:=⟨[(1,(op 0)),(4,(.int .u64 d)),(15,(.bool e))],(hq [(bP c 0 b)])⟩
def pL (F:KF R):=pJ N F [1,1,0,0,1,1,1] []
theorem gS (F:KF R) (d:Int) (c:Bool) (b:LA):∀ (e:Bool),Dx (pL N F) (pK d c b e)=(Ot N (Ux F) d c b e):=by
 intro e
 kernel_rfl
theorem aY (b:LA) (c:Bool) (F:KF R):Cy (gR N) aX N 201 [(.pagg b c)] [] F=(Ou N b c (Ux F)):=by
 rw[SM]
 exact Eq.trans (by kernel_rfl) (E9 (HO N (Ux F) · b c) (funext fun d=>funext fun e=>(Bh ..).trans (gS N F d c b e)):_)
def SN (a:LA) (h:Ah) (k:KF R):O R :=
 match a,h with
 | [(.pagg b c)],[]=>(Ou N b c (Ux k))
 | _,_=>none
theorem aZ:Ap N 201 @SN:=by
 intro R Q a h k j;unfold SN;split;exact Ax (aY ..) (aY ..) ⟨QL N,trivial⟩;exact A2
def pM:=Ay (aZ N)
def pN:=Cz (aZ N)
def Xs (r0:LA→O R) (d:Bool) (b:LA) (e:Bool) (c:LA):O R :=
 (cond (Nat.ble 3 (b.length)) (Oj N (b.take 3) d (fun f o p q r=>(cond ((Nat.beq 0 0)&&((Nat.beq (f.length) 2)&&(Nat.beq 2 2))) (cond (Nat.ble 3 (c.length)) (Oj N (c.take 3) e (fun g s t u v=>(cond ((Nat.beq 0 0)&&((Nat.beq (g.length) 2)&&(Nat.beq 2 2))) (cond (Nat.ble 2 (f.length)) (cond (Nat.ble 2 (g.length)) (Nn N (f.take 2) o (g.take 2) s (fun w m x=>(Y6 N p q false r t u false v (fun n y=>(Nx N [(.bool w),(.imm (x.take (m*1)) m 1 false true)] true (y.take (n*1)) n false true (fun i=>(cond ((Nat.beq 0 0)&&((Nat.beq (i.length) 3)&&(Nat.beq 3 3))) (cond (Nat.ble 3 (i.length)) (r0 (i.take 3)) none) none))))))) none) none) none))) none) none))) none)
def HP (r0:LA→O R) (q0:O R) (b:LA) (d:Bool) (c:LA) (e:Bool):O R :=
 (cond (Nat.ble 3 (b.length)) (Jv N (b.take 3) d (fun z aa ab=>(cond (Nat.ble 3 (c.length)) (Jv N (c.take 3) e (fun ac ad ae=>(cond (ab==true) (cond (cond true ae false) (F5 N (wrap .i64 (z*ac)) (wrap .i64 (aa*ad)) (fun l=>(cond ((Nat.beq 0 0)&&((Nat.beq (l.length) 3)&&(Nat.beq 3 3))) (cond (Nat.ble 3 (l.length)) (r0 (l.take 3)) none) none))) q0) q0))) none))) none)
def WX:=(Aj (fun (N:Nat) (b:LA) (d:Bool) (c:LA) (e:Bool) (r0:LA→O R)=>(HP N r0 (Xs N r0 d b e c) b d c e))).1
theorem Zp (b d c e r0):(@WX R N b d c e r0)=(HP N r0 (Xs N r0 d b e c) b d c e):=by rw[WX,(Aj _).2]
def ki:Hints:={ H:=(hS hL (hS hL (hS hL (hJ [2,3,4] hL hL)))),modes:=[(3,0)] }
def pO:D7:=[(127,ZA N),(128,DT N),(130,DV N),(68,W0 N),(137,VX N),(129,RI N)]
def uq (F:KF R):=Ty Tryz.f76 ki (pO N) [] N F
def HQ (F:KF R):LA→O R:=(fun af=>F (.pagg af false) [])
def ur (d:Bool) (b:LA) (e:Bool) (c:LA):St:=⟨[(2,(op 0)),(3,(op 1)),(4,(op 2))],(hq [(bP d 0 b),(bP e 0 c),(bN 0 [(.bool false),.nsl,.nsl])])⟩
def ut (F:KF R):=uq N F [1,1,1,1] []
theorem mf (F:KF R) (d:Bool) (b:LA) (e:Bool) (c:LA):Dx (ut N F) (ur d b e c)=(Xs N (HQ F) d b e c):=by
 kernel_rfl
theorem kj (b:LA) (d:Bool) (c:LA) (e:Bool) (F:KF R):Cy (pO N) ki N 76 [(.pagg b d),(.pagg c e)] [] F=(WX N b d c e (HQ F)):=by
 rw[Zp]
 exact Eq.trans (by kernel_rfl) (E9 (HP N (HQ F) · b d c e) ((Bh ..).trans (mf N F d b e c)):_)
def gT (a:LA) (h:Ah) (k:KF R):O R :=
 match a,h with
 | [(.pagg b d),(.pagg c e)],[]=>(WX N b d c e (HQ k))
 | _,_=>none
theorem ko:Ap N 76 @gT:=by
 intro R Q a h k j;unfold gT;split;exact Ax (kj ..) (kj ..) ⟨ZB N,DU N,DW N,W1 N,VY N,RK N,trivial⟩;exact A2
def uv:=Ay (ko N)
def uw:=Cz (ko N)
def WY (d:LA) (e:Bool) (r0:LA→LA→LA→Bool→O R):O R :=
 (cond (Nat.ble 3 (d.length)) (Oj N (d.take 3) e (fun g m i l f=>(cond ((Nat.beq 0 0)&&((Nat.beq (g.length) 2)&&(Nat.beq 2 2))) (cond (Nat.ble 2 (g.length)) (Dm N (g.take 2) m [(.bool false),(.imm i l 1 false f)] (f||false) (fun b c r=>(cond ((Nat.beq 0 0)&&((Nat.beq (b.length) 2)&&(Nat.beq 2 2))) (cond ((Nat.beq 0 0)&&((Nat.beq (c.length) 2)&&(Nat.beq 2 2))) (cond (Nat.ble 2 (b.length)) (cond (Nat.ble 2 (c.length)) (cond ((Nat.beq ((b.take 2).length) 2)&&((Nat.ble 2 (b.length))&&(!false))) (cond ((Nat.beq ((c.take 2).length) 2)&&((Nat.ble 2 (c.length))&&(!false))) (cond (Nat.ble 2 ((setCells b 0 (b.take 2)).length)) (cond (Nat.ble 2 ((setCells c 0 (c.take 2)).length)) (r0 ((setCells b 0 (b.take 2)).take 2) ((setCells c 0 (c.take 2)).take 2) [(.bool false),(.imm i l 1 false f)] (f||false)) none) none) none) none) none) none) none) none))) none) none))) none)
def EZ:=(Aj (@WY R)).1
theorem SO:@EZ R=@WY R:=(Aj _).2
def pP:Hints:={ H:=hL,modes:=[(3,0),(3,0),(3,0)] }
def rf:D7:=[(130,DV N),(67,Qh N)]
def a6 (F:KF R):LA→LA→LA→Bool→O R:=(fun n o p q=>F (.tup [(.pagg n false),(.pagg o false),(.pagg p q)]) [])
theorem a7 (d:LA) (e:Bool) (F:KF R):Cy (rf N) pP N 143 [(.pagg d e)] [] F=(EZ N d e (a6 F)):=by
 rw[SO]
 kernel_rfl
def SP (a:LA) (h:Ah) (k:KF R):O R :=
 match a,h with
 | [(.pagg d e)],[]=>(EZ N d e (a6 k))
 | _,_=>none
theorem a8:Ap N 143 @SP:=by
 intro R Q a h k j;unfold SP;split;exact Ax (a7 ..) (a7 ..) ⟨DW N,Qi N,trivial⟩;exact A2
def pQ:=Ay (a8 N)
def pR:=Cz (a8 N)
def Ov (r0:LA→O R) (c:Int) (b:LA) (d:Bool):O R :=
 (cond ((decide (c>0))==false) (cond ((c==0)==true) (cond (cond false true (cond true d false)) (cond (Nat.ble 2 (b.length)) (Bf N 1 (fun q l r=>(Y8 N (b.take 2) false [(.bool q),(.imm (r.take (l*1)) l 1 false true)] true (fun s m t=>(r0 [(.bool s),(.imm (t.take (m*1)) m 1 false false)]))))) none) (cond (Nat.ble 2 (b.length)) (cond ((Nat.beq 0 0)&&((Nat.beq ((b.take 2).length) 2)&&(Nat.beq 2 2))) (cond (Nat.ble 2 ((b.take 2).length)) (r0 ((b.take 2).take 2)) none) none) none)) (cond (Nat.ble 2 (b.length)) (cond ((Nat.beq 0 0)&&((Nat.beq ((b.take 2).length) 2)&&(Nat.beq 2 2))) (cond (Nat.ble 2 ((b.take 2).length)) (r0 ((b.take 2).take 2)) none) none) none)) (cond (Nat.ble 2 (b.length)) (Bf N 1 (fun u n v=>(Y8 N (b.take 2) false [(.bool u),(.imm (v.take (n*1)) n 1 false true)] true (fun w o x=>(r0 [(.bool w),(.imm (x.take (o*1)) o 1 false false)]))))) none))
def HR (r0:LA→O R) (q0:Int→LA→Bool→O R) (e:LA) (f:Bool):O R :=
 (cond (Nat.ble 3 (e.length)) (EZ N (e.take 3) f (fun b g i y=>(cond ((Nat.beq 0 0)&&((Nat.beq (b.length) 2)&&(Nat.beq 2 2))) (cond ((Nat.beq 0 0)&&((Nat.beq (g.length) 2)&&(Nat.beq 2 2))) (cond ((Nat.beq 0 0)&&((Nat.beq (i.length) 2)&&(Nat.beq 2 2))) (cond (Nat.ble 2 (g.length)) (cond (Nat.ble 2 (g.length)) (Y8 N (g.take 2) false (g.take 2) false (fun z p aa=>(cond (Nat.ble 2 (i.length)) (Kp N [(.bool z),(.imm (aa.take (p*1)) p 1 false true)] true (i.take 2) y (fun c=>(Ip 1 (b.drop 1) fun ag ab=>(cond ((decide (((ab:Nat):Int)>0))==true) (Ip 1 (b.drop 1) fun ac ad=>(cond (Ao 0 ad) (F3 .u32 ac fun ae=>(q0 c b (cond true ((Int.tmod ae 2)==1) false))) none)) (q0 c b false))))) none))) none) none) none) none) none))) none)
def Xt:=(Aj (fun (N:Nat) (e:LA) (f:Bool) (r0:LA→O R)=>(HR N r0 (fun c b d=>(Ov N r0 c b d)) e f))).1
theorem SQ (e f r0):(@Xt R N e f r0)=(HR N r0 (fun c b d=>(Ov N r0 c b d)) e f):=by rw[Xt,(Aj _).2]
def a_:Hints:={ H:=(hS hL (hS hL (hS hL (hJ [2,3,6,7] hL hL)))),modes:=[(3,0)] }
def gU:D7:=[(143,pQ N),(144,kM N),(63,Vz N),(64,Fb N)]
def pS (F:KF R):=Ty Tryz.f75 a_ (gU N) [] N F
def Uy (F:KF R):LA→O R:=(fun af=>F (.pagg af false) [])
def pT (c:Int) (b:LA) (d:Bool):St:=⟨[(2,(op 0)),(3,(op 1)),(6,(iv c)),(7,(.bool d))],(hq [(bN 0 [(.bool false),.nsl]),(bQ 0 b)])⟩
def pU (F:KF R):=pS N F [1,1,1,1] []
theorem gV (F:KF R) (c:Int) (b:LA):∀ (d:Bool),Dx (pU N F) (pT c b d)=(Ov N (Uy F) c b d):=by
 intro d
 kernel_rfl
theorem bA (e:LA) (f:Bool) (F:KF R):Cy (gU N) a_ N 75 [(.pagg e f)] [] F=(Xt N e f (Uy F)):=by
 rw[SQ]
 exact Eq.trans (by kernel_rfl) (E9 (HR N (Uy F) · e f) (funext fun c=>funext fun b=>funext fun d=>(Bh ..).trans (gV N F c b d)):_)
def SR (a:LA) (h:Ah) (k:KF R):O R :=
 match a,h with
 | [(.pagg e f)],[]=>(Xt N e f (Uy k))
 | _,_=>none
theorem bB:Ap N 75 @SR:=by
 intro R Q a h k j;unfold SR;split;exact Ax (bA ..) (bA ..) ⟨pR N,kN N,V0 N,Fc N,trivial⟩;exact A2
def pV:=Ay (bB N)
def pW:=Cz (bB N)
def Zq (b:LA) (d:Bool) (c:LA) (e:Bool) (r0:Bool→O R):O R :=
 (Pa b fun f=>(Pa c fun g=>(cond ((f==g)==true) (Ip 1 (b.drop 1) fun i l=>(Ip 1 (c.drop 1) fun m n=>(Ja N i l false d m n false e (fun o=>(r0 (cond true o false)))))) (r0 false))))
def Hj:=(Aj (@Zq R)).1
theorem V1:@Hj R=@Zq R:=(Aj _).2
def pX:D7:=[(65,Qb N)]
def ST (F:KF R):Bool→O R:=(fun p=>F (.bool p) [])
theorem SU (b:LA) (d:Bool) (c:LA) (e:Bool) (F:KF R):Cy (pX N) Cl N 25 [(.pagg b d),(.pagg c e)] [] F=(Hj N b d c e (ST F)):=by
 rw[V1]
 kernel_rfl
def KT (a:LA) (h:Ah) (k:KF R):O R :=
 match a,h with
 | [(.pagg b d),(.pagg c e)],[]=>(Hj N b d c e (ST k))
 | _,_=>none
theorem SV:Ap N 25 @KT:=by
 intro R Q a h k j;unfold KT;split;exact Ax (SU ..) (SU ..) ⟨Qc N,trivial⟩;exact A2
def SW:=Ay (SV N)
def SX:=Cz (SV N)
def Zr (b:LA) (d:Bool) (c:LA) (e:Bool) (r0:Bool→O R):O R :=
 (cond (Nat.ble 2 (b.length)) (cond (Nat.ble 2 (c.length)) (Hj N (b.take 2) d (c.take 2) e (fun f=>(cond (f==true) (Ip 1 (b.drop 2) fun g i=>(Ip 1 (c.drop 2) fun l m=>(Ja N g i false d l m false e (fun n=>(r0 (cond true n false)))))) (r0 false)))) none) none)
def Dn:=(Aj (@Zr R)).1
theorem V3:@Dn R=@Zr R:=(Aj _).2
def pY:D7:=[(25,SW N),(65,Qb N)]
def SY (F:KF R):Bool→O R:=(fun o=>F (.bool o) [])
theorem SZ (b:LA) (d:Bool) (c:LA) (e:Bool) (F:KF R):Cy (pY N) Cl N 27 [(.pagg b d),(.pagg c e)] [] F=(Dn N b d c e (SY F)):=by
 rw[V3]
 kernel_rfl
def KU (a:LA) (h:Ah) (k:KF R):O R :=
 match a,h with
 | [(.pagg b d),(.pagg c e)],[]=>(Dn N b d c e (SY k))
 | _,_=>none
theorem S_:Ap N 27 @KU:=by
 intro R Q a h k j;unfold KU;split;exact Ax (SZ ..) (SZ ..) ⟨SX N,Qc N,trivial⟩;exact A2
def Zs:=Ay (S_ N)
def Zt:=Cz (S_ N)
def WZ (b:LA) (c:Bool) (r0:LA→O R):O R :=
 (cond (Nat.ble 2 (b.length)) (Ip 1 (b.drop 2) fun e f=>(H9 N (b.take 2) c [(.bool false),(.imm e f 1 false c)] (c||false) (fun d=>(cond ((Nat.beq 0 0)&&((Nat.beq (d.length) 3)&&(Nat.beq 3 3))) (cond (Nat.ble 3 (d.length)) (r0 (d.take 3)) none) none)))) none)
def Cs:=(Aj (@WZ R)).1
theorem TA:@Cs R=@WZ R:=(Aj _).2
def rg:D7:=[(84,Oo N)]
def bC (F:KF R):LA→O R:=(fun g=>F (.pagg g false) [])
theorem bD (b:LA) (c:Bool) (F:KF R):Cy (rg N) Ln N 28 [(.pagg b c)] [] F=(Cs N b c (bC F)):=by
 rw[TA]
 kernel_rfl
def TB (a:LA) (h:Ah) (k:KF R):O R :=
 match a,h with
 | [(.pagg b c)],[]=>(Cs N b c (bC k))
 | _,_=>none
theorem bE:Ap N 28 @TB:=by
 intro R Q a h k j;unfold TB;split;exact Ax (bD ..) (bD ..) ⟨Oq N,trivial⟩;exact A2
def Ga:=Ay (bE N)
def Gb:=Cz (bE N)
def Uz (N:Nat) (k0:Nat→Int→LA→O R) (r0:Nat→LA→O R) (d:LA) (c:Nat) (f g:Bool) (e:LA) (b:Nat) (i l:Bool) (m:Nat) (k1:Int→Int→Int→LA→O R) (o t p:Int) (s:LA):O R :=
 (cond (decide (p<((b:Nat):Int))) (cond (Ao (wrap .i64 (o+p)) m) (F3 .u32 (s.drop (0+(((wrap .i64 (o+p)).toNat)*1))) fun u=>(cond (Ao o c) (F3 .u32 (d.drop ((o.toNat)*1)) fun v=>(cond (Ao p b) (F3 .u32 (e.drop ((p.toNat)*1)) fun w=>(cond (Ao (wrap .i64 (o+p)) m) (cond ((Nat.beq 1 1)&&((Nat.ble ((0+(((wrap .i64 (o+p)).toNat)*1))+1) (s.length))&&(!false))) (k1 o (Int.fdiv (wrap .u64 (t+(wrap .u64 ((wrap .u64 u)+(wrap .u64 ((wrap .u64 v)*(wrap .u64 w))))))) (2 ^ 32)) (wrap .i64 (p+1)) (s.set (0+(((wrap .i64 (o+p)).toNat)*1)) (.int .u32 (wrap .u32 (wrap .u64 (t+(wrap .u64 ((wrap .u64 u)+(wrap .u64 ((wrap .u64 v)*(wrap .u64 w))))))))))) none) none)) none)) none)) none) (cond (Ao (wrap .i64 (o+((b:Nat):Int))) m) (cond ((Nat.beq 1 1)&&((Nat.ble ((0+(((wrap .i64 (o+((b:Nat):Int))).toNat)*1))+1) (s.length))&&(!false))) (k0 m (wrap .i64 (o+1)) (s.set (0+(((wrap .i64 (o+((b:Nat):Int))).toNat)*1)) (.int .u32 (wrap .u32 t)))) none) none))
def Kq (k0:Nat→Int→LA→O R) (r0:Nat→LA→O R) (d:LA) (c:Nat) (f g:Bool) (e:LA) (b:Nat) (i l:Bool) (m:Nat):Nat→Int→Int→Int→LA→O R
 | 0,_,_,_,_=>none
 | n+1,o,t,p,s=>(Uz N k0 r0 d c f g e b i l m (Kq k0 r0 d c f g e b i l m n) o t p s)
def U0 (r0:Nat→LA→O R) (d:LA) (c:Nat) (f g:Bool) (e:LA) (b:Nat) (i l:Bool) (k0:Nat→Int→LA→O R) (q1:Int→Int→Int→LA→O R) (m:Nat) (q:Int) (r:LA):O R :=
 (cond (decide (q<((c:Nat):Int))) (q1 q 0 0 r) (Cc N (r.take (m*1)) m false true (fun x y=>(r0 x y))))
def Gv (r0:Nat→LA→O R) (d:LA) (c:Nat) (f g:Bool) (e:LA) (b:Nat) (i l:Bool):Nat→Nat→Int→LA→O R
 | 0,_,_,_=>none
 | n+1,m,q,r=>(U0 N r0 d c f g e b i l (Gv r0 d c f g e b i l n) (fun o t p s=>(Kq N (Gv r0 d c f g e b i l n) r0 d c f g e b i l m N o t p s)) m q r)
def TC (N:Nat) (r0:Nat→LA→O R) (q0:Nat→Int→LA→O R) (d:LA) (c:Nat) (f g:Bool) (e:LA) (b:Nat) (i l:Bool):O R :=
 (cond ((decide (0≤(wrap .i64 (((c:Nat):Int)+((b:Nat):Int)))))&&((decide ((wrap .i64 (((c:Nat):Int)+((b:Nat):Int)))≤(wrap .i64 (((c:Nat):Int)+((b:Nat):Int)))))&&((decide ((wrap .i64 (((c:Nat):Int)+((b:Nat):Int)))≤140737488355328))&&(decide (((wrap .i64 (((c:Nat):Int)+((b:Nat):Int)))*((4:Nat):Int))≤140737488355328))))) (q0 ((wrap .i64 (((c:Nat):Int)+((b:Nat):Int))).toNat) 0 (List.replicate ((wrap .i64 (((c:Nat):Int)+((b:Nat):Int))).toNat) (.int .u32 0))) none)
def HS:=(Aj (fun (N:Nat) (d:LA) (c:Nat) (f g:Bool) (e:LA) (b:Nat) (i l:Bool) (r0:Nat→LA→O R)=>(TC N r0 (fun m q r=>(Gv N r0 d c f g e b i l N m q r)) d c f g e b i l))).1
theorem bF (d c f g e b i l r0):(@HS R N d c f g e b i l r0)=(TC N r0 (fun m q r=>(Gv N r0 d c f g e b i l N m q r)) d c f g e b i l):=by rw[HS,(Aj _).2]
def gW:Hints:={ H:=(hS hL (hS hL (hS (hS hL (hS (hP [0,1,5,6] (hS hL (hS (hS (hS hL (hS (hS hL (hS (hP [0,1,5,6,7,8] hL) hL)) hL)) hL) hL))) hL)) hL))),nils:=[(4,1)],modes:=[(2,1)] }
def kp:D7:=[(150,D0 N)]
def gX (F:KF R):=Ty Tryz.f156 gW (kp N) [] N F
def Ia (F:KF R):Nat→LA→O R:=(fun z aa=>F (.own 300000 0 z) (hq [(bQ 1 aa)]))
def ri (d:LA) (c:Nat) (f g:Bool) (e:LA) (b:Nat) (i l:Bool) (m:Nat) (o t p:Int) (s:LA):St:=⟨[(0,(.imm d c 1 f g)),(1,(.imm e b 1 i l)),(5,(.own 300000 0 m)),(6,(iv o)),(7,(.int .u64 t)),(8,(iv p))],(hq [(bQ 1 s)])⟩
def rj (F:KF R) (Q0:St→O R):=gX N F [1,1,0,1,0,0,1,0,0,1,0,1,0] [Q0]
def OC (d:LA) (c:Nat) (f g:Bool) (e:LA) (b:Nat) (i l:Bool) (m:Nat) (q:Int) (r:LA):St:=⟨[(0,(.imm d c 1 f g)),(1,(.imm e b 1 i l)),(5,(.own 300000 0 m)),(6,(iv q))],(hq [(bQ 1 r)])⟩
def gY (F:KF R):=gX N F [1,1,0,1,0] []
theorem KV (Q0:St→O R) (F:KF R) (d:LA) (c:Nat) (f g:Bool) (e:LA) (b:Nat) (i l:Bool) (m:Nat):∀ (n:Nat) (o t p:Int) (s:LA),A5 (rj N F Q0) n (ri d c f g e b i l m o t p s)=(Kq N (fun m q r=>Q0 (OC d c f g e b i l m q r)) (Ia F) d c f g e b i l m n o t p s)
 | 0,_,_,_,_=>by kernel_rfl
 | n+1,o,t,p,s=>Eq.trans (by kernel_rfl) (E9 (Uz N (fun m q r=>Q0 (OC d c f g e b i l m q r)) (Ia F) d c f g e b i l m · o t p s) (funext fun o=>funext fun t=>funext fun p=>funext fun s=>(KV Q0 F d c f g e b i l m n o t p s)):_)
theorem KW (F:KF R) (d:LA) (c:Nat) (f g:Bool) (e:LA) (b:Nat) (i l:Bool):∀ (n m:Nat) (q:Int) (r:LA),A5 (gY N F) n (OC d c f g e b i l m q r)=(Gv N (Ia F) d c f g e b i l n m q r)
 | 0,_,_,_=>by kernel_rfl
 | n+1,m,q,r=>have e0:=(funext fun m=>funext fun q=>funext fun r=>(KW F d c f g e b i l n m q r))
  Eq.trans (by kernel_rfl) (ti (U0 N (Ia F) d c f g e b i l · · m q r) e0 (funext fun o=>funext fun t=>funext fun p=>funext fun s=>(Aw ..).trans ((KV N (A5 (gY N F) n) F d c f g e b i l m N o t p s).trans (E9 (Kq N · (Ia F) d c f g e b i l m N o t p s) e0))):_)
theorem gZ (d:LA) (c:Nat) (f g:Bool) (e:LA) (b:Nat) (i l:Bool) (F:KF R):Cy (kp N) gW N 156 [(.imm d c 1 f g),(.imm e b 1 i l)] [] F=(HS N d c f g e b i l (Ia F)):=by
 rw[bF]
 exact Eq.trans (by kernel_rfl) (E9 (TC N (Ia F) · d c f g e b i l) (funext fun m=>funext fun q=>funext fun r=>(Aw ..).trans (KW N F d c f g e b i l N m q r)):_)
def bG (a:LA) (h:Ah) (k:KF R):O R :=
 match a,h with
 | [(.imm d c 1 f g),(.imm e b 1 i l)],[]=>(HS N d c f g e b i l (Ia k))
 | _,_=>none
theorem g8:Ap N 156 @bG:=by
 intro R Q a h k j;unfold bG;split;exact Ax (gZ ..) (gZ ..) ⟨D1 N,trivial⟩;exact A2
def rk:=Ay (g8 N)
def rm:=Cz (g8 N)
def g9 (b:LA) (d:Bool) (c:LA) (e:Bool) (r0:LA→O R):O R :=
 (Pa b fun i=>(Pa c fun l=>(Ip 1 (b.drop 1) fun m n=>(Ip 1 (c.drop 1) fun o p=>(HS N m n false d o p false e (fun g q=>(Dv N (!(i==l)) (q.take (g*1)) g false true (fun f=>(cond ((Nat.beq 0 0)&&((Nat.beq (f.length) 2)&&(Nat.beq 2 2))) (cond (Nat.ble 2 (f.length)) (r0 (f.take 2)) none) none)))))))))
def U4:=(Aj (@g9 R)).1
theorem bH:@U4 R=@g9 R:=(Aj _).2
def ux:D7:=[(156,rk N),(83,F7 N)]
def g_ (F:KF R):LA→O R:=(fun r=>F (.pagg r false) [])
theorem gc (b:LA) (d:Bool) (c:LA) (e:Bool) (F:KF R):Cy (ux N) Ln N 95 [(.pagg b d),(.pagg c e)] [] F=(U4 N b d c e (g_ F)):=by
 rw[bH]
 kernel_rfl
def bI (a:LA) (h:Ah) (k:KF R):O R :=
 match a,h with
 | [(.pagg b d),(.pagg c e)],[]=>(U4 N b d c e (g_ k))
 | _,_=>none
theorem gd:Ap N 95 @bI:=by
 intro R Q a h k j;unfold bI;split;exact Ax (gc ..) (gc ..) ⟨rm N,F8 N,trivial⟩;exact A2
def rn:=Ay (gd N)
def ro:=Cz (gd N)
def OD (b:LA) (c:Bool) (r0:LA→O R):O R :=
 (cond (Nat.ble 2 (b.length)) (D2 N 1 (fun e=>(H9 N (b.take 2) c e false (fun d=>(cond ((Nat.beq 0 0)&&((Nat.beq (d.length) 3)&&(Nat.beq 3 3))) (cond (Nat.ble 3 (d.length)) (r0 (d.take 3)) none) none))))) none)
def Q6:=(Aj (@OD R)).1
theorem KX:@Q6 R=@OD R:=(Aj _).2
def pZ:D7:=[(32,L0 N),(84,Oo N)]
def TD (F:KF R):LA→O R:=(fun f=>F (.pagg f false) [])
theorem TE (b:LA) (c:Bool) (F:KF R):Cy (pZ N) Ln N 30 [(.pagg b c)] [] F=(Q6 N b c (TD F)):=by
 rw[KX]
 kernel_rfl
def KY (a:LA) (h:Ah) (k:KF R):O R :=
 match a,h with
 | [(.pagg b c)],[]=>(Q6 N b c (TD k))
 | _,_=>none
theorem TF:Ap N 30 @KY:=by
 intro R Q a h k j;unfold KY;split;exact Ax (TE ..) (TE ..) ⟨L5 N,Oq N,trivial⟩;exact A2
def mg:=Ay (TF N)
def mh:=Cz (TF N)
def ge (b:LA) (c:Bool) (r0:LA→O R):O R :=
 (cond (Nat.ble 3 (b.length)) (Cs N (b.take 3) c (fun d=>(Ip 1 (d.drop 2) fun e f=>(r0 [(.bool false),(.imm e f 1 false false)])))) none)
def Ob:=(Aj (@ge R)).1
theorem bJ:@Ob R=@ge R:=(Aj _).2
def uy:D7:=[(28,Ga N)]
def gf (F:KF R):LA→O R:=(fun g=>F (.pagg g false) [])
theorem gg (b:LA) (c:Bool) (F:KF R):Cy (uy N) Ln N 87 [(.pagg b c)] [] F=(Ob N b c (gf F)):=by
 rw[bJ]
 kernel_rfl
def bK (a:LA) (h:Ah) (k:KF R):O R :=
 match a,h with
 | [(.pagg b c)],[]=>(Ob N b c (gf k))
 | _,_=>none
theorem gh:Ap N 87 @bK:=by
 intro R Q a h k j;unfold bK;split;exact Ax (gg ..) (gg ..) ⟨Gb N,trivial⟩;exact A2
def OE:=Ay (gh N)
def OF:=Cz (gh N)
def OG (b:LA) (c:Bool) (r0:LA→O R):O R :=
 (cond (Nat.ble 3 (b.length)) (Cs N (b.take 3) c (fun e=>(cond (Nat.ble 2 (e.length)) (cond (Nat.ble 3 (b.length)) (Ob N (b.take 3) c (fun f=>(Gu N (e.take 2) false f false (fun d g l=>(cond ((Nat.beq 0 0)&&((Nat.beq (d.length) 2)&&(Nat.beq 2 2))) (cond ((Nat.beq 0 0)&&((Nat.beq (g.length) 2)&&(Nat.beq 2 2))) (cond (Nat.ble 2 (d.length)) (cond ((Nat.beq 0 0)&&((Nat.beq ((d.take 2).length) 2)&&(Nat.beq 2 2))) (cond (Nat.ble 2 ((d.take 2).length)) (r0 ((d.take 2).take 2)) none) none) none) none) none))))) none) none))) none)
def Q7:=(Aj (@OG R)).1
theorem KZ:@Q7 R=@OG R:=(Aj _).2
def p8:D7:=[(28,Ga N),(87,OE N),(71,KM N)]
def TG (F:KF R):LA→O R:=(fun i=>F (.pagg i false) [])
theorem TH (b:LA) (c:Bool) (F:KF R):Cy (p8 N) Ln N 31 [(.pagg b c)] [] F=(Q7 N b c (TG F)):=by
 rw[KZ]
 kernel_rfl
def K_ (a:LA) (h:Ah) (k:KF R):O R :=
 match a,h with
 | [(.pagg b c)],[]=>(Q7 N b c (TG k))
 | _,_=>none
theorem TI:Ap N 31 @K_:=by
 intro R Q a h k j;unfold K_;split;exact Ax (TH ..) (TH ..) ⟨Gb N,OF N,KN N,trivial⟩;exact A2
def mi:=Ay (TI N)
def mj:=Cz (TI N)
def gi (b:LA) (c:Bool) (r0:LA→O R):O R :=
 (cond (Nat.ble 3 (b.length)) (Cs N (b.take 3) c (fun e=>(cond (Nat.ble 2 (e.length)) (Qf N (e.take 2) false (fun f=>(cond (Nat.ble 3 (b.length)) (Ob N (b.take 3) c (fun g=>(H9 N f false g false (fun d=>(cond ((Nat.beq 0 0)&&((Nat.beq (d.length) 3)&&(Nat.beq 3 3))) (cond (Nat.ble 3 (d.length)) (r0 (d.take 3)) none) none))))) none))) none))) none)
def TJ:=(Aj (@gi R)).1
theorem bL:@TJ R=@gi R:=(Aj _).2
def uz:D7:=[(28,Ga N),(153,N' N),(87,OE N),(84,Oo N)]
def gj (F:KF R):LA→O R:=(fun i=>F (.pagg i false) [])
theorem gk (b:LA) (c:Bool) (F:KF R):Cy (uz N) Ln N 155 [(.pagg b c)] [] F=(TJ N b c (gj F)):=by
 rw[bL]
 kernel_rfl
def bM (a:LA) (h:Ah) (k:KF R):O R :=
 match a,h with
 | [(.pagg b c)],[]=>(TJ N b c (gj k))
 | _,_=>none
theorem gn:Ap N 155 @bM:=by
 intro R Q a h k j;unfold bM;split;exact Ax (gk ..) (gk ..) ⟨Gb N,OA N,OF N,Oq N,trivial⟩;exact A2
def rp:=Ay (gn N)
def rq:=Cz (gn N)
def gp (b:LA) (d:Bool) (c:LA) (e:Bool) (r0:LA→O R):O R :=
 (cond (Nat.ble 3 (b.length)) (Cs N (b.take 3) d (fun f=>(cond (Nat.ble 3 (c.length)) (Cs N (c.take 3) e (fun g=>(cond ((Nat.beq 0 0)&&((Nat.beq (f.length) 3)&&(Nat.beq 3 3))) (cond ((Nat.beq 0 0)&&((Nat.beq (g.length) 3)&&(Nat.beq 3 3))) (cond (Nat.ble 2 (f.length)) (cond (Nat.ble 3 (c.length)) (Ob N (c.take 3) e (fun l=>(U4 N (f.take 2) false l false (fun m=>(cond (Nat.ble 2 (g.length)) (cond (Nat.ble 3 (b.length)) (Ob N (b.take 3) d (fun n=>(U4 N (g.take 2) false n false (fun o=>(Qe N m false o false (fun p=>(cond (Nat.ble 3 (b.length)) (Ob N (b.take 3) d (fun q=>(cond (Nat.ble 3 (c.length)) (Ob N (c.take 3) e (fun r=>(U4 N q false r false (fun s=>(H9 N p false s false (fun i=>(cond ((Nat.beq 0 0)&&((Nat.beq (i.length) 3)&&(Nat.beq 3 3))) (cond (Nat.ble 3 (i.length)) (r0 (i.take 3)) none) none))))))) none))) none))))))) none) none))))) none) none) none) none))) none))) none)
def TK:=(Aj (@gp R)).1
theorem bO:@TK R=@gp R:=(Aj _).2
def vA:D7:=[(28,Ga N),(87,OE N),(95,rn N),(139,NZ N),(84,Oo N)]
def gq (F:KF R):LA→O R:=(fun t=>F (.pagg t false) [])
theorem gr (b:LA) (d:Bool) (c:LA) (e:Bool) (F:KF R):Cy (vA N) Ln N 154 [(.pagg b d),(.pagg c e)] [] F=(TK N b d c e (gq F)):=by
 rw[bO]
 kernel_rfl
def bR (a:LA) (h:Ah) (k:KF R):O R :=
 match a,h with
 | [(.pagg b d),(.pagg c e)],[]=>(TK N b d c e (gq k))
 | _,_=>none
theorem gt:Ap N 154 @bR:=by
 intro R Q a h k j;unfold bR;split;exact Ax (gr ..) (gr ..) ⟨Gb N,OF N,ro N,N_ N,Oq N,trivial⟩;exact A2
def rs:=Ay (gt N)
def rt:=Cz (gt N)
def gu (b:LA) (d:Bool) (c:LA) (e:Bool) (r0:LA→O R):O R :=
 (cond (Nat.ble 3 (b.length)) (cond (Nat.ble 3 (c.length)) (TJ N (c.take 3) e (fun g=>(TK N (b.take 3) d g false (fun f=>(cond ((Nat.beq 0 0)&&((Nat.beq (f.length) 3)&&(Nat.beq 3 3))) (cond (Nat.ble 3 (f.length)) (r0 (f.take 3)) none) none))))) none) none)
def TL:=(Aj (@gu R)).1
theorem bS:@TL R=@gu R:=(Aj _).2
def vB:D7:=[(155,rp N),(154,rs N)]
def gv (F:KF R):LA→O R:=(fun i=>F (.pagg i false) [])
theorem gw (b:LA) (d:Bool) (c:LA) (e:Bool) (F:KF R):Cy (vB N) Ln N 86 [(.pagg b d),(.pagg c e)] [] F=(TL N b d c e (gv F)):=by
 rw[bS]
 kernel_rfl
def bT (a:LA) (h:Ah) (k:KF R):O R :=
 match a,h with
 | [(.pagg b d),(.pagg c e)],[]=>(TL N b d c e (gv k))
 | _,_=>none
theorem gx:Ap N 86 @bT:=by
 intro R Q a h k j;unfold bT;split;exact Ax (gw ..) (gw ..) ⟨rq N,rt N,trivial⟩;exact A2
def ru:=Ay (gx N)
def rx:=Cz (gx N)
def W_ (b:LA) (c:Bool) (r0:Int→O R):O R :=
 (cond (Nat.ble 3 (b.length)) (Cs N (b.take 3) c (fun d=>(cond (Nat.ble 2 (d.length)) (Si N (d.take 2) false (fun e=>(r0 e))) none))) none)
def E_:=(Aj (@W_ R)).1
theorem TM:@E_ R=@W_ R:=(Aj _).2
def ry:D7:=[(28,Ga N),(138,ZV N)]
def bU (F:KF R):Int→O R:=(fun f=>F (iv f) [])
theorem bV (b:LA) (c:Bool) (F:KF R):Cy (ry N) Cl N 85 [(.pagg b c)] [] F=(E_ N b c (bU F)):=by
 rw[TM]
 kernel_rfl
def TN (a:LA) (h:Ah) (k:KF R):O R :=
 match a,h with
 | [(.pagg b c)],[]=>(E_ N b c (bU k))
 | _,_=>none
theorem bW:Ap N 85 @TN:=by
 intro R Q a h k j;unfold TN;split;exact Ax (bV ..) (bV ..) ⟨Gb N,ZW N,trivial⟩;exact A2
def p9:=Ay (bW N)
def p_:=Cz (bW N)
def Zu (b:LA) (d:Bool) (c:LA) (e:Bool) (r0:Int→O R):O R :=
 (cond (Nat.ble 3 (b.length)) (cond (Nat.ble 3 (c.length)) (TL N (b.take 3) d (c.take 3) e (fun f=>(E_ N f false (fun g=>(r0 g))))) none) none)
def K4:=(Aj (@Zu R)).1
theorem BE:@K4 R=@Zu R:=(Aj _).2
def jL:D7:=[(86,ru N),(85,p9 N)]
def E' (F:KF R):Int→O R:=(fun i=>F (iv i) [])
theorem FA (b:LA) (d:Bool) (c:LA) (e:Bool) (F:KF R):Cy (jL N) Cl N 29 [(.pagg b d),(.pagg c e)] [] F=(K4 N b d c e (E' F)):=by
 rw[BE]
 kernel_rfl
def BF (a:LA) (h:Ah) (k:KF R):O R :=
 match a,h with
 | [(.pagg b d),(.pagg c e)],[]=>(K4 N b d c e (E' k))
 | _,_=>none
theorem FB:Ap N 29 @BF:=by
 intro R Q a h k j;unfold BF;split;exact Ax (FA ..) (FA ..) ⟨rx N,p_ N,trivial⟩;exact A2
def gy:=Ay (FB N)
def gz:=Cz (FB N)
end
end Gx

namespace Gx
open Go Go.Proofs
section
variable {R:Type}
theorem zK (a b:Nat):Yn (a:Int) (b:Int)=((max a b:Nat):Int):=by
 unfold Yn
 by_cases h:(b:Int)>(a:Int)
 ·rw[decide_eq_true h];show(b:Int)=_;omega
 ·rw[decide_eq_false h];show(a:Int)=_;omega
theorem kq {N:Nat} {a b:List Nat} {t o t' o':Bool} {n:Nat} (u:Ad a) (v:Ad b) (x:a.length<n) (y:b.length<n) (L:n≤max a.length b.length+1) (l:fit n N):∀ (m d f:Nat) (S:List Nat) (c:Nat),d+m=n→m<f→Ad S→S.length=n→uT S d→c≤1 →
  val S+4294967296 ^ d*c=val (a.take d)+val (b.take d) →
  ∀ K:Nat→LA→O R,Fh N K (Ab a) a.length t o (Ab b) b.length t' o' f n (c:Int) (d:Int) (Ab S)=K (Ae (val a+val b)).length (Ab (Ae (val a+val b)))
 | 0,d,f+1,S,c,M,_,hS,q,z,T,A=>by
  intro K
  have B:d=n:=by omega
  subst B
  rw[List.take_of_length_le (by omega),List.take_of_length_le (by omega)] at A
  have C:c=0:=by
   rcases Nat.eq_zero_or_pos c with h | h
   ·exact h
   ·exfalso
    have D:c=1:=by omega
    subst D
    obtain⟨e,rfl⟩:∃ e,d=e+1:=⟨d - 1,by omega⟩
    have x1:=Bb u
    have x2:=Bb v
    have y1:4294967296 ^ a.length≤4294967296 ^ e:=Nat.pow_le_pow_right (by omega) (by omega)
    have y2:4294967296 ^ b.length≤4294967296 ^ e:=Nat.pow_le_pow_right (by omega) (by omega)
    rw[Nat.pow_succ] at A
    omega
  subst C
  have F:val S=val a+val b:=by omega
  rw[Fh];unfold Un
  rw[US (Nat.le_refl _),cf,Nat.mul_one,List.take_of_length_le (by rw[A9];omega),B8 q.symm hS (by rw[q];exact l),F]
 | m+1,d,f+1,S,c,M,U,hS,q,z,T,A=>by
  intro K
  have V:=l.1;have X:=l.2
  have ga:=Q5 u d
  have gb:=Q5 v d
  have step:∀ s:Nat,s=c+a.getD d 0+b.getD d 0→val (S.set d (s%4294967296))+4294967296 ^ (d+1)*(s/4294967296)=val (a.take (d+1))+val (b.take (d+1)):=by
   intro s G
   rw[N7 z (by omega),K0 a d,K0 b d,Nat.pow_succ]
   have e:=H5 (4294967296 ^ d) s
   have Y:4294967296 ^ d*s=4294967296 ^ d*c+4294967296 ^ d*a.getD d 0+4294967296 ^ d*b.getD d 0:=by rw[G,Nat.mul_add,Nat.mul_add]
   omega
  have next:∀ s:Nat,s=c+a.getD d 0+b.getD d 0→Fh N K (Ab a) a.length t o (Ab b) b.length t' o' f n ((s/4294967296:Nat):Int) ((d+1:Nat):Int) (Ab (S.set d (s%4294967296)))=K (Ae (val a+val b)).length (Ab (Ae (val a+val b))):=by
   intro s G
   exact kq u v x y L l m (d+1) f (S.set d (s%4294967296)) (s/4294967296) (by omega) (by omega) (Br hS (by omega) d) (by simpa using q) (T9 z) (by omega) (step s G) K
  have second:∀ w:Nat,w=c+a.getD d 0→Sj N (Fh N K (Ab a) a.length t o (Ab b) b.length t' o' f) K (Ab a) a.length t o (Ab b) b.length t' o' n (Ab S) (w:Int) (d:Int)=K (Ae (val a+val b)).length (Ab (Ae (val a+val b))):=by
   intro w I
   unfold Sj
   by_cases i:d<b.length
   ·have k:b.getD d 0=b[d]:=by rw[List.getD_eq_getElem?_getD,List.getElem?_eq_getElem i];rfl
    rw[NG i,ct,Ak i,ct,CG i,Ak (by omega),ct,jc (by omega),ct,Ex (show b[d]<18446744073709551616 by omega),Vr,Ex (show w+b[d]<18446744073709551616 by omega),VR,MU,DX,wS (by omega)]
    exact next _ (by rw[I,k])
   ·have k:b.getD d 0=0:=by rw[List.getD_eq_getElem?_getD,List.getElem?_eq_none (by omega)];rfl
    rw[US (by omega),cf,Ak (by omega),ct,jc (by omega),ct,VR,MU,DX,wS (by omega)]
    exact next _ (by rw[I,k];rfl)
  rw[Fh];unfold Un
  rw[NG (by omega),ct]
  by_cases j:d<a.length
  ·have k:a.getD d 0=a[d]:=by rw[List.getD_eq_getElem?_getD,List.getElem?_eq_getElem j];rfl
   rw[NG j,ct,Ak j,ct,CG j,Ex (show a[d]<18446744073709551616 by omega),Vr,Ex (show c+a[d]<18446744073709551616 by omega)]
   exact second _ (by rw[k])
  ·have k:a.getD d 0=0:=by rw[List.getD_eq_getElem?_getD,List.getElem?_eq_none (by omega)];rfl
   rw[US (by omega),cf]
   exact second _ (by rw[k];rfl)
theorem XA {N:Nat} {a b:List Nat} {n m:Nat} {t o t' o':Bool} {K:Nat→LA→O R} (d:n=a.length) (e:m=b.length) (f:Ad a) (i:Ad b) (c:fit (a.length+b.length+1) N) :
  Uo N (Ab a) n t o (Ab b) m t' o' K=K (Ae (val a+val b)).length (Ab (Ae (val a+val b))):=by
 subst d e
 have j:=c.1;have k:=c.2
 rw[aB];unfold R_
 rw[zK,wS (by omega),v6 (by omega),ct,Int.toNat_natCast,Bx]
 exact kq f i (n:=max a.length b.length+1) (by omega) (by omega) (Nat.le_refl _) (c.le (by omega)) (max a.length b.length+1) 0 N (List.replicate (max a.length b.length+1) 0) 0 (by omega) (by omega) (Bq _) (by simp) (Hf _) (by omega) (by rw[Cm];simp[val]) K
theorem ku {N:Nat} {a b:List Nat} (C:Ad a) (D:Ad b) (t:fit a.length N) (q:b.length≤a.length) (u:val b≤val a):∀ (m d f:Nat) (S:List Nat) (c:Nat),d+m=a.length→m<f→Ad S→S.length=a.length→uT S d→c≤1 →
  val S+val (b.take d)=val (a.take d)+4294967296 ^ d*c →
  ∀ K:Nat→Bool→LA→O R,Fi N K a.length b.length (Ab a) (Ab b) f (c:Int) (d:Int) (Ab S)=K (Ae (val a - val b)).length true (Ab (Ae (val a - val b)))
 | 0,d,f+1,S,c,G,_,hS,s,v,I,F=>by
  intro K
  have x:d=a.length:=by omega
  subst x
  rw[List.take_length,List.take_of_length_le q] at F
  have k:=Bb hS
  rw[s] at k
  have z:c=0:=by
   rcases Nat.lt_or_ge 0 c with h | h
   ·exfalso
    have:c=1:=by omega
    subst this
    omega
   ·omega
  subst z
  have A:val S=val a - val b:=by omega
  rw[Fi];unfold Uq
  rw[US (Nat.le_refl _),cf,Nat.mul_one,List.take_of_length_le (by rw[A9];omega),B8 s.symm hS (by rw[s];exact t),A]
 | m+1,d,f+1,S,c,G,L,hS,s,v,I,F=>by
  intro K
  have T:=t.1;have U:=t.2
  have i:d<a.length:=by omega
  have ad:=At C i
  have gb:=Q5 D d
  have step:∀ y g c':Nat,y=c+b.getD d 0→a[d]+4294967296*c'=g+y→val (S.set d g)+val (b.take (d+1))=val (a.take (d+1))+4294967296 ^ (d+1)*c':=by
   intro y g c' n l
   rw[N7 v (by omega),Aq i,K0 b d,Nat.pow_succ,Nat.mul_assoc]
   have e:4294967296 ^ d*(a[d]+4294967296*c')=4294967296 ^ d*(g+(c+b.getD d 0)):=by rw[l,n]
   rw[Nat.mul_add,Nat.mul_add,Nat.mul_add] at e
   omega
  have next:∀ y g c':Nat,g<4294967296→c'≤1→y=c+b.getD d 0→a[d]+4294967296*c'=g+y→Fi N K a.length b.length (Ab a) (Ab b) f (c':Int) ((d+1:Nat):Int) (Ab (S.set d g))=K (Ae (val a - val b)).length true (Ab (Ae (val a - val b))):=by
   intro y g c' l B n M
   exact ku C D t q u m (d+1) f (S.set d g) c' (by omega) (by omega) (Br hS l d) (by simpa using s) (T9 v) B (step y g c' n M) K
  have second:∀ y:Nat,y=c+b.getD d 0→Sk N (Fi N K a.length b.length (Ab a) (Ab b) f) K a.length b.length (Ab a) (Ab b) (Ab S) (d:Int) (y:Int)=K (Ae (val a - val b)).length true (Ab (Ae (val a - val b))):=by
   intro y n
   unfold Sk
   rw[Ak i,ct,QQ i,Ex (show a[d]<18446744073709551616 by omega)]
   by_cases k:a[d]<y
   ·rw[NG k,ct,ct,jc (by omega),ct,show((a[d]:Nat):Int)+4294967296=((a[d]+4294967296:Nat):Int) by omega,Ex (show a[d]+4294967296<18446744073709551616 by omega),VQ (by omega) (by omega),tB (by omega),DX,wS (by omega)]
    exact next y (a[d]+4294967296 - y) 1 (by omega) (by omega) n (by omega)
   ·rw[US (by omega),cf,ct,jc (by omega),ct,VQ (by omega) (by omega),tB (by omega),DX,wS (by omega)]
    exact next y (a[d] - y) 0 (by omega) (by omega) n (by omega)
  rw[Fi];unfold Uq
  rw[NG i,ct]
  by_cases j:d<b.length
  ·have l:b.getD d 0=b[d]:=by rw[List.getD_eq_getElem?_getD,List.getElem?_eq_getElem j];rfl
   rw[NG j,ct,Ak j,ct,QQ j,Ex (show b[d]<18446744073709551616 by omega),Vr,Ex (show c+b[d]<18446744073709551616 by omega)]
   exact second _ (by rw[l])
  ·have l:b.getD d 0=0:=by rw[List.getD_eq_getElem?_getD,List.getElem?_eq_none (by omega)];rfl
   rw[US (by omega),cf]
   exact second _ (by rw[l];rfl)
theorem XB {N:Nat} {a b:List Nat} {n m:Nat} {t o t' o':Bool} {K:Nat→Bool→LA→O R} (j:n=a.length) (k:m=b.length) (e:Ad a) (f:Ad b) (d:fit (a.length+b.length) N) :
  Ur N (Ab a) n t o (Ab b) m t' o' K=if val b≤val a then K (Ae (val a - val b)).length true (Ab (Ae (val a - val b))) else K 0 false []:=by
 subst j k
 have l:=d.1;have q:=d.2
 have la:=(Au e).2
 have lb:=(Au f).2
 rw[aF];unfold SB
 dsimp only
 rw[uj rfl rfl e f d]
 by_cases c:val b≤val a
 ·have i:=An c
  rw[if_pos c,show decide (E2 (val a) (val b)<0)=false by (unfold E2;rw[if_neg (by omega)];split<;>rfl),cf,B8 rfl e (d.le (by omega)),B8 rfl f (d.le (by omega)),v6 (by omega),ct,Bx]
  have:=ku (R:=R) (N:=N) (a:=Ae (val a)) (b:=Ae (val b)) (Aa _) (Aa _) (d.le (by omega)) i (by rw[Ac,Ac];exact c) (Ae (val a)).length 0 N (List.replicate (Ae (val a)).length 0) 0 (by omega) (by omega) (Bq _) (by simp) (Hf _) (by omega) (by rw[Cm];simp[val]) K
  rw[Ac,Ac] at this
  exact this
 ·rw[if_neg c,show decide (E2 (val a) (val b)<0)=true by (unfold E2;rw[if_pos (by omega)];rfl),ct]
theorem tI {N:Nat} {x y:List Nat} {c d c' d':Bool} {f:Nat} (F:Ad x) (G:Ad y) (t:f<x.length) (L:x.length+y.length≤1000000000000):∀ (m l b:Nat) (S:List Nat) (p:Nat) (v:Nat),l+m=y.length→m<b→Ad S→S.length=x.length+y.length→uT S (f+y.length)→p<4294967296 →
  val S+4294967296 ^ (f+l)*p=v+4294967296 ^ f*(x[f]*val (y.take l)) →
  ∃ S',Ad S'∧S'.length=x.length+y.length∧val S'=v+4294967296 ^ f*(x[f]*val y)∧∀ (n:Nat→Int→LA→O R) (K:Nat→LA→O R),Kq N n K (Ab x) x.length c d (Ab y) y.length c' d' (x.length+y.length) b (f:Int) (p:Int) (l:Int) (Ab S)=n (x.length+y.length) ((f+1:Nat):Int) (Ab S')
 | 0,l,b+1,S,p,v,M,_,hS,i,A,u,B=>by
  have C:l=y.length:=by omega
  subst C
  rw[List.take_length] at B
  refine⟨S.set (f+y.length) p,Br hS u _,by simpa using i,by rw[N7 A (by omega),B],fun n K=>?_⟩
  rw[Kq];unfold Uz
  rw[US (Nat.le_refl _),cf,wA (by omega),Ak (by omega),ct,jc (by omega),ct,tB u,DX,wS (by omega)]
 | m+1,l,b+1,S,p,v,M,T,hS,i,A,u,B=>by
  have k:l<y.length:=by omega
  have yl:=At G k
  have hq:=At F t
  have z:f+l<S.length:=by omega
  have sl:=At hS z
  have U:=o7 u hq yl sl
  have D:x[f]*y[l]<18446744073709551616:=by omega
  generalize q:p+(x[f]*y[l]+S[f+l])=s at *
  have I:=QR (v:=s%4294967296) z
  have key:val (S.set (f+l) (s%4294967296))+4294967296 ^ (f+(l+1))*(s/4294967296)=v+4294967296 ^ f*(x[f]*val (y.take (l+1))):=by
   rw[Aq k,←Nat.add_assoc f l 1,Nat.pow_succ]
   have e:=H5 (4294967296 ^ (f+l)) s
   have e2:4294967296 ^ (f+l)*s=4294967296 ^ (f+l)*p+(4294967296 ^ (f+l)*(x[f]*y[l])+4294967296 ^ (f+l)*S[f+l]):=by rw[←q,Nat.mul_add,Nat.mul_add]
   have e3:4294967296 ^ f*(x[f]*(val (y.take l)+4294967296 ^ l*y[l]))=4294967296 ^ f*(x[f]*val (y.take l))+4294967296 ^ (f+l)*(x[f]*y[l]):=by
    rw[Nat.mul_add,Nat.mul_add,Nat.pow_add]
    congr 1
    rw[Nat.mul_assoc];congr 1
    rw[←Nat.mul_assoc,←Nat.mul_assoc,Nat.mul_comm x[f]]
   omega
  obtain⟨S',V,X,Y,q4⟩:=tI (N:=N) (c:=c) (d:=d) (c':=c') (d':=d') F G t L m (l+1) b (S.set (f+l) (s%4294967296)) (s/4294967296) v (by omega) (by omega) (Br hS (by omega) _) (by simpa using i) (fun j hj hk=>by
   rw[List.getElem_set,if_neg (by omega)];exact A j (by simpa using hj) hk) (by omega) key
  refine⟨S',V,X,Y,fun n K=>?_⟩
  rw[Kq];unfold Uz
  rw[NG k,ct,wA (by omega),Ak (by omega),ct,QQ z,Ak t,ct,CG t,Ak k,ct,CG k,ct,jc z,ct,Ex (show x[f]<18446744073709551616 by omega),Ex (show y[l]<18446744073709551616 by omega),Ex (show S[f+l]<18446744073709551616 by omega),dv,Ex D,Vr,Nat.add_comm S[f+l],Ex (by omega),Vr,q,Ex U,VR,MU,DX,wS (by omega)]
  exact q4 n K
theorem pa {N:Nat} {x y:List Nat} {c d c' d':Bool} (q:Ad x) (s:Ad y) (e:fit (x.length+y.length) N):∀ (m f b:Nat) (S:List Nat),f+m=x.length→m<b→Ad S→S.length=x.length+y.length →
  val S=val (x.take f)*val y →
  ∀ K:Nat→LA→O R,Gv N K (Ab x) x.length c d (Ab y) y.length c' d' b (x.length+y.length) (f:Int) (Ab S)=K (Ae (val x*val y)).length (Ab (Ae (val x*val y)))
 | 0,f,b+1,S,v,_,hS,i,n=>by
  intro K
  have t:f=x.length:=by omega
  subst t
  rw[List.take_length] at n
  rw[Gv];unfold U0
  rw[US (Nat.le_refl _),cf,Nat.mul_one,List.take_of_length_le (by rw[A9];omega),B8 i.symm hS (by rw[i];exact e),n]
 | m+1,f,b+1,S,v,z,hS,i,n=>by
  intro K
  have G:=e.1;have I:=e.2
  have k:f<x.length:=by omega
  have u:=Bb (Bn q f)
  rw[List.length_take,Nat.min_eq_left (by omega)] at u
  have A:=Bb s
  have j:val S<4294967296 ^ (f+y.length):=by
   rw[n,Nat.pow_add];exact Nat.mul_lt_mul'' u A
  have l:val (x.take (f+1))*val y=val S+4294967296 ^ f*(x[f]*val y):=by
   rw[Aq k,Nat.add_mul,n,Nat.mul_assoc]
  obtain⟨S1,B,C,D,F⟩:=tI (R:=R) (N:=N) (x:=x) (y:=y) (c:=c) (d:=d) (c':=c') (d':=d') (f:=f) q s k (by omega) y.length 0 N S 0 (val S) (by omega) (by omega) hS i (w5 j) (by omega) (by simp[val])
  rw[Gv];unfold U0
  rw[NG k,ct]
  have:=F (Gv N K (Ab x) x.length c d (Ab y) y.length c' d' b) K
  simp only[Int.natCast_zero] at this
  dsimp only
  rw[this]
  exact pa q s e m (f+1) b S1 (by omega) (by omega) B C (by rw[D,l]) K
theorem vC {N:Nat} {a b:List Nat} {n m:Nat} {t o t' o':Bool} {K:Nat→LA→O R} (d:n=a.length) (e:m=b.length) (f:Ad a) (i:Ad b) (c:fit (a.length+b.length) N) :
  HS N (Ab a) n t o (Ab b) m t' o' K=K (Ae (val a*val b)).length (Ab (Ae (val a*val b))):=by
 subst d e
 have j:=c.1;have k:=c.2
 rw[bF];unfold TC
 rw[wA (by omega),v6 (by omega),ct,Int.toNat_natCast,Bx]
 exact pa f i c a.length 0 N (List.replicate (a.length+b.length) 0) (by omega) (by omega) (Bq _) (by simp) (by rw[Cm];simp[val]) K
end
end Gx

namespace Gx
open Go Go.Proofs
section
variable {R:Type}
theorem hI {N:Nat}:∀ (k c n v:Nat),v<2 ^ k→k<c→n+k≤1000000000000→∃ b:Nat,b≤k∧v<2 ^ b∧(v≠0→2 ^ b≤2*v)∧(v=0→b=0)∧∀ K:Int→O R,F9 N K c (n:Int) (v:Int)=K ((n+b:Nat):Int)
 | 0,c+1,n,v,e,_,_=>by
  have d:v=0:=by simpa using e
  subst d
  refine⟨0,by omega,by simp,fun h=>absurd rfl h,fun _=>rfl,fun K=>?_⟩
  rw[F9];unfold L7
  rw[show decide (((0:Nat):Int)>0)=false by rfl,cf];rfl
 | k+1,c+1,n,v,e,m,q=>by
  by_cases d:v=0
  ·subst d
   refine⟨0,by omega,by simp,fun h=>absurd rfl h,fun _=>rfl,fun K=>?_⟩
   rw[F9];unfold L7
   rw[show decide (((0:Nat):Int)>0)=false by rfl,cf];rfl
  ·obtain⟨b,s,t,i,j,l⟩:=hI (N:=N) k c (n+1) (v/2) (by rw[Nat.pow_succ] at e;omega) (by omega) (by omega)
   refine⟨b+1,by omega,by rw[Nat.pow_succ];omega,fun _=>?_,fun h=>absurd h d,fun K=>?_⟩
   ·by_cases f:v/2=0
    ·rw[j f];simp;omega
    ·have:=i f;rw[Nat.pow_succ];omega
   ·rw[F9];unfold L7
    rw[show decide (((v:Nat):Int)>0)=true by rw[decide_eq_true_eq];omega,ct,wS (by omega),Lm v 1,show v/2 ^ 1=v/2 by rfl,l]
    congr 2;omega
theorem rz {N:Nat} {a:List Nat} {n:Nat} {t o:Bool} (j:n=a.length) (f:Ad a) (e:fit a.length N):∃ nb:Nat,nb≤32*a.length∧val a<2 ^ nb∧(val a≠0→2 ^ nb≤2*val a)∧(val a=0→nb=0)∧∀ K:Int→O R,Xq N (Ab a) n t o K=K (nb:Int):=by
 have y:=e.1;have z:=e.2
 have la:=(Au f).2
 by_cases d:val a=0
 ·refine⟨0,by omega,by rw[d];simp,fun h=>absurd d h,fun _=>rfl,fun K=>?_⟩
  rw[Zn];unfold Xp
  rw[B8 j f e,d,Bt];rfl
 ·have m:(Ae (val a)).length≠0:=fun h=>d (A0.1 h)
  obtain⟨k,i⟩:∃ k,(Ae (val a)).length=k+1:=⟨(Ae (val a)).length - 1,by omega⟩
  have top:=At (Aa (val a)) (show k<(Ae (val a)).length by omega)
  have c:(Ae (val a))[k]'(by omega)≠0:=by
   have:=du (val a) (MT d)
   rw[List.getLast_eq_getElem] at this
   simp only[i,Nat.add_sub_cancel] at this
   exact this
  have tf:=Xm i
  have tl:=Zi (Aa (val a)) i
  rw[Ac] at tf tl
  obtain⟨b,A,q,s,B,u⟩:=hI (R:=R) (N:=N) 32 N (32*k) ((Ae (val a))[k]'(by omega)) (by exact top) (by omega) (by omega)
  have l:(2:Nat) ^ (32*k+b)=4294967296 ^ k*2 ^ b:=by rw[Nat.pow_add,Nat.pow_mul]
  refine⟨32*k+b,by omega,?_,fun _=>?_,fun h=>absurd h d,fun K=>?_⟩
  ·rw[l]
   have:((Ae (val a))[k]'(by omega)+1)*4294967296 ^ k≤2 ^ b*4294967296 ^ k:=Nat.mul_le_mul_right _ q
   rw[Nat.mul_comm (2 ^ b)] at this;omega
  ·rw[l]
   have:=Nat.mul_le_mul_left (4294967296 ^ k) (s c)
   rw[Nat.mul_left_comm] at this
   omega
  ·rw[Zn];unfold Xp
   have v:IntKind.wrap .i64 ((((Ae (val a)).length:Nat):Int) - 1)=((k:Nat):Int):=by rw[i64 (by omega)];omega
   have x:IntKind.wrap .i64 ((32:Int)*((k:Nat):Int))=((32*k:Nat):Int):=by rw[i64 (by omega)];omega
   rw[B8 j f e,cx m,cf,v,Ak (by omega),ct,QQ (by omega),x]
   exact u K
theorem pb {a:List Nat} {j:Nat} (h:j<a.length):val a=val (a.take j)+4294967296 ^ j*(a[j]+4294967296*val (a.drop (j+1))):=by
 have:=Kk (a.take j) (a.drop j)
 rw[List.take_append_drop,List.length_take,Nat.min_eq_left (by omega),EG h] at this
 exact this
theorem XC (j k:Nat):(2:Nat) ^ (32*j+k)=4294967296 ^ j*2 ^ k:=by rw[Nat.pow_add,Nat.pow_mul]
theorem xd {a:List Nat} {j k:Nat} (b:Ad a) (h:j<a.length) (f:k<32):val a/2 ^ (32*j+k)%2=a[j]/2 ^ k%2:=by
 have tl:=Bb (Bn b j)
 rw[List.length_take,Nat.min_eq_left (by omega)] at tl
 have hP:0<4294967296 ^ j:=Nat.pow_pos (by omega)
 have c:0<2 ^ k:=Nat.pow_pos (by omega)
 rw[XC,←Nat.div_div_eq_div_mul,pb h,Nat.add_mul_div_left _ _ hP,Nat.div_eq_of_lt tl,Nat.zero_add]
 have e:4294967296=2 ^ k*(2*2 ^ (31 - k)):=by rw[←Nat.pow_succ',←Nat.pow_add,show k+(31 - k+1)=32 by omega]
 have d:4294967296*val (a.drop (j+1))=2 ^ k*(2*(2 ^ (31 - k)*val (a.drop (j+1)))):=by
  rw[←Nat.mul_assoc 2,←Nat.mul_assoc,←e]
 rw[d,Nat.add_mul_div_left _ _ c,Nat.add_mul_mod_self_left]
theorem vD {N:Nat} {a:List Nat} {n:Nat} {t o:Bool} {i:Nat} {K:Int→O R} (j:n=a.length) (f:Ad a) (q:i<32*a.length) (s:a.length≤1000000000):SA N (Ab a) n t o (i:Int) K=K ((val a/2 ^ i%2:Nat):Int):=by
 subst j
 have c:i/32<a.length:=by omega
 have aj:=At f c
 rw[aD];unfold fS
 have l:IntKind.wrap .i64 (Int.tdiv ((i:Nat):Int) 32)=((i/32:Nat):Int):=by rw[show(32:Int)=((32:Nat):Int) by rfl,JR,i64 (by omega)]
 have m:IntKind.wrap .u64 (Int.tmod ((i:Nat):Int) 32)=((i%32:Nat):Int):=by rw[show(32:Int)=((32:Nat):Int) by rfl,EF,Ex (by omega)]
 rw[l,m,show decide (((i/32:Nat):Int)≥((a.length:Nat):Int))=false by rw[decide_eq_false_iff_not];omega,cf,Ak c,ct,CG c,show decide (((i%32:Nat):Int)<0)=false by rw[decide_eq_false_iff_not];omega,cf,Int.toNat_natCast,Nat.min_eq_left (by omega),Lm]
 have d:a[i/32]/2 ^ (i%32)<4294967296:=Nat.lt_of_le_of_lt (Nat.div_le_self _ _) aj
 have e:=rB (k:=.u32) rfl (a:=a[i/32]/2 ^ (i%32)) (b:=1) d (by decide)
 rw[show(1:Int)=((1:Nat):Int) by rfl,e,Nat.and_one_is_mod]
 have:=xd f c (k:=i%32) (by omega)
 rw[Nat.div_add_mod] at this
 rw[this]
theorem wm {Q:List Nat} {j k:Nat} (hQ:Ad Q) (h:j<Q.length) (d:k<32) (b:2 ^ (32*j+k+1)∣val Q):2 ^ (k+1)∣Q[j]:=by
 have tl:=Bb (Bn hQ j)
 rw[List.length_take,Nat.min_eq_left (by omega)] at tl
 have hP:0<4294967296 ^ j:=Nat.pow_pos (by omega)
 rw[Nat.add_assoc,XC,pb h] at b
 have c:val (Q.take j)=0:=by
  have x1:4294967296 ^ j∣val (Q.take j):=(Nat.dvd_add_left (Nat.dvd_mul_right _ _)).1 (Nat.dvd_trans (Nat.dvd_mul_right _ _) b)
  exact Nat.eq_zero_of_dvd_of_lt x1 tl
 rw[c,Nat.zero_add] at b
 have x2:=Nat.dvd_of_mul_dvd_mul_left hP b
 have x3:2 ^ (k+1)∣4294967296*val (Q.drop (j+1)):=Nat.dvd_trans ⟨2 ^ (31 - k),by rw[←Nat.pow_add,show k+1+(31 - k)=32 by omega]⟩ (Nat.dvd_mul_right _ _)
 exact(Nat.dvd_add_left x3).1 x2
theorem XD {N:Nat} {a b:List Nat} {t o:Bool} {B:Nat} (S:Ad a) (q:b=Ae B) (hB:0<B) (l:fit (a.length+2*b.length+4) N):∀ (i d:Nat) (Q:List Nat) (r:Nat),i<d→i≤32*a.length→Ad Q→Q.length=a.length→r=val a/2 ^ i%B→val Q=val a/2 ^ i/B*2 ^ i →
  ∀ K:Nat→Nat→Bool→LA→LA→O R,Db N K (Ab a) a.length t o b.length (Ab b) d (Ae r).length ((i:Int) - 1) (Ab Q) (Ab (Ae r))=K (Ae (val a/B)).length (Ae (val a%B)).length true (Ab (Ae (val a/B))) (Ab (Ae (val a%B)))
 | 0,d+1,Q,r,_,_,hQ,C,s,u=>by
  intro K
  rw[Nat.pow_zero,Nat.div_one] at s u
  rw[Nat.mul_one] at u
  have lr:(Ae r).length≤b.length:=by
   rw[q];apply An;rw[s];exact Nat.le_of_lt (Nat.mod_lt _ hB)
  rw[Db];unfold L8
  rw[show decide ((((0:Nat):Int) - 1)≥0)=false by rfl,cf,Nat.mul_one,List.take_of_length_le (by rw[A9];omega),B8 C.symm hQ (by rw[C];exact l.le (by omega)),Nat.mul_one,List.take_of_length_le (by rw[A9];omega),B8 rfl (Aa _) (l.le (by omega)),Ac,u,s]
 | i+1,d+1,Q,r,hfu,hi,hQ,C,s,u=>by
  intro K
  have h1:=l.1;have h2:=l.2
  have hrB:r<B:=by rw[s];exact Nat.mod_lt _ hB
  have lr:(Ae r).length≤b.length:=by rw[q];exact An (Nat.le_of_lt hrB)
  have j:val a/2 ^ i=2*(val a/2 ^ (i+1))+val a/2 ^ i%2:=by
   have:=Nat.div_add_mod (val a/2 ^ i) 2
   rw[Nat.div_div_eq_div_mul,←Nat.pow_succ] at this
   exact this.symm
  have T:=Nat.div_add_mod (val a/2 ^ (i+1)) B
  have hb2:val a/2 ^ i%2<2:=Nat.mod_lt _ (by omega)
  generalize hH:val a/2 ^ (i+1)=H at *
  generalize D:val a/2 ^ i%2=bt at *
  have f:val a/2 ^ i=B*(2*(H/B))+(2*r+bt):=by
   rw[j,s,Nat.mul_left_comm];omega
  clear s T j
  have F:i/32<Q.length:=by omega
  have qj:=At hQ F
  have G:2 ^ (32*(i/32)+i%32+1)∣val Q:=by rw[Nat.div_add_mod,u];exact Nat.dvd_mul_left _ _
  have y:=wm hQ F (Nat.mod_lt _ (by omega)) G
  have U:2 ^ i=4294967296 ^ (i/32)*2 ^ (i%32):=by rw[←XC,Nat.div_add_mod]
  have I:2 ^ (i%32+1)≤4294967296:=(Nat.pow_le_pow_right (by omega) (show i%32+1≤32 by omega):2 ^ (i%32+1)≤2 ^ 32)
  have L:Kx .u32 ((Q[i/32]:Nat):Int) (IntKind.wrap .u32 ((1:Int)*2 ^ (min (Int.toNat ((i%32:Nat):Int)) 32)))=((Q[i/32]+2 ^ (i%32):Nat):Int)∧Q[i/32]+2 ^ (i%32)<4294967296:=by
   obtain⟨c,V⟩:=y
   have Y:0<2 ^ (i%32):=Nat.pow_pos (by omega)
   have X:Q[i/32]+2 ^ (i%32)<4294967296:=by
    obtain⟨w,hw⟩:∃ w,4294967296=2 ^ (i%32+1)*w:=⟨2 ^ (31 - i%32),by rw[←Nat.pow_add,show i%32+1+(31 - i%32)=32 by omega]⟩
    have x1:c<w:=by rw[V,hw] at qj;exact Nat.lt_of_mul_lt_mul_left qj
    have x2:=Nat.mul_le_mul_left (2 ^ (i%32+1)) (show c+1≤w from x1)
    rw[Nat.mul_add,←hw,←V,Nat.mul_one,Nat.pow_succ] at x2
    omega
   refine⟨?_,X⟩
   rw[Int.toNat_natCast,Nat.min_eq_left (by omega),Int.one_mul,show(2:Int) ^ (i%32)=((2 ^ (i%32):Nat):Int) by simp,tB (by rw[Nat.pow_succ] at I;omega),ji (k:=.u32) rfl qj (by show 2 ^ (i%32)<4294967296;rw[Nat.pow_succ] at I;omega)]
   congr 1
   have e:Q[i/32]=c*2 ^ (i%32+1):=by rw[V,Nat.mul_comm]
   rw[e];exact VS (by rw[Nat.pow_succ];omega)
  have w1:IntKind.wrap .i64 (Int.tdiv ((i:Nat):Int) 32)=((i/32:Nat):Int):=by rw[show(32:Int)=((32:Nat):Int) by rfl,JR,i64 (by omega)]
  have w2:IntKind.wrap .u64 (Int.tmod ((i:Nat):Int) 32)=((i%32:Nat):Int):=by rw[show(32:Int)=((32:Nat):Int) by rfl,EF,Ex (by omega)]
  have l2:(Ae (2*r+bt)).length≤b.length+1:=by
   apply Bj
   have x1:=Bb (Aa B)
   rw[Ac,←q] at x1
   rw[Nat.pow_succ];omega
  have second:Hi N (Db N K (Ab a) a.length t o b.length (Ab b) d) K (Ab a) a.length t o b.length ((i:Nat):Int) (Ab b) (Ab Q) (Ae (2*r+bt)).length (Ab (Ae (2*r+bt)))=K (Ae (val a/B)).length (Ae (val a%B)).length true (Ab (Ae (val a/B))) (Ab (Ae (val a%B))):=by
   unfold Hi
   have lb:Ad b:=by rw[q];exact Aa _
   have vb:val b=B:=by rw[q,Ac]
   rw[Nat.mul_one,Nat.mul_one,List.take_of_length_le (by rw[A9];omega),List.take_of_length_le (by rw[A9];omega),XB rfl rfl (Aa _) lb (l.le (by omega)),Ac,vb]
   by_cases M:B≤2*r+bt
   ·have z:val a/2 ^ i/B=2*(H/B)+1:=by
     rw[f,show B*(2*(H/B))+(2*r+bt)=B*(2*(H/B)+1)+(2*r+bt - B) by rw[Nat.mul_add];omega,Nat.mul_add_div hB,Nat.div_eq_of_lt (show 2*r+bt - B<B by omega),Nat.add_zero]
    have A:val a/2 ^ i%B=2*r+bt - B:=by
     rw[f,show B*(2*(H/B))+(2*r+bt)=B*(2*(H/B)+1)+(2*r+bt - B) by rw[Nat.mul_add];omega,Nat.mul_add_mod,Nat.mod_eq_of_lt (by omega)]
    rw[if_pos M,ct,w1,w2,Ak (by omega),ct,QQ F,show decide (((i%32:Nat):Int)<0)=false by rw[decide_eq_false_iff_not];omega,cf,ct,jc F,ct,L.1,DX,i64 (by omega)]
    refine XD S q hB l i d (Q.set (i/32) (Q[i/32]+2 ^ (i%32))) (2*r+bt - B) (by omega) (by omega) (Br hQ L.2 _) (by simpa using C) A.symm ?_ K
    have x1:=QR (v:=Q[i/32]+2 ^ (i%32)) F
    rw[Nat.mul_add,←U] at x1
    rw[z,Nat.add_mul,Nat.one_mul,Nat.mul_comm 2,Nat.mul_assoc,Nat.mul_comm 2,←Nat.pow_succ,←u]
    omega
   ·have z:val a/2 ^ i/B=2*(H/B):=by rw[f,Nat.mul_add_div hB,Nat.div_eq_of_lt (show 2*r+bt<B by omega),Nat.add_zero]
    have A:val a/2 ^ i%B=2*r+bt:=by rw[f,Nat.mul_add_mod,Nat.mod_eq_of_lt (by omega)]
    rw[if_neg M,cf,i64 (by omega)]
    refine XD S q hB l i d Q (2*r+bt) (by omega) (by omega) hQ C A.symm ?_ K
    rw[z,Nat.mul_comm 2,Nat.mul_assoc,Nat.mul_comm 2,←Nat.pow_succ,←u]
  rw[Db];unfold L8
  rw[show(((i+1:Nat):Int) - 1)=((i:Nat):Int) by omega,show decide (((i:Nat):Int)≥0)=true by rw[decide_eq_true_eq];omega,ct,Nat.mul_one,List.take_of_length_le (by rw[A9];omega),XA rfl rfl (Aa _) (Aa _) (l.le (by omega)),Ac,vD rfl S (by omega) (by omega),D]
  have l3:(Ae (r+r)).length≤b.length+1:=by
   apply Bj
   have x1:=Bb (Aa B)
   rw[Ac,←q] at x1
   rw[Nat.pow_succ];omega
  rcases(show bt=0∨bt=1 by omega) with rfl | rfl
  ·rw[show(((0:Nat):Int)==1)=false by rfl,cf]
   rw[show 2*r+0=r+r by omega] at second
   exact second
  ·rw[show(((1:Nat):Int)==1)=true by rfl,ct,Nat.mul_one,List.take_of_length_le (by rw[A9];omega)]
   have:=XA (R:=R) (N:=N) (a:=Ae (r+r)) (b:=[1]) (n:=(Ae (r+r)).length) (m:=1) (t:=false) (o:=true) (t':=false) (o':=true) (K:=fun af ag=>Hi N (Db N K (Ab a) a.length t o b.length (Ab b) d) K (Ab a) a.length t o b.length ((i:Nat):Int) (Ab b) (Ab Q) af ag) rfl rfl (Aa _) (by intro x hx;simp at hx;omega) (l.le (by simp;omega))
   rw[Ac,show val [1]=1 by rfl,show r+r+1=2*r+1 by omega] at this
   exact this.trans second
end
end Gx

namespace Gx
open Go Go.Proofs
section
variable {R:Type}
theorem Ma {N:Nat} {a b:List Nat} {n m:Nat} {t o t' o':Bool} {K:Nat→Nat→Bool→LA→LA→O R} (j:n=a.length) (v:m=b.length) (k:Ad a) (s:Ad b) (f:val b≠0) (e:fit (a.length+2*b.length+4) N) :
  Fj N (Ab a) n t o (Ab b) m t' o' K=K (Ae (val a/val b)).length (Ae (val a%val b)).length true (Ab (Ae (val a/val b))) (Ab (Ae (val a%val b))):=by
 have x:=e.1;have y:=e.2
 have lb:=(Au s).2
 have l:(Ae (val b)).length≠0:=fun h=>f (A0.1 h)
 rw[ET];unfold Us
 dsimp only
 have long:Jy N K (Ab a) n t o (Ae (val b)).length (Ab (Ae (val b)))=K (Ae (val a/val b)).length (Ae (val a%val b)).length true (Ab (Ae (val a/val b))) (Ab (Ae (val a%val b))):=by
  obtain⟨nb,n1,n2,n3,n4,n5⟩:=rz (R:=R) (N:=N) (a:=a) (n:=n) (t:=false) (o:=o) j k (e.le (by omega))
  unfold Jy Sl
  dsimp only
  rw[n5,j,v6 (by omega),ct,Bx,i64 (by omega)]
  have u:val a/2 ^ nb=0:=Nat.div_eq_of_lt n2
  have:=XD (R:=R) (N:=N) (a:=a) (b:=Ae (val b)) (t:=t) (o:=o) (B:=val b) k rfl (by omega) (e.le (by omega)) nb N (List.replicate a.length 0) 0 (by omega) n1 (Bq _) (by simp) (by rw[u];simp) (by rw[u,Cm];simp) K
  exact this
 rw[B8 v s (e.le (by omega)),cx l,cf,L9 j k (e.le (by omega)),Nat.mul_one,List.take_of_length_le (by rw[A9];exact Nat.le_refl _)]
 by_cases d:val a<18446744073709551616
 ·rw[if_pos d,L9 rfl (Aa _) (e.le (by omega)),Ac]
  by_cases c:val b<18446744073709551616
  ·have i:val a/val b<18446744073709551616:=Nat.lt_of_le_of_lt (Nat.div_le_self _ _) d
   have q:val a%val b<18446744073709551616:=Nat.lt_of_le_of_lt (Nat.mod_le _ _) d
   rw[if_pos c,show((true:Bool)==true)=true by rfl,ct,tD,ct,cx f,cf,JR,Ex i,Ut i (by omega),cf,EF,Ut q (by omega)]
  ·rw[if_neg c,show((true:Bool)==true)=true by rfl,ct,tD,cf,long]
 ·rw[if_neg d,L9 rfl (Aa _) (e.le (by omega)),Ac]
  by_cases c:val b<18446744073709551616
  ·rw[if_pos c,show((false:Bool)==true)=false by rfl,cf,long]
  ·rw[if_neg c,show((false:Bool)==true)=false by rfl,cf,long]
theorem vE {N:Nat}:∀ (k b A B:Nat),k<b→A*B<2 ^ k→B<A→fit (3*(Ae A).length+4) N→∀ K:Nat→LA→O R,Cr N K b (Ae A).length (Ae B).length (Ab (Ae A)) (Ab (Ae B))=K (Ae (Nat.gcd A B)).length (Ab (Ae (Nat.gcd A B))):=by
 have base:∀ (b A:Nat) (K:Nat→LA→O R),Cr N K (b+1) (Ae A).length (Ae 0).length (Ab (Ae A)) (Ab (Ae 0))=K (Ae (Nat.gcd A 0)).length (Ab (Ae (Nat.gcd A 0))):=by
  intro b A K
  rw[Cr];unfold K3
  rw[Bt,show decide ((((([]:List Nat).length:Nat)):Int)>0)=false by decide,cf,Nat.gcd_zero_right]
 intro k
 induction k with
 | zero =>
  intro b A B f c d e K
  obtain⟨b,rfl⟩:∃ F,b=F+1:=⟨b - 1,by omega⟩
  have i:B=0:=by
   rcases Nat.eq_zero_or_pos B with h | h
   ·exact h
   ·have t:=Nat.mul_le_mul_left A (show 1≤B by omega)
    rw[Nat.pow_zero] at c;omega
  subst i
  exact base b A K
 | succ k j =>
  intro b A B f c d e K
  have u:=e.1;have v:=e.2
  obtain⟨b,rfl⟩:∃ F,b=F+1:=⟨b - 1,by omega⟩
  rcases Nat.eq_zero_or_pos B with h | h
  ·subst h;exact base b A K
  have l:=An (Nat.le_of_lt d)
  have m:(Ae B).length≠0:=fun n=>by have:=A0.1 n;omega
  have q:=Nat.mod_lt A h
  have x:=EH (show 1≤B by omega) (Nat.le_of_lt d)
  have:=j b B (A%B) (by omega) (by rw[Nat.pow_succ] at c;omega) q (e.le (by omega)) K
  have s:Nat.gcd B (A%B)=Nat.gcd A B:=by rw[Nat.gcd_comm,←Nat.gcd_rec,Nat.gcd_comm]
  rw[s] at this
  rw[Cr];unfold K3
  rw[show decide ((((Ae B).length:Nat):Int)>0)=true by rw[decide_eq_true_eq];omega,ct,Nat.mul_one,Nat.mul_one,List.take_of_length_le (by rw[A9];exact Nat.le_refl _),List.take_of_length_le (by rw[A9];exact Nat.le_refl _),Ma rfl rfl (Aa _) (Aa _) (by rw[Ac];omega) (e.le (by omega)),Ac,Ac]
  exact this
theorem vF {N:Nat} {a b:List Nat} {n m:Nat} {t o t' o':Bool} {K:Nat→LA→O R} (l:n=a.length) (q:m=b.length) (f:Ad a) (i:Ad b) (d:fit (3*(a.length+b.length)+4) N) :
  HK N (Ab a) n t o (Ab b) m t' o' K=K (Ae (Nat.gcd (val a) (val b))).length (Ab (Ae (Nat.gcd (val a) (val b)))):=by
 have x:=d.1;have y:=d.2
 have la:=(Au f).2
 have lb:=(Au i).2
 have j:val a*val b<2 ^ (32*(a.length+b.length)):=by rw[←oh];exact Nat.mul_lt_mul'' (Bb f) (Bb i)
 rw[aH];unfold SD
 dsimp only
 rw[B8 l f (d.le (by omega)),B8 q i (d.le (by omega))]
 obtain⟨F,hF⟩:∃ F,N=F+1:=⟨N - 1,by omega⟩
 rcases Nat.eq_zero_or_pos (val b) with h | h
 ·rw[h,Bt,Nat.gcd_zero_right,hF,Cr];unfold K3
  rw[show decide ((((([]:List Nat).length:Nat)):Int)>0)=false by decide,cf]
 ·have k:=Nat.mod_lt (val a) h
  have s:(Ae (val b)).length≠0:=fun u=>by have:=A0.1 u;omega
  have c:val b*(val a%val b)<2 ^ (32*(a.length+b.length)):=by
   have:val b*(val a%val b)≤val b*val a:=Nat.mul_le_mul_left _ (Nat.mod_le _ _)
   rw[Nat.mul_comm (val b) (val a)] at this;omega
  have:=vE (R:=R) (N:=N) (32*(a.length+b.length)) F (val b) (val a%val b) (by omega) c k (d.le (by omega)) K
  have v:Nat.gcd (val b) (val a%val b)=Nat.gcd (val a) (val b):=by rw[Nat.gcd_comm,←Nat.gcd_rec,Nat.gcd_comm]
  rw[v] at this
  have e:Cr N K (F+1) (Ae (val a)).length (Ae (val b)).length (Ab (Ae (val a))) (Ab (Ae (val b)))=Cr N K F (Ae (val b)).length (Ae (val a%val b)).length (Ab (Ae (val b))) (Ab (Ae (val a%val b))):=by
   rw[Cr];unfold K3
   rw[show decide ((((Ae (val b)).length:Nat):Int)>0)=true by rw[decide_eq_true_eq];omega,ct,Nat.mul_one,Nat.mul_one,List.take_of_length_le (by rw[A9];exact Nat.le_refl _),List.take_of_length_le (by rw[A9];exact Nat.le_refl _),Ma rfl rfl (Aa _) (Aa _) (by rw[Ac];omega) (d.le (by omega)),Ac,Ac]
  conv=>lhs;rw[show(Cr N K N)=Cr N K (F+1) by rw[←hF]]
  rw[e];exact this
end
end Gx

namespace Gx
open Go Go.Proofs
section
variable {R:Type}
inductive LS where
 | nil
 | of (l:List Nat) (t o:Bool)
def LS.l:LS→List Nat
 | .nil=>[]
 | .of l _ _=>l
def LS.av:LS→AV
 | .nil=>.nsl
 | .of l t o=>.imm (Ab l) l.length 1 t o
theorem sA {s:LS} {r:LA} {f:LA→Nat→O R}:Ip 1 (s.av::r) f=f (Ab s.l) s.l.length:=by
 cases s<;>simp[Ip,LS.av,LS.l,xU,Ab]
theorem yK {b:Bool} {r:LA} {f:Bool→O R}:Pa (.bool b::r) f=f b:=by simp[Pa,asBool]
def A8 (neg:Bool) (s:LS):LA:=[.bool neg,s.av]
def Am (neg:Bool) (s:LS):Int:=if neg then -(val s.l:Int) else (val s.l:Int)
theorem A6 (neg:Bool) (s:LS):(Am neg s).natAbs=val s.l:=by unfold Am;cases neg<;>simp
theorem F0 {neg:Bool} {s:LS} {f:Bool→O R}:Pa (A8 neg s) f=f neg:=yK
theorem Fk {neg:Bool} {s:LS} {f:LA→Nat→O R}:Ip 1 (List.drop 1 (A8 neg s)) f=f (Ab s.l) s.l.length:=by rw[A8,List.drop_succ_cons,List.drop_zero,sA]
theorem Ci {N:Nat} {c:Bool} {a:Nat} {b:LA} {K:Bool→O R}:Cg N c a b K=K (c&&decide (0<a)):=by
 rw[IK];unfold MZ
 cases c<;>simp
theorem Jb {z:Int} {c:Bool} {m:Nat} (h:z=if c then -(m:Int) else (m:Int)):(c&&decide (0<(Ae m).length))=decide (z<0)∧z.natAbs=m:=by
 have e:z.natAbs=m:=by rw[h];cases c<;>simp
 refine⟨?_,e⟩
 by_cases d:m=0
 ·subst d;rw[h,Bt];cases c<;>simp
 ·have:0<(Ae m).length:=by
   rcases Nat.eq_zero_or_pos (Ae m).length with b | b
   ·exact absurd (A0.1 b) d
   ·exact b
  rw[h];cases c<;>simp[this]<;>omega
theorem Fl {N:Nat} {v:Int} (i:-9223372036854775808≤v∧v≤9223372036854775807) (hN:4≤N):∃ S,Ad S∧val S=v.natAbs∧∀ K:Bool→Nat→LA→O R,Bf N v K=K (decide (v<0)) (Ae v.natAbs).length (Ab S):=by
 have d:v.natAbs<18446744073709551616:=by omega
 obtain⟨S,s1,s2,c⟩:=Gp (R:=R) (N:=N) d hN
 refine⟨S,s1,s2,fun K=>?_⟩
 rw[DL];unfold DK
 by_cases h:v<0
 ·have e:IntKind.wrap .u64 ((0:Int) - IntKind.wrap .u64 v)=(v.natAbs:Int):=by rw[DI,DI];omega
  rw[decide_eq_true h,ct,e,c,Ci]
  have f:v.natAbs≠0:=by omega
  have:0<(Ae v.natAbs).length:=by
   rcases Nat.eq_zero_or_pos (Ae v.natAbs).length with b | b
   ·exact absurd (A0.1 b) f
   ·exact b
  simp[this]
 ·have e:IntKind.wrap .u64 v=(v.natAbs:Int):=by rw[DI];omega
  rw[decide_eq_false h,cf,e,c,Ci];rfl
theorem Ny {N:Nat} {neg:Bool} {s:LS} {o:Bool} {K:Int→O R} (b:Ad s.l) (c:fit s.l.length N):Hr N (A8 neg s) o K=K (Am neg s).sign:=by
 rw[YU];unfold eO
 rw[Fk,er rfl b c]
 unfold Am
 by_cases h:val s.l=0
 ·rw[h,W8,show((0:Int)==0)=true by rfl,ct];cases neg<;>rfl
 ·have:E2 (val s.l) 0=1:=by unfold E2;rw[if_neg (by omega),if_pos (by omega)]
  rw[this,show((1:Int)==0)=false by rfl,cf,F0]
  cases neg
  ·rw[cf];simp only[Bool.false_eq_true,if_false]
   congr 1
   rw[Int.sign_eq_one_of_pos];omega
  ·rw[ct];simp only[if_true]
   congr 1
   rw[Int.sign_eq_neg_one_of_neg];omega
theorem XE {N:Nat} {n1 n2:Bool} {s1 s2:LS} {o1 o2:Bool} (d:Ad s1.l) (e:Ad s2.l) (f:fit (s1.l.length+s2.l.length) N):∃ S,Ad S∧val S=(Am n1 s1*Am n2 s2).natAbs∧∀ K:Bool→Nat→LA→O R,Nn N (A8 n1 s1) o1 (A8 n2 s2) o2 K=K (decide (Am n1 s1*Am n2 s2<0)) (Ae (Am n1 s1*Am n2 s2).natAbs).length (Ab S):=by
 obtain⟨S,a1,a2,a3⟩:=QT (R:=R) (N:=N) (a:=s1.l) (b:=s2.l) (t:=false) (o:=o1) (t':=false) (o':=o2) rfl rfl d e f
 have i:Am n1 s1*Am n2 s2=if (!(n1==n2)) then -((val s1.l*val s2.l:Nat):Int) else ((val s1.l*val s2.l:Nat):Int):=by
  unfold Am;cases n1<;>cases n2<;>simp[Int.mul_neg,Int.neg_mul]
 obtain⟨c1,c⟩:=Jb i
 refine⟨S,a1,by rw[a2,c],fun K=>?_⟩
 rw[eC];unfold mK
 rw[F0,F0,Fk,Fk,a3,Ci,c1,c]
theorem XF {N:Nat} {n1 n2:Bool} {s1 s2:LS} {o1 o2:Bool} (f:Ad s1.l) (i:Ad s2.l) (j:fit (s1.l.length+s2.l.length+1) N):∃ S,Ad S∧val S=(Am n1 s1+Am n2 s2).natAbs∧∀ K:Bool→Nat→LA→O R,Y8 N (A8 n1 s1) o1 (A8 n2 s2) o2 K=K (decide (Am n1 s1+Am n2 s2<0)) (Ae (Am n1 s1+Am n2 s2).natAbs).length (Ab S):=by
 by_cases k:n1=n2
 ·subst k
  obtain⟨S,a1,a2,a3⟩:=o6 (R:=R) (N:=N) (a:=s1.l) (b:=s2.l) (t:=false) (o:=o1) (t':=false) (o':=o2) rfl rfl f i j
  have d:Am n1 s1+Am n1 s2=if n1 then -((val s1.l+val s2.l:Nat):Int) else ((val s1.l+val s2.l:Nat):Int):=by
   unfold Am;cases n1<;>simp;omega
  obtain⟨c1,c⟩:=Jb d
  refine⟨S,a1,by rw[a2,c],fun K=>?_⟩
  rw[Y9];unfold QD
  rw[F0,F0,show(n1==n1)=true by simp,ct,F0,Fk,Fk,a3,Ci,c1,c]
 ·have e:(n1==n2)=false:=by simp[k]
  by_cases m:val s2.l≤val s1.l
  ·obtain⟨S,a1,a2,a3⟩:=QS (R:=R) (N:=N) (a:=s1.l) (b:=s2.l) (t:=false) (o:=o1) (t':=false) (o':=o2) rfl rfl f i (j.le (by omega)) m
   have d:Am n1 s1+Am n2 s2=if n1 then -((val s1.l - val s2.l:Nat):Int) else ((val s1.l - val s2.l:Nat):Int):=by
    unfold Am;cases n1<;>cases n2<;>simp at k ⊢<;>omega
   obtain⟨c1,c⟩:=Jb d
   refine⟨S,a1,by rw[a2,c],fun K=>?_⟩
   rw[Y9];unfold QD
   rw[F0,F0,e,cf,Fk,Fk,a3,ct,F0,Ci,c1,c]
  ·obtain⟨S,a1,a2,a3⟩:=QS (R:=R) (N:=N) (a:=s2.l) (b:=s1.l) (t:=false) (o:=o2) (t':=false) (o':=o1) rfl rfl i f (j.le (by omega)) (by omega)
   have d:Am n1 s1+Am n2 s2=if n2 then -((val s2.l - val s1.l:Nat):Int) else ((val s2.l - val s1.l:Nat):Int):=by
    unfold Am;cases n1<;>cases n2<;>simp at k ⊢<;>omega
   obtain⟨c1,c⟩:=Jb d
   refine⟨S,a1,by rw[a2,c],fun K=>?_⟩
   rw[Y9];unfold QD
   rw[F0,F0,e,cf,Fk,Fk,wZ rfl rfl f i (j.le (by omega)) (by omega),cf,Fk,Fk,a3,F0,Ci,c1,c]
theorem sB {N:Nat} {n1:Bool} {s1:LS} {o1:Bool} {K:Bool→Nat→LA→O R} (b:Ad s1.l) (d:fit s1.l.length N):QP N (A8 n1 s1) o1 K=K (decide (Am n1 s1<0)) (Ae (Am n1 s1).natAbs).length (Ab (Ae (Am n1 s1).natAbs)):=by
 obtain⟨c1,e⟩:=Jb (z:=Am n1 s1) (c:=n1) (m:=val s1.l) (by unfold Am;cases n1<;>simp)
 rw[ZF];unfold eg
 rw[F0,Fk,Q3 rfl b d,Ci,c1,e]
def Xu (x y:Int):Int:=if x<y then -1 else if y<x then 1 else 0
theorem wn (x y:Nat):Xu (x:Int) (y:Int)=E2 x y:=by unfold Xu E2;simp
theorem wo (x y:Nat):Xu (-(x:Int)) (-(y:Int))=E2 y x:=by
 unfold Xu E2
 by_cases h:y<x
 ·rw[if_pos (by omega),if_pos h]
 ·rw[if_neg (by omega),if_neg h]
  by_cases b:x<y
  ·rw[if_pos (by omega),if_pos b]
  ·rw[if_neg (by omega),if_neg b]
theorem V4 {N:Nat} {n1 n2:Bool} {s1 s2:LS} {o1 o2:Bool} {K:Int→O R} (e:Ad s1.l) (f:Ad s2.l) (d:fit (s1.l.length+s2.l.length) N):Kp N (A8 n1 s1) o1 (A8 n2 s2) o2 K=K (Xu (Am n1 s1) (Am n2 s2)):=by
 rw[EX];unfold EW
 have l2:∀ n s,List.take 2 (A8 n s)=A8 n s:=fun n s=>rfl
 have l3:∀ n s,Nat.ble 2 (List.length (A8 n s))=true:=fun n s=>rfl
 rw[l2,l2,l3,l3,ct,Ny e (d.le (by omega)),ct,Ny f (d.le (by omega))]
 have sg:∀ z:Int,z.sign=if z<0 then -1 else if 0<z then 1 else 0:=by
  intro z
  rcases Int.lt_trichotomy z 0 with h | h | h
  ·rw[Int.sign_eq_neg_one_of_neg h,if_pos h]
  ·subst h;rfl
  ·rw[Int.sign_eq_one_of_pos h,if_neg (by omega),if_pos h]
 by_cases c1:(Am n1 s1).sign<(Am n2 s2).sign
 ·rw[decide_eq_true c1,ct]
  rw[sg,sg] at c1
  unfold Xu;rw[if_pos]
  split at c1<;>split at c1<;>(try split at c1)<;>(try split at c1)<;>omega
 ·rw[decide_eq_false c1,cf]
  by_cases b:(Am n1 s1).sign>(Am n2 s2).sign
  ·rw[decide_eq_true b,ct]
   rw[sg,sg] at b
   unfold Xu;rw[if_neg,if_pos]
   ·split at b<;>split at b<;>(try split at b)<;>(try split at b)<;>omega
   ·split at b<;>split at b<;>(try split at b)<;>(try split at b)<;>omega
  ·rw[decide_eq_false b,cf]
   have q:(Am n1 s1).sign=(Am n2 s2).sign:=by omega
   by_cases c:(Am n1 s1).sign<0
   ·rw[decide_eq_true c,ct,Fk,Fk,Qz rfl rfl f e (d.le (by omega))]
    have i:Am n1 s1<0:=by rw[sg] at c;split at c;assumption;split at c<;>omega
    have j:Am n2 s2<0:=by rw[q,sg] at c;split at c;assumption;split at c<;>omega
    have k:Am n1 s1=-(val s1.l:Int):=by unfold Am at i ⊢;cases n1<;>simp at i ⊢;omega
    have m:Am n2 s2=-(val s2.l:Int):=by unfold Am at j ⊢;cases n2<;>simp at j ⊢;omega
    rw[k,m,wo]
   ·rw[decide_eq_false c,cf,Fk,Fk,Qz rfl rfl e f (d.le (by omega))]
    have i:0≤Am n1 s1:=by
     apply Int.not_lt.1;intro h;rw[Int.sign_eq_neg_one_of_neg h] at c;omega
    have j:0≤Am n2 s2:=by
     apply Int.not_lt.1;intro h;rw[q,Int.sign_eq_neg_one_of_neg h] at c;omega
    have k:Am n1 s1=(val s1.l:Int):=by have:=A6 n1 s1;omega
    have m:Am n2 s2=(val s2.l:Int):=by have:=A6 n2 s2;omega
    rw[k,m,wn]
end
end Gx

namespace Gx
open Go Go.Proofs
open IntKind (wrap)
set_option maxRecDepth 100000
noncomputable section
variable {R:Type} (N:Nat)
def Mb (N:Nat) (r0:Int→Bool→O R) (b:Int) (e g:Bool) (f:LA):O R :=
 (cond e (r0 (wrap .i64 ((wrap .i64 ((0:Int) - (wrap .i64 (wrap .u64 (b - 1))))) - 1)) true) (Pa f fun l=>(cond ((!l)==true) (cond (cond true (decide (b<9223372036854775808)) false) (r0 (wrap .i64 b) true) (r0 0 false)) (r0 0 false))))
def Zv (r0:Int→Bool→O R) (q0:Int→Bool→Bool→LA→O R) (c:LA) (d:Bool):O R :=
 (cond (Nat.ble 2 (c.length)) (Fz N (c.take 2) d (fun i=>(cond ((Nat.beq (i.length) 2)&&((Nat.ble 2 (c.length))&&(!false))) (Ip 1 ((setCells c 0 i).drop 1) fun m n=>(Ef N m n false (d||false) (fun b o=>(cond (!o) (r0 0 false) (Pa (setCells c 0 i) fun p=>(cond (p==true) (q0 b (cond true (decide (b≤9223372036854775808)) false) (d||false) (setCells c 0 i)) (q0 b false (d||false) (setCells c 0 i)))))))) none))) none)
def Q8:=(Aj (fun (N:Nat) (c:LA) (d:Bool) (r0:Int→Bool→O R)=>(Zv N r0 (fun b e g f=>(Mb N r0 b e g f)) c d))).1
theorem LB (c d r0):(@Q8 R N c d r0)=(Zv N r0 (fun b e g f=>(Mb N r0 b e g f)) c d):=by rw[Q8,(Aj _).2]
def TO:Hints:={ H:=(hS hL (hS hL (hS hL (hS (hS (hS hL (hS hL (hJ [1,4,17] hL hL))) hL) hL)))) }
def bX:D7:=[(26,Ol N),(89,Vu N)]
def ml (F:KF R):=Ty Tryz.f33 TO (bX N) [] N F
def Qj (F:KF R):Int→Bool→O R:=(fun q r=>F (.tup [(iv q),(.bool r)]) [])
def mm (b:Int) (e g:Bool) (f:LA):St:=⟨[(1,(op 0)),(4,(.int .u64 b)),(17,(.bool e))],(hq [(bP g 0 f)])⟩
def mn (F:KF R):=ml N F [1,1,1,0,0,1,1,1] []
theorem cX (F:KF R) (b:Int):∀ (e g:Bool) (f:LA),Dx (mn N F) (mm b e g f)=(Mb N (Qj F) b e g f):=by
 intro e g f
 kernel_rfl
theorem TP (c:LA) (d:Bool) (F:KF R):Cy (bX N) TO N 33 [(.pagg c d)] [] F=(Q8 N c d (Qj F)):=by
 rw[LB]
 exact Eq.trans (by kernel_rfl) (E9 (Zv N (Qj F) · c d) (funext fun b=>funext fun e=>funext fun g=>funext fun f=>(Bh ..).trans (cX N F b e g f)):_)
def LC (a:LA) (h:Ah) (k:KF R):O R :=
 match a,h with
 | [(.pagg c d)],[]=>(Q8 N c d (Qj k))
 | _,_=>none
theorem TQ:Ap N 33 @LC:=by
 intro R Q a h k j;unfold LC;split;exact Ax (TP ..) (TP ..) ⟨Om N,Vv N,trivial⟩;exact A2
def mo:=Ay (TQ N)
def mq:=Cz (TQ N)
end
end Gx

namespace Gx
open Go Go.Proofs
section
variable {R:Type}
theorem mr (z:Int) (d:Nat) (f:d≠0):(mkRat z d).num.natAbs=z.natAbs/Nat.gcd z.natAbs d∧((mkRat z d).num<0↔z<0)∧(mkRat z d).den=d/Nat.gcd z.natAbs d:=by
 have j:0<Nat.gcd z.natAbs d:=Nat.gcd_pos_of_pos_right _ (by omega)
 rw[Rat.num_mkRat,Rat.den_mkRat,if_neg f,if_neg f,Nat.gcd_comm d]
 have b:((Nat.gcd z.natAbs d:Nat):Int)∣z:=Int.dvd_natAbs.1 (Int.natCast_dvd_natCast.2 (Nat.gcd_dvd_left _ _))
 obtain⟨c,i⟩:=b
 have k:z.natAbs.gcd d=Nat.gcd z.natAbs d:=rfl
 generalize Nat.gcd z.natAbs d=g at *
 refine⟨?_,?_,rfl⟩
 ·rw[i,Int.mul_ediv_cancel_left _ (by omega),Int.natAbs_mul,Int.natAbs_natCast,Nat.mul_div_cancel_left _ j]
 ·rw[i,Int.mul_ediv_cancel_left _ (by omega)]
  constructor
  ·intro h;exact Int.mul_neg_of_pos_of_neg (by omega) h
  ·intro h;rcases Int.lt_or_le c 0 with e | e
   ·exact e
   ·have:=Int.mul_nonneg (show(0:Int)≤g by omega) e;omega
structure RatD where
 neg:Bool
 ns:LS
 ds:LS
def RatD.av (x:RatD):LA:=[.bool x.neg,x.ns.av,x.ds.av]
def RatD.ok (x:RatD):Prop:=Ad x.ns.l∧Ad x.ds.l
def RatD.m (x:RatD):Nat:=max x.ns.l.length x.ds.l.length
def RatD.q (x:RatD):Rat:=mkRat (Am x.neg x.ns) (val x.ds.l)
def RatD.can (x:RatD) (q:Rat):Prop:=x.neg=decide (q.num<0)∧x.ns.l=Ae q.num.natAbs∧x.ds.l=Ae q.den
def qm (q:Rat):Nat:=max (Ae q.num.natAbs).length (Ae q.den).length
theorem RatD.can.ok {x:RatD} {q:Rat} (h:x.can q):x.ok:=⟨by rw[h.2.1];exact Aa _,by rw[h.2.2];exact Aa _⟩
theorem RatD.can.m {x:RatD} {q:Rat} (h:x.can q):x.m=qm q:=by unfold RatD.m qm;rw[h.2.1,h.2.2]
theorem RatD.can.q {x:RatD} {q:Rat} (h:x.can q):x.q=q:=by
 unfold RatD.q Am
 rw[h.1,h.2.1,h.2.2,Ac,Ac]
 have:(if decide (q.num<0)=true then -(q.num.natAbs:Int) else (q.num.natAbs:Int))=q.num:=by
  by_cases b:q.num<0
  ·rw[if_pos (by simpa using b)];omega
  ·rw[if_neg (by simpa using b)];omega
 rw[this,Rat.mkRat_self]
theorem zd {x:RatD} {f:Bool→O R}:Pa x.av f=f x.neg:=yK
theorem yb {x:RatD} {f:LA→Nat→O R}:Ip 1 (List.drop 1 x.av) f=f (Ab x.ns.l) x.ns.l.length:=by rw[RatD.av,List.drop_succ_cons,List.drop_zero,sA]
theorem XG {x:RatD} {f:LA→Nat→O R}:Ip 1 (List.drop 2 x.av) f=f (Ab x.ds.l) x.ds.l.length:=by rw[RatD.av,List.drop_succ_cons,List.drop_succ_cons,List.drop_zero,sA]
theorem Kr (x:RatD):Nat.ble 3 (List.length x.av)=true:=rfl
theorem Eh (x:RatD):List.take 3 x.av=x.av:=rfl
theorem yL (x:RatD):List.take 2 x.av=A8 x.neg x.ns:=rfl
theorem pc (n:Bool) (s:LS):((Nat.beq 0 0)&&((Nat.beq (List.length (A8 n s)) 2)&&(Nat.beq 2 2)))=true:=rfl
theorem Pf (n:Bool) (s:LS):Nat.ble 2 (List.length (A8 n s))=true:=rfl
theorem NV (n:Bool) (s:LS):List.take 2 (A8 n s)=A8 n s:=rfl
theorem pd:([.int .u32 1]:LA)=Ab [1]:=rfl
theorem XH:Ad [1]:=by intro x b;simp at b;omega
theorem Oc:Ae 1=[1]:=by rw[Tz (by omega)];simp[Bt]
theorem Av {v:Nat} {S:List Nat} (b:Ad S) (c:val S=v):List.take ((Ae v).length*1) (Ab S)=Ab (Ae v):=by rw[←c,He b]
theorem hZ (neg:Bool) (l:List Nat) (t o:Bool):([.bool neg,.imm (Ab l) l.length 1 t o]:LA)=A8 neg (.of l t o):=rfl
theorem B3 {z:Int} {t o:Bool}:Am (decide (z<0)) (.of (Ae z.natAbs) t o)=z:=by
 unfold Am LS.l;rw[Ac]
 by_cases h:z<0
 ·rw[if_pos (by simpa using h)];omega
 ·rw[if_neg (by simpa using h)];omega
theorem Zw {N:Nat} {x:RatD} {o:Bool} (c:x.ok) (f:fit x.m N):∃ (neg:Bool) (s:LS) (l:List Nat) (o1 o2:Bool),Ad s.l∧Ad l∧val l≠0∧s.l.length≤x.m∧l.length≤max x.m 1∧mkRat (Am neg s) (val l)=x.q∧∀ K:LA→Bool→LA→Nat→Bool→O R,Oj N x.av o K=K (A8 neg s) o1 (Ab l) l.length o2:=by
 have d:x.ns.l.length≤x.m:=Nat.le_max_left _ _
 have b:x.ds.l.length≤x.m:=Nat.le_max_right _ _
 by_cases e:val x.ds.l=0
 ·refine⟨false,.nil,[1],false,false,Nh,XH,by decide,by simp[LS.l],by simp;omega,?_,fun K=>?_⟩
  ·unfold RatD.q;rw[e];simp[Am,LS.l,val]
  ·rw[Zb];unfold HH
   rw[XG,er rfl c.2 (f.le b),e,W8];rfl
 ·refine⟨x.neg,x.ns,x.ds.l,o,o,c.1,c.2,e,d,by omega,rfl,fun K=>?_⟩
  have:E2 (val x.ds.l) 0=1:=by unfold E2;rw[if_neg (by omega),if_pos (by omega)]
  rw[Zb];unfold HH
  rw[XG,er rfl c.2 (f.le b),this,show((1:Int)==0)=false by rfl,cf,show Nat.ble 2 (List.length x.av)=true by rfl,ct,XG,yL,pc,ct,Pf,ct,NV]
theorem Zx {N:Nat} {x:RatD} {o:Bool} (c:x.ok) (f:fit x.m N):(∃ (n:Int) (d:Nat),-2147483648<n∧n<2147483648∧0<d∧d<2147483648∧mkRat n d=x.q∧∀ K:Int→Int→Bool→O R,Jv N x.av o K=K n (d:Int) true)∨(∀ K:Int→Int→Bool→O R,Jv N x.av o K=K 0 0 false):=by
 have i:x.ns.l.length≤x.m:=Nat.le_max_left _ _
 have b:x.ds.l.length≤x.m:=Nat.le_max_right _ _
 by_cases u:val x.ns.l<2147483648
 ·by_cases t:val x.ds.l<2147483648
  ·left
   have e:∀ K:Int→Int→Bool→O R,Jv N x.av o K=Df N K (val x.ns.l:Int) (val x.ds.l:Int) o x.av false:=by
    intro K
    rw[P7];unfold Qy
    rw[yb,F6 rfl c.1 (f.le i),if_pos (by omega),XG,F6 rfl c.2 (f.le b),if_pos (by omega)]
    rw[show((!true)==false)=true by rfl,ct,show((cond false true (!true))==false)=true by rfl,ct,show decide (((val x.ns.l:Nat):Int)≥2147483648)=false by rw[decide_eq_false_iff_not];omega,show((cond false true false)==false)=true by rfl,ct,show decide (((val x.ds.l:Nat):Int)≥2147483648)=false by rw[decide_eq_false_iff_not];omega]
    rfl
   by_cases k:val x.ds.l=0
   ·refine⟨0,1,by omega,by omega,by omega,by omega,by unfold RatD.q;rw[k];simp,fun K=>?_⟩
    rw[e];unfold Df
    rw[cf,zo k,ct];rfl
   ·have v:=A6 x.neg x.ns
    refine⟨Am x.neg x.ns,val x.ds.l,by omega,by omega,by omega,t,rfl,fun K=>?_⟩
    rw[e];unfold Df
    rw[cf,cx k,cf,zd,i64 (a:=((val x.ns.l:Nat):Int)) (by omega),i64 (a:=((val x.ds.l:Nat):Int)) (by omega)]
    unfold Am
    cases x.neg
    ·rfl
    ·rw[ct,i64 (by omega),Int.zero_sub];rfl
  ·right
   intro K
   rw[P7];unfold Qy
   rw[yb,F6 rfl c.1 (f.le i),if_pos (by omega),XG,F6 rfl c.2 (f.le b),show((!true)==false)=true by rfl]
   by_cases j:val x.ds.l<18446744073709551616
   ·rw[if_pos j,ct,show((cond false true (!true))==false)=true by rfl,ct,show decide (((val x.ns.l:Nat):Int)≥2147483648)=false by rw[decide_eq_false_iff_not];omega,show((cond false true false)==false)=true by rfl,ct,show decide (((val x.ds.l:Nat):Int)≥2147483648)=true by rw[decide_eq_true_eq];omega]
    unfold Df;rfl
   ·rw[if_neg j,ct,show((cond false true (!false))==false)=false by rfl,cf]
    unfold Df;rfl
 ·right
  intro K
  rw[P7];unfold Qy
  rw[yb,F6 rfl c.1 (f.le i)]
  by_cases j:val x.ns.l<18446744073709551616
  ·rw[if_pos j,XG,F6 rfl c.2 (f.le b),show((!true)==false)=true by rfl,show decide (((val x.ns.l:Nat):Int)≥2147483648)=true by rw[decide_eq_true_eq];omega]
   by_cases s:val x.ds.l<18446744073709551616
   ·rw[if_pos s,ct,show((cond false true (!true))==false)=true by rfl,ct]
    unfold Df;rfl
   ·rw[if_neg s,ct,show((cond false true (!false))==false)=false by rfl,cf]
    unfold Df;rfl
  ·rw[if_neg j,XG,F6 rfl c.2 (f.le b),show((!false)==false)=false by rfl]
   split<;>(rw[cf];unfold Df;rfl)
theorem kv {N:Nat} {a b c:Nat} {s:Int} (hN:4≤N) (t:a<18446744073709551616) (M:b<9223372036854775808) (u:0<c) (v:c∣a):∀ (k e x y:Nat),k<e→x*y<2 ^ k→y≤x→Nat.gcd x y=c→∃ d:RatD,d.neg=decide (s<0)∧d.ns.l=Ae (a/c)∧d.ds.l=Ae (b/c)∧∀ K:LA→O R,By N K s (b:Int) (a:Int) e (x:Int) (y:Int)=K d.av:=by
 have base:∀ (e:Nat),∃ d:RatD,d.neg=decide (s<0)∧d.ns.l=Ae (a/c)∧d.ds.l=Ae (b/c)∧∀ K:LA→O R,By N K s (b:Int) (a:Int) (e+1) (c:Int) ((0:Nat):Int)=K d.av:=by
  intro e
  have n:a/c<18446744073709551616:=Nat.lt_of_le_of_lt (Nat.div_le_self _ _) t
  have q:b/c<18446744073709551616:=Nat.lt_of_le_of_lt (Nat.div_le_self _ _) (by omega)
  obtain⟨S1,s1,s2,z⟩:=Gp (R:=R) (N:=N) n hN
  obtain⟨S2,t1,t2,t3⟩:=Gp (R:=R) (N:=N) q hN
  refine⟨⟨decide (s<0),.of (Ae (a/c)) false false,.of (Ae (b/c)) false false⟩,rfl,rfl,rfl,fun K=>?_⟩
  rw[By];unfold G6
  rw[show(((0:Nat):Int) != 0)=false by rfl,cf,cx (by omega),cf,JR,Ex n,z,cf,Ex (show b<18446744073709551616 by omega),JR,Ex q,t3,Av s1 s2,Av t1 t2];rfl
 intro k
 induction k with
 | zero =>
  intro e x y A f j i
  obtain⟨e,rfl⟩:∃ F,e=F+1:=⟨e - 1,by omega⟩
  have B:y=0:=by
   rcases Nat.eq_zero_or_pos y with h | h
   ·exact h
   ·have S:=Nat.mul_le_mul_left x (show 1≤y by omega)
    rw[Nat.pow_zero] at f;omega
  subst B
  rw[Nat.gcd_zero_right] at i;subst i
  exact base e
 | succ k C =>
  intro e x y A f j i
  obtain⟨e,rfl⟩:∃ F,e=F+1:=⟨e - 1,by omega⟩
  rcases Nat.eq_zero_or_pos y with h | h
  ·subst h;rw[Nat.gcd_zero_right] at i;subst i;exact base e
  ·have T:=EH (show 1≤y by omega) j
   have U:=Nat.mod_lt x h
   have m:Nat.gcd y (x%y)=Nat.gcd x y:=by rw[Nat.gcd_comm,←Nat.gcd_rec,Nat.gcd_comm]
   obtain⟨d,D,G,I,L⟩:=C e y (x%y) (by omega) (by rw[Nat.pow_succ] at f;omega) (by omega) (by rw[m,i])
   refine⟨d,D,G,I,fun K=>?_⟩
   rw[By];unfold G6
   rw[show((y:Int) != 0)=true by rw[bne_iff_ne];omega,ct,cx (by omega),cf,EF]
   exact L K
theorem LD {N:Nat} {s:Int} {b:Nat} (A:-9223372036854775808≤s∧s≤9223372036854775807) (k:0<b) (v:b<9223372036854775808) (hN:1000≤N):∃ d:RatD,d.can (mkRat s b)∧∀ K:LA→O R,F5 N s (b:Int) K=K d.av:=by
 obtain⟨m1,m2,m3⟩:=mr s b (by omega)
 have f:∀ d:RatD,d.neg=decide (s<0)→d.ns.l=Ae (s.natAbs/Nat.gcd s.natAbs b)→d.ds.l=Ae (b/Nat.gcd s.natAbs b)→d.can (mkRat s b):=by
  intro d x y z
  exact⟨by rw[x];congr 1;exact propext m2.symm,by rw[y,m1],by rw[z,m3]⟩
 have j:s.natAbs<18446744073709551616:=by omega
 have start:∀ K:LA→O R,F5 N s (b:Int) K=By N K s (b:Int) (s.natAbs:Int) N (b:Int) (s.natAbs:Int):=by
  intro K
  rw[AO];unfold P8 Lw Pb
  dsimp only
  by_cases h:s<0
  ·have e:IntKind.wrap .u64 ((0:Int) - IntKind.wrap .u64 s)=(s.natAbs:Int):=by rw[DI,DI];omega
   rw[decide_eq_true h,ct,e,Ex (by omega)]
  ·have e:IntKind.wrap .u64 s=(s.natAbs:Int):=by rw[DI];omega
   rw[decide_eq_false h,cf,e,Ex (by omega)]
 have i:0<Nat.gcd s.natAbs b:=Nat.gcd_pos_of_pos_right _ k
 by_cases m:s.natAbs≤b
 ·obtain⟨d,n,q,t,u⟩:=kv (R:=R) (N:=N) (a:=s.natAbs) (b:=b) (c:=Nat.gcd s.natAbs b) (s:=s) (by omega) j v i (Nat.gcd_dvd_left _ _) 128 N b s.natAbs (by omega) (by
   have:=Nat.mul_lt_mul'' (show b<18446744073709551616 by omega) j;exact this) m (Nat.gcd_comm _ _)
  exact⟨d,f d n q t,fun K=>by rw[start,u]⟩
 ·obtain⟨F,hF⟩:∃ F,N=F+1:=⟨N - 1,by omega⟩
  obtain⟨d,n,q,t,u⟩:=kv (R:=R) (N:=N) (a:=s.natAbs) (b:=b) (c:=Nat.gcd s.natAbs b) (s:=s) (by omega) j v i (Nat.gcd_dvd_left _ _) 128 F s.natAbs (b%s.natAbs) (by omega) (by
   rw[Nat.mod_eq_of_lt (by omega)]
   have:=Nat.mul_lt_mul'' j (show b<18446744073709551616 by omega);exact this) (by rw[Nat.mod_eq_of_lt (by omega)];omega) (by rw[Nat.mod_eq_of_lt (by omega)])
  refine⟨d,f d n q t,fun K=>?_⟩
  rw[start,←u K]
  conv=>lhs;rw[show(By N K s (b:Int) (s.natAbs:Int) N)=By N K s (b:Int) (s.natAbs:Int) (F+1) by rw[←hF]]
  rw[By];unfold G6
  rw[show(((s.natAbs:Nat):Int) != 0)=true by rw[bne_iff_ne];omega,ct,cx (by omega),cf,EF]
end
end Gx

namespace Gx
open Go Go.Proofs
section
variable {R:Type}
theorem xe {S:List Nat} {g:Nat} (d:Ad S) (e:val S=g) (c:(Ae g).length=1) {f:Int→O R}:F3 .u32 (Ab S) f=f (g:Int):=by
 have i:=(Au d).2
 rw[e,c] at i
 have b:=o5 d
 rw[e,c] at b
 obtain⟨a,j⟩:∃ a,Ae g=[a]:=by
  match h:Ae g,c with
  | [a],_=>exact⟨a,rfl⟩
 have k:a=g:=by have:=Ac g;rw[j] at this;simpa[val] using this
 rw[j,k] at b
 match S,i,b with
 | x::r,_,b =>
  simp at b;subst b
  rw[Ni,Rp]
theorem bY {N:Nat} {neg:Bool} {s:LS} {l:List Nat} {n:Nat} {o t o':Bool} (S:n=l.length) (C:Ad s.l) (D:Ad l) (j:val l≠0) (e:fit (2*(s.l.length+l.length)+8) N) :
  ∃ d:RatD,d.can (mkRat (Am neg s) (val l))∧∀ K:LA→O R,Nx N (A8 neg s) o (Ab l) n t o' K=K d.av:=by
 obtain⟨m1,m2,m3⟩:=mr (Am neg s) (val l) j
 have k:=A6 neg s
 have ls:=(Au C).2
 have ll:=(Au D).2
 generalize T:Am neg s=z at *
 have start:∀ K:LA→O R,Nx N (A8 neg s) o (Ab l) n t o' K=cond ((((Ae z.natAbs).length:Nat):Int)==(0:Int)) (K [(.bool false),.nsl,(.imm [(.int .u32 1)] 1 1 false false)]) (EE N (Ab (Ae z.natAbs)) (Ae z.natAbs).length false true (Ab (Ae (val l))) (Ae (val l)).length false true (fun f g=>(cond ((((f:Nat):Int) != (1:Int))==false) (cond (Ao (0:Int) f) (F3 .u32 g fun y=>(cond (cond false true (y != (1:Int))) (Cx N (Ab (Ae z.natAbs)) (Ae z.natAbs).length false true (List.take (f*1) g) f false true (fun p ae af z2 ag=>(Cx N (Ab (Ae (val l))) (Ae (val l)).length false true (List.take (f*1) g) f false true (fun q ah ai aa aj=>(K [(.bool (decide (z<0))),(.imm (List.take (p*1) z2) p 1 false false),(.imm (List.take (q*1) aa) q 1 false false)]))))) (K [(.bool (decide (z<0))),(.imm (Ab (Ae z.natAbs)) (Ae z.natAbs).length 1 false false),(.imm (Ab (Ae (val l))) (Ae (val l)).length 1 false false)]))) none) (Cx N (Ab (Ae z.natAbs)) (Ae z.natAbs).length false true (List.take (f*1) g) f false true (fun r ak al ab am=>(Cx N (Ab (Ae (val l))) (Ae (val l)).length false true (List.take (f*1) g) f false true (fun s an ao ac ap=>(K [(.bool (decide (z<0))),(.imm (List.take (r*1) ab) r 1 false false),(.imm (List.take (s*1) ac) s 1 false false)])))))))):=by
  intro K
  rw[JT];unfold NW
  have tk:∀ v:Nat,List.take ((Ae v).length*1) (Ab (Ae v))=Ab (Ae v):=fun v=>Av (Aa _) (Ac v)
  rw[F0,Fk,show Nat.beq (List.length (A8 neg s)) 2=true by rfl,ct,hZ,sB (s1:=.of s.l false o) C (e.le (by simp[LS.l];omega)),show Am neg (.of s.l false o)=z by rw[←T];rfl,Q3 S D (e.le (by omega)),tk,tk]
 by_cases F:z=0
 ·refine⟨⟨false,.nil,.of [1] false false⟩,?_,fun K=>?_⟩
  ·rw[F];simp only[Rat.zero_mkRat]
   exact⟨rfl,rfl,Oc.symm⟩
  ·rw[start,F];rfl
 ·have m:z.natAbs≠0:=by omega
  have i:(Ae z.natAbs).length≠0:=fun h=>m (A0.1 h)
  have U:0<Nat.gcd z.natAbs (val l):=Nat.gcd_pos_of_pos_right _ (by omega)
  have lz:(Ae z.natAbs).length≤s.l.length:=by rw[k];exact ls
  obtain⟨G,I,u,L⟩:=wh (R:=R) (N:=N) (a:=Ae z.natAbs) (b:=Ae (val l)) (t:=false) (o:=true) (t':=false) (o':=true) rfl rfl (Aa _) (Aa _) (e.le (by omega))
  rw[Ac,Ac] at u L
  have lg:(Ae (Nat.gcd z.natAbs (val l))).length≤l.length:=Nat.le_trans (An (Nat.gcd_le_right _ (by omega))) ll
  obtain⟨Q1,R1,a1,a2,a3,a4,a5⟩:=Ug (R:=R) (N:=N) (a:=Ae z.natAbs) (b:=Ae (Nat.gcd z.natAbs (val l))) (t:=false) (o:=true) (t':=false) (o':=true) rfl rfl (Aa _) (Aa _) (by rw[Ac];omega) (e.le (by omega))
  obtain⟨Q2,R2,M,x,X,Y,A⟩:=Ug (R:=R) (N:=N) (a:=Ae (val l)) (b:=Ae (Nat.gcd z.natAbs (val l))) (t:=false) (o:=true) (t':=false) (o':=true) rfl rfl (Aa _) (Aa _) (by rw[Ac];omega) (e.le (by omega))
  rw[Ac,Ac] at a2 a5 x A
  have B:decide (z<0)=decide ((mkRat z (val l)).num<0):=by congr 1;exact propext m2.symm
  refine⟨⟨decide (z<0),.of (Ae (z.natAbs/Nat.gcd z.natAbs (val l))) false false,.of (Ae (val l/Nat.gcd z.natAbs (val l))) false false⟩,⟨B,by rw[m1];rfl,by rw[m3];rfl⟩,fun K=>?_⟩
  rw[start,cx i,cf,L,Av I u]
  by_cases c:(Ae (Nat.gcd z.natAbs (val l))).length=1
  ·rw[show((((((Ae (Nat.gcd z.natAbs (val l))).length:Nat):Int) != (1:Int))==false))=true by rw[c];rfl,ct,show Ao 0 (Ae (Nat.gcd z.natAbs (val l))).length=true by rw[c];rfl,ct,xe I u c]
   by_cases V:Nat.gcd z.natAbs (val l)=1
   ·rw[V,show(cond false true (((1:Nat):Int) != 1))=false by rfl,cf,Nat.div_one,Nat.div_one];rfl
   ·rw[show(cond false true (((Nat.gcd z.natAbs (val l):Nat):Int) != 1))=true by (show(((Nat.gcd z.natAbs (val l):Nat):Int) != 1)=true;rw[bne_iff_ne];omega),ct,a5,A,Av a1 a2,Av M x];rfl
  ·rw[show((((((Ae (Nat.gcd z.natAbs (val l))).length:Nat):Int) != (1:Int))==false))=false by (rw[show((((Ae (Nat.gcd z.natAbs (val l))).length:Nat):Int) != (1:Int))=true by rw[bne_iff_ne];omega];rfl),cf,a5,A,Av a1 a2,Av M x];rfl
theorem OH {N:Nat} {x:RatD} {o:Bool} (j:x.ok) (f:fit (4*x.m+10) N):∃ d:RatD,d.can x.q∧∀ K:LA→O R,Zj N x.av o K=K d.av:=by
 have B:=f.1
 rcases Zx (R:=R) (N:=N) (o:=o) j (f.le (by omega)) with⟨n,d,n1,n2,k,C,e,hK⟩ | hK
 ·obtain⟨c,c1,i⟩:=LD (R:=R) (N:=N) (s:=n) (b:=d) (by omega) k (by omega) (by omega)
  rw[e] at c1
  refine⟨c,c1,fun K=>?_⟩
  rw[EI];unfold RL
  rw[Kr,ct,Eh,hK,ct,i];rfl
 ·obtain⟨neg,s,l,o1,o2,u,v,y,D,F,z,A⟩:=Zw (R:=R) (N:=N) (o:=o) j (f.le (by omega))
  obtain⟨c,c1,i⟩:=bY (R:=R) (N:=N) (neg:=neg) (s:=s) (l:=l) (n:=l.length) (o:=o1) (t:=false) (o':=o2) rfl u v y (f.le (by omega))
  rw[z] at c1
  refine⟨c,c1,fun K=>?_⟩
  rw[EI];unfold RL
  rw[Kr,ct,Eh,hK,cf,ct,A,i];rfl
def sC (x y:Rat):Int:=if x<y then -1 else if y<x then 1 else 0
theorem tJ {a b:Int} (d:-2147483648<a∧a<2147483648) (e:-2147483648<b∧b<2147483648):-4611686018427387904<a*b∧a*b<4611686018427387904:=by
 have c:a.natAbs*b.natAbs≤2147483647*2147483647:=Nat.mul_le_mul (by omega) (by omega)
 rw[←Int.natAbs_mul] at c
 omega
end
end Gx

namespace Gx
open Go Go.Proofs
section
variable {R:Type}
theorem Ow {a b:Int} {k l:Nat} (c:a.natAbs<4294967296 ^ k) (d:b.natAbs<4294967296 ^ l):(a*b).natAbs<4294967296 ^ (k+l):=by
 rw[Int.natAbs_mul,Nat.pow_add];exact Nat.mul_lt_mul'' c d
theorem pe {a b:Int} {k:Nat} (c:a.natAbs<4294967296 ^ k) (d:b.natAbs<4294967296 ^ k):(a+b).natAbs<4294967296 ^ (k+1):=by
 rw[Nat.pow_succ];omega
theorem Ox {k l:Nat} (h:k≤l):4294967296 ^ k≤4294967296 ^ l:=Nat.pow_le_pow_right (by omega) h
theorem OI {v k:Nat} (h:(Ae v).length≤k):v<4294967296 ^ k:=by
 have:=Bb (Aa v);rw[Ac] at this
 exact Nat.lt_of_lt_of_le this (Ox h)
theorem wq (n:Bool) (s:LS):Am (!n) s=-Am n s:=by unfold Am;cases n<;>simp
theorem xg {N:Nat} {x y:RatD} {o o':Bool} (u:x.ok) (v:y.ok) (e:fit (8*(x.m+y.m)+40) N):∃ d:RatD,d.can (x.q*y.q)∧∀ K:LA→O R,Xs N K o x.av o' y.av=K d.av:=by
 obtain⟨n1,s1,l1,a1,z,f,i,A,B,T,C,D⟩:=Zw (R:=R) (N:=N) (o:=o) u (e.le (by omega))
 obtain⟨n2,s2,l2,a2,F,j,k,G,I,U,L,M⟩:=Zw (R:=R) (N:=N) (o:=o') v (e.le (by omega))
 have zl1:(Am n1 s1).natAbs<4294967296 ^ x.m:=by rw[A6];exact Nat.lt_of_lt_of_le (Bb f) (Ox B)
 have zl2:(Am n2 s2).natAbs<4294967296 ^ y.m:=by rw[A6];exact Nat.lt_of_lt_of_le (Bb j) (Ox I)
 have dl1:((val l1:Nat):Int).natAbs<4294967296 ^ (x.m+1):=by rw[Int.natAbs_natCast];exact Nat.lt_of_lt_of_le (Bb i) (Ox (by omega))
 have dl2:((val l2:Nat):Int).natAbs<4294967296 ^ (y.m+1):=by rw[Int.natAbs_natCast];exact Nat.lt_of_lt_of_le (Bb k) (Ox (by omega))
 obtain⟨S1,t1,t2,t3⟩:=XE (R:=R) (N:=N) (n1:=n1) (n2:=n2) (s1:=s1) (s2:=s2) (o1:=a1) (o2:=a2) f j (e.le (by omega))
 have L1:=Bj (Ow zl1 zl2)
 obtain⟨S4,v1,v2,v3⟩:=QT (R:=R) (N:=N) (a:=l1) (b:=l2) (t:=false) (o:=z) (t':=false) (o':=F) rfl rfl i k (e.le (by omega))
 have z4:val l1*val l2<4294967296 ^ (x.m+1+(y.m+1)):=by
  have:=Ow dl1 dl2;rw[Int.natAbs_mul,Int.natAbs_natCast,Int.natAbs_natCast] at this;exact this
 have L4:=Bj z4
 obtain⟨c,c1,S⟩:=bY (R:=R) (N:=N) (neg:=decide (Am n1 s1*Am n2 s2<0)) (s:=.of (Ae (Am n1 s1*Am n2 s2).natAbs) false true) (l:=Ae (val l1*val l2)) (n:=(Ae (val l1*val l2)).length) (o:=true) (t:=false) (o':=true) rfl (Aa _) (Aa _) (by rw[Ac];exact Nat.mul_ne_zero A G) (e.le (show 2*((Ae (Am n1 s1*Am n2 s2).natAbs).length+(Ae (val l1*val l2)).length)+8≤_ by omega))
 rw[B3,Ac,←Rat.mkRat_mul_mkRat,C,L] at c1
 refine⟨c,c1,fun K=>?_⟩
 unfold Xs
 rw[Kr,ct,Eh,D,pc,ct,Kr,ct,Eh,M,pc,ct,Pf,ct,Pf,ct,NV,NV,t3,v3,Av t1 t2,Av v1 v2,hZ,S];rfl
theorem vG {N:Nat} {x y:RatD} {o o':Bool} (z:x.ok) (l:y.ok) (f:fit (8*(x.m+y.m)+40) N):∃ d:RatD,d.can (x.q*y.q)∧∀ K:LA→O R,WX N x.av o y.av o' K=K d.av:=by
 have G:=f.1
 obtain⟨g,A,t⟩:=xg (R:=R) (N:=N) (o:=o) (o':=o') z l f
 rcases Zx (R:=R) (N:=N) (o:=o) z (f.le (by omega)) with⟨n,d,n1,n2,C,I,e,hK⟩ | hK
 ·rcases Zx (R:=R) (N:=N) (o:=o') l (f.le (by omega)) with⟨u,d',i,j,k,v,B,hK'⟩ | hK'
  ·have L:=tJ (a:=n) (b:=u) ⟨n1,n2⟩ ⟨i,j⟩
   have M:=tJ (a:=(d:Int)) (b:=(d':Int)) (by omega) (by omega)
   have D:((d*d':Nat):Int)=(d:Int)*(d':Int):=by simp
   obtain⟨c,c1,F⟩:=LD (R:=R) (N:=N) (s:=n*u) (b:=d*d') (by omega) (Nat.mul_pos C k) (by omega) (by omega)
   rw[←Rat.mkRat_mul_mkRat,e,B] at c1
   refine⟨c,c1,fun K=>?_⟩
   rw[Zp];unfold HP
   rw[Kr,ct,Eh,hK,Kr,ct,Eh,hK',show((true:Bool)==true)=true by rfl,ct,tD,ct,i64 (by omega),i64 (by omega),←D,F];rfl
  ·refine⟨g,A,fun K=>?_⟩
   rw[Zp];unfold HP
   rw[Kr,ct,Eh,hK,Kr,ct,Eh,hK',show((true:Bool)==true)=true by rfl,ct,tD,cf,t]
 ·refine⟨g,A,fun K=>?_⟩
  rw[Zp];unfold HP
  rcases Zx (R:=R) (N:=N) (o:=o') l (f.le (by omega)) with⟨u,d',i,j,k,v,B,hK'⟩ | hK'
  ·rw[Kr,ct,Eh,hK,Kr,ct,Eh,hK',show((false:Bool)==true)=false by rfl,cf,t]
  ·rw[Kr,ct,Eh,hK,Kr,ct,Eh,hK',show((false:Bool)==true)=false by rfl,cf,t]
end
end Gx
