/- A part of the proof: what it holds is said by each theorem. -/
import Derived.Laws.BitsLemmas
import Derived.Test.YtjmfofdghmlldaaGreatDoorP1F
set_option linter.unusedVariables false
set_option linter.defProp false
set_option linter.unusedSimpArgs false
namespace Gx
open Go Go.Proofs
open IntKind (wrap)
set_option maxRecDepth 100000
noncomputable section
variable {R:Type} (N:Nat)
def Cr (N:Nat) (r0:Int→O R) (b c:Int):O R :=
 (cond (decide (b≥256)) (cond (Am (wrap .u8 (Int.fdiv b (2 ^ 8))) 256) (r0 (wrap .i64 ((wrap .i64 (c+8))+(wrap .i64 ((UInt8.toNat (List.getD ([0,1,2,2,3,3,3,3,4,4,4,4,4,4,4,4,5,5,5,5,5,5,5,5,5,5,5,5,5,5,5,5,6,6,6,6,6,6,6,6,6,6,6,6,6,6,6,6,6,6,6,6,6,6,6,6,6,6,6,6,6,6,6,6,7,7,7,7,7,7,7,7,7,7,7,7,7,7,7,7,7,7,7,7,7,7,7,7,7,7,7,7,7,7,7,7,7,7,7,7,7,7,7,7,7,7,7,7,7,7,7,7,7,7,7,7,7,7,7,7,7,7,7,7,7,7,7,7,8,8,8,8,8,8,8,8,8,8,8,8,8,8,8,8,8,8,8,8,8,8,8,8,8,8,8,8,8,8,8,8,8,8,8,8,8,8,8,8,8,8,8,8,8,8,8,8,8,8,8,8,8,8,8,8,8,8,8,8,8,8,8,8,8,8,8,8,8,8,8,8,8,8,8,8,8,8,8,8,8,8,8,8,8,8,8,8,8,8,8,8,8,8,8,8,8,8,8,8,8,8,8,8,8,8,8,8,8,8,8,8,8,8,8,8,8,8,8,8,8,8,8,8,8,8,8,8]:List UInt8) ((wrap .u8 (Int.fdiv b (2 ^ 8))).toNat) 0):Nat):Int))))) none) (cond (Am (wrap .u8 b) 256) (r0 (wrap .i64 (c+(wrap .i64 ((UInt8.toNat (List.getD ([0,1,2,2,3,3,3,3,4,4,4,4,4,4,4,4,5,5,5,5,5,5,5,5,5,5,5,5,5,5,5,5,6,6,6,6,6,6,6,6,6,6,6,6,6,6,6,6,6,6,6,6,6,6,6,6,6,6,6,6,6,6,6,6,7,7,7,7,7,7,7,7,7,7,7,7,7,7,7,7,7,7,7,7,7,7,7,7,7,7,7,7,7,7,7,7,7,7,7,7,7,7,7,7,7,7,7,7,7,7,7,7,7,7,7,7,7,7,7,7,7,7,7,7,7,7,7,7,8,8,8,8,8,8,8,8,8,8,8,8,8,8,8,8,8,8,8,8,8,8,8,8,8,8,8,8,8,8,8,8,8,8,8,8,8,8,8,8,8,8,8,8,8,8,8,8,8,8,8,8,8,8,8,8,8,8,8,8,8,8,8,8,8,8,8,8,8,8,8,8,8,8,8,8,8,8,8,8,8,8,8,8,8,8,8,8,8,8,8,8,8,8,8,8,8,8,8,8,8,8,8,8,8,8,8,8,8,8,8,8,8,8,8,8,8,8,8,8,8,8,8,8,8,8,8,8]:List UInt8) ((wrap .u8 b).toNat) 0):Nat):Int))))) none))
def Hx (N:Nat) (r0:Int→O R) (q0:Int→Int→O R) (d:Int):O R :=
 (cond (decide (d≥65536)) (q0 (Int.fdiv d (2 ^ 16)) 16) (q0 d 0))
def Ej:=(Al (fun (N:Nat) (d:Int) (r0:Int→O R)=>(Hx N r0 (fun b c=>(Cr N r0 b c)) d))).1
theorem Mq (d r0):(@Ej R N d r0)=(Hx N r0 (fun b c=>(Cr N r0 b c)) d):=by rw[Ej,(Al _).2]
def Oh:Hints:={ H:=(hS hL (hJ [0,2] hL hL)) }
def FH (F:KF R):=Rh Tryz.f299 Oh [] [] N F
def Fv (F:KF R):Int→O R:=(fun e=>F (iv e) [])
def FI (b c:Int):St:=⟨[(0,(.int .u32 b)),(2,(iv c))],[]⟩
def FJ (F:KF R):=FH N F [1,1] []
theorem Wl (F:KF R):∀ (b c:Int),C7 (FJ N F) (FI b c)=(Cr N (Fv F) b c):=by
 intro b c
 kernel_rfl
theorem Oi (d:Int) (F:KF R):Dj [] Oh N 299 [(.int .u32 d)] [] F=(Ej N d (Fv F)):=by
 rw[Mq]
 exact Eq.trans (by kernel_rfl) (Ee (Hx N (Fv F) · d) (funext fun b=>funext fun c=>(A8 ..).trans (Wl N F b c)):_)
def Mr (a:LA) (h:Ai) (k:KF R):O R :=
 match a,h with
 | [(.int .u32 d)],[]=>(Ej N d (Fv k))
 | _,_=>none
theorem Oj:Ao N 299 @Mr:=by
 intro R Q a h k j;unfold Mr;split;exact Ay (Oi ..) (Oi ..) trivial;exact A0
def FK:=Az (Oj N)
def FL:=Dh (Oj N)
def Eg (b:Int) (r0:Int→O R):O R :=
 (Ej N b (fun c=>(r0 (wrap .i64 (32 - c)))))
def Bb:=(Al (@Eg R)).1
theorem F8:@Bb R=@Eg R:=(Al _).2
def Ok:Gn:=[(299,FK N)]
def Gs (F:KF R):Int→O R:=(fun d=>F (iv d) [])
theorem Gt (b:Int) (F:KF R):Dj (Ok N) H2 N 275 [(.int .u32 b)] [] F=(Bb N b (Gs F)):=by
 rw[F8]
 kernel_rfl
def F9 (a:LA) (h:Ai) (k:KF R):O R :=
 match a,h with
 | [(.int .u32 b)],[]=>(Bb N b (Gs k))
 | _,_=>none
theorem Gu:Ao N 275 @F9:=by
 intro R Q a h k j;unfold F9;split;exact Ay (Gt ..) (Gt ..) ⟨FL N,trivial⟩;exact A0
def Gv:=Az (Gu N)
def Gw:=Dh (Gu N)
def Q9 (N:Nat) (f:Int) (c:LA) (b:Nat) (d e:Bool) (r0:Int→O R):O R :=
 (cond (decide (f<((b:Nat):Int))) (cond (Am f b) (Bi .u32 (c.drop ((f.toNat)*1)) fun g=>(r0 (wrap .u64 g))) none) (r0 0))
def Fw:=(Al (@Q9 R)).1
theorem Se:@Fw R=@Q9 R:=(Al _).2
def Vp (c:LA) (b:Nat) (d e:Bool) (F:KF R):Int→O R:=(fun i=>F (.int .u64 i) [(100000,(bN 0 [(.imm c b 1 d e)]))])
theorem Vq (f:Int) (c:LA) (b:Nat) (d e:Bool) (F:KF R):Dj [] H2 N 314 [(iv f),(.optr 100000 0)] [(100000,(bN 0 [(.imm c b 1 d e)]))] F=(Fw N f c b d e (Vp c b d e F)):=by
 rw[Se]
 kernel_rfl
def Sf (a:LA) (h:Ai) (k:KF R):O R :=
 match a,h with
 | [(.int .i64 f),(.optr 100000 0)],[(100000,⟨false,false,false,false,0,[(.imm c b 1 d e)],false,none⟩)]=>(Fw N f c b d e (Vp c b d e k))
 | _,_=>none
theorem Vr:Ao N 314 @Sf:=by
 intro R Q a h k j;unfold Sf;split;exact Ay (Vq ..) (Vq ..) trivial;exact A0
def SV:=Az (Vr N)
def SW:=Dh (Vr N)
def FM (c:LA) (d:Nat) (e f:Bool) (g b:Int) (r0:Int→O R):O R :=
 (Fw N (wrap .i64 (g - 1)) c d e f (fun i=>(Fw N (wrap .i64 (g - 2)) c d e f (fun l=>(cond (decide (b<0)) none (Fw N (wrap .i64 (g - 3)) c d e f (fun m=>(cond (decide ((wrap .i64 (32 - b))<0)) none (r0 (I6 .u64 (wrap .u64 ((I6 .u64 (wrap .u64 (i*2 ^ 32)) l)*2 ^ (min (b.toNat) 64))) (Int.fdiv m (2 ^ (min ((wrap .i64 (32 - b)).toNat) 64)))))))))))))
def Nr:=(Al (@FM R)).1
theorem BR:@Nr R=@FM R:=(Al _).2
def j3:Gn:=[(314,SV N)]
def IC (F:KF R):Int→O R:=(fun n=>F (.int .u64 n) [])
theorem ID (c:LA) (d:Nat) (e f:Bool) (g b:Int) (F:KF R):Dj (j3 N) H2 N 298 [(.imm c d 1 e f),(iv g),(iv b)] [] F=(Nr N c d e f g b (IC F)):=by
 rw[BR]
 kernel_rfl
def BS (a:LA) (h:Ai) (k:KF R):O R :=
 match a,h with
 | [(.imm c d 1 e f),(.int .i64 g),(.int .i64 b)],[]=>(Nr N c d e f g b (IC k))
 | _,_=>none
theorem IE:Ao N 298 @BS:=by
 intro R Q a h k j;unfold BS;split;exact Ay (ID ..) (ID ..) ⟨SW N,trivial⟩;exact A0
def gU:=Az (IE N)
def gV:=Dh (IE N)
def Lw (N:Nat) (k0:Int→Int→Int→Int→Int→Int→Int→Int→Bool→O R) (r0:LA→O R) (q o r s t u:Int) (w:Bool):O R :=
 (cond (o==0) none (cond (o==0) none (k0 o (Int.tmod q o) r s (wrap .u64 (r+(wrap .u64 ((wrap .u64 (Int.tdiv q o))*s)))) t u (wrap .u64 (t+(wrap .u64 ((wrap .u64 (Int.tdiv q o))*u)))) (!w))))
def E8 (N:Nat) (r0:LA→O R) (k0:Int→Int→Int→Int→Int→Int→Int→Int→Bool→O R) (q1:Int→Int→Int→Int→Int→Int→Bool→O R) (g c i d m l b e:Int) (f:Bool):O R :=
 (cond ((decide (c≥e))==true) (cond (cond true (decide ((wrap .u64 (g - c))≥(wrap .u64 (b+e)))) false) (q1 g c d m b e f) (r0 [(.int .u64 i),(.int .u64 d),(.int .u64 l),(.int .u64 b),(.bool f)])) (r0 [(.int .u64 i),(.int .u64 d),(.int .u64 l),(.int .u64 b),(.bool f)]))
def Ch (r0:LA→O R):Nat→Int→Int→Int→Int→Int→Int→Int→Int→Bool→O R
 | 0,_,_,_,_,_,_,_,_,_=>none
 | n+1,g,c,i,d,m,l,b,e,f=>(E8 N r0 (Ch r0 n) (fun q o r s t u w=>(Lw N (Ch r0 n) r0 q o r s t u w)) g c i d m l b e f)
def Pw (r0:LA→O R) (q0:Int→Int→Int→Int→Int→Int→Int→Int→Bool→O R) (v:LA) (p:Nat) (ab x:Bool) (y:LA) (z:Nat) (ac aa:Bool):O R :=
 (cond (Am (wrap .i64 (((p:Nat):Int) - 1)) p) (Bi .u32 (v.drop (((wrap .i64 (((p:Nat):Int) - 1)).toNat)*1)) fun ae=>(Bb N ae (fun ad=>(Nr N v p false x ((p:Nat):Int) ad (fun af=>(Nr N y z false aa ((p:Nat):Int) ad (fun ag=>(q0 af ag 0 1 0 0 0 1 false)))))))) none)
def K7:=(Al (fun (N:Nat) (v:LA) (p:Nat) (ab x:Bool) (y:LA) (z:Nat) (ac aa:Bool) (r0:LA→O R)=>(Pw N r0 (fun g c i d m l b e f=>(Ch N r0 N g c i d m l b e f)) v p ab x y z ac aa))).1
theorem Xo (v p ab x y z ac aa r0):(@K7 R N v p ab x y z ac aa r0)=(Pw N r0 (fun g c i d m l b e f=>(Ch N r0 N g c i d m l b e f)) v p ab x y z ac aa):=by rw[K7,(Al _).2]
def BT:Hints:={ H:=(hS hL (hS hL (hS hL (hS hL (hS hL (hS hL (hS hL (hS (hS (hP [4,7,8,9,10,11,12,13,14,15] (hJ [4,7,8,10,11,13,14,15] hL hL)) hL) hL)))))))),modes:=[(3,0)] }
def IF:Gn:=[(275,Gv N),(298,gU N)]
def BU (F:KF R):=Rh Tryz.f273 BT (IF N) [] N F
def Eu (F:KF R):LA→O R:=(fun ah=>F (.pagg ah false) [])
def cI (q o r s t u:Int) (w:Bool):St:=⟨[(4,(op 0)),(7,(.int .u64 q)),(8,(.int .u64 o)),(10,(.int .u64 r)),(11,(.int .u64 s)),(13,(.int .u64 t)),(14,(.int .u64 u)),(15,(.bool w))],(hq [(bQ 0 [(.int .u64 0),(.int .u64 0),(.int .u64 0),(.int .u64 0),(.bool false)])])⟩
def cJ (F:KF R) (Q0:St→O R):=BU N F [1,1,1,1,1,1,1,0,0,0,1] [Q0]
def BV (g c i d m l b e:Int) (f:Bool):St:=⟨[(4,(op 0)),(7,(.int .u64 g)),(8,(.int .u64 c)),(9,(.int .u64 i)),(10,(.int .u64 d)),(11,(.int .u64 m)),(12,(.int .u64 l)),(13,(.int .u64 b)),(14,(.int .u64 e)),(15,(.bool f))],(hq [(bQ 0 [(.int .u64 0),(.int .u64 0),(.int .u64 0),(.int .u64 0),(.bool false)])])⟩
def BW (F:KF R):=BU N F [1,1,1,1,1,1,1,0,0] []
theorem MR (Q0:St→O R) (F:KF R):∀ (q o r s t u:Int) (w:Bool),C7 (cJ N F Q0) (cI q o r s t u w)=(Lw N (fun g c i d m l b e f=>Q0 (BV g c i d m l b e f)) (Eu F) q o r s t u w):=by
 intro q o r s t u w
 kernel_rfl
theorem Sg (F:KF R):∀ (n:Nat) (g c i d m l b e:Int) (f:Bool),Ax (BW N F) n (BV g c i d m l b e f)=(Ch N (Eu F) n g c i d m l b e f)
 | 0,_,_,_,_,_,_,_,_,_=>by kernel_rfl
 | n+1,g,c,i,d,m,l,b,e,f=>have e0:=(funext fun g=>funext fun c=>funext fun i=>funext fun d=>funext fun m=>funext fun l=>funext fun b=>funext fun e=>funext fun f=>(Sg F n g c i d m l b e f))
  Eq.trans (by kernel_rfl) (pt (E8 N (Eu F) · · g c i d m l b e f) e0 (funext fun q=>funext fun o=>funext fun r=>funext fun s=>funext fun t=>funext fun u=>funext fun w=>(A8 ..).trans ((MR N (Ax (BW N F) n) F q o r s t u w).trans (Ee (Lw N · (Eu F) q o r s t u w) e0))):_)
theorem BX (v:LA) (p:Nat) (ab x:Bool) (y:LA) (z:Nat) (ac aa:Bool) (F:KF R):Dj (IF N) BT N 273 [(.imm v p 1 ab x),(.imm y z 1 ac aa)] [] F=(K7 N v p ab x y z ac aa (Eu F)):=by
 rw[Xo]
 exact Eq.trans (by kernel_rfl) (Ee (Pw N (Eu F) · v p ab x y z ac aa) (funext fun g=>funext fun c=>funext fun i=>funext fun d=>funext fun m=>funext fun l=>funext fun b=>funext fun e=>funext fun f=>(Ar ..).trans (Sg N F N g c i d m l b e f)):_)
def Xp (a:LA) (h:Ai) (k:KF R):O R :=
 match a,h with
 | [(.imm v p 1 ab x),(.imm y z 1 ac aa)],[]=>(K7 N v p ab x y z ac aa (Eu k))
 | _,_=>none
theorem BY:Ao N 273 @Xp:=by
 intro R Q a h k j;unfold Xp;split;exact Ay (BX ..) (BX ..) ⟨Gw N,gV N,trivial⟩;exact A0
def cK:=Az (BY N)
def cL:=Dh (BY N)
def E3 (r0:Nat→Nat→LA→LA→O R) (d:LA) (b:Nat) (e f:Bool) (c:Int) (k0:Int→Int→LA→O R) (l g:Int) (i:LA):O R :=
 (cond (decide (g≥0)) (cond (Am g b) (Bi .u32 (d.drop ((g.toNat)*1)) fun m=>(cond ((wrap .u64 c)==0) none (cond (Am g b) (cond ((Nat.beq 1 1)&&((Nat.ble ((0+((g.toNat)*1))+1) (i.length))&&(!false))) (cond ((wrap .u64 c)==0) none (k0 (Int.tmod (I6 .u64 (wrap .u64 (l*2 ^ 32)) (wrap .u64 m)) (wrap .u64 c)) (wrap .i64 (g - 1)) (i.set (0+((g.toNat)*1)) (.int .u32 (wrap .u32 (wrap .u64 (Int.tdiv (I6 .u64 (wrap .u64 (l*2 ^ 32)) (wrap .u64 m)) (wrap .u64 c)))))))) none) none))) none) (K1 N b i (fun o=>(A7 N l (fun p q=>(r0 o p i q))))))
def Ca (r0:Nat→Nat→LA→LA→O R) (d:LA) (b:Nat) (e f:Bool) (c:Int):Nat→Int→Int→LA→O R
 | 0,_,_,_=>none
 | n+1,l,g,i=>(E3 N r0 d b e f c (Ca r0 d b e f c n) l g i)
def Hy (N:Nat) (r0:Nat→Nat→LA→LA→O R) (q0:Int→Int→LA→O R) (d:LA) (b:Nat) (e f:Bool) (c:Int):O R :=
 (cond ((decide (0≤((b:Nat):Int)))&&((decide (((b:Nat):Int)≤((b:Nat):Int)))&&((decide (((b:Nat):Int)≤140737488355328))&&(decide ((((b:Nat):Int)*((4:Nat):Int))≤140737488355328))))) (q0 0 (wrap .i64 (((b:Nat):Int) - 1)) (List.replicate b (.int .u32 0))) none)
def C9:=(Al (fun (N:Nat) (d:LA) (b:Nat) (e f:Bool) (c:Int) (r0:Nat→Nat→LA→LA→O R)=>(Hy N r0 (fun l g i=>(Ca N r0 d b e f c N l g i)) d b e f c))).1
theorem Ms (d b e f c r0):(@C9 R N d b e f c r0)=(Hy N r0 (fun l g i=>(Ca N r0 d b e f c N l g i)) d b e f c):=by rw[C9,(Al _).2]
def Ol:Hints:={ H:=(hS hL (hS hL (hS hL (hS (hS hL (hS (hP [0,1,4,6,7] hL) hL)) hL)))),nils:=[(4,1),(5,1)],modes:=[(2,1),(2,1)] }
def Px:Gn:=[(214,MF N),(133,Ds N)]
def FN (F:KF R):=Rh Tryz.f216 Ol (Px N) [] N F
def D1 (F:KF R):Nat→Nat→LA→LA→O R:=(fun r s t u=>F (.tup [(.own 300000 0 r),(.own 300001 0 s)]) (hq [(bQ 1 t),(bQ 1 u)]))
def FO (d:LA) (b:Nat) (e f:Bool) (c l g:Int) (i:LA):St:=⟨[(0,(.imm d b 1 e f)),(1,(.int .u32 c)),(4,(.own 300000 0 b)),(6,(.int .u64 l)),(7,(iv g))],(hq [(bQ 1 i)])⟩
def FP (F:KF R):=FN N F [1,1,1,0,1,0] []
theorem Kk (F:KF R) (d:LA) (b:Nat) (e f:Bool) (c:Int):∀ (n:Nat) (l g:Int) (i:LA),Ax (FP N F) n (FO d b e f c l g i)=(Ca N (D1 F) d b e f c n l g i)
 | 0,_,_,_=>by kernel_rfl
 | n+1,l,g,i=>Eq.trans (by kernel_rfl) (Ee (E3 N (D1 F) d b e f c · l g i) (funext fun l=>funext fun g=>funext fun i=>(Kk F d b e f c n l g i)):_)
theorem Om (d:LA) (b:Nat) (e f:Bool) (c:Int) (F:KF R):Dj (Px N) Ol N 216 [(.imm d b 1 e f),(.int .u32 c)] [] F=(C9 N d b e f c (D1 F)):=by
 rw[Ms]
 exact Eq.trans (by kernel_rfl) (Ee (Hy N (D1 F) · d b e f c) (funext fun l=>funext fun g=>funext fun i=>(Ar ..).trans (Kk N F d b e f c N l g i)):_)
def Mt (a:LA) (h:Ai) (k:KF R):O R :=
 match a,h with
 | [(.imm d b 1 e f),(.int .u32 c)],[]=>(C9 N d b e f c (D1 k))
 | _,_=>none
theorem On:Ao N 216 @Mt:=by
 intro R Q a h k j;unfold Mt;split;exact Ay (Om ..) (Om ..) ⟨MG N,Dt N,trivial⟩;exact A0
def FQ:=Az (On N)
def FR:=Dh (On N)
def J3 (N:Nat) (r0:Nat→LA→O R) (d:LA) (b:Nat) (e f:Bool) (c:Int) (k0:Nat→Int→Int→Int→LA→O R) (i:Nat) (m o g:Int) (l:LA):O R :=
 (cond (decide (g<o)) (cond (Am g b) (Bi .u32 (d.drop ((g.toNat)*1)) fun p=>(cond (decide (c<0)) none (cond (Am g i) (cond ((Nat.beq 1 1)&&((Nat.ble ((0+((g.toNat)*1))+1) (l.length))&&(!false))) (k0 i (Int.fdiv (I6 .u64 m (wrap .u64 ((wrap .u64 p)*2 ^ (min (c.toNat) 64)))) (2 ^ 32)) o (wrap .i64 (g+1)) (l.set (0+((g.toNat)*1)) (.int .u32 (wrap .u32 (I6 .u64 m (wrap .u64 ((wrap .u64 p)*2 ^ (min (c.toNat) 64)))))))) none) none))) none) (cond (Am ((b:Nat):Int) i) (cond ((Nat.beq 1 1)&&((Nat.ble ((0+(b*1))+1) (l.length))&&(!false))) (r0 i (l.set (0+(b*1)) (.int .u32 (wrap .u32 m)))) none) none))
def Ev (r0:Nat→LA→O R) (d:LA) (b:Nat) (e f:Bool) (c:Int):Nat→Nat→Int→Int→Int→LA→O R
 | 0,_,_,_,_,_=>none
 | n+1,i,m,o,g,l=>(J3 N r0 d b e f c (Ev r0 d b e f c n) i m o g l)
def Py (N:Nat) (r0:Nat→LA→O R) (q0:Nat→Int→Int→Int→LA→O R) (d:LA) (b:Nat) (e f:Bool) (c:Int):O R :=
 (cond ((decide (0≤(wrap .i64 (((b:Nat):Int)+1))))&&((decide ((wrap .i64 (((b:Nat):Int)+1))≤(wrap .i64 (((b:Nat):Int)+1))))&&((decide ((wrap .i64 (((b:Nat):Int)+1))≤140737488355328))&&(decide (((wrap .i64 (((b:Nat):Int)+1))*((4:Nat):Int))≤140737488355328))))) (q0 ((wrap .i64 (((b:Nat):Int)+1)).toNat) 0 ((b:Nat):Int) 0 (List.replicate ((wrap .i64 (((b:Nat):Int)+1)).toNat) (.int .u32 0))) none)
def It:=(Al (fun (N:Nat) (d:LA) (b:Nat) (e f:Bool) (c:Int) (r0:Nat→LA→O R)=>(Py N r0 (fun i m o g l=>(Ev N r0 d b e f c N i m o g l)) d b e f c))).1
theorem Xq (d b e f c r0):(@It R N d b e f c r0)=(Py N r0 (fun i m o g l=>(Ev N r0 d b e f c N i m o g l)) d b e f c):=by rw[It,(Al _).2]
def BZ:Hints:={ H:=(hS hL (hS hL (hS hL (hS (hS hL (hS (hP [0,1,5,6,13,14,15] hL) hL)) hL)))),nils:=[(4,1)],modes:=[(2,1)] }
def cM (F:KF R):=Rh Tryz.f276 BZ [] [] N F
def Ib (F:KF R):Nat→LA→O R:=(fun q r=>F (.own 300000 0 q) (hq [(bQ 1 r)]))
def cN (d:LA) (b:Nat) (e f:Bool) (c:Int) (i:Nat) (m o g:Int) (l:LA):St:=⟨[(0,(.imm d b 1 e f)),(1,(iv c)),(5,(.own 300000 0 i)),(6,(.int .u64 m)),(13,(.imm d b 1 e f)),(14,(iv o)),(15,(iv g))],(hq [(bQ 1 l)])⟩
def cO (F:KF R):=cM N F [1,1,1,0,1,0] []
theorem Sh (F:KF R) (d:LA) (b:Nat) (e f:Bool) (c:Int):∀ (n i:Nat) (m o g:Int) (l:LA),Ax (cO N F) n (cN d b e f c i m o g l)=(Ev N (Ib F) d b e f c n i m o g l)
 | 0,_,_,_,_,_=>by kernel_rfl
 | n+1,i,m,o,g,l=>Eq.trans (by kernel_rfl) (Ee (J3 N (Ib F) d b e f c · i m o g l) (funext fun i=>funext fun m=>funext fun o=>funext fun g=>funext fun l=>(Sh F d b e f c n i m o g l)):_)
theorem B_ (d:LA) (b:Nat) (e f:Bool) (c:Int) (F:KF R):Dj [] BZ N 276 [(.imm d b 1 e f),(iv c)] [] F=(It N d b e f c (Ib F)):=by
 rw[Xq]
 exact Eq.trans (by kernel_rfl) (Ee (Py N (Ib F) · d b e f c) (funext fun i=>funext fun m=>funext fun o=>funext fun g=>funext fun l=>(Ar ..).trans (Sh N F d b e f c N i m o g l)):_)
def Xr (a:LA) (h:Ai) (k:KF R):O R :=
 match a,h with
 | [(.imm d b 1 e f),(.int .i64 c)],[]=>(It N d b e f c (Ib k))
 | _,_=>none
theorem B':Ao N 276 @Xr:=by
 intro R Q a h k j;unfold Xr;split;exact Ay (B_ ..) (B_ ..) trivial;exact A0
def cP:=Az (B' N)
def cQ:=Dh (B' N)
def Hz (N:Nat) (r0:Int→LA→O R) (c d:Nat) (e m:Int) (f:LA) (b:Nat) (g i:Bool) (k4:Int→Int→Int→LA→O R) (v w q:Int) (t:LA):O R :=
 (cond (decide (q<w)) (cond (Am q b) (Bi .u32 (f.drop ((q.toNat)*1)) fun aa=>(cond (Am q d) (Bi .u32 (t.drop (c+((q.toNat)*1))) fun ab=>(cond (Am q d) (cond ((Nat.beq 1 1)&&((Nat.ble ((c+((q.toNat)*1))+1) (t.length))&&(!false))) (k4 (Int.fdiv (wrap .u64 (v+(wrap .u64 ((wrap .u64 ab)+(wrap .u64 aa))))) (2 ^ 32)) w (wrap .i64 (q+1)) (t.set (c+((q.toNat)*1)) (.int .u32 (wrap .u32 (wrap .u64 (v+(wrap .u64 ((wrap .u64 ab)+(wrap .u64 aa))))))))) none) none)) none)) none) (cond (Am e d) (Bi .u32 (t.drop (c+((e.toNat)*1))) fun ai=>(cond (Am e d) (cond ((Nat.beq 1 1)&&((Nat.ble ((c+((e.toNat)*1))+1) (t.length))&&(!false))) (r0 (wrap .u32 (wrap .u64 (m - 1))) (t.set (c+((e.toNat)*1)) (.int .u32 (wrap .u32 (ai+(wrap .u32 v)))))) none) none)) none))
def Ek (r0:Int→LA→O R) (c d:Nat) (e m:Int) (f:LA) (b:Nat) (g i:Bool):Nat→Int→Int→Int→LA→O R
 | 0,_,_,_,_=>none
 | n+1,v,w,q,t=>(Hz N r0 c d e m f b g i (Ek r0 c d e m f b g i n) v w q t)
def E9 (N:Nat) (r0:Int→LA→O R) (c d:Nat) (f:LA) (b:Nat) (g i:Bool) (e m:Int) (k3:Int→Int→Int→LA→O R) (q4:Int→Int→Int→LA→O R) (u x r:Int) (s:LA):O R :=
 (cond (decide (r<x)) (cond (Am r b) (Bi .u32 (f.drop ((r.toNat)*1)) fun y=>(cond (Am r d) (Bi .u32 (s.drop (c+((r.toNat)*1))) fun ac=>(cond (Am r d) (cond ((Nat.beq 1 1)&&((Nat.ble ((c+((r.toNat)*1))+1) (s.length))&&(!false))) (k3 (wrap .u64 ((Int.fdiv (wrap .u64 ((wrap .u64 (m*(wrap .u64 y)))+u)) (2 ^ 32))+(Int.fdiv (wrap .u64 ((wrap .u64 ac) - (wrap .u64 (wrap .u32 (wrap .u64 ((wrap .u64 (m*(wrap .u64 y)))+u)))))) (2 ^ 63)))) x (wrap .i64 (r+1)) (s.set (c+((r.toNat)*1)) (.int .u32 (wrap .u32 (wrap .u64 ((wrap .u64 ac) - (wrap .u64 (wrap .u32 (wrap .u64 ((wrap .u64 (m*(wrap .u64 y)))+u)))))))))) none) none)) none)) none) (cond (Am e d) (Bi .u32 (s.drop (c+((e.toNat)*1))) fun z=>(cond (Am e d) (cond ((Nat.beq 1 1)&&((Nat.ble ((c+((e.toNat)*1))+1) (s.length))&&(!false))) (cond ((Int.fdiv (wrap .u64 ((wrap .u64 z) - u)) (2 ^ 63))==0) (r0 (wrap .u32 m) (s.set (c+((e.toNat)*1)) (.int .u32 (wrap .u32 (wrap .u64 ((wrap .u64 z) - u)))))) (q4 0 ((b:Nat):Int) 0 (s.set (c+((e.toNat)*1)) (.int .u32 (wrap .u32 (wrap .u64 ((wrap .u64 z) - u))))))) none) none)) none))
def Da (r0:Int→LA→O R) (c d:Nat) (f:LA) (b:Nat) (g i:Bool) (e m:Int):Nat→Int→Int→Int→LA→O R
 | 0,_,_,_,_=>none
 | n+1,u,x,r,s=>(E9 N r0 c d f b g i e m (Da r0 c d f b g i e m n) (fun v w q t=>(Ek N r0 c d e m f b g i N v w q t)) u x r s)
def K8 (N:Nat) (r0:Int→LA→O R) (c d:Nat) (f:LA) (b:Nat) (g i:Bool) (e:Int) (l:LA) (q3:Int→Int→Int→LA→O R) (m:Int):O R :=
 (q3 0 ((b:Nat):Int) 0 l)
def Cm (r0:Int→LA→O R) (c d:Nat) (f:LA) (b:Nat) (g i:Bool) (e:Int) (l:LA) (m:Int):O R:=(K8 N r0 c d f b g i e l (fun u x r s=>(Da N r0 c d f b g i e m N u x r s)) m)
def K9 (N:Nat) (k0:Int→Int→Int→O R) (r0:Int→LA→O R) (c d:Nat) (f:LA) (b:Nat) (g i:Bool) (e o p:Int) (l:LA) (q2:Int→O R):O R :=
 (cond (Am (wrap .i64 (e - 1)) b) (Bi .u32 (f.drop (((wrap .i64 (e - 1)).toNat)*1)) fun ad=>(cond ((Int.fdiv (wrap .u64 (p+(wrap .u64 ad))) (2 ^ 32)) != 0) (q2 (wrap .u64 (o - 1))) (k0 e (wrap .u64 (o - 1)) (wrap .u64 (p+(wrap .u64 ad)))))) none)
def Ga (k0:Int→Int→Int→O R) (r0:Int→LA→O R) (c d:Nat) (f:LA) (b:Nat) (g i:Bool) (e o p:Int) (l:LA):O R:=(K9 N k0 r0 c d f b g i e o p l (fun m=>(Cm N r0 c d f b g i e l m)))
def La (N:Nat) (r0:Int→LA→O R) (c d:Nat) (f:LA) (b:Nat) (g i:Bool) (l:LA) (k0:Int→Int→Int→O R) (q1:O R) (q2:Int→O R) (e o p:Int):O R :=
 (cond (((Int.fdiv o (2 ^ 32)) != 0)==false) (cond (Am (wrap .i64 (e - 2)) b) (Bi .u32 (f.drop (((wrap .i64 (e - 2)).toNat)*1)) fun aj=>(cond (Am (wrap .i64 (e - 2)) d) (Bi .u32 (l.drop (c+(((wrap .i64 (e - 2)).toNat)*1))) fun ak=>(cond (cond false true (decide ((wrap .u64 (o*(wrap .u64 aj)))>(I6 .u64 (wrap .u64 (p*2 ^ 32)) (wrap .u64 ak))))) q1 (q2 o))) none)) none) q1)
def Cn (r0:Int→LA→O R) (c d:Nat) (f:LA) (b:Nat) (g i:Bool) (l:LA):Nat→Int→Int→Int→O R
 | 0,_,_,_=>none
 | n+1,e,o,p=>(La N r0 c d f b g i l (Cn r0 c d f b g i l n) (Ga N (Cn r0 c d f b g i l n) r0 c d f b g i e o p l) (fun m=>(Cm N r0 c d f b g i e l m)) e o p)
def Lx (N:Nat) (r0:Int→LA→O R) (q0:Int→Int→Int→O R) (c d:Nat) (f:LA) (b:Nat) (g i:Bool) (l:LA):O R :=
 (cond (Am ((b:Nat):Int) d) (Bi .u32 (l.drop (c+(b*1))) fun ae=>(cond (Am (wrap .i64 (((b:Nat):Int) - 1)) d) (Bi .u32 (l.drop (c+(((wrap .i64 (((b:Nat):Int) - 1)).toNat)*1))) fun af=>(cond (Am (wrap .i64 (((b:Nat):Int) - 1)) b) (Bi .u32 (f.drop (((wrap .i64 (((b:Nat):Int) - 1)).toNat)*1)) fun ag=>(cond ((wrap .u64 ag)==0) none (cond (Am (wrap .i64 (((b:Nat):Int) - 1)) b) (Bi .u32 (f.drop (((wrap .i64 (((b:Nat):Int) - 1)).toNat)*1)) fun ah=>(cond ((wrap .u64 ah)==0) none (q0 ((b:Nat):Int) (wrap .u64 (Int.tdiv (I6 .u64 (wrap .u64 ((wrap .u64 ae)*2 ^ 32)) (wrap .u64 af)) (wrap .u64 ag))) (Int.tmod (I6 .u64 (wrap .u64 ((wrap .u64 ae)*2 ^ 32)) (wrap .u64 af)) (wrap .u64 ah))))) none))) none)) none)) none)
def Fx:=(Al (fun (N:Nat) (c d:Nat) (f:LA) (b:Nat) (g i:Bool) (l:LA) (r0:Int→LA→O R)=>(Lx N r0 (fun e o p=>(Cn N r0 c d f b g i l N e o p)) c d f b g i l))).1
theorem Si (c d f b g i l r0):(@Fx R N c d f b g i l r0)=(Lx N r0 (fun e o p=>(Cn N r0 c d f b g i l N e o p)) c d f b g i l):=by rw[Fx,(Al _).2]
def Vs:Hints:={ H:=(hS hL (hS hL (hS hL (hS hL (hJ [0,1,5,7] (hS (hP [0,1,5,7,8] (hJ [0,1,5,7,8] hL hL)) hL) (hS hL (hS (hS hL (hS (hP [0,1,5,7,9,84,85,86] hL) hL)) (hS hL (hS hL (hS hL (hS hL (hS (hS hL (hS (hP [0,5,7,9,134,135,136] hL) hL)) hL)))))))))))) }
def Gb (F:KF R):=Rh Tryz.f277 Vs [] [100000] N F
def A4 (F:KF R):Int→LA→O R:=(fun al am=>F (.int .u32 al) [(100000,(bQ 1 am))])
def SX (c d:Nat) (e m:Int) (f:LA) (b:Nat) (g i:Bool) (v w q:Int) (t:LA):St:=⟨[(0,(.own 100000 c d)),(5,(iv e)),(7,(.int .u64 m)),(9,(.int .u64 v)),(134,(.imm f b 1 g i)),(135,(iv w)),(136,(iv q))],[(100000,(bQ 1 t))]⟩
def SY (F:KF R):=Gb N F [1,1,1,1,1,1,1,1,1,1,1,0,1,0] []
def SZ (c d:Nat) (f:LA) (b:Nat) (g i:Bool) (e m u x r:Int) (s:LA):St:=⟨[(0,(.own 100000 c d)),(1,(.imm f b 1 g i)),(5,(iv e)),(7,(.int .u64 m)),(9,(.int .u64 u)),(84,(.imm f b 1 g i)),(85,(iv x)),(86,(iv r))],[(100000,(bQ 1 s))]⟩
def S_ (F:KF R):=Gb N F [1,1,1,1,1,1,0,1,0] []
def TA (c d:Nat) (f:LA) (b:Nat) (g i:Bool) (e:Int) (l:LA) (m:Int):St:=⟨[(0,(.own 100000 c d)),(1,(.imm f b 1 g i)),(5,(iv e)),(7,(.int .u64 m))],[(100000,(bQ 1 l))]⟩
def TB (F:KF R):=Gb N F [1,1,1,1,1] []
def TC (c d:Nat) (f:LA) (b:Nat) (g i:Bool) (e o p:Int) (l:LA):St:=⟨[(0,(.own 100000 c d)),(1,(.imm f b 1 g i)),(5,(iv e)),(7,(.int .u64 o)),(8,(.int .u64 p))],[(100000,(bQ 1 l))]⟩
def TD (F:KF R) (Q0:St→O R):=Gb N F [1,1,1,1,0,0,0,1] [Q0]
def Ml (c d:Nat) (f:LA) (b:Nat) (g i:Bool) (l:LA) (e o p:Int):St:=⟨[(0,(.own 100000 c d)),(1,(.imm f b 1 g i)),(5,(iv e)),(7,(.int .u64 o)),(8,(.int .u64 p))],[(100000,(bQ 1 l))]⟩
def Vt (F:KF R):=Gb N F [1,1,1,1,0,0] []
theorem Oo (F:KF R) (c d:Nat) (e m:Int) (f:LA) (b:Nat) (g i:Bool):∀ (n:Nat) (v w q:Int) (t:LA),Ax (SY N F) n (SX c d e m f b g i v w q t)=(Ek N (A4 F) c d e m f b g i n v w q t)
 | 0,_,_,_,_=>by kernel_rfl
 | n+1,v,w,q,t=>Eq.trans (by kernel_rfl) (Ee (Hz N (A4 F) c d e m f b g i · v w q t) (funext fun v=>funext fun w=>funext fun q=>funext fun t=>(Oo F c d e m f b g i n v w q t)):_)
theorem Oq (F:KF R) (c d:Nat) (f:LA) (b:Nat) (g i:Bool) (e m:Int):∀ (n:Nat) (u x r:Int) (s:LA),Ax (S_ N F) n (SZ c d f b g i e m u x r s)=(Da N (A4 F) c d f b g i e m n u x r s)
 | 0,_,_,_,_=>by kernel_rfl
 | n+1,u,x,r,s=>Eq.trans (by kernel_rfl) (pt (E9 N (A4 F) c d f b g i e m · · u x r s) (funext fun u=>funext fun x=>funext fun r=>funext fun s=>(Oq F c d f b g i e m n u x r s)) (funext fun v=>funext fun w=>funext fun q=>funext fun t=>(Ar ..).trans (Oo N F c d e m f b g i N v w q t)):_)
theorem Ot (F:KF R) (c d:Nat) (f:LA) (b:Nat) (g i:Bool) (e:Int) (l:LA):∀ (m:Int),C7 (TB N F) (TA c d f b g i e l m)=(Cm N (A4 F) c d f b g i e l m):=by
 intro m
 exact Eq.trans (by kernel_rfl) (Ee (K8 N (A4 F) c d f b g i e l · m) (funext fun u=>funext fun x=>funext fun r=>funext fun s=>(Ar ..).trans (Oq N F c d f b g i e m N u x r s)):_)
theorem FS (Q0:St→O R) (F:KF R) (c d:Nat) (f:LA) (b:Nat) (g i:Bool) (e o p:Int) (l:LA):C7 (TD N F Q0) (TC c d f b g i e o p l)=(Ga N (fun e o p=>Q0 (Ml c d f b g i l e o p)) (A4 F) c d f b g i e o p l):=by
 exact Eq.trans (by kernel_rfl) (Ee (K9 N (fun e o p=>Q0 (Ml c d f b g i l e o p)) (A4 F) c d f b g i e o p l ·) (funext fun m=>(A8 ..).trans (Ot N F c d f b g i e l m)):_)
theorem Ou (F:KF R) (c d:Nat) (f:LA) (b:Nat) (g i:Bool) (l:LA):∀ (n:Nat) (e o p:Int),Ax (Vt N F) n (Ml c d f b g i l e o p)=(Cn N (A4 F) c d f b g i l n e o p)
 | 0,_,_,_=>by kernel_rfl
 | n+1,e,o,p=>have e0:=(funext fun e=>funext fun o=>funext fun p=>(Ou F c d f b g i l n e o p))
  Eq.trans (by kernel_rfl) (uV (La N (A4 F) c d f b g i l · · · e o p) e0 ((A8 ..).trans ((FS N (Ax (Vt N F) n) F c d f b g i e o p l).trans (Ee (Ga N · (A4 F) c d f b g i e o p l) e0))) (funext fun m=>(A8 ..).trans (Ot N F c d f b g i e l m)):_)
theorem Vu (c d:Nat) (f:LA) (b:Nat) (g i:Bool) (l:LA) (F:KF R):Dj [] Vs N 277 [(.own 100000 c d),(.imm f b 1 g i)] [(100000,(bQ 1 l))] F=(Fx N c d f b g i l (A4 F)):=by
 rw[Si]
 exact Eq.trans (by kernel_rfl) (Ee (Lx N (A4 F) · c d f b g i l) (funext fun e=>funext fun o=>funext fun p=>(Ar ..).trans (Ou N F c d f b g i l N e o p)):_)
def Sj (a:LA) (h:Ai) (k:KF R):O R :=
 match a,h with
 | [(.own 100000 c d),(.imm f b 1 g i)],[(100000,⟨false,false,true,false,1,l,false,none⟩)]=>(Fx N c d f b g i l (A4 k))
 | _,_=>none
theorem Vv:Ao N 277 @Sj:=by
 intro R Q a h k j;unfold Sj;split;exact Ay (Vu ..) (Vu ..) trivial;exact A0
def TE:=Az (Vv N)
def TF:=Dh (Vv N)
def Em (r0:Nat→Bool→LA→O R) (d:Bool) (k0:LA→Nat→Int→Nat→LA→Nat→Int→Int→LA→O R) (l:LA) (i:Nat) (e:Int) (g:Nat) (m:LA) (o:Nat) (p b:Int) (f:LA):O R :=
 (cond (decide (b<p)) (cond (Am b o) (Bi .u32 (m.drop ((b.toNat)*1)) fun u=>(cond (decide ((wrap .i64 (b+1))<((i:Nat):Int))) (cond (Am (wrap .i64 (b+1)) i) (Bi .u32 (l.drop (((wrap .i64 (b+1)).toNat)*1)) fun w=>(cond (decide (e<0)) none (cond (Am b g) (cond ((Nat.beq 1 1)&&((Nat.ble ((0+((b.toNat)*1))+1) (f.length))&&(!false))) (k0 l i e g m o p (wrap .i64 (b+1)) (f.set (0+((b.toNat)*1)) (.int .u32 (wrap .u32 (Int.fdiv (I6 .u64 (wrap .u64 u) (wrap .u64 ((wrap .u64 w)*2 ^ 32))) (2 ^ (min (e.toNat) 64))))))) none) none))) none) (cond (decide (e<0)) none (cond (Am b g) (cond ((Nat.beq 1 1)&&((Nat.ble ((0+((b.toNat)*1))+1) (f.length))&&(!false))) (k0 l i e g m o p (wrap .i64 (b+1)) (f.set (0+((b.toNat)*1)) (.int .u32 (wrap .u32 (Int.fdiv (wrap .u64 u) (2 ^ (min (e.toNat) 64))))))) none) none)))) none) (K1 N g f (fun x=>(r0 x true f))))
def Bw (r0:Nat→Bool→LA→O R) (d:Bool):Nat→LA→Nat→Int→Nat→LA→Nat→Int→Int→LA→O R
 | 0,_,_,_,_,_,_,_,_,_=>none
 | n+1,l,i,e,g,m,o,p,b,f=>(Em N r0 d (Bw r0 d n) l i e g m o p b f)
def Hb (r0:Nat→Bool→LA→O R) (q0:LA→Nat→Int→Nat→LA→Nat→Int→Int→LA→O R) (r:LA) (s:Nat) (t d:Bool) (c:Int):O R :=
 (cond (decide (c<0)) (r0 0 false []) (Be N r s t d (fun v q=>(cond (decide ((wrap .i64 (Int.tdiv c 32))≥((q:Nat):Int))) (r0 0 true []) (cond ((decide (0≤(wrap .i64 (Int.tdiv c 32))))&&((decide ((wrap .i64 (Int.tdiv c 32))≤((q:Nat):Int)))&&((decide (((q:Nat):Int)≤((q:Nat):Int)))&&(decide (((q:Nat):Int)≤((q:Nat):Int)))))) (cond ((decide (0≤(((q - ((wrap .i64 (Int.tdiv c 32)).toNat)):Nat):Int)))&&((decide ((((q - ((wrap .i64 (Int.tdiv c 32)).toNat)):Nat):Int)≤(((q - ((wrap .i64 (Int.tdiv c 32)).toNat)):Nat):Int)))&&((decide ((((q - ((wrap .i64 (Int.tdiv c 32)).toNat)):Nat):Int)≤140737488355328))&&(decide (((((q - ((wrap .i64 (Int.tdiv c 32)).toNat)):Nat):Int)*((4:Nat):Int))≤140737488355328))))) (q0 ((v.drop (((wrap .i64 (Int.tdiv c 32)).toNat)*1)).take ((q - ((wrap .i64 (Int.tdiv c 32)).toNat))*1)) (q - ((wrap .i64 (Int.tdiv c 32)).toNat)) (Int.tmod c 32) (q - ((wrap .i64 (Int.tdiv c 32)).toNat)) ((v.drop (((wrap .i64 (Int.tdiv c 32)).toNat)*1)).take ((q - ((wrap .i64 (Int.tdiv c 32)).toNat))*1)) (q - ((wrap .i64 (Int.tdiv c 32)).toNat)) (((q - ((wrap .i64 (Int.tdiv c 32)).toNat)):Nat):Int) 0 (List.replicate (q - ((wrap .i64 (Int.tdiv c 32)).toNat)) (.int .u32 0))) none) none)))))
def Gj:=(Al (fun (N:Nat) (r:LA) (s:Nat) (t d:Bool) (c:Int) (r0:Nat→Bool→LA→O R)=>(Hb N r0 (fun l i e g m o p b f=>(Bw N r0 d N l i e g m o p b f)) r s t d c))).1
theorem J4 (r s t d c r0):(@Gj R N r s t d c r0)=(Hb N r0 (fun l i e g m o p b f=>(Bw N r0 d N l i e g m o p b f)) r s t d c):=by rw[Gj,(Al _).2]
def Sk:Hints:={ H:=(hS hL (hS hL (hS hL (hS hL (hS hL (hS hL (hS hL (hS (hS hL (hS (hP [0,6,7,29,30,31] hL) hL)) hL)))))))),nils:=[(4,1)],modes:=[(2,1),(0,0)] }
def Vw:Gn:=[(214,C5 N)]
def MS (F:KF R):=Rh Tryz.f278 Sk (Vw N) [] N F
def Fa (F:KF R):Nat→Bool→LA→O R:=(fun y z aa=>F (.tup [(.own 300000 0 y),(.bool z)]) (hq [(bQ 1 aa)]))
def MT (d:Bool) (l:LA) (i:Nat) (e:Int) (g:Nat) (m:LA) (o:Nat) (p b:Int) (f:LA):St:=⟨[(0,(.imm l i 1 false d)),(6,(iv e)),(7,(.own 300000 0 g)),(29,(.imm m o 1 false d)),(30,(iv p)),(31,(iv b))],(hq [(bQ 1 f)])⟩
def MU (F:KF R):=MS N F [1,1,1,1,1,1,1,0,1,0] []
theorem Mu (F:KF R) (d:Bool):∀ (n:Nat) (l:LA) (i:Nat) (e:Int) (g:Nat) (m:LA) (o:Nat) (p b:Int) (f:LA),Ax (MU N F) n (MT d l i e g m o p b f)=(Bw N (Fa F) d n l i e g m o p b f)
 | 0,_,_,_,_,_,_,_,_,_=>by kernel_rfl
 | n+1,l,i,e,g,m,o,p,b,f=>Eq.trans (by kernel_rfl) (Ee (Em N (Fa F) d · l i e g m o p b f) (funext fun l=>funext fun i=>funext fun e=>funext fun g=>funext fun m=>funext fun o=>funext fun p=>funext fun b=>funext fun f=>(Mu F d n l i e g m o p b f)):_)
theorem Sl (r:LA) (s:Nat) (t d:Bool) (c:Int) (F:KF R):Dj (Vw N) Sk N 278 [(.imm r s 1 t d),(iv c)] [] F=(Gj N r s t d c (Fa F)):=by
 rw[J4]
 exact Eq.trans (by kernel_rfl) (Ee (Hb N (Fa F) · r s t d c) (funext fun l=>funext fun i=>funext fun e=>funext fun g=>funext fun m=>funext fun o=>funext fun p=>funext fun b=>funext fun f=>(Ar ..).trans (Mu N F d N l i e g m o p b f)):_)
def Pz (a:LA) (h:Ai) (k:KF R):O R :=
 match a,h with
 | [(.imm r s 1 t d),(.int .i64 c)],[]=>(Gj N r s t d c (Fa k))
 | _,_=>none
theorem Sm:Ao N 278 @Pz:=by
 intro R Q a h k j;unfold Pz;split;exact Ay (Sl ..) (Sl ..) ⟨C6 N,trivial⟩;exact A0
def MV:=Az (Sm N)
def MW:=Dh (Sm N)
def Gy (r0:Nat→Nat→LA→LA→O R) (g:Int) (b c:Nat) (m:LA) (k0:Nat→Int→Int→Int→Int→LA→LA→O R) (l:Nat) (f e o d:Int) (i p:LA):O R :=
 (cond (decide (d<o)) (cond ((decide (0≤(wrap .i64 ((wrap .i64 (e - 1)) - d))))&&((decide ((wrap .i64 ((wrap .i64 (e - 1)) - d))≤(wrap .i64 ((wrap .i64 ((wrap .i64 ((wrap .i64 (e - 1)) - d))+f))+1))))&&((decide ((wrap .i64 ((wrap .i64 ((wrap .i64 ((wrap .i64 (e - 1)) - d))+f))+1))≤((c:Nat):Int)))&&(decide (((c:Nat):Int)≤((c:Nat):Int)))))) (Fx N (0+(((wrap .i64 ((wrap .i64 (e - 1)) - d)).toNat)*1)) (((wrap .i64 ((wrap .i64 ((wrap .i64 ((wrap .i64 (e - 1)) - d))+f))+1)).toNat) - ((wrap .i64 ((wrap .i64 (e - 1)) - d)).toNat)) (m.take (b*1)) b false true p (fun y z=>(cond (Am (wrap .i64 ((wrap .i64 (e - 1)) - d)) l) (cond ((Nat.beq 1 1)&&((Nat.ble ((0+(((wrap .i64 ((wrap .i64 (e - 1)) - d)).toNat)*1))+1) (i.length))&&(!false))) (k0 l f e o (wrap .i64 (d+1)) (i.set (0+(((wrap .i64 ((wrap .i64 (e - 1)) - d)).toNat)*1)) (.int .u32 y)) z) none) none))) none) (cond ((decide ((0:Int)≤(0:Int)))&&((decide (0≤f))&&((decide (f≤((c:Nat):Int)))&&(decide (((c:Nat):Int)≤((c:Nat):Int)))))) (Gj N (p.take ((f.toNat)*1)) (f.toNat) false true g (fun aa aj ab=>(K1 N l i (fun ac=>(r0 ac aa i ab))))) none))
def Cd (r0:Nat→Nat→LA→LA→O R) (g:Int) (b c:Nat) (m:LA):Nat→Nat→Int→Int→Int→Int→LA→LA→O R
 | 0,_,_,_,_,_,_,_=>none
 | n+1,l,f,e,o,d,i,p=>(Gy N r0 g b c m (Cd r0 g b c m n) l f e o d i p)
def J5 (r0:Nat→Nat→LA→LA→O R) (q0:Int→Nat→LA→Nat→Int→Int→Int→Int→LA→LA→O R) (r:LA) (s:Nat) (v t:Bool) (q:LA) (b:Nat) (w u:Bool):O R :=
 (cond (Am (wrap .i64 (((b:Nat):Int) - 1)) b) (Bi .u32 (q.drop (((wrap .i64 (((b:Nat):Int) - 1)).toNat)*1)) fun ad=>(Bb N ad (fun g=>(It N q b false u g (fun x m=>(cond ((decide ((0:Int)≤(0:Int)))&&((decide (0≤((b:Nat):Int)))&&((decide (((b:Nat):Int)≤((x:Nat):Int)))&&(decide (((x:Nat):Int)≤((x:Nat):Int)))))) (It N r s false t g (fun c ae=>(cond ((decide (0≤(wrap .i64 (((c:Nat):Int) - ((b:Nat):Int)))))&&((decide ((wrap .i64 (((c:Nat):Int) - ((b:Nat):Int)))≤(wrap .i64 (((c:Nat):Int) - ((b:Nat):Int)))))&&((decide ((wrap .i64 (((c:Nat):Int) - ((b:Nat):Int)))≤140737488355328))&&(decide (((wrap .i64 (((c:Nat):Int) - ((b:Nat):Int)))*((4:Nat):Int))≤140737488355328))))) (q0 g c m ((wrap .i64 (((c:Nat):Int) - ((b:Nat):Int))).toNat) ((b:Nat):Int) (wrap .i64 (((c:Nat):Int) - ((b:Nat):Int))) (wrap .i64 (((c:Nat):Int) - ((b:Nat):Int))) 0 (List.replicate ((wrap .i64 (((c:Nat):Int) - ((b:Nat):Int))).toNat) (.int .u32 0)) ae) none))) none)))))) none)
def Ew:=(Al (fun (N:Nat) (r:LA) (s:Nat) (v t:Bool) (q:LA) (b:Nat) (w u:Bool) (r0:Nat→Nat→LA→LA→O R)=>(J5 N r0 (fun g c m l f e o d i p=>(Cd N r0 g b c m N l f e o d i p)) r s v t q b w u))).1
theorem P0 (r s v t q b w u r0):(@Ew R N r s v t q b w u r0)=(J5 N r0 (fun g c m l f e o d i p=>(Cd N r0 g b c m N l f e o d i p)) r s v t q b w u):=by rw[Ew,(Al _).2]
def Sn:Hints:={ H:=(hS hL (hS hL (hS hL (hS hL (hS hL (hS hL (hS hL (hS (hS hL (hS (hP [4,6,7,8,9,10,35,36] hL) hL)) hL)))))))),nils:=[(4,1),(5,1)],modes:=[(2,1),(2,1)] }
def Vx:Gn:=[(275,Gv N),(276,cP N),(277,TE N),(278,MV N),(214,MF N)]
def MX (F:KF R):=Rh Tryz.f217 Sn (Vx N) [] N F
def Fb (F:KF R):Nat→Nat→LA→LA→O R:=(fun af ag ah ai=>F (.tup [(.own 300000 0 af),(.own 300001 0 ag)]) (hq [(bQ 1 ah),(bQ 1 ai)]))
def MY (g:Int) (b c:Nat) (m:LA) (l:Nat) (f e o d:Int) (i p:LA):St:=⟨[(4,(.own 300000 0 l)),(6,(iv f)),(7,(iv g)),(8,(.own 300001 0 b)),(9,(.own 300002 0 c)),(10,(iv e)),(35,(iv o)),(36,(iv d))],(hq [(bQ 1 i),(bQ 1 m),(bQ 1 p)])⟩
def MZ (F:KF R):=MX N F [1,1,1,1,1,1,1,0,1,0] []
theorem Mv (F:KF R) (g:Int) (b c:Nat) (m:LA):∀ (n l:Nat) (f e o d:Int) (i p:LA),Ax (MZ N F) n (MY g b c m l f e o d i p)=(Cd N (Fb F) g b c m n l f e o d i p)
 | 0,_,_,_,_,_,_,_=>by kernel_rfl
 | n+1,l,f,e,o,d,i,p=>Eq.trans (by kernel_rfl) (Ee (Gy N (Fb F) g b c m · l f e o d i p) (funext fun l=>funext fun f=>funext fun e=>funext fun o=>funext fun d=>funext fun i=>funext fun p=>(Mv F g b c m n l f e o d i p)):_)
theorem So (r:LA) (s:Nat) (v t:Bool) (q:LA) (b:Nat) (w u:Bool) (F:KF R):Dj (Vx N) Sn N 217 [(.imm r s 1 v t),(.imm q b 1 w u)] [] F=(Ew N r s v t q b w u (Fb F)):=by
 rw[P0]
 exact Eq.trans (by kernel_rfl) (Ee (J5 N (Fb F) · r s v t q b w u) (funext fun g=>funext fun c=>funext fun m=>funext fun l=>funext fun f=>funext fun e=>funext fun o=>funext fun d=>funext fun i=>funext fun p=>(Ar ..).trans (Mv N F g b c m N l f e o d i p)):_)
def P3 (a:LA) (h:Ai) (k:KF R):O R :=
 match a,h with
 | [(.imm r s 1 v t),(.imm q b 1 w u)],[]=>(Ew N r s v t q b w u (Fb k))
 | _,_=>none
theorem Sp:Ao N 217 @P3:=by
 intro R Q a h k j;unfold P3;split;exact Ay (So ..) (So ..) ⟨Gw N,cQ N,TF N,MW N,MG N,trivial⟩;exact A0
def M_:=Az (Sp N)
def M':=Dh (Sp N)
def FT (d:LA) (e:Nat) (f b:Bool) (g:LA) (i:Nat) (l c:Bool) (r0:Nat→Nat→Bool→LA→LA→O R):O R :=
 (Be N d e f b (fun o m=>(Be N g i l c (fun p n=>(cond (((n:Nat):Int)==0) (r0 0 0 false [] []) (Dm N o m false b p n false c (fun s=>(cond (decide (s<0)) (Lu N o m false b (fun t u=>(r0 0 t true [] u))) (cond (decide (((m:Nat):Int)≤2)) (In N o m false b (fun r=>(In N p n false c (fun q=>(cond (q==0) none (A7 N (wrap .u64 (Int.tdiv r q)) (fun v w=>(cond (q==0) none (A7 N (Int.tmod r q) (fun x y=>(r0 v x true w y))))))))))) (cond (((n:Nat):Int)==1) (cond (Am 0 n) (Bi .u32 p fun z=>(C9 N o m false b z (fun aa ab ac ad=>(r0 aa ab true ac ad)))) none) (Ew N o m false b p n false c (fun ae af ag ah=>(r0 ae af true ag ah)))))))))))))
def Cs:=(Al (@FT R)).1
theorem CA:@Cs R=@FT R:=(Al _).2
def gW:Hints:={ H:=hL,nils:=[(4,1),(5,1)],modes:=[(2,1),(2,1),(0,0)] }
def j4:Gn:=[(214,Ju N),(131,K5 N),(212,N9 N),(215,FD N),(133,Ds N),(216,FQ N),(217,M_ N)]
def IG (F:KF R):Nat→Nat→Bool→LA→LA→O R:=(fun ai aj ak al am=>F (.tup [(.own 300000 0 ai),(.own 300001 0 aj),(.bool ak)]) (hq [(bQ 1 al),(bQ 1 am)]))
theorem IH (d:LA) (e:Nat) (f b:Bool) (g:LA) (i:Nat) (l c:Bool) (F:KF R):Dj (j4 N) gW N 134 [(.imm d e 1 f b),(.imm g i 1 l c)] [] F=(Cs N d e f b g i l c (IG F)):=by
 rw[CA]
 kernel_rfl
def CB (a:LA) (h:Ai) (k:KF R):O R :=
 match a,h with
 | [(.imm d e 1 f b),(.imm g i 1 l c)],[]=>(Cs N d e f b g i l c (IG k))
 | _,_=>none
theorem II:Ao N 134 @CB:=by
 intro R Q a h k j;unfold CB;split;exact Ay (IH ..) (IH ..) ⟨Jv N,K6 N,Oa N,FE N,Dt N,FR N,M' N,trivial⟩;exact A0
def IJ:=Az (II N)
def IK:=Dh (II N)
def Xs (b:LA) (c:Nat) (m d:Bool) (e:Int) (f:LA) (g:Nat) (n i:Bool) (l:Int) (r0:Nat→LA→O R):O R :=
 (A7 N e (fun o s=>(T2 N b c false d (s.take (o*1)) o false true (fun p t=>(A7 N l (fun q u=>(T2 N f g false i (u.take (q*1)) q false true (fun r v=>(T4 N (t.take (p*1)) p false true (v.take (r*1)) r false true (fun w aa x=>(r0 w x)))))))))))
def Db:=(Al (@Xs R)).1
theorem Xt:@Db R=@Xs R:=(Al _).2
def cR:Hints:={ H:=hL,nils:=[(8,1)],modes:=[(2,1)] }
def gX:Gn:=[(133,Ds N),(137,MJ N),(136,dz N)]
def CC (F:KF R):Nat→LA→O R:=(fun y z=>F (.own 300000 0 y) (hq [(bQ 1 z)]))
theorem CD (b:LA) (c:Nat) (m d:Bool) (e:Int) (f:LA) (g:Nat) (n i:Bool) (l:Int) (F:KF R):Dj (gX N) cR N 274 [(.imm b c 1 m d),(.int .u64 e),(.imm f g 1 n i),(.int .u64 l)] [] F=(Db N b c m d e f g n i l (CC F)):=by
 rw[Xt]
 kernel_rfl
def Xu (a:LA) (h:Ai) (k:KF R):O R :=
 match a,h with
 | [(.imm b c 1 m d),(.int .u64 e),(.imm f g 1 n i),(.int .u64 l)],[]=>(Db N b c m d e f g n i l (CC k))
 | _,_=>none
theorem CE:Ao N 274 @Xu:=by
 intro R Q a h k j;unfold Xu;split;exact Ay (CD ..) (CD ..) ⟨Dt N,MK N,eA N,trivial⟩;exact A0
def cS:=Az (CE N)
def cT:=Dh (CE N)
def Ua (k1:LA→Nat→Bool→LA→Nat→Bool→O R) (r0:Nat→LA→O R) (k2:Int→Int→O R) (l i:Int):O R :=
 (cond (i != 0) (cond (i==0) none (k2 i (Int.tmod l i))) (A7 N l (fun al am=>(r0 al am))))
def Ja (k1:LA→Nat→Bool→LA→Nat→Bool→O R) (r0:Nat→LA→O R):Nat→Int→Int→O R
 | 0,_,_=>none
 | n+1,l,i=>(Ua N k1 r0 (Ja k1 r0 n) l i)
def Ov (r0:Nat→LA→O R) (k1:LA→Nat→Bool→LA→Nat→Bool→O R) (q2:Int→Int→O R) (d:LA) (b:Nat) (e:Bool) (f:LA) (c:Nat) (g:Bool):O R :=
 (cond (decide (((c:Nat):Int)>0)) (cond (decide (((b:Nat):Int)≤2)) (In N d b false e (fun an=>(In N f c false g (fun ao=>(q2 an ao))))) (K7 N d b false e f c false g (fun ab=>(cond ((Nat.beq (ab.length) 5)&&((Nat.ble 5 5)&&(!false))) (Bi .u64 ((setCells [(.int .u64 0),(.int .u64 0),(.int .u64 0),(.int .u64 0),(.bool false)] 0 ab).drop 2) fun ap=>(cond (ap==0) (Cs N d b false e f c false g (fun bl ag bm bn aq=>(k1 f c g (aq.take (ag*1)) ag false))) (Pc ((setCells [(.int .u64 0),(.int .u64 0),(.int .u64 0),(.int .u64 0),(.bool false)] 0 ab).drop 4) fun ar=>(cond ar (Bi .u64 (setCells [(.int .u64 0),(.int .u64 0),(.int .u64 0),(.int .u64 0),(.bool false)] 0 ab) fun au=>(Bi .u64 ((setCells [(.int .u64 0),(.int .u64 0),(.int .u64 0),(.int .u64 0),(.bool false)] 0 ab).drop 2) fun av=>(Db N d b false e au f c false g av (fun ah aw=>(Bi .u64 ((setCells [(.int .u64 0),(.int .u64 0),(.int .u64 0),(.int .u64 0),(.bool false)] 0 ab).drop 3) fun ax=>(Bi .u64 ((setCells [(.int .u64 0),(.int .u64 0),(.int .u64 0),(.int .u64 0),(.bool false)] 0 ab).drop 1) fun ay=>(Db N f c false g ax d b false e ay (fun ai az=>(k1 (aw.take (ah*1)) ah false (az.take (ai*1)) ai false))))))))) (Bi .u64 ((setCells [(.int .u64 0),(.int .u64 0),(.int .u64 0),(.int .u64 0),(.bool false)] 0 ab).drop 2) fun ba=>(Bi .u64 (setCells [(.int .u64 0),(.int .u64 0),(.int .u64 0),(.int .u64 0),(.bool false)] 0 ab) fun bb=>(Db N f c false g ba d b false e bb (fun aj bc=>(Bi .u64 ((setCells [(.int .u64 0),(.int .u64 0),(.int .u64 0),(.int .u64 0),(.bool false)] 0 ab).drop 1) fun bd=>(Bi .u64 ((setCells [(.int .u64 0),(.int .u64 0),(.int .u64 0),(.int .u64 0),(.bool false)] 0 ab).drop 3) fun be=>(Db N d b false e bd f c false g be (fun ak bf=>(k1 (bc.take (aj*1)) aj false (bf.take (ak*1)) ak false))))))))))))) none)))) (Lu N d b false e (fun bg bh=>(r0 bg bh))))
def Ct (r0:Nat→LA→O R):Nat→LA→Nat→Bool→LA→Nat→Bool→O R
 | 0,_,_,_,_,_,_=>none
 | n+1,d,b,e,f,c,g=>(Ov N r0 (Ct r0 n) (fun l i=>(Ja N (Ct r0 n) r0 N l i)) d b e f c g)
def FU (N:Nat) (r0:Nat→LA→O R) (q1:LA→Nat→Bool→LA→Nat→Bool→O R) (m:LA) (o:Nat) (p:Bool) (q:LA) (r:Nat) (s:Bool):O R :=
 (q1 m o p q r s)
def Z9 (r0:Nat→LA→O R) (m:LA) (o:Nat) (p:Bool) (q:LA) (r:Nat) (s:Bool):O R:=(FU N r0 (fun d b e f c g=>(Ct N r0 N d b e f c g)) m o p q r s)
def TP (r0:Nat→LA→O R) (q0:LA→Nat→Bool→LA→Nat→Bool→O R) (v:LA) (w:Nat) (x t:Bool) (y:LA) (z:Nat) (aa u:Bool):O R :=
 (Be N v w x t (fun ac ad=>(Be N y z aa u (fun ae af=>(Dm N ac ad false t ae af false u (fun bi=>(cond (decide (bi<0)) (q0 ae af u ac ad t) (q0 ac ad t ae af u))))))))
def Xv:=(Al (fun (N:Nat) (v:LA) (w:Nat) (x t:Bool) (y:LA) (z:Nat) (aa u:Bool) (r0:Nat→LA→O R)=>(TP N r0 (fun m o p q r s=>(Z9 N r0 m o p q r s)) v w x t y z aa u))).1
theorem XA (v w x t y z aa u r0):(@Xv R N v w x t y z aa u r0)=(TP N r0 (fun m o p q r s=>(Z9 N r0 m o p q r s)) v w x t y z aa u):=by rw[Xv,(Al _).2]
def eG:Hints:={ H:=(hS hL (hS hL (hJ [0,1] hL (hS (hS (hP [0,1] (hS hL (hS (hS (hS hL (hS (hS hL (hS (hS (hP [5,6] hL) hL) hL)) hL)) hL) hL))) hL) hL)))),nils:=[(0,1000001),(1,1000001)],modes:=[(2,1)] }
def j5:Gn:=[(214,Ju N),(131,K5 N),(215,FD N),(273,cK N),(134,IJ N),(274,cS N),(212,N9 N),(133,Ds N)]
def NA (F:KF R):=Rh Tryz.f213 eG (j5 N) [] N F
def Gk (F:KF R):Nat→LA→O R:=(fun bj bk=>F (.own 300000 0 bj) (hq [(bQ 1 bk)]))
def od (l i:Int):St:=⟨[(5,(.int .u64 l)),(6,(.int .u64 i))],[]⟩
def oe (F:KF R) (Q1:St→O R):=NA N F [1,1,1,0,0,0,1,0,0,1,0,1,0,0] [Q1]
def NB (d:LA) (b:Nat) (e:Bool) (f:LA) (c:Nat) (g:Bool):St:=⟨[(0,(.imm d b 1 false e)),(1,(.imm f c 1 false g))],[]⟩
def eH (F:KF R):=NA N F [1,1,1,0,0] []
def og (m:LA) (o:Nat) (p:Bool) (q:LA) (r:Nat) (s:Bool):St:=⟨[(0,(.imm m o 1 false p)),(1,(.imm q r 1 false s))],[]⟩
def oh (F:KF R):=NA N F [1,1,1] []
theorem IL (Q1:St→O R) (F:KF R):∀ (n:Nat) (l i:Int),Ax (oe N F Q1) n (od l i)=(Ja N (fun d b e f c g=>Q1 (NB d b e f c g)) (Gk F) n l i)
 | 0,_,_=>by kernel_rfl
 | n+1,l,i=>Eq.trans (by kernel_rfl) (Ee (Ua N (fun d b e f c g=>Q1 (NB d b e f c g)) (Gk F) · l i) (funext fun l=>funext fun i=>(IL Q1 F n l i)):_)
theorem IM (F:KF R):∀ (n:Nat) (d:LA) (b:Nat) (e:Bool) (f:LA) (c:Nat) (g:Bool),Ax (eH N F) n (NB d b e f c g)=(Ct N (Gk F) n d b e f c g)
 | 0,_,_,_,_,_,_=>by kernel_rfl
 | n+1,d,b,e,f,c,g=>have e0:=(funext fun d=>funext fun b=>funext fun e=>funext fun f=>funext fun c=>funext fun g=>(IM F n d b e f c g))
  Eq.trans (by kernel_rfl) (pt (Ov N (Gk F) · · d b e f c g) e0 (funext fun l=>funext fun i=>(Ar ..).trans ((IL N (Ax (eH N F) n) F N l i).trans (Ee (Ja N · (Gk F) N l i) e0))):_)
theorem gY (F:KF R):∀ (m:LA) (o:Nat) (p:Bool) (q:LA) (r:Nat) (s:Bool),C7 (oh N F) (og m o p q r s)=(Z9 N (Gk F) m o p q r s):=by
 intro m o p q r s
 exact Eq.trans (by kernel_rfl) (Ee (FU N (Gk F) · m o p q r s) (funext fun d=>funext fun b=>funext fun e=>funext fun f=>funext fun c=>funext fun g=>(Ar ..).trans (IM N F N d b e f c g)):_)
theorem eI (v:LA) (w:Nat) (x t:Bool) (y:LA) (z:Nat) (aa u:Bool) (F:KF R):Dj (j5 N) eG N 213 [(.imm v w 1 x t),(.imm y z 1 aa u)] [] F=(Xv N v w x t y z aa u (Gk F)):=by
 rw[XA]
 exact Eq.trans (by kernel_rfl) (Ee (TP N (Gk F) · v w x t y z aa u) (funext fun m=>funext fun o=>funext fun p=>funext fun q=>funext fun r=>funext fun s=>(A8 ..).trans (gY N F m o p q r s)):_)
def XB (a:LA) (h:Ai) (k:KF R):O R :=
 match a,h with
 | [(.imm v w 1 x t),(.imm y z 1 aa u)],[]=>(Xv N v w x t y z aa u (Gk k))
 | _,_=>none
theorem eJ:Ao N 213 @XB:=by
 intro R Q a h k j;unfold XB;split;exact Ay (eI ..) (eI ..) ⟨Jv N,K6 N,FE N,cL N,IK N,cT N,Oa N,Dt N,trivial⟩;exact A0
def oi:=Az (eJ N)
def oq:=Dh (eJ N)
end
end Gx

namespace Gx
open Go Go.Proofs
section
variable {R:Type}
def uX:List UInt8:=[0,1,2,2,3,3,3,3,4,4,4,4,4,4,4,4,5,5,5,5,5,5,5,5,5,5,5,5,5,5,5,5,6,6,6,6,6,6,6,6,6,6,6,6,6,6,6,6,6,6,6,6,6,6,6,6,6,6,6,6,6,6,6,6,7,7,7,7,7,7,7,7,7,7,7,7,7,7,7,7,7,7,7,7,7,7,7,7,7,7,7,7,7,7,7,7,7,7,7,7,7,7,7,7,7,7,7,7,7,7,7,7,7,7,7,7,7,7,7,7,7,7,7,7,7,7,7,7,8,8,8,8,8,8,8,8,8,8,8,8,8,8,8,8,8,8,8,8,8,8,8,8,8,8,8,8,8,8,8,8,8,8,8,8,8,8,8,8,8,8,8,8,8,8,8,8,8,8,8,8,8,8,8,8,8,8,8,8,8,8,8,8,8,8,8,8,8,8,8,8,8,8,8,8,8,8,8,8,8,8,8,8,8,8,8,8,8,8,8,8,8,8,8,8,8,8,8,8,8,8,8,8,8,8,8,8,8,8,8,8,8,8,8,8,8,8,8,8,8,8,8,8,8,8,8,8]
theorem ri:∀ i:Fin 256,0<i.1→2 ^ (uX.getD i.1 0).toNat≤2*i.1∧i.1<2 ^ (uX.getD i.1 0).toNat:=by decide +kernel
theorem XC {k y x m:Nat} (h:2 ^ k≤2*y∧y<2 ^ k) (b:y=x/2 ^ m):2 ^ (k+m)≤2*x∧x<2 ^ (k+m):=by
 have c:0<2 ^ m:=Nat.pow_pos (by omega)
 have d:x<2 ^ m*(y+1):=by rw[b];have:=Nat.div_add_mod x (2 ^ m);have:=Nat.mod_lt x c;rw[Nat.mul_add];omega
 have e:2 ^ m*y≤x:=by rw[b];exact Nat.mul_div_le x _
 have f:2 ^ m*(y+1)≤2 ^ m*2 ^ k:=Nat.mul_le_mul_left _ h.2
 have i:2 ^ m*2 ^ k≤2 ^ m*(2*y):=Nat.mul_le_mul_left _ h.1
 rw[Nat.pow_add,Nat.mul_comm (2 ^ k)]
 have j:2 ^ m*(2*y)=2*(2 ^ m*y):=by rw[Nat.mul_left_comm]
 omega
theorem sO {a:Nat} (h:a<256):IntKind.wrap .u8 (a:Int)=(a:Int):=by rw[wrap_u8];congr 1;omega
theorem sP {N:Nat} {a b:Nat} {K:Int→O R} (q:0<a) (s:a<65536) (t:b≤16):∃ k:Nat,2 ^ k≤2*a∧a<2 ^ k∧k≤16∧Cr N K (a:Int) (b:Int)=K ((b+k:Nat):Int):=by
 have small:∀ i:Nat,0<i→i<256→∃ k:Nat,(2 ^ k≤2*i∧i<2 ^ k)∧k≤8∧(uX.getD i 0).toNat=k:=by
  intro i j d
  have:=ri ⟨i,d⟩ j
  refine⟨_,this,?_,rfl⟩
  rcases Nat.lt_or_ge 8 (uX.getD i 0).toNat with h | h
  ·have l:=this.1
   have u:2 ^ 9≤2 ^ (uX.getD i 0).toNat:=Nat.pow_le_pow_right (by omega) h
   simp only at l
   omega
  ·exact h
 by_cases h:a≥256
 ·obtain⟨k,c,n,e⟩:=small (a/256) (by omega) (by omega)
  have f:=XC (m:=8) c (show a/256=a/2 ^ 8 by rfl)
  refine⟨k+8,f.1,f.2,by omega,?_⟩
  unfold Cr
  rw[show decide (((a:Nat):Int)≥256)=true by simp;omega,ct,Jq a 8,show a/2 ^ 8=a/256 by rfl,sO (by omega),Aj (by omega),ct,Int.toNat_natCast]
  change K (IntKind.wrap .i64 (IntKind.wrap .i64 ((b:Int)+8)+IntKind.wrap .i64 (((uX.getD (a/256) 0).toNat:Nat):Int)))=_
  rw[e,i64 (a:=(b:Int)+8) (by omega),i64 (a:=(k:Int)) (by omega),i64 (by omega)]
  congr 1;omega
 ·obtain⟨k,c,n,e⟩:=small a (by omega) (by omega)
  refine⟨k,c.1,c.2,by omega,?_⟩
  unfold Cr
  rw[show decide (((a:Nat):Int)≥256)=false by simp;omega,cf,sO (by omega),Aj (by omega),ct,Int.toNat_natCast]
  change K (IntKind.wrap .i64 ((b:Int)+IntKind.wrap .i64 (((uX.getD a 0).toNat:Nat):Int)))=_
  rw[e,i64 (a:=(k:Int)) (by omega),i64 (by omega)]
  congr 1
theorem lk {N:Nat} {c:Nat} {K:Int→O R} (l:0<c) (n:c<4294967296):∃ k:Nat,2 ^ k≤2*c∧c<2 ^ k∧k≤32∧Ej N (c:Int) K=K (k:Int):=by
 rw[Mq];unfold Hx
 by_cases h:c≥65536
 ·obtain⟨k,e,f,j,d⟩:=sP (R:=R) (N:=N) (a:=c/65536) (b:=16) (K:=K) (by omega) (by omega) (by omega)
  have i:=XC (m:=16) ⟨e,f⟩ (show c/65536=c/2 ^ 16 by rfl)
  refine⟨k+16,i.1,i.2,by omega,?_⟩
  rw[show decide (((c:Nat):Int)≥65536)=true by simp;omega,ct,Jq c 16,show c/2 ^ 16=c/65536 by rfl]
  rw[Nat.add_comm k];exact d
 ·obtain⟨k,e,f,j,d⟩:=sP (R:=R) (N:=N) (a:=c) (b:=0) (K:=K) (by omega) (by omega) (by omega)
  refine⟨k,e,f,by omega,?_⟩
  rw[show decide (((c:Nat):Int)≥65536)=false by simp;omega,cf]
  rw[Nat.zero_add] at d;exact d
theorem nU {N:Nat} {c:Nat} (l:0<c) (m:c<4294967296):∃ s:Nat,s≤31∧2147483648≤c*2 ^ s∧c*2 ^ s<4294967296∧∀ K:Int→O R,Bb N (c:Int) K=K (s:Int):=by
 have key:∀ K:Int→O R,∃ s:Nat,(s≤31∧2147483648≤c*2 ^ s∧c*2 ^ s<4294967296)∧Bb N (c:Int) K=K (s:Int):=by
  intro K
  rw[F8];unfold Eg
  obtain⟨k,n,j,u,q⟩:=lk (R:=R) (N:=N) (K:=fun c=>K (IntKind.wrap .i64 ((32:Int) - c))) l m
  have e:2 ^ k*2 ^ (32 - k)=4294967296:=by rw[←Nat.pow_add,show k+(32 - k)=32 by omega]
  have v:1≤k:=by
   rcases Nat.eq_zero_or_pos k with h | h
   ·subst h;simp at j;omega
   ·exact h
  refine⟨32 - k,⟨by omega,?_,?_⟩,?_⟩
  ·have:=Nat.mul_le_mul_right (2 ^ (32 - k)) n
   rw[e,Nat.mul_assoc] at this;omega
  ·have:=(Nat.mul_lt_mul_right (show 0<2 ^ (32 - k) from Nat.pow_pos (by omega))).2 j
   rw[e] at this;exact this
  ·rw[q,i64 (by omega)];congr 1;omega
 obtain⟨s,d,_⟩:=key fun _=>none
 refine⟨s,d.1,d.2.1,d.2.2,fun K=>?_⟩
 obtain⟨b,t,e⟩:=key K
 have:b=s:=by
  rcases Nat.lt_trichotomy s b with h | h | h
  ·exfalso
   have f:2 ^ (s+1)≤2 ^ b:=Nat.pow_le_pow_right (by omega) h
   have i:=Nat.mul_le_mul_left c f
   rw[Nat.pow_succ,←Nat.mul_assoc] at i
   omega
  ·exact h.symm
  ·exfalso
   have f:2 ^ (b+1)≤2 ^ s:=Nat.pow_le_pow_right (by omega) h
   have i:=Nat.mul_le_mul_left c f
   rw[Nat.pow_succ,←Nat.mul_assoc] at i
   omega
 rw[e,this]
theorem gZ {s:Nat} (h:s≤31):2 ^ s≤2147483648:=Nat.pow_le_pow_right (n:=2) (by omega) h
theorem qs {x c s:Nat} (f:x<4294967296) (b:c<2 ^ s) (d:s≤31):I6 .u64 (c:Int) (IntKind.wrap .u64 ((IntKind.wrap .u64 (x:Int))*2 ^ (min (Int.toNat (s:Int)) 64)))=((x*2 ^ s+c:Nat):Int)∧x*2 ^ s+c<4294967296*2 ^ s:=by
 have i:=gZ d
 have j:x*2 ^ s≤4294967295*2 ^ s:=Nat.mul_le_mul_right _ (by omega)
 have e:(x+1)*2 ^ s≤4294967296*2 ^ s:=Nat.mul_le_mul_right _ (by omega)
 rw[Nat.add_mul] at e
 refine⟨?_,by omega⟩
 rw[Er (by omega),Int.toNat_natCast,Nat.min_eq_left (by omega),show(2:Int) ^ s=((2 ^ s:Nat):Int) by simp,VN,Er (by omega),l9 (by omega) (by omega),Nat.or_comm,ME b]
theorem IN {N:Nat} {a:List Nat} {t o:Bool} {s:Nat} (v:Ae a) (j:s≤31) (k:a.length≤1000000000000):∀ (m d b:Nat) (S:List Nat) (c:Nat),d+m=a.length→m<b→Ae S→S.length=a.length+1→oc S d→c<2 ^ s →
  val S+4294967296 ^ d*c=val (a.take d)*2 ^ s →
  ∃ S',Ae S'∧S'.length=a.length+1∧val S'=val a*2 ^ s∧∀ K:Nat→LA→O R,Ev N K (Aa a) a.length t o (s:Int) b (a.length+1) (c:Int) (a.length:Int) (d:Int) (Aa S)=K (a.length+1) (Aa S')
 | 0,d,b+1,S,c,z,_,hS,l,i,x,n=>by
  have q:d=a.length:=by omega
  subst q
  have L:=gZ j
  rw[List.take_length] at n
  refine⟨S.set a.length c,Bn hS (by omega) _,by simpa using l,by rw[Lv i (by omega),n],fun K=>?_⟩
  rw[Ev];unfold J3
  rw[FG (Nat.le_refl _),cf,Aj (by omega),ct,tM (by omega),ct,nT (by omega),sN]
 | m+1,d,b+1,S,c,z,A,hS,l,i,x,n=>by
  have f:d<a.length:=by omega
  have ad:=Aq v f
  obtain⟨B,C⟩:=qs ad x j
  generalize u:a[d]*2 ^ s+c=w at *
  have y:0<2 ^ s:=Nat.pow_pos (by omega)
  have key:val (S.set d (w%4294967296))+4294967296 ^ (d+1)*(w/4294967296)=val (a.take (d+1))*2 ^ s:=by
   rw[Lv i (by omega),An f,Nat.pow_succ,Nat.add_mul,Nat.mul_assoc _ a[d]]
   have e:=G9 (4294967296 ^ d) w
   have M:4294967296 ^ d*w=4294967296 ^ d*(a[d]*2 ^ s)+4294967296 ^ d*c:=by rw[←u,Nat.mul_add]
   omega
  obtain⟨S',D,F,G,I⟩:=IN (t:=t) (o:=o) v j k m (d+1) b (S.set d (w%4294967296)) (w/4294967296) (by omega) (by omega) (Bn hS (by omega) d) (by simpa using l) (Pv i) (Nat.div_lt_of_lt_mul C) key
  refine⟨S',D,F,G,fun K=>?_⟩
  rw[Ev];unfold J3
  rw[Wj f,ct,Aj f,ct,Wk f,show decide (((s:Nat):Int)<0)=false by simp,cf,Aj (by omega),ct,d5 (by omega),ct,B,MD,EX,Xn,wS (by omega)]
  exact I K
theorem IP {N:Nat} {a:List Nat} {n:Nat} {t o:Bool} {s:Nat} (c:n=a.length) (d:Ae a) (e:s≤31) (b:fit a.length N) :
  ∃ S',Ae S'∧S'.length=a.length+1∧val S'=val a*2 ^ s∧∀ K:Nat→LA→O R,It N (Aa a) n t o (s:Int) K=K (a.length+1) (Aa S'):=by
 subst c
 have l:=b.1;have m:=b.2
 obtain⟨S',f,i,j,k⟩:=IN (R:=R) (N:=N) (t:=t) (o:=o) d e (by omega) a.length 0 N (List.replicate (a.length+1) 0) 0 (by omega) (by omega) (Bk _) (by simp) (Gi _) (Nat.pow_pos (by omega)) (by rw[Cg];simp[val])
 refine⟨S',f,i,j,fun K=>?_⟩
 rw[Xq];unfold Py
 rw[uP (by omega),pu (by omega),ct,Int.toNat_natCast,Bt]
 exact k K
end
end Gx

namespace Gx
open Go Go.Proofs
section
variable {R:Type}
theorem sQ {P U Q:List Nat} {i:Nat} (h:i<U.length) {f:Int→O R}:Bi .u32 (List.drop (P.length+((Int.toNat (i:Int))*1)) (Aa (P++(U++Q)))) f=f (U[i]:Nat):=by
 rw[Int.toNat_natCast,Nat.mul_one,jQ (by simp;omega)]
 congr 2
 rw[List.getElem_append_right (by omega)]
 simp only[Nat.add_sub_cancel_left]
 rw[List.getElem_append_left h]
theorem tN {P U Q:List Nat} {i:Nat} (h:i<U.length):((Nat.beq 1 1)&&((Nat.ble ((P.length+((Int.toNat (i:Int))*1))+1) (List.length (Aa (P++(U++Q)))))&&(!false)))=true:=by
 rw[A5,Int.toNat_natCast];simp;omega
theorem qt {P U Q:List Nat} {i v:Nat} (h:i<U.length):List.set (Aa (P++(U++Q))) (P.length+((Int.toNat (i:Int))*1)) (.int .u32 (v:Int))=Aa (P++(U.set i v++Q)):=by
 rw[Int.toNat_natCast,Nat.mul_one,HB,List.set_append_right _ _ (by omega),Nat.add_sub_cancel_left,List.set_append_left _ _ h]
theorem uD {P U Q:List Nat} {i:Nat} (h:i<U.length) {f:Int→O R}:Bi .u32 (List.drop (P.length+(i*1)) (Aa (P++(U++Q)))) f=f (U[i]:Nat):=by
 have:=sQ (R:=R) (P:=P) (Q:=Q) (f:=f) h;rw[Int.toNat_natCast] at this;exact this
theorem IQ {X:List Nat} {p g:Nat} (h:p<X.length):val ((X.set p g).take (p+1))=val (X.take p)+4294967296 ^ p*g:=by
 rw[An (by simpa using h),List.getElem_set_self,List.take_set_of_le (Nat.le_refl _)]
theorem Ss {X:List Nat} {n:Nat} (h:X.length=n+1):val X=val (X.take n)+4294967296 ^ n*X[n]:=by
 have:=An (l:=X) (c:=n) (by omega)
 rwa [List.take_of_length_le (by omega)] at this
theorem nV {D:Nat} (h:1≤D) (b:D<18446744073709551616):IntKind.wrap .u64 ((D:Int) - 1)=((D - 1:Nat):Int):=by rw[EY];omega
theorem rj {D y t:Nat} (hD:D<4294967296) (b:y<4294967296) (c:t≤4294967296):D*y+t<18446744073709551616∧(D*y+t)/4294967296+1≤4294967296:=by
 have:D*y≤4294967295*4294967295:=Nat.mul_le_mul (by omega) (by omega)
 omega
theorem nW {N:Nat} {P Q X v:List Nat} {n D:Nat} {f g:Bool} (L:Ae v) (M:v.length=n) (hX:Ae X) (hXl:X.length=n+1) (T:n≤1000000000000) (hD:D<4294967296) (hD1:1≤D) {r:Nat} (U:val X+val v=4294967296 ^ (n+1)+r) (u:r<4294967296 ^ n) :
  ∀ (m o b:Nat) (Y:List Nat) (c:Nat),o+m=n→m<b→Ae Y→Y.length=n+1→(∀ j (z:j<Y.length) (A:j<X.length),o≤j→Y[j]=X[j])→c≤1→val (Y.take o)+4294967296 ^ o*c=val (X.take o)+val (v.take o) →
  ∃ Y',Ae Y'∧Y'.length=n+1∧val Y'=r∧∀ K:Int→LA→O R,Ek N K P.length (n+1) (n:Int) (D:Int) (Aa v) n f g b (c:Int) (n:Int) (o:Int) (Aa (P++(Y++Q)))=K ((D - 1:Nat):Int) (Aa (P++(Y'++Q)))
 | 0,o,b+1,Y,c,V,_,hY,hYl,i,hc,k=>by
  have B:o=n:=by omega
  subst B
  rw[show v.take o=v by rw[←M];exact List.take_length] at k
  have e1:=Ss hXl
  have eq:val (Y.take o)+4294967296 ^ o*(X[o]+c)=4294967296 ^ o*4294967296+r:=by
   rw[Nat.mul_add,←Nat.pow_succ];omega
  have yt:=Bd (Bh hY o)
  rw[List.length_take,Nat.min_eq_left (by omega)] at yt
  have hP:0<4294967296 ^ o:=Nat.pow_pos (by omega)
  have S:X[o]+c=4294967296:=by
   have z:(val (Y.take o)+4294967296 ^ o*(X[o]+c))/4294967296 ^ o=X[o]+c:=by rw[Nat.add_mul_div_left _ _ hP,Nat.div_eq_of_lt yt,Nat.zero_add]
   have A:(4294967296 ^ o*4294967296+r)/4294967296 ^ o=4294967296:=by rw[Nat.mul_add_div hP,Nat.div_eq_of_lt u,Nat.add_zero]
   rw[←z,eq,A]
  have C:val (Y.take o)=r:=by rw[S] at eq;omega
  have q:Y[o]=X[o]:=i o (by omega) (by omega) (Nat.le_refl _)
  have F:(Y.set o 0).length=o+1:=by simpa using hYl
  refine⟨Y.set o 0,Bn hY (by omega) o,F,?_,fun K=>?_⟩
  ·have:=IQ (X:=Y) (p:=o) (g:=0) (by omega)
   rw[List.take_of_length_le (by omega),C] at this;simpa using this
  ·rw[Ek];unfold Hz
   have hXo:=Aq hX (show o<X.length by omega)
   rw[FG (Nat.le_refl _),cf,Aj (by omega),ct,sQ (by omega),ct,tN (by omega),ct,q,nT (show c<4294967296 by omega),Q7,S,EX,qt (by omega),nV hD1 (by omega),nT (by omega)]
 | m+1,o,b+1,Y,c,V,hfu,hY,hYl,i,hc,k=>by
  have x:o<n:=by omega
  have t:o<v.length:=by omega
  have vo:=Aq L t
  have d:o<Y.length:=by omega
  have yo:=Aq hY d
  have q:Y[o]=X[o]:=i o (by omega) (by omega) (Nat.le_refl _)
  have G:c+(Y[o]+v[o])<18446744073709551616:=by omega
  have I:(c+(Y[o]+v[o]))/4294967296≤1:=by omega
  generalize y:c+(Y[o]+v[o])=s at *
  have key:val ((Y.set o (s%4294967296)).take (o+1))+4294967296 ^ (o+1)*(s/4294967296)=val (X.take (o+1))+val (v.take (o+1)):=by
   rw[IQ d,An (l:=X) (by omega),An t,Nat.pow_succ]
   have e:=G9 (4294967296 ^ o) s
   have e2:4294967296 ^ o*s=4294967296 ^ o*c+(4294967296 ^ o*X[o]+4294967296 ^ o*v[o]):=by rw[←y,Nat.mul_add,Nat.mul_add,q]
   omega
  obtain⟨Y',q1,q2,q3,q4⟩:=nW (N:=N) (P:=P) (Q:=Q) (f:=f) (g:=g) L M hX hXl T hD hD1 U u m (o+1) b (Y.set o (s%4294967296)) (s/4294967296) (by omega) (by omega) (Bn hY (by omega) o) (by simpa using hYl) (fun j z A hj=>by rw[List.getElem_set,if_neg (by omega)];exact i j (by simpa using z) A (by omega)) I key
  refine⟨Y',q1,q2,q3,fun K=>?_⟩
  rw[Ek];unfold Hz
  rw[Wj x,ct,Aj x,ct,Wk t,Aj (by omega),ct,sQ d,ct,tN d,ct,Er (show v[o]<18446744073709551616 by omega),Er (show Y[o]<18446744073709551616 by omega),Q7,Er (by omega),Q7,y,Er G,MD,EX,qt d,wS (by omega)]
  exact q4 K
theorem qu {N:Nat} {P Q U v:List Nat} {n D:Nat} {f g:Bool} (A:Ae v) (B:v.length=n) (hU:Ae U) (hUl:U.length=n+1) (hs:n≤1000000000000) (hN:n+2<N) (hD:D<4294967296) (u:0<val v) (G:val U/val v≤D) (I:D≤val U/val v+1) :
  ∀ (m p b:Nat) (X:List Nat) (t:Nat),p+m=n→m<b→Ae X→X.length=n+1→(∀ j (h1:j<X.length) (h2:j<U.length),p≤j→X[j]=U[j])→t≤4294967296→val (X.take p)+D*val (v.take p)=val (U.take p)+4294967296 ^ p*t →
  ∃ X',Ae X'∧X'.length=n+1∧val X'=val U%val v∧∀ K:Int→LA→O R,Da N K P.length (n+1) (Aa v) n f g (n:Int) (D:Int) b (t:Int) (n:Int) (p:Int) (Aa (P++(X++Q)))=K ((val U/val v:Nat):Int) (Aa (P++(X'++Q)))
 | 0,p,b+1,X,t,hp,_,hX,hXl,i,L,s=>by
  have M:p=n:=by omega
  subst M
  rw[show v.take p=v by rw[←B];exact List.take_length] at s
  have hXp:X[p]=U[p]:=i p (by omega) (by omega) (Nat.le_refl _)
  have up:=Aq hU (show p<U.length by omega)
  obtain⟨d,c,S,g2,T,C,F⟩:=Z8 up L
  have k:(X.set p d).length=p+1:=by simpa using hXl
  have hX2:=Bn hX S p
  have V:val (X.set p d)=val (X.take p)+4294967296 ^ p*d:=by
   have:=IQ (X:=X) (p:=p) (g:=d) (by omega)
   rwa [List.take_of_length_le (by omega)] at this
  have eU:=Ss hUl
  have main:val (X.set p d)+D*val v=val U+4294967296 ^ (p+1)*c:=by
   have e:4294967296 ^ p*(U[p]+4294967296*c)=4294967296 ^ p*(d+t):=by rw[T]
   rw[Nat.mul_add,Nat.mul_add,←Nat.mul_assoc] at e
   rw[V,eU,Nat.pow_succ];omega
  have hlt:=Bd hX2
  rw[k] at hlt
  have hdm:=Nat.div_add_mod (val U) (val v)
  have hmod:=Nat.mod_lt (val U) u
  have vlt:=Bd A
  rw[B] at vlt
  by_cases hc:c=0
  ·subst hc
   have hDq:D=val U/val v:=by
    have:D≤val U/val v:=by rw[Nat.le_div_iff_mul_le u];omega
    omega
   refine⟨X.set p d,hX2,k,?_,fun K=>?_⟩
   ·rw[hDq,Nat.mul_comm] at main;omega
   ·rw[Da];unfold E9
    rw[FG (Nat.le_refl _),cf,Aj (by omega),ct,sQ (by omega),ct,tN (by omega),ct,hXp,Er (show U[p]<18446744073709551616 by omega),C,F,show(((0:Nat):Int)==0)=true by rfl,ct,nT hD,qt (by omega),hDq]
  ·have hc1:c=1:=by omega
   subst hc1
   have hDq:D=val U/val v+1:=by
    have:¬ D≤val U/val v:=fun h=>by
     have:=Nat.mul_le_mul_left (val v) h
     rw[Nat.mul_comm] at this
     omega
    omega
   have hr:val (X.set p d)+val v=4294967296 ^ (p+1)+val U%val v:=by
    rw[hDq,Nat.add_mul,Nat.mul_comm (val U/val v)] at main;omega
   obtain⟨Y',q1,q2,q3,q4⟩:=nW (R:=R) (N:=N) (P:=P) (Q:=Q) (f:=f) (g:=g) (X:=X.set p d) A B hX2 k hs hD (by rw[hDq];exact Nat.le_add_left 1 _) hr (by omega) p 0 N (X.set p d) 0 (by omega) (by omega) hX2 k (fun _ _ _ _=>rfl) (by omega) (by simp[val])
   refine⟨Y',q1,q2,q3,fun K=>?_⟩
   rw[Da];unfold E9
   rw[FG (Nat.le_refl _),cf,Aj (by omega),ct,sQ (by omega),ct,tN (by omega),ct,hXp,Er (show U[p]<18446744073709551616 by omega),C,F,show(((1:Nat):Int)==0)=false by rfl,cf,qt (by omega)]
   have:=q4 K
   rw[show D - 1=val U/val v by rw[hDq];rfl] at this
   exact this
 | m+1,p,b+1,X,t,hp,hfu,hX,hXl,i,L,s=>by
  have y:p<n:=by omega
  have x:p<v.length:=by omega
  have vp:=Aq A x
  have q:p<X.length:=by omega
  have hXp:X[p]=U[p]:=i p (by omega) (by omega) (Nat.le_refl _)
  have up:=Aq hU (show p<U.length by omega)
  obtain⟨hw1,hw2⟩:=rj hD vp L
  have hDv:D*v[p]<18446744073709551616:=by omega
  generalize z:D*v[p]+t=w at *
  obtain⟨d,c,S,g2,T,C,F⟩:=Z8 up (show w%4294967296≤4294967296 by omega)
  have key:val ((X.set p d).take (p+1))+D*val (v.take (p+1))=val (U.take (p+1))+4294967296 ^ (p+1)*(w/4294967296+c):=by
   rw[IQ q,An x,An (l:=U) (by omega),Nat.pow_succ]
   have e:=G9 (4294967296 ^ p) w
   have e2:4294967296 ^ p*w=4294967296 ^ p*(D*v[p])+4294967296 ^ p*t:=by rw[←z,Nat.mul_add]
   have e3:4294967296 ^ p*(U[p]+4294967296*c)=4294967296 ^ p*(d+w%4294967296):=by rw[T]
   rw[Nat.mul_add,Nat.mul_add,←Nat.mul_assoc] at e3
   have e4:D*(val (v.take p)+4294967296 ^ p*v[p])=D*val (v.take p)+4294967296 ^ p*(D*v[p]):=by rw[Nat.mul_add,Nat.mul_left_comm]
   rw[e4,Nat.mul_add]
   omega
  obtain⟨X',q1,q2,q3,q4⟩:=qu (N:=N) (P:=P) (Q:=Q) (f:=f) (g:=g) A B hU hUl hs hN hD u G I m (p+1) b (X.set p d) (w/4294967296+c) (by omega) (by omega) (Bn hX S p) (by simpa using hXl) (fun j h1 h2 hj=>by rw[List.getElem_set,if_neg (by omega)];exact i j (by simpa using h1) h2 (by omega)) (by omega) key
  refine⟨X',q1,q2,q3,fun K=>?_⟩
  rw[Da];unfold E9
  rw[Wj y,ct,Aj y,ct,Wk x,Aj (by omega),ct,sQ q,ct,tN q,ct,hXp,Er (show v[p]<18446744073709551616 by omega),VN,Er hDv,Q7,z,Er hw1,EX,Er (show w%4294967296<18446744073709551616 by omega),Er (show U[p]<18446744073709551616 by omega),C,F,MD,Q7,Er (by omega),qt q,wS (by omega)]
  exact q4 K
end
end Gx

namespace Gx
open Go Go.Proofs
section
variable {R:Type}
theorem CF (a b:Nat):Int.tdiv (a:Int) (b:Int)=((a/b:Nat):Int):=rfl
theorem Xw (a b:Nat):Int.tmod (a:Int) (b:Int)=((a%b:Nat):Int):=rfl
theorem sR {l:Nat} (h:l<4294967296):(((Int.fdiv (l:Int) (2 ^ 32)) != (0:Int)))=false:=by rw[MD,Nat.div_eq_of_lt h];rfl
theorem sS {l:Nat} (h:4294967296≤l):(((Int.fdiv (l:Int) (2 ^ 32)) != (0:Int)))=true:=by
 have b:l/4294967296≠0:=by omega
 rw[MD];rw[bne_iff_ne];omega
theorem si {a b:Nat} (c:a<4294967296) (d:b<4294967296):I6 .u64 (IntKind.wrap .u64 ((a:Int)*2 ^ 32)) (b:Int)=((a*4294967296+b:Nat):Int):=by
 rw[show(2:Int) ^ 32=((2 ^ 32:Nat):Int) by rfl,VN,Er (by omega),l9 (by omega) (by omega),ME (by omega)]
theorem sj {B l v1 v2 m u2:Nat} (h:m*B+u2<l*v2):(l*v1+m)*B+u2<l*(v1*B+v2):=by rw[Nat.add_mul,Nat.mul_add,←Nat.mul_assoc l v1];omega
theorem sk {B l v1 v2 m u2:Nat} (h:l*v2≤m*B+u2):l*(v1*B+v2)≤(l*v1+m)*B+u2:=by rw[Nat.add_mul,Nat.mul_add,←Nat.mul_assoc l v1];omega
theorem sm {B u0 u1 u2 v1 v2:Nat} (b:v2<B) (h:(u0*B+u1)*B+u2<(v1*B+v2+1)*B):u0*B+u1<v1*B+B:=by
 have:u0*B+u1<v1*B+v2+1:=Nat.lt_of_mul_lt_mul_right (Nat.lt_of_le_of_lt (Nat.le_add_right _ u2) h)
 omega
theorem tH (P x:Nat):P*4294967296*x=P*(x*4294967296):=by rw[Nat.mul_assoc,Nat.mul_comm 4294967296]
theorem qv {N:Nat} {P Q U v:List Nat} {n:Nat} {f g:Bool} {K:Int→LA→O R} (hn:v.length=n+2) (G:Ae v) (hU:Ae U) (hUl:U.length=n+3) (hs:n≤1000000000000) {v1 v2 u2 top:Nat}
  (I:v[n+1]'(by omega)=v1) (L:v[n]'(by omega)=v2) (M:U[n]'(by omega)=u2) (z:2147483648≤v1) (S:top<v1*4294967296+4294967296)
  (hV:(v1*4294967296+v2)*4294967296 ^ n≤val v) (hV':val v<(v1*4294967296+v2+1)*4294967296 ^ n) (hUU:(top*4294967296+u2)*4294967296 ^ n≤val U) (hUU':val U<(top*4294967296+u2+1)*4294967296 ^ n) (hq:val U/val v<4294967296) :
  ∀ (k b l m:Nat),k<b→4294967296≤m+k*2147483648→m<4294967296→l*v1+m=top→val U/val v≤l→∃ D,D<4294967296∧val U/val v≤D∧D≤val U/val v+1 ∧
   Cn N K P.length (n+3) (Aa v) (n+2) f g (Aa (P++(U++Q))) b ((n+2:Nat):Int) (l:Int) (m:Int)=Cm N K P.length (n+3) (Aa v) (n+2) f g ((n+2:Nat):Int) (Aa (P++(U++Q))) (D:Int):=by
 have X:=Aq G (show n+1<v.length by omega)
 have Y:=Aq G (show n<v.length by omega)
 have T:=Aq hU (show n<U.length by omega)
 rw[I] at X;rw[L] at Y;rw[M] at T
 have hP:0<4294967296 ^ n:=Nat.pow_pos (by omega)
 have j:0<val v:=Nat.lt_of_lt_of_le (Nat.mul_pos (by omega) hP) hV
 intro k
 induction k with
 | zero=>intro b l m _ h1 h2;omega
 | succ k ih =>
  intro b l m hf hm A t B
  obtain⟨b,rfl⟩:∃ F,b=F+1:=⟨b - 1,by omega⟩
  generalize s:val U/val v=q at *
  have wi1:IntKind.wrap .i64 (((n+2:Nat):Int) - 1)=((n+1:Nat):Int):=by rw[i64 (by omega)];omega
  have wi2:IntKind.wrap .i64 (((n+2:Nat):Int) - 2)=((n:Nat):Int):=by rw[i64 (by omega)];omega
  have lower:q<l→l<18446744073709551616→∃ D,D<4294967296∧q≤D∧D≤q+1 ∧
    Ga N (Cn N K P.length (n+3) (Aa v) (n+2) f g (Aa (P++(U++Q))) b) K P.length (n+3) (Aa v) (n+2) f g ((n+2:Nat):Int) (l:Int) (m:Int) (Aa (P++(U++Q)))=Cm N K P.length (n+3) (Aa v) (n+2) f g ((n+2:Nat):Int) (Aa (P++(U++Q))) (D:Int):=by
   intro hlt c
   have i:(l - 1)*v1+(m+v1)=top:=by
    have:l*v1=(l - 1)*v1+v1:=by
     obtain⟨V,rfl⟩:∃ V,l=V+1:=⟨l - 1,by omega⟩
     rw[Nat.add_mul];simp
    omega
   unfold Ga K9
   rw[wi1,Aj (by omega),ct,Wk (show n+1<v.length by omega),I,Er (show v1<18446744073709551616 by omega),Q7,Er (show m+v1<18446744073709551616 by omega),nV (by omega) c]
   by_cases u:4294967296≤m+v1
   ·have hDB:l - 1<4294967296:=by
     apply Nat.lt_of_not_le;intro C
     have:=Nat.mul_le_mul_right v1 C
     rw[Nat.mul_comm 4294967296] at this
     omega
    have d:(l - 1)*(v1*4294967296+v2)≤top*4294967296+u2:=by
     have x1:(l - 1)*v2≤4294967295*4294967295:=Nat.mul_le_mul (by omega) (by omega)
     rw[←i,Nat.add_mul,Nat.mul_add,←Nat.mul_assoc]
     omega
    have e:=dd hV' hUU d (by omega) j
    rw[s] at e
    exact⟨l - 1,hDB,by omega,e,by rw[sS u,ct]⟩
   ·obtain⟨D,d1,d2,d3,d4⟩:=ih b (l - 1) (m+v1) (by omega) (by omega) (by omega) i (by omega)
    exact⟨D,d1,d2,d3,by rw[sR (by omega),cf,d4]⟩
  rw[Cn];unfold La
  by_cases hlB:l<4294967296
  ·rw[sR hlB,show((false:Bool)==false)=true by rfl,ct,wi2,Aj (by omega),ct,Wk (show n<v.length by omega),Aj (by omega),ct,sQ (show n<U.length by omega),uO,L,M,Er (show v2<18446744073709551616 by omega),Er (show u2<18446744073709551616 by omega),VN]
   have x1:l*v2≤4294967295*4294967295:=Nat.mul_le_mul (by omega) (by omega)
   rw[Er (show l*v2<18446744073709551616 by omega),si A T]
   by_cases x:m*4294967296+u2<l*v2
   ·rw[show decide (((l*v2:Nat):Int)>((m*4294967296+u2:Nat):Int))=true by rw[decide_eq_true_eq];omega,ct]
    have y:val U/val v<l:=dc hV hUU' (by rw[←t];exact sj x) j
    rw[s] at y
    exact lower y (by omega)
   ·rw[show decide (((l*v2:Nat):Int)>((m*4294967296+u2:Nat):Int))=false by rw[decide_eq_false_iff_not];omega,cf]
    have d:l*(v1*4294967296+v2)≤top*4294967296+u2:=by
     rw[←t];exact sk (Nat.le_of_not_lt x)
    have e:=dd hV' hUU d (by omega) j
    rw[s] at e
    exact⟨l,hlB,B,e,rfl⟩
  ·rw[sS (by omega),show((true:Bool)==false)=false by rfl,cf]
   have c:l<18446744073709551616:=by
    have:l*2147483648≤l*v1:=Nat.mul_le_mul_left _ z
    omega
   exact lower (by omega) c
theorem XD {N:Nat} {P Q U v:List Nat} {n:Nat} {f g:Bool} (F:v.length=n+2) (j:Ae v) (hU:Ae U) (hUl:U.length=n+3) (hs:n≤1000000000) (hN:n+8<N) (y:2147483648≤v[n+1]'(by omega)) (z:val U<val v*4294967296) :
  ∃ U',Ae U'∧U'.length=n+3∧val U'=val U%val v∧∀ K:Int→LA→O R,Fx N P.length (n+3) (Aa v) (n+2) f g (Aa (P++(U++Q))) K=K ((val U/val v:Nat):Int) (Aa (P++(U'++Q))):=by
 have b1:=Aq j (show n+1<v.length by omega)
 have L:=Aq j (show n<v.length by omega)
 have b3:=Aq hU (show n<U.length by omega)
 have M:=Aq hU (show n+1<U.length by omega)
 have S:=Aq hU (show n+2<U.length by omega)
 have hP:0<4294967296 ^ n:=Nat.pow_pos (by omega)
 have vv:val v=val (v.take n)+4294967296 ^ n*(v[n+1]'(by omega)*4294967296+v[n]'(by omega)):=by
  have b:=An (l:=v) (c:=n+1) (by omega)
  have d:=An (l:=v) (c:=n) (by omega)
  rw[List.take_of_length_le (by omega)] at b
  rw[b,d,Nat.pow_succ,Nat.mul_add,Nat.mul_assoc,Nat.mul_comm 4294967296 v[n+1]];omega
 have uu:val U=val (U.take n)+4294967296 ^ n*((U[n+2]'(by omega)*4294967296+U[n+1]'(by omega))*4294967296+U[n]'(by omega)):=by
  have G:=An (l:=U) (c:=n+2) (by omega)
  have b:=An (l:=U) (c:=n+1) (by omega)
  have d:=An (l:=U) (c:=n) (by omega)
  rw[List.take_of_length_le (by omega)] at G
  have x1:4294967296 ^ (n+2)*U[n+2]=4294967296 ^ n*(U[n+2]*4294967296*4294967296):=by rw[Nat.pow_succ (n:=4294967296) (m:=n+1),Nat.pow_succ,tH,tH]
  have x2:4294967296 ^ (n+1)*U[n+1]=4294967296 ^ n*(U[n+1]*4294967296):=by rw[Nat.pow_succ,tH]
  rw[G,b,d,x1,x2,Nat.add_mul,Nat.mul_add,Nat.mul_add];omega
 have tv:=Bd (Bh j n)
 have tu:=Bd (Bh hU n)
 rw[List.length_take,Nat.min_eq_left (by omega)] at tv tu
 generalize A:v[n+1]'(by omega)=v1 at *
 generalize T:v[n]'(by omega)=v2 at *
 generalize V:U[n]'(by omega)=u2 at *
 generalize Y:U[n+1]'(by omega)=u1 at *
 generalize e5:U[n+2]'(by omega)=u0 at *
 have k:0<val v:=by
  have:0<4294967296 ^ n*(v1*4294967296+v2):=Nat.mul_pos hP (by omega)
  omega
 have hV:(v1*4294967296+v2)*4294967296 ^ n≤val v:=by rw[Nat.mul_comm];omega
 have hV':val v<(v1*4294967296+v2+1)*4294967296 ^ n:=by rw[Nat.mul_comm,Nat.mul_add];omega
 have hUU:((u0*4294967296+u1)*4294967296+u2)*4294967296 ^ n≤val U:=by rw[Nat.mul_comm];omega
 have hUU':val U<((u0*4294967296+u1)*4294967296+u2+1)*4294967296 ^ n:=by rw[Nat.mul_comm,Nat.mul_add];omega
 have hq:val U/val v<4294967296:=Nat.div_lt_of_lt_mul z
 have e:u0*4294967296+u1<v1*4294967296+4294967296:=by
  have b:((u0*4294967296+u1)*4294967296+u2)*4294967296 ^ n<(v1*4294967296+v2+1)*4294967296 ^ n*4294967296:=by
   have:=(Nat.mul_lt_mul_right (show 0<4294967296 by omega)).2 hV'
   omega
  rw[Nat.mul_right_comm] at b
  exact sm L (Nat.lt_of_mul_lt_mul_right b)
 obtain⟨top,s⟩:∃ top,u0*4294967296+u1=top:=⟨_,rfl⟩
 rw[s] at hUU hUU' e
 have B:=Nat.div_add_mod top v1
 have I:=Nat.mod_lt top (show 0<v1 by omega)
 have C:val U/val v≤top/v1:=by
  have b:val U/val v<top/v1+1:=by
   apply dc hV hUU' _ k
   have d:top<v1*(top/v1+1):=by rw[Nat.mul_add];omega
   have h3:(top+1)*4294967296≤v1*(top/v1+1)*4294967296:=Nat.mul_le_mul_right _ d
   rw[Nat.mul_add,←Nat.mul_assoc,Nat.mul_comm _ v1]
   omega
  omega
 have key:∀ K:Int→LA→O R,∃ D,D<4294967296∧val U/val v≤D∧D≤val U/val v+1∧Fx N P.length (n+3) (Aa v) (n+2) f g (Aa (P++(U++Q))) K=Cm N K P.length (n+3) (Aa v) (n+2) f g ((n+2:Nat):Int) (Aa (P++(U++Q))) (D:Int):=by
  intro K
  obtain⟨D,t,u,x,i⟩:=qv (R:=R) (N:=N) (P:=P) (Q:=Q) (f:=f) (g:=g) (K:=K) F j hU hUl (by omega) A T V y e hV hV' hUU hUU' hq 2 N (top/v1) (top%v1) (by omega) (by omega) (by omega) (by rw[Nat.mul_comm];exact B) C
  refine⟨D,t,u,x,?_⟩
  rw[←i,Si];unfold Lx
  have wi1:IntKind.wrap .i64 (((n+2:Nat):Int) - 1)=((n+1:Nat):Int):=by rw[i64 (by omega)];omega
  rw[Aj (by omega),ct,uD (show n+2<U.length by omega),wi1,Aj (by omega),ct,sQ (show n+1<U.length by omega),Aj (by omega),ct,Wk (show n+1<v.length by omega),A,Y,e5,Er (show v1<18446744073709551616 by omega),bX (by omega),cf,ct,Wk (show n+1<v.length by omega),A,Er (show v1<18446744073709551616 by omega),bX (by omega),cf,Er (show u0<18446744073709551616 by omega),Er (show u1<18446744073709551616 by omega),si S M,s,CF,Xw,Er (show top/v1<18446744073709551616 from Nat.lt_of_le_of_lt (Nat.div_le_self _ _) (by omega))]
 have fin:∀ D,D<4294967296→val U/val v≤D→D≤val U/val v+1→∃ U',Ae U'∧U'.length=n+3∧val U'=val U%val v∧∀ K:Int→LA→O R,Cm N K P.length (n+3) (Aa v) (n+2) f g ((n+2:Nat):Int) (Aa (P++(U++Q))) (D:Int)=K ((val U/val v:Nat):Int) (Aa (P++(U'++Q))):=by
  intro D t u x
  obtain⟨X',q1,q2,q3,q4⟩:=qu (R:=R) (N:=N) (P:=P) (Q:=Q) (U:=U) (v:=v) (n:=n+2) (D:=D) (f:=f) (g:=g) j F hU hUl (by omega) (by omega) t k u x (n+2) 0 N U 0 (by omega) (by omega) hU hUl (fun _ _ _ _=>rfl) (by omega) (by simp[val])
  exact⟨X',q1,q2,q3,fun K=>by unfold Cm K8;exact q4 K⟩
 by_cases hz:val U/val v+1<4294967296
 ·obtain⟨U1,a1,a2,a3,a4⟩:=fin (val U/val v) hq (Nat.le_refl _) (by omega)
  obtain⟨U2,c1,c2,c3,c4⟩:=fin (val U/val v+1) hz (by omega) (Nat.le_refl _)
  have:U1=U2:=by
   have b:=(A1 a1).1;have d:=(A1 c1).1
   rw[a3] at b;rw[c3] at d;rw[b,d,a2,c2]
  subst this
  refine⟨U1,a1,a2,a3,fun K=>?_⟩
  obtain⟨D,t,u,x,i⟩:=key K
  have:D=val U/val v∨D=val U/val v+1:=by
   generalize val U/val v=q at *;omega
  rcases this with rfl | rfl
  ·rw[i,a4 K]
  ·rw[i,c4 K]
 ·obtain⟨U1,a1,a2,a3,a4⟩:=fin (val U/val v) hq (Nat.le_refl _) (by omega)
  refine⟨U1,a1,a2,a3,fun K=>?_⟩
  obtain⟨D,t,u,x,i⟩:=key K
  have:D=val U/val v:=by
   generalize val U/val v=q at *;omega
  subst this
  rw[i,a4 K]
end
end Gx

namespace Gx
open Go Go.Proofs
section
variable {R:Type}
theorem Xx {l:List Nat} {d:Nat} (h:d<l.length):val (l.drop d)=l[d]+4294967296*val (l.drop (d+1)):=by
 rw[List.drop_eq_getElem_cons h,val]
theorem j6 {S:List Nat} {d v:Nat} (h:d<S.length):(S.set d v).drop d=v::S.drop (d+1):=by
 rw[List.drop_eq_getElem_cons (by simpa using h),List.getElem_set_self,List.drop_set_of_lt (by omega)]
theorem PO {N:Nat} {a:List Nat} {t o:Bool} {b:Nat} (q:Ae a) (f:0<b) (x:b<4294967296) (i:fit a.length N):∀ (c d:Nat) (S:List Nat) (r:Nat),c<d→c≤a.length→Ae S→S.length=a.length→r<b→val (S.drop c)*b+r=val (a.drop c) →
  ∃ S' S2,Ae S'∧val S'=val a/b∧Ae S2∧val S2=val a%b∧∀ K:Nat→Nat→LA→LA→O R,Ca N K (Aa a) a.length t o (b:Int) d (r:Int) ((c:Int) - 1) (Aa S)=K (Af (val a/b)).length (Af (val a%b)).length (Aa S') (Aa S2)
 | 0,d+1,S,r,_,_,hS,l,m,j=>by
  have y:=i.1
  rw[List.drop_zero,List.drop_zero] at j
  have hq:val a/b=val S:=by
   rw[←j,Nat.mul_comm,Nat.mul_add_div f,Nat.div_eq_of_lt m,Nat.add_zero]
  have s:val a%b=r:=by rw[←j,Nat.mul_comm,Nat.mul_add_mod,Nat.mod_eq_of_lt m]
  obtain⟨S2,s1,s2,z⟩:=Fu (R:=R) (N:=N) (v:=r) (by omega) (by omega)
  refine⟨S,S2,hS,hq.symm,s1,by rw[s,s2],fun K=>?_⟩
  rw[Ca];unfold E3
  rw[show decide ((((0:Nat):Int) - 1)≥0)=false by simp,cf,Sa l.symm hS (by rw[l];exact i),z,hq,s]
 | c+1,d+1,S,r,A,L,hS,l,m,j=>by
  have y:=i.1;have M:=i.2
  have e:c<a.length:=by omega
  have ac:=Aq q e
  have hrB:r<4294967296:=by omega
  have u:r*4294967296+a[c]<b*4294967296:=by
   have:(r+1)*4294967296≤b*4294967296:=Nat.mul_le_mul_right _ m
   rw[Nat.add_mul] at this;omega
  have n:r*4294967296+a[c]<18446744073709551616:=by omega
  obtain⟨w,k⟩:∃ w,r*4294967296+a[c]=w:=⟨_,rfl⟩
  rw[k] at u n
  have hqB:w/b<4294967296:=Nat.div_lt_of_lt_mul u
  have B:=Nat.div_add_mod w b
  obtain⟨S',S2,C,D,F,G,I⟩:=PO (t:=t) (o:=o) q f x i c d (S.set c (w/b)) (w%b) (by omega) (by omega) (Bn hS hqB c) (by simpa using l) (Nat.mod_lt _ f) (by
   rw[j6 (by omega),val,Xx e,Nat.add_mul,Nat.mul_assoc,←j,Nat.mul_add,Nat.mul_comm (w/b)]
   omega)
  refine⟨S',S2,C,D,F,G,fun K=>?_⟩
  rw[Ca];unfold E3
  rw[show(((c+1:Nat):Int) - 1)=(c:Int) by omega,show decide ((c:Int)≥0)=true by simp,ct,Aj e,ct,Wk e,Er (show b<18446744073709551616 by omega),bX (by omega),cf,ct,d5 (by omega),ct,cf,Er (show a[c]<18446744073709551616 by omega),si hrB ac,k,CF,Xw,Er (show w/b<18446744073709551616 by omega),nT hqB,Xn,i64 (by omega)]
  exact I K
theorem j7 {N:Nat} {a:List Nat} {n:Nat} {t o:Bool} {b:Nat} (e:n=a.length) (f:Ae a) (c:0<b) (i:b<4294967296) (d:fit a.length N) :
  ∃ S' S2,Ae S'∧val S'=val a/b∧Ae S2∧val S2=val a%b∧∀ K:Nat→Nat→LA→LA→O R,C9 N (Aa a) n t o (b:Int) K=K (Af (val a/b)).length (Af (val a%b)).length (Aa S') (Aa S2):=by
 subst e
 have s:=d.1;have u:=d.2
 obtain⟨S',S2,j,k,l,m,q⟩:=PO (R:=R) (t:=t) (o:=o) f c i d a.length N (List.replicate a.length 0) 0 (by omega) (Nat.le_refl _) (Bk _) (by simp) c (by rw[List.drop_eq_nil_of_le (by simp),List.drop_eq_nil_of_le (by simp)];simp[val])
 refine⟨S',S2,j,k,l,m,fun K=>?_⟩
 rw[Ms];unfold Hy
 rw[pu (by omega),ct,i64 (by omega),Bt]
 exact q K
theorem qw {x V s:Nat} (f:x<4294967296) (i:s≤31):(x+4294967296*V)/2 ^ s=(x+4294967296*(V%4294967296))/2 ^ s%4294967296+4294967296*(V/2 ^ s):=by
 have b:0<2 ^ s:=Nat.pow_pos (by omega)
 have d:2 ^ s∣4294967296:=⟨2 ^ (32 - s),by rw[←Nat.pow_add,show s+(32 - s)=32 by omega]⟩
 have key:∀ W,(x+4294967296*W)/2 ^ s=(x+4294967296*(W%2 ^ s))/2 ^ s+4294967296*(W/2 ^ s):=by
  intro W
  have e:x+4294967296*W=x+4294967296*(W%2 ^ s)+2 ^ s*(4294967296*(W/2 ^ s)):=by
   have h:=Nat.div_add_mod W (2 ^ s)
   have:4294967296*W=4294967296*(2 ^ s*(W/2 ^ s)+W%2 ^ s):=by rw[h]
   rw[this,Nat.mul_add,Nat.mul_left_comm];omega
  rw[e,Nat.add_mul_div_left _ _ b]
 have c:(x+4294967296*(V%2 ^ s))/2 ^ s<4294967296:=by
  rw[Nat.div_lt_iff_lt_mul b]
  have:V%2 ^ s+1≤2 ^ s:=Nat.mod_lt _ b
  have:=Nat.mul_le_mul_left 4294967296 this
  rw[Nat.mul_add] at this
  omega
 rw[key V,key (V%4294967296),Nat.mod_mod_of_dvd _ d,Nat.add_mul_mod_self_left,Nat.mod_eq_of_lt c]
theorem rk:∀ {l:List Nat},Ae l→val l%4294967296=l.getD 0 0
 | [],_=>rfl
 | x::r,h=>by
  have:=(Bz.1 h).1
  simp[val];omega
theorem j8 {N:Nat} {a:List Nat} {o:Bool} {s:Nat} (k:Ae a) (y:s≤31) (l:fit a.length N):∀ (m d b:Nat) (S:List Nat),d+m=a.length→m<b→Ae S→S.length=a.length→oc S d→val S+4294967296 ^ d*(val (a.drop d)/2 ^ s)=val a/2 ^ s →
  ∃ S',Ae S'∧val S'=val a/2 ^ s∧∀ K:Nat→Bool→LA→O R,Bw N K o b (Aa a) a.length (s:Int) a.length (Aa a) a.length (a.length:Int) (d:Int) (Aa S)=K (Af (val a/2 ^ s)).length true (Aa S')
 | 0,d,b+1,S,z,_,hS,n,q,i=>by
  have t:d=a.length:=by omega
  subst t
  rw[List.drop_length] at i
  simp[val] at i
  refine⟨S,hS,i,fun K=>?_⟩
  rw[Bw];unfold Em
  rw[FG (Nat.le_refl _),cf,Sa n.symm hS (by rw[n];exact l),i]
 | m+1,d,b+1,S,z,A,hS,n,q,i=>by
  have D:=l.1;have F:=l.2
  have c:d<a.length:=by omega
  have ad:=Aq k c
  have step:=qw (V:=val (a.drop (d+1))) ad y
  rw[rk (Ty k _),←Xx c] at step
  have B:(a.drop (d+1)).getD 0 0=a.getD (d+1) 0:=by simp[List.getD_eq_getElem?_getD,List.getElem?_drop]
  rw[B] at step
  have go:∀ w,(a[d]+4294967296*a.getD (d+1) 0)/2 ^ s=w→∃ S',Ae S'∧val S'=val a/2 ^ s∧∀ K:Nat→Bool→LA→O R,Bw N K o b (Aa a) a.length (s:Int) a.length (Aa a) a.length (a.length:Int) ((d+1:Nat):Int) (Aa (S.set d (w%4294967296)))=K (Af (val a/2 ^ s)).length true (Aa S'):=by
   intro w C
   refine j8 (o:=o) k y l m (d+1) b (S.set d (w%4294967296)) (by omega) (by omega) (Bn hS (by omega) d) (by simpa using n) (Pv q) ?_
   rw[Lv q (by omega),←i,step,C,Nat.pow_succ,Nat.mul_add,Nat.mul_assoc];omega
  by_cases j:d+1<a.length
  ·have an:=Aq k j
   have f:a.getD (d+1) 0=a[d+1]:=by rw[List.getD_eq_getElem?_getD,List.getElem?_eq_getElem j];rfl
   rw[f] at go
   obtain⟨S',u,v,x⟩:=go _ rfl
   refine⟨S',u,v,fun K=>?_⟩
   rw[Bw];unfold Em
   have e:I6 .u64 ((a[d]:Nat):Int) (IntKind.wrap .u64 (((a[d+1]:Nat):Int)*2 ^ 32))=((a[d]+4294967296*a[d+1]:Nat):Int):=by
    rw[show(2:Int) ^ 32=((2 ^ 32:Nat):Int) by rfl,VN,Er (by omega),l9 (by omega) (by omega),Nat.or_comm,ME (by omega)]
    congr 1;omega
   rw[Wj c,ct,Aj c,ct,Wk c,wS (by omega),Wj j,ct,Aj j,ct,Wk j,show decide (((s:Nat):Int)<0)=false by simp,cf,ct,d5 (by omega),ct,Er (show a[d]<18446744073709551616 by omega),Er (show a[d+1]<18446744073709551616 by omega),e,Int.toNat_natCast s,Nat.min_eq_left (by omega),Jq,EX,Xn]
   exact x K
  ·have f:a.getD (d+1) 0=0:=by rw[List.getD_eq_getElem?_getD,List.getElem?_eq_none (by omega)];rfl
   rw[f,Nat.mul_zero,Nat.add_zero] at go
   obtain⟨S',u,v,x⟩:=go _ rfl
   refine⟨S',u,v,fun K=>?_⟩
   rw[Bw];unfold Em
   rw[Wj c,ct,Aj c,ct,Wk c,wS (by omega),FG (by omega),cf,show decide (((s:Nat):Int)<0)=false by simp,cf,ct,d5 (by omega),ct,Er (show a[d]<18446744073709551616 by omega),Int.toNat_natCast s,Nat.min_eq_left (by omega),Jq,EX,Xn]
   exact x K
theorem qy {N:Nat} {a:List Nat} {n:Nat} {t o:Bool} {s:Nat} (e:n=a.length) (c:Ae a) (j:s≤31) (b:fit a.length N) :
  ∃ S',Ae S'∧val S'=val a/2 ^ s∧∀ K:Nat→Bool→LA→O R,Gj N (Aa a) n t o (s:Int) K=K (Af (val a/2 ^ s)).length true (Aa S'):=by
 have u:=b.1;have v:=b.2
 have la:=(A1 c).2
 have f:IntKind.wrap .i64 (Int.tdiv ((s:Nat):Int) 32)=((0:Nat):Int):=by
  rw[show(32:Int)=((32:Nat):Int) by rfl,CF,Nat.div_eq_of_lt (by omega)];decide
 have k:Int.tmod ((s:Nat):Int) 32=(s:Int):=by rw[show(32:Int)=((32:Nat):Int) by rfl,Xw,Nat.mod_eq_of_lt (by omega)]
 by_cases d:val a=0
 ·refine⟨[],Ky,by rw[d];simp[val],fun K=>?_⟩
  rw[J4];unfold Hb
  rw[show decide (((s:Nat):Int)<0)=false by simp,cf,A9 e c b,d,f,Nat.zero_div,B6];rfl
 ·obtain⟨S',l,i,m⟩:=j8 (R:=R) (o:=o) (a:=Af (val a)) (Ab _) j (b.le la) (Af (val a)).length 0 N (List.replicate (Af (val a)).length 0) (by omega) (by omega) (Bk _) (by simp) (Gi _) (by rw[Cg];simp)
  rw[Ac] at i
  refine⟨S',l,i,fun K=>?_⟩
  rw[J4];unfold Hb
  have q:(Af (val a)).length≠0:=fun h=>d (A3.1 h)
  rw[show decide (((s:Nat):Int)<0)=false by simp,cf,A9 e c b,f,k,show decide (((0:Nat):Int)≥(((Af (val a)).length:Nat):Int))=false by rw[decide_eq_false_iff_not];omega,cf]
  have c1:((decide ((0:Int)≤((0:Nat):Int)))&&((decide (((0:Nat):Int)≤(((Af (val a)).length:Nat):Int)))&&((decide ((((Af (val a)).length:Nat):Int)≤(((Af (val a)).length:Nat):Int)))&&(decide ((((Af (val a)).length:Nat):Int)≤(((Af (val a)).length:Nat):Int))))))=true:=by simp
  rw[c1,ct,Int.toNat_natCast,Nat.sub_zero,pu (by omega),ct,Nat.zero_mul,List.drop_zero,Nat.mul_one,Kz,List.take_length,Bt]
  have:=m K
  rw[Ac] at this
  exact this
end
end Gx

namespace Gx
open Go Go.Proofs
section
variable {R:Type}
theorem Ub {S:List Nat} {k:Nat} (h:val S<4294967296 ^ k):val (S.take k)=val S:=by
 by_cases d:k≤S.length
 ·have b:=Iq (S.take k) (S.drop k)
  rw[List.take_append_drop,List.length_take,Nat.min_eq_left d] at b
  rcases Nat.eq_zero_or_pos (val (S.drop k)) with c | c
  ·rw[c] at b;simpa using b.symm
  ·have:=Nat.le_mul_of_pos_right (4294967296 ^ k) c
   omega
 ·rw[List.take_of_length_le (by omega)]
theorem Uc {S:List Nat} {n:Nat} (hS:Ae S) (h:S.length=n+1):val S<(S[n]+1)*4294967296 ^ n:=by
 have c:=Ss h
 have b:=Bd (Bh hS n)
 rw[List.length_take,Nat.min_eq_left (by omega)] at b
 rw[Nat.add_mul,Nat.mul_comm S[n]];omega
theorem uY {a b c:Nat} (d:a≤b) (e:b≤c):((decide ((0:Int)≤(a:Int)))&&((decide ((a:Int)≤(b:Int)))&&((decide ((b:Int)≤(c:Int)))&&(decide ((c:Int)≤(c:Int))))))=true:=by simp;omega
theorem eK {N:Nat} {v u0 Sv:List Nat} {n D s:Nat} (F:v.length=n+2) (G:Ae v) (y:2147483648≤v[n+1]'(by omega)) (hSv:List.take ((n+2)*1) (Aa Sv)=Aa v) (hu:Ae u0) (L:u0.length=D+(n+2)) (X:s≤31) (m:fit (D+n+4) N) :
  ∀ (j b c:Nat) (W q:List Nat),j<b→c+j=D→Ae W→W.length=u0.length→Ae q→q.length=D→W.take j=u0.take j→val (W.drop j)<val v→val (q.drop j)*val v+val (W.drop j)=val (u0.drop j) →
  ∃ Sq Sr,Ae Sq∧val Sq=val u0/val v∧Ae Sr∧val Sr=val u0%val v/2 ^ s∧∀ K:Nat→Nat→LA→LA→O R,Cd N K (s:Int) (n+2) u0.length (Aa Sv) b D ((n+2:Nat):Int) (D:Int) (D:Int) (c:Int) (Aa q) (Aa W)=K (Af (val u0/val v)).length (Af (val u0%val v/2 ^ s)).length (Aa Sq) (Aa Sr)
 | 0,b+1,c,W,q,_,hc,hW,hWl,hq,i,u,I,e=>by
  have h1:=m.1;have h2:=m.2
  simp only[List.drop_zero] at e I
  have x:0<val v:=by omega
  have vlt:=Bd G
  rw[F] at vlt
  have A:val u0/val v=val q:=by rw[←e,Nat.mul_comm,Nat.mul_add_div x,Nat.div_eq_of_lt I,Nat.add_zero]
  have hm:val u0%val v=val W:=by rw[←e,Nat.mul_comm,Nat.mul_add_mod,Nat.mod_eq_of_lt I]
  have ht:val (W.take (n+2))=val W:=Ub (by omega)
  have B:(W.take (n+2)).length=n+2:=by rw[List.length_take];omega
  obtain⟨S',q1,Y,q4⟩:=qy (R:=R) (N:=N) (a:=W.take (n+2)) (n:=n+2) (t:=false) (o:=true) (s:=s) B.symm (Bh hW _) X (m.le (by rw[B];omega))
  rw[ht,←hm] at Y q4
  refine⟨q,S',hq,A.symm,q1,Y,fun K=>?_⟩
  have hcD:c=D:=by omega
  subst hcD
  rw[Cd];unfold Gy
  rw[FG (Nat.le_refl _),cf,sM (by omega),ct,Int.toNat_natCast,Nat.mul_one,Kz,q4,Sa i.symm hq (by rw[i];exact m.le (by omega)),←A]
 | j+1,b+1,c,W,q,hfu,hc,hW,hWl,hq,i,u,I,e=>by
  have h1:=m.1;have h2:=m.2
  have vlt:=Bd G
  rw[F] at vlt
  have hjW:j<W.length:=by omega
  have C:j<u0.length:=by omega
  have M:j<q.length:=by omega
  have hWj:W[j]=u0[j]:=by
   have:=congrArg (fun l=>l[j]?) u
   simp only[List.getElem?_take_of_lt (show j<j+1 by omega),List.getElem?_eq_getElem hjW,List.getElem?_eq_getElem C] at this
   exact Option.some.inj this
  have wj:=Aq hW hjW
  have eW:=Xx hjW
  have eu:=Xx C
  have hUl:((W.drop j).take (n+3)).length=n+3:=by rw[List.length_take,List.length_drop];omega
  have d:val (W.drop j)<val v*4294967296:=by rw[eW];omega
  have hB:val (W.drop j)<4294967296 ^ (n+3):=by
   have:=(Nat.mul_lt_mul_right (show 0<4294967296 by omega)).2 vlt
   rw[←Nat.pow_succ] at this;exact Nat.lt_trans d this
  have hU:val ((W.drop j).take (n+3))=val (W.drop j):=Ub hB
  have k:W=W.take j++((W.drop j).take (n+3)++(W.drop j).drop (n+3)):=by rw[List.take_append_drop,List.take_append_drop]
  have hPl:(W.take j).length=j:=by rw[List.length_take];omega
  obtain⟨U',u1,u2,u3,u4⟩:=XD (R:=R) (N:=N) (P:=W.take j) (Q:=(W.drop j).drop (n+3)) (U:=(W.drop j).take (n+3)) (v:=v) (n:=n) (f:=false) (g:=true) F G (Bh (Ty hW _) _) hUl (by omega) (by omega) y (by rw[hU];exact d)
  rw[hU] at u3 u4
  have hQ0:val ((W.drop j).drop (n+3))=0:=by
   have:=Iq ((W.drop j).take (n+3)) ((W.drop j).drop (n+3))
   rw[List.take_append_drop,hU,hUl] at this
   have hp:0<4294967296 ^ (n+3):=Nat.pow_pos (by omega)
   rcases Nat.eq_zero_or_pos (val ((W.drop j).drop (n+3))) with h | h
   ·exact h
   ·have:=Nat.le_mul_of_pos_right (4294967296 ^ (n+3)) h;omega
  have x:0<val v:=by omega
  have T:val (W.drop j)/val v<4294967296:=Nat.div_lt_of_lt_mul d
  have hdm:=Nat.div_add_mod (val (W.drop j)) (val v)
  have V:=Nat.mod_lt (val (W.drop j)) x
  have hW':Ae (W.take j++(U'++(W.drop j).drop (n+3))):=HA.2 ⟨Bh hW _,HA.2 ⟨u1,Ty (Ty hW _) _⟩⟩
  have hWl':(W.take j++(U'++(W.drop j).drop (n+3))).length=u0.length:=by
   rw[List.length_append,List.length_append,hPl,u2,List.length_drop,List.length_drop];omega
  have hWd:(W.take j++(U'++(W.drop j).drop (n+3))).drop j=U'++(W.drop j).drop (n+3):=by
   rw[List.drop_append,hPl,Nat.sub_self,List.drop_zero,List.drop_eq_nil_of_le (by omega),List.nil_append]
  have hWt:(W.take j++(U'++(W.drop j).drop (n+3))).take j=u0.take j:=by
   rw[List.take_append,hPl,Nat.sub_self,List.take_zero,List.append_nil,List.take_take,Nat.min_self]
   have:=congrArg (List.take j) u
   rwa [List.take_take,List.take_take,Nat.min_eq_left (by omega)] at this
  have hWv:val (U'++(W.drop j).drop (n+3))=val (W.drop j)%val v:=by rw[Iq,hQ0,u3];simp
  obtain⟨Sq,Sr,a1,a2,a3,a4,a5⟩:=eK (N:=N) F G y hSv hu L X m j b (c+1) (W.take j++(U'++(W.drop j).drop (n+3))) (q.set j (val (W.drop j)/val v)) (by omega) (by omega) hW' hWl' (Bn hq T j) (by simpa using i) hWt (by rw[hWd,hWv];exact V) (by
   rw[hWd,hWv,j6 M,val,eu,←e,←hWj,Nat.add_mul,Nat.mul_assoc,Nat.mul_add,Nat.mul_comm (val (W.drop j)/val v)]
   omega)
  refine⟨Sq,Sr,a1,a2,a3,a4,fun K=>?_⟩
  have w0:IntKind.wrap .i64 (IntKind.wrap .i64 (((D:Nat):Int) - 1) - (c:Int))=(j:Int):=by
   rw[i64 (a:=((D:Nat):Int) - 1) (by omega),i64 (by omega)];omega
  have w1:IntKind.wrap .i64 (IntKind.wrap .i64 ((j:Int)+((n+2:Nat):Int))+1)=((j+(n+3):Nat):Int):=by
   rw[i64 (a:=(j:Int)+((n+2:Nat):Int)) (by omega),i64 (by omega)];omega
  have:=u4 fun z aa=>cond (Am (j:Int) D) (cond ((Nat.beq 1 1)&&((Nat.ble ((0+((Int.toNat (j:Int))*1))+1) (List.length (Aa q)))&&(!false))) (Cd N K (s:Int) (n+2) u0.length (Aa Sv) b D ((n+2:Nat):Int) (D:Int) (D:Int) (IntKind.wrap .i64 ((c:Int)+1)) (List.set (Aa q) (0+((Int.toNat (j:Int))*1)) (.int .u32 z)) aa) none) none
  rw[←k,hPl] at this
  rw[Cd];unfold Gy
  rw[Wj (by omega),ct,w0,w1,uY (by omega) (by omega),ct,hSv,Int.toNat_natCast,Int.toNat_natCast,Nat.mul_one,Nat.zero_add,show j+(n+3) - j=n+3 by omega]
  rw[Int.toNat_natCast,Nat.mul_one,Nat.zero_add] at this
  rw[this,Aj (by omega),ct,show((Nat.beq 1 1)&&((Nat.ble (j+1) (List.length (Aa q)))&&(!false)))=true by (rw[A5];simp;omega),ct,HB,wS (by omega)]
  exact a5 K
theorem ot {N:Nat} {a b:List Nat} {n m:Nat} {t o t' o':Bool} (M:n=a.length) (S:m=b.length) (C:Ae a) (A:Ae b) (l:2≤b.length) (F:b.length≤a.length) (e:b.getLast (by intro h;rw[h] at l;simp at l)≠0) (q:fit (a.length+b.length+4) N) :
  ∃ Sq Sr,Ae Sq∧val Sq=val a/val b∧Ae Sr∧val Sr=val a%val b∧∀ K:Nat→Nat→LA→LA→O R,Ew N (Aa a) n t o (Aa b) m t' o' K=K (Af (val a/val b)).length (Af (val a%val b)).length (Aa Sq) (Aa Sr):=by
 subst M S
 have h1:=q.1;have h2:=q.2
 obtain⟨k,y⟩:∃ k,b.length=k+2:=⟨b.length - 2,by omega⟩
 have G:b[k+1]'(by omega)≠0:=by
  rw[List.getLast_eq_getElem] at e
  simp only[y] at e
  exact e
 have bk:=Aq A (show k+1<b.length by omega)
 obtain⟨s,s1,s2,I,T⟩:=nU (R:=R) (N:=N) (c:=b[k+1]'(by omega)) (by omega) bk
 obtain⟨Sv,v1,v2,v3,v4⟩:=IP (R:=R) (N:=N) (a:=b) (t:=false) (o:=o') (s:=s) rfl A s1 (q.le (by omega))
 obtain⟨Su,L,U,B,V⟩:=IP (R:=R) (N:=N) (a:=a) (t:=false) (o:=o) (s:=s) rfl C s1 (q.le (by omega))
 have z:0<2 ^ s:=Nat.pow_pos (by omega)
 have hP:0<4294967296 ^ (k+1):=Nat.pow_pos (by omega)
 have bt:=Uc A y
 have bf:=Ss y
 have hVlt:val b*2 ^ s<4294967296 ^ (k+2):=by
  have x1:val b*2 ^ s<(b[k+1]+1)*4294967296 ^ (k+1)*2 ^ s:=(Nat.mul_lt_mul_right z).2 bt
  have X:2 ^ s∣4294967296:=⟨2 ^ (32 - s),by rw[←Nat.pow_add,show s+(32 - s)=32 by omega]⟩
  have x2:(b[k+1]+1)*2 ^ s≤4294967296:=by
   obtain⟨r,u⟩:=X
   have x3:b[k+1]<r:=by
    rw[u,Nat.mul_comm] at I
    exact Nat.lt_of_mul_lt_mul_left I
   have x4:(b[k+1]+1)*2 ^ s≤r*2 ^ s:=Nat.mul_le_mul_right _ x3
   have x5:r*2 ^ s=4294967296:=by rw[Nat.mul_comm];exact u.symm
   omega
  have x6:=Nat.mul_le_mul_right (4294967296 ^ (k+1)) x2
  rw[Nat.mul_right_comm] at x1
  rw[Nat.pow_succ,Nat.mul_comm _ 4294967296]
  exact Nat.lt_of_lt_of_le x1 x6
 have x:(Sv.take (k+2)).length=k+2:=by rw[List.length_take];omega
 have d:val (Sv.take (k+2))=val b*2 ^ s:=by rw[Ub (by rw[v3];exact hVlt),v3]
 have f:2147483648*4294967296 ^ (k+1)≤val b*2 ^ s:=by
  have x1:4294967296 ^ (k+1)*b[k+1]≤val b:=by omega
  have x2:=Nat.mul_le_mul_right (2 ^ s) x1
  rw[Nat.mul_assoc,Nat.mul_comm (4294967296 ^ (k+1))] at x2
  have x3:=Nat.mul_le_mul_right (4294967296 ^ (k+1)) s2
  omega
 have i:2147483648≤(Sv.take (k+2))[k+1]'(by omega):=by
  have x1:=Uc (Bh v1 (k+2)) x
  rw[d] at x1
  have x2:=Nat.lt_of_mul_lt_mul_right (Nat.lt_of_le_of_lt f x1)
  omega
 have hDl:Su.length=(a.length+1 - (k+2))+(k+2):=by omega
 have j:val (Su.drop (a.length+1 - (k+2)))<val (Sv.take (k+2)):=by
  have x1:=Iq (Su.take (a.length+1 - (k+2))) (Su.drop (a.length+1 - (k+2)))
  rw[List.take_append_drop,B,List.length_take,Nat.min_eq_left (by omega)] at x1
  have x2:=Bd C
  have x3:val a*2 ^ s<4294967296 ^ a.length*2 ^ s:=(Nat.mul_lt_mul_right z).2 x2
  have x4:a.length=(a.length+1 - (k+2))+(k+1):=by omega
  generalize hE:a.length+1 - (k+2)=E at *
  have x5:4294967296 ^ a.length=4294967296 ^ E*4294967296 ^ (k+1):=by rw[←Nat.pow_add];congr 1
  rw[x5,Nat.mul_assoc] at x3
  have x6:4294967296 ^ E*val (Su.drop E)<4294967296 ^ E*(4294967296 ^ (k+1)*2 ^ s):=by omega
  have x7:=Nat.lt_of_mul_lt_mul_left x6
  have x8:4294967296 ^ (k+1)*2 ^ s≤2147483648*4294967296 ^ (k+1):=by rw[Nat.mul_comm];exact Nat.mul_le_mul_right _ (gZ s1)
  rw[d];omega
 obtain⟨Sq,Sr,a1,a2,a3,a4,a5⟩:=eK (R:=R) (N:=N) (v:=Sv.take (k+2)) (u0:=Su) (Sv:=Sv) (n:=k) (D:=a.length+1 - (k+2)) (s:=s) x (Bh v1 _) i (by rw[Nat.mul_one,Kz]) L hDl s1 (q.le (by omega)) (a.length+1 - (k+2)) N 0 Su (List.replicate (a.length+1 - (k+2)) 0) (by omega) (by omega) L rfl (Bk _) (by simp) rfl j (by
  rw[List.drop_eq_nil_of_le (show(List.replicate (a.length+1 - (k+2)) 0).length≤a.length+1 - (k+2) by simp)];simp[val])
 have hq:val Su/val (Sv.take (k+2))=val a/val b:=by rw[B,d,Nat.mul_div_mul_right _ _ z]
 have u:val Su%val (Sv.take (k+2))/2 ^ s=val a%val b:=by rw[B,d,Nat.mul_mod_mul_right,Nat.mul_div_cancel _ z]
 rw[hq] at a2;rw[u] at a4
 refine⟨Sq,Sr,a1,a2,a3,a4,fun K=>?_⟩
 rw[P0];unfold J5
 have Y:IntKind.wrap .i64 (((b.length:Nat):Int) - 1)=((k+1:Nat):Int):=by rw[i64 (by omega)];omega
 have w2:IntKind.wrap .i64 (((a.length+1:Nat):Int) - ((b.length:Nat):Int))=((a.length+1 - (k+2):Nat):Int):=by rw[i64 (by omega)];omega
 rw[Y,Aj (by omega),ct,Wk (by omega),T,v4,sM (by omega),ct,V,w2,pu (by omega),ct,Int.toNat_natCast,Bt]
 have:=a5 K
 rw[hq,u,U] at this
 rw[y]
 exact this
theorem Xy {N:Nat} {a b:List Nat} {n m:Nat} {t o t' o':Bool} (G:n=a.length) (I:m=b.length) (D:Ae a) (F:Ae b) (i:val b≠0) (e:fit (a.length+b.length+4) N) :
  ∃ Sq Sr,Ae Sq∧val Sq=val a/val b∧Ae Sr∧val Sr=val a%val b∧∀ K:Nat→Nat→Bool→LA→LA→O R,Cs N (Aa a) n t o (Aa b) m t' o' K=K (Af (val a/val b)).length (Af (val a%val b)).length true (Aa Sq) (Aa Sr):=by
 have T:=e.1;have U:=e.2
 have la:=(A1 D).2
 have lb:=(A1 F).2
 have v:(Af (val b)).length≠0:=fun h=>i (A3.1 h)
 have start:∀ K:Nat→Nat→Bool→LA→LA→O R,Cs N (Aa a) n t o (Aa b) m t' o' K=cond (decide (Fc (val a) (val b)<0)) (Lu N (Aa (Af (val a))) (Af (val a)).length false o (fun s t=>(K 0 s true [] t))) (cond (decide ((((Af (val a)).length:Nat):Int)≤(2:Int))) (In N (Aa (Af (val a))) (Af (val a)).length false o (fun p=>(In N (Aa (Af (val b))) (Af (val b)).length false o' (fun o=>(cond (o==(0:Int)) none (A7 N (IntKind.wrap .u64 (Int.tdiv p o)) (fun u w=>(cond (o==(0:Int)) none (A7 N (Int.tmod p o) (fun x y=>(K u x true w y))))))))))) (cond ((((Af (val b)).length:Nat):Int)==(1:Int)) (cond (Am (0:Int) (Af (val b)).length) (Bi .u32 (Aa (Af (val b))) fun z=>(C9 N (Aa (Af (val a))) (Af (val a)).length false o z (fun aa ab ac ad=>(K aa ab true ac ad)))) none) (Ew N (Aa (Af (val a))) (Af (val a)).length false o (Aa (Af (val b))) (Af (val b)).length false o' (fun ae af ag ah=>(K ae af true ag ah))))):=by
  intro K
  rw[CA];unfold FT
  rw[A9 G D (e.le (by omega)),A9 I F (e.le (by omega)),bX v,cf,Z7 rfl rfl (Ab _) (Ab _) (e.le (by omega)),Ac,Ac]
 by_cases c:val a<val b
 ·refine⟨[],Af (val a),Ky,by rw[Nat.div_eq_of_lt c];rfl,Ab _,by rw[Nat.mod_eq_of_lt c,Ac],fun K=>?_⟩
  rw[start,show decide (Fc (val a) (val b)<0)=true by (unfold Fc;rw[if_pos c];rfl),ct,Sd rfl (Ab _) (e.le (by omega)),Ac,Nat.div_eq_of_lt c,Nat.mod_eq_of_lt c,B6];rfl
 ·have d:decide (Fc (val a) (val b)<0)=false:=by unfold Fc;rw[if_neg c];split<;>rfl
  have j:=A6 (Nat.le_of_not_lt c)
  by_cases f:(Af (val a)).length≤2
  ·have av:=IB f
   have bv:=IB (Nat.le_trans j f)
   have k:val a/val b<18446744073709551616:=Nat.lt_of_le_of_lt (Nat.div_le_self _ _) av
   have A:val a%val b<18446744073709551616:=Nat.lt_of_le_of_lt (Nat.mod_le _ _) av
   obtain⟨Sq,a1,a2,a3⟩:=Fu (R:=R) (N:=N) k (by omega)
   obtain⟨Sr,L,M,S⟩:=Fu (R:=R) (N:=N) A (by omega)
   refine⟨Sq,Sr,a1,a2,L,M,fun K=>?_⟩
   rw[start,d,cf,show decide ((((Af (val a)).length:Nat):Int)≤2)=true by simp;omega,ct,Sc rfl (Ab _) f (by omega),Sc rfl (Ab _) (by omega) (by omega),Ac,Ac,bX i,cf,CF,Er k,a3,cf,Xw,S]
  ·have l:decide ((((Af (val a)).length:Nat):Int)≤2)=false:=by simp;omega
   by_cases B:(Af (val b)).length=1
   ·obtain⟨x,C⟩:∃ x,Af (val b)=[x]:=by
     match h:Af (val b),B with
     | [x],_=>exact⟨x,rfl⟩
    have q:x=val b:=by have:=Ac (val b);rw[C] at this;simpa[val] using this
    have xl:x<4294967296:=by have:=Ab (val b);rw[C] at this;exact(Bz.1 this).1
    obtain⟨Sq,Sr,a1,a2,a3,a4,a5⟩:=j7 (R:=R) (N:=N) (a:=Af (val a)) (t:=false) (o:=o) (b:=x) rfl (Ab _) (by omega) xl (e.le (by omega))
    rw[Ac,q] at a2 a4 a5
    refine⟨Sq,Sr,a1,a2,a3,a4,fun K=>?_⟩
    rw[start,d,cf,l,cf,C]
    simp only[List.length_cons,List.length_nil,Nm,Ry]
    rw[show((((0+1:Nat)):Int)==1)=true by rfl,ct,show Am 0 (0+1)=true by decide,ct,q,a5]
   ·obtain⟨Sq,Sr,a1,a2,a3,a4,a5⟩:=ot (R:=R) (N:=N) (a:=Af (val a)) (b:=Af (val b)) (t:=false) (o:=o) (t':=false) (o':=o') rfl rfl (Ab _) (Ab _) (by omega) j (VM _ _) (e.le (by omega))
    rw[Ac,Ac] at a2 a4 a5
    refine⟨Sq,Sr,a1,a2,a3,a4,fun K=>?_⟩
    rw[start,d,cf,l,cf,show((((Af (val b)).length:Nat):Int)==1)=false by rw[beq_eq_false_iff_ne];omega,cf,a5]
end
end Gx

namespace Gx
open Go Go.Proofs
section
variable {R:Type}
def tc (A B u0 u1 v0 v1:Nat) (e:Bool):Prop:=v0=0∨(1≤u1∧1≤v1∧match e with
 | true=>v0*B≤u0*A∧u1*A≤v1*B∧(v0+v1)*B≤(u0+u1)*A∧u0*v1=v0*u1+1
 | false=>u0*A≤v0*B∧v1*B≤u1*A∧(u0+u1)*A≤(v0+v1)*B∧u1*v0=v1*u0+1)
structure Lead (X Y x y u1 u2 v1 v2:Nat) (e:Bool):Prop where
 le:y≤x
 idV:x*v2+y*v1=X
 idU:x*u2+y*u1=Y
 pos:1≤v2
 par:match e with
  | false=>x+v1*Y=u1*X∧y+u2*X=v2*Y∧u1*v2=v1*u2+1
  | true=>x+u1*X=v1*Y∧y+v2*Y=u2*X∧u2*v1=v2*u1+1
 small:(v1=0∧u1=1∧u2=0∧v2=1∧e=false)∨(1≤v1∧u1≤v1∧u2≤v2∧1≤u2)
theorem Lead.init {X Y:Nat} (h:Y≤X):Lead X Y X Y 1 0 0 1 false:=⟨h,by simp,by simp,by omega,by simp,.inl ⟨rfl,rfl,rfl,rfl,rfl⟩⟩
theorem Lead.step {X Y x y u1 u2 v1 v2:Nat} {e:Bool} (L:Lead X Y x y u1 u2 v1 v2 e) (n:1≤y):Lead X Y y (x%y) u2 (u1+x/y*u2) v2 (v1+x/y*v2) (!e):=by
 have b:=Nat.div_add_mod x y
 have l:=Nat.mod_lt x (show 0<y by omega)
 have hq:1≤x/y:=by rw[Nat.le_div_iff_mul_le (by omega)];have:=L.le;omega
 generalize x/y=q at *
 generalize x%y=r at *
 have c:=L.pos
 refine⟨by omega,?_,?_,?_,?_,?_⟩
 ·rw[←L.idV,←b,Nat.mul_add,Nat.add_mul,Nat.mul_assoc];omega
 ·rw[←L.idU,←b,Nat.mul_add,Nat.add_mul,Nat.mul_assoc];omega
 ·have:=Nat.mul_le_mul hq c;omega
 ·have p:=L.par
  cases e with
  | false =>
   obtain⟨m,d,i⟩:=p
   refine⟨d,?_,?_⟩
   ·have j:q*(y+u2*X)=q*(v2*Y):=by rw[d]
    rw[Nat.mul_add,←Nat.mul_assoc,←Nat.mul_assoc] at j
    rw[Nat.mul_comm y q] at b
    rw[Nat.add_mul,Nat.add_mul];omega
   ·rw[Nat.add_mul,Nat.add_mul,Nat.mul_right_comm q u2,i];omega
  | true =>
   obtain⟨m,d,i⟩:=p
   refine⟨d,?_,?_⟩
   ·have j:q*(y+v2*Y)=q*(u2*X):=by rw[d]
    rw[Nat.mul_add,←Nat.mul_assoc,←Nat.mul_assoc] at j
    rw[Nat.mul_comm y q] at b
    rw[Nat.add_mul,Nat.add_mul];omega
   ·rw[Nat.mul_add,Nat.mul_add,i,Nat.mul_left_comm u2 q,Nat.mul_left_comm v2 q,Nat.mul_comm u2 v2];omega
 ·right
  rcases L.small with⟨s1,s2,f,k,_⟩ | ⟨s1,s2,f,k⟩
  ·subst s1 s2 f k;exact⟨by omega,by omega,by omega,by omega⟩
  ·have s:q*u2≤q*v2:=Nat.mul_le_mul_left _ f
   exact⟨c,f,by omega,by have:=Nat.mul_le_mul hq k;omega⟩
theorem Lead.cof {X Y x y u1 u2 v1 v2 A B P:Nat} {e:Bool} (L:Lead X Y x y u1 u2 v1 v2 e) (hA:X*P≤A) (hA':A<(X+1)*P) (hB:Y*P≤B) (hB':B<(Y+1)*P) (c1:v2≤y) (c:v1+v2≤x - y):tc A B u1 u2 v1 v2 (!e):=by
 have p:=L.par
 have d:=L.le
 rcases L.small with⟨s1,_⟩ | ⟨s1,s2,k,f⟩
 ·exact .inl s1
 ·refine .inr ⟨f,L.pos,?_⟩
  cases e with
  | false =>
   obtain⟨i,j,b⟩:=p
   have n1:u2*A≤v2*B:=Pl hB hA' (w:=y) (by omega) (by omega)
   have n2:(v1+v2)*B≤(u1+u2)*A:=Pl hA hB' (w:=x - y) (by rw[Nat.add_mul,Nat.add_mul];omega) c
   refine⟨?_,n1,n2,b⟩
   rw[Nat.add_mul,Nat.add_mul] at n2;omega
  | true =>
   obtain⟨i,j,b⟩:=p
   have n1:v2*B≤u2*A:=Pl hA hB' (w:=y) (by omega) (by omega)
   have n2:(u1+u2)*A≤(v1+v2)*B:=Pl hB hA' (w:=x - y) (by rw[Nat.add_mul,Nat.add_mul];omega) (by omega)
   refine⟨?_,n1,n2,b⟩
   rw[Nat.add_mul,Nat.add_mul] at n2;omega
theorem Xz {x y:Nat} (c:1≤y) (h:y≤x):2*(y*(x%y))≤x*y:=by
 have d:=Nat.div_add_mod x y
 have e:=Nat.mod_lt x (show 0<y by omega)
 have hq:1≤x/y:=by rw[Nat.le_div_iff_mul_le (by omega)];omega
 have f:y*1≤y*(x/y):=Nat.mul_le_mul_left _ hq
 have b:2*(x%y)≤x:=by omega
 have:=Nat.mul_le_mul_left y b
 rw[Nat.mul_comm x y,Nat.mul_left_comm];exact this
def nX (u0 u1 v0 v1:Nat) (e:Bool):LA:=[.int .u64 (u0:Int),.int .u64 (u1:Int),.int .u64 (v0:Int),.int .u64 (v1:Int),.bool e]
theorem ou {N:Nat} {X Y A B P:Nat} (hX:X<18446744073709551616) (hYX:Y≤X) (hA:X*P≤A) (hA':A<(X+1)*P) (hB:Y*P≤B) (hB':B<(Y+1)*P):∀ (k b x y u0 u1 u2 v0 v1 v2:Nat) (e:Bool),k<b→x*y<2 ^ k→Lead X Y x y u1 u2 v1 v2 e→tc A B u0 u1 v0 v1 e→u0<18446744073709551616→u1<18446744073709551616→v0<18446744073709551616→v1<18446744073709551616 →
  ∃ (a1 a2 f d:Nat) (s:Bool),tc A B a1 a2 f d s∧a1<18446744073709551616∧a2<18446744073709551616∧f<18446744073709551616∧d<18446744073709551616∧∀ K:LA→O R,Ch N K b (x:Int) (y:Int) (u0:Int) (u1:Int) (u2:Int) (v0:Int) (v1:Int) (v2:Int) e=K (nX a1 a2 f d s):=by
 intro k
 induction k with
 | zero =>
  intro b x y u0 u1 u2 v0 v1 v2 e G i L C f d t m
  obtain⟨b,rfl⟩:∃ F,b=F+1:=⟨b - 1,by omega⟩
  have l:y=0:=by
   rcases Nat.eq_zero_or_pos y with h | h
   ·exact h
   ·have h3:=Nat.mul_le_mul_left x (show 1≤y by omega)
    have h4:=L.le
    rw[Nat.pow_zero] at i
    omega
  refine⟨u0,u1,v0,v1,e,C,f,d,t,m,fun K=>?_⟩
  rw[Ch];unfold E8
  have:=L.pos
  rw[show decide ((y:Int)≥(v2:Int))=false by simp;omega];rfl
 | succ k I =>
  intro b x y u0 u1 u2 v0 v1 v2 e G i L C f d t m
  obtain⟨b,rfl⟩:∃ F,b=F+1:=⟨b - 1,by omega⟩
  have u:=L.pos
  have j:=L.le
  by_cases c1:v2≤y
  ·have l:1≤y:=by omega
   have hxX:x≤X:=by
    have:=Nat.mul_le_mul_left x u
    have:=L.idV;omega
   have D:v1+v2≤X:=by
    have M:=Nat.mul_le_mul_right v2 (show 1≤x by omega)
    have h2:=Nat.mul_le_mul_right v1 l
    have:=L.idV;omega
   by_cases S:v1+v2≤x - y
   ·have L':=L.step l
    have C':=L.cof hA hA' hB hB' c1 S
    have i1:=L'.idV
    have i2:=L'.idU
    have w1:v1+x/y*v2≤X:=by
     have:=Nat.mul_le_mul_right (v1+x/y*v2) l;omega
    have w2:u1+x/y*u2≤Y:=by
     have:=Nat.mul_le_mul_right (u1+x/y*u2) l;omega
    have v:u2<18446744073709551616:=by
     have M:=Nat.mul_le_mul_right u2 (show 1≤x by omega)
     have:=L.idU;omega
    have n:v2<18446744073709551616:=by omega
    have z:y*(x%y)<2 ^ k:=by
     have:=Xz l j
     rw[Nat.pow_succ] at i;omega
    obtain⟨a1,a2,T,U,s,V,r2,r3,r4,r5,r6⟩:=I b y (x%y) u1 u2 (u1+x/y*u2) v1 v2 (v1+x/y*v2) (!e) (by omega) z L' C' d v m n
    refine⟨a1,a2,T,U,s,V,r2,r3,r4,r5,fun K=>?_⟩
    rw[Ch];unfold E8
    have c:x<18446744073709551616:=by omega
    have q:x/y<18446744073709551616:=Nat.lt_of_le_of_lt (Nat.div_le_self _ _) c
    rw[show decide ((y:Int)≥(v2:Int))=true by simp;omega,show((true:Bool)==true)=true by rfl,ct,MC c j,Q7,Er (show v1+v2<18446744073709551616 by omega),show decide (((x - y:Nat):Int)≥((v1+v2:Nat):Int))=true by rw[decide_eq_true_eq];omega,o_,ct]
    unfold Lw
    dsimp only
    rw[bX (by omega),cf,cf,CF,Xw,Er q,VN,VN,Er (show x/y*u2<18446744073709551616 by omega),Er (show x/y*v2<18446744073709551616 by omega),Q7,Q7,Er (show u1+x/y*u2<18446744073709551616 by omega),Er (show v1+x/y*v2<18446744073709551616 by omega)]
    exact r6 K
   ·refine⟨u0,u1,v0,v1,e,C,f,d,t,m,fun K=>?_⟩
    rw[Ch];unfold E8
    rw[show decide ((y:Int)≥(v2:Int))=true by simp;omega,show((true:Bool)==true)=true by rfl,ct,MC (by omega) j,Q7,Er (show v1+v2<18446744073709551616 by omega),show decide (((x - y:Nat):Int)≥((v1+v2:Nat):Int))=false by rw[decide_eq_false_iff_not];omega,o_,cf]
    rfl
  ·refine⟨u0,u1,v0,v1,e,C,f,d,t,m,fun K=>?_⟩
   rw[Ch];unfold E8
   rw[show decide ((y:Int)≥(v2:Int))=false by simp;omega];rfl
end
end Gx

namespace Gx
open Go Go.Proofs
section
variable {R:Type}
theorem NC {N:Nat} {a:List Nat} {n:Nat} {t o:Bool} {i:Nat} {K:Int→O R} (b:n=a.length) (c:Ae a):Fw N (i:Int) (Aa a) n t o K=K ((a.getD i 0:Nat):Int):=by
 subst b
 rw[Se];unfold Q9
 by_cases h:i<a.length
 ·have:=Aq c h
  rw[Wj h,ct,Aj h,ct,Wk h,Er (by omega),List.getD_eq_getElem?_getD,List.getElem?_eq_getElem h];rfl
 ·rw[FG (by omega),cf,List.getD_eq_getElem?_getD,List.getElem?_eq_none (by omega)];rfl
theorem Ns {a:List Nat} (b:Ae a) (i:Nat):a.getD i 0<4294967296:=by
 by_cases h:i<a.length
 ·rw[List.getD_eq_getElem?_getD,List.getElem?_eq_getElem h];exact Aq b h
 ·rw[List.getD_eq_getElem?_getD,List.getElem?_eq_none (by omega)];simp
theorem qz {a:List Nat} {n:Nat} (e:a.length≤n+3):val a=val (a.take n)+4294967296 ^ n*((a.getD (n+2) 0*4294967296+a.getD (n+1) 0)*4294967296+a.getD n 0):=by
 have b:=I9 a (n+2)
 have c:=I9 a (n+1)
 have d:=I9 a n
 rw[List.take_of_length_le (by omega)] at b
 have x1:4294967296 ^ (n+2)*a.getD (n+2) 0=4294967296 ^ n*(a.getD (n+2) 0*4294967296*4294967296):=by rw[Nat.pow_succ (n:=4294967296) (m:=n+1),Nat.pow_succ,tH,tH]
 have x2:4294967296 ^ (n+1)*a.getD (n+1) 0=4294967296 ^ n*(a.getD (n+1) 0*4294967296):=by rw[Nat.pow_succ,tH]
 rw[b,c,d,x1,x2,Nat.add_mul,Nat.mul_add,Nat.mul_add];omega
theorem PP {N:Nat} {a:List Nat} {m n s:Nat} {t o:Bool} {K:Int→O R} (i:m=a.length) (d:Ae a) (y:a.length≤n+3) (S:s≤31) (c:a.getD (n+2) 0*2 ^ s<4294967296) (T:n≤1000000000000) :
  Nr N (Aa a) m t o ((n+3:Nat):Int) (s:Int) K=K ((val a/(4294967296 ^ n*2 ^ (32 - s)):Nat):Int)∧val a/(4294967296 ^ n*2 ^ (32 - s))<18446744073709551616:=by
 have z:0<2 ^ s:=Nat.pow_pos (by omega)
 have e:0<2 ^ (32 - s):=Nat.pow_pos (by omega)
 have hP:0<4294967296 ^ n:=Nat.pow_pos (by omega)
 have b:2 ^ s*2 ^ (32 - s)=4294967296:=by rw[←Nat.pow_add,show s+(32 - s)=32 by omega]
 have A:=Ns d (n+2)
 have B:=Ns d (n+1)
 have C:=Ns d n
 have tk:=Bd (Bh d n)
 have iL:val (a.take n)<4294967296 ^ n:=by
  refine Nat.lt_of_lt_of_le tk (Nat.pow_le_pow_right (by omega) ?_)
  rw[List.length_take];omega
 have D:=qz y
 generalize j:a.getD (n+2) 0=a0 at *
 generalize k:a.getD (n+1) 0=a1 at *
 generalize l:a.getD n 0=a2 at *
 have q:a0<2 ^ (32 - s):=by
  rw[←b,Nat.mul_comm] at c;exact Nat.lt_of_mul_lt_mul_left c
 have f:(a0*4294967296+a1)*2 ^ s<18446744073709551616:=by
  have x1:(a0+1)*4294967296≤2 ^ (32 - s)*4294967296:=Nat.mul_le_mul_right _ q
  have x2:a0*4294967296+a1<2 ^ (32 - s)*4294967296:=by rw[Nat.add_mul] at x1;omega
  have x3:=(Nat.mul_lt_mul_right z).2 x2
  rw[Nat.mul_right_comm,Nat.mul_comm (2 ^ (32 - s)),b] at x3
  exact x3
 have u:a2/2 ^ (32 - s)<2 ^ s:=by
  rw[Nat.div_lt_iff_lt_mul e,b];exact C
 have hq:val a/(4294967296 ^ n*2 ^ (32 - s))=(a0*4294967296+a1)*2 ^ s+a2/2 ^ (32 - s):=by
  rw[←Nat.div_div_eq_div_mul,D,Nat.add_mul_div_left _ _ hP,Nat.div_eq_of_lt iL,Nat.zero_add]
  have:(a0*4294967296+a1)*4294967296+a2=a2+2 ^ (32 - s)*((a0*4294967296+a1)*2 ^ s):=by
   rw[Nat.mul_left_comm,Nat.mul_comm (2 ^ (32 - s)),b];omega
  rw[this,Nat.add_mul_div_left _ _ e];omega
 have F:(a0*4294967296+a1)*2 ^ s+a2/2 ^ (32 - s)<18446744073709551616:=by
  have v:2 ^ s*2 ^ (64 - s)=18446744073709551616:=by rw[←Nat.pow_add,show s+(64 - s)=64 by omega]
  obtain⟨r,x⟩:∃ r,18446744073709551616=2 ^ s*r:=⟨2 ^ (64 - s),v.symm⟩
  rw[x,Nat.mul_comm] at f
  have x1:=Nat.lt_of_mul_lt_mul_left f
  have x2:(a0*4294967296+a1+1)*2 ^ s≤r*2 ^ s:=Nat.mul_le_mul_right _ x1
  rw[Nat.add_mul,Nat.mul_comm r,←x] at x2
  omega
 rw[hq]
 refine⟨?_,F⟩
 rw[BR];unfold FM
 have G:IntKind.wrap .i64 (((n+3:Nat):Int) - 1)=((n+2:Nat):Int):=by rw[i64 (by omega)];omega
 have I:IntKind.wrap .i64 (((n+3:Nat):Int) - 2)=((n+1:Nat):Int):=by rw[i64 (by omega)];omega
 have L:IntKind.wrap .i64 (((n+3:Nat):Int) - 3)=((n:Nat):Int):=by rw[i64 (by omega)];omega
 have M:IntKind.wrap .i64 ((32:Int) - (s:Int))=((32 - s:Nat):Int):=by rw[i64 (by omega)];omega
 rw[G,I,L,M,NC i d,NC i d,show decide (((s:Nat):Int)<0)=false by simp,cf,NC i d,show decide (((32 - s:Nat):Int)<0)=false by simp,cf]
 rw[j,k,l,si A B,Int.toNat_natCast,Int.toNat_natCast,Nat.min_eq_left (by omega),Nat.min_eq_left (by omega),Jq,show(2:Int) ^ s=((2 ^ s:Nat):Int) by simp,VN,Er f,l9 f (by omega),ME u]
theorem g8 {N:Nat} {a b:List Nat} {n m:Nat} {t o t' o':Bool} (U:n=a.length) (V:m=b.length) (v:Ae a) (hb:Ae b) (j:3≤a.length) (f:a.getLast (by intro h;rw[h] at j;simp at j)≠0) (hlb:b.length≤a.length) (x:val b≤val a) (G:fit a.length N) :
  ∃ (a1 a2 l q:Nat) (e:Bool),tc (val a) (val b) a1 a2 l q e∧a1<18446744073709551616∧a2<18446744073709551616∧l<18446744073709551616∧q<18446744073709551616∧∀ K:LA→O R,K7 N (Aa a) n t o (Aa b) m t' o' K=K (nX a1 a2 l q e):=by
 subst U V
 have h1:=G.1;have h2:=G.2
 obtain⟨k,I⟩:∃ k,a.length=k+3:=⟨a.length - 3,by omega⟩
 have L:a[k+2]'(by omega)≠0:=by
  rw[List.getLast_eq_getElem] at f
  simp only[I] at f
  exact f
 have ak:=Aq v (show k+2<a.length by omega)
 obtain⟨s,s1,s2,M,s4⟩:=nU (R:=R) (N:=N) (c:=a[k+2]'(by omega)) (by omega) ak
 have y:a.getD (k+2) 0=a[k+2]'(by omega):=by rw[List.getD_eq_getElem?_getD,List.getElem?_eq_getElem (by omega)];rfl
 have i:b.getD (k+2) 0≤a[k+2]'(by omega):=by
  apply Nat.le_of_not_lt;intro d
  have u:k+2<b.length:=by
   apply Nat.lt_of_not_le;intro C
   rw[List.getD_eq_getElem?_getD,List.getElem?_eq_none C] at d;simp at d
  have D:b.getD (k+2) 0=b[k+2]:=by rw[List.getD_eq_getElem?_getD,List.getElem?_eq_getElem u];rfl
  rw[D] at d
  have x1:=Uc v (n:=k+2) (by omega)
  have x2:=lj u
  have x3:(a[k+2]+1)*4294967296 ^ (k+2)≤b[k+2]*4294967296 ^ (k+2):=Nat.mul_le_mul_right _ d
  rw[Nat.mul_comm] at x2
  omega
 have F:b.getD (k+2) 0*2 ^ s<4294967296:=Nat.lt_of_le_of_lt (Nat.mul_le_mul_right _ i) M
 have hPP:0<4294967296 ^ k*2 ^ (32 - s):=Nat.mul_pos (Nat.pow_pos (by omega)) (Nat.pow_pos (by omega))
 have wa:=fun K=>PP (R:=R) (N:=N) (a:=a) (m:=a.length) (n:=k) (s:=s) (t:=false) (o:=o) (K:=K) rfl v (by omega) s1 (by rw[y];exact M) (by omega)
 have wb:=fun K=>PP (R:=R) (N:=N) (a:=b) (m:=b.length) (n:=k) (s:=s) (t:=false) (o:=o') (K:=K) rfl hb (by omega) s1 F (by omega)
 have hX:=(wa fun _=>none).2
 generalize hP:4294967296 ^ k*2 ^ (32 - s)=P at *
 have hYX:val b/P≤val a/P:=Nat.div_le_div_right x
 have S:∀ z,z/P*P≤z:=fun z=>Nat.div_mul_le_self z P
 have T:∀ z,z<(z/P+1)*P:=fun z=>by
  have:=Nat.div_add_mod z P;have:=Nat.mod_lt z hPP
  rw[Nat.add_mul,Nat.mul_comm];omega
 obtain⟨a1,a2,l,q,e,r1,r2,r3,r4,r5,r6⟩:=ou (R:=R) (N:=N) (X:=val a/P) (Y:=val b/P) (A:=val a) (B:=val b) (P:=P) hX hYX (S _) (T _) (S _) (T _) 128 N (val a/P) (val b/P) 0 1 0 0 0 1 false (by omega) (by
  have:=Nat.mul_lt_mul'' hX (Nat.lt_of_le_of_lt hYX hX)
  exact this) (Lead.init hYX) (.inl rfl) (by omega) (by omega) (by omega) (by omega)
 refine⟨a1,a2,l,q,e,r1,r2,r3,r4,r5,fun K=>?_⟩
 rw[Xo];unfold Pw
 have w1:IntKind.wrap .i64 (((a.length:Nat):Int) - 1)=((k+2:Nat):Int):=by rw[i64 (by omega)];omega
 rw[w1,Aj (by omega),ct,Wk (by omega),s4,show((a.length:Nat):Int)=((k+3:Nat):Int) by rw[I],(wa _).1,(wb _).1]
 exact r6 K
theorem M8 {N:Nat} {a b:List Nat} {n m:Nat} {x y:Nat} {t o t' o':Bool} (v:n=a.length) (z:m=b.length) (i:Ae a) (j:Ae b) (d:x<18446744073709551616) (e:y<18446744073709551616) (f:val b*y≤val a*x) (c:fit (a.length+b.length+4) N) :
  ∃ S,Ae S∧val S=val a*x - val b*y∧∀ K:Nat→LA→O R,Db N (Aa a) n t o (x:Int) (Aa b) m t' o' (y:Int) K=K (Af (val a*x - val b*y)).length (Aa S):=by
 subst v z
 have C:=c.1;have D:=c.2
 obtain⟨Sx,x1,x2,x3⟩:=Fu (R:=R) (N:=N) d (by omega)
 obtain⟨Sy,y1,y2,y3⟩:=Fu (R:=R) (N:=N) e (by omega)
 have lx:=M7 d
 have ly:=M7 e
 obtain⟨P1,A,k,l⟩:=IA (R:=R) (N:=N) (a:=a) (b:=Af x) (t:=false) (o:=o) (t':=false) (o':=true) rfl rfl i (Ab _) (c.le (by omega))
 obtain⟨P2,B,q,s⟩:=IA (R:=R) (N:=N) (a:=b) (b:=Af y) (t:=false) (o:=o') (t':=false) (o':=true) rfl rfl j (Ab _) (c.le (by omega))
 rw[Ac] at k l q s
 have l1:(Af (val a*x)).length≤a.length+2:=C8 (by
  have:=Nat.mul_lt_mul'' (Bd i) d
  rw[Nat.pow_add];exact this)
 have l2:(Af (val b*y)).length≤b.length+2:=C8 (by
  have:=Nat.mul_lt_mul'' (Bd j) e
  rw[Nat.pow_add];exact this)
 obtain⟨S,s1,s2,u⟩:=W_ (R:=R) (N:=N) (a:=Af (val a*x)) (b:=Af (val b*y)) (t:=false) (o:=true) (t':=false) (o':=true) rfl rfl (Ab _) (Ab _) (c.le (by omega)) (by rw[Ac,Ac];exact f)
 rw[Ac,Ac] at s2 u
 refine⟨S,s1,s2,fun K=>?_⟩
 rw[Xt];unfold Xs
 have tx:List.take ((Af x).length*1) (Aa Sx)=Aa (Af x):=by rw[←x2,Gh x1]
 have ty:List.take ((Af y).length*1) (Aa Sy)=Aa (Af y):=by rw[←y2,Gh y1]
 have t1:List.take ((Af (val a*x)).length*1) (Aa P1)=Aa (Af (val a*x)):=by rw[←k,Gh A]
 have t2:List.take ((Af (val b*y)).length*1) (Aa P2)=Aa (Af (val b*y)):=by rw[←q,Gh B]
 rw[x3,tx,l,y3,ty,s,t1,t2,u]
end
end Gx

namespace Gx
open Go Go.Proofs
section
variable {R:Type}
theorem ov {N:Nat} (hN:4≤N):∀ (k b x y:Nat),k<b→x*y<2 ^ k→y≤x→x<18446744073709551616→∃ S,Ae S∧val S=Nat.gcd x y∧∀ (d:LA→Nat→Bool→LA→Nat→Bool→O R) (K:Nat→LA→O R),Ja N d K b (x:Int) (y:Int)=K (Af (Nat.gcd x y)).length (Aa S):=by
 have base:∀ (b x:Nat),x<18446744073709551616→∃ S,Ae S∧val S=Nat.gcd x 0∧∀ (d:LA→Nat→Bool→LA→Nat→Bool→O R) (K:Nat→LA→O R),Ja N d K (b+1) (x:Int) ((0:Nat):Int)=K (Af (Nat.gcd x 0)).length (Aa S):=by
  intro b x e
  obtain⟨S,s1,s2,i⟩:=Fu (R:=R) (N:=N) e hN
  refine⟨S,s1,by rw[s2,Nat.gcd_zero_right],fun d K=>?_⟩
  rw[Ja];unfold Ua
  rw[show(((0:Nat):Int) != 0)=false by rfl,cf,i,Nat.gcd_zero_right]
 intro k
 induction k with
 | zero =>
  intro b x y j c f e
  obtain⟨b,rfl⟩:∃ F,b=F+1:=⟨b - 1,by omega⟩
  have l:y=0:=by
   rcases Nat.eq_zero_or_pos y with h | h
   ·exact h
   ·have q:=Nat.mul_le_mul_left x (show 1≤y by omega)
    rw[Nat.pow_zero] at c;omega
  subst l
  exact base b x e
 | succ k m =>
  intro b x y j c f e
  obtain⟨b,rfl⟩:∃ F,b=F+1:=⟨b - 1,by omega⟩
  rcases Nat.eq_zero_or_pos y with h | h
  ·subst h;exact base b x e
  ·have s:=Xz (show 1≤y by omega) f
   have t:=Nat.mod_lt x h
   obtain⟨S,s1,s2,i⟩:=m b y (x%y) (by omega) (by rw[Nat.pow_succ] at c;omega) (by omega) (by omega)
   have n:Nat.gcd y (x%y)=Nat.gcd x y:=by rw[Nat.gcd_comm,←Nat.gcd_rec,Nat.gcd_comm]
   rw[n] at s2 i
   refine⟨S,s1,s2,fun d K=>?_⟩
   rw[Ja];unfold Ua
   rw[show((y:Int) != 0)=true by rw[bne_iff_ne];omega,ct,bX (by omega),cf,Xw]
   exact i d K
theorem eL {a b u v s t x y:Nat} (d:x+v*b=u*a) (e:y+s*a=t*b) (c:u*t=v*s+1):t*x+v*y=a∧s*x+u*y=b:=by
 constructor
 ·have f:t*x+t*v*b=t*u*a:=by rw[Nat.mul_assoc,Nat.mul_assoc,←Nat.mul_add,d]
  have i:v*y+v*s*a=v*t*b:=by rw[Nat.mul_assoc,Nat.mul_assoc,←Nat.mul_add,e]
  have j:t*u*a=v*s*a+a:=by rw[Nat.mul_comm t u,c,Nat.add_mul,Nat.one_mul]
  have k:t*v*b=v*t*b:=by rw[Nat.mul_comm t v]
  omega
 ·have f:s*x+s*v*b=s*u*a:=by rw[Nat.mul_assoc,Nat.mul_assoc,←Nat.mul_add,d]
  have i:u*y+u*s*a=u*t*b:=by rw[Nat.mul_assoc,Nat.mul_assoc,←Nat.mul_add,e]
  have j:u*t*b=v*s*b+b:=by rw[c,Nat.add_mul,Nat.one_mul]
  have k:s*u*a=u*s*a:=by rw[Nat.mul_comm s u]
  have l:s*v*b=v*s*b:=by rw[Nat.mul_comm s v]
  omega
theorem eM {A B a b p q r s:Nat} (hA:p*a+q*b=A) (hB:r*a+s*b=B) (c:1≤p) (hq:1≤q) (d:1≤r) (e:b≤a):2*(a*b)≤A*B∧a≤A:=by
 have j:=Nat.mul_le_mul_right a c
 have k:=Nat.mul_le_mul_right b hq
 have l:=Nat.mul_le_mul_right a d
 have f:2*b≤A:=by omega
 have i:a≤B:=by omega
 have:=Nat.mul_le_mul f i
 refine⟨?_,by omega⟩
 rw[Nat.mul_comm a b,←Nat.mul_assoc];exact this
theorem sn {u0 u1 v0 v1:Nat} {e:Bool}:setCells [(.int .u64 0),(.int .u64 0),(.int .u64 0),(.int .u64 0),(.bool false)] 0 (nX u0 u1 v0 v1 e)=nX u0 u1 v0 v1 e:=rfl
theorem j9 {N:Nat}:∀ (k c A B:Nat) (d f:Bool),k<c→A*B<2 ^ k→B≤A→fit (2*(Af A).length+4) N→∃ S,Ae S∧val S=Nat.gcd A B∧∀ K:Nat→LA→O R,Ct N K c (Aa (Af A)) (Af A).length d (Aa (Af B)) (Af B).length f=K (Af (Nat.gcd A B)).length (Aa S):=by
 have base:∀ (c A:Nat) (d f:Bool),fit (2*(Af A).length+4) N→∃ S,Ae S∧val S=Nat.gcd A 0∧∀ K:Nat→LA→O R,Ct N K (c+1) (Aa (Af A)) (Af A).length d (Aa (Af 0)) (Af 0).length f=K (Af (Nat.gcd A 0)).length (Aa S):=by
  intro c A d f j
  refine⟨Af A,Ab _,by rw[Ac,Nat.gcd_zero_right],fun K=>?_⟩
  rw[Ct];unfold Ov
  rw[B6,show decide ((((([]:List Nat).length:Nat)):Int)>0)=false by decide,cf,Sd rfl (Ab _) (j.le (by omega)),Ac,Nat.gcd_zero_right]
 intro k
 induction k with
 | zero =>
  intro c A B d f U n m j
  obtain⟨c,rfl⟩:∃ F,c=F+1:=⟨c - 1,by omega⟩
  have hy:B=0:=by
   rcases Nat.eq_zero_or_pos B with h | h
   ·exact h
   ·have h3:=Nat.mul_le_mul_left A (show 1≤B by omega)
    rw[Nat.pow_zero] at n;omega
  subst hy
  exact base c A d f j
 | succ k V =>
  intro c A B d f U n m j
  have h1:=j.1;have h2:=j.2
  obtain⟨c,rfl⟩:∃ F,c=F+1:=⟨c - 1,by omega⟩
  rcases Nat.eq_zero_or_pos B with h | h
  ·subst h;exact base c A d f j
  have X:=A6 m
  have hbl:(Af B).length≠0:=fun h0=>by have:=A3.1 h0;omega
  have C:decide ((((Af B).length:Nat):Int)>0)=true:=by rw[decide_eq_true_eq];omega
  by_cases D:(Af A).length≤2
  ·have av:=IB D
   obtain⟨S,s1,s2,s⟩:=ov (R:=R) (N:=N) (by omega) 128 N A B (by omega) (by have:=Nat.mul_lt_mul'' av (Nat.lt_of_le_of_lt m av);exact this) m av
   refine⟨S,s1,s2,fun K=>?_⟩
   rw[Ct];unfold Ov
   rw[C,ct,show decide ((((Af A).length:Nat):Int)≤2)=true by rw[decide_eq_true_eq];omega,ct,Sc rfl (Ab _) D (by omega),Sc rfl (Ab _) (by omega) (by omega),Ac,Ac]
   exact s _ K
  ·have Y:decide ((((Af A).length:Nat):Int)≤2)=false:=by rw[decide_eq_false_iff_not];omega
   obtain⟨a1,a2,i,l,e,v,r2,r3,r4,r5,r6⟩:=g8 (R:=R) (N:=N) (a:=Af A) (b:=Af B) (t:=false) (o:=d) (t':=false) (o':=f) rfl rfl (Ab _) (Ab _) (by omega) (VM _ _) X (by rw[Ac,Ac];exact m) (j.le (by omega))
   rw[Ac,Ac] at v
   have start:∀ K:Nat→LA→O R,Ct N K (c+1) (Aa (Af A)) (Af A).length d (Aa (Af B)) (Af B).length f=cond ((i:Int)==0) (Cs N (Aa (Af A)) (Af A).length false d (Aa (Af B)) (Af B).length false f (fun bm ag bn bo ar=>(Ct N K c (Aa (Af B)) (Af B).length f (List.take (ag*1) ar) ag false))) (cond e (Db N (Aa (Af A)) (Af A).length false d (a1:Int) (Aa (Af B)) (Af B).length false f (i:Int) (fun ah ax=>Db N (Aa (Af B)) (Af B).length false f (l:Int) (Aa (Af A)) (Af A).length false d (a2:Int) (fun ai ba=>(Ct N K c (List.take (ah*1) ax) ah false (List.take (ai*1) ba) ai false)))) (Db N (Aa (Af B)) (Af B).length false f (i:Int) (Aa (Af A)) (Af A).length false d (a1:Int) (fun aj bd=>Db N (Aa (Af A)) (Af A).length false d (a2:Int) (Aa (Af B)) (Af B).length false f (l:Int) (fun ak bg=>(Ct N K c (List.take (aj*1) bd) aj false (List.take (ak*1) bg) ak false))))):=by
    intro K
    rw[Ct];unfold Ov
    rw[C,ct,Y,cf,r6,sn]
    rfl
   by_cases u:i=0
   ·obtain⟨Sq,Sr,q1,q2,q3,q4,q5⟩:=Xy (R:=R) (N:=N) (a:=Af A) (b:=Af B) (t:=false) (o:=d) (t':=false) (o':=f) rfl rfl (Ab _) (Ab _) (by rw[Ac];omega) (j.le (by omega))
    rw[Ac,Ac] at q2 q4 q5
    have hm:=Nat.mod_lt A h
    have hh:=Xz (show 1≤B by omega) m
    obtain⟨S,s1,s2,s⟩:=V c B (A%B) f false (by omega) (by rw[Nat.pow_succ] at n;omega) (by omega) (j.le (by omega))
    have z:Nat.gcd B (A%B)=Nat.gcd A B:=by rw[Nat.gcd_comm,←Nat.gcd_rec,Nat.gcd_comm]
    rw[z] at s2 s
    refine⟨S,s1,s2,fun K=>?_⟩
    have tk:List.take ((Af (A%B)).length*1) (Aa Sr)=Aa (Af (A%B)):=by rw[←q4,Gh q3]
    rw[start,uQ u,ct,q5,tk,s]
   ·rcases v with v | ⟨p1,p2,v⟩
    ·exact absurd v u
    cases e with
    | true =>
     obtain⟨c1,c2,c3,G⟩:=v
     obtain⟨S1,t1,t2,t3⟩:=M8 (R:=R) (N:=N) (a:=Af A) (b:=Af B) (x:=a1) (y:=i) (t:=false) (o:=d) (t':=false) (o':=f) rfl rfl (Ab _) (Ab _) r2 r4 (by rw[Ac,Ac,Nat.mul_comm,Nat.mul_comm A];exact c1) (j.le (by omega))
     obtain⟨S2,w1,I,L⟩:=M8 (R:=R) (N:=N) (a:=Af B) (b:=Af A) (x:=l) (y:=a2) (t:=false) (o:=f) (t':=false) (o':=d) rfl rfl (Ab _) (Ab _) r5 r3 (by rw[Ac,Ac,Nat.mul_comm,Nat.mul_comm B];exact c2) (j.le (by omega))
     rw[Ac,Ac] at t2 t3 I L
     have M:(A*a1 - B*i)+i*B=a1*A:=by rw[Nat.mul_comm A,Nat.mul_comm B];omega
     have T:(B*l - A*a2)+a2*A=l*B:=by rw[Nat.mul_comm A,Nat.mul_comm B];omega
     have q:B*l - A*a2≤A*a1 - B*i:=by rw[Nat.add_mul,Nat.add_mul] at c3;omega
     obtain⟨i1,i2⟩:=eL M T G
     have z:=jP M T G
     obtain⟨i3,i4⟩:=eM i1 i2 p2 (by omega) p1 q
     have hl:=A6 i4
     obtain⟨S,s1,s2,s⟩:=V c (A*a1 - B*i) (B*l - A*a2) false false (by omega) (by rw[Nat.pow_succ] at n;omega) q (j.le (by omega))
     rw[z] at s2 s
     refine⟨S,s1,s2,fun K=>?_⟩
     have tk1:List.take ((Af (A*a1 - B*i)).length*1) (Aa S1)=Aa (Af (A*a1 - B*i)):=by rw[←t2,Gh t1]
     have iL:List.take ((Af (B*l - A*a2)).length*1) (Aa S2)=Aa (Af (B*l - A*a2)):=by rw[←I,Gh w1]
     rw[start,bX u,cf,ct,t3,L,tk1,iL,s]
    | false =>
     obtain⟨c1,c2,c3,G⟩:=v
     obtain⟨S1,t1,t2,t3⟩:=M8 (R:=R) (N:=N) (a:=Af B) (b:=Af A) (x:=i) (y:=a1) (t:=false) (o:=f) (t':=false) (o':=d) rfl rfl (Ab _) (Ab _) r4 r2 (by rw[Ac,Ac,Nat.mul_comm,Nat.mul_comm B];exact c1) (j.le (by omega))
     obtain⟨S2,w1,I,L⟩:=M8 (R:=R) (N:=N) (a:=Af A) (b:=Af B) (x:=a2) (y:=l) (t:=false) (o:=d) (t':=false) (o':=f) rfl rfl (Ab _) (Ab _) r3 r5 (by rw[Ac,Ac,Nat.mul_comm,Nat.mul_comm A];exact c2) (j.le (by omega))
     rw[Ac,Ac] at t2 t3 I L
     have M:(B*i - A*a1)+a1*A=i*B:=by rw[Nat.mul_comm A,Nat.mul_comm B];omega
     have T:(A*a2 - B*l)+l*B=a2*A:=by rw[Nat.mul_comm A,Nat.mul_comm B];omega
     have q:A*a2 - B*l≤B*i - A*a1:=by rw[Nat.add_mul,Nat.add_mul] at c3;omega
     obtain⟨i1,i2⟩:=eL T M G
     have z:=jP T M G
     rw[Nat.gcd_comm] at z
     rw[Nat.add_comm] at i1 i2
     obtain⟨i3,i4⟩:=eM i1 i2 p2 (by omega) p1 q
     have hl:=A6 i4
     obtain⟨S,s1,s2,s⟩:=V c (B*i - A*a1) (A*a2 - B*l) false false (by omega) (by rw[Nat.pow_succ] at n;omega) q (j.le (by omega))
     rw[z] at s2 s
     refine⟨S,s1,s2,fun K=>?_⟩
     have tk1:List.take ((Af (B*i - A*a1)).length*1) (Aa S1)=Aa (Af (B*i - A*a1)):=by rw[←t2,Gh t1]
     have iL:List.take ((Af (A*a2 - B*l)).length*1) (Aa S2)=Aa (Af (A*a2 - B*l)):=by rw[←I,Gh w1]
     rw[start,bX u,cf,cf,t3,L,tk1,iL,s]
theorem j_ (n m:Nat):4294967296 ^ n*4294967296 ^ m=2 ^ (32*(n+m)):=by
 rw[←Nat.pow_add,show(4294967296:Nat)=2 ^ 32 by rfl,←Nat.pow_mul]
theorem rA {N:Nat} {a b:List Nat} {n m:Nat} {t o t' o':Bool} (k:n=a.length) (l:m=b.length) (f:Ae a) (i:Ae b) (d:fit (2*(a.length+b.length)+4) N) :
  ∃ S,Ae S∧val S=Nat.gcd (val a) (val b)∧∀ K:Nat→LA→O R,Xv N (Aa a) n t o (Aa b) m t' o' K=K (Af (Nat.gcd (val a) (val b))).length (Aa S):=by
 have q:=d.1;have s:=d.2
 have la:=(A1 f).2
 have lb:=(A1 i).2
 have c:val a*val b<2 ^ (32*(a.length+b.length)):=by rw[←j_];exact Nat.mul_lt_mul'' (Bd f) (Bd i)
 have start:∀ K:Nat→LA→O R,Xv N (Aa a) n t o (Aa b) m t' o' K=cond (decide (Fc (val a) (val b)<0)) (Ct N K N (Aa (Af (val b))) (Af (val b)).length o' (Aa (Af (val a))) (Af (val a)).length o) (Ct N K N (Aa (Af (val a))) (Af (val a)).length o (Aa (Af (val b))) (Af (val b)).length o'):=by
  intro K
  rw[XA];unfold TP Z9 FU
  dsimp only
  rw[A9 k f (d.le (by omega)),A9 l i (d.le (by omega)),Z7 rfl rfl (Ab _) (Ab _) (d.le (by omega)),Ac,Ac]
 by_cases e:val a<val b
 ·obtain⟨S,s1,s2,j⟩:=j9 (R:=R) (N:=N) (32*(a.length+b.length)) N (val b) (val a) o' o (by omega) (by rw[Nat.mul_comm];exact c) (by omega) (d.le (by omega))
  rw[Nat.gcd_comm] at s2
  refine⟨S,s1,s2,fun K=>?_⟩
  rw[start,show decide (Fc (val a) (val b)<0)=true by (unfold Fc;rw[if_pos e];rfl),ct,j,Nat.gcd_comm]
 ·obtain⟨S,s1,s2,j⟩:=j9 (R:=R) (N:=N) (32*(a.length+b.length)) N (val a) (val b) o o' (by omega) c (by omega) (d.le (by omega))
  refine⟨S,s1,s2,fun K=>?_⟩
  rw[start,show decide (Fc (val a) (val b)<0)=false by (unfold Fc;rw[if_neg e];split<;>rfl),cf,j]
end
end Gx

namespace Gx
open Go Go.Proofs
open IntKind (wrap)
set_option maxRecDepth 100000
noncomputable section
variable {R:Type} (N:Nat)
def FV (d:LA) (f:Bool) (g:LA) (i:Nat) (m l:Bool) (r0:LA→O R):O R :=
 (Pc d fun v=>(Lq 1 (d.drop 1) fun w x=>(cond (Nat.beq (d.length) 2) (HZ N [(.bool v),(.imm w x 1 false f)] (f||false) (fun q c o=>(Lu N g i false l (fun e p=>(cond (((c:Nat):Int)==0) (r0 [(.bool false),.nsl,(.imm [(.int .u32 1)] 1 1 false false)]) (Xv N (o.take (c*1)) c false true (p.take (e*1)) e false true (fun b n=>(cond ((((b:Nat):Int) != 1)==false) (cond (Am 0 b) (Bi .u32 n fun y=>(cond (cond false true (y != 1)) (Cs N (o.take (c*1)) c false true (n.take (b*1)) b false true (fun r ae af z ag=>(Cs N (p.take (e*1)) e false true (n.take (b*1)) b false true (fun s ah ai aa aj=>(r0 [(.bool q),(.imm (z.take (r*1)) r 1 false false),(.imm (aa.take (s*1)) s 1 false false)]))))) (r0 [(.bool q),(.imm (o.take (c*1)) c 1 false false),(.imm (p.take (e*1)) e 1 false false)]))) none) (Cs N (o.take (c*1)) c false true (n.take (b*1)) b false true (fun t ak al ab am=>(Cs N (p.take (e*1)) e false true (n.take (b*1)) b false true (fun u an ao ac ap=>(r0 [(.bool q),(.imm (ab.take (t*1)) t 1 false false),(.imm (ac.take (u*1)) u 1 false false)]))))))))))))) none)))
def Lb:=(Al (@FV R)).1
theorem CG:@Lb R=@FV R:=(Al _).2
def g9:Hints:={ H:=hL,modes:=[(3,0)],cob:=[2] }
def ja:Gn:=[(211,lh N),(212,N9 N),(213,oi N),(134,IJ N)]
def IR (F:KF R):LA→O R:=(fun ad=>F (.pagg ad false) [])
theorem IS (d:LA) (f:Bool) (g:LA) (i:Nat) (m l:Bool) (F:KF R):Dj (ja N) g9 N 129 [(.pagg d f),(.imm g i 1 m l)] [] F=(Lb N d f g i m l (IR F)):=by
 rw[CG]
 kernel_rfl
def CH (a:LA) (h:Ai) (k:KF R):O R :=
 match a,h with
 | [(.pagg d f),(.imm g i 1 m l)],[]=>(Lb N d f g i m l (IR k))
 | _,_=>none
theorem IT:Ao N 129 @CH:=by
 intro R Q a h k j;unfold CH;split;exact Ay (IS ..) (IS ..) ⟨li N,Oa N,oq N,IK N,trivial⟩;exact A0
def IU:=Az (IT N)
def IV:=Dh (IT N)
def IW (b:LA) (c:Bool) (r0:LA→O R):O R :=
 (cond (Nat.ble 3 (b.length)) (Ia N (b.take 3) c (fun f g i=>(cond i (Fe N f g (fun d=>(cond ((Nat.beq 0 0)&&((Nat.beq (d.length) 3)&&(Nat.beq 3 3))) (cond (Nat.ble 3 (d.length)) (r0 (d.take 3)) none) none))) (cond (Nat.ble 3 (b.length)) (L7 N (b.take 3) c (fun l m n o p=>(Lb N l m n o false p (fun e=>(cond ((Nat.beq 0 0)&&((Nat.beq (e.length) 3)&&(Nat.beq 3 3))) (cond (Nat.ble 3 (e.length)) (r0 (e.take 3)) none) none))))) none)))) none)
def IX:=(Al (@IW R)).1
theorem X0:@IX R=@IW R:=(Al _).2
def ow:Gn:=[(127,PH N),(128,Xj N),(130,Xl N),(129,IU N)]
def XE (F:KF R):LA→O R:=(fun q=>F (.pagg q false) [])
theorem XF (b:LA) (c:Bool) (F:KF R):Dj (ow N) H3 N 62 [(.pagg b c)] [] F=(IX N b c (XE F)):=by
 rw[X0]
 kernel_rfl
def PQ (a:LA) (h:Ai) (k:KF R):O R :=
 match a,h with
 | [(.pagg b c)],[]=>(IX N b c (XE k))
 | _,_=>none
theorem XG:Ao N 62 @PQ:=by
 intro R Q a h k j;unfold PQ;split;exact Ay (XF ..) (XF ..) ⟨PI N,Xk N,Xm N,IV N,trivial⟩;exact A0
def lm:=Az (XG N)
def ln:=Dh (XG N)
def TQ (c:LA) (e:Bool) (d:LA) (b:Bool) (r0:LA→Bool→O R):O R :=
 (Pc c fun m=>(Lq 1 (c.drop 1) fun n o=>(cond (Nat.beq (c.length) 2) (Pc d fun g=>(Lq 1 (d.drop 1) fun i l=>(cond (Nat.beq (d.length) 2) (T7 N [(.bool g),(.imm i l 1 false b)] (b||false) (fun p=>(cond (p==0) (r0 [(.bool false),.nsl,.nsl] false) (IX N [(.bool (!(m==g))),(.imm n o 1 false e),(.imm i l 1 false b)] (e||(b||false)) (fun f=>(cond ((Nat.beq 0 0)&&((Nat.beq (f.length) 3)&&(Nat.beq 3 3))) (cond (Nat.ble 3 (f.length)) (r0 (f.take 3) true) none) none)))))) none))) none)))
def ND:=(Al (@TQ R)).1
theorem FW:@ND R=@TQ R:=(Al _).2
def pA:Hints:={ H:=hL,modes:=[(3,0),(0,0)],cob:=[2,3] }
def rB:Gn:=[(125,WH N),(62,lm N)]
def eN (F:KF R):LA→Bool→O R:=(fun q r=>F (.tup [(.pagg q false),(.bool r)]) [])
theorem eO (c:LA) (e:Bool) (d:LA) (b:Bool) (F:KF R):Dj (rB N) pA N 82 [(.pagg c e),(.pagg d b)] [] F=(ND N c e d b (eN F)):=by
 rw[FW]
 kernel_rfl
def XH (a:LA) (h:Ai) (k:KF R):O R :=
 match a,h with
 | [(.pagg c e),(.pagg d b)],[]=>(ND N c e d b (eN k))
 | _,_=>none
theorem eP:Ao N 82 @XH:=by
 intro R Q a h k j;unfold XH;split;exact Ay (eO ..) (eO ..) ⟨WI N,ln N,trivial⟩;exact A0
def eQ:=Az (eP N)
def eR:=Dh (eP N)
def M9 (N:Nat) (r0:Nat→LA→O R) (d:LA) (c:Nat) (f e:Bool) (k0:Int→O R) (b:Int):O R :=
 (cond ((decide (b>0))==true) (cond (Am (wrap .i64 (b - 1)) c) (Bi .u32 (d.drop (((wrap .i64 (b - 1)).toNat)*1)) fun g=>(cond (cond true (g==0) false) (k0 (wrap .i64 (b - 1))) (cond ((decide ((0:Int)≤(0:Int)))&&((decide (0≤b))&&((decide (b≤((c:Nat):Int)))&&(decide (((c:Nat):Int)≤((c:Nat):Int)))))) (cond ((!e)||(Cf (d.take ((b.toNat)*1)))) (cond ((Nat.ble (0+(b.toNat)) 140737488355328)&&(Nat.ble ((0+(b.toNat))*4) 140737488355328)) (r0 (0+(b.toNat)) (d.take ((b.toNat)*1))) none) none) none))) none) (cond ((decide ((0:Int)≤(0:Int)))&&((decide (0≤b))&&((decide (b≤((c:Nat):Int)))&&(decide (((c:Nat):Int)≤((c:Nat):Int)))))) (cond ((!e)||(Cf (d.take ((b.toNat)*1)))) (cond ((Nat.ble (0+(b.toNat)) 140737488355328)&&(Nat.ble ((0+(b.toNat))*4) 140737488355328)) (r0 (0+(b.toNat)) (d.take ((b.toNat)*1))) none) none) none))
def Hc (r0:Nat→LA→O R) (d:LA) (c:Nat) (f e:Bool):Nat→Int→O R
 | 0,_=>none
 | n+1,b=>(M9 N r0 d c f e (Hc r0 d c f e n) b)
def Sw (N:Nat) (r0:Nat→LA→O R) (q0:Int→O R) (d:LA) (c:Nat) (f e:Bool):O R :=
 (q0 ((c:Nat):Int))
def B7:=(Al (fun (N:Nat) (d:LA) (c:Nat) (f e:Bool) (r0:Nat→LA→O R)=>(Sw N r0 (fun b=>(Hc N r0 d c f e N b)) d c f e))).1
theorem Ud (d c f e r0):(@B7 R N d c f e r0)=(Sw N r0 (fun b=>(Hc N r0 d c f e N b)) d c f e):=by rw[B7,(Al _).2]
def jb (F:KF R):=Rh Tryz.f150 OY [] [] N F
def L8 (F:KF R):Nat→LA→O R:=(fun i l=>F (.own 300000 0 i) (hq [(bQ 1 l)]))
def jc (d:LA) (c:Nat) (f e:Bool) (b:Int):St:=⟨[(0,(.imm d c 1 f e)),(3,(iv b))],[]⟩
def jd (F:KF R):=jb N F [1,1,0,0] []
theorem X1 (F:KF R) (d:LA) (c:Nat) (f e:Bool):∀ (n:Nat) (b:Int),Ax (jd N F) n (jc d c f e b)=(Hc N (L8 F) d c f e n b)
 | 0,_=>by kernel_rfl
 | n+1,b=>Eq.trans (by kernel_rfl) (Ee (M9 N (L8 F) d c f e · b) (funext fun b=>(X1 F d c f e n b)):_)
theorem PR (d:LA) (c:Nat) (f e:Bool) (F:KF R):Dj [] OY N 150 [(.imm d c 1 f e)] [] F=(B7 N d c f e (L8 F)):=by
 rw[Ud]
 exact Eq.trans (by kernel_rfl) (Ee (Sw N (L8 F) · d c f e) (funext fun b=>(Ar ..).trans (X1 N F d c f e N b)):_)
def IY (a:LA) (h:Ai) (k:KF R):O R :=
 match a,h with
 | [(.imm d c 1 f e)],[]=>(B7 N d c f e (L8 k))
 | _,_=>none
theorem PS:Ao N 150 @IY:=by
 intro R Q a h k j;unfold IY;split;exact Ay (PR ..) (PR ..) trivial;exact A0
def Dn:=Az (PS N)
def Do:=Dh (PS N)
def Mm (b:Int) (r0:Nat→LA→O R):O R :=
 (B7 N [(.int .u32 (wrap .u32 b)),(.int .u32 (wrap .u32 (Int.fdiv b (2 ^ 32))))] 2 false true (fun c d=>(r0 c d)))
def C0:=(Al (@Mm R)).1
theorem Ow:@C0 R=@Mm R:=(Al _).2
def NE:Gn:=[(150,Dn N)]
def P4 (F:KF R):Nat→LA→O R:=(fun e f=>F (.own 300000 0 e) (hq [(bQ 1 f)]))
theorem P5 (b:Int) (F:KF R):Dj (NE N) qg N 88 [(.int .u64 b)] [] F=(C0 N b (P4 F)):=by
 rw[Ow]
 kernel_rfl
def Ox (a:LA) (h:Ai) (k:KF R):O R :=
 match a,h with
 | [(.int .u64 b)],[]=>(C0 N b (P4 k))
 | _,_=>none
theorem P6:Ao N 88 @Ox:=by
 intro R Q a h k j;unfold Ox;split;exact Ay (P5 ..) (P5 ..) ⟨Do N,trivial⟩;exact A0
def P7:=Az (P6 N)
def P8:=Dh (P6 N)
def NF (b:Bool) (c:LA) (d:Nat) (f e:Bool) (r0:LA→O R):O R :=
 (B7 N c d false e (fun g i=>(cond (b==true) (r0 [(.bool (cond true (decide (((g:Nat):Int)>0)) false)),(.imm (i.take (g*1)) g 1 false false)]) (r0 [(.bool false),(.imm (i.take (g*1)) g 1 false false)]))))
def Dg:=(Al (@NF R)).1
theorem IZ:@Dg R=@NF R:=(Al _).2
def lp:Gn:=[(150,Dn N)]
def PT (F:KF R):LA→O R:=(fun l=>F (.pagg l false) [])
theorem PU (b:Bool) (c:LA) (d:Nat) (f e:Bool) (F:KF R):Dj (lp N) H3 N 83 [(.bool b),(.imm c d 1 f e)] [] F=(Dg N b c d f e (PT F)):=by
 rw[IZ]
 kernel_rfl
def I_ (a:LA) (h:Ai) (k:KF R):O R :=
 match a,h with
 | [(.bool b),(.imm c d 1 f e)],[]=>(Dg N b c d f e (PT k))
 | _,_=>none
theorem PV:Ao N 83 @I_:=by
 intro R Q a h k j;unfold I_;split;exact Ay (PU ..) (PU ..) ⟨Do N,trivial⟩;exact A0
def Ff:=Az (PV N)
def Fg:=Dh (PV N)
def Ue (b:Int) (r0:LA→O R):O R :=
 (cond (decide (b<0)) (C0 N (wrap .u64 ((wrap .u64 (wrap .i64 ((0:Int) - (wrap .i64 (b+1)))))+1)) (fun e g=>(Dg N true (g.take (e*1)) e false true (fun c=>(cond ((Nat.beq 0 0)&&((Nat.beq (c.length) 2)&&(Nat.beq 2 2))) (cond (Nat.ble 2 (c.length)) (r0 (c.take 2)) none) none))))) (C0 N (wrap .u64 b) (fun f i=>(Dg N false (i.take (f*1)) f false true (fun d=>(cond ((Nat.beq 0 0)&&((Nat.beq (d.length) 2)&&(Nat.beq 2 2))) (cond (Nat.ble 2 (d.length)) (r0 (d.take 2)) none) none))))))
def Dp:=(Al (@Ue R)).1
theorem Vy:@Dp R=@Ue R:=(Al _).2
def cU:Gn:=[(88,P7 N),(83,Ff N)]
def X2 (F:KF R):LA→O R:=(fun l=>F (.pagg l false) [])
theorem X3 (b:Int) (F:KF R):Dj (cU N) H3 N 32 [(iv b)] [] F=(Dp N b (X2 F)):=by
 rw[Vy]
 kernel_rfl
def Vz (a:LA) (h:Ai) (k:KF R):O R :=
 match a,h with
 | [(.int .i64 b)],[]=>(Dp N b (X2 k))
 | _,_=>none
theorem X4:Ao N 32 @Vz:=by
 intro R Q a h k j;unfold Vz;split;exact Ay (X3 ..) (X3 ..) ⟨P8 N,Fg N,trivial⟩;exact A0
def Oy:=Az (X4 N)
def Oz:=Dh (X4 N)
def NG (b:LA) (c:Bool) (r0:LA→O R):O R :=
 (Pc b fun e=>(Lq 1 (b.drop 1) fun f g=>(Dg N e f g false c (fun d=>(cond ((Nat.beq 0 0)&&((Nat.beq (d.length) 2)&&(Nat.beq 2 2))) (cond (Nat.ble 2 (d.length)) (r0 (d.take 2)) none) none)))))
def O0:=(Al (@NG R)).1
theorem JA:@O0 R=@NG R:=(Al _).2
def lq:Gn:=[(83,Ff N)]
def PW (F:KF R):LA→O R:=(fun i=>F (.pagg i false) [])
theorem PX (b:LA) (c:Bool) (F:KF R):Dj (lq N) H3 N 26 [(.pagg b c)] [] F=(O0 N b c (PW F)):=by
 rw[JA]
 kernel_rfl
def JB (a:LA) (h:Ai) (k:KF R):O R :=
 match a,h with
 | [(.pagg b c)],[]=>(O0 N b c (PW k))
 | _,_=>none
theorem PY:Ao N 26 @JB:=by
 intro R Q a h k j;unfold JB;split;exact Ay (PX ..) (PX ..) ⟨Fg N,trivial⟩;exact A0
def PZ:=Az (PY N)
def P_:=Dh (PY N)
def NH (b:LA) (c:Bool) (r0:Int→O R):O R :=
 (cond (Nat.ble 2 (b.length)) (O0 N (b.take 2) c (fun d=>(cond ((Nat.beq (d.length) 2)&&((Nat.ble 2 (b.length))&&(!false))) (Pc (setCells b 0 d) fun e=>(cond e (r0 (-1)) (Lq 1 ((setCells b 0 d).drop 1) fun i f=>(cond (((f:Nat):Int)==0) (r0 0) (r0 1))))) none))) none)
def X5:=(Al (@NH R)).1
theorem JC:@X5 R=@NH R:=(Al _).2
def lt:Gn:=[(26,PZ N)]
def P' (F:KF R):Int→O R:=(fun g=>F (iv g) [])
theorem QA (b:LA) (c:Bool) (F:KF R):Dj (lt N) H2 N 138 [(.pagg b c)] [] F=(X5 N b c (P' F)):=by
 rw[JC]
 kernel_rfl
def JD (a:LA) (h:Ai) (k:KF R):O R :=
 match a,h with
 | [(.pagg b c)],[]=>(X5 N b c (P' k))
 | _,_=>none
theorem QB:Ao N 138 @JD:=by
 intro R Q a h k j;unfold JD;split;exact Ay (QA ..) (QA ..) ⟨P_ N,trivial⟩;exact A0
def je:=Az (QB N)
def jf:=Dh (QB N)
def NI (N:Nat) (r0:LA→O R):O R :=
 (r0 [(.bool false),(.imm [] 0 1 false false),(.imm [(.int .u32 1)] 1 1 false false)])
def X6:=(Al (@NI R)).1
theorem JE:@X6 R=@NI R:=(Al _).2
def QC (F:KF R):LA→O R:=(fun b=>F (.pagg b false) [])
theorem QD (F:KF R):Dj [] H3 N 151 [] [] F=(X6 N (QC F)):=by
 rw[JE]
 kernel_rfl
def JF (a:LA) (h:Ai) (k:KF R):O R :=
 match a,h with
 | [],[]=>(X6 N (QC k))
 | _,_=>none
theorem QE:Ao N 151 @JF:=by
 intro R Q a h k j;unfold JF;split;exact Ay (QD ..) (QD ..) trivial;exact A0
def jg:=Az (QE N)
def jh:=Dh (QE N)
def Ly (N:Nat) (r0:Bool→O R) (d:LA) (b:Nat) (f g:Bool) (e:LA) (c:Nat) (i l:Bool) (k0:Int→O R) (m:Int):O R :=
 (cond (decide (m<((b:Nat):Int))) (cond (Am m b) (Bi .u32 (d.drop ((m.toNat)*1)) fun o=>(cond (Am m c) (Bi .u32 (e.drop ((m.toNat)*1)) fun p=>(cond (o != p) (r0 false) (k0 (wrap .i64 (m+1))))) none)) none) (r0 true))
def Fy (r0:Bool→O R) (d:LA) (b:Nat) (f g:Bool) (e:LA) (c:Nat) (i l:Bool):Nat→Int→O R
 | 0,_=>none
 | n+1,m=>(Ly N r0 d b f g e c i l (Fy r0 d b f g e c i l n) m)
def Uf (N:Nat) (r0:Bool→O R) (q0:Int→O R) (d:LA) (b:Nat) (f g:Bool) (e:LA) (c:Nat) (i l:Bool):O R :=
 (cond (((b:Nat):Int) != ((c:Nat):Int)) (r0 false) (q0 0))
def Jb:=(Al (fun (N:Nat) (d:LA) (b:Nat) (f g:Bool) (e:LA) (c:Nat) (i l:Bool) (r0:Bool→O R)=>(Uf N r0 (fun m=>(Fy N r0 d b f g e c i l N m)) d b f g e c i l))).1
theorem CI (d b f g e c i l r0):(@Jb R N d b f g e c i l r0)=(Uf N r0 (fun m=>(Fy N r0 d b f g e c i l N m)) d b f g e c i l):=by rw[Jb,(Al _).2]
def JG:Hints:={ H:=(hS hL (hS hL (hS (hS hL (hS (hP [0,1,5] hL) hL)) hL))) }
def g_ (F:KF R):=Rh Tryz.f65 JG [] [] N F
def J6 (F:KF R):Bool→O R:=(fun q=>F (.bool q) [])
def gc (d:LA) (b:Nat) (f g:Bool) (e:LA) (c:Nat) (i l:Bool) (m:Int):St:=⟨[(0,(.imm d b 1 f g)),(1,(.imm e c 1 i l)),(5,(iv m))],[]⟩
def gd (F:KF R):=g_ N F [1,1,0,1,0] []
theorem V0 (F:KF R) (d:LA) (b:Nat) (f g:Bool) (e:LA) (c:Nat) (i l:Bool):∀ (n:Nat) (m:Int),Ax (gd N F) n (gc d b f g e c i l m)=(Fy N (J6 F) d b f g e c i l n m)
 | 0,_=>by kernel_rfl
 | n+1,m=>Eq.trans (by kernel_rfl) (Ee (Ly N (J6 F) d b f g e c i l · m) (funext fun m=>(V0 F d b f g e c i l n m)):_)
theorem JH (d:LA) (b:Nat) (f g:Bool) (e:LA) (c:Nat) (i l:Bool) (F:KF R):Dj [] JG N 65 [(.imm d b 1 f g),(.imm e c 1 i l)] [] F=(Jb N d b f g e c i l (J6 F)):=by
 rw[CI]
 exact Eq.trans (by kernel_rfl) (Ee (Uf N (J6 F) · d b f g e c i l) (funext fun m=>(Ar ..).trans (V0 N F d b f g e c i l N m)):_)
def CJ (a:LA) (h:Ai) (k:KF R):O R :=
 match a,h with
 | [(.imm d b 1 f g),(.imm e c 1 i l)],[]=>(Jb N d b f g e c i l (J6 k))
 | _,_=>none
theorem JI:Ao N 65 @CJ:=by
 intro R Q a h k j;unfold CJ;split;exact Ay (JH ..) (JH ..) trivial;exact A0
def Ug:=Az (JI N)
def Uh:=Dh (JI N)
def C1 (N:Nat) (r0:Int→Bool→O R) (b:Nat) (d:LA) (k0:Int→Int→O R) (e c:Int):O R :=
 (cond (decide (c≥0)) (cond (Am c b) (Bi .u32 (d.drop (0+((c.toNat)*1))) fun m=>(k0 (I6 .u64 (wrap .u64 (e*2 ^ 32)) (wrap .u64 m)) (wrap .i64 (c - 1)))) none) (r0 e true))
def Ci (r0:Int→Bool→O R) (b:Nat) (d:LA):Nat→Int→Int→O R
 | 0,_,_=>none
 | n+1,e,c=>(C1 N r0 b d (Ci r0 b d n) e c)
def P9 (r0:Int→Bool→O R) (q0:Nat→LA→Int→Int→O R) (f:LA) (g:Nat) (l i:Bool):O R :=
 (B7 N f g false i (fun b d=>(cond (decide (((b:Nat):Int)>2)) (r0 0 false) (q0 b d 0 (wrap .i64 (((b:Nat):Int) - 1))))))
def Iu:=(Al (fun (N:Nat) (f:LA) (g:Nat) (l i:Bool) (r0:Int→Bool→O R)=>(P9 N r0 (fun b d e c=>(Ci N r0 b d N e c)) f g l i))).1
theorem X7 (f g l i r0):(@Iu R N f g l i r0)=(P9 N r0 (fun b d e c=>(Ci N r0 b d N e c)) f g l i):=by rw[Iu,(Al _).2]
def CK:Hints:={ H:=(hS hL (hS hL (hS hL (hS hL (hS (hS hL (hS (hP [0,4,5] hL) hL)) hL))))) }
def JJ:Gn:=[(150,Dn N)]
def cV (F:KF R):=Rh Tryz.f89 CK (JJ N) [] N F
def Ic (F:KF R):Int→Bool→O R:=(fun o p=>F (.tup [(.int .u64 o),(.bool p)]) [])
def cW (b:Nat) (d:LA) (e c:Int):St:=⟨[(0,(.own 300000 0 b)),(4,(.int .u64 e)),(5,(iv c))],(hq [(bQ 1 d)])⟩
def cX (F:KF R):=cV N F [1,1,1,1,0,1,0] []
theorem Sz (F:KF R) (b:Nat) (d:LA):∀ (n:Nat) (e c:Int),Ax (cX N F) n (cW b d e c)=(Ci N (Ic F) b d n e c)
 | 0,_,_=>by kernel_rfl
 | n+1,e,c=>Eq.trans (by kernel_rfl) (Ee (C1 N (Ic F) b d · e c) (funext fun e=>funext fun c=>(Sz F b d n e c)):_)
theorem CL (f:LA) (g:Nat) (l i:Bool) (F:KF R):Dj (JJ N) CK N 89 [(.imm f g 1 l i)] [] F=(Iu N f g l i (Ic F)):=by
 rw[X7]
 exact Eq.trans (by kernel_rfl) (Ee (P9 N (Ic F) · f g l i) (funext fun b=>funext fun d=>funext fun e=>funext fun c=>(Ar ..).trans (Sz N F b d N e c)):_)
def X8 (a:LA) (h:Ai) (k:KF R):O R :=
 match a,h with
 | [(.imm f g 1 l i)],[]=>(Iu N f g l i (Ic k))
 | _,_=>none
theorem CM:Ao N 89 @X8:=by
 intro R Q a h k j;unfold X8;split;exact Ay (CL ..) (CL ..) ⟨Do N,trivial⟩;exact A0
def cY:=Az (CM N)
def cZ:=Dh (CM N)
def J7 (N:Nat) (r0:Int→O R) (k0:Int→Int→O R) (b c:Int):O R :=
 (cond (decide (c>0)) (k0 (wrap .i64 (b+1)) (Int.fdiv c (2 ^ 1))) (r0 b))
def Fh (r0:Int→O R):Nat→Int→Int→O R
 | 0,_,_=>none
 | n+1,b,c=>(J7 N r0 (Fh r0 n) b c)
def S5 (r0:Int→O R) (q0:Int→Int→O R) (d:LA) (e:Nat) (g f:Bool):O R :=
 (B7 N d e false f (fun i l=>(cond (((i:Nat):Int)==0) (r0 0) (cond (Am (wrap .i64 (((i:Nat):Int) - 1)) i) (Bi .u32 (l.drop (0+(((wrap .i64 (((i:Nat):Int) - 1)).toNat)*1))) fun m=>(q0 (wrap .i64 (32*(wrap .i64 (((i:Nat):Int) - 1)))) m)) none))))
def S6:=(Al (fun (N:Nat) (d:LA) (e:Nat) (g f:Bool) (r0:Int→O R)=>(S5 N r0 (fun b c=>(Fh N r0 N b c)) d e g f))).1
theorem Ui (d e g f r0):(@S6 R N d e g f r0)=(S5 N r0 (fun b c=>(Fh N r0 N b c)) d e g f):=by rw[S6,(Al _).2]
def QF:Hints:={ H:=(hS hL (hS hL (hS hL (hS hL (hS (hS hL (hS (hP [3,4] hL) hL)) hL))))) }
def XI:Gn:=[(150,Dn N)]
def ji (F:KF R):=Rh Tryz.f206 QF (XI N) [] N F
def L9 (F:KF R):Int→O R:=(fun o=>F (iv o) [])
def jj (b c:Int):St:=⟨[(3,(iv b)),(4,(.int .u32 c))],[]⟩
def jk (F:KF R):=ji N F [1,1,1,1,0,1,0] []
theorem X9 (F:KF R):∀ (n:Nat) (b c:Int),Ax (jk N F) n (jj b c)=(Fh N (L9 F) n b c)
 | 0,_,_=>by kernel_rfl
 | n+1,b,c=>Eq.trans (by kernel_rfl) (Ee (J7 N (L9 F) · b c) (funext fun b=>funext fun c=>(X9 F n b c)):_)
theorem QG (d:LA) (e:Nat) (g f:Bool) (F:KF R):Dj (XI N) QF N 206 [(.imm d e 1 g f)] [] F=(S6 N d e g f (L9 F)):=by
 rw[Ui]
 exact Eq.trans (by kernel_rfl) (Ee (S5 N (L9 F) · d e g f) (funext fun b=>funext fun c=>(Ar ..).trans (X9 N F N b c)):_)
def JK (a:LA) (h:Ai) (k:KF R):O R :=
 match a,h with
 | [(.imm d e 1 g f)],[]=>(S6 N d e g f (L9 k))
 | _,_=>none
theorem QH:Ao N 206 @JK:=by
 intro R Q a h k j;unfold JK;split;exact Ay (QG ..) (QG ..) ⟨Do N,trivial⟩;exact A0
def jl:=Az (QH N)
def jm:=Dh (QH N)
def O1 (N:Nat) (k0:Nat→Int→Int→LA→O R) (r0:Nat→LA→O R) (d:LA) (b:Nat) (f g:Bool) (e:LA) (c:Nat) (i l:Bool) (m:Nat) (o:LA) (s q:Int):O R :=
 (cond (decide (q<((c:Nat):Int))) (cond (Am q c) (Bi .u32 (e.drop ((q.toNat)*1)) fun t=>(cond (Am q m) (cond ((Nat.beq 1 1)&&((Nat.ble ((0+((q.toNat)*1))+1) (o.length))&&(!false))) (k0 m (Int.fdiv (wrap .u64 (s+(wrap .u64 t))) (2 ^ 32)) (wrap .i64 (q+1)) (o.set (0+((q.toNat)*1)) (.int .u32 (wrap .u32 (wrap .u64 (s+(wrap .u64 t))))))) none) none)) none) (cond (Am q m) (cond ((Nat.beq 1 1)&&((Nat.ble ((0+((q.toNat)*1))+1) (o.length))&&(!false))) (k0 m (Int.fdiv s (2 ^ 32)) (wrap .i64 (q+1)) (o.set (0+((q.toNat)*1)) (.int .u32 (wrap .u32 s)))) none) none))
def Qa (r0:Nat→LA→O R) (d:LA) (b:Nat) (f g:Bool) (e:LA) (c:Nat) (i l:Bool) (k0:Nat→Int→Int→LA→O R) (q1:Int→Int→O R) (m:Nat) (r p:Int) (o:LA):O R :=
 (cond (decide (p<((m:Nat):Int))) (cond (decide (p<((b:Nat):Int))) (cond (Am p b) (Bi .u32 (d.drop ((p.toNat)*1)) fun u=>(q1 (wrap .u64 (r+(wrap .u64 u))) p)) none) (q1 r p)) (B7 N (o.take (m*1)) m false true (fun v w=>(r0 v w))))
def Ex (r0:Nat→LA→O R) (d:LA) (b:Nat) (f g:Bool) (e:LA) (c:Nat) (i l:Bool):Nat→Nat→Int→Int→LA→O R
 | 0,_,_,_,_=>none
 | n+1,m,r,p,o=>(Qa N r0 d b f g e c i l (Ex r0 d b f g e c i l n) (fun s q=>(O1 N (Ex r0 d b f g e c i l n) r0 d b f g e c i l m o s q)) m r p o)
def JL (N:Nat) (r0:Nat→LA→O R) (q0:Nat→Int→Int→LA→O R) (d:LA) (b:Nat) (f g:Bool) (e:LA) (c:Nat) (i l:Bool):O R :=
 (cond ((decide (0≤(wrap .i64 ((EK ((b:Nat):Int) ((c:Nat):Int))+1))))&&((decide ((wrap .i64 ((EK ((b:Nat):Int) ((c:Nat):Int))+1))≤(wrap .i64 ((EK ((b:Nat):Int) ((c:Nat):Int))+1))))&&((decide ((wrap .i64 ((EK ((b:Nat):Int) ((c:Nat):Int))+1))≤140737488355328))&&(decide (((wrap .i64 ((EK ((b:Nat):Int) ((c:Nat):Int))+1))*((4:Nat):Int))≤140737488355328))))) (q0 ((wrap .i64 ((EK ((b:Nat):Int) ((c:Nat):Int))+1)).toNat) 0 0 (List.replicate ((wrap .i64 ((EK ((b:Nat):Int) ((c:Nat):Int))+1)).toNat) (.int .u32 0))) none)
def Qb:=(Al (fun (N:Nat) (d:LA) (b:Nat) (f g:Bool) (e:LA) (c:Nat) (i l:Bool) (r0:Nat→LA→O R)=>(JL N r0 (fun m r p o=>(Ex N r0 d b f g e c i l N m r p o)) d b f g e c i l))).1
theorem QI (d b f g e c i l r0):(@Qb R N d b f g e c i l r0)=(JL N r0 (fun m r p o=>(Ex N r0 d b f g e c i l N m r p o)) d b f g e c i l):=by rw[Qb,(Al _).2]
def XJ:Hints:={ H:=(hS hL (hS hL (hS hL (hS (hS hL (hS (hP [0,1,5,6,7] (hS hL (hS (hS (hJ [0,1,5,6,7] hL hL) hL) hL))) hL)) hL)))),nils:=[(4,1)],modes:=[(2,1)] }
def eS:Gn:=[(150,Dn N)]
def XK (F:KF R):=Rh Tryz.f207 XJ (eS N) [] N F
def Iv (F:KF R):Nat→LA→O R:=(fun x y=>F (.own 300000 0 x) (hq [(bQ 1 y)]))
def lw (d:LA) (b:Nat) (f g:Bool) (e:LA) (c:Nat) (i l:Bool) (m:Nat) (o:LA) (s q:Int):St:=⟨[(0,(.imm d b 1 f g)),(1,(.imm e c 1 i l)),(5,(.own 300000 0 m)),(6,(.int .u64 s)),(7,(iv q))],(hq [(bQ 1 o)])⟩
def mA (F:KF R) (Q0:St→O R):=XK N F [1,1,1,0,1,0,0,1,0,0,1] [Q0]
def XL (d:LA) (b:Nat) (f g:Bool) (e:LA) (c:Nat) (i l:Bool) (m:Nat) (r p:Int) (o:LA):St:=⟨[(0,(.imm d b 1 f g)),(1,(.imm e c 1 i l)),(5,(.own 300000 0 m)),(6,(.int .u64 r)),(7,(iv p))],(hq [(bQ 1 o)])⟩
def XM (F:KF R):=XK N F [1,1,1,0,1,0] []
theorem c_ (Q0:St→O R) (F:KF R) (d:LA) (b:Nat) (f g:Bool) (e:LA) (c:Nat) (i l:Bool) (m:Nat) (o:LA):∀ (s q:Int),C7 (mA N F Q0) (lw d b f g e c i l m o s q)=(O1 N (fun m r p o=>Q0 (XL d b f g e c i l m r p o)) (Iv F) d b f g e c i l m o s q):=by
 intro s q
 kernel_rfl
theorem CN (F:KF R) (d:LA) (b:Nat) (f g:Bool) (e:LA) (c:Nat) (i l:Bool):∀ (n m:Nat) (r p:Int) (o:LA),Ax (XM N F) n (XL d b f g e c i l m r p o)=(Ex N (Iv F) d b f g e c i l n m r p o)
 | 0,_,_,_,_=>by kernel_rfl
 | n+1,m,r,p,o=>have e0:=(funext fun m=>funext fun r=>funext fun p=>funext fun o=>(CN F d b f g e c i l n m r p o))
  Eq.trans (by kernel_rfl) (pt (Qa N (Iv F) d b f g e c i l · · m r p o) e0 (funext fun s=>funext fun q=>(A8 ..).trans ((c_ N (Ax (XM N F) n) F d b f g e c i l m o s q).trans (Ee (O1 N · (Iv F) d b f g e c i l m o s q) e0))):_)
theorem XN (d:LA) (b:Nat) (f g:Bool) (e:LA) (c:Nat) (i l:Bool) (F:KF R):Dj (eS N) XJ N 207 [(.imm d b 1 f g),(.imm e c 1 i l)] [] F=(Qb N d b f g e c i l (Iv F)):=by
 rw[QI]
 exact Eq.trans (by kernel_rfl) (Ee (JL N (Iv F) · d b f g e c i l) (funext fun m=>funext fun r=>funext fun p=>funext fun o=>(Ar ..).trans (CN N F d b f g e c i l N m r p o)):_)
def QJ (a:LA) (h:Ai) (k:KF R):O R :=
 match a,h with
 | [(.imm d b 1 f g),(.imm e c 1 i l)],[]=>(Qb N d b f g e c i l (Iv k))
 | _,_=>none
theorem XO:Ao N 207 @QJ:=by
 intro R Q a h k j;unfold QJ;split;exact Ay (XN ..) (XN ..) ⟨Do N,trivial⟩;exact A0
def XP:=Az (XO N)
def XQ:=Dh (XO N)
def XR (N:Nat) (d:LA) (c:Nat) (e f:Bool) (b:Int) (r0:Int→O R):O R :=
 (cond (decide ((wrap .i64 (Int.tdiv b 32))≥((c:Nat):Int))) (r0 0) (cond (Am (wrap .i64 (Int.tdiv b 32)) c) (Bi .u32 (d.drop (((wrap .i64 (Int.tdiv b 32)).toNat)*1)) fun g=>(cond (decide ((wrap .u64 (Int.tmod b 32))<0)) none (r0 (l4 .u32 (Int.fdiv g (2 ^ (min ((wrap .u64 (Int.tmod b 32)).toNat) 32))) 1)))) none))
def JM:=(Al (@XR R)).1
theorem QK:@JM R=@XR R:=(Al _).2
def XS (F:KF R):Int→O R:=(fun i=>F (.int .u32 i) [])
theorem XT (d:LA) (c:Nat) (e f:Bool) (b:Int) (F:KF R):Dj [] H2 N 208 [(.imm d c 1 e f),(iv b)] [] F=(JM N d c e f b (XS F)):=by
 rw[QK]
 kernel_rfl
def QL (a:LA) (h:Ai) (k:KF R):O R :=
 match a,h with
 | [(.imm d c 1 e f),(.int .i64 b)],[]=>(JM N d c e f b (XS k))
 | _,_=>none
theorem XU:Ao N 208 @QL:=by
 intro R Q a h k j;unfold QL;split;exact Ay (XT ..) (XT ..) trivial;exact A0
def mB:=Az (XU N)
def mC:=Dh (XU N)
def Io (N:Nat) (r0:Int→O R) (c d:Nat) (e f:LA) (k0:Int→O R) (b:Int):O R :=
 (cond (decide (b≥0)) (cond (Am b c) (Bi .u32 (e.drop (0+((b.toNat)*1))) fun s=>(cond (Am b d) (Bi .u32 (f.drop (0+((b.toNat)*1))) fun t=>(cond (decide (s<t)) (r0 (-1)) (cond (Am b c) (Bi .u32 (e.drop (0+((b.toNat)*1))) fun u=>(cond (Am b d) (Bi .u32 (f.drop (0+((b.toNat)*1))) fun v=>(cond (decide (u>v)) (r0 1) (k0 (wrap .i64 (b - 1))))) none)) none))) none)) none) (r0 0))
def D2 (r0:Int→O R) (c d:Nat) (e f:LA):Nat→Int→O R
 | 0,_=>none
 | n+1,b=>(Io N r0 c d e f (D2 r0 c d e f n) b)
def Na (r0:Int→O R) (q0:Nat→Nat→LA→LA→Int→O R) (g:LA) (i:Nat) (q l:Bool) (m:LA) (o:Nat) (r p:Bool):O R :=
 (B7 N g i false l (fun c e=>(B7 N m o false p (fun d f=>(cond (((c:Nat):Int) != ((d:Nat):Int)) (cond (decide (((c:Nat):Int)<((d:Nat):Int))) (r0 (-1)) (r0 1)) (q0 c d e f (wrap .i64 (((c:Nat):Int) - 1))))))))
def Jc:=(Al (fun (N:Nat) (g:LA) (i:Nat) (q l:Bool) (m:LA) (o:Nat) (r p:Bool) (r0:Int→O R)=>(Na N r0 (fun c d e f b=>(D2 N r0 c d e f N b)) g i q l m o r p))).1
theorem V1 (g i q l m o r p r0):(@Jc R N g i q l m o r p r0)=(Na N r0 (fun c d e f b=>(D2 N r0 c d e f N b)) g i q l m o r p):=by rw[Jc,(Al _).2]
def CO:Gn:=[(150,Dn N)]
def XV (F:KF R):=Rh Tryz.f272 db (CO N) [] N F
def Hd (F:KF R):Int→O R:=(fun w=>F (iv w) [])
def XW (c d:Nat) (e f:LA) (b:Int):St:=⟨[(0,(.own 300000 0 c)),(1,(.own 300001 0 d)),(5,(iv b))],(hq [(bQ 1 e),(bQ 1 f)])⟩
def XX (F:KF R):=XV N F [1,1,1,0,1,0] []
theorem Qc (F:KF R) (c d:Nat) (e f:LA):∀ (n:Nat) (b:Int),Ax (XX N F) n (XW c d e f b)=(D2 N (Hd F) c d e f n b)
 | 0,_=>by kernel_rfl
 | n+1,b=>Eq.trans (by kernel_rfl) (Ee (Io N (Hd F) c d e f · b) (funext fun b=>(Qc F c d e f n b)):_)
theorem Ya (g:LA) (i:Nat) (q l:Bool) (m:LA) (o:Nat) (r p:Bool) (F:KF R):Dj (CO N) db N 272 [(.imm g i 1 q l),(.imm m o 1 r p)] [] F=(Jc N g i q l m o r p (Hd F)):=by
 rw[V1]
 exact Eq.trans (by kernel_rfl) (Ee (Na N (Hd F) · g i q l m o r p) (funext fun c=>funext fun d=>funext fun e=>funext fun f=>funext fun b=>(Ar ..).trans (Qc N F c d e f N b)):_)
def V3 (a:LA) (h:Ai) (k:KF R):O R :=
 match a,h with
 | [(.imm g i 1 q l),(.imm m o 1 r p)],[]=>(Jc N g i q l m o r p (Hd k))
 | _,_=>none
theorem Yb:Ao N 272 @V3:=by
 intro R Q a h k j;unfold V3;split;exact Ay (Ya ..) (Ya ..) ⟨Do N,trivial⟩;exact A0
def XY:=Az (Yb N)
def XZ:=Dh (Yb N)
def O2 (N:Nat) (k0:Int→Int→LA→O R) (r0:Nat→Bool→LA→O R) (b d:Nat) (e f c:LA) (i m:Int):O R :=
 (cond (Am i b) (Bi .u32 (e.drop (0+((i.toNat)*1))) fun w=>(cond (decide ((wrap .u64 w)<m)) (cond (Am i b) (cond ((Nat.beq 1 1)&&((Nat.ble ((0+((i.toNat)*1))+1) (c.length))&&(!false))) (k0 1 (wrap .i64 (i+1)) (c.set (0+((i.toNat)*1)) (.int .u32 (wrap .u32 (wrap .u64 ((wrap .u64 ((wrap .u64 w)+4294967296)) - m)))))) none) none) (cond (Am i b) (cond ((Nat.beq 1 1)&&((Nat.ble ((0+((i.toNat)*1))+1) (c.length))&&(!false))) (k0 0 (wrap .i64 (i+1)) (c.set (0+((i.toNat)*1)) (.int .u32 (wrap .u32 (wrap .u64 ((wrap .u64 w) - m)))))) none) none))) none)
def Qd (r0:Nat→Bool→LA→O R) (b d:Nat) (e f:LA) (k0:Int→Int→LA→O R) (q1:Int→Int→O R) (l g:Int) (c:LA):O R :=
 (cond (decide (g<((b:Nat):Int))) (cond (decide (g<((d:Nat):Int))) (cond (Am g d) (Bi .u32 (f.drop (0+((g.toNat)*1))) fun x=>(q1 g (wrap .u64 (l+(wrap .u64 x))))) none) (q1 g l)) (B7 N (c.take (b*1)) b false true (fun y z=>(r0 y true z))))
def Ey (r0:Nat→Bool→LA→O R) (b d:Nat) (e f:LA):Nat→Int→Int→LA→O R
 | 0,_,_,_=>none
 | n+1,l,g,c=>(Qd N r0 b d e f (Ey r0 b d e f n) (fun i m=>(O2 N (Ey r0 b d e f n) r0 b d e f c i m)) l g c)
def JN (r0:Nat→Bool→LA→O R) (q0:Nat→Nat→LA→LA→Int→Int→LA→O R) (o:LA) (p:Nat) (u q:Bool) (r:LA) (s:Nat) (v t:Bool):O R :=
 (Jc N o p false q r s false t (fun aa=>(cond (decide (aa<0)) (r0 0 false []) (B7 N o p false q (fun b e=>(B7 N r s false t (fun d f=>(cond ((decide (0≤((b:Nat):Int)))&&((decide (((b:Nat):Int)≤((b:Nat):Int)))&&((decide (((b:Nat):Int)≤140737488355328))&&(decide ((((b:Nat):Int)*((4:Nat):Int))≤140737488355328))))) (q0 b d e f 0 0 (List.replicate b (.int .u32 0))) none))))))))
def Qe:=(Al (fun (N:Nat) (o:LA) (p:Nat) (u q:Bool) (r:LA) (s:Nat) (v t:Bool) (r0:Nat→Bool→LA→O R)=>(JN N r0 (fun b d e f l g c=>(Ey N r0 b d e f N l g c)) o p u q r s v t))).1
theorem QM (o p u q r s v t r0):(@Qe R N o p u q r s v t r0)=(JN N r0 (fun b d e f l g c=>(Ey N r0 b d e f N l g c)) o p u q r s v t):=by rw[Qe,(Al _).2]
def X_:Hints:={ H:=(hS hL (hS hL (hS hL (hS hL (hS hL (hS (hS hL (hS (hP [0,1,6,7,8] (hS hL (hS (hS (hS hL (hJ [0,1,6,8,9] hL hL)) hL) hL))) hL)) hL)))))),nils:=[(4,1)],modes:=[(2,1),(0,0)] }
def eT:Gn:=[(272,XY N),(150,Dn N)]
def YA (F:KF R):=Rh Tryz.f209 X_ (eT N) [] N F
def Iw (F:KF R):Nat→Bool→LA→O R:=(fun ab ac ad=>F (.tup [(.own 300000 0 ab),(.bool ac)]) (hq [(bQ 1 ad)]))
def mD (b d:Nat) (e f c:LA) (i m:Int):St:=⟨[(0,(.own 300000 0 b)),(1,(.own 300001 0 d)),(6,(.own 300002 0 b)),(8,(iv i)),(9,(.int .u64 m))],(hq [(bQ 1 e),(bQ 1 f),(bQ 1 c)])⟩
def mE (F:KF R) (Q0:St→O R):=YA N F [1,1,1,1,1,0,1,0,0,1,0,0,1,1] [Q0]
def YB (b d:Nat) (e f:LA) (l g:Int) (c:LA):St:=⟨[(0,(.own 300000 0 b)),(1,(.own 300001 0 d)),(6,(.own 300002 0 b)),(7,(.int .u64 l)),(8,(iv g))],(hq [(bQ 1 e),(bQ 1 f),(bQ 1 c)])⟩
def YC (F:KF R):=YA N F [1,1,1,1,1,0,1,0] []
theorem cb (Q0:St→O R) (F:KF R) (b d:Nat) (e f c:LA):∀ (i m:Int),C7 (mE N F Q0) (mD b d e f c i m)=(O2 N (fun l g c=>Q0 (YB b d e f l g c)) (Iw F) b d e f c i m):=by
 intro i m
 kernel_rfl
theorem CP (F:KF R) (b d:Nat) (e f:LA):∀ (n:Nat) (l g:Int) (c:LA),Ax (YC N F) n (YB b d e f l g c)=(Ey N (Iw F) b d e f n l g c)
 | 0,_,_,_=>by kernel_rfl
 | n+1,l,g,c=>have e0:=(funext fun l=>funext fun g=>funext fun c=>(CP F b d e f n l g c))
  Eq.trans (by kernel_rfl) (pt (Qd N (Iw F) b d e f · · l g c) e0 (funext fun i=>funext fun m=>(A8 ..).trans ((cb N (Ax (YC N F) n) F b d e f c i m).trans (Ee (O2 N · (Iw F) b d e f c i m) e0))):_)
theorem YD (o:LA) (p:Nat) (u q:Bool) (r:LA) (s:Nat) (v t:Bool) (F:KF R):Dj (eT N) X_ N 209 [(.imm o p 1 u q),(.imm r s 1 v t)] [] F=(Qe N o p u q r s v t (Iw F)):=by
 rw[QM]
 exact Eq.trans (by kernel_rfl) (Ee (JN N (Iw F) · o p u q r s v t) (funext fun b=>funext fun d=>funext fun e=>funext fun f=>funext fun l=>funext fun g=>funext fun c=>(Ar ..).trans (CP N F b d e f N l g c)):_)
def QN (a:LA) (h:Ai) (k:KF R):O R :=
 match a,h with
 | [(.imm o p 1 u q),(.imm r s 1 v t)],[]=>(Qe N o p u q r s v t (Iw k))
 | _,_=>none
theorem YE:Ao N 209 @QN:=by
 intro R Q a h k j;unfold QN;split;exact Ay (YD ..) (YD ..) ⟨XZ N,Do N,trivial⟩;exact A0
def YF:=Az (YE N)
def YG:=Dh (YE N)
def Gl (k1:Nat→Int→LA→LA→O R) (r0:Nat→Nat→Bool→LA→LA→O R) (c:LA) (b:Nat) (e d:Bool) (f:Nat) (i:Int) (g l:LA) (p:Nat) (q:LA):O R :=
 (Qe N (q.take (p*1)) p false true (g.take (f*1)) f false true (fun z aa ab=>(cond aa (cond (Am (wrap .i64 (Int.tdiv i 32)) b) (Bi .u32 (l.drop (0+(((wrap .i64 (Int.tdiv i 32)).toNat)*1))) fun ac=>(cond (decide ((wrap .u64 (Int.tmod i 32))<0)) none (cond (Am (wrap .i64 (Int.tdiv i 32)) b) (cond ((Nat.beq 1 1)&&((Nat.ble ((0+(((wrap .i64 (Int.tdiv i 32)).toNat)*1))+1) (l.length))&&(!false))) (k1 z (wrap .i64 (i - 1)) (l.set (0+(((wrap .i64 (Int.tdiv i 32)).toNat)*1)) (.int .u32 (I6 .u32 ac (wrap .u32 ((1:Int)*2 ^ (min ((wrap .u64 (Int.tmod i 32)).toNat) 32)))))) ab) none) none))) none) (k1 p (wrap .i64 (i - 1)) l q))))
def J8 (r0:Nat→Nat→Bool→LA→LA→O R) (c:LA) (b:Nat) (e d:Bool) (f:Nat) (g:LA) (k1:Nat→Int→LA→LA→O R) (q2:Nat→LA→O R) (m:Nat) (i:Int) (l o:LA):O R :=
 (cond (decide (i≥0)) (Qb N (o.take (m*1)) m false true (o.take (m*1)) m false true (fun w x=>(JM N c b false d i (fun ad=>(cond (ad==1) (Qb N (x.take (w*1)) w false true [(.int .u32 1)] 1 false true (fun ae af=>(q2 ae af))) (q2 w x)))))) (B7 N (l.take (b*1)) b false true (fun ag ah=>(B7 N (o.take (m*1)) m false true (fun ai aj=>(r0 ag ai true ah aj))))))
def Cv (r0:Nat→Nat→Bool→LA→LA→O R) (c:LA) (b:Nat) (e d:Bool) (f:Nat) (g:LA):Nat→Nat→Int→LA→LA→O R
 | 0,_,_,_,_=>none
 | n+1,m,i,l,o=>(J8 N r0 c b e d f g (Cv r0 c b e d f g n) (fun p q=>(Gl N (Cv r0 c b e d f g n) r0 c b e d f i g l p q)) m i l o)
def O3 (r0:Nat→Nat→Bool→LA→LA→O R) (c:LA) (b:Nat) (e d:Bool) (f:Nat) (g:LA) (q1:Nat→Int→LA→LA→O R):O R :=
 (cond ((decide (0≤((b:Nat):Int)))&&((decide (((b:Nat):Int)≤((b:Nat):Int)))&&((decide (((b:Nat):Int)≤140737488355328))&&(decide ((((b:Nat):Int)*((4:Nat):Int))≤140737488355328))))) (S6 N c b false d (fun ak=>(q1 0 (wrap .i64 (ak - 1)) (List.replicate b (.int .u32 0)) []))) none)
def If (r0:Nat→Nat→Bool→LA→LA→O R) (c:LA) (b:Nat) (e d:Bool) (f:Nat) (g:LA):O R:=(O3 N r0 c b e d f g (fun m i l o=>(Cv N r0 c b e d f g N m i l o)))
def Qf (r0:Nat→Nat→Bool→LA→LA→O R) (q0:Nat→LA→O R) (c:LA) (b:Nat) (e d:Bool) (r:LA) (s:Nat) (u t:Bool):O R :=
 (B7 N r s false t (fun f g=>(cond (((f:Nat):Int)==0) (r0 0 0 false [] []) (Iu N c b false d (fun y al=>(Iu N (g.take (f*1)) f false true (fun v am=>(cond (al==true) (cond (cond true am false) (cond (v==0) none (C0 N (wrap .u64 (Int.tdiv y v)) (fun an ao=>(cond (v==0) none (C0 N (Int.tmod y v) (fun ap aq=>(r0 an ap true ao aq))))))) (q0 f g)) (q0 f g)))))))))
def Ix:=(Al (fun (N:Nat) (c:LA) (b:Nat) (e d:Bool) (r:LA) (s:Nat) (u t:Bool) (r0:Nat→Nat→Bool→LA→LA→O R)=>(Qf N r0 (fun f g=>(If N r0 c b e d f g)) c b e d r s u t))).1
theorem Yc (c b e d r s u t r0):(@Ix R N c b e d r s u t r0)=(Qf N r0 (fun f g=>(If N r0 c b e d f g)) c b e d r s u t):=by rw[Ix,(Al _).2]
def CQ:Hints:={ H:=(hS hL (hS hL (hS hL (hS hL (hJ [0,1,5] hL (hS hL (hS (hS hL (hS (hP [0,1,4,5,11] (hS hL (hS (hS (hS hL (hJ [0,1,4,5,11] hL hL)) hL) hL))) hL)) hL))))))),nils:=[(4,1),(5,1)],modes:=[(2,1),(2,1),(0,0)] }
def JO:Gn:=[(150,Dn N),(89,cY N),(88,P7 N),(206,jl N),(207,XP N),(208,mB N),(209,YF N)]
def Ra (F:KF R):=Rh Tryz.f126 CQ (JO N) [] N F
def Cw (F:KF R):Nat→Nat→Bool→LA→LA→O R:=(fun ar au av aw ax=>F (.tup [(.own 300000 0 ar),(.own 300001 0 au),(.bool av)]) (hq [(bQ 1 aw),(bQ 1 ax)]))
def cd (c:LA) (b:Nat) (e d:Bool) (f:Nat) (i:Int) (g l:LA) (p:Nat) (q:LA):St:=⟨[(0,(.imm c b 1 e d)),(1,(.own 300000 0 f)),(4,(.own 300001 0 b)),(5,(.own 300002 0 p)),(11,(iv i))],(hq [(bQ 1 g),(bQ 1 l),(bQ 1 q)])⟩
def ce (F:KF R) (Q1:St→O R):=Ra N F [1,1,1,1,1,1,0,1,0,0,1,0,0,1,1] [Q1]
def CS (c:LA) (b:Nat) (e d:Bool) (f:Nat) (g:LA) (m:Nat) (i:Int) (l o:LA):St:=⟨[(0,(.imm c b 1 e d)),(1,(.own 300000 0 f)),(4,(.own 300001 0 b)),(5,(.own 300002 0 m)),(11,(iv i))],(hq [(bQ 1 g),(bQ 1 l),(bQ 1 o)])⟩
def CT (F:KF R):=Ra N F [1,1,1,1,1,1,0,1,0] []
def ch (c:LA) (b:Nat) (e d:Bool) (f:Nat) (g:LA):St:=⟨[(0,(.imm c b 1 e d)),(1,(.own 300000 0 f)),(5,(.own 300001 0 0))],(hq [(bQ 1 g),(bQ 1 [])])⟩
def ci (F:KF R):=Ra N F [1,1,1,1,1] []
theorem NJ (Q1:St→O R) (F:KF R) (c:LA) (b:Nat) (e d:Bool) (f:Nat) (i:Int) (g l:LA):∀ (p:Nat) (q:LA),C7 (ce N F Q1) (cd c b e d f i g l p q)=(Gl N (fun m i l o=>Q1 (CS c b e d f g m i l o)) (Cw F) c b e d f i g l p q):=by
 intro p q
 kernel_rfl
theorem S7 (F:KF R) (c:LA) (b:Nat) (e d:Bool) (f:Nat) (g:LA):∀ (n m:Nat) (i:Int) (l o:LA),Ax (CT N F) n (CS c b e d f g m i l o)=(Cv N (Cw F) c b e d f g n m i l o)
 | 0,_,_,_,_=>by kernel_rfl
 | n+1,m,i,l,o=>have e0:=(funext fun m=>funext fun i=>funext fun l=>funext fun o=>(S7 F c b e d f g n m i l o))
  Eq.trans (by kernel_rfl) (pt (J8 N (Cw F) c b e d f g · · m i l o) e0 (funext fun p=>funext fun q=>(A8 ..).trans ((NJ N (Ax (CT N F) n) F c b e d f i g l p q).trans (Ee (Gl N · (Cw F) c b e d f i g l p q) e0))):_)
theorem NK (F:KF R) (c:LA) (b:Nat) (e d:Bool) (f:Nat) (g:LA):C7 (ci N F) (ch c b e d f g)=(If N (Cw F) c b e d f g):=by
 exact Eq.trans (by kernel_rfl) (Ee (O3 N (Cw F) c b e d f g ·) (funext fun m=>funext fun i=>funext fun l=>funext fun o=>(Ar ..).trans (S7 N F c b e d f g N m i l o)):_)
theorem CU (c:LA) (b:Nat) (e d:Bool) (r:LA) (s:Nat) (u t:Bool) (F:KF R):Dj (JO N) CQ N 126 [(.imm c b 1 e d),(.imm r s 1 u t)] [] F=(Ix N c b e d r s u t (Cw F)):=by
 rw[Yc]
 exact Eq.trans (by kernel_rfl) (Ee (Qf N (Cw F) · c b e d r s u t) (funext fun f=>funext fun g=>(A8 ..).trans (NK N F c b e d f g)):_)
def Yd (a:LA) (h:Ai) (k:KF R):O R :=
 match a,h with
 | [(.imm c b 1 e d),(.imm r s 1 u t)],[]=>(Ix N c b e d r s u t (Cw k))
 | _,_=>none
theorem CV:Ao N 126 @Yd:=by
 intro R Q a h k j;unfold Yd;split;exact Ay (CU ..) (CU ..) ⟨Do N,cZ N,P8 N,jm N,XQ N,mC N,YG N,trivial⟩;exact A0
def CW:=Az (CV N)
def CX:=Dh (CV N)
def Jd (r0:Nat→LA→O R) (k0:Nat→Nat→LA→LA→O R) (c b:Nat) (d e:LA):O R :=
 (cond (decide (((b:Nat):Int)>0)) (Ix N (d.take (c*1)) c false true (e.take (b*1)) b false true (fun z r aa ab s=>(k0 b r e s))) (r0 c d))
def Cj (r0:Nat→LA→O R):Nat→Nat→Nat→LA→LA→O R
 | 0,_,_,_,_=>none
 | n+1,c,b,d,e=>(Jd N r0 (Cj r0 n) c b d e)
def JP (r0:Nat→LA→O R) (q0:Nat→Nat→LA→LA→O R) (f:LA) (g:Nat) (p i:Bool) (l:LA) (m:Nat) (q o:Bool):O R :=
 (B7 N f g false i (fun t u=>(B7 N l m false o (fun v w=>(q0 t v u w)))))
def AA:=(Al (fun (N:Nat) (f:LA) (g:Nat) (p i:Bool) (l:LA) (m:Nat) (q o:Bool) (r0:Nat→LA→O R)=>(JP N r0 (fun c b d e=>(Cj N r0 N c b d e)) f g p i l m q o))).1
theorem QO (f g p i l m q o r0):(@AA R N f g p i l m q o r0)=(JP N r0 (fun c b d e=>(Cj N r0 N c b d e)) f g p i l m q o):=by rw[AA,(Al _).2]
def YH:Hints:={ H:=(hS hL (hS hL (hS (hS (hP [0,1] hL) hL) hL))),nils:=[(4,1)],modes:=[(2,1)] }
def eV:Gn:=[(150,Dn N),(126,CW N)]
def mF (F:KF R):=Rh Tryz.f221 YH (eV N) [] N F
def O4 (F:KF R):Nat→LA→O R:=(fun x y=>F (.own 300000 0 x) (hq [(bQ 1 y)]))
def mG (c b:Nat) (d e:LA):St:=⟨[(0,(.own 300000 0 c)),(1,(.own 300001 0 b))],(hq [(bQ 1 d),(bQ 1 e)])⟩
def mH (F:KF R):=mF N F [1,1,0,0] []
theorem CY (F:KF R):∀ (n:Nat) (c b:Nat) (d e:LA),Ax (mH N F) n (mG c b d e)=(Cj N (O4 F) n c b d e)
 | 0,_,_,_,_=>by kernel_rfl
 | n+1,c,b,d,e=>Eq.trans (by kernel_rfl) (Ee (Jd N (O4 F) · c b d e) (funext fun c=>funext fun b=>funext fun d=>funext fun e=>(CY F n c b d e)):_)
theorem YI (f:LA) (g:Nat) (p i:Bool) (l:LA) (m:Nat) (q o:Bool) (F:KF R):Dj (eV N) YH N 221 [(.imm f g 1 p i),(.imm l m 1 q o)] [] F=(AA N f g p i l m q o (O4 F)):=by
 rw[QO]
 exact Eq.trans (by kernel_rfl) (Ee (JP N (O4 F) · f g p i l m q o) (funext fun c=>funext fun b=>funext fun d=>funext fun e=>(Ar ..).trans (CY N F N c b d e)):_)
def QP (a:LA) (h:Ai) (k:KF R):O R :=
 match a,h with
 | [(.imm f g 1 p i),(.imm l m 1 q o)],[]=>(AA N f g p i l m q o (O4 k))
 | _,_=>none
theorem YJ:Ao N 221 @QP:=by
 intro R Q a h k j;unfold QP;split;exact Ay (YI ..) (YI ..) ⟨Do N,CX N,trivial⟩;exact A0
def mI:=Az (YJ N)
def mJ:=Dh (YJ N)
def YK (b:LA) (c:Bool) (d:LA) (e:Bool) (r0:LA→O R):O R :=
 (Lq 1 (b.drop 1) fun i l=>(Lq 1 (d.drop 1) fun m n=>(AA N i l false c m n false e (fun g o=>(Dg N false (o.take (g*1)) g false true (fun f=>(cond ((Nat.beq 0 0)&&((Nat.beq (f.length) 2)&&(Nat.beq 2 2))) (cond (Nat.ble 2 (f.length)) (r0 (f.take 2)) none) none)))))))
def JQ:=(Al (@YK R)).1
theorem QQ:@JQ R=@YK R:=(Al _).2
def pB:Gn:=[(221,mI N),(83,Ff N)]
def YL (F:KF R):LA→O R:=(fun p=>F (.pagg p false) [])
theorem YM (b:LA) (c:Bool) (d:LA) (e:Bool) (F:KF R):Dj (pB N) H3 N 152 [(.pagg b c),(.pagg d e)] [] F=(JQ N b c d e (YL F)):=by
 rw[QQ]
 kernel_rfl
def QR (a:LA) (h:Ai) (k:KF R):O R :=
 match a,h with
 | [(.pagg b c),(.pagg d e)],[]=>(JQ N b c d e (YL k))
 | _,_=>none
theorem YN:Ao N 152 @QR:=by
 intro R Q a h k j;unfold QR;split;exact Ay (YM ..) (YM ..) ⟨mJ N,Fg N,trivial⟩;exact A0
def mK:=Az (YN N)
def mL:=Dh (YN N)
def jn (b:LA) (c:Bool) (r0:LA→O R):O R :=
 (Lq 1 (b.drop 1) fun e f=>(Dg N false e f false c (fun d=>(cond ((Nat.beq 0 0)&&((Nat.beq (d.length) 2)&&(Nat.beq 2 2))) (cond (Nat.ble 2 (d.length)) (r0 (d.take 2)) none) none))))
def TR:=(Al (@jn R)).1
theorem jo:@TR R=@jn R:=(Al _).2
def pC:Gn:=[(83,Ff N)]
def YO (F:KF R):LA→O R:=(fun g=>F (.pagg g false) [])
theorem YP (b:LA) (c:Bool) (F:KF R):Dj (pC N) H3 N 140 [(.pagg b c)] [] F=(TR N b c (YO F)):=by
 rw[jo]
 kernel_rfl
def QS (a:LA) (h:Ai) (k:KF R):O R :=
 match a,h with
 | [(.pagg b c)],[]=>(TR N b c (YO k))
 | _,_=>none
theorem YQ:Ao N 140 @QS:=by
 intro R Q a h k j;unfold QS;split;exact Ay (YP ..) (YP ..) ⟨Fg N,trivial⟩;exact A0
def mM:=Az (YQ N)
def mN:=Dh (YQ N)
def jq (b:LA) (d:Bool) (c:LA) (e:Bool) (r0:LA→O R):O R :=
 (Pc b fun o=>(Pc c fun p=>(cond (o==p) (Pc b fun q=>(Lq 1 (b.drop 1) fun r s=>(Lq 1 (c.drop 1) fun t u=>(Qb N r s false d t u false e (fun l v=>(Dg N q (v.take (l*1)) l false true (fun f=>(cond ((Nat.beq 0 0)&&((Nat.beq (f.length) 2)&&(Nat.beq 2 2))) (cond (Nat.ble 2 (f.length)) (r0 (f.take 2)) none) none)))))))) (Lq 1 (b.drop 1) fun w x=>(Lq 1 (c.drop 1) fun y z=>(Qe N w x false d y z false e (fun m aa ab=>(cond aa (Pc b fun ac=>(Dg N ac (ab.take (m*1)) m false true (fun g=>(cond ((Nat.beq 0 0)&&((Nat.beq (g.length) 2)&&(Nat.beq 2 2))) (cond (Nat.ble 2 (g.length)) (r0 (g.take 2)) none) none)))) (Lq 1 (c.drop 1) fun ad ae=>(Lq 1 (b.drop 1) fun af ag=>(Qe N ad ae false e af ag false d (fun n ak ah=>(Pc c fun ai=>(Dg N ai (ah.take (n*1)) n false true (fun i=>(cond ((Nat.beq 0 0)&&((Nat.beq (i.length) 2)&&(Nat.beq 2 2))) (cond (Nat.ble 2 (i.length)) (r0 (i.take 2)) none) none))))))))))))))))
def AB:=(Al (@jq R)).1
theorem jr:@AB R=@jq R:=(Al _).2
def pD:Gn:=[(207,XP N),(83,Ff N),(209,YF N)]
def YR (F:KF R):LA→O R:=(fun aj=>F (.pagg aj false) [])
theorem YS (b:LA) (d:Bool) (c:LA) (e:Bool) (F:KF R):Dj (pD N) H3 N 139 [(.pagg b d),(.pagg c e)] [] F=(AB N b d c e (YR F)):=by
 rw[jr]
 kernel_rfl
def QT (a:LA) (h:Ai) (k:KF R):O R :=
 match a,h with
 | [(.pagg b d),(.pagg c e)],[]=>(AB N b d c e (YR k))
 | _,_=>none
theorem YT:Ao N 139 @QT:=by
 intro R Q a h k j;unfold QT;split;exact Ay (YS ..) (YS ..) ⟨XQ N,Fg N,YG N,trivial⟩;exact A0
def YU:=Az (YT N)
def YV:=Dh (YT N)
def js (b:LA) (c:Bool) (r0:LA→O R):O R :=
 (Pc b fun e=>(Lq 1 (b.drop 1) fun f g=>(Dg N (!e) f g false c (fun d=>(cond ((Nat.beq 0 0)&&((Nat.beq (d.length) 2)&&(Nat.beq 2 2))) (cond (Nat.ble 2 (d.length)) (r0 (d.take 2)) none) none)))))
def AC:=(Al (@js R)).1
theorem jt:@AC R=@js R:=(Al _).2
def pE:Gn:=[(83,Ff N)]
def YW (F:KF R):LA→O R:=(fun i=>F (.pagg i false) [])
theorem YX (b:LA) (c:Bool) (F:KF R):Dj (pE N) H3 N 153 [(.pagg b c)] [] F=(AC N b c (YW F)):=by
 rw[jt]
 kernel_rfl
def QU (a:LA) (h:Ai) (k:KF R):O R :=
 match a,h with
 | [(.pagg b c)],[]=>(AC N b c (YW k))
 | _,_=>none
theorem YY:Ao N 153 @QU:=by
 intro R Q a h k j;unfold QU;split;exact Ay (YX ..) (YX ..) ⟨Fg N,trivial⟩;exact A0
def YZ:=Az (YY N)
def Y_:=Dh (YY N)
def ju (b:LA) (d:Bool) (c:LA) (e:Bool) (r0:LA→O R):O R :=
 (cond (Nat.ble 2 (b.length)) (cond (Nat.ble 2 (c.length)) (AC N (c.take 2) e (fun g=>(AB N (b.take 2) d g false (fun f=>(cond ((Nat.beq 0 0)&&((Nat.beq (f.length) 2)&&(Nat.beq 2 2))) (cond (Nat.ble 2 (f.length)) (r0 (f.take 2)) none) none))))) none) none)
def TS:=(Al (@ju R)).1
theorem jv:@TS R=@ju R:=(Al _).2
def pF:Gn:=[(153,YZ N),(139,YU N)]
def ZA (F:KF R):LA→O R:=(fun i=>F (.pagg i false) [])
theorem ZB (b:LA) (d:Bool) (c:LA) (e:Bool) (F:KF R):Dj (pF N) H3 N 141 [(.pagg b d),(.pagg c e)] [] F=(TS N b d c e (ZA F)):=by
 rw[jv]
 kernel_rfl
def QV (a:LA) (h:Ai) (k:KF R):O R :=
 match a,h with
 | [(.pagg b d),(.pagg c e)],[]=>(TS N b d c e (ZA k))
 | _,_=>none
theorem ZC:Ao N 141 @QV:=by
 intro R Q a h k j;unfold QV;split;exact Ay (ZB ..) (ZB ..) ⟨Y_ N,YV N,trivial⟩;exact A0
def mO:=Az (ZC N)
def mP:=Dh (ZC N)
end
end Gx

namespace Gx
open Go Go.Proofs
section
variable {R:Type}
theorem tO {c:Nat} (h:c≤1000000000000):((Nat.ble (0+c) 140737488355328)&&(Nat.ble ((0+c)*4) 140737488355328))=true:=by simp;omega
theorem FX {N:Nat} {l:List Nat} {t o:Bool} {K:Nat→LA→O R} (e:Ae l) (i:l.length≤1000000000000):∀ (c b:Nat),c≤l.length→c<b →
  Hc N K (Aa l) l.length t o b (c:Int)=K (Af (val (l.take c))).length (Aa (Af (val (l.take c))))
 | 0,b+1,f,_=>by
  rw[Hc];unfold M9
  rw[show decide (((0:Nat):Int)>0)=false by simp]
  rw[show((false:Bool)==true)=false by rfl,cf,sM (by omega),ct,Int.toNat_natCast,Nat.mul_one,Kz,Pm,Bool.or_true,ct,tO (by omega),ct];rfl
 | c+1,b+1,f,j=>by
  rw[Hc];unfold M9
  rw[sg,ct,wP (by omega),Aj (by omega),ct,Wk (by omega),o_,sM (by omega),ct,FX e i c b (by omega) (by omega),Int.toNat_natCast,Nat.mul_one,Kz,Pm,Bool.or_true,ct,tO (by omega),ct,Nat.zero_add]
  by_cases d:l[c]=0
  ·rw[An (by omega),d];simp
  ·rw[gS e (by omega) d,List.length_take,Nat.min_eq_left f]
   rw[bX d,cf]
theorem B0 {N:Nat} {l:List Nat} {n:Nat} {t o:Bool} {K:Nat→LA→O R} (c:n=l.length) (d:Ae l) (b:fit l.length N):B7 N (Aa l) n t o K=K (Af (val l)).length (Aa (Af (val l))):=by
 subst c
 have e:=b.1;have f:=b.2
 rw[Ud];unfold Sw
 dsimp only
 rw[FX d (by omega) l.length N (Nat.le_refl _) (by omega),List.take_length]
theorem jw {N:Nat} {a b:List Nat} {t o t' o':Bool} {K:Bool→O R} (i:a.length≤1000000000000) (k:a.length=b.length):∀ (m j c:Nat),j+m=a.length→m<c →
  Fy N K (Aa a) a.length t o (Aa b) b.length t' o' c (j:Int)=K (decide (a.drop j=b.drop j))
 | 0,j,c+1,l,_=>by
  rw[Fy];unfold Ly
  rw[FG (by omega),cf,List.drop_eq_nil_of_le (by omega),List.drop_eq_nil_of_le (by omega)];simp
 | m+1,j,c+1,l,n=>by
  have e:j<a.length:=by omega
  have f:j<b.length:=by omega
  rw[Fy];unfold Ly
  rw[Wj e,ct,Aj e,ct,Wk e,Aj f,ct,Wk f,wS (by omega),jw i k m (j+1) c (by omega) (by omega),List.drop_eq_getElem_cons e,List.drop_eq_getElem_cons f]
  by_cases h:a[j]=b[j]
  ·rw[show((((a[j]:Nat):Int) != ((b[j]:Nat):Int)))=false by simp[h],cf];congr 1;rw[decide_eq_decide,List.cons.injEq];exact⟨fun d=>⟨h,d⟩,fun d=>d.2⟩
  ·rw[show((((a[j]:Nat):Int) != ((b[j]:Nat):Int)))=true by rw[bne_iff_ne];omega,ct];congr 1;symm;rw[decide_eq_false_iff_not,List.cons.injEq];exact fun d=>h d.1
theorem ZD {N:Nat} {a b:List Nat} {n m:Nat} {t o t' o':Bool} {K:Bool→O R} (e:n=a.length) (f:m=b.length) (d:fit a.length N):Jb N (Aa a) n t o (Aa b) m t' o' K=K (decide (a=b)):=by
 subst e f
 have i:=d.1;have j:=d.2
 rw[CI];unfold Uf
 by_cases c:a.length=b.length
 ·rw[show(((a.length:Nat):Int) != ((b.length:Nat):Int))=false by simp[c],cf]
  have:=jw (R:=R) (N:=N) (t:=t) (o:=o) (t':=t') (o':=o') (K:=K) (by omega) c a.length 0 N (by omega) (by omega)
  simpa using this
 ·rw[show(((a.length:Nat):Int) != ((b.length:Nat):Int))=true by rw[bne_iff_ne];omega,ct]
  congr 1;symm;rw[decide_eq_false_iff_not];intro h;exact c (by rw[h])
theorem Qg {N:Nat} {v:Nat} {K:Nat→LA→O R} (d:v<18446744073709551616) (hN:4≤N):C0 N (v:Int) K=K (Af v).length (Aa (Af v)):=by
 have c:Ae [v%4294967296,v/4294967296]:=Bz.2 ⟨by omega,Bz.2 ⟨by omega,Ky⟩⟩
 have b:val [v%4294967296,v/4294967296]=v:=by simp[val];omega
 rw[Ow];unfold Mm
 rw[EX,MD,nT (show v/4294967296<4294967296 by omega)]
 have:=FX (R:=R) (N:=N) (l:=[v%4294967296,v/4294967296]) (t:=false) (o:=true) (K:=K) c (by simp) 2 N (by simp) (by omega)
 rw[show [v%4294967296,v/4294967296].take 2=[v%4294967296,v/4294967296] by rfl,b] at this
 rw[Ud];unfold Sw
 exact this
theorem Uj {N:Nat} {l:List Nat} {n:Nat} {t o:Bool} {K:Int→Bool→O R} (m:n=l.length) (q:Ae l) (j:fit l.length N):Iu N (Aa l) n t o K=if val l<18446744073709551616 then K (val l:Int) true else K 0 false:=by
 have v:=j.1
 rw[X7];unfold P9
 rw[B0 m q j]
 by_cases h:val l<18446744073709551616
 ·have s:=M7 h
  rw[if_pos h,show decide ((((Af (val l)).length:Nat):Int)>2)=false by simp;omega,cf]
  have c:=Ac (val l)
  have f:=Ab (val l)
  obtain⟨M,hM⟩:∃ M,N=M+4:=⟨N - 4,by omega⟩
  rw[hM]
  generalize Af (val l)=d at *
  match d,s,c,f with
  | [],_,c,_ =>
   dsimp only
   rw[Ci];unfold C1
   rw[←c,i64 (by simp)];rfl
  | [x],_,c,f =>
   have i:=(Bz.1 f).1
   have e:val l=x:=by rw[←c];simp[val]
   dsimp only
   rw[Ci];unfold C1
   rw[i64 (by simp),show((([x]:List Nat).length:Nat):Int) - 1=((0:Nat):Int) by rfl,show decide (((0:Nat):Int)≥0)=true by rfl,ct,Aj (by simp),ct,H_ (by simp)]
   rw[Ci];unfold C1
   rw[i64 (by simp),show decide ((((0:Nat):Int) - 1)≥0)=false by rfl,cf]
   have:=si (a:=0) (b:=x) (by omega) i
   simp only[List.getElem_cons_zero]
   rw[Er (show x<18446744073709551616 by omega),show(0:Int)=((0:Nat):Int) by rfl,this,e];simp
  | [x,y],_,c,f =>
   have i:=(Bz.1 f).1
   have k:=(Bz.1 (Bz.1 f).2).1
   have e:val l=y*4294967296+x:=by rw[←c];simp[val];omega
   dsimp only
   rw[Ci];unfold C1
   rw[i64 (by simp),show((([x,y]:List Nat).length:Nat):Int) - 1=((1:Nat):Int) by rfl,show decide (((1:Nat):Int)≥0)=true by rfl,ct,Aj (by simp),ct,H_ (by simp)]
   rw[Ci];unfold C1
   rw[i64 (by simp),show(((1:Nat):Int) - 1)=((0:Nat):Int) by rfl,show decide (((0:Nat):Int)≥0)=true by rfl,ct,Aj (by simp),ct,H_ (by simp)]
   rw[Ci];unfold C1
   rw[i64 (by simp),show decide ((((0:Nat):Int) - 1)≥0)=false by rfl,cf]
   have o1:=si (a:=0) (b:=y) (by omega) k
   have o2:=si (a:=y) (b:=x) k i
   simp only[List.getElem_cons_zero,List.getElem_cons_succ]
   rw[Er (show y<18446744073709551616 by omega),Er (show x<18446744073709551616 by omega),show(0:Int)=((0:Nat):Int) by rfl,o1,Nat.zero_mul,Nat.zero_add,o2,e]
 ·have:¬ (Af (val l)).length≤2:=fun u=>h (IB u)
  rw[if_neg h,show decide ((((Af (val l)).length:Nat):Int)>2)=true by simp;omega,ct]
theorem eX {N:Nat} {x y:List Nat} {K:Int→O R} (e:Ae x) (f:Ae y) (k:x.length≤1000000000000) (l:x.length=y.length):∀ (i b:Nat),i≤x.length→i<b →
  D2 N K x.length y.length (Aa x) (Aa y) b ((i:Int) - 1)=K (Fc (val (x.take i)) (val (y.take i)))
 | 0,b+1,_,_=>by
  rw[D2];unfold Io
  rw[show decide ((((0:Nat):Int) - 1)≥0)=false by simp,cf]
  simp[Sb]
 | i+1,b+1,m,n=>by
  rw[D2];unfold Io
  rw[show(((i+1:Nat):Int) - 1)=(i:Int) by omega,show decide ((i:Int)≥0)=true by simp,ct,Aj (by omega),ct,H_ (by omega),Aj (by omega),ct,H_ (by omega),ct,H_ (by omega),ct,H_ (by omega),i64 (by omega),
   eX e f k l i b (by omega) (by omega),An (by omega),An (by omega)]
  have c:=Bd (Bh e i)
  have d:=Bd (Bh f i)
  rw[List.length_take,Nat.min_eq_left (by omega)] at c d
  by_cases c1:x[i]<y[i]
  ·have:=TO c d c1
   rw[show decide (((x[i]:Nat):Int)<((y[i]:Nat):Int))=true by simp;exact c1,ct]
   unfold Fc;rw[if_pos this]
  ·by_cases j:y[i]<x[i]
   ·have:=TO d c j
    rw[show decide (((x[i]:Nat):Int)<((y[i]:Nat):Int))=false by simp;omega,cf,show decide (((x[i]:Nat):Int)>((y[i]:Nat):Int))=true by simp;exact j,ct]
    unfold Fc;rw[if_neg (by omega),if_pos this]
   ·have:x[i]=y[i]:=by omega
    rw[show decide (((x[i]:Nat):Int)<((y[i]:Nat):Int))=false by simp;omega,cf,show decide (((x[i]:Nat):Int)>((y[i]:Nat):Int))=false by simp;omega,cf,this]
    unfold Fc
    congr 1
    by_cases a1:val (x.take i)<val (y.take i)
    ·rw[if_pos a1,if_pos (by omega)]
    ·by_cases a2:val (y.take i)<val (x.take i)
     ·rw[if_neg a1,if_pos a2,if_neg (by omega),if_pos (by omega)]
     ·rw[if_neg a1,if_neg a2,if_neg (by omega),if_neg (by omega)]
theorem pG {N:Nat} {a b:List Nat} {n m:Nat} {t o t' o':Bool} {K:Int→O R} (j:n=a.length) (k:m=b.length) (d:Ae a) (e:Ae b) (c:fit (a.length+b.length) N) :
  Jc N (Aa a) n t o (Aa b) m t' o' K=K (Fc (val a) (val b)):=by
 subst j k
 have l:=c.1;have q:=c.2
 rw[V1];unfold Na
 dsimp only
 rw[B0 rfl d (c.le (by omega)),B0 rfl e (c.le (by omega))]
 have la:=(A1 d).2
 have lb:=(A1 e).2
 by_cases f:(Af (val a)).length=(Af (val b)).length
 ·rw[show((((Af (val a)).length:Nat):Int) != (((Af (val b)).length:Nat):Int))=false by simp;omega,cf,i64 (by omega),eX (Ab _) (Ab _) (by omega) f _ N (Nat.le_refl _) (by omega),List.take_length,f,List.take_length,Ac,Ac]
 ·rw[show((((Af (val a)).length:Nat):Int) != (((Af (val b)).length:Nat):Int))=true by simp;omega,ct]
  by_cases i:(Af (val a)).length<(Af (val b)).length
  ·have:=T9 i
   rw[Wj i,ct]
   unfold Fc;rw[if_pos this]
  ·have:=T9 (show(Af (val b)).length<(Af (val a)).length by omega)
   rw[FG (by omega),cf]
   unfold Fc;rw[if_neg (by omega),if_pos this]
end
end Gx

namespace Gx
open Go Go.Proofs
open IntKind (wrap)
set_option maxRecDepth 100000
noncomputable section
variable {R:Type} (N:Nat)
def Ye (f:LA) (m:Bool) (e:LA) (l:Bool) (r0:LA→LA→Bool→O R):O R :=
 (Lq 1 (f.drop 1) fun p q=>(Lq 1 (e.drop 1) fun r s=>(Ix N p q false m r s false l (fun n o t u v=>(cond (!t) (r0 [(.bool false),.nsl] [(.bool false),.nsl] false) (Pc f fun w=>(Pc e fun x=>(Dg N (!(w==x)) (u.take (n*1)) n false true (fun b=>(Pc f fun y=>(Dg N y (v.take (o*1)) o false true (fun c=>(cond ((Nat.beq 0 0)&&((Nat.beq (b.length) 2)&&(Nat.beq 2 2))) (cond ((Nat.beq 0 0)&&((Nat.beq (c.length) 2)&&(Nat.beq 2 2))) (Pc c fun z=>(cond z (cond (Nat.ble 2 (c.length)) (cond (Nat.ble 2 (e.length)) (TR N (e.take 2) l (fun aa=>(AB N (c.take 2) false aa false (fun d=>(cond ((Nat.beq (d.length) 2)&&((Nat.ble 2 (c.length))&&(!false))) (Pc e fun ab=>(cond ab (cond (Nat.ble 2 (b.length)) (Dp N 1 (fun ac=>(AB N (b.take 2) false ac false (fun g=>(cond ((Nat.beq (g.length) 2)&&((Nat.ble 2 (b.length))&&(!false))) (cond (Nat.ble 2 ((setCells b 0 g).length)) (cond (Nat.ble 2 ((setCells c 0 d).length)) (cond ((Nat.beq (((setCells b 0 g).take 2).length) 2)&&((Nat.ble 2 ((setCells b 0 g).length))&&(!false))) (cond ((Nat.beq (((setCells c 0 d).take 2).length) 2)&&((Nat.ble 2 ((setCells c 0 d).length))&&(!false))) (cond (Nat.ble 2 ((setCells (setCells b 0 g) 0 ((setCells b 0 g).take 2)).length)) (cond (Nat.ble 2 ((setCells (setCells c 0 d) 0 ((setCells c 0 d).take 2)).length)) (r0 ((setCells (setCells b 0 g) 0 ((setCells b 0 g).take 2)).take 2) ((setCells (setCells c 0 d) 0 ((setCells c 0 d).take 2)).take 2) true) none) none) none) none) none) none) none))))) none) (cond (Nat.ble 2 (b.length)) (Dp N 1 (fun ad=>(TS N (b.take 2) false ad false (fun i=>(cond ((Nat.beq (i.length) 2)&&((Nat.ble 2 (b.length))&&(!false))) (cond (Nat.ble 2 ((setCells b 0 i).length)) (cond (Nat.ble 2 ((setCells c 0 d).length)) (cond ((Nat.beq (((setCells b 0 i).take 2).length) 2)&&((Nat.ble 2 ((setCells b 0 i).length))&&(!false))) (cond ((Nat.beq (((setCells c 0 d).take 2).length) 2)&&((Nat.ble 2 ((setCells c 0 d).length))&&(!false))) (cond (Nat.ble 2 ((setCells (setCells b 0 i) 0 ((setCells b 0 i).take 2)).length)) (cond (Nat.ble 2 ((setCells (setCells c 0 d) 0 ((setCells c 0 d).take 2)).length)) (r0 ((setCells (setCells b 0 i) 0 ((setCells b 0 i).take 2)).take 2) ((setCells (setCells c 0 d) 0 ((setCells c 0 d).take 2)).take 2) true) none) none) none) none) none) none) none))))) none))) none))))) none) none) (cond (Nat.ble 2 (b.length)) (cond (Nat.ble 2 (c.length)) (cond ((Nat.beq ((b.take 2).length) 2)&&((Nat.ble 2 (b.length))&&(!false))) (cond ((Nat.beq ((c.take 2).length) 2)&&((Nat.ble 2 (c.length))&&(!false))) (cond (Nat.ble 2 ((setCells b 0 (b.take 2)).length)) (cond (Nat.ble 2 ((setCells c 0 (c.take 2)).length)) (r0 ((setCells b 0 (b.take 2)).take 2) ((setCells c 0 (c.take 2)).take 2) true) none) none) none) none) none) none))) none) none)))))))))))))
def Lc:=(Al (@Ye R)).1
theorem Yf:@Lc R=@Ye R:=(Al _).2
def ge:Gn:=[(126,CW N),(83,Ff N),(140,mM N),(139,YU N),(32,Oy N),(141,mO N)]
def CZ (F:KF R):LA→LA→Bool→O R:=(fun ae af ag=>F (.tup [(.pagg ae false),(.pagg af false),(.bool ag)]) [])
theorem C_ (f:LA) (m:Bool) (e:LA) (l:Bool) (F:KF R):Dj (ge N) sL N 71 [(.pagg f m),(.pagg e l)] [] F=(Lc N f m e l (CZ F)):=by
 rw[Yf]
 kernel_rfl
def Yg (a:LA) (h:Ai) (k:KF R):O R :=
 match a,h with
 | [(.pagg f m),(.pagg e l)],[]=>(Lc N f m e l (CZ k))
 | _,_=>none
theorem DA:Ao N 71 @Yg:=by
 intro R Q a h k j;unfold Yg;split;exact Ay (C_ ..) (C_ ..) ⟨CX N,Fg N,mN N,YV N,Oz N,mP N,trivial⟩;exact A0
def cj:=Az (DA N)
def ck:=Dh (DA N)
def Qh (r0:LA→O R) (e:Bool) (c:LA) (d:Bool) (b:LA):O R :=
 (cond (Nat.ble 2 (c.length)) (cond (Nat.ble 2 (b.length)) (JQ N (c.take 2) e (b.take 2) d (fun l=>(cond ((Nat.beq 0 0)&&((Nat.beq (l.length) 2)&&(Nat.beq 2 2))) (cond (Nat.ble 2 (c.length)) (cond (Nat.ble 2 (l.length)) (Lc N (c.take 2) e (l.take 2) false (fun f w af=>(cond ((Nat.beq 0 0)&&((Nat.beq (f.length) 2)&&(Nat.beq 2 2))) (cond ((Nat.beq 0 0)&&((Nat.beq (w.length) 2)&&(Nat.beq 2 2))) (cond (Nat.ble 2 (b.length)) (cond (Nat.ble 2 (l.length)) (Lc N (b.take 2) d (l.take 2) false (fun g x ag=>(cond ((Nat.beq 0 0)&&((Nat.beq (g.length) 2)&&(Nat.beq 2 2))) (cond ((Nat.beq 0 0)&&((Nat.beq (x.length) 2)&&(Nat.beq 2 2))) (Pc g fun y=>(cond y (cond (Nat.ble 2 (f.length)) (AC N (f.take 2) false (fun i=>(cond (Nat.ble 2 (g.length)) (AC N (g.take 2) false (fun v=>(cond ((Nat.beq (i.length) 2)&&((Nat.ble 2 (f.length))&&(!false))) (cond ((Nat.beq (v.length) 2)&&((Nat.ble 2 (g.length))&&(!false))) (cond (Nat.ble 2 ((setCells f 0 i).length)) (Lq 1 ((setCells g 0 v).drop 1) fun o p=>(cond ((Nat.beq (((setCells f 0 i).take 2).length) 2)&&(Nat.ble 2 3)) (cond ((Nat.beq 1 1)&&(Nat.ble 3 ((setCells [(.bool false),.nsl,.nsl] 0 ((setCells f 0 i).take 2)).length))) (cond ((Nat.beq 0 0)&&((Nat.beq (((setCells [(.bool false),.nsl,.nsl] 0 ((setCells f 0 i).take 2)).set 2 (.imm o p 1 false false)).length) 3)&&(Nat.beq 3 3))) (cond (Nat.ble 3 (((setCells [(.bool false),.nsl,.nsl] 0 ((setCells f 0 i).take 2)).set 2 (.imm o p 1 false false)).length)) (r0 (((setCells [(.bool false),.nsl,.nsl] 0 ((setCells f 0 i).take 2)).set 2 (.imm o p 1 false false)).take 3)) none) none) none) none)) none) none) none))) none))) none) (cond (Nat.ble 2 (f.length)) (Lq 1 (g.drop 1) fun q r=>(cond ((Nat.beq ((f.take 2).length) 2)&&(Nat.ble 2 3)) (cond ((Nat.beq 1 1)&&(Nat.ble 3 ((setCells [(.bool false),.nsl,.nsl] 0 (f.take 2)).length))) (cond ((Nat.beq 0 0)&&((Nat.beq (((setCells [(.bool false),.nsl,.nsl] 0 (f.take 2)).set 2 (.imm q r 1 false false)).length) 3)&&(Nat.beq 3 3))) (cond (Nat.ble 3 (((setCells [(.bool false),.nsl,.nsl] 0 (f.take 2)).set 2 (.imm q r 1 false false)).length)) (r0 (((setCells [(.bool false),.nsl,.nsl] 0 (f.take 2)).set 2 (.imm q r 1 false false)).take 3)) none) none) none) none)) none))) none) none))) none) none) none) none))) none) none) none))) none) none)
def AD (r0:LA→O R) (q0:O R) (c:LA) (e:Bool) (b:LA) (d:Bool):O R :=
 (cond (Nat.ble 2 (b.length)) (X5 N (b.take 2) d (fun z=>(cond (z==0) (X6 N (fun s=>(cond ((Nat.beq 0 0)&&((Nat.beq (s.length) 3)&&(Nat.beq 3 3))) (cond (Nat.ble 3 (s.length)) (r0 (s.take 3)) none) none))) (cond (Nat.ble 2 (b.length)) (O0 N (b.take 2) d (fun n=>(cond ((Nat.beq 0 0)&&((Nat.beq (n.length) 2)&&(Nat.beq 2 2))) (Pc n fun aa=>(cond ((!aa)==true) (Lq 1 (n.drop 1) fun ab ac=>(Jb N ab ac false false [(.int .u32 1)] 1 false true (fun ad=>(cond (cond true ad false) (cond (Nat.ble 2 (c.length)) (O0 N (c.take 2) e (fun m=>(Lq 1 (n.drop 1) fun t u=>(cond ((Nat.beq (m.length) 2)&&(Nat.ble 2 3)) (cond ((Nat.beq 1 1)&&(Nat.ble 3 ((setCells [(.bool false),.nsl,.nsl] 0 m).length))) (cond ((Nat.beq 0 0)&&((Nat.beq (((setCells [(.bool false),.nsl,.nsl] 0 m).set 2 (.imm t u 1 false false)).length) 3)&&(Nat.beq 3 3))) (cond (Nat.ble 3 (((setCells [(.bool false),.nsl,.nsl] 0 m).set 2 (.imm t u 1 false false)).length)) (r0 (((setCells [(.bool false),.nsl,.nsl] 0 m).set 2 (.imm t u 1 false false)).take 3)) none) none) none) none)))) none) q0)))) q0)) none))) none)))) none)
def Ig:=(Al (fun (N:Nat) (c:LA) (e:Bool) (b:LA) (d:Bool) (r0:LA→O R)=>(AD N r0 (Qh N r0 e c d b) c e b d))).1
theorem JR (c e b d r0):(@Ig R N c e b d r0)=(AD N r0 (Qh N r0 e c d b) c e b d):=by rw[Ig,(Al _).2]
def QW:Hints:={ H:=(hS hL (hS hL (hJ [2,3,4] hL hL))),modes:=[(3,0)] }
def ZE:Gn:=[(138,je N),(151,jg N),(26,PZ N),(65,Ug N),(152,mK N),(71,cj N),(153,YZ N)]
def jx (F:KF R):=Rh Tryz.f84 QW (ZE N) [] N F
def Qi (F:KF R):LA→O R:=(fun ae=>F (.pagg ae false) [])
def jy (e:Bool) (c:LA) (d:Bool) (b:LA):St:=⟨[(2,(op 0)),(3,(op 1)),(4,(op 2))],(hq [(bP e 0 c),(bP d 0 b),(bN 0 [(.bool false),.nsl,.nsl])])⟩
def jz (F:KF R):=jx N F [1,1,1] []
theorem ZF (F:KF R) (e:Bool) (c:LA) (d:Bool) (b:LA):C7 (jz N F) (jy e c d b)=(Qh N (Qi F) e c d b):=by
 kernel_rfl
theorem QX (c:LA) (e:Bool) (b:LA) (d:Bool) (F:KF R):Dj (ZE N) QW N 84 [(.pagg c e),(.pagg b d)] [] F=(Ig N c e b d (Qi F)):=by
 rw[JR]
 exact Eq.trans (by kernel_rfl) (Ee (AD N (Qi F) · c e b d) ((A8 ..).trans (ZF N F e c d b)):_)
def JT (a:LA) (h:Ai) (k:KF R):O R :=
 match a,h with
 | [(.pagg c e),(.pagg b d)],[]=>(Ig N c e b d (Qi k))
 | _,_=>none
theorem QY:Ao N 84 @JT:=by
 intro R Q a h k j;unfold JT;split;exact Ay (QX ..) (QX ..) ⟨jf N,jh N,P_ N,Uh N,mL N,ck N,Y_ N,trivial⟩;exact A0
def Qj:=Az (QY N)
def Qk:=Dh (QY N)
def gf (b c:Int) (r0:LA→O R):O R :=
 (Dp N b (fun e=>(Dp N c (fun f=>(Ig N e false f false (fun d=>(cond ((Nat.beq 0 0)&&((Nat.beq (d.length) 3)&&(Nat.beq 3 3))) (cond (Nat.ble 3 (d.length)) (r0 (d.take 3)) none) none)))))))
def FY:=(Al (@gf R)).1
theorem ZG:@FY R=@gf R:=(Al _).2
def rC:Gn:=[(32,Oy N),(84,Qj N)]
def eY (F:KF R):LA→O R:=(fun g=>F (.pagg g false) [])
theorem eZ (b c:Int) (F:KF R):Dj (rC N) H3 N 59 [(iv b),(iv c)] [] F=(FY N b c (eY F)):=by
 rw[ZG]
 kernel_rfl
def ZH (a:LA) (h:Ai) (k:KF R):O R :=
 match a,h with
 | [(.int .i64 b),(.int .i64 c)],[]=>(FY N b c (eY k))
 | _,_=>none
theorem e_:Ao N 59 @ZH:=by
 intro R Q a h k j;unfold ZH;split;exact Ay (eZ ..) (eZ ..) ⟨Oz N,Qk N,trivial⟩;exact A0
def pH:=Az (e_ N)
def pI:=Dh (e_ N)
def S8 (r0:LA→O R) (d:Bool) (b:LA) (e:Bool) (c:LA):O R :=
 (cond (Nat.ble 3 (b.length)) (L7 N (b.take 3) d (fun f o p q r=>(cond ((Nat.beq 0 0)&&((Nat.beq (f.length) 2)&&(Nat.beq 2 2))) (cond (Nat.ble 3 (c.length)) (L7 N (c.take 3) e (fun g s t u v=>(cond ((Nat.beq 0 0)&&((Nat.beq (g.length) 2)&&(Nat.beq 2 2))) (cond (Nat.ble 2 (f.length)) (cond (Nat.ble 2 (g.length)) (Q8 N (f.take 2) o (g.take 2) s (fun w m x=>(T2 N p q false r t u false v (fun n y=>(Lb N [(.bool w),(.imm (x.take (m*1)) m 1 false true)] true (y.take (n*1)) n false true (fun i=>(cond ((Nat.beq 0 0)&&((Nat.beq (i.length) 3)&&(Nat.beq 3 3))) (cond (Nat.ble 3 (i.length)) (r0 (i.take 3)) none) none))))))) none) none) none))) none) none))) none)
def AE (r0:LA→O R) (q0:O R) (b:LA) (d:Bool) (c:LA) (e:Bool):O R :=
 (cond (Nat.ble 3 (b.length)) (Ia N (b.take 3) d (fun z aa ab=>(cond (Nat.ble 3 (c.length)) (Ia N (c.take 3) e (fun ac ad ae=>(cond (ab==true) (cond (cond true ae false) (Fe N (wrap .i64 (z*ac)) (wrap .i64 (aa*ad)) (fun l=>(cond ((Nat.beq 0 0)&&((Nat.beq (l.length) 3)&&(Nat.beq 3 3))) (cond (Nat.ble 3 (l.length)) (r0 (l.take 3)) none) none))) q0) q0))) none))) none)
def Uk:=(Al (fun (N:Nat) (b:LA) (d:Bool) (c:LA) (e:Bool) (r0:LA→O R)=>(AE N r0 (S8 N r0 d b e c) b d c e))).1
theorem Ul (b d c e r0):(@Uk R N b d c e r0)=(AE N r0 (S8 N r0 d b e c) b d c e):=by rw[Uk,(Al _).2]
def ee:Hints:={ H:=(hS hL (hS hL (hS hL (hJ [2,3,4] hL hL)))),modes:=[(3,0)] }
def kA:Gn:=[(127,PH N),(128,Xj N),(130,Xl N),(68,ML N),(137,MJ N),(129,IU N)]
def pJ (F:KF R):=Rh Tryz.f76 ee (kA N) [] N F
def AF (F:KF R):LA→O R:=(fun af=>F (.pagg af false) [])
def pK (d:Bool) (b:LA) (e:Bool) (c:LA):St:=⟨[(2,(op 0)),(3,(op 1)),(4,(op 2))],(hq [(bP d 0 b),(bP e 0 c),(bN 0 [(.bool false),.nsl,.nsl])])⟩
def pL (F:KF R):=pJ N F [1,1,1,1] []
theorem gg (F:KF R) (d:Bool) (b:LA) (e:Bool) (c:LA):C7 (pL N F) (pK d b e c)=(S8 N (AF F) d b e c):=by
 kernel_rfl
theorem ef (b:LA) (d:Bool) (c:LA) (e:Bool) (F:KF R):Dj (kA N) ee N 76 [(.pagg b d),(.pagg c e)] [] F=(Uk N b d c e (AF F)):=by
 rw[Ul]
 exact Eq.trans (by kernel_rfl) (Ee (AE N (AF F) · b d c e) ((A8 ..).trans (gg N F d b e c)):_)
def ZI (a:LA) (h:Ai) (k:KF R):O R :=
 match a,h with
 | [(.pagg b d),(.pagg c e)],[]=>(Uk N b d c e (AF k))
 | _,_=>none
theorem eg:Ao N 76 @ZI:=by
 intro R Q a h k j;unfold ZI;split;exact Ay (ef ..) (ef ..) ⟨PI N,Xk N,Xm N,MM N,MK N,IV N,trivial⟩;exact A0
def NL:=Az (eg N)
def NM:=Dh (eg N)
def Um (b:LA) (d:Bool) (c:LA) (e:Bool) (r0:Bool→O R):O R :=
 (Pc b fun f=>(Pc c fun g=>(cond ((f==g)==true) (Lq 1 (b.drop 1) fun i l=>(Lq 1 (c.drop 1) fun m n=>(Jb N i l false d m n false e (fun o=>(r0 (cond true o false)))))) (r0 false))))
def Ld:=(Al (@Um R)).1
theorem Rb:@Ld R=@Um R:=(Al _).2
def kB:Gn:=[(65,Ug N)]
def JU (F:KF R):Bool→O R:=(fun p=>F (.bool p) [])
theorem JV (b:LA) (d:Bool) (c:LA) (e:Bool) (F:KF R):Dj (kB N) H2 N 25 [(.pagg b d),(.pagg c e)] [] F=(Ld N b d c e (JU F)):=by
 rw[Rb]
 kernel_rfl
def DB (a:LA) (h:Ai) (k:KF R):O R :=
 match a,h with
 | [(.pagg b d),(.pagg c e)],[]=>(Ld N b d c e (JU k))
 | _,_=>none
theorem JW:Ao N 25 @DB:=by
 intro R Q a h k j;unfold DB;split;exact Ay (JV ..) (JV ..) ⟨Uh N,trivial⟩;exact A0
def gh:=Az (JW N)
def gi:=Dh (JW N)
def Uo (b:LA) (d:Bool) (c:LA) (e:Bool) (r0:Bool→O R):O R :=
 (cond (Nat.ble 2 (b.length)) (cond (Nat.ble 2 (c.length)) (Ld N (b.take 2) d (c.take 2) e (fun f=>(cond (f==true) (Lq 1 (b.drop 2) fun g i=>(Lq 1 (c.drop 2) fun l m=>(Jb N g i false d l m false e (fun n=>(r0 (cond true n false)))))) (r0 false)))) none) none)
def Du:=(Al (@Uo R)).1
theorem Rc:@Du R=@Uo R:=(Al _).2
def kC:Gn:=[(25,gh N),(65,Ug N)]
def JX (F:KF R):Bool→O R:=(fun o=>F (.bool o) [])
theorem JY (b:LA) (d:Bool) (c:LA) (e:Bool) (F:KF R):Dj (kC N) H2 N 27 [(.pagg b d),(.pagg c e)] [] F=(Du N b d c e (JX F)):=by
 rw[Rc]
 kernel_rfl
def DC (a:LA) (h:Ai) (k:KF R):O R :=
 match a,h with
 | [(.pagg b d),(.pagg c e)],[]=>(Du N b d c e (JX k))
 | _,_=>none
theorem JZ:Ao N 27 @DC:=by
 intro R Q a h k j;unfold DC;split;exact Ay (JY ..) (JY ..) ⟨gi N,Uh N,trivial⟩;exact A0
def J_:=Az (JZ N)
def KA:=Dh (JZ N)
def NN (b:LA) (c:Bool) (r0:LA→O R):O R :=
 (cond (Nat.ble 2 (b.length)) (Lq 1 (b.drop 2) fun e f=>(Ig N (b.take 2) c [(.bool false),(.imm e f 1 false c)] (c||false) (fun d=>(cond ((Nat.beq 0 0)&&((Nat.beq (d.length) 3)&&(Nat.beq 3 3))) (cond (Nat.ble 3 (d.length)) (r0 (d.take 3)) none) none)))) none)
def O5:=(Al (@NN R)).1
theorem KB:@O5 R=@NN R:=(Al _).2
def mQ:Gn:=[(84,Qj N)]
def QZ (F:KF R):LA→O R:=(fun g=>F (.pagg g false) [])
theorem Q_ (b:LA) (c:Bool) (F:KF R):Dj (mQ N) H3 N 28 [(.pagg b c)] [] F=(O5 N b c (QZ F)):=by
 rw[KB]
 kernel_rfl
def KC (a:LA) (h:Ai) (k:KF R):O R :=
 match a,h with
 | [(.pagg b c)],[]=>(O5 N b c (QZ k))
 | _,_=>none
theorem Q':Ao N 28 @KC:=by
 intro R Q a h k j;unfold KC;split;exact Ay (Q_ ..) (Q_ ..) ⟨Qk N,trivial⟩;exact A0
def RA:=Az (Q' N)
def RB:=Dh (Q' N)
def Ql (N:Nat) (k0:Nat→Int→LA→O R) (r0:Nat→LA→O R) (d:LA) (c:Nat) (f g:Bool) (e:LA) (b:Nat) (i l:Bool) (m:Nat) (k1:Int→Int→Int→LA→O R) (o t p:Int) (s:LA):O R :=
 (cond (decide (p<((b:Nat):Int))) (cond (Am (wrap .i64 (o+p)) m) (Bi .u32 (s.drop (0+(((wrap .i64 (o+p)).toNat)*1))) fun u=>(cond (Am o c) (Bi .u32 (d.drop ((o.toNat)*1)) fun v=>(cond (Am p b) (Bi .u32 (e.drop ((p.toNat)*1)) fun w=>(cond (Am (wrap .i64 (o+p)) m) (cond ((Nat.beq 1 1)&&((Nat.ble ((0+(((wrap .i64 (o+p)).toNat)*1))+1) (s.length))&&(!false))) (k1 o (Int.fdiv (wrap .u64 (t+(wrap .u64 ((wrap .u64 u)+(wrap .u64 ((wrap .u64 v)*(wrap .u64 w))))))) (2 ^ 32)) (wrap .i64 (p+1)) (s.set (0+(((wrap .i64 (o+p)).toNat)*1)) (.int .u32 (wrap .u32 (wrap .u64 (t+(wrap .u64 ((wrap .u64 u)+(wrap .u64 ((wrap .u64 v)*(wrap .u64 w))))))))))) none) none)) none)) none)) none) (cond (Am (wrap .i64 (o+((b:Nat):Int))) m) (cond ((Nat.beq 1 1)&&((Nat.ble ((0+(((wrap .i64 (o+((b:Nat):Int))).toNat)*1))+1) (s.length))&&(!false))) (k0 m (wrap .i64 (o+1)) (s.set (0+(((wrap .i64 (o+((b:Nat):Int))).toNat)*1)) (.int .u32 (wrap .u32 t)))) none) none))
def Iy (k0:Nat→Int→LA→O R) (r0:Nat→LA→O R) (d:LA) (c:Nat) (f g:Bool) (e:LA) (b:Nat) (i l:Bool) (m:Nat):Nat→Int→Int→Int→LA→O R
 | 0,_,_,_,_=>none
 | n+1,o,t,p,s=>(Ql N k0 r0 d c f g e b i l m (Iy k0 r0 d c f g e b i l m n) o t p s)
def Qm (r0:Nat→LA→O R) (d:LA) (c:Nat) (f g:Bool) (e:LA) (b:Nat) (i l:Bool) (k0:Nat→Int→LA→O R) (q1:Int→Int→Int→LA→O R) (m:Nat) (q:Int) (r:LA):O R :=
 (cond (decide (q<((c:Nat):Int))) (q1 q 0 0 r) (B7 N (r.take (m*1)) m false true (fun x y=>(r0 x y))))
def Fz (r0:Nat→LA→O R) (d:LA) (c:Nat) (f g:Bool) (e:LA) (b:Nat) (i l:Bool):Nat→Nat→Int→LA→O R
 | 0,_,_,_=>none
 | n+1,m,q,r=>(Qm N r0 d c f g e b i l (Fz r0 d c f g e b i l n) (fun o t p s=>(Iy N (Fz r0 d c f g e b i l n) r0 d c f g e b i l m N o t p s)) m q r)
def KD (N:Nat) (r0:Nat→LA→O R) (q0:Nat→Int→LA→O R) (d:LA) (c:Nat) (f g:Bool) (e:LA) (b:Nat) (i l:Bool):O R :=
 (cond ((decide (0≤(wrap .i64 (((c:Nat):Int)+((b:Nat):Int)))))&&((decide ((wrap .i64 (((c:Nat):Int)+((b:Nat):Int)))≤(wrap .i64 (((c:Nat):Int)+((b:Nat):Int)))))&&((decide ((wrap .i64 (((c:Nat):Int)+((b:Nat):Int)))≤140737488355328))&&(decide (((wrap .i64 (((c:Nat):Int)+((b:Nat):Int)))*((4:Nat):Int))≤140737488355328))))) (q0 ((wrap .i64 (((c:Nat):Int)+((b:Nat):Int))).toNat) 0 (List.replicate ((wrap .i64 (((c:Nat):Int)+((b:Nat):Int))).toNat) (.int .u32 0))) none)
def AG:=(Al (fun (N:Nat) (d:LA) (c:Nat) (f g:Bool) (e:LA) (b:Nat) (i l:Bool) (r0:Nat→LA→O R)=>(KD N r0 (fun m q r=>(Fz N r0 d c f g e b i l N m q r)) d c f g e b i l))).1
theorem RC (d c f g e b i l r0):(@AG R N d c f g e b i l r0)=(KD N r0 (fun m q r=>(Fz N r0 d c f g e b i l N m q r)) d c f g e b i l):=by rw[AG,(Al _).2]
def ZJ:Hints:={ H:=(hS hL (hS hL (hS (hS hL (hS (hP [0,1,5,6] (hS hL (hS (hS (hS hL (hS (hS hL (hS (hP [0,1,5,6,7,8] hL) hL)) hL)) hL) hL))) hL)) hL))),nils:=[(4,1)],modes:=[(2,1)] }
def eh:Gn:=[(150,Dn N)]
def ZK (F:KF R):=Rh Tryz.f156 ZJ (eh N) [] N F
def He (F:KF R):Nat→LA→O R:=(fun z aa=>F (.own 300000 0 z) (hq [(bQ 1 aa)]))
def mR (d:LA) (c:Nat) (f g:Bool) (e:LA) (b:Nat) (i l:Bool) (m:Nat) (o t p:Int) (s:LA):St:=⟨[(0,(.imm d c 1 f g)),(1,(.imm e b 1 i l)),(5,(.own 300000 0 m)),(6,(iv o)),(7,(.int .u64 t)),(8,(iv p))],(hq [(bQ 1 s)])⟩
def mS (F:KF R) (Q0:St→O R):=ZK N F [1,1,0,1,0,0,1,0,0,1,0,1,0] [Q0]
def FZ (d:LA) (c:Nat) (f g:Bool) (e:LA) (b:Nat) (i l:Bool) (m:Nat) (q:Int) (r:LA):St:=⟨[(0,(.imm d c 1 f g)),(1,(.imm e b 1 i l)),(5,(.own 300000 0 m)),(6,(iv q))],(hq [(bQ 1 r)])⟩
def ZL (F:KF R):=ZK N F [1,1,0,1,0] []
theorem DD (Q0:St→O R) (F:KF R) (d:LA) (c:Nat) (f g:Bool) (e:LA) (b:Nat) (i l:Bool) (m:Nat):∀ (n:Nat) (o t p:Int) (s:LA),Ax (mS N F Q0) n (mR d c f g e b i l m o t p s)=(Iy N (fun m q r=>Q0 (FZ d c f g e b i l m q r)) (He F) d c f g e b i l m n o t p s)
 | 0,_,_,_,_=>by kernel_rfl
 | n+1,o,t,p,s=>Eq.trans (by kernel_rfl) (Ee (Ql N (fun m q r=>Q0 (FZ d c f g e b i l m q r)) (He F) d c f g e b i l m · o t p s) (funext fun o=>funext fun t=>funext fun p=>funext fun s=>(DD Q0 F d c f g e b i l m n o t p s)):_)
theorem DE (F:KF R) (d:LA) (c:Nat) (f g:Bool) (e:LA) (b:Nat) (i l:Bool):∀ (n m:Nat) (q:Int) (r:LA),Ax (ZL N F) n (FZ d c f g e b i l m q r)=(Fz N (He F) d c f g e b i l n m q r)
 | 0,_,_,_=>by kernel_rfl
 | n+1,m,q,r=>have e0:=(funext fun m=>funext fun q=>funext fun r=>(DE F d c f g e b i l n m q r))
  Eq.trans (by kernel_rfl) (pt (Qm N (He F) d c f g e b i l · · m q r) e0 (funext fun o=>funext fun t=>funext fun p=>funext fun s=>(Ar ..).trans ((DD N (Ax (ZL N F) n) F d c f g e b i l m N o t p s).trans (Ee (Iy N · (He F) d c f g e b i l m N o t p s) e0))):_)
theorem ZM (d:LA) (c:Nat) (f g:Bool) (e:LA) (b:Nat) (i l:Bool) (F:KF R):Dj (eh N) ZJ N 156 [(.imm d c 1 f g),(.imm e b 1 i l)] [] F=(AG N d c f g e b i l (He F)):=by
 rw[RC]
 exact Eq.trans (by kernel_rfl) (Ee (KD N (He F) · d c f g e b i l) (funext fun m=>funext fun q=>funext fun r=>(Ar ..).trans (DE N F d c f g e b i l N m q r)):_)
def RD (a:LA) (h:Ai) (k:KF R):O R :=
 match a,h with
 | [(.imm d c 1 f g),(.imm e b 1 i l)],[]=>(AG N d c f g e b i l (He k))
 | _,_=>none
theorem ZN:Ao N 156 @RD:=by
 intro R Q a h k j;unfold RD;split;exact Ay (ZM ..) (ZM ..) ⟨Do N,trivial⟩;exact A0
def mT:=Az (ZN N)
def mU:=Dh (ZN N)
def ZO (b:LA) (d:Bool) (c:LA) (e:Bool) (r0:LA→O R):O R :=
 (Pc b fun i=>(Pc c fun l=>(Lq 1 (b.drop 1) fun m n=>(Lq 1 (c.drop 1) fun o p=>(AG N m n false d o p false e (fun g q=>(Dg N (!(i==l)) (q.take (g*1)) g false true (fun f=>(cond ((Nat.beq 0 0)&&((Nat.beq (f.length) 2)&&(Nat.beq 2 2))) (cond (Nat.ble 2 (f.length)) (r0 (f.take 2)) none) none)))))))))
def Up:=(Al (@ZO R)).1
theorem RE:@Up R=@ZO R:=(Al _).2
def pM:Gn:=[(156,mT N),(83,Ff N)]
def ZP (F:KF R):LA→O R:=(fun r=>F (.pagg r false) [])
theorem ZQ (b:LA) (d:Bool) (c:LA) (e:Bool) (F:KF R):Dj (pM N) H3 N 95 [(.pagg b d),(.pagg c e)] [] F=(Up N b d c e (ZP F)):=by
 rw[RE]
 kernel_rfl
def RF (a:LA) (h:Ai) (k:KF R):O R :=
 match a,h with
 | [(.pagg b d),(.pagg c e)],[]=>(Up N b d c e (ZP k))
 | _,_=>none
theorem ZR:Ao N 95 @RF:=by
 intro R Q a h k j;unfold RF;split;exact Ay (ZQ ..) (ZQ ..) ⟨mU N,Fg N,trivial⟩;exact A0
def mV:=Az (ZR N)
def mW:=Dh (ZR N)
def ZS (b:LA) (c:Bool) (r0:LA→O R):O R :=
 (cond (Nat.ble 3 (b.length)) (O5 N (b.take 3) c (fun d=>(Lq 1 (d.drop 2) fun e f=>(r0 [(.bool false),(.imm e f 1 false false)])))) none)
def AH:=(Al (@ZS R)).1
theorem RG:@AH R=@ZS R:=(Al _).2
def pN:Gn:=[(28,RA N)]
def ZT (F:KF R):LA→O R:=(fun g=>F (.pagg g false) [])
theorem ZU (b:LA) (c:Bool) (F:KF R):Dj (pN N) H3 N 87 [(.pagg b c)] [] F=(AH N b c (ZT F)):=by
 rw[RG]
 kernel_rfl
def RH (a:LA) (h:Ai) (k:KF R):O R :=
 match a,h with
 | [(.pagg b c)],[]=>(AH N b c (ZT k))
 | _,_=>none
theorem ZV:Ao N 87 @RH:=by
 intro R Q a h k j;unfold RH;split;exact Ay (ZU ..) (ZU ..) ⟨RB N,trivial⟩;exact A0
def mX:=Az (ZV N)
def mY:=Dh (ZV N)
def ZW (b:LA) (d:Bool) (c:LA) (e:Bool) (r0:LA→O R):O R :=
 (cond (Nat.ble 3 (b.length)) (O5 N (b.take 3) d (fun g=>(cond (Nat.ble 2 (g.length)) (cond (Nat.ble 3 (c.length)) (O5 N (c.take 3) e (fun i=>(cond (Nat.ble 2 (i.length)) (Up N (g.take 2) false (i.take 2) false (fun l=>(cond (Nat.ble 3 (b.length)) (AH N (b.take 3) d (fun m=>(cond (Nat.ble 3 (c.length)) (AH N (c.take 3) e (fun n=>(Up N m false n false (fun o=>(Ig N l false o false (fun f=>(cond ((Nat.beq 0 0)&&((Nat.beq (f.length) 3)&&(Nat.beq 3 3))) (cond (Nat.ble 3 (f.length)) (r0 (f.take 3)) none) none))))))) none))) none))) none))) none) none))) none)
def AI:=(Al (@ZW R)).1
theorem RI:@AI R=@ZW R:=(Al _).2
def pO:Gn:=[(28,RA N),(95,mV N),(87,mX N),(84,Qj N)]
def ZX (F:KF R):LA→O R:=(fun p=>F (.pagg p false) [])
theorem ZY (b:LA) (d:Bool) (c:LA) (e:Bool) (F:KF R):Dj (pO N) H3 N 41 [(.pagg b d),(.pagg c e)] [] F=(AI N b d c e (ZX F)):=by
 rw[RI]
 kernel_rfl
def RK (a:LA) (h:Ai) (k:KF R):O R :=
 match a,h with
 | [(.pagg b d),(.pagg c e)],[]=>(AI N b d c e (ZX k))
 | _,_=>none
theorem ZZ:Ao N 41 @RK:=by
 intro R Q a h k j;unfold RK;split;exact Ay (ZY ..) (ZY ..) ⟨RB N,mW N,mY N,Qk N,trivial⟩;exact A0
def mZ:=Az (ZZ N)
def m0:=Dh (ZZ N)
def Uq (b:Int) (r0:LA→O R):O R :=
 (Dp N b (fun d=>(Dp N 1 (fun e=>(Ig N d false e false (fun c=>(cond ((Nat.beq 0 0)&&((Nat.beq (c.length) 3)&&(Nat.beq 3 3))) (cond (Nat.ble 3 (c.length)) (r0 (c.take 3)) none) none)))))))
def Hf:=(Al (@Uq R)).1
theorem V4:@Hf R=@Uq R:=(Al _).2
def cp:Gn:=[(32,Oy N),(84,Qj N)]
def Yh (F:KF R):LA→O R:=(fun f=>F (.pagg f false) [])
theorem Yi (b:Int) (F:KF R):Dj (cp N) H3 N 94 [(iv b)] [] F=(Hf N b (Yh F)):=by
 rw[V4]
 kernel_rfl
def V5 (a:LA) (h:Ai) (k:KF R):O R :=
 match a,h with
 | [(.int .i64 b)],[]=>(Hf N b (Yh k))
 | _,_=>none
theorem Yj:Ao N 94 @V5:=by
 intro R Q a h k j;unfold V5;split;exact Ay (Yi ..) (Yi ..) ⟨Oz N,Qk N,trivial⟩;exact A0
def Z_:=Az (Yj N)
def Z':=Dh (Yj N)
end
end Gx

namespace Gx
open Go Go.Proofs
section
variable {R:Type}
theorem tP (a b:Nat):EK (a:Int) (b:Int)=((max a b:Nat):Int):=by
 unfold EK
 by_cases h:(b:Int)>(a:Int)
 ·rw[decide_eq_true h];show(b:Int)=_;omega
 ·rw[decide_eq_false h];show(a:Int)=_;omega
theorem ei {N:Nat} {a b:List Nat} {t o t' o':Bool} {n:Nat} (u:Ae a) (v:Ae b) (x:a.length<n) (y:b.length<n) (L:n≤max a.length b.length+1) (l:fit n N):∀ (m d f:Nat) (S:List Nat) (c:Nat),d+m=n→m<f→Ae S→S.length=n→oc S d→c≤1 →
  val S+4294967296 ^ d*c=val (a.take d)+val (b.take d) →
  ∀ K:Nat→LA→O R,Ex N K (Aa a) a.length t o (Aa b) b.length t' o' f n (c:Int) (d:Int) (Aa S)=K (Af (val a+val b)).length (Aa (Af (val a+val b)))
 | 0,d,f+1,S,c,M,_,hS,q,z,T,A=>by
  intro K
  have B:d=n:=by omega
  subst B
  rw[List.take_of_length_le (by omega),List.take_of_length_le (by omega)] at A
  have C:c=0:=by
   rcases Nat.eq_zero_or_pos c with h | h
   ·exact h
   ·exfalso
    have D:c=1:=by omega
    subst D
    obtain⟨e,rfl⟩:∃ e,d=e+1:=⟨d - 1,by omega⟩
    have x1:=Bd u
    have x2:=Bd v
    have y1:4294967296 ^ a.length≤4294967296 ^ e:=Nat.pow_le_pow_right (by omega) (by omega)
    have y2:4294967296 ^ b.length≤4294967296 ^ e:=Nat.pow_le_pow_right (by omega) (by omega)
    rw[Nat.pow_succ] at A
    omega
  subst C
  have F:val S=val a+val b:=by omega
  rw[Ex];unfold Qa
  rw[FG (Nat.le_refl _),cf,Nat.mul_one,List.take_of_length_le (by rw[A5];omega),B0 q.symm hS (by rw[q];exact l),F]
 | m+1,d,f+1,S,c,M,U,hS,q,z,T,A=>by
  intro K
  have V:=l.1;have X:=l.2
  have ga:=Ns u d
  have gb:=Ns v d
  have step:∀ s:Nat,s=c+a.getD d 0+b.getD d 0→val (S.set d (s%4294967296))+4294967296 ^ (d+1)*(s/4294967296)=val (a.take (d+1))+val (b.take (d+1)):=by
   intro s G
   rw[Lv z (by omega),I9 a d,I9 b d,Nat.pow_succ]
   have e:=G9 (4294967296 ^ d) s
   have Y:4294967296 ^ d*s=4294967296 ^ d*c+4294967296 ^ d*a.getD d 0+4294967296 ^ d*b.getD d 0:=by rw[G,Nat.mul_add,Nat.mul_add]
   omega
  have next:∀ s:Nat,s=c+a.getD d 0+b.getD d 0→Ex N K (Aa a) a.length t o (Aa b) b.length t' o' f n ((s/4294967296:Nat):Int) ((d+1:Nat):Int) (Aa (S.set d (s%4294967296)))=K (Af (val a+val b)).length (Aa (Af (val a+val b))):=by
   intro s G
   exact ei u v x y L l m (d+1) f (S.set d (s%4294967296)) (s/4294967296) (by omega) (by omega) (Bn hS (by omega) d) (by simpa using q) (Pv z) (by omega) (step s G) K
  have second:∀ w:Nat,w=c+a.getD d 0→O1 N (Ex N K (Aa a) a.length t o (Aa b) b.length t' o' f) K (Aa a) a.length t o (Aa b) b.length t' o' n (Aa S) (w:Int) (d:Int)=K (Af (val a+val b)).length (Aa (Af (val a+val b))):=by
   intro w I
   unfold O1
   by_cases i:d<b.length
   ·have k:b.getD d 0=b[d]:=by rw[List.getD_eq_getElem?_getD,List.getElem?_eq_getElem i];rfl
    rw[Wj i,ct,Aj i,ct,Wk i,Aj (by omega),ct,d5 (by omega),ct,Er (show b[d]<18446744073709551616 by omega),Q7,Er (show w+b[d]<18446744073709551616 by omega),MD,EX,Xn,wS (by omega)]
    exact next _ (by rw[I,k])
   ·have k:b.getD d 0=0:=by rw[List.getD_eq_getElem?_getD,List.getElem?_eq_none (by omega)];rfl
    rw[FG (by omega),cf,Aj (by omega),ct,d5 (by omega),ct,MD,EX,Xn,wS (by omega)]
    exact next _ (by rw[I,k];rfl)
  rw[Ex];unfold Qa
  rw[Wj (by omega),ct]
  by_cases j:d<a.length
  ·have k:a.getD d 0=a[d]:=by rw[List.getD_eq_getElem?_getD,List.getElem?_eq_getElem j];rfl
   rw[Wj j,ct,Aj j,ct,Wk j,Er (show a[d]<18446744073709551616 by omega),Q7,Er (show c+a[d]<18446744073709551616 by omega)]
   exact second _ (by rw[k])
  ·have k:a.getD d 0=0:=by rw[List.getD_eq_getElem?_getD,List.getElem?_eq_none (by omega)];rfl
   rw[FG (by omega),cf]
   exact second _ (by rw[k];rfl)
theorem ek {N:Nat} {a b:List Nat} {n m:Nat} {t o t' o':Bool} {K:Nat→LA→O R} (d:n=a.length) (e:m=b.length) (f:Ae a) (i:Ae b) (c:fit (a.length+b.length+1) N) :
  Qb N (Aa a) n t o (Aa b) m t' o' K=K (Af (val a+val b)).length (Aa (Af (val a+val b))):=by
 subst d e
 have j:=c.1;have k:=c.2
 rw[QI];unfold JL
 rw[tP,wS (by omega),pu (by omega),ct,Int.toNat_natCast,Bt]
 exact ei f i (n:=max a.length b.length+1) (by omega) (by omega) (Nat.le_refl _) (c.le (by omega)) (max a.length b.length+1) 0 N (List.replicate (max a.length b.length+1) 0) 0 (by omega) (by omega) (Bk _) (by simp) (Gi _) (by omega) (by rw[Cg];simp[val]) K
theorem en {N:Nat} {a b:List Nat} (C:Ae a) (D:Ae b) (t:fit a.length N) (q:b.length≤a.length) (u:val b≤val a):∀ (m d f:Nat) (S:List Nat) (c:Nat),d+m=a.length→m<f→Ae S→S.length=a.length→oc S d→c≤1 →
  val S+val (b.take d)=val (a.take d)+4294967296 ^ d*c →
  ∀ K:Nat→Bool→LA→O R,Ey N K a.length b.length (Aa a) (Aa b) f (c:Int) (d:Int) (Aa S)=K (Af (val a - val b)).length true (Aa (Af (val a - val b)))
 | 0,d,f+1,S,c,G,_,hS,s,v,I,F=>by
  intro K
  have x:d=a.length:=by omega
  subst x
  rw[List.take_length,List.take_of_length_le q] at F
  have k:=Bd hS
  rw[s] at k
  have z:c=0:=by
   rcases Nat.lt_or_ge 0 c with h | h
   ·exfalso
    have:c=1:=by omega
    subst this
    omega
   ·omega
  subst z
  have A:val S=val a - val b:=by omega
  rw[Ey];unfold Qd
  rw[FG (Nat.le_refl _),cf,Nat.mul_one,List.take_of_length_le (by rw[A5];omega),B0 s.symm hS (by rw[s];exact t),A]
 | m+1,d,f+1,S,c,G,L,hS,s,v,I,F=>by
  intro K
  have T:=t.1;have U:=t.2
  have i:d<a.length:=by omega
  have ad:=Aq C i
  have gb:=Ns D d
  have step:∀ y g c':Nat,y=c+b.getD d 0→a[d]+4294967296*c'=g+y→val (S.set d g)+val (b.take (d+1))=val (a.take (d+1))+4294967296 ^ (d+1)*c':=by
   intro y g c' n l
   rw[Lv v (by omega),An i,I9 b d,Nat.pow_succ,Nat.mul_assoc]
   have e:4294967296 ^ d*(a[d]+4294967296*c')=4294967296 ^ d*(g+(c+b.getD d 0)):=by rw[l,n]
   rw[Nat.mul_add,Nat.mul_add,Nat.mul_add] at e
   omega
  have next:∀ y g c':Nat,g<4294967296→c'≤1→y=c+b.getD d 0→a[d]+4294967296*c'=g+y→Ey N K a.length b.length (Aa a) (Aa b) f (c':Int) ((d+1:Nat):Int) (Aa (S.set d g))=K (Af (val a - val b)).length true (Aa (Af (val a - val b))):=by
   intro y g c' l B n M
   exact en C D t q u m (d+1) f (S.set d g) c' (by omega) (by omega) (Bn hS l d) (by simpa using s) (Pv v) B (step y g c' n M) K
  have second:∀ y:Nat,y=c+b.getD d 0→O2 N (Ey N K a.length b.length (Aa a) (Aa b) f) K a.length b.length (Aa a) (Aa b) (Aa S) (d:Int) (y:Int)=K (Af (val a - val b)).length true (Aa (Af (val a - val b))):=by
   intro y n
   unfold O2
   rw[Aj i,ct,H_ i,Er (show a[d]<18446744073709551616 by omega)]
   by_cases k:a[d]<y
   ·rw[Wj k,ct,ct,d5 (by omega),ct,show((a[d]:Nat):Int)+4294967296=((a[d]+4294967296:Nat):Int) by omega,Er (show a[d]+4294967296<18446744073709551616 by omega),MC (by omega) (by omega),nT (by omega),Xn,wS (by omega)]
    exact next y (a[d]+4294967296 - y) 1 (by omega) (by omega) n (by omega)
   ·rw[FG (by omega),cf,ct,d5 (by omega),ct,MC (by omega) (by omega),nT (by omega),Xn,wS (by omega)]
    exact next y (a[d] - y) 0 (by omega) (by omega) n (by omega)
  rw[Ey];unfold Qd
  rw[Wj i,ct]
  by_cases j:d<b.length
  ·have l:b.getD d 0=b[d]:=by rw[List.getD_eq_getElem?_getD,List.getElem?_eq_getElem j];rfl
   rw[Wj j,ct,Aj j,ct,H_ j,Er (show b[d]<18446744073709551616 by omega),Q7,Er (show c+b[d]<18446744073709551616 by omega)]
   exact second _ (by rw[l])
  ·have l:b.getD d 0=0:=by rw[List.getD_eq_getElem?_getD,List.getElem?_eq_none (by omega)];rfl
   rw[FG (by omega),cf]
   exact second _ (by rw[l];rfl)
theorem pP {N:Nat} {a b:List Nat} {n m:Nat} {t o t' o':Bool} {K:Nat→Bool→LA→O R} (j:n=a.length) (k:m=b.length) (e:Ae a) (f:Ae b) (d:fit (a.length+b.length) N) :
  Qe N (Aa a) n t o (Aa b) m t' o' K=if val b≤val a then K (Af (val a - val b)).length true (Aa (Af (val a - val b))) else K 0 false []:=by
 subst j k
 have l:=d.1;have q:=d.2
 have la:=(A1 e).2
 have lb:=(A1 f).2
 rw[QM];unfold JN
 dsimp only
 rw[pG rfl rfl e f d]
 by_cases c:val b≤val a
 ·have i:=A6 c
  rw[if_pos c,show decide (Fc (val a) (val b)<0)=false by (unfold Fc;rw[if_neg (by omega)];split<;>rfl),cf,B0 rfl e (d.le (by omega)),B0 rfl f (d.le (by omega)),pu (by omega),ct,Bt]
  have:=en (R:=R) (N:=N) (a:=Af (val a)) (b:=Af (val b)) (Ab _) (Ab _) (d.le (by omega)) i (by rw[Ac,Ac];exact c) (Af (val a)).length 0 N (List.replicate (Af (val a)).length 0) 0 (by omega) (by omega) (Bk _) (by simp) (Gi _) (by omega) (by rw[Cg];simp[val]) K
  rw[Ac,Ac] at this
  exact this
 ·rw[if_neg c,show decide (Fc (val a) (val b)<0)=true by (unfold Fc;rw[if_pos (by omega)];rfl),ct]
theorem nY {N:Nat} {x y:List Nat} {c d c' d':Bool} {f:Nat} (F:Ae x) (G:Ae y) (t:f<x.length) (L:x.length+y.length≤1000000000000):∀ (m l b:Nat) (S:List Nat) (p:Nat) (v:Nat),l+m=y.length→m<b→Ae S→S.length=x.length+y.length→oc S (f+y.length)→p<4294967296 →
  val S+4294967296 ^ (f+l)*p=v+4294967296 ^ f*(x[f]*val (y.take l)) →
  ∃ S',Ae S'∧S'.length=x.length+y.length∧val S'=v+4294967296 ^ f*(x[f]*val y)∧∀ (n:Nat→Int→LA→O R) (K:Nat→LA→O R),Iy N n K (Aa x) x.length c d (Aa y) y.length c' d' (x.length+y.length) b (f:Int) (p:Int) (l:Int) (Aa S)=n (x.length+y.length) ((f+1:Nat):Int) (Aa S')
 | 0,l,b+1,S,p,v,M,_,hS,i,A,u,B=>by
  have C:l=y.length:=by omega
  subst C
  rw[List.take_length] at B
  refine⟨S.set (f+y.length) p,Bn hS u _,by simpa using i,by rw[Lv A (by omega),B],fun n K=>?_⟩
  rw[Iy];unfold Ql
  rw[FG (Nat.le_refl _),cf,wA (by omega),Aj (by omega),ct,d5 (by omega),ct,nT u,Xn,wS (by omega)]
 | m+1,l,b+1,S,p,v,M,T,hS,i,A,u,B=>by
  have k:l<y.length:=by omega
  have yl:=Aq G k
  have hq:=Aq F t
  have z:f+l<S.length:=by omega
  have sl:=Aq hS z
  have U:=j2 u hq yl sl
  have D:x[f]*y[l]<18446744073709551616:=by omega
  generalize q:p+(x[f]*y[l]+S[f+l])=s at *
  have I:=H' (v:=s%4294967296) z
  have key:val (S.set (f+l) (s%4294967296))+4294967296 ^ (f+(l+1))*(s/4294967296)=v+4294967296 ^ f*(x[f]*val (y.take (l+1))):=by
   rw[An k,←Nat.add_assoc f l 1,Nat.pow_succ]
   have e:=G9 (4294967296 ^ (f+l)) s
   have e2:4294967296 ^ (f+l)*s=4294967296 ^ (f+l)*p+(4294967296 ^ (f+l)*(x[f]*y[l])+4294967296 ^ (f+l)*S[f+l]):=by rw[←q,Nat.mul_add,Nat.mul_add]
   have e3:4294967296 ^ f*(x[f]*(val (y.take l)+4294967296 ^ l*y[l]))=4294967296 ^ f*(x[f]*val (y.take l))+4294967296 ^ (f+l)*(x[f]*y[l]):=by
    rw[Nat.mul_add,Nat.mul_add,Nat.pow_add]
    congr 1
    rw[Nat.mul_assoc];congr 1
    rw[←Nat.mul_assoc,←Nat.mul_assoc,Nat.mul_comm x[f]]
   omega
  obtain⟨S',V,X,Y,q4⟩:=nY (N:=N) (c:=c) (d:=d) (c':=c') (d':=d') F G t L m (l+1) b (S.set (f+l) (s%4294967296)) (s/4294967296) v (by omega) (by omega) (Bn hS (by omega) _) (by simpa using i) (fun j hj hk=>by
   rw[List.getElem_set,if_neg (by omega)];exact A j (by simpa using hj) hk) (by omega) key
  refine⟨S',V,X,Y,fun n K=>?_⟩
  rw[Iy];unfold Ql
  rw[Wj k,ct,wA (by omega),Aj (by omega),ct,H_ z,Aj t,ct,Wk t,Aj k,ct,Wk k,ct,d5 z,ct,Er (show x[f]<18446744073709551616 by omega),Er (show y[l]<18446744073709551616 by omega),Er (show S[f+l]<18446744073709551616 by omega),VN,Er D,Q7,Nat.add_comm S[f+l],Er (by omega),Q7,q,Er U,MD,EX,Xn,wS (by omega)]
  exact q4 n K
theorem kD {N:Nat} {x y:List Nat} {c d c' d':Bool} (q:Ae x) (s:Ae y) (e:fit (x.length+y.length) N):∀ (m f b:Nat) (S:List Nat),f+m=x.length→m<b→Ae S→S.length=x.length+y.length →
  val S=val (x.take f)*val y →
  ∀ K:Nat→LA→O R,Fz N K (Aa x) x.length c d (Aa y) y.length c' d' b (x.length+y.length) (f:Int) (Aa S)=K (Af (val x*val y)).length (Aa (Af (val x*val y)))
 | 0,f,b+1,S,v,_,hS,i,n=>by
  intro K
  have t:f=x.length:=by omega
  subst t
  rw[List.take_length] at n
  rw[Fz];unfold Qm
  rw[FG (Nat.le_refl _),cf,Nat.mul_one,List.take_of_length_le (by rw[A5];omega),B0 i.symm hS (by rw[i];exact e),n]
 | m+1,f,b+1,S,v,z,hS,i,n=>by
  intro K
  have G:=e.1;have I:=e.2
  have k:f<x.length:=by omega
  have u:=Bd (Bh q f)
  rw[List.length_take,Nat.min_eq_left (by omega)] at u
  have A:=Bd s
  have j:val S<4294967296 ^ (f+y.length):=by
   rw[n,Nat.pow_add];exact Nat.mul_lt_mul'' u A
  have l:val (x.take (f+1))*val y=val S+4294967296 ^ f*(x[f]*val y):=by
   rw[An k,Nat.add_mul,n,Nat.mul_assoc]
  obtain⟨S1,B,C,D,F⟩:=nY (R:=R) (N:=N) (x:=x) (y:=y) (c:=c) (d:=d) (c':=c') (d':=d') (f:=f) q s k (by omega) y.length 0 N S 0 (val S) (by omega) (by omega) hS i (qq j) (by omega) (by simp[val])
  rw[Fz];unfold Qm
  rw[Wj k,ct]
  have:=F (Fz N K (Aa x) x.length c d (Aa y) y.length c' d' b) K
  simp only[Int.natCast_zero] at this
  dsimp only
  rw[this]
  exact kD q s e m (f+1) b S1 (by omega) (by omega) B C (by rw[D,l]) K
theorem pQ {N:Nat} {a b:List Nat} {n m:Nat} {t o t' o':Bool} {K:Nat→LA→O R} (d:n=a.length) (e:m=b.length) (f:Ae a) (i:Ae b) (c:fit (a.length+b.length) N) :
  AG N (Aa a) n t o (Aa b) m t' o' K=K (Af (val a*val b)).length (Aa (Af (val a*val b))):=by
 subst d e
 have j:=c.1;have k:=c.2
 rw[RC];unfold KD
 rw[wA (by omega),pu (by omega),ct,Int.toNat_natCast,Bt]
 exact kD f i c a.length 0 N (List.replicate (a.length+b.length) 0) (by omega) (by omega) (Bk _) (by simp) (by rw[Cg];simp[val]) K
end
end Gx

namespace Gx
open Go Go.Proofs
section
variable {R:Type}
theorem aA {N:Nat}:∀ (k c n v:Nat),v<2 ^ k→k<c→n+k≤1000000000000→∃ b:Nat,b≤k∧v<2 ^ b∧(v≠0→2 ^ b≤2*v)∧(v=0→b=0)∧∀ K:Int→O R,Fh N K c (n:Int) (v:Int)=K ((n+b:Nat):Int)
 | 0,c+1,n,v,e,_,_=>by
  have d:v=0:=by simpa using e
  subst d
  refine⟨0,by omega,by simp,fun h=>absurd rfl h,fun _=>rfl,fun K=>?_⟩
  rw[Fh];unfold J7
  rw[show decide (((0:Nat):Int)>0)=false by rfl,cf];rfl
 | k+1,c+1,n,v,e,m,q=>by
  by_cases d:v=0
  ·subst d
   refine⟨0,by omega,by simp,fun h=>absurd rfl h,fun _=>rfl,fun K=>?_⟩
   rw[Fh];unfold J7
   rw[show decide (((0:Nat):Int)>0)=false by rfl,cf];rfl
  ·obtain⟨b,s,t,i,j,l⟩:=aA (N:=N) k c (n+1) (v/2) (by rw[Nat.pow_succ] at e;omega) (by omega) (by omega)
   refine⟨b+1,by omega,by rw[Nat.pow_succ];omega,fun _=>?_,fun h=>absurd h d,fun K=>?_⟩
   ·by_cases f:v/2=0
    ·rw[j f];simp;omega
    ·have:=i f;rw[Nat.pow_succ];omega
   ·rw[Fh];unfold J7
    rw[show decide (((v:Nat):Int)>0)=true by rw[decide_eq_true_eq];omega,ct,wS (by omega),Jq v 1,show v/2 ^ 1=v/2 by rfl,l]
    congr 2;omega
theorem m4 {N:Nat} {a:List Nat} {n:Nat} {t o:Bool} (j:n=a.length) (f:Ae a) (e:fit a.length N):∃ nb:Nat,nb≤32*a.length∧val a<2 ^ nb∧(val a≠0→2 ^ nb≤2*val a)∧(val a=0→nb=0)∧∀ K:Int→O R,S6 N (Aa a) n t o K=K (nb:Int):=by
 have y:=e.1;have z:=e.2
 have la:=(A1 f).2
 by_cases d:val a=0
 ·refine⟨0,by omega,by rw[d];simp,fun h=>absurd d h,fun _=>rfl,fun K=>?_⟩
  rw[Ui];unfold S5
  rw[B0 j f e,d,B6];rfl
 ·have m:(Af (val a)).length≠0:=fun h=>d (A3.1 h)
  obtain⟨k,i⟩:∃ k,(Af (val a)).length=k+1:=⟨(Af (val a)).length - 1,by omega⟩
  have top:=Aq (Ab (val a)) (show k<(Af (val a)).length by omega)
  have c:(Af (val a))[k]'(by omega)≠0:=by
   have:=VM (val a) (EW d)
   rw[List.getLast_eq_getElem] at this
   simp only[i,Nat.add_sub_cancel] at this
   exact this
  have tf:=Ss i
  have tl:=Uc (Ab (val a)) i
  rw[Ac] at tf tl
  obtain⟨b,A,q,s,B,u⟩:=aA (R:=R) (N:=N) 32 N (32*k) ((Af (val a))[k]'(by omega)) (by exact top) (by omega) (by omega)
  have l:(2:Nat) ^ (32*k+b)=4294967296 ^ k*2 ^ b:=by rw[Nat.pow_add,Nat.pow_mul]
  refine⟨32*k+b,by omega,?_,fun _=>?_,fun h=>absurd h d,fun K=>?_⟩
  ·rw[l]
   have:((Af (val a))[k]'(by omega)+1)*4294967296 ^ k≤2 ^ b*4294967296 ^ k:=Nat.mul_le_mul_right _ q
   rw[Nat.mul_comm (2 ^ b)] at this;omega
  ·rw[l]
   have:=Nat.mul_le_mul_left (4294967296 ^ k) (s c)
   rw[Nat.mul_left_comm] at this
   omega
  ·rw[Ui];unfold S5
   have v:IntKind.wrap .i64 ((((Af (val a)).length:Nat):Int) - 1)=((k:Nat):Int):=by rw[i64 (by omega)];omega
   have x:IntKind.wrap .i64 ((32:Int)*((k:Nat):Int))=((32*k:Nat):Int):=by rw[i64 (by omega)];omega
   rw[B0 j f e,bX m,cf,v,Aj (by omega),ct,H_ (by omega),x]
   exact u K
theorem kE {a:List Nat} {j:Nat} (h:j<a.length):val a=val (a.take j)+4294967296 ^ j*(a[j]+4294967296*val (a.drop (j+1))):=by
 have:=Iq (a.take j) (a.drop j)
 rw[List.take_append_drop,List.length_take,Nat.min_eq_left (by omega),Xx h] at this
 exact this
theorem NO (j k:Nat):(2:Nat) ^ (32*j+k)=4294967296 ^ j*2 ^ k:=by rw[Nat.pow_add,Nat.pow_mul]
theorem rm {a:List Nat} {j k:Nat} (b:Ae a) (h:j<a.length) (f:k<32):val a/2 ^ (32*j+k)%2=a[j]/2 ^ k%2:=by
 have tl:=Bd (Bh b j)
 rw[List.length_take,Nat.min_eq_left (by omega)] at tl
 have hP:0<4294967296 ^ j:=Nat.pow_pos (by omega)
 have c:0<2 ^ k:=Nat.pow_pos (by omega)
 rw[NO,←Nat.div_div_eq_div_mul,kE h,Nat.add_mul_div_left _ _ hP,Nat.div_eq_of_lt tl,Nat.zero_add]
 have e:4294967296=2 ^ k*(2*2 ^ (31 - k)):=by rw[←Nat.pow_succ',←Nat.pow_add,show k+(31 - k+1)=32 by omega]
 have d:4294967296*val (a.drop (j+1))=2 ^ k*(2*(2 ^ (31 - k)*val (a.drop (j+1)))):=by
  rw[←Nat.mul_assoc 2,←Nat.mul_assoc,←e]
 rw[d,Nat.add_mul_div_left _ _ c,Nat.add_mul_mod_self_left]
theorem pR {N:Nat} {a:List Nat} {n:Nat} {t o:Bool} {i:Nat} {K:Int→O R} (j:n=a.length) (f:Ae a) (q:i<32*a.length) (s:a.length≤1000000000):JM N (Aa a) n t o (i:Int) K=K ((val a/2 ^ i%2:Nat):Int):=by
 subst j
 have c:i/32<a.length:=by omega
 have aj:=Aq f c
 rw[QK];unfold XR
 have l:IntKind.wrap .i64 (Int.tdiv ((i:Nat):Int) 32)=((i/32:Nat):Int):=by rw[show(32:Int)=((32:Nat):Int) by rfl,CF,i64 (by omega)]
 have m:IntKind.wrap .u64 (Int.tmod ((i:Nat):Int) 32)=((i%32:Nat):Int):=by rw[show(32:Int)=((32:Nat):Int) by rfl,Xw,Er (by omega)]
 rw[l,m,show decide (((i/32:Nat):Int)≥((a.length:Nat):Int))=false by rw[decide_eq_false_iff_not];omega,cf,Aj c,ct,Wk c,show decide (((i%32:Nat):Int)<0)=false by rw[decide_eq_false_iff_not];omega,cf,Int.toNat_natCast,Nat.min_eq_left (by omega),Jq]
 have d:a[i/32]/2 ^ (i%32)<4294967296:=Nat.lt_of_le_of_lt (Nat.div_le_self _ _) aj
 have e:=l6 (k:=.u32) rfl (a:=a[i/32]/2 ^ (i%32)) (b:=1) d (by decide)
 rw[show(1:Int)=((1:Nat):Int) by rfl,e,Nat.and_one_is_mod]
 have:=rm f c (k:=i%32) (by omega)
 rw[Nat.div_add_mod] at this
 rw[this]
theorem rD {Q:List Nat} {j k:Nat} (hQ:Ae Q) (h:j<Q.length) (d:k<32) (b:2 ^ (32*j+k+1)∣val Q):2 ^ (k+1)∣Q[j]:=by
 have tl:=Bd (Bh hQ j)
 rw[List.length_take,Nat.min_eq_left (by omega)] at tl
 have hP:0<4294967296 ^ j:=Nat.pow_pos (by omega)
 rw[Nat.add_assoc,NO,kE h] at b
 have c:val (Q.take j)=0:=by
  have x1:4294967296 ^ j∣val (Q.take j):=(Nat.dvd_add_left (Nat.dvd_mul_right _ _)).1 (Nat.dvd_trans (Nat.dvd_mul_right _ _) b)
  exact Nat.eq_zero_of_dvd_of_lt x1 tl
 rw[c,Nat.zero_add] at b
 have x2:=Nat.dvd_of_mul_dvd_mul_left hP b
 have x3:2 ^ (k+1)∣4294967296*val (Q.drop (j+1)):=Nat.dvd_trans ⟨2 ^ (31 - k),by rw[←Nat.pow_add,show k+1+(31 - k)=32 by omega]⟩ (Nat.dvd_mul_right _ _)
 exact(Nat.dvd_add_left x3).1 x2
theorem NP {N:Nat} {a b:List Nat} {t o:Bool} {B:Nat} (S:Ae a) (q:b=Af B) (hB:0<B) (l:fit (a.length+2*b.length+4) N):∀ (i d:Nat) (Q:List Nat) (r:Nat),i<d→i≤32*a.length→Ae Q→Q.length=a.length→r=val a/2 ^ i%B→val Q=val a/2 ^ i/B*2 ^ i →
  ∀ K:Nat→Nat→Bool→LA→LA→O R,Cv N K (Aa a) a.length t o b.length (Aa b) d (Af r).length ((i:Int) - 1) (Aa Q) (Aa (Af r))=K (Af (val a/B)).length (Af (val a%B)).length true (Aa (Af (val a/B))) (Aa (Af (val a%B)))
 | 0,d+1,Q,r,_,_,hQ,C,s,u=>by
  intro K
  rw[Nat.pow_zero,Nat.div_one] at s u
  rw[Nat.mul_one] at u
  have lr:(Af r).length≤b.length:=by
   rw[q];apply A6;rw[s];exact Nat.le_of_lt (Nat.mod_lt _ hB)
  rw[Cv];unfold J8
  rw[show decide ((((0:Nat):Int) - 1)≥0)=false by rfl,cf,Nat.mul_one,List.take_of_length_le (by rw[A5];omega),B0 C.symm hQ (by rw[C];exact l.le (by omega)),Nat.mul_one,List.take_of_length_le (by rw[A5];omega),B0 rfl (Ab _) (l.le (by omega)),Ac,u,s]
 | i+1,d+1,Q,r,hfu,hi,hQ,C,s,u=>by
  intro K
  have h1:=l.1;have h2:=l.2
  have hrB:r<B:=by rw[s];exact Nat.mod_lt _ hB
  have lr:(Af r).length≤b.length:=by rw[q];exact A6 (Nat.le_of_lt hrB)
  have j:val a/2 ^ i=2*(val a/2 ^ (i+1))+val a/2 ^ i%2:=by
   have:=Nat.div_add_mod (val a/2 ^ i) 2
   rw[Nat.div_div_eq_div_mul,←Nat.pow_succ] at this
   exact this.symm
  have T:=Nat.div_add_mod (val a/2 ^ (i+1)) B
  have hb2:val a/2 ^ i%2<2:=Nat.mod_lt _ (by omega)
  generalize hH:val a/2 ^ (i+1)=H at *
  generalize D:val a/2 ^ i%2=bt at *
  have f:val a/2 ^ i=B*(2*(H/B))+(2*r+bt):=by
   rw[j,s,Nat.mul_left_comm];omega
  clear s T j
  have F:i/32<Q.length:=by omega
  have qj:=Aq hQ F
  have G:2 ^ (32*(i/32)+i%32+1)∣val Q:=by rw[Nat.div_add_mod,u];exact Nat.dvd_mul_left _ _
  have y:=rD hQ F (Nat.mod_lt _ (by omega)) G
  have U:2 ^ i=4294967296 ^ (i/32)*2 ^ (i%32):=by rw[←NO,Nat.div_add_mod]
  have I:2 ^ (i%32+1)≤4294967296:=(Nat.pow_le_pow_right (by omega) (show i%32+1≤32 by omega):2 ^ (i%32+1)≤2 ^ 32)
  have L:I6 .u32 ((Q[i/32]:Nat):Int) (IntKind.wrap .u32 ((1:Int)*2 ^ (min (Int.toNat ((i%32:Nat):Int)) 32)))=((Q[i/32]+2 ^ (i%32):Nat):Int)∧Q[i/32]+2 ^ (i%32)<4294967296:=by
   obtain⟨c,V⟩:=y
   have Y:0<2 ^ (i%32):=Nat.pow_pos (by omega)
   have X:Q[i/32]+2 ^ (i%32)<4294967296:=by
    obtain⟨w,hw⟩:∃ w,4294967296=2 ^ (i%32+1)*w:=⟨2 ^ (31 - i%32),by rw[←Nat.pow_add,show i%32+1+(31 - i%32)=32 by omega]⟩
    have x1:c<w:=by rw[V,hw] at qj;exact Nat.lt_of_mul_lt_mul_left qj
    have x2:=Nat.mul_le_mul_left (2 ^ (i%32+1)) (show c+1≤w from x1)
    rw[Nat.mul_add,←hw,←V,Nat.mul_one,Nat.pow_succ] at x2
    omega
   refine⟨?_,X⟩
   rw[Int.toNat_natCast,Nat.min_eq_left (by omega),Int.one_mul,show(2:Int) ^ (i%32)=((2 ^ (i%32):Nat):Int) by simp,nT (by rw[Nat.pow_succ] at I;omega),da (k:=.u32) rfl qj (by show 2 ^ (i%32)<4294967296;rw[Nat.pow_succ] at I;omega)]
   congr 1
   have e:Q[i/32]=c*2 ^ (i%32+1):=by rw[V,Nat.mul_comm]
   rw[e];exact ME (by rw[Nat.pow_succ];omega)
  have w1:IntKind.wrap .i64 (Int.tdiv ((i:Nat):Int) 32)=((i/32:Nat):Int):=by rw[show(32:Int)=((32:Nat):Int) by rfl,CF,i64 (by omega)]
  have w2:IntKind.wrap .u64 (Int.tmod ((i:Nat):Int) 32)=((i%32:Nat):Int):=by rw[show(32:Int)=((32:Nat):Int) by rfl,Xw,Er (by omega)]
  have l2:(Af (2*r+bt)).length≤b.length+1:=by
   apply C8
   have x1:=Bd (Ab B)
   rw[Ac,←q] at x1
   rw[Nat.pow_succ];omega
  have second:Gl N (Cv N K (Aa a) a.length t o b.length (Aa b) d) K (Aa a) a.length t o b.length ((i:Nat):Int) (Aa b) (Aa Q) (Af (2*r+bt)).length (Aa (Af (2*r+bt)))=K (Af (val a/B)).length (Af (val a%B)).length true (Aa (Af (val a/B))) (Aa (Af (val a%B))):=by
   unfold Gl
   have lb:Ae b:=by rw[q];exact Ab _
   have vb:val b=B:=by rw[q,Ac]
   rw[Nat.mul_one,Nat.mul_one,List.take_of_length_le (by rw[A5];omega),List.take_of_length_le (by rw[A5];omega),pP rfl rfl (Ab _) lb (l.le (by omega)),Ac,vb]
   by_cases M:B≤2*r+bt
   ·have z:val a/2 ^ i/B=2*(H/B)+1:=by
     rw[f,show B*(2*(H/B))+(2*r+bt)=B*(2*(H/B)+1)+(2*r+bt - B) by rw[Nat.mul_add];omega,Nat.mul_add_div hB,Nat.div_eq_of_lt (show 2*r+bt - B<B by omega),Nat.add_zero]
    have A:val a/2 ^ i%B=2*r+bt - B:=by
     rw[f,show B*(2*(H/B))+(2*r+bt)=B*(2*(H/B)+1)+(2*r+bt - B) by rw[Nat.mul_add];omega,Nat.mul_add_mod,Nat.mod_eq_of_lt (by omega)]
    rw[if_pos M,ct,w1,w2,Aj (by omega),ct,H_ F,show decide (((i%32:Nat):Int)<0)=false by rw[decide_eq_false_iff_not];omega,cf,ct,d5 F,ct,L.1,Xn,i64 (by omega)]
    refine NP S q hB l i d (Q.set (i/32) (Q[i/32]+2 ^ (i%32))) (2*r+bt - B) (by omega) (by omega) (Bn hQ L.2 _) (by simpa using C) A.symm ?_ K
    have x1:=H' (v:=Q[i/32]+2 ^ (i%32)) F
    rw[Nat.mul_add,←U] at x1
    rw[z,Nat.add_mul,Nat.one_mul,Nat.mul_comm 2,Nat.mul_assoc,Nat.mul_comm 2,←Nat.pow_succ,←u]
    omega
   ·have z:val a/2 ^ i/B=2*(H/B):=by rw[f,Nat.mul_add_div hB,Nat.div_eq_of_lt (show 2*r+bt<B by omega),Nat.add_zero]
    have A:val a/2 ^ i%B=2*r+bt:=by rw[f,Nat.mul_add_mod,Nat.mod_eq_of_lt (by omega)]
    rw[if_neg M,cf,i64 (by omega)]
    refine NP S q hB l i d Q (2*r+bt) (by omega) (by omega) hQ C A.symm ?_ K
    rw[z,Nat.mul_comm 2,Nat.mul_assoc,Nat.mul_comm 2,←Nat.pow_succ,←u]
  rw[Cv];unfold J8
  rw[show(((i+1:Nat):Int) - 1)=((i:Nat):Int) by omega,show decide (((i:Nat):Int)≥0)=true by rw[decide_eq_true_eq];omega,ct,Nat.mul_one,List.take_of_length_le (by rw[A5];omega),ek rfl rfl (Ab _) (Ab _) (l.le (by omega)),Ac,pR rfl S (by omega) (by omega),D]
  have l3:(Af (r+r)).length≤b.length+1:=by
   apply C8
   have x1:=Bd (Ab B)
   rw[Ac,←q] at x1
   rw[Nat.pow_succ];omega
  rcases(show bt=0∨bt=1 by omega) with rfl | rfl
  ·rw[show(((0:Nat):Int)==1)=false by rfl,cf]
   rw[show 2*r+0=r+r by omega] at second
   exact second
  ·rw[show(((1:Nat):Int)==1)=true by rfl,ct,Nat.mul_one,List.take_of_length_le (by rw[A5];omega)]
   have:=ek (R:=R) (N:=N) (a:=Af (r+r)) (b:=[1]) (n:=(Af (r+r)).length) (m:=1) (t:=false) (o:=true) (t':=false) (o':=true) (K:=fun af ag=>Gl N (Cv N K (Aa a) a.length t o b.length (Aa b) d) K (Aa a) a.length t o b.length ((i:Nat):Int) (Aa b) (Aa Q) af ag) rfl rfl (Ab _) (by intro x hx;simp at hx;omega) (l.le (by simp;omega))
   rw[Ac,show val [1]=1 by rfl,show r+r+1=2*r+1 by omega] at this
   exact this.trans second
end
end Gx

namespace Gx
open Go Go.Proofs
section
variable {R:Type}
theorem Ur {N:Nat} {a b:List Nat} {n m:Nat} {t o t' o':Bool} {K:Nat→Nat→Bool→LA→LA→O R} (j:n=a.length) (v:m=b.length) (k:Ae a) (s:Ae b) (f:val b≠0) (e:fit (a.length+2*b.length+4) N) :
  Ix N (Aa a) n t o (Aa b) m t' o' K=K (Af (val a/val b)).length (Af (val a%val b)).length true (Aa (Af (val a/val b))) (Aa (Af (val a%val b))):=by
 have x:=e.1;have y:=e.2
 have lb:=(A1 s).2
 have l:(Af (val b)).length≠0:=fun h=>f (A3.1 h)
 rw[Yc];unfold Qf
 dsimp only
 have long:If N K (Aa a) n t o (Af (val b)).length (Aa (Af (val b)))=K (Af (val a/val b)).length (Af (val a%val b)).length true (Aa (Af (val a/val b))) (Aa (Af (val a%val b))):=by
  obtain⟨nb,n1,n2,n3,n4,n5⟩:=m4 (R:=R) (N:=N) (a:=a) (n:=n) (t:=false) (o:=o) j k (e.le (by omega))
  unfold If O3
  dsimp only
  rw[n5,j,pu (by omega),ct,Bt,i64 (by omega)]
  have u:val a/2 ^ nb=0:=Nat.div_eq_of_lt n2
  have:=NP (R:=R) (N:=N) (a:=a) (b:=Af (val b)) (t:=t) (o:=o) (B:=val b) k rfl (by omega) (e.le (by omega)) nb N (List.replicate a.length 0) 0 (by omega) n1 (Bk _) (by simp) (by rw[u];simp) (by rw[u,Cg];simp) K
  exact this
 rw[B0 v s (e.le (by omega)),bX l,cf,Uj j k (e.le (by omega)),Nat.mul_one,List.take_of_length_le (by rw[A5];exact Nat.le_refl _)]
 by_cases d:val a<18446744073709551616
 ·rw[if_pos d,Uj rfl (Ab _) (e.le (by omega)),Ac]
  by_cases c:val b<18446744073709551616
  ·have i:val a/val b<18446744073709551616:=Nat.lt_of_le_of_lt (Nat.div_le_self _ _) d
   have q:val a%val b<18446744073709551616:=Nat.lt_of_le_of_lt (Nat.mod_le _ _) d
   rw[if_pos c,show((true:Bool)==true)=true by rfl,ct,o_,ct,bX f,cf,CF,Er i,Qg i (by omega),cf,Xw,Qg q (by omega)]
  ·rw[if_neg c,show((true:Bool)==true)=true by rfl,ct,o_,cf,long]
 ·rw[if_neg d,Uj rfl (Ab _) (e.le (by omega)),Ac]
  by_cases c:val b<18446744073709551616
  ·rw[if_pos c,show((false:Bool)==true)=false by rfl,cf,long]
  ·rw[if_neg c,show((false:Bool)==true)=false by rfl,cf,long]
theorem pS {N:Nat}:∀ (k b A B:Nat),k<b→A*B<2 ^ k→B<A→fit (3*(Af A).length+4) N→∀ K:Nat→LA→O R,Cj N K b (Af A).length (Af B).length (Aa (Af A)) (Aa (Af B))=K (Af (Nat.gcd A B)).length (Aa (Af (Nat.gcd A B))):=by
 have base:∀ (b A:Nat) (K:Nat→LA→O R),Cj N K (b+1) (Af A).length (Af 0).length (Aa (Af A)) (Aa (Af 0))=K (Af (Nat.gcd A 0)).length (Aa (Af (Nat.gcd A 0))):=by
  intro b A K
  rw[Cj];unfold Jd
  rw[B6,show decide ((((([]:List Nat).length:Nat)):Int)>0)=false by decide,cf,Nat.gcd_zero_right]
 intro k
 induction k with
 | zero =>
  intro b A B f c d e K
  obtain⟨b,rfl⟩:∃ F,b=F+1:=⟨b - 1,by omega⟩
  have i:B=0:=by
   rcases Nat.eq_zero_or_pos B with h | h
   ·exact h
   ·have t:=Nat.mul_le_mul_left A (show 1≤B by omega)
    rw[Nat.pow_zero] at c;omega
  subst i
  exact base b A K
 | succ k j =>
  intro b A B f c d e K
  have u:=e.1;have v:=e.2
  obtain⟨b,rfl⟩:∃ F,b=F+1:=⟨b - 1,by omega⟩
  rcases Nat.eq_zero_or_pos B with h | h
  ·subst h;exact base b A K
  have l:=A6 (Nat.le_of_lt d)
  have m:(Af B).length≠0:=fun n=>by have:=A3.1 n;omega
  have q:=Nat.mod_lt A h
  have x:=Xz (show 1≤B by omega) (Nat.le_of_lt d)
  have:=j b B (A%B) (by omega) (by rw[Nat.pow_succ] at c;omega) q (e.le (by omega)) K
  have s:Nat.gcd B (A%B)=Nat.gcd A B:=by rw[Nat.gcd_comm,←Nat.gcd_rec,Nat.gcd_comm]
  rw[s] at this
  rw[Cj];unfold Jd
  rw[show decide ((((Af B).length:Nat):Int)>0)=true by rw[decide_eq_true_eq];omega,ct,Nat.mul_one,Nat.mul_one,List.take_of_length_le (by rw[A5];exact Nat.le_refl _),List.take_of_length_le (by rw[A5];exact Nat.le_refl _),Ur rfl rfl (Ab _) (Ab _) (by rw[Ac];omega) (e.le (by omega)),Ac,Ac]
  exact this
theorem pT {N:Nat} {a b:List Nat} {n m:Nat} {t o t' o':Bool} {K:Nat→LA→O R} (l:n=a.length) (q:m=b.length) (f:Ae a) (i:Ae b) (d:fit (3*(a.length+b.length)+4) N) :
  AA N (Aa a) n t o (Aa b) m t' o' K=K (Af (Nat.gcd (val a) (val b))).length (Aa (Af (Nat.gcd (val a) (val b)))):=by
 have x:=d.1;have y:=d.2
 have la:=(A1 f).2
 have lb:=(A1 i).2
 have j:val a*val b<2 ^ (32*(a.length+b.length)):=by rw[←j_];exact Nat.mul_lt_mul'' (Bd f) (Bd i)
 rw[QO];unfold JP
 dsimp only
 rw[B0 l f (d.le (by omega)),B0 q i (d.le (by omega))]
 obtain⟨F,hF⟩:∃ F,N=F+1:=⟨N - 1,by omega⟩
 rcases Nat.eq_zero_or_pos (val b) with h | h
 ·rw[h,B6,Nat.gcd_zero_right,hF,Cj];unfold Jd
  rw[show decide ((((([]:List Nat).length:Nat)):Int)>0)=false by decide,cf]
 ·have k:=Nat.mod_lt (val a) h
  have s:(Af (val b)).length≠0:=fun u=>by have:=A3.1 u;omega
  have c:val b*(val a%val b)<2 ^ (32*(a.length+b.length)):=by
   have:val b*(val a%val b)≤val b*val a:=Nat.mul_le_mul_left _ (Nat.mod_le _ _)
   rw[Nat.mul_comm (val b) (val a)] at this;omega
  have:=pS (R:=R) (N:=N) (32*(a.length+b.length)) F (val b) (val a%val b) (by omega) c k (d.le (by omega)) K
  have v:Nat.gcd (val b) (val a%val b)=Nat.gcd (val a) (val b):=by rw[Nat.gcd_comm,←Nat.gcd_rec,Nat.gcd_comm]
  rw[v] at this
  have e:Cj N K (F+1) (Af (val a)).length (Af (val b)).length (Aa (Af (val a))) (Aa (Af (val b)))=Cj N K F (Af (val b)).length (Af (val a%val b)).length (Aa (Af (val b))) (Aa (Af (val a%val b))):=by
   rw[Cj];unfold Jd
   rw[show decide ((((Af (val b)).length:Nat):Int)>0)=true by rw[decide_eq_true_eq];omega,ct,Nat.mul_one,Nat.mul_one,List.take_of_length_le (by rw[A5];exact Nat.le_refl _),List.take_of_length_le (by rw[A5];exact Nat.le_refl _),Ur rfl rfl (Ab _) (Ab _) (by rw[Ac];omega) (d.le (by omega)),Ac,Ac]
  conv=>lhs;rw[show(Cj N K N)=Cj N K (F+1) by rw[←hF]]
  rw[e];exact this
end
end Gx

namespace Gx
open Go Go.Proofs
section
variable {R:Type}
inductive LS where
 | nil
 | of (l:List Nat) (t o:Bool)
def LS.l:LS→List Nat
 | .nil=>[]
 | .of l _ _=>l
def LS.av:LS→AV
 | .nil=>.nsl
 | .of l t o=>.imm (Aa l) l.length 1 t o
theorem m5 {s:LS} {r:LA} {f:LA→Nat→O R}:Lq 1 (s.av::r) f=f (Aa s.l) s.l.length:=by
 cases s<;>simp[Lq,LS.av,LS.l,r8,Aa]
theorem sT {b:Bool} {r:LA} {f:Bool→O R}:Pc (.bool b::r) f=f b:=by simp[Pc,asBool]
def En (neg:Bool) (s:LS):LA:=[.bool neg,s.av]
def Av (neg:Bool) (s:LS):Int:=if neg then -(val s.l:Int) else (val s.l:Int)
theorem C2 (neg:Bool) (s:LS):(Av neg s).natAbs=val s.l:=by unfold Av;cases neg<;>simp
theorem Ki {neg:Bool} {s:LS} {f:Bool→O R}:Pc (En neg s) f=f neg:=sT
theorem Le {neg:Bool} {s:LS} {f:LA→Nat→O R}:Lq 1 (List.drop 1 (En neg s)) f=f (Aa s.l) s.l.length:=by rw[En,List.drop_succ_cons,List.drop_zero,m5]
theorem Fi {N:Nat} {c:Bool} {a:Nat} {b:LA} {K:Bool→O R}:Ei N c a b K=K (c&&decide (0<a)):=by
 rw[BA];unfold E_
 cases c<;>simp
theorem Lf {z:Int} {c:Bool} {m:Nat} (h:z=if c then -(m:Int) else (m:Int)):(c&&decide (0<(Af m).length))=decide (z<0)∧z.natAbs=m:=by
 have e:z.natAbs=m:=by rw[h];cases c<;>simp
 refine⟨?_,e⟩
 by_cases d:m=0
 ·subst d;rw[h,B6];cases c<;>simp
 ·have:0<(Af m).length:=by
   rcases Nat.eq_zero_or_pos (Af m).length with b | b
   ·exact absurd (A3.1 b) d
   ·exact b
  rw[h];cases c<;>simp[this]<;>omega
theorem Gm {N:Nat} {v:Int} (i:-9223372036854775808≤v∧v≤9223372036854775807) (hN:4≤N):∃ S,Ae S∧val S=v.natAbs∧∀ K:Bool→Nat→LA→O R,B9 N v K=K (decide (v<0)) (Af v.natAbs).length (Aa S):=by
 have d:v.natAbs<18446744073709551616:=by omega
 obtain⟨S,s1,s2,c⟩:=Fu (R:=R) (N:=N) d hN
 refine⟨S,s1,s2,fun K=>?_⟩
 rw[Xb];unfold Xa
 by_cases h:v<0
 ·have e:IntKind.wrap .u64 ((0:Int) - IntKind.wrap .u64 v)=(v.natAbs:Int):=by rw[EY,EY];omega
  rw[decide_eq_true h,ct,e,c,Fi]
  have f:v.natAbs≠0:=by omega
  have:0<(Af v.natAbs).length:=by
   rcases Nat.eq_zero_or_pos (Af v.natAbs).length with b | b
   ·exact absurd (A3.1 b) f
   ·exact b
  simp[this]
 ·have e:IntKind.wrap .u64 v=(v.natAbs:Int):=by rw[EY];omega
  rw[decide_eq_false h,cf,e,c,Fi];rfl
theorem F_ {N:Nat} {neg:Bool} {s:LS} {o:Bool} {K:Int→O R} (b:Ae s.l) (c:fit s.l.length N):T7 N (En neg s) o K=K (Av neg s).sign:=by
 rw[PA];unfold WD
 rw[Le,WX rfl b c]
 unfold Av
 by_cases h:val s.l=0
 ·rw[h,Sb,show((0:Int)==0)=true by rfl,ct];cases neg<;>rfl
 ·have:Fc (val s.l) 0=1:=by unfold Fc;rw[if_neg (by omega),if_pos (by omega)]
  rw[this,show((1:Int)==0)=false by rfl,cf,Ki]
  cases neg
  ·rw[cf];simp only[Bool.false_eq_true,if_false]
   congr 1
   rw[Int.sign_eq_one_of_pos];omega
  ·rw[ct];simp only[if_true]
   congr 1
   rw[Int.sign_eq_neg_one_of_neg];omega
theorem eo {N:Nat} {n1 n2:Bool} {s1 s2:LS} {o1 o2:Bool} (d:Ae s1.l) (e:Ae s2.l) (f:fit (s1.l.length+s2.l.length) N):∃ S,Ae S∧val S=(Av n1 s1*Av n2 s2).natAbs∧∀ K:Bool→Nat→LA→O R,Q8 N (En n1 s1) o1 (En n2 s2) o2 K=K (decide (Av n1 s1*Av n2 s2<0)) (Af (Av n1 s1*Av n2 s2).natAbs).length (Aa S):=by
 obtain⟨S,a1,a2,a3⟩:=IA (R:=R) (N:=N) (a:=s1.l) (b:=s2.l) (t:=false) (o:=o1) (t':=false) (o':=o2) rfl rfl d e f
 have i:Av n1 s1*Av n2 s2=if (!(n1==n2)) then -((val s1.l*val s2.l:Nat):Int) else ((val s1.l*val s2.l:Nat):Int):=by
  unfold Av;cases n1<;>cases n2<;>simp[Int.mul_neg,Int.neg_mul]
 obtain⟨c1,c⟩:=Lf i
 refine⟨S,a1,by rw[a2,c],fun K=>?_⟩
 rw[VS];unfold gK
 rw[Ki,Ki,Le,Le,a3,Fi,c1,c]
theorem pU {N:Nat} {n1 n2:Bool} {s1 s2:LS} {o1 o2:Bool} (f:Ae s1.l) (i:Ae s2.l) (j:fit (s1.l.length+s2.l.length+1) N):∃ S,Ae S∧val S=(Av n1 s1+Av n2 s2).natAbs∧∀ K:Bool→Nat→LA→O R,WB N (En n1 s1) o1 (En n2 s2) o2 K=K (decide (Av n1 s1+Av n2 s2<0)) (Af (Av n1 s1+Av n2 s2).natAbs).length (Aa S):=by
 by_cases k:n1=n2
 ·subst k
  obtain⟨S,a1,a2,a3⟩:=qo (R:=R) (N:=N) (a:=s1.l) (b:=s2.l) (t:=false) (o:=o1) (t':=false) (o':=o2) rfl rfl f i j
  have d:Av n1 s1+Av n1 s2=if n1 then -((val s1.l+val s2.l:Nat):Int) else ((val s1.l+val s2.l:Nat):Int):=by
   unfold Av;cases n1<;>simp;omega
  obtain⟨c1,c⟩:=Lf d
  refine⟨S,a1,by rw[a2,c],fun K=>?_⟩
  rw[T5];unfold HP
  rw[Ki,Ki,show(n1==n1)=true by simp,ct,Ki,Le,Le,a3,Fi,c1,c]
 ·have e:(n1==n2)=false:=by simp[k]
  by_cases m:val s2.l≤val s1.l
  ·obtain⟨S,a1,a2,a3⟩:=W_ (R:=R) (N:=N) (a:=s1.l) (b:=s2.l) (t:=false) (o:=o1) (t':=false) (o':=o2) rfl rfl f i (j.le (by omega)) m
   have d:Av n1 s1+Av n2 s2=if n1 then -((val s1.l - val s2.l:Nat):Int) else ((val s1.l - val s2.l:Nat):Int):=by
    unfold Av;cases n1<;>cases n2<;>simp at k ⊢<;>omega
   obtain⟨c1,c⟩:=Lf d
   refine⟨S,a1,by rw[a2,c],fun K=>?_⟩
   rw[T5];unfold HP
   rw[Ki,Ki,e,cf,Le,Le,a3,ct,Ki,Fi,c1,c]
  ·obtain⟨S,a1,a2,a3⟩:=W_ (R:=R) (N:=N) (a:=s2.l) (b:=s1.l) (t:=false) (o:=o2) (t':=false) (o':=o1) rfl rfl i f (j.le (by omega)) (by omega)
   have d:Av n1 s1+Av n2 s2=if n2 then -((val s2.l - val s1.l:Nat):Int) else ((val s2.l - val s1.l:Nat):Int):=by
    unfold Av;cases n1<;>cases n2<;>simp at k ⊢<;>omega
   obtain⟨c1,c⟩:=Lf d
   refine⟨S,a1,by rw[a2,c],fun K=>?_⟩
   rw[T5];unfold HP
   rw[Ki,Ki,e,cf,Le,Le,qp rfl rfl f i (j.le (by omega)) (by omega),cf,Le,Le,a3,Ki,Fi,c1,c]
theorem m6 {N:Nat} {n1:Bool} {s1:LS} {o1:Bool} {K:Bool→Nat→LA→O R} (b:Ae s1.l) (d:fit s1.l.length N):HZ N (En n1 s1) o1 K=K (decide (Av n1 s1<0)) (Af (Av n1 s1).natAbs).length (Aa (Af (Av n1 s1).natAbs)):=by
 obtain⟨c1,e⟩:=Lf (z:=Av n1 s1) (c:=n1) (m:=val s1.l) (by unfold Av;cases n1<;>simp)
 rw[PM];unfold WS
 rw[Ki,Le,Sd rfl b d,Fi,c1,e]
end
end Gx

namespace Gx
open Go Go.Proofs
open IntKind (wrap)
set_option maxRecDepth 100000
noncomputable section
variable {R:Type} (N:Nat)
def Yk (b:Int) (r0:LA→O R):O R :=
 (B9 N b (fun d c e=>(r0 [(.bool d),(.imm (e.take (c*1)) c 1 false false),(.imm [(.int .u32 1)] 1 1 false false)])))
def Lg:=(Al (@Yk R)).1
theorem Yl:@Lg R=@Yk R:=(Al _).2
def gj:Gn:=[(64,Lr N)]
def DF (F:KF R):LA→O R:=(fun f=>F (.pagg f false) [])
theorem DG (b:Int) (F:KF R):Dj (gj N) H3 N 91 [(iv b)] [] F=(Lg N b (DF F)):=by
 rw[Yl]
 kernel_rfl
def Ym (a:LA) (h:Ai) (k:KF R):O R :=
 match a,h with
 | [(.int .i64 b)],[]=>(Lg N b (DF k))
 | _,_=>none
theorem DH:Ao N 91 @Ym:=by
 intro R Q a h k j;unfold Ym;split;exact Ay (DG ..) (DG ..) ⟨Ls N,trivial⟩;exact A0
def DI:=Az (DH N)
def DJ:=Dh (DH N)
def Us (b:LA) (c:Bool) (r0:LA→O R):O R :=
 (Bi .i64 b fun i=>(B9 N i (fun l f m=>(Bi .i64 (b.drop 1) fun n=>(B9 N n (fun o g p=>(ND N [(.bool l),(.imm (m.take (f*1)) f 1 false true)] true [(.bool o),(.imm (p.take (g*1)) g 1 false true)] true (fun d q=>(cond ((Nat.beq 0 0)&&((Nat.beq (d.length) 3)&&(Nat.beq 3 3))) (cond (!q) (Lg N 0 (fun e=>(cond ((Nat.beq 0 0)&&((Nat.beq (e.length) 3)&&(Nat.beq 3 3))) (cond (Nat.ble 3 (e.length)) (r0 (e.take 3)) none) none))) (cond (Nat.ble 3 (d.length)) (cond ((Nat.beq 0 0)&&((Nat.beq ((d.take 3).length) 3)&&(Nat.beq 3 3))) (cond (Nat.ble 3 ((d.take 3).length)) (r0 ((d.take 3).take 3)) none) none) none)) none)))))))))
def Je:=(Al (@Us R)).1
theorem V6:@Je R=@Us R:=(Al _).2
def cr:Gn:=[(64,Lr N),(82,eQ N),(91,DI N)]
def Yn (F:KF R):LA→O R:=(fun r=>F (.pagg r false) [])
theorem Yo (b:LA) (c:Bool) (F:KF R):Dj (cr N) H3 N 93 [(.pagg b c)] [] F=(Je N b c (Yn F)):=by
 rw[V6]
 kernel_rfl
def V7 (a:LA) (h:Ai) (k:KF R):O R :=
 match a,h with
 | [(.pagg b c)],[]=>(Je N b c (Yn k))
 | _,_=>none
theorem Yp:Ao N 93 @V7:=by
 intro R Q a h k j;unfold V7;split;exact Ay (Yo ..) (Yo ..) ⟨Ls N,eR N,DJ N,trivial⟩;exact A0
def aB:=Az (Yp N)
def aC:=Dh (Yp N)
def aD (b:LA) (c:Bool) (r0:Int→O R):O R :=
 (cond (Nat.ble 3 (b.length)) (L7 N (b.take 3) c (fun d e i l m=>(cond ((Nat.beq 0 0)&&((Nat.beq (d.length) 2)&&(Nat.beq 2 2))) (cond (Nat.ble 2 (d.length)) (T7 N (d.take 2) e (fun f=>(r0 f))) none) none))) none)
def KE:=(Al (@aD R)).1
theorem RL:@KE R=@aD R:=(Al _).2
def pV:Gn:=[(130,Xl N),(125,WH N)]
def aE (F:KF R):Int→O R:=(fun g=>F (iv g) [])
theorem aF (b:LA) (c:Bool) (F:KF R):Dj (pV N) H2 N 194 [(.pagg b c)] [] F=(KE N b c (aE F)):=by
 rw[RL]
 kernel_rfl
def RM (a:LA) (h:Ai) (k:KF R):O R :=
 match a,h with
 | [(.pagg b c)],[]=>(KE N b c (aE k))
 | _,_=>none
theorem aG:Ao N 194 @RM:=by
 intro R Q a h k j;unfold RM;split;exact Ay (aF ..) (aF ..) ⟨Xm N,WI N,trivial⟩;exact A0
def m7:=Az (aG N)
def m8:=Dh (aG N)
def gk (d:LA) (e:Bool) (b:LA) (c:Bool) (r0:LA→Bool→O R):O R :=
 (cond (Nat.ble 3 (b.length)) (KE N (b.take 3) c (fun g=>(cond (g==0) (r0 [(.bool false),.nsl,.nsl] false) (cond (Nat.ble 3 (d.length)) (Pc b fun i=>(Lq 1 (b.drop 2) fun l m=>(Lq 1 (b.drop 1) fun n o=>(Uk N (d.take 3) e [(.bool i),(.imm l m 1 false c),(.imm n o 1 false c)] (c||(c||false)) (fun f=>(cond ((Nat.beq 0 0)&&((Nat.beq (f.length) 3)&&(Nat.beq 3 3))) (cond (Nat.ble 3 (f.length)) (r0 (f.take 3) true) none) none)))))) none)))) none)
def aH:=(Al (@gk R)).1
theorem aI:@aH R=@gk R:=(Al _).2
def rE:Gn:=[(194,m7 N),(76,NL N)]
def ep (F:KF R):LA→Bool→O R:=(fun p q=>F (.tup [(.pagg p false),(.bool q)]) [])
theorem er (d:LA) (e:Bool) (b:LA) (c:Bool) (F:KF R):Dj (rE N) qf N 118 [(.pagg d e),(.pagg b c)] [] F=(aH N d e b c (ep F)):=by
 rw[aI]
 kernel_rfl
def aJ (a:LA) (h:Ai) (k:KF R):O R :=
 match a,h with
 | [(.pagg d e),(.pagg b c)],[]=>(aH N d e b c (ep k))
 | _,_=>none
theorem ew:Ao N 118 @aJ:=by
 intro R Q a h k j;unfold aJ;split;exact Ay (er ..) (er ..) ⟨m8 N,NM N,trivial⟩;exact A0
def pW:=Az (ew N)
def pX:=Dh (ew N)
end
end Gx

namespace Gx
open Go Go.Proofs
section
variable {R:Type}
theorem aK (z:Int) (d:Nat) (f:d≠0):(mkRat z d).num.natAbs=z.natAbs/Nat.gcd z.natAbs d∧((mkRat z d).num<0↔z<0)∧(mkRat z d).den=d/Nat.gcd z.natAbs d:=by
 have j:0<Nat.gcd z.natAbs d:=Nat.gcd_pos_of_pos_right _ (by omega)
 rw[Rat.num_mkRat,Rat.den_mkRat,if_neg f,if_neg f,Nat.gcd_comm d]
 have b:((Nat.gcd z.natAbs d:Nat):Int)∣z:=Int.dvd_natAbs.1 (Int.natCast_dvd_natCast.2 (Nat.gcd_dvd_left _ _))
 obtain⟨c,i⟩:=b
 have k:z.natAbs.gcd d=Nat.gcd z.natAbs d:=rfl
 generalize Nat.gcd z.natAbs d=g at *
 refine⟨?_,?_,rfl⟩
 ·rw[i,Int.mul_ediv_cancel_left _ (by omega),Int.natAbs_mul,Int.natAbs_natCast,Nat.mul_div_cancel_left _ j]
 ·rw[i,Int.mul_ediv_cancel_left _ (by omega)]
  constructor
  ·intro h;exact Int.mul_neg_of_pos_of_neg (by omega) h
  ·intro h;rcases Int.lt_or_le c 0 with e | e
   ·exact e
   ·have:=Int.mul_nonneg (show(0:Int)≤g by omega) e;omega
structure RatD where
 neg:Bool
 ns:LS
 ds:LS
def RatD.av (x:RatD):LA:=[.bool x.neg,x.ns.av,x.ds.av]
def RatD.ok (x:RatD):Prop:=Ae x.ns.l∧Ae x.ds.l
def RatD.m (x:RatD):Nat:=max x.ns.l.length x.ds.l.length
def RatD.q (x:RatD):Rat:=mkRat (Av x.neg x.ns) (val x.ds.l)
def RatD.can (x:RatD) (q:Rat):Prop:=x.neg=decide (q.num<0)∧x.ns.l=Af q.num.natAbs∧x.ds.l=Af q.den
def qm (q:Rat):Nat:=max (Af q.num.natAbs).length (Af q.den).length
theorem RatD.can.ok {x:RatD} {q:Rat} (h:x.can q):x.ok:=⟨by rw[h.2.1];exact Ab _,by rw[h.2.2];exact Ab _⟩
theorem RatD.can.m {x:RatD} {q:Rat} (h:x.can q):x.m=qm q:=by unfold RatD.m qm;rw[h.2.1,h.2.2]
theorem RatD.can.q {x:RatD} {q:Rat} (h:x.can q):x.q=q:=by
 unfold RatD.q Av
 rw[h.1,h.2.1,h.2.2,Ac,Ac]
 have:(if decide (q.num<0)=true then -(q.num.natAbs:Int) else (q.num.natAbs:Int))=q.num:=by
  by_cases b:q.num<0
  ·rw[if_pos (by simpa using b)];omega
  ·rw[if_neg (by simpa using b)];omega
 rw[this,Rat.mkRat_self]
theorem uE {x:RatD} {f:Bool→O R}:Pc x.av f=f x.neg:=sT
theorem rn {x:RatD} {f:LA→Nat→O R}:Lq 1 (List.drop 1 x.av) f=f (Aa x.ns.l) x.ns.l.length:=by rw[RatD.av,List.drop_succ_cons,List.drop_zero,m5]
theorem TG {x:RatD} {f:LA→Nat→O R}:Lq 1 (List.drop 2 x.av) f=f (Aa x.ds.l) x.ds.l.length:=by rw[RatD.av,List.drop_succ_cons,List.drop_succ_cons,List.drop_zero,m5]
theorem Ut (x:RatD):Nat.ble 3 (List.length x.av)=true:=rfl
theorem Kl (x:RatD):List.take 3 x.av=x.av:=rfl
theorem sU (x:RatD):List.take 2 x.av=En x.neg x.ns:=rfl
theorem nZ (n:Bool) (s:LS):((Nat.beq 0 0)&&((Nat.beq (List.length (En n s)) 2)&&(Nat.beq 2 2)))=true:=rfl
theorem TH (n:Bool) (s:LS):Nat.ble 2 (List.length (En n s))=true:=rfl
theorem iL (n:Bool) (s:LS):List.take 2 (En n s)=En n s:=rfl
theorem rF:([.int .u32 1]:LA)=Aa [1]:=rfl
theorem pY:Ae [1]:=by intro x b;simp at b;omega
theorem J9:Af 1=[1]:=by rw[Pk (by omega)];simp[B6]
theorem Bl {v:Nat} {S:List Nat} (b:Ae S) (c:val S=v):List.take ((Af v).length*1) (Aa S)=Aa (Af v):=by rw[←c,Gh b]
theorem n0 (neg:Bool) (l:List Nat) (t o:Bool):([.bool neg,.imm (Aa l) l.length 1 t o]:LA)=En neg (.of l t o):=rfl
theorem Uu {z:Int} {t o:Bool}:Av (decide (z<0)) (.of (Af z.natAbs) t o)=z:=by
 unfold Av LS.l;rw[Ac]
 by_cases h:z<0
 ·rw[if_pos (by simpa using h)];omega
 ·rw[if_neg (by simpa using h)];omega
theorem cu {N:Nat} {v:Int} (b:-9223372036854775808≤v∧v≤9223372036854775807) (hN:4≤N):∃ d:RatD,d.can (v:Rat)∧∀ K:LA→O R,Lg N v K=K d.av:=by
 obtain⟨S,s1,s2,c⟩:=Gm (R:=R) (N:=N) b hN
 refine⟨⟨decide (v<0),.of (Af v.natAbs) false false,.of (Af 1) false false⟩,⟨rfl,rfl,rfl⟩,fun K=>?_⟩
 rw[Yl];unfold Yk
 rw[c,Bl s1 s2,J9];rfl
theorem Uv {N:Nat} {x:RatD} {o:Bool} (c:x.ok) (f:fit x.m N):∃ (neg:Bool) (s:LS) (l:List Nat) (o1 o2:Bool),Ae s.l∧Ae l∧val l≠0∧s.l.length≤x.m∧l.length≤max x.m 1∧mkRat (Av neg s) (val l)=x.q∧∀ K:LA→Bool→LA→Nat→Bool→O R,L7 N x.av o K=K (En neg s) o1 (Aa l) l.length o2:=by
 have d:x.ns.l.length≤x.m:=Nat.le_max_left _ _
 have b:x.ds.l.length≤x.m:=Nat.le_max_right _ _
 by_cases e:val x.ds.l=0
 ·refine⟨false,.nil,[1],false,false,Ky,pY,by decide,by simp[LS.l],by simp;omega,?_,fun K=>?_⟩
  ·unfold RatD.q;rw[e];simp[Av,LS.l,val]
  ·rw[T8];unfold Z6
   rw[TG,WX rfl c.2 (f.le b),e,Sb];rfl
 ·refine⟨x.neg,x.ns,x.ds.l,o,o,c.1,c.2,e,d,by omega,rfl,fun K=>?_⟩
  have:Fc (val x.ds.l) 0=1:=by unfold Fc;rw[if_neg (by omega),if_pos (by omega)]
  rw[T8];unfold Z6
  rw[TG,WX rfl c.2 (f.le b),this,show((1:Int)==0)=false by rfl,cf,show Nat.ble 2 (List.length x.av)=true by rfl,ct,TG,sU,nZ,ct,TH,ct,iL]
theorem tQ (z:Int) (d:Nat) (c:d≠0):(mkRat z d).num.sign=z.sign:=by
 obtain⟨f,e,_⟩:=aK z d c
 rcases Int.lt_trichotomy z 0 with h | h | h
 ·rw[Int.sign_eq_neg_one_of_neg h,Int.sign_eq_neg_one_of_neg (e.2 h)]
 ·subst h;simp
 ·have i:¬ (mkRat z d).num<0:=fun b=>by have:=e.1 b;omega
  have j:(mkRat z d).num≠0:=fun b=>by
   have:mkRat z d=0:=Rat.num_eq_zero.1 b
   rw[Rat.mkRat_eq_zero c] at this;omega
  rw[Int.sign_eq_one_of_pos h,Int.sign_eq_one_of_pos (by omega)]
theorem m9 {N:Nat} {x:RatD} {o:Bool} {K:Int→O R} (c:x.ok) (b:fit x.m N):KE N x.av o K=K x.q.num.sign:=by
 obtain⟨neg,s,l,o1,o2,d,k,e,f,n,i,j⟩:=Uv (R:=R) (o:=o) c b
 rw[RL];unfold aD
 rw[Ut,ct,Kl,j,nZ,ct,TH,ct,iL,F_ d (b.le f),←i,tQ _ _ e]
theorem Uw {N:Nat} {x:RatD} {o:Bool} (c:x.ok) (f:fit x.m N):(∃ (n:Int) (d:Nat),-2147483648<n∧n<2147483648∧0<d∧d<2147483648∧mkRat n d=x.q∧∀ K:Int→Int→Bool→O R,Ia N x.av o K=K n (d:Int) true)∨(∀ K:Int→Int→Bool→O R,Ia N x.av o K=K 0 0 false):=by
 have i:x.ns.l.length≤x.m:=Nat.le_max_left _ _
 have b:x.ds.l.length≤x.m:=Nat.le_max_right _ _
 by_cases u:val x.ns.l<2147483648
 ·by_cases t:val x.ds.l<2147483648
  ·left
   have e:∀ K:Int→Int→Bool→O R,Ia N x.av o K=Cz N K (val x.ns.l:Int) (val x.ds.l:Int) o x.av false:=by
    intro K
    rw[M5];unfold Nq
    rw[rn,Ha rfl c.1 (f.le i),if_pos (by omega),TG,Ha rfl c.2 (f.le b),if_pos (by omega)]
    rw[show((!true)==false)=true by rfl,ct,show((cond false true (!true))==false)=true by rfl,ct,show decide (((val x.ns.l:Nat):Int)≥2147483648)=false by rw[decide_eq_false_iff_not];omega,show((cond false true false)==false)=true by rfl,ct,show decide (((val x.ds.l:Nat):Int)≥2147483648)=false by rw[decide_eq_false_iff_not];omega]
    rfl
   by_cases k:val x.ds.l=0
   ·refine⟨0,1,by omega,by omega,by omega,by omega,by unfold RatD.q;rw[k];simp,fun K=>?_⟩
    rw[e];unfold Cz
    rw[cf,uQ k,ct];rfl
   ·have v:=C2 x.neg x.ns
    refine⟨Av x.neg x.ns,val x.ds.l,by omega,by omega,by omega,t,rfl,fun K=>?_⟩
    rw[e];unfold Cz
    rw[cf,bX k,cf,uE,i64 (a:=((val x.ns.l:Nat):Int)) (by omega),i64 (a:=((val x.ds.l:Nat):Int)) (by omega)]
    unfold Av
    cases x.neg
    ·rfl
    ·rw[ct,i64 (by omega),Int.zero_sub];rfl
  ·right
   intro K
   rw[M5];unfold Nq
   rw[rn,Ha rfl c.1 (f.le i),if_pos (by omega),TG,Ha rfl c.2 (f.le b),show((!true)==false)=true by rfl]
   by_cases j:val x.ds.l<18446744073709551616
   ·rw[if_pos j,ct,show((cond false true (!true))==false)=true by rfl,ct,show decide (((val x.ns.l:Nat):Int)≥2147483648)=false by rw[decide_eq_false_iff_not];omega,show((cond false true false)==false)=true by rfl,ct,show decide (((val x.ds.l:Nat):Int)≥2147483648)=true by rw[decide_eq_true_eq];omega]
    unfold Cz;rfl
   ·rw[if_neg j,ct,show((cond false true (!false))==false)=false by rfl,cf]
    unfold Cz;rfl
 ·right
  intro K
  rw[M5];unfold Nq
  rw[rn,Ha rfl c.1 (f.le i)]
  by_cases j:val x.ns.l<18446744073709551616
  ·rw[if_pos j,TG,Ha rfl c.2 (f.le b),show((!true)==false)=true by rfl,show decide (((val x.ns.l:Nat):Int)≥2147483648)=true by rw[decide_eq_true_eq];omega]
   by_cases s:val x.ds.l<18446744073709551616
   ·rw[if_pos s,ct,show((cond false true (!true))==false)=true by rfl,ct]
    unfold Cz;rfl
   ·rw[if_neg s,ct,show((cond false true (!false))==false)=false by rfl,cf]
    unfold Cz;rfl
  ·rw[if_neg j,TG,Ha rfl c.2 (f.le b),show((!false)==false)=false by rfl]
   split<;>(rw[cf];unfold Cz;rfl)
theorem ex {N:Nat} {a b c:Nat} {s:Int} (hN:4≤N) (t:a<18446744073709551616) (M:b<9223372036854775808) (u:0<c) (v:c∣a):∀ (k e x y:Nat),k<e→x*y<2 ^ k→y≤x→Nat.gcd x y=c→∃ d:RatD,d.neg=decide (s<0)∧d.ns.l=Af (a/c)∧d.ds.l=Af (b/c)∧∀ K:LA→O R,Bu N K s (b:Int) (a:Int) e (x:Int) (y:Int)=K d.av:=by
 have base:∀ (e:Nat),∃ d:RatD,d.neg=decide (s<0)∧d.ns.l=Af (a/c)∧d.ds.l=Af (b/c)∧∀ K:LA→O R,Bu N K s (b:Int) (a:Int) (e+1) (c:Int) ((0:Nat):Int)=K d.av:=by
  intro e
  have n:a/c<18446744073709551616:=Nat.lt_of_le_of_lt (Nat.div_le_self _ _) t
  have q:b/c<18446744073709551616:=Nat.lt_of_le_of_lt (Nat.div_le_self _ _) (by omega)
  obtain⟨S1,s1,s2,z⟩:=Fu (R:=R) (N:=N) n hN
  obtain⟨S2,t1,t2,t3⟩:=Fu (R:=R) (N:=N) q hN
  refine⟨⟨decide (s<0),.of (Af (a/c)) false false,.of (Af (b/c)) false false⟩,rfl,rfl,rfl,fun K=>?_⟩
  rw[Bu];unfold F7
  rw[show(((0:Nat):Int) != 0)=false by rfl,cf,bX (by omega),cf,CF,Er n,z,cf,Er (show b<18446744073709551616 by omega),CF,Er q,t3,Bl s1 s2,Bl t1 t2];rfl
 intro k
 induction k with
 | zero =>
  intro e x y A f j i
  obtain⟨e,rfl⟩:∃ F,e=F+1:=⟨e - 1,by omega⟩
  have B:y=0:=by
   rcases Nat.eq_zero_or_pos y with h | h
   ·exact h
   ·have S:=Nat.mul_le_mul_left x (show 1≤y by omega)
    rw[Nat.pow_zero] at f;omega
  subst B
  rw[Nat.gcd_zero_right] at i;subst i
  exact base e
 | succ k C =>
  intro e x y A f j i
  obtain⟨e,rfl⟩:∃ F,e=F+1:=⟨e - 1,by omega⟩
  rcases Nat.eq_zero_or_pos y with h | h
  ·subst h;rw[Nat.gcd_zero_right] at i;subst i;exact base e
  ·have T:=Xz (show 1≤y by omega) j
   have U:=Nat.mod_lt x h
   have m:Nat.gcd y (x%y)=Nat.gcd x y:=by rw[Nat.gcd_comm,←Nat.gcd_rec,Nat.gcd_comm]
   obtain⟨d,D,G,I,L⟩:=C e y (x%y) (by omega) (by rw[Nat.pow_succ] at f;omega) (by omega) (by rw[m,i])
   refine⟨d,D,G,I,fun K=>?_⟩
   rw[Bu];unfold F7
   rw[show((y:Int) != 0)=true by rw[bne_iff_ne];omega,ct,bX (by omega),cf,Xw]
   exact L K
theorem DK {N:Nat} {s:Int} {b:Nat} (A:-9223372036854775808≤s∧s≤9223372036854775807) (k:0<b) (v:b<9223372036854775808) (hN:1000≤N):∃ d:RatD,d.can (mkRat s b)∧∀ K:LA→O R,Fe N s (b:Int) K=K d.av:=by
 obtain⟨m1,m2,m3⟩:=aK s b (by omega)
 have f:∀ d:RatD,d.neg=decide (s<0)→d.ns.l=Af (s.natAbs/Nat.gcd s.natAbs b)→d.ds.l=Af (b/Nat.gcd s.natAbs b)→d.can (mkRat s b):=by
  intro d x y z
  exact⟨by rw[x];congr 1;exact propext m2.symm,by rw[y,m1],by rw[z,m3]⟩
 have j:s.natAbs<18446744073709551616:=by omega
 have start:∀ K:LA→O R,Fe N s (b:Int) K=Bu N K s (b:Int) (s.natAbs:Int) N (b:Int) (s.natAbs:Int):=by
  intro K
  rw[Vn];unfold M6 Jz Mk
  dsimp only
  by_cases h:s<0
  ·have e:IntKind.wrap .u64 ((0:Int) - IntKind.wrap .u64 s)=(s.natAbs:Int):=by rw[EY,EY];omega
   rw[decide_eq_true h,ct,e,Er (by omega)]
  ·have e:IntKind.wrap .u64 s=(s.natAbs:Int):=by rw[EY];omega
   rw[decide_eq_false h,cf,e,Er (by omega)]
 have i:0<Nat.gcd s.natAbs b:=Nat.gcd_pos_of_pos_right _ k
 by_cases m:s.natAbs≤b
 ·obtain⟨d,n,q,t,u⟩:=ex (R:=R) (N:=N) (a:=s.natAbs) (b:=b) (c:=Nat.gcd s.natAbs b) (s:=s) (by omega) j v i (Nat.gcd_dvd_left _ _) 128 N b s.natAbs (by omega) (by
   have:=Nat.mul_lt_mul'' (show b<18446744073709551616 by omega) j;exact this) m (Nat.gcd_comm _ _)
  exact⟨d,f d n q t,fun K=>by rw[start,u]⟩
 ·obtain⟨F,hF⟩:∃ F,N=F+1:=⟨N - 1,by omega⟩
  obtain⟨d,n,q,t,u⟩:=ex (R:=R) (N:=N) (a:=s.natAbs) (b:=b) (c:=Nat.gcd s.natAbs b) (s:=s) (by omega) j v i (Nat.gcd_dvd_left _ _) 128 F s.natAbs (b%s.natAbs) (by omega) (by
   rw[Nat.mod_eq_of_lt (by omega)]
   have:=Nat.mul_lt_mul'' j (show b<18446744073709551616 by omega);exact this) (by rw[Nat.mod_eq_of_lt (by omega)];omega) (by rw[Nat.mod_eq_of_lt (by omega)])
  refine⟨d,f d n q t,fun K=>?_⟩
  rw[start,←u K]
  conv=>lhs;rw[show(Bu N K s (b:Int) (s.natAbs:Int) N)=Bu N K s (b:Int) (s.natAbs:Int) (F+1) by rw[←hF]]
  rw[Bu];unfold F7
  rw[show(((s.natAbs:Nat):Int) != 0)=true by rw[bne_iff_ne];omega,ct,bX (by omega),cf,Xw]
end
end Gx

namespace Gx
open Go Go.Proofs
section
variable {R:Type}
theorem ro {S:List Nat} {g:Nat} (d:Ae S) (e:val S=g) (c:(Af g).length=1) {f:Int→O R}:Bi .u32 (Aa S) f=f (g:Int):=by
 have i:=(A1 d).2
 rw[e,c] at i
 have b:=j1 d
 rw[e,c] at b
 obtain⟨a,j⟩:∃ a,Af g=[a]:=by
  match h:Af g,c with
  | [a],_=>exact⟨a,rfl⟩
 have k:a=g:=by have:=Ac g;rw[j] at this;simpa[val] using this
 rw[j,k] at b
 match S,i,b with
 | x::r,_,b =>
  simp at b;subst b
  rw[Nm,Ry]
theorem RN {N:Nat} {neg:Bool} {s:LS} {l:List Nat} {n:Nat} {o t o':Bool} (S:n=l.length) (C:Ae s.l) (D:Ae l) (j:val l≠0) (e:fit (2*(s.l.length+l.length)+8) N) :
  ∃ d:RatD,d.can (mkRat (Av neg s) (val l))∧∀ K:LA→O R,Lb N (En neg s) o (Aa l) n t o' K=K d.av:=by
 obtain⟨m1,m2,m3⟩:=aK (Av neg s) (val l) j
 have k:=C2 neg s
 have ls:=(A1 C).2
 have ll:=(A1 D).2
 generalize T:Av neg s=z at *
 have start:∀ K:LA→O R,Lb N (En neg s) o (Aa l) n t o' K=cond ((((Af z.natAbs).length:Nat):Int)==(0:Int)) (K [(.bool false),.nsl,(.imm [(.int .u32 1)] 1 1 false false)]) (Xv N (Aa (Af z.natAbs)) (Af z.natAbs).length false true (Aa (Af (val l))) (Af (val l)).length false true (fun f g=>(cond ((((f:Nat):Int) != (1:Int))==false) (cond (Am (0:Int) f) (Bi .u32 g fun y=>(cond (cond false true (y != (1:Int))) (Cs N (Aa (Af z.natAbs)) (Af z.natAbs).length false true (List.take (f*1) g) f false true (fun p ae af z2 ag=>(Cs N (Aa (Af (val l))) (Af (val l)).length false true (List.take (f*1) g) f false true (fun q ah ai aa aj=>(K [(.bool (decide (z<0))),(.imm (List.take (p*1) z2) p 1 false false),(.imm (List.take (q*1) aa) q 1 false false)]))))) (K [(.bool (decide (z<0))),(.imm (Aa (Af z.natAbs)) (Af z.natAbs).length 1 false false),(.imm (Aa (Af (val l))) (Af (val l)).length 1 false false)]))) none) (Cs N (Aa (Af z.natAbs)) (Af z.natAbs).length false true (List.take (f*1) g) f false true (fun r ak al ab am=>(Cs N (Aa (Af (val l))) (Af (val l)).length false true (List.take (f*1) g) f false true (fun s an ao ac ap=>(K [(.bool (decide (z<0))),(.imm (List.take (r*1) ab) r 1 false false),(.imm (List.take (s*1) ac) s 1 false false)])))))))):=by
  intro K
  rw[CG];unfold FV
  have tk:∀ v:Nat,List.take ((Af v).length*1) (Aa (Af v))=Aa (Af v):=fun v=>Bl (Ab _) (Ac v)
  rw[Ki,Le,show Nat.beq (List.length (En neg s)) 2=true by rfl,ct,n0,m6 (s1:=.of s.l false o) C (e.le (by simp[LS.l];omega)),show Av neg (.of s.l false o)=z by rw[←T];rfl,Sd S D (e.le (by omega)),tk,tk]
 by_cases F:z=0
 ·refine⟨⟨false,.nil,.of [1] false false⟩,?_,fun K=>?_⟩
  ·rw[F];simp only[Rat.zero_mkRat]
   exact⟨rfl,rfl,J9.symm⟩
  ·rw[start,F];rfl
 ·have m:z.natAbs≠0:=by omega
  have i:(Af z.natAbs).length≠0:=fun h=>m (A3.1 h)
  have U:0<Nat.gcd z.natAbs (val l):=Nat.gcd_pos_of_pos_right _ (by omega)
  have lz:(Af z.natAbs).length≤s.l.length:=by rw[k];exact ls
  obtain⟨G,I,u,L⟩:=rA (R:=R) (N:=N) (a:=Af z.natAbs) (b:=Af (val l)) (t:=false) (o:=true) (t':=false) (o':=true) rfl rfl (Ab _) (Ab _) (e.le (by omega))
  rw[Ac,Ac] at u L
  have lg:(Af (Nat.gcd z.natAbs (val l))).length≤l.length:=Nat.le_trans (A6 (Nat.gcd_le_right _ (by omega))) ll
  obtain⟨Q1,R1,a1,a2,a3,a4,a5⟩:=Xy (R:=R) (N:=N) (a:=Af z.natAbs) (b:=Af (Nat.gcd z.natAbs (val l))) (t:=false) (o:=true) (t':=false) (o':=true) rfl rfl (Ab _) (Ab _) (by rw[Ac];omega) (e.le (by omega))
  obtain⟨Q2,R2,M,x,X,Y,A⟩:=Xy (R:=R) (N:=N) (a:=Af (val l)) (b:=Af (Nat.gcd z.natAbs (val l))) (t:=false) (o:=true) (t':=false) (o':=true) rfl rfl (Ab _) (Ab _) (by rw[Ac];omega) (e.le (by omega))
  rw[Ac,Ac] at a2 a5 x A
  have B:decide (z<0)=decide ((mkRat z (val l)).num<0):=by congr 1;exact propext m2.symm
  refine⟨⟨decide (z<0),.of (Af (z.natAbs/Nat.gcd z.natAbs (val l))) false false,.of (Af (val l/Nat.gcd z.natAbs (val l))) false false⟩,⟨B,by rw[m1];rfl,by rw[m3];rfl⟩,fun K=>?_⟩
  rw[start,bX i,cf,L,Bl I u]
  by_cases c:(Af (Nat.gcd z.natAbs (val l))).length=1
  ·rw[show((((((Af (Nat.gcd z.natAbs (val l))).length:Nat):Int) != (1:Int))==false))=true by rw[c];rfl,ct,show Am 0 (Af (Nat.gcd z.natAbs (val l))).length=true by rw[c];rfl,ct,ro I u c]
   by_cases V:Nat.gcd z.natAbs (val l)=1
   ·rw[V,show(cond false true (((1:Nat):Int) != 1))=false by rfl,cf,Nat.div_one,Nat.div_one];rfl
   ·rw[show(cond false true (((Nat.gcd z.natAbs (val l):Nat):Int) != 1))=true by (show(((Nat.gcd z.natAbs (val l):Nat):Int) != 1)=true;rw[bne_iff_ne];omega),ct,a5,A,Bl a1 a2,Bl M x];rfl
  ·rw[show((((((Af (Nat.gcd z.natAbs (val l))).length:Nat):Int) != (1:Int))==false))=false by (rw[show((((Af (Nat.gcd z.natAbs (val l))).length:Nat):Int) != (1:Int))=true by rw[bne_iff_ne];omega];rfl),cf,a5,A,Bl a1 a2,Bl M x];rfl
theorem aL {N:Nat} {x:RatD} {o:Bool} (j:x.ok) (f:fit (4*x.m+10) N):∃ d:RatD,d.can x.q∧∀ K:LA→O R,IX N x.av o K=K d.av:=by
 have B:=f.1
 rcases Uw (R:=R) (N:=N) (o:=o) j (f.le (by omega)) with⟨n,d,n1,n2,k,C,e,hK⟩ | hK
 ·obtain⟨c,c1,i⟩:=DK (R:=R) (N:=N) (s:=n) (b:=d) (by omega) k (by omega) (by omega)
  rw[e] at c1
  refine⟨c,c1,fun K=>?_⟩
  rw[X0];unfold IW
  rw[Ut,ct,Kl,hK,ct,i];rfl
 ·obtain⟨neg,s,l,o1,o2,u,v,y,D,F,z,A⟩:=Uv (R:=R) (N:=N) (o:=o) j (f.le (by omega))
  obtain⟨c,c1,i⟩:=RN (R:=R) (N:=N) (neg:=neg) (s:=s) (l:=l) (n:=l.length) (o:=o1) (t:=false) (o':=o2) rfl u v y (f.le (by omega))
  rw[z] at c1
  refine⟨c,c1,fun K=>?_⟩
  rw[X0];unfold IW
  rw[Ut,ct,Kl,hK,cf,ct,A,i];rfl
theorem n6 {a b:Int} (d:-2147483648<a∧a<2147483648) (e:-2147483648<b∧b<2147483648):-4611686018427387904<a*b∧a*b<4611686018427387904:=by
 have c:a.natAbs*b.natAbs≤2147483647*2147483647:=Nat.mul_le_mul (by omega) (by omega)
 rw[←Int.natAbs_mul] at c
 omega
end
end Gx

namespace Gx
open Go Go.Proofs
section
variable {R:Type}
theorem Yq {a b:Int} {k l:Nat} (c:a.natAbs<4294967296 ^ k) (d:b.natAbs<4294967296 ^ l):(a*b).natAbs<4294967296 ^ (k+l):=by
 rw[Int.natAbs_mul,Nat.pow_add];exact Nat.mul_lt_mul'' c d
theorem Yr {k l:Nat} (h:k≤l):4294967296 ^ k≤4294967296 ^ l:=Nat.pow_le_pow_right (by omega) h
theorem rG {v k:Nat} (h:(Af v).length≤k):v<4294967296 ^ k:=by
 have:=Bd (Ab v);rw[Ac] at this
 exact Nat.lt_of_lt_of_le this (Yr h)
theorem rp {N:Nat} {x y:RatD} {o o':Bool} (u:x.ok) (v:y.ok) (e:fit (8*(x.m+y.m)+40) N):∃ d:RatD,d.can (x.q*y.q)∧∀ K:LA→O R,S8 N K o x.av o' y.av=K d.av:=by
 obtain⟨n1,s1,l1,a1,z,f,i,A,B,T,C,D⟩:=Uv (R:=R) (N:=N) (o:=o) u (e.le (by omega))
 obtain⟨n2,s2,l2,a2,F,j,k,G,I,U,L,M⟩:=Uv (R:=R) (N:=N) (o:=o') v (e.le (by omega))
 have zl1:(Av n1 s1).natAbs<4294967296 ^ x.m:=by rw[C2];exact Nat.lt_of_lt_of_le (Bd f) (Yr B)
 have zl2:(Av n2 s2).natAbs<4294967296 ^ y.m:=by rw[C2];exact Nat.lt_of_lt_of_le (Bd j) (Yr I)
 have tR:((val l1:Nat):Int).natAbs<4294967296 ^ (x.m+1):=by rw[Int.natAbs_natCast];exact Nat.lt_of_lt_of_le (Bd i) (Yr (by omega))
 have dl2:((val l2:Nat):Int).natAbs<4294967296 ^ (y.m+1):=by rw[Int.natAbs_natCast];exact Nat.lt_of_lt_of_le (Bd k) (Yr (by omega))
 obtain⟨S1,t1,t2,t3⟩:=eo (R:=R) (N:=N) (n1:=n1) (n2:=n2) (s1:=s1) (s2:=s2) (o1:=a1) (o2:=a2) f j (e.le (by omega))
 have L1:=C8 (Yq zl1 zl2)
 obtain⟨S4,v1,v2,v3⟩:=IA (R:=R) (N:=N) (a:=l1) (b:=l2) (t:=false) (o:=z) (t':=false) (o':=F) rfl rfl i k (e.le (by omega))
 have z4:val l1*val l2<4294967296 ^ (x.m+1+(y.m+1)):=by
  have:=Yq tR dl2;rw[Int.natAbs_mul,Int.natAbs_natCast,Int.natAbs_natCast] at this;exact this
 have L4:=C8 z4
 obtain⟨c,c1,S⟩:=RN (R:=R) (N:=N) (neg:=decide (Av n1 s1*Av n2 s2<0)) (s:=.of (Af (Av n1 s1*Av n2 s2).natAbs) false true) (l:=Af (val l1*val l2)) (n:=(Af (val l1*val l2)).length) (o:=true) (t:=false) (o':=true) rfl (Ab _) (Ab _) (by rw[Ac];exact Nat.mul_ne_zero A G) (e.le (show 2*((Af (Av n1 s1*Av n2 s2).natAbs).length+(Af (val l1*val l2)).length)+8≤_ by omega))
 rw[Uu,Ac,←Rat.mkRat_mul_mkRat,C,L] at c1
 refine⟨c,c1,fun K=>?_⟩
 unfold S8
 rw[Ut,ct,Kl,D,nZ,ct,Ut,ct,Kl,M,nZ,ct,TH,ct,TH,ct,iL,iL,t3,v3,Bl t1 t2,Bl v1 v2,n0,S];rfl
theorem NQ {N:Nat} {x y:RatD} {o o':Bool} (z:x.ok) (l:y.ok) (f:fit (8*(x.m+y.m)+40) N):∃ d:RatD,d.can (x.q*y.q)∧∀ K:LA→O R,Uk N x.av o y.av o' K=K d.av:=by
 have G:=f.1
 obtain⟨g,A,t⟩:=rp (R:=R) (N:=N) (o:=o) (o':=o') z l f
 rcases Uw (R:=R) (N:=N) (o:=o) z (f.le (by omega)) with⟨n,d,n1,n2,C,I,e,hK⟩ | hK
 ·rcases Uw (R:=R) (N:=N) (o:=o') l (f.le (by omega)) with⟨u,d',i,j,k,v,B,hK'⟩ | hK'
  ·have L:=n6 (a:=n) (b:=u) ⟨n1,n2⟩ ⟨i,j⟩
   have M:=n6 (a:=(d:Int)) (b:=(d':Int)) (by omega) (by omega)
   have D:((d*d':Nat):Int)=(d:Int)*(d':Int):=by simp
   obtain⟨c,c1,F⟩:=DK (R:=R) (N:=N) (s:=n*u) (b:=d*d') (by omega) (Nat.mul_pos C k) (by omega) (by omega)
   rw[←Rat.mkRat_mul_mkRat,e,B] at c1
   refine⟨c,c1,fun K=>?_⟩
   rw[Ul];unfold AE
   rw[Ut,ct,Kl,hK,Ut,ct,Kl,hK',show((true:Bool)==true)=true by rfl,ct,o_,ct,i64 (by omega),i64 (by omega),←D,F];rfl
  ·refine⟨g,A,fun K=>?_⟩
   rw[Ul];unfold AE
   rw[Ut,ct,Kl,hK,Ut,ct,Kl,hK',show((true:Bool)==true)=true by rfl,ct,o_,cf,t]
 ·refine⟨g,A,fun K=>?_⟩
  rw[Ul];unfold AE
  rcases Uw (R:=R) (N:=N) (o:=o') l (f.le (by omega)) with⟨u,d',i,j,k,v,B,hK'⟩ | hK'
  ·rw[Ut,ct,Kl,hK,Ut,ct,Kl,hK',show((false:Bool)==true)=false by rfl,cf,t]
  ·rw[Ut,ct,Kl,hK,Ut,ct,Kl,hK',show((false:Bool)==true)=false by rfl,cf,t]
end
end Gx

namespace Gx
open Go Go.Proofs
section
variable {R:Type}
def Ck (z:Int):LA:=En (decide (z<0)) (.of (Af z.natAbs) false false)
theorem kF (z:Int) (K:LA→O R):(cond ((Nat.beq 0 0)&&((Nat.beq (List.length (Ck z)) 2)&&(Nat.beq 2 2))) (cond (Nat.ble 2 (List.length (Ck z))) (K (List.take 2 (Ck z))) none) none)=K (Ck z):=rfl
theorem uZ (z:Int):List.take 2 (Ck z)=Ck z:=rfl
theorem sp (z:Int):Nat.beq (List.length (Ck z)) 2=true:=rfl
theorem sV (v:Nat):List.take ((Af v).length*1) (Aa (Af v))=Aa (Af v):=Bl (Ab _) (Ac v)
theorem Iz {N:Nat} {neg:Bool} {l:List Nat} {n:Nat} {t o:Bool} {K:LA→O R} (b:n=l.length) (d:Ae l) (e:fit l.length N):Dg N neg (Aa l) n t o K=K (Ck (if neg then -(val l:Int) else (val l:Int))):=by
 obtain⟨c1,f⟩:=Lf (z:=if neg then -(val l:Int) else (val l:Int)) (c:=neg) (m:=val l) rfl
 rw[IZ];unfold NF
 rw[B0 b d e,sV]
 unfold Ck
 rw[←c1,f]
 cases neg
 ·rfl
 ·rw[show((true:Bool)==true)=true by rfl,ct,o_];simp[En,LS.av]
theorem Lz {N:Nat} {v:Int} {K:LA→O R} (c:-9223372036854775808≤v∧v≤9223372036854775807) (hN:2000≤N):Dp N v K=K (Ck v):=by
 have b:v.natAbs<18446744073709551616:=by omega
 have d:=M7 b
 rw[Vy];unfold Ue
 by_cases h:v<0
 ·have e:IntKind.wrap .u64 (IntKind.wrap .u64 (IntKind.wrap .i64 ((0:Int) - IntKind.wrap .i64 (v+1)))+1)=(v.natAbs:Int):=by
   rw[i64 (a:=v+1) (by omega),i64 (by omega),EY,EY];omega
  rw[decide_eq_true h,ct,e,Qg b (by omega),sV,Iz rfl (Ab _) ⟨by omega,by omega⟩,Ac]
  have:(if true=true then -(v.natAbs:Int) else (v.natAbs:Int))=v:=by rw[if_pos rfl];omega
  rw[this];exact kF _ _
 ·have e:IntKind.wrap .u64 v=(v.natAbs:Int):=by rw[EY];omega
  rw[decide_eq_false h,cf,e,Qg b (by omega),sV,Iz rfl (Ab _) ⟨by omega,by omega⟩,Ac]
  have:(if false=true then -(v.natAbs:Int) else (v.natAbs:Int))=v:=by rw[if_neg (by decide)];omega
  rw[this];exact kF _ _
theorem F' {N:Nat} {n:Bool} {s:LS} {o:Bool} {K:LA→O R} (b:Ae s.l) (c:fit s.l.length N):O0 N (En n s) o K=K (Ck (Av n s)):=by
 rw[JA];unfold NG
 rw[Ki,Le,Iz rfl b c];exact kF _ _
theorem m_ {N:Nat} {n:Bool} {s:LS} {o:Bool} {K:Int→O R} (b:Ae s.l) (c:fit s.l.length N):X5 N (En n s) o K=K (Av n s).sign:=by
 rw[JC];unfold NH
 rw[TH,ct,iL,F' b c,sp,show((true&&(true&&(!false))))=true by rfl,ct]
 have e:setCells (En n s) 0 (Ck (Av n s))=Ck (Av n s):=rfl
 rw[e]
 generalize Av n s=z
 unfold Ck
 rw[Ki]
 rcases Int.lt_trichotomy z 0 with h | h | h
 ·rw[decide_eq_true h,ct,Int.sign_eq_neg_one_of_neg h]
 ·subst h;rfl
 ·rw[decide_eq_false (by omega),cf,Le]
  have:(Af z.natAbs).length≠0:=fun d=>by have:=A3.1 d;omega
  simp only[LS.l]
  rw[bX this,cf,Int.sign_eq_one_of_pos h]
theorem mc {N:Nat} {n1 n2:Bool} {s1 s2:LS} {o1 o2:Bool} {K:LA→O R} (b:Ae s1.l) (c:Ae s2.l) (d:fit (s1.l.length+s2.l.length) N):Up N (En n1 s1) o1 (En n2 s2) o2 K=K (Ck (Av n1 s1*Av n2 s2)):=by
 have e:(Af (val s1.l*val s2.l)).length≤s1.l.length+s2.l.length:=C8 (by rw[Nat.pow_add];exact Nat.mul_lt_mul'' (Bd b) (Bd c))
 rw[RE];unfold ZO
 rw[Ki,Ki,Le,Le,pQ rfl rfl b c d,sV,Iz rfl (Ab _) (d.le e),Ac]
 have f:Av n1 s1*Av n2 s2=if (!(n1==n2)) then -((val s1.l*val s2.l:Nat):Int) else ((val s1.l*val s2.l:Nat):Int):=by
  unfold Av;cases n1<;>cases n2<;>simp[Int.mul_neg,Int.neg_mul]
 rw[←f];exact kF _ _
theorem pZ {N:Nat} {n1 n2:Bool} {s1 s2:LS} {o1 o2:Bool} {K:LA→O R} (b:Ae s1.l) (c:Ae s2.l) (d:fit (3*(s1.l.length+s2.l.length)+4) N):JQ N (En n1 s1) o1 (En n2 s2) o2 K=K (Ck ((Nat.gcd (Av n1 s1).natAbs (Av n2 s2).natAbs:Nat):Int)):=by
 have e:(Af (Nat.gcd (val s1.l) (val s2.l))).length≤s1.l.length+s2.l.length:=by
  rcases Nat.eq_zero_or_pos (val s1.l) with h | h
  ·rw[h,Nat.gcd_zero_left];have:=(A1 c).2;omega
  ·have:=A6 (Nat.gcd_le_left (val s2.l) h);have:=(A1 b).2;omega
 rw[QQ];unfold YK
 rw[Le,Le,pT rfl rfl b c d,sV,Iz rfl (Ab _) (d.le (by omega)),Ac,C2,C2];exact kF _ _
theorem Ys {N:Nat} {n1:Bool} {s1:LS} {g:Nat} {o1 o2:Bool} {K:LA→LA→Bool→O R} (e:Ae s1.l) (j:0<g) (i:g∣val s1.l) (d:fit (s1.l.length+2*(Af g).length+4) N):Lc N (En n1 s1) o1 (Ck (g:Int)) o2 K=K (Ck (Av n1 s1/(g:Int))) (Ck 0) true:=by
 have b:Ck (g:Int)=En false (.of (Af g) false false):=by
  unfold Ck;rw[decide_eq_false (by omega),Int.natAbs_natCast]
 have hq:(Af (val s1.l/g)).length≤s1.l.length:=Nat.le_trans (A6 (Nat.div_le_self _ _)) (A1 e).2
 rw[b,Yf];unfold Ye
 rw[Le,Le,show(LS.of (Af g) false false).l=Af g by rfl]
 rw[Ur rfl rfl e (Ab _) (by rw[Ac];omega) d,Ac,Nat.mod_eq_zero_of_dvd i,show(!true)=false by rfl,cf,Ki,Ki,sV,Iz rfl (Ab _) (d.le (by omega)),Ki,sV,Iz rfl (Ab _) (d.le (by simp[B6])),Ac,Ac]
 have k:(if n1=true then -((0:Nat):Int) else ((0:Nat):Int))=0:=by cases n1<;>rfl
 have m:(if (!(n1==false))=true then -((val s1.l/g:Nat):Int) else ((val s1.l/g:Nat):Int))=Av n1 s1/(g:Int):=by
  obtain⟨c,b⟩:=i
  have n:val s1.l/g=c:=by rw[b,Nat.mul_div_cancel_left _ j]
  rw[n];unfold Av;rw[b]
  cases n1
  ·simp;rw[Int.mul_ediv_cancel_left _ (by omega)]
  ·simp only[Bool.true_beq,Bool.not_false,if_true]
   rw[show -((g*c:Nat):Int)=(g:Int)*(-(c:Int)) by rw[Int.mul_neg];simp,Int.mul_ediv_cancel_left _ (by omega)]
 rw[k,m]
 generalize Av n1 s1/(g:Int)=q
 have s:∀ (f:Bool→O R),Pc (Ck 0) f=f false:=fun f=>Ki
 rw[show((Nat.beq 0 0)&&((Nat.beq (List.length (Ck q)) 2)&&(Nat.beq 2 2)))=true by rfl,ct,show((Nat.beq 0 0)&&((Nat.beq (List.length (Ck 0)) 2)&&(Nat.beq 2 2)))=true by rfl,ct,s,cf]
 rfl
end
end Gx

namespace Gx
open Go Go.Proofs
section
variable {R:Type}
def td (q:Rat):RatD:=⟨decide (q.num<0),.of (Af q.num.natAbs) false false,.of (Af q.den) false false⟩
def cq (q:Rat):LA:=(td q).av
theorem kG (q:Rat) (K:LA→O R):(cond ((Nat.beq 0 0)&&((Nat.beq (List.length (cq q)) 3)&&(Nat.beq 3 3))) (cond (Nat.ble 3 (List.length (cq q))) (K (List.take 3 (cq q))) none) none)=K (cq q):=rfl
theorem ey (q:Rat):Nat.ble 2 (List.length (cq q))=true:=rfl
theorem NR (q:Rat):List.take 2 (cq q)=Ck q.num:=rfl
theorem rq:cq 0=[(.bool false),(.imm [] 0 1 false false),(.imm [(.int .u32 1)] 1 1 false false)]:=by
 have e:cq 0=[.bool false,.imm (Aa (Af 0)) (Af 0).length 1 false false,.imm (Aa (Af 1)) (Af 1).length 1 false false]:=rfl
 rw[e,J9];rfl
theorem md {N:Nat} {K:LA→O R}:X6 N K=K (cq 0):=by
 rw[JE];unfold NI
 rw[rq]
theorem tS {N:Nat} {z w:Int} {o o':Bool} {K:LA→O R} (b:fit ((Af z.natAbs).length+(Af w.natAbs).length) N):Up N (Ck z) o (Ck w) o' K=K (Ck (z*w)):=by
 have:=mc (R:=R) (N:=N) (n1:=decide (z<0)) (s1:=.of (Af z.natAbs) false false) (n2:=decide (w<0)) (s2:=.of (Af w.natAbs) false false) (o1:=o) (o2:=o') (K:=K) (Ab _) (Ab _) b
 rw[Uu,Uu] at this;exact this
theorem rH (z:Int):mkRat z 1=(z:Rat):=by
 apply Rat.ext
 ·rw[Rat.num_mkRat,if_neg (by decide),Nat.gcd_one_left];simp
 ·rw[Rat.den_mkRat,if_neg (by decide),Nat.gcd_one_left];simp
theorem rs (z:Int) (w:Nat) (b:w≠0):(mkRat z w).num=z/((Nat.gcd z.natAbs w:Nat):Int)∧(mkRat z w).den=w/Nat.gcd z.natAbs w:=by
 refine⟨?_,?_⟩
 ·rw[Rat.num_mkRat,if_neg b,Nat.gcd_comm w]
 ·rw[Rat.den_mkRat,if_neg b,Nat.gcd_comm w]
theorem RO {N:Nat} {n1 n2:Bool} {s1 s2:LS} {o1 o2:Bool} {K:LA→O R} (n:Ae s1.l) (i:Ae s2.l) (x:0≤Av n2 s2) (d:fit (4*(s1.l.length+s2.l.length)+10) N):Ig N (En n1 s1) o1 (En n2 s2) o2 K=K (cq (mkRat (Av n1 s1) (Av n2 s2).natAbs)):=by
 have e:=C2 n2 s2
 have j:=C2 n1 s1
 rw[JR];unfold AD
 rw[TH,ct,iL,m_ i (d.le (by omega))]
 by_cases y:Av n2 s2=0
 ·rw[y,show((0:Int).sign==0)=true by rfl,ct,md]
  rw[show(0:Int).natAbs=0 by rfl,Rat.mkRat_zero];exact kG _ _
 ·have A:(Av n2 s2).natAbs≠0:=by omega
  have q:((Av n2 s2).sign==0)=false:=by rw[Int.sign_eq_one_of_pos (by omega)];rfl
  rw[q,cf,ct,F' i (d.le (by omega)),show((Nat.beq 0 0)&&((Nat.beq (List.length (Ck (Av n2 s2))) 2)&&(Nat.beq 2 2)))=true by rfl,ct]
  have rb:∀ (z:Int) (f:Bool→O R),Pc (Ck z) f=f (decide (z<0)):=fun z f=>Ki
  have rl:∀ (z:Int) (f:LA→Nat→O R),Lq 1 (List.drop 1 (Ck z)) f=f (Aa (Af z.natAbs)) (Af z.natAbs).length:=fun z f=>Le
  have l2:=(A1 i).2
  have l1:=(A1 n).2
  rw[rb,decide_eq_false (by omega),show((!false)==true)=true by rfl,ct,rl,rF,ZD (a:=Af (Av n2 s2).natAbs) (b:=[1]) (m:=1) rfl rfl (d.le (by rw[e];omega)),o_]
  by_cases c:(Av n2 s2).natAbs=1
  ·rw[c,J9,show decide (([1]:List Nat)=[1])=true by decide,ct,TH,ct,iL,F' n (d.le (by omega)),rl,c,J9]
   rw[rH]
   have B:cq ((Av n1 s1:Int):Rat)=[.bool (decide (Av n1 s1<0)),.imm (Aa (Af (Av n1 s1).natAbs)) (Af (Av n1 s1).natAbs).length 1 false false,.imm (Aa [1]) 1 1 false false]:=by
    unfold cq td RatD.av LS.av
    rw[Rat.num_intCast,Rat.den_intCast,J9];rfl
   rw[B];rfl
  ·have s:decide (Af (Av n2 s2).natAbs=[1])=false:=by
    rw[decide_eq_false_iff_not];intro C
    have:=congrArg val C
    rw[Ac] at this;simp[val] at this;omega
   rw[s,cf]
   unfold Qh
   have k:0<Nat.gcd (Av n1 s1).natAbs (Av n2 s2).natAbs:=Nat.gcd_pos_of_pos_right _ (by omega)
   have D:(Af (Nat.gcd (Av n1 s1).natAbs (Av n2 s2).natAbs)).length≤s2.l.length:=Nat.le_trans (A6 (Nat.gcd_le_right _ (by omega))) (by rw[e];exact l2)
   have t:Nat.gcd (Av n1 s1).natAbs (Av n2 s2).natAbs∣val s1.l:=by rw[←j];exact Nat.gcd_dvd_left _ _
   have u:Nat.gcd (Av n1 s1).natAbs (Av n2 s2).natAbs∣val s2.l:=by rw[←e];exact Nat.gcd_dvd_right _ _
   obtain⟨G,I⟩:=rs (Av n1 s1) (Av n2 s2).natAbs A
   rw[TH,ct,TH,ct,iL,iL,pZ n i (d.le (by omega))]
   generalize L:Nat.gcd (Av n1 s1).natAbs (Av n2 s2).natAbs=g at *
   rw[show((Nat.beq 0 0)&&((Nat.beq (List.length (Ck (g:Int))) 2)&&(Nat.beq 2 2)))=true by rfl,ct,ct,show Nat.ble 2 (List.length (Ck (g:Int)))=true by rfl,ct,uZ,Ys n k t (d.le (by omega))]
   rw[show ∀ z:Int,((Nat.beq 0 0)&&((Nat.beq (List.length (Ck z)) 2)&&(Nat.beq 2 2)))=true from fun z=>rfl,ct,show((Nat.beq 0 0)&&((Nat.beq (List.length (Ck 0)) 2)&&(Nat.beq 2 2)))=true by rfl,ct,ct,Ys i k u (d.le (by omega))]
   have v:Av n2 s2/(g:Int)=(((Av n2 s2).natAbs/g:Nat):Int):=by
    rw[show Av n2 s2=(((Av n2 s2).natAbs:Nat):Int) by omega];rfl
   rw[show ∀ z:Int,((Nat.beq 0 0)&&((Nat.beq (List.length (Ck z)) 2)&&(Nat.beq 2 2)))=true from fun z=>rfl,ct,ct,rb,v,decide_eq_false (by omega),cf,show ∀ z:Int,Nat.ble 2 (List.length (Ck z))=true from fun z=>rfl,ct,rl,Int.natAbs_natCast,←I]
   rw[←G];rfl
theorem rI {N:Nat} {z w:Int} {o o':Bool} {K:LA→O R} (b:0≤w) (c:fit (4*((Af z.natAbs).length+(Af w.natAbs).length)+10) N):Ig N (Ck z) o (Ck w) o' K=K (cq (mkRat z w.natAbs)):=by
 have:=RO (R:=R) (N:=N) (n1:=decide (z<0)) (s1:=.of (Af z.natAbs) false false) (n2:=decide (w<0)) (s2:=.of (Af w.natAbs) false false) (o1:=o) (o2:=o') (K:=K) (Ab _) (Ab _) (by rw[Uu];exact b) c
 rw[Uu,Uu] at this;exact this
theorem Yt {N:Nat} {x:RatD} {o:Bool} {K:LA→O R} (b:x.ok) (c:fit (8*x.m+10) N):O5 N x.av o K=K (cq x.q):=by
 have m1:x.ns.l.length≤x.m:=Nat.le_max_left _ _
 have m2:x.ds.l.length≤x.m:=Nat.le_max_right _ _
 rw[KB];unfold NN
 rw[show Nat.ble 2 (List.length x.av)=true by rfl,ct,TG,sU,n0,RO (s2:=.of x.ds.l false o) b.1 b.2 (by unfold Av;simp) (c.le (show 4*(x.ns.l.length+x.ds.l.length)+10≤_ by omega))]
 have:mkRat (Av x.neg x.ns) (Av false (.of x.ds.l false o)).natAbs=x.q:=by rw[C2];rfl
 rw[this];exact kG _ _
theorem ez {N:Nat} {x:RatD} {o:Bool} {K:LA→O R} (b:x.ok) (c:fit (8*x.m+10) N):AH N x.av o K=K (Ck (x.q.den:Int)):=by
 rw[RG];unfold ZS
 rw[Ut,ct,Kl,Yt b c]
 have:=TG (R:=R) (x:=td x.q) (f:=fun e f=>K [(.bool false),(.imm e f 1 false false)])
 refine this.trans ?_
 unfold Ck;rw[decide_eq_false (by omega),Int.natAbs_natCast];rfl
theorem sW (x:RatD) (b:x.ok):qm x.q≤x.m+1:=by
 have m1:x.ns.l.length≤x.m:=Nat.le_max_left _ _
 have m2:x.ds.l.length≤x.m:=Nat.le_max_right _ _
 unfold qm
 by_cases h:val x.ds.l=0
 ·have:x.q=0:=by unfold RatD.q;rw[h,Rat.mkRat_zero]
  rw[this,Rat.zero_num,Rat.zero_den,J9];simp[B6]
 ·obtain⟨a1,_,a3⟩:=aK (Av x.neg x.ns) (val x.ds.l) h
  have c:x.q.num.natAbs≤val x.ns.l:=by show(mkRat _ _).num.natAbs≤_;rw[a1,C2];exact Nat.div_le_self _ _
  have d:x.q.den≤val x.ds.l:=by show(mkRat _ _).den≤_;rw[a3];exact Nat.div_le_self _ _
  have c1:=Nat.le_trans (A6 c) (A1 b.1).2
  have e:=Nat.le_trans (A6 d) (A1 b.2).2
  omega
theorem sX (z:Int) (d:Nat) (k:Nat) (b:z.natAbs<4294967296 ^ k) (c:d<4294967296 ^ k) (e:d≠0):qm (mkRat z d)≤k:=by
 obtain⟨a1,_,a3⟩:=aK z d e
 unfold qm
 have f:(mkRat z d).num.natAbs≤z.natAbs:=by rw[a1];exact Nat.div_le_self _ _
 have i:(mkRat z d).den≤d:=by rw[a3];exact Nat.div_le_self _ _
 have c1:=C8 (Nat.lt_of_le_of_lt f b)
 have j:=C8 (Nat.lt_of_le_of_lt i c)
 omega
theorem gn (q:Rat):q.num.natAbs<4294967296 ^ qm q:=rG (Nat.le_max_left _ _)
theorem gp (q:Rat):q.den<4294967296 ^ qm q:=rG (Nat.le_max_right _ _)
theorem mf (a b:Rat):qm (a*b)≤qm a+qm b:=by
 rw[Rat.mul_def']
 refine sX _ _ _ (Yq (gn a) (gn b)) ?_ (Nat.mul_ne_zero a.den_nz b.den_nz)
 rw[Nat.pow_add];exact Nat.mul_lt_mul'' (gp a) (gp b)
theorem sr {v:Int} (h:v.natAbs<18446744073709551616):qm (v:Rat)≤2:=by
 unfold qm;rw[Rat.num_intCast,Rat.den_intCast,J9]
 have:=M7 h
 simp;omega
theorem mh {N:Nat} {x y:RatD} {o o':Bool} {K:LA→O R} (c:x.ok) (d:y.ok) (b:fit (16*(x.m+y.m)+80) N):AI N x.av o y.av o' K=K (cq (x.q*y.q)):=by
 have e:=sW x c
 have f:=sW y d
 have x1:=gn x.q
 have x2:((x.q.den:Nat):Int).natAbs<4294967296 ^ qm x.q:=by rw[Int.natAbs_natCast];exact gp _
 have y1:=gn y.q
 have y2:((y.q.den:Nat):Int).natAbs<4294967296 ^ qm y.q:=by rw[Int.natAbs_natCast];exact gp _
 have L1:=C8 x1
 have L2:=C8 x2
 have L3:=C8 y1
 have L4:=C8 y2
 have M1:=C8 (Yq x1 y1)
 have M4:=C8 (Yq x2 y2)
 rw[RI];unfold ZW
 rw[Ut,ct,Kl,Yt c (b.le (by omega)),ey,ct,Ut,ct,Kl,Yt d (b.le (by omega)),ey,ct,NR,NR,tS (b.le (show(Af x.q.num.natAbs).length+(Af y.q.num.natAbs).length≤_ by omega)),ct,ez c (b.le (by omega)),ct,ez d (b.le (by omega)),tS (b.le (show(Af ((x.q.den:Nat):Int).natAbs).length+(Af ((y.q.den:Nat):Int).natAbs).length≤_ by omega)),rI (Int.mul_nonneg (by omega) (by omega)) (b.le (show 4*((Af (x.q.num*y.q.num).natAbs).length+(Af (((x.q.den:Nat):Int)*((y.q.den:Nat):Int)).natAbs).length)+10≤_ by omega))]
 have:mkRat (x.q.num*y.q.num) (((x.q.den:Nat):Int)*((y.q.den:Nat):Int)).natAbs=x.q*y.q:=by
  rw[Rat.mul_def',Int.natAbs_mul,Int.natAbs_natCast,Int.natAbs_natCast]
 rw[this];exact kG _ _
theorem aM {N:Nat} {v:Int} {K:LA→O R} (b:-9223372036854775808≤v∧v≤9223372036854775807) (hN:4000≤N):Hf N v K=K (cq (v:Rat)):=by
 have c:=M7 (show v.natAbs<18446744073709551616 by omega)
 rw[V4];unfold Uq
 rw[Lz b (by omega),Lz (by omega) (by omega),rI (by omega) ⟨show 100*(4*((Af v.natAbs).length+(Af (1:Int).natAbs).length)+10)+1000≤N by (rw[show(1:Int).natAbs=1 by rfl,J9];simp;omega),show 4*((Af v.natAbs).length+(Af (1:Int).natAbs).length)+10≤1000000000 by (rw[show(1:Int).natAbs=1 by rfl,J9];simp;omega)⟩]
 have:mkRat v (1:Int).natAbs=(v:Rat):=rH v
 rw[this];exact kG _ _
theorem rJ {N:Nat} {v w:Int} {K:LA→O R} (b:-9223372036854775808≤v∧v≤9223372036854775807) (d:0≤w∧w≤9223372036854775807) (hN:4000≤N):FY N v w K=K (cq (mkRat v w.natAbs)):=by
 have e:=M7 (show v.natAbs<18446744073709551616 by omega)
 have c:=M7 (show w.natAbs<18446744073709551616 by omega)
 rw[ZG];unfold gf
 rw[Lz b (by omega),Lz (by omega) (by omega),rI (by omega) ⟨show 100*(4*((Af v.natAbs).length+(Af w.natAbs).length)+10)+1000≤N by omega,show 4*((Af v.natAbs).length+(Af w.natAbs).length)+10≤1000000000 by omega⟩]
 exact kG _ _
end
end Gx

namespace Gx
open Go Go.Proofs
section
variable {R:Type}
theorem p8 {N:Nat} {n1:Bool} {s1:LS} {o1:Bool} {K:Bool→Nat→LA→O R} (b:Ae s1.l) (d:fit s1.l.length N):VY N (En n1 s1) o1 K=K (decide (-Av n1 s1<0)) (Af (Av n1 s1).natAbs).length (Aa (Af (Av n1 s1).natAbs)):=by
 obtain⟨c1,e⟩:=Lf (z:=-Av n1 s1) (c:=!n1) (m:=val s1.l) (by unfold Av;cases n1<;>simp)
 rw[VZ];unfold gL
 rw[Ki,Le,Sd rfl b d,Fi,c1,C2]
end
end Gx

namespace Gx
open Go Go.Proofs
section
variable {R:Type}
theorem te (z:Int) (f:Bool→O R):Pc (Ck z) f=f (decide (z<0)):=Ki
theorem tg (z:Int) (f:LA→Nat→O R):Lq 1 (List.drop 1 (Ck z)) f=f (Aa (Af z.natAbs)) (Af z.natAbs).length:=Le
theorem rK (v:Nat):Ck (v:Int)=En false (.of (Af v) false false):=by unfold Ck;rw[decide_eq_false (by omega),Int.natAbs_natCast]
theorem su {N:Nat} {z w:Int} {o o':Bool} {K:Bool→O R} (c:fit (Af z.natAbs).length N):Ld N (Ck z) o (Ck w) o' K=K (decide (z=w)):=by
 rw[Rb];unfold Um
 rw[te,te]
 by_cases b:decide (z<0)=decide (w<0)
 ·rw[b,show((decide (w<0)==decide (w<0))==true)=true by simp,ct,tg,tg,ZD rfl rfl c,o_]
  congr 1
  have b:(z<0)↔(w<0):=by simpa using b
  rw[decide_eq_decide]
  constructor
  ·intro h
   have:=congrArg val h
   rw[Ac,Ac] at this;omega
  ·intro h;rw[h]
 ·rw[show((decide (z<0)==decide (w<0))==true)=false by simp;simpa using b,cf]
  have:decide (z=w)=false:=by
   rw[decide_eq_false_iff_not];intro h;subst h;exact b rfl
  rw[this]
end
end Gx

namespace Gx
open Go Go.Proofs
section
variable {R:Type}
theorem tT (z:Int):Ck z=En (decide (z<0)) (.of (Af z.natAbs) false false):=rfl
end
end Gx

namespace Gx
open Go Go.Proofs
section
variable {R:Type}
theorem th (q:Rat) (f:LA→Nat→O R):Lq 1 (List.drop 2 (cq q)) f=f (Aa (Af q.den)) (Af q.den).length:=TG (x:=td q)
theorem sv (q:Rat):(Af q.num.natAbs).length≤qm q:=Nat.le_max_left _ _
theorem sw (q:Rat):(Af q.den).length≤qm q:=Nat.le_max_right _ _
theorem sx {N:Nat} {p q:Rat} {o o':Bool} {K:Bool→O R} (b:fit (qm p) N):Du N (cq p) o (cq q) o' K=K (decide (p=q)):=by
 rw[Rc];unfold Uo
 rw[ey,ct,ey,ct,NR,NR,su (b.le (sv p)),th,th]
 by_cases h:p.num=q.num
 ·rw[decide_eq_true h,show(true==true)=true by rfl,ct,ZD rfl rfl (b.le (sw p)),o_]
  congr 1
  rw[decide_eq_decide]
  constructor
  ·intro c
   have:=congrArg val c
   rw[Ac,Ac] at this
   exact Rat.ext h this
  ·intro e;rw[e]
 ·rw[decide_eq_false h,show(false==true)=false by rfl,cf]
  have:decide (p=q)=false:=by rw[decide_eq_false_iff_not];intro e;exact h (by rw[e])
  rw[this]
theorem rt (q:Rat):q*(q.den:Rat)=(q.num:Rat):=by
 have c:(q.den:Rat)≠0:=by
  have:=q.den_pos
  exact Rat.ne_of_gt (Rat.natCast_pos.2 this)
 have b:q=(q.num:Rat)/((q.den:Int):Rat):=by rw[←Rat.divInt_eq_div,Rat.num_divInt_den]
 have d:((q.den:Int):Rat)=(q.den:Rat):=rfl
 rw[d] at b
 calc q*(q.den:Rat)=(q.num:Rat)/(q.den:Rat)*(q.den:Rat):=by rw[←b]
  _=q.num:=Rat.div_mul_cancel c
end
end Gx

namespace Gx
open Go Go.Proofs
section
variable {R:Type}
theorem NS (z:Int):qm (z:Rat)=max (Af z.natAbs).length 1:=by unfold qm;rw[Rat.num_intCast,Rat.den_intCast,J9];rfl
theorem tR:(Af (1:Int).natAbs).length=1:=by rw[show(1:Int).natAbs=1 by rfl,J9];rfl
end
end Gx
