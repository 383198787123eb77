/- A part of the proof: what it holds is said by each theorem. -/
import Derived.Test.YtlkhmflligkbkaaGreatP3
set_option linter.unusedVariables false
set_option linter.defProp false
set_option linter.unusedSimpArgs false
namespace Gx
open Go Go.Proofs
open IntKind (wrap)
set_option maxRecDepth 100000
noncomputable section
variable {R:Type} (N:Nat)
def Xp (N:Nat) (c:LA) (e d:Bool) (b:LA) (r0:Bool→O R):O R :=
 (cond (Nat.ble 2 (c.length)) (cond ((!e)||(Ba (c.take 2))) (cond (Nat.ble 2 (b.length)) (cond ((!d)||(Ba (b.take 2))) (cond ((Nat.ble 1 2)&&((Nat.beq ((c.take 2).length) 2)&&((Nat.beq ((b.take 2).length) 2)&&(true&&(!false))))) (An .i64 (c.take 2) fun f=>(An .i64 (b.take 2) fun g=>(An .i64 ((c.take 2).drop 1) fun i=>(An .i64 ((b.take 2).drop 1) fun l=>(r0 ((f==g)&&((i==l)&&true))))))) none) none) none) none) none)
def Nk:=(Af (@Xp R)).1
theorem CI:@Nk R=@Xp R:=(Af _).2
def HY (d:Bool) (b:LA) (F:KF R):Bool→O R:=(fun m=>F (.bool m) [(100000,(bP d 0 b))])
theorem HZ (c:LA) (e d:Bool) (b:LA) (F:KF R):Cm [] Dr N 137 [(.pagg c e),(.optr 100000 0)] [(100000,(bP d 0 b))] F=(Nk N c e d b (HY d b F)):=by
 rw[CI]
 kernel_rfl
def CJ (a:LA) (h:Am) (k:KF R):O R :=
 match a,h with
 | [(.pagg c e),(.optr 100000 0)],[(100000,⟨false,false,true,d,0,b,false⟩)]=>(Nk N c e d b (HY d b k))
 | _,_=>none
theorem H_:Ao N 137 @CJ:=by
 intro R Q a h k j;unfold CJ;split;exact Ay (HZ ..) (HZ ..) trivial;exact A0
def nm:=Az (H_ N)
def nn:=Cj (H_ N)
def By (r0:Int→O R) (d:LA) (e:Nat) (g f b:Bool) (c:LA) (k0:Int→Int→O R) (l i:Int):O R :=
 (cond (decide (i<l)) (cond (Ac i e) (cond (Nat.ble 2 ((d.drop ((i.toNat)*2)).length)) (cond ((!f)||(Ba ((d.drop ((i.toNat)*2)).take 2))) (Nk N ((d.drop ((i.toNat)*2)).take 2) false b c (fun m=>(cond m (r0 i) (k0 l (wrap .i64 (i+1)))))) none) none) none) (r0 (-1)))
def A3 (r0:Int→O R) (d:LA) (e:Nat) (g f b:Bool) (c:LA):Nat→Int→Int→O R
 | 0,_,_=>none
 | n+1,l,i=>(By N r0 d e g f b c (A3 r0 d e g f b c n) l i)
def Bh (N:Nat) (r0:Int→O R) (q0:Int→Int→O R) (d:LA) (e:Nat) (g f b:Bool) (c:LA):O R :=
 (q0 ((e:Nat):Int) 0)
def Bc:=(Af (fun (N:Nat) (d:LA) (e:Nat) (g f b:Bool) (c:LA) (r0:Int→O R)=>(Bh N r0 (fun l i=>(A3 N r0 d e g f b c N l i)) d e g f b c))).1
theorem Da (d e g f b c r0):(@Bc R N d e g f b c r0)=(Bh N r0 (fun l i=>(A3 N r0 d e g f b c N l i)) d e g f b c):=by rw[Bc,(Af _).2]
def Di:Hints:={ H:=(hS hL (hS (hS hL (hS (hP [0,1,7,8] hL) hL)) hL)) }
def D0:Ef:=[(137,nm N)]
def Ho (F:KF R):=Ja Tryz.f119 Di (D0 N) [100000] N F
def A7 (b:Bool) (c:LA) (F:KF R):Int→O R:=(fun o=>F (iv o) [(100000,(bP b 0 c))])
def Hp (d:LA) (e:Nat) (g f b:Bool) (c:LA) (l i:Int):St:=⟨[(0,(.imm d e 2 g f)),(1,(.fn 137 [(.optr 100000 0)])),(7,(iv l)),(8,(iv i))],[(100000,(bP b 0 c))]⟩
def Hq (F:KF R):=Ho N F [1,0,1,0] []
theorem C3 (F:KF R) (d:LA) (e:Nat) (g f b:Bool) (c:LA):∀ (n:Nat) (l i:Int),Ap (Hq N F) n (Hp d e g f b c l i)=(A3 N (A7 b c F) d e g f b c n l i)
 | 0,_,_=>by kernel_rfl
 | n+1,l,i=>Eq.trans (by kernel_rfl) (Bn (By N (A7 b c F) d e g f b c · l i) (funext fun l=>funext fun i=>(C3 F d e g f b c n l i)):_)
theorem Dj (d:LA) (e:Nat) (g f b:Bool) (c:LA) (F:KF R):Cm (D0 N) Di N 119 [(.imm d e 2 g f),(.fn 137 [(.optr 100000 0)])] [(100000,(bP b 0 c))] F=(Bc N d e g f b c (A7 b c F)):=by
 rw[Da]
 exact Eq.trans (by kernel_rfl) (Bn (Bh N (A7 b c F) · d e g f b c) (funext fun l=>funext fun i=>(Aj ..).trans (C3 N F d e g f b c N l i)):_)
def Db (a:LA) (h:Am) (k:KF R):O R :=
 match a,h with
 | [(.imm d e 2 g f),(.fn 137 [(.optr 100000 0)])],[(100000,⟨false,false,true,b,0,c,false⟩)]=>(Bc N d e g f b c (A7 b c k))
 | _,_=>none
theorem Dk:Ao N 119 @Db:=by
 intro R Q a h k j;unfold Db;split;exact Ay (Dj ..) (Dj ..) ⟨nn N,trivial⟩;exact A0
def Hr:=Az (Dk N)
def Hs:=Cj (Dk N)
def Cc (d:LA) (e:Nat) (g f b:Bool) (c:LA) (r0:Bool→O R):O R :=
 (Bc N d e false f b c (fun i=>(r0 (decide (i≥0)))))
def Bi:=(Af (@Cc R)).1
theorem Dc:@Bi R=@Cc R:=(Af _).2
def Ij:Ef:=[(119,Hr N)]
def Dl (b:Bool) (c:LA) (F:KF R):Bool→O R:=(fun l=>F (.bool l) [(100000,(bP b 0 c))])
theorem Dm (d:LA) (e:Nat) (g f b:Bool) (c:LA) (F:KF R):Cm (Ij N) Dr N 138 [(.imm d e 2 g f),(.fn 137 [(.optr 100000 0)])] [(100000,(bP b 0 c))] F=(Bi N d e g f b c (Dl b c F)):=by
 rw[Dc]
 kernel_rfl
def Dd (a:LA) (h:Am) (k:KF R):O R :=
 match a,h with
 | [(.imm d e 2 g f),(.fn 137 [(.optr 100000 0)])],[(100000,⟨false,false,true,b,0,c,false⟩)]=>(Bi N d e g f b c (Dl b c k))
 | _,_=>none
theorem Dn:Ao N 138 @Dd:=by
 intro R Q a h k j;unfold Dd;split;exact Ay (Dm ..) (Dm ..) ⟨Hs N,trivial⟩;exact A0
def Ht:=Az (Dn N)
def Hu:=Cj (Dn N)
def NU (b:LA) (e:Bool) (c:LA) (f:Bool) (d:LA) (g:Bool) (r0:Int→O R):O R :=
 (An .i64 c fun i=>(cond ((i != 0)==false) (An .i64 d fun l=>(cond ((cond false true (l==0))==false) (cond (Nat.ble 22 (b.length)) (cond (Nat.ble 2 (c.length)) (cond ((!f)||(Ba (c.take 2))) (U6 N (b.take 22) e (c.take 2) false (fun m n=>(Bi N m n false false g d (fun o=>(cond (cond false true (!o)) (r0 0) (An .i64 (c.drop 1) fun p=>(An .i64 (b.drop 15) fun q=>(cond (decide (p≤q)) (An .i64 (b.drop 13) fun r=>(r0 r)) (An .i64 (b.drop 14) fun s=>(r0 s)))))))))) none) none) none) (r0 0))) (r0 0)))
def Vt:=(Af (@NU R)).1
theorem SC:@Vt R=@NU R:=(Af _).2
def Akj:Ef:=[(118,Ahy N),(138,Ht N)]
def a7 (F:KF R):Int→O R:=(fun t=>F (iv t) [])
theorem a8 (b:LA) (e:Bool) (c:LA) (f:Bool) (d:LA) (g:Bool) (F:KF R):Cm (Akj N) Dr N 85 [(.pagg b e),(.pagg c f),(.pagg d g)] [] F=(Vt N b e c f d g (a7 F)):=by
 rw[SC]
 kernel_rfl
def SD (a:LA) (h:Am) (k:KF R):O R :=
 match a,h with
 | [(.pagg b e),(.pagg c f),(.pagg d g)],[]=>(Vt N b e c f d g (a7 k))
 | _,_=>none
theorem a9:Ao N 85 @SD:=by
 intro R Q a h k j;unfold SD;split;exact Ay (a8 ..) (a8 ..) ⟨Ahz N,Hu N,trivial⟩;exact A0
def Abj:=Az (a9 N)
def Abk:=Cj (a9 N)
def MM (r0:LA→Int→O R) (o:Nat) (i:Int) (f:Bool) (b:LA) (g:Bool) (e l:LA) (k0:Int→LA→LA→O R) (c:Int) (d m:LA):O R :=
 (cond (decide (c<i)) (cond (Nat.ble 3 (d.length)) (cond (Nat.ble 22 (b.length)) (cond (Nat.ble 2 (m.length)) (cond (Ac c o) (cond (Nat.ble 2 ((l.drop (0+((c.toNat)*2))).length)) (Vt N (b.take 22) f (m.take 2) false ((l.drop (0+((c.toNat)*2))).take 2) false (fun z=>(B6 N z (fun aa=>(N0 N (d.take 3) false aa false (fun p=>(cond ((Nat.beq (p.length) 3)&&((Nat.ble 3 (d.length))&&(!false))) (cond (Ac c o) (cond (Nat.ble 2 ((l.drop (0+((c.toNat)*2))).length)) (cond ((Nat.beq (((l.drop (0+((c.toNat)*2))).take 2).length) 2)&&((Nat.ble 2 (m.length))&&(!false))) (Co 1 e fun ab ac=>(cond (Ac c ac) (An .i64 (ab.drop ((c.toNat)*1)) fun ad=>(cond (ad != 2) (k0 (wrap .i64 (c+1)) (setCells d 0 p) (setCells m 0 ((l.drop (0+((c.toNat)*2))).take 2))) (cond (Nat.ble 3 ((setCells d 0 p).length)) (An .i64 (b.drop 5) fun ae=>(B6 N ae (fun af=>(N0 N ((setCells d 0 p).take 3) false af false (fun q=>(cond ((Nat.beq (q.length) 3)&&((Nat.ble 3 ((setCells d 0 p).length))&&(!false))) (cond (Nat.ble 3 ((setCells (setCells d 0 p) 0 q).length)) (cond (Nat.ble 22 (b.length)) (Co 3 (e.drop 1) fun s ag=>(cond (Ac c ag) (cond (Nat.ble 3 ((s.drop ((c.toNat)*3)).length)) (H6 N (b.take 22) f ((s.drop ((c.toNat)*3)).take 3) g (fun ah=>(N0 N ((setCells (setCells d 0 p) 0 q).take 3) false ah false (fun r=>(cond ((Nat.beq (r.length) 3)&&((Nat.ble 3 ((setCells (setCells d 0 p) 0 q).length))&&(!false))) (cond (Nat.ble 3 ((setCells (setCells (setCells d 0 p) 0 q) 0 r).length)) (An .i64 (b.drop 17) fun ai=>(Co 3 (e.drop 2) fun t aj=>(cond (Ac c aj) (cond (Nat.ble 3 ((t.drop ((c.toNat)*3)).length)) (QA N ai ((t.drop ((c.toNat)*3)).take 3) g (fun ak=>(N0 N ((setCells (setCells (setCells d 0 p) 0 q) 0 r).take 3) false ak false (fun u=>(cond ((Nat.beq (u.length) 3)&&((Nat.ble 3 ((setCells (setCells (setCells d 0 p) 0 q) 0 r).length))&&(!false))) (k0 (wrap .i64 (c+1)) (setCells (setCells (setCells (setCells d 0 p) 0 q) 0 r) 0 u) (setCells m 0 ((l.drop (0+((c.toNat)*2))).take 2))) none))))) none) none))) none) none))))) none) none)) none) none) none)))))) none))) none)) none) none) none) none))))))) none) none) none) none) none) (cond (Nat.ble 3 (d.length)) (cond ((Nat.beq 0 0)&&((Nat.beq ((d.take 3).length) 3)&&(Nat.beq 3 3))) (cond (Nat.ble 3 ((d.take 3).length)) (r0 ((d.take 3).take 3) 0) none) none) none))
def Th (r0:LA→Int→O R) (o:Nat) (i:Int) (f:Bool) (b:LA) (g:Bool) (e l:LA):Nat→Int→LA→LA→O R
 | 0,_,_,_=>none
 | n+1,c,d,m=>(MM N r0 o i f b g e l (Th r0 o i f b g e l n) c d m)
def sP (r0:LA→Int→O R) (q0:Nat→LA→Int→LA→LA→O R) (b:LA) (f:Bool) (i:Int) (e:LA) (g:Bool):O R :=
 (cond (Nat.ble 22 (b.length)) (cond (Nat.ble 3 (e.length)) (RT N (b.take 22) f i (e.take 3) g (fun ap v=>(cond (v != 0) (r0 [(.bool false),.nsl,.nsl] v) (cond (Nat.ble 22 (b.length)) (Co 1 e fun al am=>(DC N (b.take 22) f al am false g (fun o aq w l=>(cond (w != 0) (r0 [(.bool false),.nsl,.nsl] w) (B6 N 0 (fun x=>(cond ((Nat.beq 0 0)&&((Nat.beq (x.length) 3)&&(Nat.beq 3 3))) (cond (Nat.ble 22 (b.length)) (Te N (b.take 22) f (fun y=>(cond ((Nat.beq (y.length) 2)&&((Nat.ble 2 2)&&(!false))) (q0 o l 0 x (setCells [(.int .i64 0),(.int .i64 0)] 0 y)) none))) none) none))))))) none)))) none) none)
def WQ:=(Af (fun (N:Nat) (b:LA) (f:Bool) (i:Int) (e:LA) (g:Bool) (r0:LA→Int→O R)=>(sP N r0 (fun o l c d m=>(Th N r0 o i f b g e l N c d m)) b f i e g))).1
theorem zJ (b f i e g r0):(@WQ R N b f i e g r0)=(sP N r0 (fun o l c d m=>(Th N r0 o i f b g e l N c d m)) b f i e g):=by rw[WQ,(Af _).2]
def Akk:Hints:={ H:=(hS hL (hS hL (hS hL (hS hL (hS hL (hS hL (hS (hS hL (hS (hP [3,5,6,10,13,14,42,43] hL) hL)) hL))))))),modes:=[(3,0),(0,0)] }
def Are:Ef:=[(38,Azk N),(64,nW N),(60,F7 N),(84,ki N),(85,Abj N),(81,EF N),(57,KW N),(86,yL N)]
def A4d (F:KF R):=Ja Tryz.f43 Akk (Are N) [] N F
def H' (F:KF R):LA→Int→O R:=(fun an ao=>F (.tup [(.pagg an false),(iv ao)]) [])
def A4e (o:Nat) (i:Int) (f:Bool) (b:LA) (g:Bool) (e l:LA) (c:Int) (d m:LA):St:=⟨[(3,(op 0)),(5,(op 1)),(6,(op 2)),(10,(.own 300003 0 o)),(13,(op 4)),(14,(op 5)),(42,(iv i)),(43,(iv c))],(hq [(bP f 0 b),(bP g 0 e),⟨false,false,false,false,0,[(.bool false),.nsl,.nsl],false⟩,(bQ 2 l),(bQ 0 d),(bQ 0 m)])⟩
def A4f (F:KF R):=A4d N F [1,1,1,1,1,1,0,1,0] []
theorem mB (F:KF R) (o:Nat) (i:Int) (f:Bool) (b:LA) (g:Bool) (e l:LA):∀ (n:Nat) (c:Int) (d m:LA),Ap (A4f N F) n (A4e o i f b g e l c d m)=(Th N (H' F) o i f b g e l n c d m)
 | 0,_,_,_=>by kernel_rfl
 | n+1,c,d,m=>Eq.trans (by kernel_rfl) (Bn (MM N (H' F) o i f b g e l · c d m) (funext fun c=>funext fun d=>funext fun m=>(mB F o i f b g e l n c d m)):_)
theorem Akl (b:LA) (f:Bool) (i:Int) (e:LA) (g:Bool) (F:KF R):Cm (Are N) Akk N 43 [(.pagg b f),(iv i),(.pagg e g)] [] F=(WQ N b f i e g (H' F)):=by
 rw[zJ]
 exact Eq.trans (by kernel_rfl) (Bn (sP N (H' F) · b f i e g) (funext fun o=>funext fun l=>funext fun c=>funext fun d=>funext fun m=>(Aj ..).trans (mB N F o i f b g e l N c d m)):_)
def zK (a:LA) (h:Am) (k:KF R):O R :=
 match a,h with
 | [(.pagg b f),(.int .i64 i),(.pagg e g)],[]=>(WQ N b f i e g (H' k))
 | _,_=>none
theorem Akm:Ao N 43 @zK:=by
 intro R Q a h k j;unfold zK;split;exact Ay (Akl ..) (Akl ..) ⟨Azl N,nX N,F8 N,kj N,Abk N,EG N,KX N,yM N,trivial⟩;exact A0
def Akn:=Az (Akm N)
def Ako:=Cj (Akm N)
def DR (r0:Nat→Int→Int→LA→O R) (e:LA) (c:Nat) (f g d:Bool) (b:LA) (k0:Nat→Int→LA→LA→O R) (l:Nat) (i:Int) (o m:LA):O R :=
 (cond (decide (i<((c:Nat):Int))) (cond (Nat.ble 22 (b.length)) (cond (Nat.ble 2 (m.length)) (cond (Ac i c) (An .i64 (e.drop ((i.toNat)*1)) fun r=>(R_ N (b.take 22) d i (m.take 2) false r (fun p s=>(cond ((Nat.beq (p.length) 2)&&((Nat.ble 2 2)&&(!false))) (cond (!s) (r0 0 i 16 []) (cond (Nat.ble 2 ((setCells [(.int .i64 0),(.int .i64 0)] 0 p).length)) (cond ((Nat.beq (((setCells [(.int .i64 0),(.int .i64 0)] 0 p).take 2).length) 2)&&(Nat.ble 2 2)) (cond ((Nat.ble (l+1) 140737488355328)&&(Nat.ble ((l+1)*16) 140737488355328)) (cond (Nat.ble 2 ((setCells [(.int .i64 0),(.int .i64 0)] 0 p).length)) (cond ((Nat.beq (((setCells [(.int .i64 0),(.int .i64 0)] 0 p).take 2).length) 2)&&((Nat.ble 2 (m.length))&&(!false))) (k0 (l+1) (wrap .i64 (i+1)) ((o.take (l*2))++((setCells [(.int .i64 0),(.int .i64 0)] 0 ((setCells [(.int .i64 0),(.int .i64 0)] 0 p).take 2)).take 2)) (setCells m 0 ((setCells [(.int .i64 0),(.int .i64 0)] 0 p).take 2))) none) none) none) none) none)) none)))) none) none) none) (r0 l ((c:Nat):Int) 0 o))
def Pp (r0:Nat→Int→Int→LA→O R) (e:LA) (c:Nat) (f g d:Bool) (b:LA):Nat→Nat→Int→LA→LA→O R
 | 0,_,_,_,_=>none
 | n+1,l,i,o,m=>(DR N r0 e c f g d b (Pp r0 e c f g d b n) l i o m)
def iU (r0:Nat→Int→Int→LA→O R) (q0:Nat→Int→LA→LA→O R) (b:LA) (d:Bool) (e:LA) (c:Nat) (f g:Bool):O R :=
 (cond (Nat.ble 22 (b.length)) (Kz N (b.take 22) d (fun t=>(cond (!t) (r0 0 0 1 []) (cond (Nat.ble 22 (b.length)) (T8 N (b.take 22) d (fun q=>(cond ((Nat.beq (q.length) 2)&&((Nat.ble 2 2)&&(!false))) (q0 0 0 [] (setCells [(.int .i64 0),(.int .i64 0)] 0 q)) none))) none)))) none)
def SE:=(Af (fun (N:Nat) (b:LA) (d:Bool) (e:LA) (c:Nat) (f g:Bool) (r0:Nat→Int→Int→LA→O R)=>(iU N r0 (fun l i o m=>(Pp N r0 e c f g d b N l i o m)) b d e c f g))).1
theorem sQ (b d e c f g r0):(@SE R N b d e c f g r0)=(iU N r0 (fun l i o m=>(Pp N r0 e c f g d b N l i o m)) b d e c f g):=by rw[SE,(Af _).2]
def zL:Hints:={ H:=(hS hL (hS hL (hS hL (hS hL (hS (hS hL (hS (hP [1,2,7,8,9] hL) hL)) hL))))),nils:=[(4,2),(7,2)],modes:=[(2,2),(0,0),(0,0)] }
def Akp:Ef:=[(52,Qd N),(113,fl N),(121,Azq N)]
def Azz (F:KF R):=Ja Tryz.f67 zL (Akp N) [] N F
def Z2 (F:KF R):Nat→Int→Int→LA→O R:=(fun u v w x=>F (.tup [(.own 300000 0 u),(iv v),(iv w)]) (hq [(bQ 2 x)]))
def Az0 (e:LA) (c:Nat) (f g d:Bool) (b:LA) (l:Nat) (i:Int) (o m:LA):St:=⟨[(1,(.imm e c 1 f g)),(2,(op 0)),(7,(.own 300001 0 l)),(8,(op 2)),(9,(iv i))],(hq [(bP d 0 b),(bQ 2 o),(bQ 0 m)])⟩
def Az1 (F:KF R):=Azz N F [1,1,1,1,0,1,0] []
theorem gD (F:KF R) (e:LA) (c:Nat) (f g d:Bool) (b:LA):∀ (n l:Nat) (i:Int) (o m:LA),Ap (Az1 N F) n (Az0 e c f g d b l i o m)=(Pp N (Z2 F) e c f g d b n l i o m)
 | 0,_,_,_,_=>by kernel_rfl
 | n+1,l,i,o,m=>Eq.trans (by kernel_rfl) (Bn (DR N (Z2 F) e c f g d b · l i o m) (funext fun l=>funext fun i=>funext fun o=>funext fun m=>(gD F e c f g d b n l i o m)):_)
theorem zM (b:LA) (d:Bool) (e:LA) (c:Nat) (f g:Bool) (F:KF R):Cm (Akp N) zL N 67 [(.pagg b d),(.imm e c 1 f g)] [] F=(SE N b d e c f g (Z2 F)):=by
 rw[sQ]
 exact Eq.trans (by kernel_rfl) (Bn (iU N (Z2 F) · b d e c f g) (funext fun l=>funext fun i=>funext fun o=>funext fun m=>(Aj ..).trans (gD N F e c f g d b N l i o m)):_)
def sR (a:LA) (h:Am) (k:KF R):O R :=
 match a,h with
 | [(.pagg b d),(.imm e c 1 f g)],[]=>(SE N b d e c f g (Z2 k))
 | _,_=>none
theorem zN:Ao N 67 @sR:=by
 intro R Q a h k j;unfold sR;split;exact Ay (zM ..) (zM ..) ⟨Qe N,fm N,Azr N,trivial⟩;exact A0
def Az2:=Az (zN N)
def Az3:=Cj (zN N)
end
end Gx

namespace Gx
open Go Go.Proofs
section
variable {R:Type}
theorem Az4 {N:Nat} {K:Bool→O R} {l:List Int} {d e:Bool} {c:Int} (k:l.length≤1000000000000):∀ (m j fuel:Nat),j+m=l.length→m<fuel→W6 N K (Av l) l.length d e c fuel (j:Int)=K (decide (c ∈ l.drop j))
 | 0,j,fuel+1,C,_=>by
  rw[W6];unfold UI
  rw[Lm (by omega),cf,Es (by omega)];rfl
 | m+1,j,fuel+1,C,D=>by
  rw[W6];unfold UI
  have h:j<l.length:=by omega
  rw[Jy h,ct,Aa h,ct,D8 h,wS (by omega),Az4 k m (j+1) fuel (by omega) (by omega),Ci h]
  by_cases e:l[j]=c
  ·rw[show(l[j]==c)=true by simpa using e,ct];congr 1;simp[e]
  ·rw[show(l[j]==c)=false by simpa using e,cf];congr 1;rw[decide_eq_decide,List.mem_cons]
   constructor
   ·exact .inr
   ·rintro(h | h)
    ·exact absurd h.symm e
    ·exact h
theorem Bdf {N:Nat} {K:Bool→O R} {l:List Int} {n:Nat} {d e:Bool} {c:Int} (hn:n=l.length) (k:l.length≤1000) (hN:1100≤N):mv N (Av l) n d e c K=K (decide (c ∈ l)):=by
 subst hn
 rw[Afp];unfold Ab5
 exact Az4 (by omega) l.length 0 N (by omega) (by omega)
theorem sS {N:Nat} {K:Bool→O R} {u:UnitD} {o:Bool} {h k:Int} (C:u.away.l.length≤1000) (hN:1100≤N) (D:k=0∨k=1∨k=2):T9 N u.av o h k K=K (nk u h k):=by
 rw[aX];unfold WK
 simp only[Bd9,Bdf rfl C hN]
 unfold nk
 rcases D with rfl | rfl | rfl
 ·rfl
 ·rw[show(((1:Int)==0)==false)=true from rfl,ct,show(((1:Int)==1)==false)=false from rfl,cf];rfl
 ·rfl
theorem Bdg {u:UnitD} {s:StD} {t:StD} (hs:Cw u=true) (C:Vs u s) (h:t ∈ Ii u s):t.k=0∨t.k=1∨t.k=2:=(vJ hs (sL hs C t h)).2.2
theorem vN {N:Nat} {X:O R} {K:LA→Bool→O R} {u:UnitD} {L:List StD} {o:Bool} {h k:Int} (G:u.away.l.length≤1000) (hN:1100≤N) (hL:L.length≤1000) (I:∀ t ∈ L,t.k=0∨t.k=1∨t.k=2):∀ (m j fuel:Nat),j+m=L.length→m<fuel →
  (cond (nk u h k) (a6 (L.drop j) k) none=none→K [(.int .i64 0),(.int .i64 0)] false=X)→(∀ t,cond (nk u h k) (a6 (L.drop j) k) none=some t→K t.av true=X) →
  Po N K h k L.length o u.av (L.flatMap StD.av) fuel (j:Int)=X
 | 0,j,fuel+1,V,_,D,_=>by
  rw[Po];unfold DQ
  rw[Lm (by omega),cf]
  exact D (by rw[Es (by omega)];cases nk u h k<;>rfl)
 | m+1,j,fuel+1,V,Y,D,F=>by
  rw[Po];unfold DQ
  have C:j<L.length:=by omega
  rw[Jy C,ct,Aa C,ct,vL C,Bbr,WO,WP,Azw,Bda,oX,Awf,wS (by omega)]
  rw[Ci C] at D F
  unfold a6 at D F
  simp only[List.find?_cons] at D F
  cases M:(L[j].k==k) with
  | true =>
   rw[M] at D F
   have S:k=0∨k=1∨k=2:=by
    have:=I L[j] (List.getElem_mem C)
    rwa [show L[j].k=k by simpa using M] at this
   rw[show(true==true)=true from rfl,ct,Du,ct,B7,sS G hN S]
   cases T:nk u h k with
   | true=>rw[T] at F;exact F _ rfl
   | false =>
    rw[T] at D
    rw[show(cond true false false)=false from rfl,cf]
    exact vN G hN hL I m (j+1) fuel (by omega) (by omega) (fun _=>D rfl) (fun t U=>by rw[T] at U;cases U)
  | false =>
   rw[M] at D F
   rw[show(false==true)=false from rfl,cf]
   exact vN G hN hL I m (j+1) fuel (by omega) (by omega) D F
theorem Bdh {N:Nat} {X:O R} {K:LA→Bool→O R} {u:UnitD} {s:StD} {o d:Bool} {h k:Int} (hs:Cw u=true) (C:Vs u s) (D:u.away.l.length≤1000) (hN:1100≤N)
  (F:Wl u h s k=none→K [(.int .i64 0),(.int .i64 0)] false=X) (G:∀ t,Wl u h s k=some t→K t.av true=X):R_ N u.av o h s.av d k K=X:=by
 rw[sJ];unfold iS
 rw[Du,ct,oX,ct,Awf,sN,ct,B7,mA hN hs C]
 have:=iT (u:=u) (s:=s)
 exact vN D hN (by omega) (fun t I=>Bdg hs C I) (Ii u s).length 0 N (by omega) (by omega) F G
theorem Bgo:((Nat.beq (List.length [(AV.int .i64 0),(.int .i64 0)]) 2)&&((Nat.ble 2 2)&&(!false)))=true:=rfl
theorem An3 {N:Nat} {X:O R} {K:Nat→Int→Int→LA→O R} {u:UnitD} {ks:List Int} {i j o:Bool} (hN:1100≤N) (hs:Cw u=true) (Y:ks.length≤1000) (S:u.away.l.length≤1000):∀ (m h fuel:Nat) (s:StD) (l:List StD),h+m=ks.length→m<fuel→l.length=h→Vs u s →
  ((Dz u h s (ks.drop h)).2=true→K ks.length ks.length 0 ((l++(Dz u h s (ks.drop h)).1).flatMap StD.av)=X)→((Dz u h s (ks.drop h)).2=false→K 0 ((l++(Dz u h s (ks.drop h)).1).length:Nat) 16 []=X) →
  Pp N K (Av ks) ks.length i j o u.av fuel l.length (h:Int) (l.flatMap StD.av) s.av=X:=by
 intro m
 induction m with
 | zero =>
  intro h fuel s l T U G D F _
  obtain⟨fuel,rfl⟩:∃ k,fuel=k+1:=⟨fuel - 1,by omega⟩
  rw[Pp];unfold DR
  rw[Lm (by omega),cf,show l.length=ks.length by omega]
  rw[Es (by omega)] at F
  simpa[Dz] using F rfl
 | succ m V =>
  intro h fuel s l T U G D F I
  obtain⟨fuel,rfl⟩:∃ k,fuel=k+1:=⟨fuel - 1,by omega⟩
  rw[Pp];unfold DR
  have C:h<ks.length:=by omega
  rw[Jy C,ct,Du,ct,oX,ct,Aa C,ct,D8 C,B7,Awf]
  rw[Ci C,Dz] at F I
  refine Bdh hs D S hN (fun hn=>?_) (fun t M=>?_)
  ·rw[hn] at I
   rw[Bgo,ct]
   simpa[G] using I rfl
  ·rw[M] at F I
   rw[Azw,ct,show(!true)=false from rfl,cf,Bda,oX,ct,Awf,Bel,ct,A8x (by omega),ct,ct,show ∀ t:StD,((Nat.beq (List.length t.av) 2)&&(true&&(!false)))=true from fun _=>rfl,ct,Bda,Awf,A51,SB,wS (by omega)]
   have:=V (h+1) fuel t (l++[t]) (by omega) (by omega) (by simp;omega) (sO hs D M).1
    (fun L=>by have:=F L;simpa using this) (fun L=>by have:=I L;simpa using this)
   simpa using this
theorem Az5 {N:Nat} {X:O R} {K:Nat→Int→Int→LA→O R} {u:UnitD} {ks:List Int} {n:Nat} {i j o:Bool} (hN:1100≤N) (hs:Cw u=true) (k:u.away.l.length≤1000) (C:ks.length≤1000) (hn:n=ks.length)
  (D:(Dz u 0 (Cz u) ks).2=true→K ks.length ks.length 0 ((Dz u 0 (Cz u) ks).1.flatMap StD.av)=X) (F:(Dz u 0 (Cz u) ks).2=false→K 0 ((Dz u 0 (Cz u) ks).1.length:Nat) 16 []=X) :
  SE N u.av o (Av ks) n i j K=X:=by
 subst hn
 rw[sQ];unfold iU
 rw[Du,ct,B7,K3,hs,show(!true)=false from rfl,cf,ct,SA hs,Azw,ct,Bda]
 exact An3 hN hs C k ks.length 0 N (Cz u) [] (by omega) (by omega) rfl (EO hs) (by simpa using D) (by simpa using F)
def Vu (u:UnitD) (s t:StD):Int:=cond (s.k==0&&!(t.k==0)) (cond (decide (s.h≤u.hotHours)) u.hotCost u.coldCost) 0
theorem Bbu {N:Nat} {s t:StD} {d b:Bool} {K:Bool→O R}:Nk N s.av d b t.av K=K ((s.k==t.k)&&((s.h==t.h)&&true)):=by
 rw[CI];unfold Xp
 simp only[oX,Awf,sN,A4c,ct,lw,WM]
theorem Bgp {s t:StD} (e:¬ s=t):((s.k==t.k)&&((s.h==t.h)&&true))=false:=by
 cases C:((s.k==t.k)&&((s.h==t.h)&&true)) with
 | false=>rfl
 | true=>exact absurd ((A53 _ _).1 C) e
theorem Arf {N:Nat} {X:O R} {K:Int→O R} {L:List StD} {a b c:Bool} {t:StD} (hL:L.length≤1000) (hX:∀ i:Nat,K (i:Int)=X):∀ (m j fuel:Nat),j+m=L.length→m<fuel→t ∈ L.drop j →
  A3 N K (L.flatMap StD.av) L.length a b c t.av fuel (L.length:Int) (j:Int)=X
 | 0,j,fuel+1,C,_,k=>by rw[Es (by omega)] at k;simp at k
 | m+1,j,fuel+1,C,D,k=>by
  rw[A3];unfold By
  have h:j<L.length:=by omega
  rw[Jy h,ct,Aa h,ct,A52 h,WO,ct,WP,sN,ct,Bbu]
  by_cases e:L[j]=t
  ·rw[(A53 _ _).2 e,ct];exact hX j
  ·rw[Bgp e,cf,wS (by omega)]
   rw[Ci h] at k
   exact Arf hL hX m (j+1) fuel (by omega) (by omega) (by
    rcases List.mem_cons.1 k with k | k
    ·exact absurd k.symm e
    ·exact k)
theorem Akq {N:Nat} {K:Int→O R} {u:UnitD} {s t:StD} {o d f:Bool} (hN:1100≤N) (hs:Cw u=true) (D:Vs u s) (G:t ∈ Ii u s):Vt N u.av o s.av d t.av f K=K (Vu u s t):=by
 rw[SC];unfold NU
 rw[lw,lw]
 unfold Vu
 by_cases C:s.k=0
 ·rw[show((s.k != 0)==false)=true by simp[C],ct,show(s.k==0)=true by simpa using C]
  by_cases F:t.k=0
  ·rw[show(t.k==0)=true by simpa using F];rfl
  ·rw[show(t.k==0)=false by simpa using F,show((cond false true false)==false)=true from rfl,ct,Du,ct,oX,ct,Awf,sN,ct,B7,sM (by omega) hs D]
   rw[Dc];unfold Cc
   rw[Da];unfold Bh
   have:=iT (u:=u) (s:=s)
   refine Arf (by omega) (fun i=>?_) (Ii u s).length 0 N (by omega) (by omega) G
   rw[show decide ((i:Int)≥0)=true by simp]
   dsimp only
   rw[show(cond false true (!true))=false from rfl,cf,WM,Bgb,Bhe,Bhf]
   cases decide (s.h≤u.hotHours)<;>rfl
 ·rw[show((s.k != 0)==false)=false by simp[C],cf,show(s.k==0)=false by simpa using C];rfl
end
end Gx

namespace Gx
open Go Go.Proofs
section
variable {R:Type}
structure PD where
 lo:Int
 hi:Int
def PD.av (p:PD):LA:=[.int .i64 p.lo,.int .i64 p.hi]
def tb (n:Nat) (g:Nat→PD):LA:=((List.range n).map g).flatMap PD.av
def A05 (g:Nat→PD) (i:Nat) (v:PD):Nat→PD:=fun j=>if j=i then v else g j
theorem Z3 {n:Nat} {g g':Nat→PD} (h:∀ i,i<n→g i=g' i):tb n g=tb n g':=by
 unfold tb;rw[List.map_congr_left (fun i hi=>h i (by simpa using hi))]
theorem Bfj (n:Nat) (g:Nat→PD):(tb n g).length=n*2:=by
 unfold tb
 induction n with
 | zero=>rfl
 | succ n k=>rw[List.range_succ,List.map_append,List.flatMap_append,List.length_append,k];simp[PD.av];omega
theorem Bem {n j:Nat} {g:Nat→PD} (h:j<n):List.drop (j*2) (tb n g)=(g j).av++(((List.range n).map g).drop (j+1)).flatMap PD.av:=by
 unfold tb
 rw[Bl (e:=PD.av) (sz:=2) (fun _=>rfl) _ j (by simpa using h)];simp
theorem sT {n j:Nat} {g:Nat→PD} (h:j<n) {f:Int→O R}:An .i64 (List.drop (0+(Int.toNat (j:Int))*2) (tb n g)) f=f (g j).lo:=by
 rw[Int.toNat_natCast,Nat.zero_add,Bem h];exact A4
theorem sU {n j:Nat} {g:Nat→PD} (h:j<n) {f:Int→O R}:An .i64 (List.drop ((0+(Int.toNat (j:Int))*2)+1) (tb n g)) f=f (g j).hi:=by
 rw[Int.toNat_natCast,Nat.zero_add,←List.drop_drop,Bem h];exact A4
theorem Bbv {n j:Nat} {g:Nat→PD} (h:j<n):((Nat.beq 2 2)&&((Nat.ble ((0+(Int.toNat (j:Int))*2)+2) (List.length (tb n g)))&&(!false)))=true:=by
 rw[Int.toNat_natCast,Bfj];simp;omega
theorem Bfk {n j:Nat} {g:Nat→PD} {p:PD} (h:j<n):((Nat.beq (List.length p.av) 2)&&((Nat.ble ((0+(Int.toNat (j:Int))*2)+2) (List.length (tb n g)))&&(!false)))=true:=Bbv h
theorem zO {α:Type} {e:α→LA} {sz:Nat} (k:∀ a,(e a).length=sz):∀ (l:List α) (j:Nat) (v:α),j<l.length→C0 (l.flatMap e) (j*sz) (e v)=(l.set j v).flatMap e
 | a::r,0,v,_=>by
  unfold C0
  rw[Nat.zero_mul,List.take_zero,List.nil_append,Nat.zero_add,k,List.flatMap_cons,List.drop_append,k,Nat.sub_self,List.drop_eq_nil_of_le (by rw[k];exact Nat.le_refl _)];simp
 | a::r,j+1,v,h=>by
  have C:=zO k r j v (by simpa using h)
  unfold C0 at C ⊢
  rw[List.flatMap_cons,List.take_append,List.drop_append,k,k,List.take_of_length_le (by rw[k,Nat.add_mul];omega),List.drop_eq_nil_of_le (by rw[k,Nat.add_mul];omega),show(j+1)*sz - sz=j*sz by rw[Nat.add_mul];omega,show(j+1)*sz+sz - sz=j*sz+sz by rw[Nat.add_mul];omega]
  rw[k] at C
  rw[List.set_cons_succ,List.flatMap_cons,←C];simp
theorem A4g {n j:Nat} {g:Nat→PD} {v:PD} (h:j<n):C0 (tb n g) (0+(Int.toNat (j:Int))*2) v.av=tb n (A05 g j v):=by
 rw[Int.toNat_natCast,Nat.zero_add]
 unfold tb
 rw[zO (e:=PD.av) (sz:=2) (fun _=>rfl) _ j v (by simpa using h)]
 congr 1
 refine List.ext_getElem (by simp) fun i k C=>?_
 rw[List.getElem_set]
 simp only[List.getElem_map,List.getElem_range,A05]
 by_cases e:j=i
 ·subst e;simp
 ·rw[if_neg e,if_neg (fun h=>e h.symm)]
theorem Bdi (n:Nat):List.flatten (List.replicate n ([(.int .i64 0),(.int .i64 0)]:LA))=tb n fun _=>⟨0,0⟩:=by
 unfold tb
 induction n with
 | zero=>rfl
 | succ n k =>
  rw[List.replicate_succ',List.flatten_append,k,List.range_succ,List.map_append,List.flatMap_append];rfl
theorem Bdj {n j:Nat} {g:Nat→PD} {v:PD} (h:j<n):setCells (tb n g) (0+(Int.toNat (j:Int))*2) v.av=tb n (A05 g j v):=A4g h
def Ed (ks:List Int) (h:Nat):Bool:=ks.getD h 0==2
theorem Qq {ks:List Int} {h:Nat} (k:h<ks.length):Ed ks h=(ks[h]==2):=by unfold Ed;rw[List.getD_eq_getElem?_getD,List.getElem?_eq_getElem k];rfl
section
variable (u:UnitD) (ks:List Int)
def Rz:Nat→Bool
 | 0=>u.state==2
 | h+1=>Ed ks h
def gF:Nat→PD
 | 0=>cond (Ed ks 0) (cond (u.state==2) ⟨Iq u.min (u.output - u.rampDown),Bv u.max (u.output+u.rampUp)⟩ ⟨u.min,u.startRamp⟩) ⟨0,0⟩
 | h+1=>cond (Ed ks (h+1)) (cond (Ed ks h) ⟨Iq u.min ((gF h).lo - u.rampDown),Bv u.max ((gF h).hi+u.rampUp)⟩ ⟨u.min,u.startRamp⟩) ⟨0,0⟩
def IA (n h:Nat):PD:=cond (Ed ks h&&(decide (h+1<n)&&!Ed ks (h+1))) ⟨(gF u ks h).lo,Bv (gF u ks h).hi u.stopRamp⟩ (gF u ks h)
def Bg7 (n:Nat):Nat→PD
 | 0=>IA u ks n (n - 1)
 | i+1=>cond (Ed ks (n - 2 - i)&&Ed ks (n - 1 - i)) ⟨Iq (IA u ks n (n - 2 - i)).lo ((Bg7 n i).lo - u.rampUp),Bv (IA u ks n (n - 2 - i)).hi ((Bg7 n i).hi+u.rampDown)⟩ (IA u ks n (n - 2 - i))
def NZ (n h:Nat):PD:=Bg7 u ks n (n - 1 - h)
theorem sV {n:Nat} (hn:0<n):NZ u ks n (n - 1)=IA u ks n (n - 1):=by unfold NZ;rw[Nat.sub_self];rfl
theorem gG {n h:Nat} (k:h+1<n):NZ u ks n h=cond (Ed ks h&&Ed ks (h+1)) ⟨Iq (IA u ks n h).lo ((NZ u ks n (h+1)).lo - u.rampUp),Bv (IA u ks n h).hi ((NZ u ks n (h+1)).hi+u.rampDown)⟩ (IA u ks n h):=by
 unfold NZ
 rw[show n - 1 - h=(n - 1 - (h+1))+1 by omega,Bg7,show n - 2 - (n - 1 - (h+1))=h by omega,show n - 1 - (n - 1 - (h+1))=h+1 by omega]
end
section
variable {u:UnitD} {ks:List Int} {n:Nat}
structure UOk (u:UnitD):Prop where
 a:0≤u.min∧u.min≤u.max∧u.max≤1048576
 b:0≤u.rampUp∧u.rampUp≤1048576∧0≤u.rampDown∧u.rampDown≤1048576
 c:u.min≤u.startRamp∧u.startRamp≤u.max∧u.min≤u.stopRamp∧u.stopRamp≤u.max
 d:u.state=2→u.min≤u.output∧u.output≤u.max
theorem Avo (g:UOk u):∀ h,0≤(gF u ks h).lo∧(gF u ks h).lo≤1048576∧0≤(gF u ks h).hi∧(gF u ks h).hi≤1048576∧(Ed ks h=true→u.min≤(gF u ks h).lo∧(gF u ks h).lo≤u.max∧u.min≤(gF u ks h).hi∧(gF u ks h).hi≤u.max)
 | 0=>by
  obtain⟨a,b,c,d⟩:=g
  unfold gF
  cases Ed ks 0 with
  | false=>simp
  | true =>
   by_cases hs:u.state=2
   ·have:=d hs;rw[show(u.state==2)=true by simpa using hs];simp only[cond_true,Jq,Sn];omega
   ·rw[show(u.state==2)=false by simpa using hs];simp only[cond_true,cond_false];omega
 | h+1=>by
  have k:=Avo g h
  obtain⟨a,b,c,d⟩:=g
  rw[gF]
  cases Ed ks (h+1) with
  | false=>simp
  | true =>
   cases C:Ed ks h with
   | true=>have:=k.2.2.2.2 C;simp only[cond_true,Jq,Sn];omega
   | false=>simp only[cond_true,cond_false];omega
theorem Az6 (g:UOk u) (h:Nat):(IA u ks n h).lo=(gF u ks h).lo∧(IA u ks n h).hi≤(gF u ks h).hi∧0≤(IA u ks n h).hi∧(Ed ks h=true→u.min≤(IA u ks n h).hi):=by
 have k:=Avo (ks:=ks) g h
 obtain⟨a,b,c,d⟩:=g
 unfold IA
 cases C:Ed ks h<;>cases decide (h+1<n)<;>cases Ed ks (h+1)<;>simp only[Bool.and_true,Bool.true_and,Bool.not_true,Bool.not_false,Bool.and_false,Bool.false_and,cond_true,cond_false,Jq]<;>(have:=k.2.2.2.2;simp[C] at this ⊢;try omega)
theorem Ben {h:Nat} (k:Ed ks (h+1)=true):IA u ks n h=gF u ks h:=by unfold IA;rw[k];simp
theorem Avp (g:UOk u):∀ (i h:Nat),h+i+1=n→(IA u ks n h).lo≤(NZ u ks n h).lo∧(NZ u ks n h).hi≤(IA u ks n h).hi∧(NZ u ks n h).lo≤1048576∧0≤(NZ u ks n h).hi
 | 0,h,hi=>by
  rw[show h=n - 1 by omega,sV _ _ (by omega)]
  have:=Az6 (ks:=ks) (n:=n) g (n - 1);have:=Avo (ks:=ks) g (n - 1);omega
 | i+1,h,hi=>by
  have k:=Avp g i (h+1) (by omega)
  have:=Az6 (ks:=ks) (n:=n) g h;have:=Avo (ks:=ks) g h
  have C:=g.b
  rw[gG u ks (by omega)]
  cases (Ed ks h&&Ed ks (h+1)) with
  | true=>simp only[cond_true,Jq,Sn];omega
  | false=>simp only[cond_false];omega
theorem A55 (g:UOk u) (C:∀ h,h<n→Ed ks h=true→(IA u ks n h).lo≤(IA u ks n h).hi):∀ (i h:Nat),h+i+1=n→Ed ks h=true→(NZ u ks n h).lo≤(NZ u ks n h).hi
 | 0,h,hi,k=>by
  rw[show h=n - 1 by omega,sV _ _ (by omega)]
  exact C _ (by omega) (by rw[show n - 1=h by omega];exact k)
 | i+1,h,hi,k=>by
  rw[gG u ks (n:=n) (h:=h) (by omega),k,Bool.true_and]
  have F:=C h (by omega) k
  cases D:Ed ks (h+1) with
  | false=>exact F
  | true =>
   have G:=A55 g C i (h+1) (by omega) D
   have r:=Avp (ks:=ks) (n:=n) g i (h+1) (by omega)
   have e:=Az6 (ks:=ks) (n:=n) g (h+1)
   have I:=g.b
   rw[Ben D] at F ⊢
   have f:gF u ks (h+1)=⟨Iq u.min ((gF u ks h).lo - u.rampDown),Bv u.max ((gF u ks h).hi+u.rampUp)⟩:=by rw[gF,D,k];rfl
   rw[f] at e
   simp only[Jq,Sn] at e
   simp only[cond_true,Jq,Sn];omega
def N4 (u:UnitD) (ks:List Int) (n:Nat):Bool:=(List.range n).any fun h=>Ed ks h&&decide ((IA u ks n h).lo>(IA u ks n h).hi)
theorem Bbw (g:UOk u):N4 u ks n=(List.range n).any fun h=>decide ((NZ u ks n h).lo>(NZ u ks n h).hi):=by
 cases k:N4 u ks n with
 | true =>
  symm
  unfold N4 at k
  rw[List.any_eq_true] at k ⊢
  obtain⟨h,C,I⟩:=k
  refine⟨h,C,?_⟩
  simp at I C ⊢
  have:=Avp (ks:=ks) (n:=n) g (n - 1 - h) h (by omega)
  omega
 | false =>
  symm
  rw[List.any_eq_false]
  intro h C
  simp at C
  cases D:Ed ks h with
  | true =>
   have:=A55 g (ks:=ks) (n:=n) (fun h' F G=>by
    unfold N4 at k
    rw[List.any_eq_false] at k
    have:=k h' (by simpa using F)
    simp[G] at this;omega) (n - 1 - h) h (by omega) D
   simp;omega
  | false =>
   have e:IA u ks n h=⟨0,0⟩:=by
    unfold IA;rw[D];simp only[Bool.false_and,cond_false]
    cases h<;>(rw[gF,D];rfl)
   have:NZ u ks n h=⟨0,0⟩:=by
    by_cases L:h+1<n
    ·rw[gG u ks L,D];exact e
    ·rw[show h=n - 1 by omega] at e ⊢
     rw[sV _ _ (by omega)];exact e
   rw[this];simp
end
end
end Gx

namespace Gx
open Go Go.Proofs
section
variable {R:Type}
structure PlanD where
 st:Sl Int
 en:Sl RatD
 re:Sl RatD
def PlanD.av (p:PlanD):LA:=[p.st.av 1 HC,p.en.av 3 RatD.av,p.re.av 3 RatD.av]
theorem p0 {p:PlanD} {f:LA→Nat→O R}:Co 1 p.av f=f (Av p.st.l) p.st.l.length:=by rw[←Fz];exact H8
theorem p1 {p:PlanD} {f:LA→Nat→O R}:Co 3 (List.drop 1 p.av) f=f (p.en.l.flatMap RatD.av) p.en.l.length:=H8
theorem p2 {p:PlanD} {f:LA→Nat→O R}:Co 3 (List.drop 2 p.av) f=f (p.re.l.flatMap RatD.av) p.re.l.length:=H8
theorem Bgq (p:PlanD):Nat.ble 3 (List.length p.av)=true:=rfl
theorem Bgr (p:PlanD):List.take 3 p.av=p.av:=rfl
theorem Arg (x:RatD) (r:LA):Nat.ble 3 (List.length (x.av++r))=true:=rfl
theorem vO (x:RatD) (r:LA):List.take 3 (x.av++r)=x.av:=rfl
def okR (l:List RatD):Prop:=∀ x ∈ l,x.is x.q 4
theorem okR.at {l:List RatD} (h:okR l) {i:Nat} (hi:i<l.length):(l[i]).is (l[i]).q 4:=h _ (List.getElem_mem hi)
def uR (u:UnitD):Prop:=(0≤u.min∧u.min≤1048576)∧(0≤u.max∧u.max≤1048576)∧(0≤u.rampUp∧u.rampUp≤1048576)∧(0≤u.rampDown∧u.rampDown≤1048576)∧(0≤u.reserve∧u.reserve≤1048576)∧(0≤u.startRamp∧u.startRamp≤1048576)∧(0≤u.stopRamp∧u.stopRamp≤1048576)∧(0≤u.noLoad∧u.noLoad≤1048576)∧(0≤u.hotCost∧u.hotCost≤1048576)∧(0≤u.coldCost∧u.coldCost≤1048576)∧(0≤u.reservePrice∧u.reservePrice≤1048576)∧(0≤u.output∧u.output≤1048576)
theorem Yu {u:UnitD} {h:Int} (C:De u h=true):Cw u=true∧uR u∧(1≤h∧h≤24):=by
 simp only[De,Bool.and_eq_true,Fq,decide_eq_true_eq] at C
 obtain⟨U,F,V,Y,h5,h6,h7,h8,h9,G,I,L,M,S,k,T⟩:=C
 refine⟨F,?_,by omega⟩
 have ho:0≤u.output∧u.output≤1048576:=by
  unfold A3g at k
  cases D:(u.state==2) with
  | true=>rw[D] at k;simp[Fq] at k;omega
  | false=>rw[D] at k;simp at k;omega
 unfold uR;omega
def np (u:UnitD) (on:Bool) (e r:Rat):Bool:=cond on (decide ((u.min:Rat)≤e)&&(Bbm r 0 u.reserve&&decide (e+r≤(u.max:Rat)))) (decide (e=0)&&decide (r=0))
def Akr (u:UnitD) (was on:Bool) (v e r:Rat):Bool:=cond (on&&was) (decide (e+r - v≤(u.rampUp:Rat))&&decide (v - e≤(u.rampDown:Rat))) (cond on (decide (e+r≤(u.startRamp:Rat))) (cond was (decide (v≤(u.stopRamp:Rat))) true))
theorem Arh {q:Rat}:(q.num.sign==0)=decide (q=0):=by
 rw[Bool.eq_iff_iff];simp[Int.sign_eq_zero_iff_zero,Rat.num_eq_zero]
section
variable {N:Nat} {K:Bool→O R} {x y z:RatD} {e r v:Rat} {m:Nat} {o o' o'':Bool} {u:UnitD} {c:Int}
theorem Bgs (k:x.is e m) (C:fit m N) {K:Int→O R}:Sa N x.av o K=K e.num.sign:=by
 rw[L9 k.1 (C.le k.2.2),k.2.1]
theorem Bho (k:x.is e m) (C:fit (8*m+10) N) {K:Int→O R}:GP N x.av o K=K e.num.sign:=by
 rw[y5 k.1 (C.le (by have:=k.2.2;omega)),k.2.1]
theorem Z4 (D:x.is e m) (k:-9223372036854775808≤c∧c≤9223372036854775807) (C:fit (4*(m+2)+10) N):Qm N x.av o c K=K (decide (e≤(c:Rat))):=by
 rw[lk];unfold nh
 rw[b3,ct,lN]
 refine Il k (by have:=C.1;omega) fun a F=>?_
 rw[A9d D (F.is (qi k)) C,Bbl]
theorem Acc {X:O R} {K:LA→O R} {n:Nat} (k:x.is e m) (C:y.is r n) (F:fit (8*(m+n)+40) N) (h:∀ d:RatD,d.can (e+r)→K d.av=X):N0 N x.av o y.av o' K=X:=by
 obtain⟨d,D,e'⟩:=uj (R:=R) (N:=N) (o:=o) (o':=o') k.1 C.1 (F.le (by have:=k.2.2;have:=C.2.2;omega))
 rw[e'];exact h d (by rw[k.2.1,C.2.1] at D;exact D)
theorem Avq {X:O R} {K:LA→O R} {n:Nat} (k:x.is e m) (C:y.is r n) (F:fit (8*(m+n)+40) N) (h:∀ d:RatD,d.can (e*r)→K d.av=X):NI N x.av o y.av o' K=X:=by
 obtain⟨d,D,e'⟩:=Aqy (R:=R) (N:=N) (o:=o) (o':=o') k.1 C.1 (F.le (by have:=k.2.2;have:=C.2.2;omega))
 rw[e'];exact h d (by rw[k.2.1,C.2.1] at D;exact D)
theorem Abl {on:Bool} (C:x.is e 4) (D:y.is r 4) (F:uR u) (k:fit 2000 N):Ry N u.av o'' on x.av o y.av o' K=K (np u on e r):=by
 unfold uR at F
 have G:=Ma e r
 have:=C.qm;have:=D.qm
 rw[MH];unfold HT np
 simp only[b3,lN,ct,u2,u3,Bg2]
 cases on with
 | false =>
  rw[show(!false)=true from rfl,ct,Bgs C (k.le (by omega)),Bgs D (k.le (by omega)),Arh,Arh]
  cases decide (e=0)<;>rfl
 | true =>
  rw[show(!true)=false from rfl,cf]
  refine Il (by omega) (by have:=k.1;omega) fun a I=>?_
  rw[A9d C (I.is (qi (by omega))) (k.le (by omega)),Bbk,fL D (by omega) (by omega) (k.le (by omega)) (by have:=k.1;omega)]
  rw[Acc (X:=K (decide (e+r≤(u.max:Rat)))) C D (k.le (by omega)) fun d L=>by rw[Z4 (L.is (m:=12) (by omega)) (by omega) (k.le (by omega))];rfl]
  cases decide ((u.min:Rat)≤e)<;>cases Bbm r 0 u.reserve<;>rfl
theorem Aks {was on:Bool} (D:z.is v 4) (F:x.is e 4) (G:y.is r 4) (I:uR u) (k:fit 2000 N) {L M S:Bool}:Qn N u.av o'' was on z.av L x.av M y.av S K=K (Akr u was on v e r):=by
 unfold uR at I
 have T:=Ma e r;have U:=VT (e+r) v;have V:=VT v e
 have:=F.qm;have:=G.qm;have:=D.qm
 rw[RR];unfold Ys
 rw[b3,ct,b3,ct,lN,lN]
 refine Acc F G (k.le (by omega)) fun d Y=>?_
 have C:d.is (e+r) 12:=Y.is (by omega)
 rw[c3,ct]
 unfold Sk Akr
 simp only[b3,lN,ct,u6,u7,u8,u9]
 rw[Z4 C (by omega) (k.le (by omega)),Z4 D (by omega) (k.le (by omega))]
 rw[Aca (X:=cond (decide (e+r - v≤(u.rampUp:Rat))) (K (decide (v - e≤(u.rampDown:Rat)))) (K false)) C D (k.le (by omega)) fun a ha=>by
  rw[Z4 (ha.is (m:=20) (by omega)) (by omega) (k.le (by omega))]
  rw[Aca (X:=K (decide (v - e≤(u.rampDown:Rat)))) D F (k.le (by omega)) fun b hb=>by rw[Z4 (hb.is (m:=20) (by omega)) (by omega) (k.le (by omega))];rfl]
  cases decide (e+r - v≤(u.rampUp:Rat))<;>rfl]
 cases on<;>cases was<;>(try rfl)
 cases decide (e+r - v≤(u.rampUp:Rat))<;>rfl
end
end
end Gx

namespace Gx
open Go Go.Proofs
section
variable {R:Type}
def A56 (u:UnitD):Int→StD→Bool→Rat→List Int→List RatD→List RatD→Int×Int
 | h,s,was,v,k::ks,e::es,r::rs=>match Wl u h s k with
  | none=>(h,16)
  | some t=>cond (np u (k==2) e.q r.q) (cond (Akr u was (k==2) v e.q r.q) (A56 u (h+1) t (k==2) e.q ks es rs) (h,64)) (h,3)
 | h,_,_,_,_,_,_=>(h,0)
section
variable {N n:Nat} {K:Int→Int→O R} {u:UnitD} {p:PlanD} {f e:Bool}
theorem An4 {j lf:Int} (hN:1100≤N) (hf:fit 2000 N) (hs:Cw u=true) (hu:uR u) (hk:p.st.l.length=n) (he:p.en.l.length=n) (hr:p.re.l.length=n) (hn:n≤1000) (oe:okR p.en.l) (or:okR p.re.l):∀ (m h fuel:Nat) (s:StD) (was:Bool) (v:Rat) (x:RatD) (g:Bool),h+m=n→m<fuel→Vs u s→x.is v 4 →
  lf=cond (Dz u h s (p.st.l.drop h)).2 0 16→((Dz u h s (p.st.l.drop h)).2=false→j=h+(Dz u h s (p.st.l.drop h)).1.length) →
  Lo N K (n:Int) j lf f u.av e p.av fuel was (h:Int) g x.av=K (A56 u h s was v (p.st.l.drop h) (p.en.l.drop h) (p.re.l.drop h)).1 (A56 u h s was v (p.st.l.drop h) (p.en.l.drop h) (p.re.l.drop h)).2:=by
 intro m
 induction m with
 | zero =>
  intro h fuel s was v x g hh U _ _ _ _
  obtain⟨fuel,rfl⟩:∃ k,fuel=k+1:=⟨fuel - 1,by omega⟩
  rw[Lo];unfold DP
  rw[Lm (by omega),cf,Es (l:=p.st.l) (by omega),A56,show n=h by omega]
  ·intro k ks e es r rs L;cases L
 | succ m ih =>
  intro h fuel s was v x g hh U V hx C F
  obtain⟨fuel,rfl⟩:∃ k,fuel=k+1:=⟨fuel - 1,by omega⟩
  rw[Lo];unfold DP
  have L:h<p.st.l.length:=by omega
  have S:h<p.en.l.length:=by omega
  have T:h<p.re.l.length:=by omega
  have e1:=oe.at S
  have r1:=or.at T
  rw[Ci L,Ci S,Ci T,A56]
  rw[Ci L,Dz] at C F
  rw[Jy (by omega),ct]
  cases D:Wl u h s p.st.l[h] with
  | none =>
   rw[D] at C F
   have G:=F rfl
   simp only[cond_false] at C
   subst C
   rw[show(((16:Int) != 0)==true)=true from rfl,ct,show(cond true (decide ((h:Int)≥j)) false)=true by rw[Ax7];simp at G;simp;omega,ct]
  | some t =>
   rw[D] at C F
   dsimp only at C F ⊢
   have hok:=sO hs V D
   have I:∀ Y:O R,(cond ((lf != (0:Int))==true) (cond (cond true (decide ((h:Int)≥j)) false) (K (h:Int) 16) Y) Y)=Y:=by
    intro Y
    cases M:(Dz u ((h:Int)+1) t (p.st.l.drop (h+1))).2 with
    | true=>rw[M] at C;subst C;rfl
    | false =>
     have G:=F M
     rw[M] at C;subst C
     rw[show(cond true (decide ((h:Int)≥j)) false)=false by rw[Ax7];simp at G;simp;omega];rfl
   rw[I]
   unfold MJ
   simp only[p0,p1,p2,Aa L,Aa S,Aa T,D8 L,HX S,HX T,Arg,vO,Du,B7,b3,lN,ct]
   rw[Abl e1 r1 hu hf,Aks hx e1 r1 hu hf]
   cases np u (p.st.l[h]==2) p.en.l[h].q p.re.l[h].q with
   | false=>rfl
   | true =>
    rw[show(!true)=false from rfl,cf]
    cases Akr u was (p.st.l[h]==2) v p.en.l[h].q p.re.l[h].q with
    | false=>rfl
    | true =>
     rw[show(!true)=false from rfl,cf,show ∀ y:RatD,((Nat.beq (List.length y.av) 3)&&(true&&(!false)))=true from fun _=>rfl,ct,Ai3,wS (by omega)]
     rw[ih (h+1) fuel t (p.st.l[h]==2) p.en.l[h].q p.en.l[h] (g||e) (by omega) (by omega) hok.1 e1 (by simpa using C) (by intro M;have:=F (by simpa using M);simp at this ⊢;omega)]
     rfl
end
end
end Gx

namespace Gx
open Go Go.Proofs
section
variable {R:Type}
section
variable {u:UnitD} {ks:List Int} {n:Nat}
def Bhu (u:UnitD) (ks:List Int):Nat→PD
 | 0=>⟨u.output,u.output⟩
 | p+1=>gF u ks p
theorem Bgt {p:Nat} (h:Ed ks p=true):gF u ks p=cond (Rz u ks p) ⟨Iq u.min ((Bhu u ks p).lo - u.rampDown),Bv u.max ((Bhu u ks p).hi+u.rampUp)⟩ ⟨u.min,u.startRamp⟩:=by
 cases p<;>(rw[gF,h];rfl)
theorem Bfl {p:Nat} (h:Ed ks p=false):gF u ks p=⟨0,0⟩:=by cases p<;>(rw[gF,h];rfl)
end
end
end Gx

namespace Gx
open Go Go.Proofs
open IntKind (wrap)
set_option maxRecDepth 100000
noncomputable section
variable {R:Type} (N:Nat)
def Yv (r0:LA→Int→O R) (e:LA) (f:Nat) (o l:Bool) (g:LA) (i:Nat) (p m:Bool) (b:Int) (d:Bool) (c q:LA) (k1:Int→LA→O R) (r:Int) (s:LA):O R :=
 (cond (decide (r<b)) (cond (Nat.ble 3 (s.length)) (cond (Ac r f) (cond (Nat.ble 3 ((e.drop ((r.toNat)*3)).length)) (Co 3 (c.drop 1) fun x ac=>(cond (Ac r ac) (cond (Nat.ble 3 ((x.drop ((r.toNat)*3)).length)) (NI N ((e.drop ((r.toNat)*3)).take 3) l ((x.drop ((r.toNat)*3)).take 3) d (fun ad=>(N0 N (s.take 3) false ad false (fun v=>(cond ((Nat.beq (v.length) 3)&&((Nat.ble 3 (s.length))&&(!false))) (cond (Nat.ble 3 ((setCells s 0 v).length)) (cond (Ac r i) (cond (Nat.ble 3 ((g.drop ((r.toNat)*3)).length)) (Co 3 (c.drop 2) fun y ae=>(cond (Ac r ae) (cond (Nat.ble 3 ((y.drop ((r.toNat)*3)).length)) (NI N ((g.drop ((r.toNat)*3)).take 3) m ((y.drop ((r.toNat)*3)).take 3) d (fun af=>(N0 N ((setCells s 0 v).take 3) false af false (fun z=>(cond ((Nat.beq (z.length) 3)&&((Nat.ble 3 ((setCells s 0 v).length))&&(!false))) (k1 (wrap .i64 (r+1)) (setCells (setCells s 0 v) 0 z)) none))))) none) none)) none) none) none) none))))) none) none)) none) none) none) (cond (Nat.ble 3 (s.length)) (cond (Nat.ble 3 (q.length)) (GO N (s.take 3) false (q.take 3) false (fun w=>(cond ((Nat.beq 0 0)&&((Nat.beq (w.length) 3)&&(Nat.beq 3 3))) (cond (Nat.ble 3 (w.length)) (r0 (w.take 3) 0) none) none))) none) none))
def Qr (r0:LA→Int→O R) (e:LA) (f:Nat) (o l:Bool) (g:LA) (i:Nat) (p m:Bool) (b:Int) (d:Bool) (c q:LA):Nat→Int→LA→O R
 | 0,_,_=>none
 | n+1,r,s=>(Yv N r0 e f o l g i p m b d c q (Qr r0 e f o l g i p m b d c q n) r s)
def NV (r0:LA→Int→O R) (b:Int) (e:LA) (f:Nat) (o l:Bool) (g:LA) (i:Nat) (p m d:Bool) (c q:LA) (q1:Int→LA→O R):O R :=
 (B6 N 0 (fun aa=>(cond ((Nat.beq 0 0)&&((Nat.beq (aa.length) 3)&&(Nat.beq 3 3))) (q1 0 aa) none)))
def DS (r0:LA→Int→O R) (b:Int) (e:LA) (f:Nat) (o l:Bool) (g:LA) (i:Nat) (p m d:Bool) (c q:LA):O R:=(NV N r0 b e f o l g i p m d c q (fun r s=>(Qr N r0 e f o l g i p m b d c q N r s)))
def WR (r0:LA→Int→O R) (q0:LA→O R) (t:LA) (u:Bool) (b:Int) (c:LA) (d:Bool) (e:LA) (f:Nat) (o l:Bool) (g:LA) (i:Nat) (p m:Bool):O R :=
 (cond (Nat.ble 22 (t.length)) (cond (Nat.ble 3 (c.length)) (WQ N (t.take 22) u b (c.take 3) d (fun q ab=>(cond ((Nat.beq 0 0)&&((Nat.beq (q.length) 3)&&(Nat.beq 3 3))) (cond (ab != 0) (r0 [(.bool false),.nsl,.nsl] ab) (cond ((((f:Nat):Int) != b)==false) (cond (cond false true (((i:Nat):Int) != b)) (r0 [(.bool false),.nsl,.nsl] 4) (q0 q)) (r0 [(.bool false),.nsl,.nsl] 4))) none))) none) none)
def Ny:=(Af (fun (N:Nat) (t:LA) (u:Bool) (b:Int) (c:LA) (d:Bool) (e:LA) (f:Nat) (o l:Bool) (g:LA) (i:Nat) (p m:Bool) (r0:LA→Int→O R)=>(WR N r0 (fun q=>(DS N r0 b e f o l g i p m d c q)) t u b c d e f o l g i p m))).1
theorem mC (t u b c d e f o l g i p m r0):(@Ny R N t u b c d e f o l g i p m r0)=(WR N r0 (fun q=>(DS N r0 b e f o l g i p m d c q)) t u b c d e f o l g i p m):=by rw[Ny,(Af _).2]
def sW:Hints:={ H:=(hS hL (hS hL (hS hL (hJ [1,3,4,7,10,12] hL (hS hL (hS (hS hL (hS (hP [3,4,7,10,12,14,39,40] hL) hL)) hL)))))),modes:=[(3,0),(0,0)] }
def zP:Ef:=[(43,Akn N),(60,F7 N),(82,Aqa N),(81,EF N),(83,uS N)]
def sX (F:KF R):=Ja Tryz.f42 sW (zP N) [] N F
def My (F:KF R):LA→Int→O R:=(fun ag ah=>F (.tup [(.pagg ag false),(iv ah)]) [])
def Avr (e:LA) (f:Nat) (o l:Bool) (g:LA) (i:Nat) (p m:Bool) (b:Int) (d:Bool) (c q:LA) (r:Int) (s:LA):St:=⟨[(3,(.imm e f 3 o l)),(4,(.imm g i 3 p m)),(7,(op 0)),(10,(op 1)),(12,(op 2)),(14,(op 3)),(39,(iv b)),(40,(iv r))],(hq [(bP d 0 c),⟨false,false,false,false,0,[(.bool false),.nsl,.nsl],false⟩,(bQ 0 q),(bQ 0 s)])⟩
def Avs (F:KF R):=sX N F [1,1,1,1,1,0,1,0] []
def Avt (b:Int) (e:LA) (f:Nat) (o l:Bool) (g:LA) (i:Nat) (p m d:Bool) (c q:LA):St:=⟨[(1,(iv b)),(3,(.imm e f 3 o l)),(4,(.imm g i 3 p m)),(7,(op 0)),(10,(op 1)),(12,(op 2))],(hq [(bP d 0 c),⟨false,false,false,false,0,[(.bool false),.nsl,.nsl],false⟩,(bQ 0 q)])⟩
def Avu (F:KF R):=sX N F [1,1,1,1] []
theorem a_ (F:KF R) (e:LA) (f:Nat) (o l:Bool) (g:LA) (i:Nat) (p m:Bool) (b:Int) (d:Bool) (c q:LA):∀ (n:Nat) (r:Int) (s:LA),Ap (Avs N F) n (Avr e f o l g i p m b d c q r s)=(Qr N (My F) e f o l g i p m b d c q n r s)
 | 0,_,_=>by kernel_rfl
 | n+1,r,s=>Eq.trans (by kernel_rfl) (Bn (Yv N (My F) e f o l g i p m b d c q · r s) (funext fun r=>funext fun s=>(a_ F e f o l g i p m b d c q n r s)):_)
theorem Abm (F:KF R) (b:Int) (e:LA) (f:Nat) (o l:Bool) (g:LA) (i:Nat) (p m d:Bool) (c q:LA):A8 (Avu N F) (Avt b e f o l g i p m d c q)=(DS N (My F) b e f o l g i p m d c q):=by
 exact Eq.trans (by kernel_rfl) (Bn (NV N (My F) b e f o l g i p m d c q ·) (funext fun r=>funext fun s=>(Aj ..).trans (a_ N F e f o l g i p m b d c q N r s)):_)
theorem sY (t:LA) (u:Bool) (b:Int) (c:LA) (d:Bool) (e:LA) (f:Nat) (o l:Bool) (g:LA) (i:Nat) (p m:Bool) (F:KF R):Cm (zP N) sW N 42 [(.pagg t u),(iv b),(.pagg c d),(.imm e f 3 o l),(.imm g i 3 p m)] [] F=(Ny N t u b c d e f o l g i p m (My F)):=by
 rw[mC]
 exact Eq.trans (by kernel_rfl) (Bn (WR N (My F) · t u b c d e f o l g i p m) (funext fun q=>(Ar ..).trans (Abm N F b e f o l g i p m d c q)):_)
def mD (a:LA) (h:Am) (k:KF R):O R :=
 match a,h with
 | [(.pagg t u),(.int .i64 b),(.pagg c d),(.imm e f 3 o l),(.imm g i 3 p m)],[]=>(Ny N t u b c d e f o l g i p m (My k))
 | _,_=>none
theorem sZ:Ao N 42 @mD:=by
 intro R Q a h k j;unfold mD;split;exact Ay (sY ..) (sY ..) ⟨Ako N,F8 N,Aqb N,EG N,uT N,trivial⟩;exact A0
def Avv:=Az (sZ N)
def Avw:=Cj (sZ N)
def vP (N:Nat) (d:LA) (b:Nat) (e f:Bool) (g:LA) (c:Nat) (i l:Bool) (r0:Bool→O R):O R :=
 (cond ((decide (((b:Nat):Int)≤200))==true) (r0 (cond true (decide (((c:Nat):Int)≤200)) false)) (r0 false))
def gH:=(Af (@vP R)).1
theorem s5:@gH R=@vP R:=(Af _).2
def zQ (F:KF R):Bool→O R:=(fun m=>F (.bool m) [])
theorem zR (d:LA) (b:Nat) (e f:Bool) (g:LA) (c:Nat) (i l:Bool) (F:KF R):Cm [] Dr N 26 [(.imm d b 1 e f),(.imm g c 1 i l)] [] F=(gH N d b e f g c i l (zQ F)):=by
 rw[s5]
 kernel_rfl
def s6 (a:LA) (h:Am) (k:KF R):O R :=
 match a,h with
 | [(.imm d b 1 e f),(.imm g c 1 i l)],[]=>(gH N d b e f g c i l (zQ k))
 | _,_=>none
theorem zS:Ao N 26 @s6:=by
 intro R Q a h k j;unfold s6;split;exact Ay (zR ..) (zR ..) trivial;exact A0
def Az7:=Az (zS N)
def Az8:=Cj (zS N)
def Vv (k0:Nat→Int→LA→LA→O R) (r0:Nat→LA→O R) (f:Int) (g:LA) (e:Nat) (i l:Bool) (x:Nat) (c:Bool) (b d v:LA) (k2:Nat→Int→Nat→Int→LA→LA→O R) (r:Nat) (u:Int) (m:Nat) (t:Int) (w s:LA):O R :=
 (cond (decide (t<((x:Nat):Int))) (cond (Nat.ble 22 (b.length)) (cond (Ac t x) (An .i64 (v.drop (0+((t.toNat)*2))) fun ad=>(T9 N (b.take 22) c u ad (fun ae=>(cond ae (cond (Ac t x) (cond (Nat.ble 2 ((v.drop (0+((t.toNat)*2))).length)) (cond ((Nat.beq (((v.drop (0+((t.toNat)*2))).take 2).length) 2)&&(Nat.ble 2 2)) (cond ((Nat.ble (m+1) 140737488355328)&&(Nat.ble ((m+1)*16) 140737488355328)) (k2 r u (m+1) (wrap .i64 (t+1)) w ((s.take (m*2))++((setCells [(.int .i64 0),(.int .i64 0)] 0 ((v.drop (0+((t.toNat)*2))).take 2)).take 2))) none) none) none) none) (k2 r u m (wrap .i64 (t+1)) w s))))) none) none) (cond (((m:Nat):Int)==0) (r0 r w) (cond (decide (u<((e:Nat):Int))) (cond (Ac u e) (An .i64 (g.drop ((u.toNat)*1)) fun ab=>(cond (((m:Nat):Int)==0) none (cond (((m:Nat):Int)==0) none (cond (Ac (Int.tmod (wrap .i64 ((Int.tmod ab ((m:Nat):Int))+((m:Nat):Int))) ((m:Nat):Int)) m) (cond (Nat.ble 2 ((s.drop (0+(((Int.tmod (wrap .i64 ((Int.tmod ab ((m:Nat):Int))+((m:Nat):Int))) ((m:Nat):Int)).toNat)*2))).length)) (cond ((Nat.beq (((s.drop (0+(((Int.tmod (wrap .i64 ((Int.tmod ab ((m:Nat):Int))+((m:Nat):Int))) ((m:Nat):Int)).toNat)*2))).take 2).length) 2)&&((Nat.ble 2 (d.length))&&(!false))) (An .i64 (setCells d 0 ((s.drop (0+(((Int.tmod (wrap .i64 ((Int.tmod ab ((m:Nat):Int))+((m:Nat):Int))) ((m:Nat):Int)).toNat)*2))).take 2)) fun af=>(cond ((Nat.ble (r+1) 140737488355328)&&(Nat.ble ((r+1)*8) 140737488355328)) (k0 (r+1) (wrap .i64 (u+1)) ((w.take (r*1))++[(.int .i64 af)]) (setCells d 0 ((s.drop (0+(((Int.tmod (wrap .i64 ((Int.tmod ab ((m:Nat):Int))+((m:Nat):Int))) ((m:Nat):Int)).toNat)*2))).take 2))) none)) none) none) none)))) none) (cond (Ac 0 m) (cond (Nat.ble 2 (s.length)) (cond ((Nat.beq ((s.take 2).length) 2)&&((Nat.ble 2 (d.length))&&(!false))) (An .i64 (setCells d 0 (s.take 2)) fun ag=>(cond ((Nat.ble (r+1) 140737488355328)&&(Nat.ble ((r+1)*8) 140737488355328)) (k0 (r+1) (wrap .i64 (u+1)) ((w.take (r*1))++[(.int .i64 ag)]) (setCells d 0 (s.take 2))) none)) none) none) none))))
def Nz (k0:Nat→Int→LA→LA→O R) (r0:Nat→LA→O R) (f:Int) (g:LA) (e:Nat) (i l:Bool) (x:Nat) (c:Bool) (b d v:LA):Nat→Nat→Int→Nat→Int→LA→LA→O R
 | 0,_,_,_,_,_,_=>none
 | n+1,r,u,m,t,w,s=>(Vv N k0 r0 f g e i l x c b d v (Nz k0 r0 f g e i l x c b d v n) r u m t w s)
def IB (k0:Nat→Int→LA→LA→O R) (r0:Nat→LA→O R) (f:Int) (g:LA) (e:Nat) (i l c:Bool) (b d:LA) (q2:Nat→LA→Nat→Int→Nat→Int→LA→LA→O R) (y:Nat) (z:Int) (aa:LA):O R :=
 (cond (Nat.ble 22 (b.length)) (cond (Nat.ble 2 (d.length)) (RZ N (b.take 22) c (d.take 2) false (fun x v=>(q2 x v y z 0 0 aa []))) none) none)
def Yw (k0:Nat→Int→LA→LA→O R) (r0:Nat→LA→O R) (f:Int) (g:LA) (e:Nat) (i l c:Bool) (b d:LA) (y:Nat) (z:Int) (aa:LA):O R:=(IB N k0 r0 f g e i l c b d (fun x v r u m t w s=>(Nz N k0 r0 f g e i l x c b d v N r u m t w s)) y z aa)
def Vw (r0:Nat→LA→O R) (f:Int) (g:LA) (e:Nat) (i l c:Bool) (b:LA) (k0:Nat→Int→LA→LA→O R) (q1:Nat→Int→LA→O R) (o:Nat) (q:Int) (p d:LA):O R :=
 (cond ((decide (q<f))==true) (cond (Nat.ble 22 (b.length)) (Kz N (b.take 22) c (fun ah=>(cond (cond true ah false) (q1 o q p) (r0 o p)))) none) (r0 o p))
def Hg (r0:Nat→LA→O R) (f:Int) (g:LA) (e:Nat) (i l c:Bool) (b:LA):Nat→Nat→Int→LA→LA→O R
 | 0,_,_,_,_=>none
 | n+1,o,q,p,d=>(Vw N r0 f g e i l c b (Hg r0 f g e i l c b n) (fun y z aa=>(Yw N (Hg r0 f g e i l c b n) r0 f g e i l c b d y z aa)) o q p d)
def MN (r0:Nat→LA→O R) (q0:Nat→Int→LA→LA→O R) (b:LA) (c:Bool) (f:Int) (g:LA) (e:Nat) (i l:Bool):O R :=
 (cond (Nat.ble 22 (b.length)) (T8 N (b.take 22) c (fun ac=>(cond ((Nat.beq (ac.length) 2)&&((Nat.ble 2 2)&&(!false))) (q0 0 0 [] (setCells [(.int .i64 0),(.int .i64 0)] 0 ac)) none))) none)
def Xq:=(Af (fun (N:Nat) (b:LA) (c:Bool) (f:Int) (g:LA) (e:Nat) (i l:Bool) (r0:Nat→LA→O R)=>(MN N r0 (fun o q p d=>(Hg N r0 f g e i l c b N o q p d)) b c f g e i l))).1
theorem gI (b c f g e i l r0):(@Xq R N b c f g e i l r0)=(MN N r0 (fun o q p d=>(Hg N r0 f g e i l c b N o q p d)) b c f g e i l):=by rw[Xq,(Af _).2]
def mE:Hints:={ H:=(hS hL (hS hL (hS hL (hS (hS hL (hS (hP [1,2,3,7,8,9] (hJ [1,2,3,7,8,9] hL (hS (hS (hS hL (hS hL (hS (hS hL (hS (hP [1,2,3,7,8,9,10,11,12] hL) hL)) hL))) hL) hL))) hL)) hL)))),nils:=[(6,1),(7,1),(10,2)],modes:=[(2,1)] }
def s7:Ef:=[(113,fl N),(52,Qd N),(114,zE N),(115,fy N)]
def NW (F:KF R):=Ja Tryz.f62 mE (s7 N) [] N F
def E4 (F:KF R):Nat→LA→O R:=(fun ai aj=>F (.own 300000 0 ai) (hq [(bQ 1 aj)]))
def An5 (f:Int) (g:LA) (e:Nat) (i l:Bool) (x:Nat) (c:Bool) (b d v:LA) (r:Nat) (u:Int) (m:Nat) (t:Int) (w s:LA):St:=⟨[(1,(iv f)),(2,(.imm g e 1 i l)),(3,(op 0)),(7,(.own 300001 0 r)),(8,(op 2)),(9,(iv u)),(10,(.own 300003 0 m)),(11,(.own 300004 0 x)),(12,(iv t))],(hq [(bP c 0 b),(bQ 1 w),(bQ 0 d),(bQ 2 s),(bQ 2 v)])⟩
def An6 (F:KF R) (Q0:St→O R):=NW N F [1,1,1,0,1,0,0,1,0,0,1,1,0,1,0] [Q0]
def An7 (f:Int) (g:LA) (e:Nat) (i l c:Bool) (b d:LA) (y:Nat) (z:Int) (aa:LA):St:=⟨[(1,(iv f)),(2,(.imm g e 1 i l)),(3,(op 0)),(7,(.own 300001 0 y)),(8,(op 2)),(9,(iv z))],(hq [(bP c 0 b),(bQ 1 aa),(bQ 0 d)])⟩
def An8 (F:KF R) (Q0:St→O R):=NW N F [1,1,1,0,1,0,0,1] [Q0]
def R3 (f:Int) (g:LA) (e:Nat) (i l c:Bool) (b:LA) (o:Nat) (q:Int) (p d:LA):St:=⟨[(1,(iv f)),(2,(.imm g e 1 i l)),(3,(op 0)),(7,(.own 300001 0 o)),(8,(op 2)),(9,(iv q))],(hq [(bP c 0 b),(bQ 1 p),(bQ 0 d)])⟩
def mF (F:KF R):=NW N F [1,1,1,0,1,0] []
theorem SF (Q0:St→O R) (F:KF R) (f:Int) (g:LA) (e:Nat) (i l:Bool) (x:Nat) (c:Bool) (b d v:LA):∀ (n r:Nat) (u:Int) (m:Nat) (t:Int) (w s:LA),Ap (An6 N F Q0) n (An5 f g e i l x c b d v r u m t w s)=(Nz N (fun o q p d=>Q0 (R3 f g e i l c b o q p d)) (E4 F) f g e i l x c b d v n r u m t w s)
 | 0,_,_,_,_,_,_=>by kernel_rfl
 | n+1,r,u,m,t,w,s=>Eq.trans (by kernel_rfl) (Bn (Vv N (fun o q p d=>Q0 (R3 f g e i l c b o q p d)) (E4 F) f g e i l x c b d v · r u m t w s) (funext fun r=>funext fun u=>funext fun m=>funext fun t=>funext fun w=>funext fun s=>(SF Q0 F f g e i l x c b d v n r u m t w s)):_)
theorem vQ (Q0:St→O R) (F:KF R) (f:Int) (g:LA) (e:Nat) (i l c:Bool) (b d:LA):∀ (y:Nat) (z:Int) (aa:LA),A8 (An8 N F Q0) (An7 f g e i l c b d y z aa)=(Yw N (fun o q p d=>Q0 (R3 f g e i l c b o q p d)) (E4 F) f g e i l c b d y z aa):=by
 intro y z aa
 exact Eq.trans (by kernel_rfl) (Bn (IB N (fun o q p d=>Q0 (R3 f g e i l c b o q p d)) (E4 F) f g e i l c b d · y z aa) (funext fun x=>funext fun v=>funext fun r=>funext fun u=>funext fun m=>funext fun t=>funext fun w=>funext fun s=>(Aj ..).trans (SF N Q0 F f g e i l x c b d v N r u m t w s)):_)
theorem SG (F:KF R) (f:Int) (g:LA) (e:Nat) (i l c:Bool) (b:LA):∀ (n o:Nat) (q:Int) (p d:LA),Ap (mF N F) n (R3 f g e i l c b o q p d)=(Hg N (E4 F) f g e i l c b n o q p d)
 | 0,_,_,_,_=>by kernel_rfl
 | n+1,o,q,p,d=>have e0:=(funext fun o=>funext fun q=>funext fun p=>funext fun d=>(SG F f g e i l c b n o q p d))
  Eq.trans (by kernel_rfl) (cR (Vw N (E4 F) f g e i l c b · · o q p d) e0 (funext fun y=>funext fun z=>funext fun aa=>(Ar ..).trans ((vQ N (Ap (mF N F) n) F f g e i l c b d y z aa).trans (Bn (Yw N · (E4 F) f g e i l c b d y z aa) e0))):_)
theorem mG (b:LA) (c:Bool) (f:Int) (g:LA) (e:Nat) (i l:Bool) (F:KF R):Cm (s7 N) mE N 62 [(.pagg b c),(iv f),(.imm g e 1 i l)] [] F=(Xq N b c f g e i l (E4 F)):=by
 rw[gI]
 exact Eq.trans (by kernel_rfl) (Bn (MN N (E4 F) · b c f g e i l) (funext fun o=>funext fun q=>funext fun p=>funext fun d=>(Aj ..).trans (SG N F f g e i l c b N o q p d)):_)
def gJ (a:LA) (h:Am) (k:KF R):O R :=
 match a,h with
 | [(.pagg b c),(.int .i64 f),(.imm g e 1 i l)],[]=>(Xq N b c f g e i l (E4 k))
 | _,_=>none
theorem mH:Ao N 62 @gJ:=by
 intro R Q a h k j;unfold gJ;split;exact Ay (mG ..) (mG ..) ⟨fm N,Qe N,zF N,gA N,trivial⟩;exact A0
def An9:=Az (mH N)
def Aoa:=Cj (mH N)
end
end Gx

namespace Gx
open Go Go.Proofs
open IntKind (wrap)
set_option maxRecDepth 100000
noncomputable section
variable {R:Type} (N:Nat)
def gK (N:Nat) (r0:LA→O R) (g n:Int) (d:Bool) (b:LA) (o:Bool):O R :=
 (cond o (An .i64 (b.drop 21) fun q=>(An .i64 (b.drop 7) fun r=>(An .i64 (b.drop 21) fun s=>(An .i64 (b.drop 6) fun t=>(r0 [(.int .i64 (Iq n (wrap .i64 (q - r)))),(.int .i64 (Bv g (wrap .i64 (s+t))))]))))) (r0 [(.int .i64 n),(.int .i64 g)]))
def WS (N:Nat) (r0:LA→O R) (c:Int) (d:Bool) (b:LA) (q2:Int→Bool→O R) (g:Int):O R :=
 (An .i64 (b.drop 2) fun n=>(cond ((c==0)==true) (An .i64 (b.drop 19) fun u=>(q2 n (cond true (u==2) false))) (q2 n false)))
def MO (r0:LA→O R) (c:Int) (d:Bool) (b:LA) (g:Int):O R:=(WS N r0 c d b (fun n o=>(gK N r0 g n d b o)) g)
def WT (N:Nat) (r0:LA→O R) (f:LA) (e:Nat) (i l:Bool) (c:Int) (d:Bool) (b:LA) (q1:Int→O R) (m:Int):O R :=
 (cond ((decide ((wrap .i64 (c+1))<((e:Nat):Int)))==true) (cond (Ac (wrap .i64 (c+1)) e) (An .i64 (f.drop (((wrap .i64 (c+1)).toNat)*1)) fun v=>(cond (cond true (v != 2) false) (An .i64 (b.drop 9) fun w=>(q1 (Bv m w))) (q1 m))) none) (q1 m))
def Z5 (r0:LA→O R) (f:LA) (e:Nat) (i l:Bool) (c:Int) (d:Bool) (b:LA) (m:Int):O R:=(WT N r0 f e i l c d b (fun g=>(MO N r0 c d b g)) m)
def iV (N:Nat) (r0:LA→O R) (q0:Int→O R) (b:LA) (d:Bool) (f:LA) (e:Nat) (i l:Bool) (c:Int):O R :=
 (An .i64 (b.drop 3) fun p=>(cond ((c==0)==true) (An .i64 (b.drop 19) fun x=>(cond ((cond true (x != 2) false)==false) (cond ((decide (c>0))==true) (cond (Ac (wrap .i64 (c - 1)) e) (An .i64 (f.drop (((wrap .i64 (c - 1)).toNat)*1)) fun y=>(cond (cond false true (cond true (y != 2) false)) (An .i64 (b.drop 8) fun z=>(q0 (Bv p z))) (q0 p))) none) (q0 p)) (An .i64 (b.drop 8) fun aa=>(q0 (Bv p aa))))) (cond ((decide (c>0))==true) (cond (Ac (wrap .i64 (c - 1)) e) (An .i64 (f.drop (((wrap .i64 (c - 1)).toNat)*1)) fun ab=>(cond (cond false true (cond true (ab != 2) false)) (An .i64 (b.drop 8) fun ac=>(q0 (Bv p ac))) (q0 p))) none) (q0 p))))
def SH:=(Af (fun (N:Nat) (b:LA) (d:Bool) (f:LA) (e:Nat) (i l:Bool) (c:Int) (r0:LA→O R)=>(iV N r0 (fun m=>(Z5 N r0 f e i l c d b m)) b d f e i l c))).1
theorem s8 (b d f e i l c r0):(@SH R N b d f e i l c r0)=(iV N r0 (fun m=>(Z5 N r0 f e i l c d b m)) b d f e i l c):=by rw[SH,(Af _).2]
def zT:Hints:={ H:=(hS hL (hS hL (hJ [1,2,3,6,7] hL (hJ [2,3,6,7] hL (hS hL (hS (hJ [3,6,7,8,59] hL hL) hL)))))),modes:=[(3,0)] }
def gL (F:KF R):=Ja Tryz.f68 zT [] [] N F
def Lp (F:KF R):LA→O R:=(fun ad=>F (.pagg ad false) [])
def Az9 (g n:Int) (d:Bool) (b:LA) (o:Bool):St:=⟨[(3,(op 0)),(6,(op 1)),(7,(iv g)),(8,(iv n)),(59,(.bool o))],(hq [(bP d 0 b),(bQ 0 [(iv 0),(iv 0)])])⟩
def A0a (F:KF R):=gL N F [1,1,1,1,1,0,1] []
def A0b (c:Int) (d:Bool) (b:LA) (g:Int):St:=⟨[(2,(iv c)),(3,(op 0)),(6,(op 1)),(7,(iv g))],(hq [(bP d 0 b),(bQ 0 [(iv 0),(iv 0)])])⟩
def A0c (F:KF R):=gL N F [1,1,1,1] []
def A0d (f:LA) (e:Nat) (i l:Bool) (c:Int) (d:Bool) (b:LA) (m:Int):St:=⟨[(1,(.imm f e 1 i l)),(2,(iv c)),(3,(op 0)),(6,(op 1)),(7,(iv m))],(hq [(bP d 0 b),(bQ 0 [(iv 0),(iv 0)])])⟩
def A0e (F:KF R):=gL N F [1,1,1] []
theorem Akt (F:KF R) (g n:Int) (d:Bool) (b:LA):∀ (o:Bool),A8 (A0a N F) (Az9 g n d b o)=(gK N (Lp F) g n d b o):=by
 intro o
 kernel_rfl
theorem Aku (F:KF R) (c:Int) (d:Bool) (b:LA):∀ (g:Int),A8 (A0c N F) (A0b c d b g)=(MO N (Lp F) c d b g):=by
 intro g
 exact Eq.trans (by kernel_rfl) (Bn (WS N (Lp F) c d b · g) (funext fun n=>funext fun o=>(Ar ..).trans (Akt N F g n d b o)):_)
theorem Akv (F:KF R) (f:LA) (e:Nat) (i l:Bool) (c:Int) (d:Bool) (b:LA):∀ (m:Int),A8 (A0e N F) (A0d f e i l c d b m)=(Z5 N (Lp F) f e i l c d b m):=by
 intro m
 exact Eq.trans (by kernel_rfl) (Bn (WT N (Lp F) f e i l c d b · m) (funext fun g=>(Ar ..).trans (Aku N F c d b g)):_)
theorem zU (b:LA) (d:Bool) (f:LA) (e:Nat) (i l:Bool) (c:Int) (F:KF R):Cm [] zT N 68 [(.pagg b d),(.imm f e 1 i l),(iv c)] [] F=(SH N b d f e i l c (Lp F)):=by
 rw[s8]
 exact Eq.trans (by kernel_rfl) (Bn (iV N (Lp F) · b d f e i l c) (funext fun m=>(Ar ..).trans (Akv N F f e i l c d b m)):_)
def s9 (a:LA) (h:Am) (k:KF R):O R :=
 match a,h with
 | [(.pagg b d),(.imm f e 1 i l),(.int .i64 c)],[]=>(SH N b d f e i l c (Lp k))
 | _,_=>none
theorem zV:Ao N 68 @s9:=by
 intro R Q a h k j;unfold s9;split;exact Ay (zU ..) (zU ..) trivial;exact A0
def A0f:=Az (zV N)
def A0g:=Cj (zV N)
def AO (N:Nat) (k1:Nat→Int→LA→O R) (r0:Nat→Int→LA→O R) (l:Int) (d:LA) (c:Nat) (g f:Bool) (i:Nat) (m:Int) (e:Bool) (b u:LA):O R :=
 (cond (Ac m i) (An .i64 (u.drop (0+((m.toNat)*2))) fun x=>(cond (Ac m i) (An .i64 (u.drop ((0+((m.toNat)*2))+1)) fun y=>(cond (decide (x>y)) (r0 0 7 []) (k1 i (wrap .i64 (m+1)) u))) none)) none)
def Xr (N:Nat) (k1:Nat→Int→LA→O R) (r0:Nat→Int→LA→O R) (l:Int) (d:LA) (c:Nat) (g f:Bool) (i:Nat) (m:Int) (e:Bool) (b:LA) (q4:LA→O R) (t:Bool) (q:LA):O R :=
 (cond t (cond (Ac m i) (An .i64 (q.drop (0+((m.toNat)*2))) fun z=>(cond (Ac (wrap .i64 (m - 1)) i) (An .i64 (q.drop (0+(((wrap .i64 (m - 1)).toNat)*2))) fun aa=>(An .i64 (b.drop 7) fun ab=>(cond (Ac m i) (An .i64 (q.drop ((0+((m.toNat)*2))+1)) fun ac=>(cond (Ac (wrap .i64 (m - 1)) i) (An .i64 (q.drop ((0+(((wrap .i64 (m - 1)).toNat)*2))+1)) fun ad=>(An .i64 (b.drop 6) fun ae=>(cond (Ac m i) (cond ((Nat.beq 2 2)&&((Nat.ble ((0+((m.toNat)*2))+2) (q.length))&&(!false))) (q4 (C0 q (0+((m.toNat)*2)) [(.int .i64 (Iq z (wrap .i64 (aa - ab)))),(.int .i64 (Bv ac (wrap .i64 (ad+ae))))])) none) none))) none)) none))) none)) none) (q4 q))
def So (k1:Nat→Int→LA→O R) (r0:Nat→Int→LA→O R) (l:Int) (d:LA) (c:Nat) (g f:Bool) (i:Nat) (m:Int) (e:Bool) (b:LA) (t:Bool) (q:LA):O R:=(Xr N k1 r0 l d c g f i m e b (fun u=>(AO N k1 r0 l d c g f i m e b u)) t q)
def Sp (N:Nat) (k3:Int→LA→O R) (r0:Nat→Int→LA→O R) (d:LA) (c:Nat) (g f:Bool) (i:Nat) (o:Int) (e:Bool) (b:LA) (v:Bool) (s:LA):O R :=
 (cond v (cond (Ac (wrap .i64 (o - 1)) i) (An .i64 (s.drop (0+(((wrap .i64 (o - 1)).toNat)*2))) fun af=>(cond (Ac o i) (An .i64 (s.drop (0+((o.toNat)*2))) fun ag=>(An .i64 (b.drop 6) fun ah=>(cond (Ac (wrap .i64 (o - 1)) i) (An .i64 (s.drop ((0+(((wrap .i64 (o - 1)).toNat)*2))+1)) fun ai=>(cond (Ac o i) (An .i64 (s.drop ((0+((o.toNat)*2))+1)) fun aj=>(An .i64 (b.drop 7) fun ak=>(cond (Ac (wrap .i64 (o - 1)) i) (cond ((Nat.beq 2 2)&&((Nat.ble ((0+(((wrap .i64 (o - 1)).toNat)*2))+2) (s.length))&&(!false))) (k3 (wrap .i64 (o - 1)) (C0 s (0+(((wrap .i64 (o - 1)).toNat)*2)) [(.int .i64 (Iq af (wrap .i64 (ag - ah)))),(.int .i64 (Bv ai (wrap .i64 (aj+ak))))])) none) none))) none)) none))) none)) none) (k3 (wrap .i64 (o - 1)) s))
def Qs (N:Nat) (r0:Nat→Int→LA→O R) (d:LA) (c:Nat) (g f:Bool) (i:Nat) (e:Bool) (b:LA) (k3:Int→LA→O R) (q5:Bool→LA→O R) (o:Int) (r:LA):O R :=
 (cond (decide (o>0)) (cond (Ac o c) (An .i64 (d.drop ((o.toNat)*1)) fun al=>(cond ((al==2)==true) (cond (Ac (wrap .i64 (o - 1)) c) (An .i64 (d.drop (((wrap .i64 (o - 1)).toNat)*1)) fun am=>(q5 (cond true (am==2) false) r)) none) (q5 false r))) none) (r0 i 0 r))
def G2 (r0:Nat→Int→LA→O R) (d:LA) (c:Nat) (g f:Bool) (i:Nat) (e:Bool) (b:LA):Nat→Int→LA→O R
 | 0,_,_=>none
 | n+1,o,r=>(Qs N r0 d c g f i e b (G2 r0 d c g f i e b n) (fun v s=>(Sp N (G2 r0 d c g f i e b n) r0 d c g f i o e b v s)) o r)
def Qt (r0:Nat→Int→LA→O R) (l:Int) (d:LA) (c:Nat) (g f e:Bool) (b:LA) (k1:Nat→Int→LA→O R) (q2:Bool→LA→O R) (q3:Int→LA→O R) (i:Nat) (m:Int) (p:LA):O R :=
 (cond (decide (m<l)) (cond (Ac m c) (An .i64 (d.drop ((m.toNat)*1)) fun an=>(cond (an != 2) (k1 i (wrap .i64 (m+1)) p) (cond (Nat.ble 22 (b.length)) (SH N (b.take 22) e d c false f m (fun w=>(cond (Ac m i) (cond ((Nat.beq (w.length) 2)&&((Nat.ble ((0+((m.toNat)*2))+2) (p.length))&&(!false))) (cond ((decide (m>0))==true) (cond (Ac (wrap .i64 (m - 1)) c) (An .i64 (d.drop (((wrap .i64 (m - 1)).toNat)*1)) fun ao=>(q2 (cond true (ao==2) false) (setCells p (0+((m.toNat)*2)) w))) none) (q2 false (setCells p (0+((m.toNat)*2)) w))) none) none))) none))) none) (q3 (wrap .i64 (l - 1)) p))
def Fp (r0:Nat→Int→LA→O R) (l:Int) (d:LA) (c:Nat) (g f e:Bool) (b:LA):Nat→Nat→Int→LA→O R
 | 0,_,_,_=>none
 | n+1,i,m,p=>(Qt N r0 l d c g f e b (Fp r0 l d c g f e b n) (fun t q=>(So N (Fp r0 l d c g f e b n) r0 l d c g f i m e b t q)) (fun o r=>(G2 N r0 d c g f i e b N o r)) i m p)
def Xs (N:Nat) (r0:Nat→Int→LA→O R) (l:Int) (d:LA) (c:Nat) (g f e:Bool) (b:LA) (q1:Nat→Int→LA→O R):O R :=
 (cond ((decide (0≤l))&&((decide (l≤l))&&((decide (l≤140737488355328))&&(decide ((l*((16:Nat):Int))≤140737488355328))))) (q1 (l.toNat) 0 (List.flatten (List.replicate (l.toNat) ([(.int .i64 0),(.int .i64 0)]:LA)))) none)
def Nl (r0:Nat→Int→LA→O R) (l:Int) (d:LA) (c:Nat) (g f e:Bool) (b:LA):O R:=(Xs N r0 l d c g f e b (fun i m p=>(Fp N r0 l d c g f e b N i m p)))
def Yx (r0:Nat→Int→LA→O R) (q0:O R) (b:LA) (e:Bool) (l:Int) (d:LA) (c:Nat) (g f:Bool):O R :=
 (cond (Nat.ble 22 (b.length)) (EH N (b.take 22) e l (fun ap=>(cond (!ap) (r0 0 1 []) (cond (((c:Nat):Int) != l) (r0 0 4 []) (cond (Nat.ble 22 (b.length)) (SE N (b.take 22) e d c false f (fun ba bb aq bc=>(cond (aq != 0) (r0 0 16 []) (An .i64 (b.drop 19) fun ar=>(cond ((ar==2)==true) (cond (Ac 0 c) (An .i64 d fun au=>(cond ((cond true (au != 2) false)==true) (An .i64 (b.drop 21) fun av=>(An .i64 (b.drop 9) fun aw=>(cond (cond true (decide (av>aw)) false) (r0 0 7 []) q0))) q0)) none) q0))))) none))))) none)
def Qu:=(Af (fun (N:Nat) (b:LA) (e:Bool) (l:Int) (d:LA) (c:Nat) (g f:Bool) (r0:Nat→Int→LA→O R)=>(Yx N r0 (Nl N r0 l d c g f e b) b e l d c g f))).1
theorem SI (b e l d c g f r0):(@Qu R N b e l d c g f r0)=(Yx N r0 (Nl N r0 l d c g f e b) b e l d c g f):=by rw[Qu,(Af _).2]
def bA:Hints:={ H:=(hS hL (hS hL (hS hL (hS hL (hJ [1,2,3] hL (hS hL (hS (hS hL (hS (hP [1,2,3,11,12] (hS hL (hS (hS (hS hL (hS hL (hJ [1,2,3,11,12] (hJ [1,2,3,11,12,75] hL hL) hL))) hL) hL))) hL)) (hS (hS hL (hS (hP [2,3,11,13] (hS hL (hS (hS (hJ [2,3,11,13,139] hL hL) hL) hL))) hL)) hL)))))))),nils:=[(6,2)],modes:=[(2,2),(0,0)] }
def gM:Ef:=[(17,At6 N),(67,Az2 N),(68,A0f N)]
def I9 (F:KF R):=Ja Tryz.f30 bA (gM N) [] N F
def Bs (F:KF R):Nat→Int→LA→O R:=(fun ax ay az=>F (.tup [(.own 300000 0 ax),(iv ay)]) (hq [(bQ 2 az)]))
def Abn (l:Int) (d:LA) (c:Nat) (g f:Bool) (i:Nat) (m:Int) (e:Bool) (b u:LA):St:=⟨[(1,(iv l)),(2,(.imm d c 1 g f)),(3,(op 0)),(11,(.own 300001 0 i)),(12,(iv m))],(hq [(bP e 0 b),(bQ 2 u)])⟩
def Abo (F:KF R) (Q1:St→O R):=I9 N F [1,1,1,1,1,1,0,1,0,0,1,0,0,1,1,1] [Q1]
def Abp (l:Int) (d:LA) (c:Nat) (g f:Bool) (i:Nat) (m:Int) (e:Bool) (b:LA) (t:Bool) (q:LA):St:=⟨[(1,(iv l)),(2,(.imm d c 1 g f)),(3,(op 0)),(11,(.own 300001 0 i)),(12,(iv m)),(75,(.bool t))],(hq [(bP e 0 b),(bQ 2 q)])⟩
def Abq (F:KF R) (Q1:St→O R):=I9 N F [1,1,1,1,1,1,0,1,0,0,1,0,0,1,1,0,1] [Q1]
def Abr (d:LA) (c:Nat) (g f:Bool) (i:Nat) (o:Int) (e:Bool) (b:LA) (v:Bool) (s:LA):St:=⟨[(2,(.imm d c 1 g f)),(3,(op 0)),(11,(.own 300001 0 i)),(13,(iv o)),(139,(.bool v))],(hq [(bP e 0 b),(bQ 2 s)])⟩
def Abs (F:KF R) (Q3:St→O R):=I9 N F [1,1,1,1,1,1,1,0,1,0,0,1,0,0,1] [Q3]
def bB (d:LA) (c:Nat) (g f:Bool) (i:Nat) (e:Bool) (b:LA) (o:Int) (r:LA):St:=⟨[(2,(.imm d c 1 g f)),(3,(op 0)),(11,(.own 300001 0 i)),(13,(iv o))],(hq [(bP e 0 b),(bQ 2 r)])⟩
def bC (F:KF R):=I9 N F [1,1,1,1,1,1,1,0,1,0] []
def Ss (l:Int) (d:LA) (c:Nat) (g f e:Bool) (b:LA) (i:Nat) (m:Int) (p:LA):St:=⟨[(1,(iv l)),(2,(.imm d c 1 g f)),(3,(op 0)),(11,(.own 300001 0 i)),(12,(iv m))],(hq [(bP e 0 b),(bQ 2 p)])⟩
def bD (F:KF R):=I9 N F [1,1,1,1,1,1,0,1,0] []
def Abt (l:Int) (d:LA) (c:Nat) (g f e:Bool) (b:LA):St:=⟨[(1,(iv l)),(2,(.imm d c 1 g f)),(3,(op 0))],(hq [(bP e 0 b)])⟩
def Abu (F:KF R):=I9 N F [1,1,1,1,1] []
theorem nq (Q1:St→O R) (F:KF R) (l:Int) (d:LA) (c:Nat) (g f:Bool) (i:Nat) (m:Int) (e:Bool) (b:LA):∀ (u:LA),A8 (Abo N F Q1) (Abn l d c g f i m e b u)=(AO N (fun i m p=>Q1 (Ss l d c g f e b i m p)) (Bs F) l d c g f i m e b u):=by
 intro u
 kernel_rfl
theorem nr (Q1:St→O R) (F:KF R) (l:Int) (d:LA) (c:Nat) (g f:Bool) (i:Nat) (m:Int) (e:Bool) (b:LA):∀ (t:Bool) (q:LA),A8 (Abq N F Q1) (Abp l d c g f i m e b t q)=(So N (fun i m p=>Q1 (Ss l d c g f e b i m p)) (Bs F) l d c g f i m e b t q):=by
 intro t q
 exact Eq.trans (by kernel_rfl) (Bn (Xr N (fun i m p=>Q1 (Ss l d c g f e b i m p)) (Bs F) l d c g f i m e b · t q) (funext fun u=>(Ar ..).trans (nq N Q1 F l d c g f i m e b u)):_)
theorem nv (Q3:St→O R) (F:KF R) (d:LA) (c:Nat) (g f:Bool) (i:Nat) (o:Int) (e:Bool) (b:LA):∀ (v:Bool) (s:LA),A8 (Abs N F Q3) (Abr d c g f i o e b v s)=(Sp N (fun o r=>Q3 (bB d c g f i e b o r)) (Bs F) d c g f i o e b v s):=by
 intro v s
 kernel_rfl
theorem IC (F:KF R) (d:LA) (c:Nat) (g f:Bool) (i:Nat) (e:Bool) (b:LA):∀ (n:Nat) (o:Int) (r:LA),Ap (bC N F) n (bB d c g f i e b o r)=(G2 N (Bs F) d c g f i e b n o r)
 | 0,_,_=>by kernel_rfl
 | n+1,o,r=>have e0:=(funext fun o=>funext fun r=>(IC F d c g f i e b n o r))
  Eq.trans (by kernel_rfl) (cR (Qs N (Bs F) d c g f i e b · · o r) e0 (funext fun v=>funext fun s=>(Ar ..).trans ((nv N (Ap (bC N F) n) F d c g f i o e b v s).trans (Bn (Sp N · (Bs F) d c g f i o e b v s) e0))):_)
theorem ID (F:KF R) (l:Int) (d:LA) (c:Nat) (g f e:Bool) (b:LA):∀ (n i:Nat) (m:Int) (p:LA),Ap (bD N F) n (Ss l d c g f e b i m p)=(Fp N (Bs F) l d c g f e b n i m p)
 | 0,_,_,_=>by kernel_rfl
 | n+1,i,m,p=>have e0:=(funext fun i=>funext fun m=>funext fun p=>(ID F l d c g f e b n i m p))
  Eq.trans (by kernel_rfl) (Bf8 (Qt N (Bs F) l d c g f e b · · · i m p) e0 (funext fun t=>funext fun q=>(Ar ..).trans ((nr N (Ap (bD N F) n) F l d c g f i m e b t q).trans (Bn (So N · (Bs F) l d c g f i m e b t q) e0))) (funext fun o=>funext fun r=>(Aj ..).trans (IC N F d c g f i e b N o r)):_)
theorem nw (F:KF R) (l:Int) (d:LA) (c:Nat) (g f e:Bool) (b:LA):A8 (Abu N F) (Abt l d c g f e b)=(Nl N (Bs F) l d c g f e b):=by
 exact Eq.trans (by kernel_rfl) (Bn (Xs N (Bs F) l d c g f e b ·) (funext fun i=>funext fun m=>funext fun p=>(Aj ..).trans (ID N F l d c g f e b N i m p)):_)
theorem bE (b:LA) (e:Bool) (l:Int) (d:LA) (c:Nat) (g f:Bool) (F:KF R):Cm (gM N) bA N 30 [(.pagg b e),(iv l),(.imm d c 1 g f)] [] F=(Qu N b e l d c g f (Bs F)):=by
 rw[SI]
 exact Eq.trans (by kernel_rfl) (Bn (Yx N (Bs F) · b e l d c g f) ((Ar ..).trans (nw N F l d c g f e b)):_)
def SK (a:LA) (h:Am) (k:KF R):O R :=
 match a,h with
 | [(.pagg b e),(.int .i64 l),(.imm d c 1 g f)],[]=>(Qu N b e l d c g f (Bs k))
 | _,_=>none
theorem bF:Ao N 30 @SK:=by
 intro R Q a h k j;unfold SK;split;exact Ay (bE ..) (bE ..) ⟨At7 N,Az3 N,A0g N,trivial⟩;exact A0
def Abv:=Az (bF N)
def Abw:=Cj (bF N)
def SL (e:LA) (c:Nat) (f g:Bool) (b d:Int) (r0:Int→O R):O R :=
 (cond ((decide (b≥((c:Nat):Int)))==false) (cond (cond false true (decide (d≤0))) (r0 0) (cond (Ac b c) (An .i64 (e.drop ((b.toNat)*1)) fun i=>(PE N (wrap .i64 (Int.tdiv i 3)) (wrap .i64 (d+1)) (fun l=>(r0 l)))) none)) (r0 0))
def SM:=(Af (@SL R)).1
theorem DT:@SM R=@SL R:=(Af _).2
def A4h:Ef:=[(12,Atg N)]
def zW (F:KF R):Int→O R:=(fun m=>F (iv m) [])
theorem zX (e:LA) (c:Nat) (f g:Bool) (b d:Int) (F:KF R):Cm (A4h N) Dr N 116 [(.imm e c 1 f g),(iv b),(iv d)] [] F=(SM N e c f g b d (zW F)):=by
 rw[DT]
 kernel_rfl
def s_ (a:LA) (h:Am) (k:KF R):O R :=
 match a,h with
 | [(.imm e c 1 f g),(.int .i64 b),(.int .i64 d)],[]=>(SM N e c f g b d (zW k))
 | _,_=>none
theorem zY:Ao N 116 @s_:=by
 intro R Q a h k j;unfold s_;split;exact Ay (zX ..) (zX ..) ⟨Ath N,trivial⟩;exact A0
def A0h:=Az (zY N)
def A0i:=Cj (zY N)
def Gs (k0:Int→Int→Nat→Nat→LA→LA→O R) (r0:LA→O R) (r1:LA→O R) (e:Int) (c:Nat) (f:LA) (g:Nat) (m i:Bool) (o:Nat) (b:LA) (l:Bool) (d p:LA) (ad ab ae:Int) (z aa:Nat) (af ag:LA):O R :=
 (Fk N ab (fun ay=>(cond ((Nat.beq (ay.length) 3)&&(Nat.ble 3 3)) (cond ((Nat.ble (z+1) 140737488355328)&&(Nat.ble ((z+1)*56) 140737488355328)) (Fk N ae (fun az=>(cond ((Nat.beq (az.length) 3)&&(Nat.ble 3 3)) (cond ((Nat.ble (aa+1) 140737488355328)&&(Nat.ble ((aa+1)*56) 140737488355328)) (k0 ab (wrap .i64 (ad+1)) (z+1) (aa+1) ((af.take (z*3))++((setCells [(.bool false),.nsl,.nsl] 0 ay).take 3)) ((ag.take (aa*3))++((setCells [(.bool false),.nsl,.nsl] 0 az).take 3))) none) none))) none) none)))
def Ti (k0:Int→Int→Nat→Nat→LA→LA→O R) (r0:LA→O R) (r1:LA→O R) (e:Int) (c:Nat) (f:LA) (g:Nat) (m i:Bool) (o:Nat) (b:LA) (l:Bool) (d p:LA) (q2:Int→Int→Int→Nat→Nat→LA→LA→O R) (ah ai ap aq:Int) (ar au:Nat) (av aw:LA):O R :=
 (SM N f g false i (wrap .i64 (2*ah)) (wrap .i64 (ap - ai)) (fun ba=>(An .i64 (d.drop 16) fun bb=>(SM N f g false i (wrap .i64 ((wrap .i64 (2*ah))+1)) (Bv bb (wrap .i64 (aq - (wrap .i64 (ai+ba))))) (fun bc=>(q2 ah (wrap .i64 (ai+ba)) bc ar au av aw))))))
def Om (k0:Int→Int→Nat→Nat→LA→LA→O R) (r0:LA→O R) (r1:LA→O R) (e:Int) (c:Nat) (f:LA) (g:Nat) (m i:Bool) (o:Nat) (b:LA) (l:Bool) (d p:LA) (ah ai ap aq:Int) (ar au:Nat) (av aw:LA):O R:=(Ti N k0 r0 r1 e c f g m i o b l d p (fun ad ab ae z aa af ag=>(Gs N k0 r0 r1 e c f g m i o b l d p ad ab ae z aa af ag)) ah ai ap aq ar au av aw)
def Tj (N:Nat) (k0:Int→Int→Nat→Nat→LA→LA→O R) (r0:LA→O R) (r1:LA→O R) (e:Int) (c:Nat) (f:LA) (g:Nat) (m i:Bool) (o:Nat) (w x y:Int) (b:LA) (l:Bool) (d p:LA) (q3:Int→Int→Int→Int→Nat→Nat→LA→LA→O R) (ac aj:Int) (ao:Bool) (ak al:Nat) (am an:LA):O R :=
 (cond ao (An .i64 (d.drop 7) fun bd=>(An .i64 (d.drop 6) fun be=>(An .i64 (d.drop 6) fun bf=>(q3 aj (Iq w (wrap .i64 (ac - bd))) (Bv x (wrap .i64 (ac+be))) (Bv y (wrap .i64 (ac+bf))) ak al am an)))) (An .i64 (d.drop 8) fun bg=>(q3 aj w x (Bv y bg) ak al am an)))
def Jr (k0:Int→Int→Nat→Nat→LA→LA→O R) (r0:LA→O R) (r1:LA→O R) (e:Int) (c:Nat) (f:LA) (g:Nat) (m i:Bool) (o:Nat) (w x y:Int) (b:LA) (l:Bool) (d p:LA) (ac aj:Int) (ao:Bool) (ak al:Nat) (am an:LA):O R:=(Tj N k0 r0 r1 e c f g m i o w x y b l d p (fun ah ai ap aq ar au av aw=>(Om N k0 r0 r1 e c f g m i o b l d p ah ai ap aq ar au av aw)) ac aj ao ak al am an)
def Mz (N:Nat) (r0:LA→O R) (r1:LA→O R) (e:Int) (c:Nat) (f:LA) (g:Nat) (m i:Bool) (o:Nat) (b:LA) (l:Bool) (d p:LA) (k0:Int→Int→Nat→Nat→LA→LA→O R) (q1:Int→Int→Int→Int→Int→Bool→Nat→Nat→LA→LA→O R) (q2:Int→Int→Int→Nat→Nat→LA→LA→O R) (v q:Int) (r s:Nat) (t u:LA):O R :=
 (cond (decide (q<e)) (cond (Ac q c) (An .i64 (b.drop (0+((q.toNat)*1))) fun bh=>(cond (bh==2) (cond (Ac q o) (An .i64 (p.drop (0+((q.toNat)*2))) fun w=>(cond (Ac q o) (An .i64 (p.drop ((0+((q.toNat)*2))+1)) fun x=>(An .i64 (d.drop 3) fun y=>(cond ((q==0)==true) (An .i64 (d.drop 19) fun bi=>(cond ((cond true (bi==2) false)==false) (cond ((decide (q>0))==true) (cond (Ac (wrap .i64 (q - 1)) c) (An .i64 (b.drop (0+(((wrap .i64 (q - 1)).toNat)*1))) fun bj=>(q1 w x y v q (cond false true (cond true (bj==2) false)) r s t u)) none) (q1 w x y v q false r s t u)) (q1 w x y v q true r s t u))) (cond ((decide (q>0))==true) (cond (Ac (wrap .i64 (q - 1)) c) (An .i64 (b.drop (0+(((wrap .i64 (q - 1)).toNat)*1))) fun bk=>(q1 w x y v q (cond false true (cond true (bk==2) false)) r s t u)) none) (q1 w x y v q false r s t u))))) none)) none) (q2 q 0 0 r s t u))) none) (r1 [(.imm (b.take (c*1)) c 1 false false),(.imm (t.take (r*3)) r 3 false false),(.imm (u.take (s*3)) s 3 false false)]))
def Ch (r0:LA→O R) (r1:LA→O R) (e:Int) (c:Nat) (f:LA) (g:Nat) (m i:Bool) (o:Nat) (b:LA) (l:Bool) (d p:LA):Nat→Int→Int→Nat→Nat→LA→LA→O R
 | 0,_,_,_,_,_,_=>none
 | n+1,v,q,r,s,t,u=>(Mz N r0 r1 e c f g m i o b l d p (Ch r0 r1 e c f g m i o b l d p n) (fun w x y ac aj ao ak al am an=>(Jr N (Ch r0 r1 e c f g m i o b l d p n) r0 r1 e c f g m i o w x y b l d p ac aj ao ak al am an)) (fun ad ab ae z aa af ag=>(Gs N (Ch r0 r1 e c f g m i o b l d p n) r0 r1 e c f g m i o b l d p ad ab ae z aa af ag)) v q r s t u)
def Sw (r0:LA→O R) (r1:LA→O R) (q0:Nat→LA→Int→Int→Nat→Nat→LA→LA→O R) (d:LA) (l:Bool) (e:Int) (c:Nat) (f:LA) (g:Nat) (m i:Bool) (b:LA):O R :=
 (cond (Nat.ble 22 (d.length)) (Qu N (d.take 22) l e (b.take (c*1)) c false true (fun o bl p=>(cond (bl != 0) (r0 [(.imm [] 0 1 false false),(.imm [] 0 3 false false),(.imm [] 0 3 false false)]) (An .i64 (d.drop 21) fun bm=>(q0 o p bm 0 0 0 [] []))))) none)
def Lc:=(Af (fun (N:Nat) (d:LA) (l:Bool) (e:Int) (c:Nat) (f:LA) (g:Nat) (m i:Bool) (b:LA) (r0:LA→O R) (r1:LA→O R)=>(Sw N r0 r1 (fun o p v q r s t u=>(Ch N r0 r1 e c f g m i o b l d p N v q r s t u)) d l e c f g m i b))).1
theorem IE (d l e c f g m i b r0 r1):(@Lc R N d l e c f g m i b r0 r1)=(Sw N r0 r1 (fun o p v q r s t u=>(Ch N r0 r1 e c f g m i o b l d p N v q r s t u)) d l e c f g m i b):=by rw[Lc,(Af _).2]
def MP:Hints:={ H:=(hS hL (hS hL (hS hL (hS hL (hS hL (hS (hS hL (hS (hP [1,2,3,4,8,10,12,13,14] (hS hL (hS (hS (hS hL (hJ [1,2,3,4,8,10,12,14,15,16] (hS hL (hS (hS hL (hJ [1,2,3,4,8,10,12,14,17,18,19] (hJ [1,2,3,4,8,10,12,13,14,17,18,19,74] hL hL) hL)) hL)) hL)) hL) hL))) hL)) hL)))))),modes:=[(3,0),(0,0)],cob:=[29,31] }
def SN:Ef:=[(30,Abv N),(20,dF N),(116,A0h N)]
def On (F:KF R):=Ja Tryz.f63 MP (SN N) [100000] N F
def B4 (b:LA) (F:KF R):LA→O R:=(fun ax=>F (.tup [(.pagg ax false),(.bool false)]) [(100000,(bQ 1 b))])
def B5 (b:LA) (F:KF R):LA→O R:=(fun ax=>F (.tup [(.pagg ax false),(.bool true)]) [(100000,(bT 1 b))])
def sa (e:Int) (c:Nat) (f:LA) (g:Nat) (m i:Bool) (o:Nat) (b:LA) (l:Bool) (d p:LA) (ad ab ae:Int) (z aa:Nat) (af ag:LA):St:=⟨[(1,(iv e)),(2,(.own 100000 0 c)),(3,(.imm f g 1 m i)),(4,(op 0)),(8,(op 1)),(10,(.own 300002 0 o)),(12,(op 3)),(14,(iv ad)),(15,(iv ab)),(16,(iv ae))],[(100000,(bQ 1 b)),(300000,(bP l 0 d)),(300001,⟨false,false,false,false,0,[.nsl,.nsl,.nsl],false⟩),(300002,(bQ 2 p)),(300003,⟨false,false,false,false,0,[(.own 100000 0 c),(.own 300004 0 z),(.own 300005 0 aa)],false⟩),(300004,(bQ 3 af)),(300005,(bQ 3 ag))]⟩
def sb (F:KF R) (Q0:St→O R):=On N F [1,1,1,1,1,0,1,0,0,1,0,0,1,1] [Q0]
def se (e:Int) (c:Nat) (f:LA) (g:Nat) (m i:Bool) (o:Nat) (b:LA) (l:Bool) (d p:LA) (ah ai ap aq:Int) (ar au:Nat) (av aw:LA):St:=⟨[(1,(iv e)),(2,(.own 100000 0 c)),(3,(.imm f g 1 m i)),(4,(op 0)),(8,(op 1)),(10,(.own 300002 0 o)),(12,(op 3)),(14,(iv ah)),(17,(iv ai)),(18,(iv ap)),(19,(iv aq))],[(100000,(bQ 1 b)),(300000,(bP l 0 d)),(300001,⟨false,false,false,false,0,[.nsl,.nsl,.nsl],false⟩),(300002,(bQ 2 p)),(300003,⟨false,false,false,false,0,[(.own 100000 0 c),(.own 300004 0 ar),(.own 300005 0 au)],false⟩),(300004,(bQ 3 av)),(300005,(bQ 3 aw))]⟩
def sf (F:KF R) (Q0:St→O R):=On N F [1,1,1,1,1,0,1,0,0,1,0,0,1,0,1,0,1,1] [Q0]
def sh (e:Int) (c:Nat) (f:LA) (g:Nat) (m i:Bool) (o:Nat) (w x y:Int) (b:LA) (l:Bool) (d p:LA) (ac aj:Int) (ao:Bool) (ak al:Nat) (am an:LA):St:=⟨[(1,(iv e)),(2,(.own 100000 0 c)),(3,(.imm f g 1 m i)),(4,(op 0)),(8,(op 1)),(10,(.own 300002 0 o)),(12,(op 3)),(13,(iv ac)),(14,(iv aj)),(17,(iv w)),(18,(iv x)),(19,(iv y)),(74,(.bool ao))],[(100000,(bQ 1 b)),(300000,(bP l 0 d)),(300001,⟨false,false,false,false,0,[.nsl,.nsl,.nsl],false⟩),(300002,(bQ 2 p)),(300003,⟨false,false,false,false,0,[(.own 100000 0 c),(.own 300004 0 ak),(.own 300005 0 al)],false⟩),(300004,(bQ 3 am)),(300005,(bQ 3 an))]⟩
def si (F:KF R) (Q0:St→O R):=On N F [1,1,1,1,1,0,1,0,0,1,0,0,1,0,1,0,1,0,1] [Q0]
def Gt (e:Int) (c:Nat) (f:LA) (g:Nat) (m i:Bool) (o:Nat) (b:LA) (l:Bool) (d p:LA) (v q:Int) (r s:Nat) (t u:LA):St:=⟨[(1,(iv e)),(2,(.own 100000 0 c)),(3,(.imm f g 1 m i)),(4,(op 0)),(8,(op 1)),(10,(.own 300002 0 o)),(12,(op 3)),(13,(iv v)),(14,(iv q))],[(100000,(bQ 1 b)),(300000,(bP l 0 d)),(300001,⟨false,false,false,false,0,[.nsl,.nsl,.nsl],false⟩),(300002,(bQ 2 p)),(300003,⟨false,false,false,false,0,[(.own 100000 0 c),(.own 300004 0 r),(.own 300005 0 s)],false⟩),(300004,(bQ 3 t)),(300005,(bQ 3 u))]⟩
def Vx (F:KF R):=On N F [1,1,1,1,1,0,1,0] []
theorem Z6 (Q0:St→O R) (F:KF R) (e:Int) (c:Nat) (f:LA) (g:Nat) (m i:Bool) (o:Nat) (b:LA) (l:Bool) (d p:LA):∀ (ad ab ae:Int) (z aa:Nat) (af ag:LA),A8 (sb N F Q0) (sa e c f g m i o b l d p ad ab ae z aa af ag)=(Gs N (fun v q r s t u=>Q0 (Gt e c f g m i o b l d p v q r s t u)) (B4 b F) (B5 b F) e c f g m i o b l d p ad ab ae z aa af ag):=by
 intro ad ab ae z aa af ag
 kernel_rfl
theorem gN (Q0:St→O R) (F:KF R) (e:Int) (c:Nat) (f:LA) (g:Nat) (m i:Bool) (o:Nat) (b:LA) (l:Bool) (d p:LA):∀ (ah ai ap aq:Int) (ar au:Nat) (av aw:LA),A8 (sf N F Q0) (se e c f g m i o b l d p ah ai ap aq ar au av aw)=(Om N (fun v q r s t u=>Q0 (Gt e c f g m i o b l d p v q r s t u)) (B4 b F) (B5 b F) e c f g m i o b l d p ah ai ap aq ar au av aw):=by
 intro ah ai ap aq ar au av aw
 exact Eq.trans (by kernel_rfl) (Bn (Ti N (fun v q r s t u=>Q0 (Gt e c f g m i o b l d p v q r s t u)) (B4 b F) (B5 b F) e c f g m i o b l d p · ah ai ap aq ar au av aw) (funext fun ad=>funext fun ab=>funext fun ae=>funext fun z=>funext fun aa=>funext fun af=>funext fun ag=>(Ar ..).trans (Z6 N Q0 F e c f g m i o b l d p ad ab ae z aa af ag)):_)
theorem gO (Q0:St→O R) (F:KF R) (e:Int) (c:Nat) (f:LA) (g:Nat) (m i:Bool) (o:Nat) (w x y:Int) (b:LA) (l:Bool) (d p:LA):∀ (ac aj:Int) (ao:Bool) (ak al:Nat) (am an:LA),A8 (si N F Q0) (sh e c f g m i o w x y b l d p ac aj ao ak al am an)=(Jr N (fun v q r s t u=>Q0 (Gt e c f g m i o b l d p v q r s t u)) (B4 b F) (B5 b F) e c f g m i o w x y b l d p ac aj ao ak al am an):=by
 intro ac aj ao ak al am an
 exact Eq.trans (by kernel_rfl) (Bn (Tj N (fun v q r s t u=>Q0 (Gt e c f g m i o b l d p v q r s t u)) (B4 b F) (B5 b F) e c f g m i o w x y b l d p · ac aj ao ak al am an) (funext fun ah=>funext fun ai=>funext fun ap=>funext fun aq=>funext fun ar=>funext fun au=>funext fun av=>funext fun aw=>(Ar ..).trans (gN N Q0 F e c f g m i o b l d p ah ai ap aq ar au av aw)):_)
theorem Z7 (F:KF R) (e:Int) (c:Nat) (f:LA) (g:Nat) (m i:Bool) (o:Nat) (b:LA) (l:Bool) (d p:LA):∀ (n:Nat) (v q:Int) (r s:Nat) (t u:LA),Ap (Vx N F) n (Gt e c f g m i o b l d p v q r s t u)=(Ch N (B4 b F) (B5 b F) e c f g m i o b l d p n v q r s t u)
 | 0,_,_,_,_,_,_=>by kernel_rfl
 | n+1,v,q,r,s,t,u=>have e0:=(funext fun v=>funext fun q=>funext fun r=>funext fun s=>funext fun t=>funext fun u=>(Z7 F e c f g m i o b l d p n v q r s t u))
  Eq.trans (by kernel_rfl) (Bf8 (Mz N (B4 b F) (B5 b F) e c f g m i o b l d p · · · v q r s t u) e0 (funext fun w=>funext fun x=>funext fun y=>funext fun ac=>funext fun aj=>funext fun ao=>funext fun ak=>funext fun al=>funext fun am=>funext fun an=>(Ar ..).trans ((gO N (Ap (Vx N F) n) F e c f g m i o w x y b l d p ac aj ao ak al am an).trans (Bn (Jr N · (B4 b F) (B5 b F) e c f g m i o w x y b l d p ac aj ao ak al am an) e0))) (funext fun ad=>funext fun ab=>funext fun ae=>funext fun z=>funext fun aa=>funext fun af=>funext fun ag=>(Ar ..).trans ((Z6 N (Ap (Vx N F) n) F e c f g m i o b l d p ad ab ae z aa af ag).trans (Bn (Gs N · (B4 b F) (B5 b F) e c f g m i o b l d p ad ab ae z aa af ag) e0))):_)
theorem MQ (d:LA) (l:Bool) (e:Int) (c:Nat) (f:LA) (g:Nat) (m i:Bool) (b:LA) (F:KF R):Cm (SN N) MP N 63 [(.pagg d l),(iv e),(.own 100000 0 c),(.imm f g 1 m i)] [(100000,(bQ 1 b))] F=(Lc N d l e c f g m i b (B4 b F) (B5 b F)):=by
 rw[IE]
 exact Eq.trans (by kernel_rfl) (Bn (Sw N (B4 b F) (B5 b F) · d l e c f g m i b) (funext fun o=>funext fun p=>funext fun v=>funext fun q=>funext fun r=>funext fun s=>funext fun t=>funext fun u=>(Aj ..).trans (Z7 N F e c f g m i o b l d p N v q r s t u)):_)
def IF (a:LA) (h:Am) (k:KF R):O R :=
 match a,h with
 | [(.pagg d l),(.int .i64 e),(.own 100000 0 c),(.imm f g 1 m i)],[(100000,⟨false,false,true,false,1,b,false⟩)]=>(Lc N d l e c f g m i b (B4 b k) (B5 b k))
 | _,_=>none
theorem MR:Ao N 63 @IF:=by
 intro R Q a h k j;unfold IF;split;exact Ay (MQ ..) (MQ ..) ⟨Abw N,dG N,A0i N,trivial⟩;exact A0
def sj:=Az (MR N)
def sk:=Cj (MR N)
def vR (b:LA) (c:Bool) (d:Int) (e:LA) (f:Nat) (i g:Bool) (r0:LA→Bool→O R):O R :=
 (cond (Nat.ble 22 (b.length)) (Xq N (b.take 22) c d e f false g (fun n o=>(cond (Nat.ble 22 (b.length)) (Lc N (b.take 22) c d n e f false g o (fun l=>(cond ((Nat.beq 0 0)&&((Nat.beq (l.length) 3)&&(Nat.beq 3 3))) (cond (Nat.ble 3 (l.length)) (r0 (l.take 3) false) none) none)) (fun m=>(cond ((Nat.beq 0 0)&&((Nat.beq (m.length) 3)&&(Nat.beq 3 3))) (cond (Nat.ble 3 (m.length)) (r0 (m.take 3) true) none) none))) none))) none)
def gP:=(Af (@vR R)).1
theorem sn:@gP R=@vR R:=(Af _).2
def A4i:Ef:=[(62,An9 N),(63,sj N)]
def zZ (F:KF R):LA→Bool→O R:=(fun p q=>F (.tup [(.pagg p false),(.bool q)]) [])
theorem z0 (b:LA) (c:Bool) (d:Int) (e:LA) (f:Nat) (i g:Bool) (F:KF R):Cm (A4i N) Bam N 28 [(.pagg b c),(iv d),(.imm e f 1 i g)] [] F=(gP N b c d e f i g (zZ F)):=by
 rw[sn]
 kernel_rfl
def sp (a:LA) (h:Am) (k:KF R):O R :=
 match a,h with
 | [(.pagg b c),(.int .i64 d),(.imm e f 1 i g)],[]=>(gP N b c d e f i g (zZ k))
 | _,_=>none
theorem z5:Ao N 28 @sp:=by
 intro R Q a h k j;unfold sp;split;exact Ay (z0 ..) (z0 ..) ⟨Aoa N,sk N,trivial⟩;exact A0
def A0j:=Az (z5 N)
def A0k:=Cj (z5 N)
end
end Gx

namespace Gx
open Go Go.Proofs
section
variable {R:Type}
section
variable {u:UnitD} {ks:List Int} {n:Nat}
def Bbx (u:UnitD) (ks:List Int) (n h:Nat):PD :=
 cond (h==0&&u.state==2) ⟨Iq u.min (u.output - u.rampDown),Bv (cond (decide (h+1<n)&&!Ed ks (h+1)) (Bv (cond (Rz u ks h) u.max (Bv u.max u.startRamp)) u.stopRamp) (cond (Rz u ks h) u.max (Bv u.max u.startRamp))) (u.output+u.rampUp)⟩
  ⟨u.min,cond (decide (h+1<n)&&!Ed ks (h+1)) (Bv (cond (Rz u ks h) u.max (Bv u.max u.startRamp)) u.stopRamp) (cond (Rz u ks h) u.max (Bv u.max u.startRamp))⟩
theorem A9n {N:Nat} {K:LA→O R} {c g i:Bool} {h:Nat} (C:uR u) (G:ks.length=n) (hn:n≤1000) (I:h<n):SH N u.av c (Av ks) n g i (h:Int) K=K (Bbx u ks n h).av:=by
 unfold uR at C
 rw[s8];unfold iV
 have D:∀ f:Int,MO N K (h:Int) c u.av f=K (cond (h==0&&u.state==2) (PD.mk (Iq u.min (u.output - u.rampDown)) (Bv f (u.output+u.rampUp))) (PD.mk u.min f)).av:=by
  intro f
  unfold MO WS gK
  simp only[u2,u6,u7,A93,Bf1]
  rw[i64 (a:=u.output - u.rampDown) (by omega),i64 (a:=u.output+u.rampUp) (by omega)]
  cases h with
  | zero=>rw[show(((0:Nat):Int)==0)=true from rfl];cases (u.state==2)<;>rfl
  | succ h=>rw[show(((h+1:Nat):Int)==0)=false by simp;omega,show(h+1==0)=false from rfl];rfl
 have F:∀ l:Int,Z5 N K (Av ks) n g i (h:Int) c u.av l=K (cond (h==0&&u.state==2) (PD.mk (Iq u.min (u.output - u.rampDown)) (Bv (cond (decide (h+1<n)&&!Ed ks (h+1)) (Bv l u.stopRamp) l) (u.output+u.rampUp))) (PD.mk u.min (cond (decide (h+1<n)&&!Ed ks (h+1)) (Bv l u.stopRamp) l))).av:=by
  intro l
  unfold Z5 WT
  simp only[D,u9]
  rw[wS (by omega)]
  by_cases k:h+1<n
  ·rw[Jy k,show(true==true)=true from rfl,ct,Aa k,ct,D8 (by omega),show decide (h+1<n)=true by simpa using k,Qq (by omega),Bool.true_and,show(ks[h+1] != 2)=(!(ks[h+1]==2)) from rfl]
   cases (ks[h+1]==2)<;>rfl
  ·rw[Lm (by omega),show decide (h+1<n)=false by simpa using k];rfl
 simp only[F,u3,u8,A93]
 unfold Bbx
 cases h with
 | zero =>
  rw[show(((0:Nat):Int)==0)=true from rfl,show Rz u ks 0=(u.state==2) from rfl,show(u.state != 2)=(!(u.state==2)) from rfl]
  cases (u.state==2)<;>rfl
 | succ h =>
  rw[show(((h+1:Nat):Int)==0)=false by simp;omega,show Rz u ks (h+1)=Ed ks h from rfl,show(false==true)=false from rfl,cf,show(decide (((h+1:Nat):Int)>0)==true)=true by simp,ct]
  rw[show IntKind.wrap .i64 (((h+1:Nat):Int) - 1)=(h:Int) by rw[i64 (by omega)];omega,Aa (by omega),ct,D8 (by omega),Qq (ks:=ks) (h:=h) (by omega),show(ks[h] != 2)=(!(ks[h]==2)) from rfl]
  cases (ks[h]==2)<;>rfl
theorem Bgu (ok:UOk u) {h:Nat} (k:Ed ks h=true):IA u ks n h=cond (decide (0<h)&&Rz u ks h) ⟨Iq (Bbx u ks n h).lo ((IA u ks n (h - 1)).lo - u.rampDown),Bv (Bbx u ks n h).hi ((IA u ks n (h - 1)).hi+u.rampUp)⟩ (Bbx u ks n h):=by
 obtain⟨a,b,c,d⟩:=ok
 cases h with
 | zero =>
  unfold IA Bbx
  rw[gF,k,show Rz u ks 0=(u.state==2) from rfl]
  cases (u.state==2)<;>cases (decide (0+1<n)&&!Ed ks (0+1))<;>simp[Jq,Sn]<;>omega
 | succ h =>
  rw[Nat.add_sub_cancel,Ben k]
  unfold IA Bbx
  rw[gF,k,show Rz u ks (h+1)=Ed ks h from rfl]
  cases Ed ks h<;>cases (decide (h+1+1<n)&&!Ed ks (h+1+1))<;>simp[Jq,Sn]<;>omega
def gE (u:UnitD) (ks:List Int) (n p:Nat):Nat→PD:=fun i=>if i<p then IA u ks n i else ⟨0,0⟩
def gC (u:UnitD) (ks:List Int) (n p:Nat):Nat→PD:=fun i=>if i<p then IA u ks n i else NZ u ks n i
theorem Bfm {h:Nat} (k:Ed ks h=false):IA u ks n h=⟨0,0⟩:=by unfold IA;rw[k];exact Bfl k
theorem A0l {N:Nat} {K:Nat→Int→LA→O R} {f e d:Bool} (ok:UOk u) (T:uR u) (hn:n≤1000) (U:ks.length=n):∀ (m fuel:Nat),m<n→m<fuel →
  G2 N K (Av ks) n f e n d u.av fuel (m:Int) (tb n (gC u ks n m))=K n 0 (tb n (NZ u ks n))
 | 0,fuel+1,_,_=>by
  rw[G2];unfold Qs
  rw[show decide (((0:Nat):Int)>0)=false from rfl,cf,Z3 fun i _=>by unfold gC;rw[if_neg (by omega)]]
 | m+1,fuel+1,F,hf=>by
  rw[G2];unfold Qs Sp
  have h:m<n:=by omega
  have k:m<ks.length:=by omega
  have C:m+1<ks.length:=by omega
  have I:=A0l (N:=N) (K:=K) (f:=f) (e:=e) (d:=d) ok T hn U m fuel (by omega) (by omega)
  have hb:=ok.b;have ha:=ok.a
  have r1:=Avp (ks:=ks) (n:=n) ok (n - 1 - (m+1)) (m+1) (by omega)
  have r2:=Az6 (ks:=ks) (n:=n) ok (m+1)
  have f1:=Avo (ks:=ks) ok (m+1)
  have V:IntKind.wrap .i64 (((m+1:Nat):Int) - 1)=(m:Int):=by rw[i64 (by omega)];omega
  have L:gC u ks n (m+1) m=IA u ks n m:=by unfold gC;rw[if_pos (by omega)]
  have Y:gC u ks n (m+1) (m+1)=NZ u ks n (m+1):=by unfold gC;rw[if_neg (by omega)]
  have up:∀ v:PD,v=NZ u ks n m→tb n (A05 (gC u ks n (m+1)) m v)=tb n (gC u ks n m):=fun v hv=>Z3 fun i _=>by
   subst hv
   unfold A05 gC
   by_cases G:i=m
   ·subst G;rw[if_pos rfl,if_neg (by omega)]
   ·rw[if_neg G]
    by_cases M:i<m
    ·rw[if_pos (by omega),if_pos M]
    ·rw[if_neg (by omega),if_neg M]
  have same:NZ u ks n m=IA u ks n m→tb n (gC u ks n (m+1))=tb n (gC u ks n m):=fun hs=>by
   rw[←up _ rfl,hs,←L]
   exact Z3 fun i _=>by unfold A05;by_cases G:i=m<;>simp[G]
  have s1:∀ (a b:Int),[(AV.int .i64 a),(.int .i64 b)]=(PD.mk a b).av:=fun _ _=>rfl
  have st:=gG u ks (n:=n) (h:=m) (by omega)
  rw[show decide (((m+1:Nat):Int)>0)=true by simp,ct,Aa F,ct,D8 C,V]
  cases S:(ks[m+1]==2) with
  | false =>
   have o:Ed ks (m+1)=false:=by rw[Qq C];exact S
   rw[show(false==true)=false from rfl,cf]
   dsimp only
   rw[cf,same (by rw[st,o,Bool.and_false,cond_false])]
   exact I
  | true =>
   have o:Ed ks (m+1)=true:=by rw[Qq C];exact S
   rw[show(true==true)=true from rfl,ct,Aa h,ct,D8 k]
   dsimp only
   cases D:(ks[m]==2) with
   | false =>
    have o2:Ed ks m=false:=by rw[Qq k];exact D
    rw[show(cond true false false)=false from rfl,cf,same (by rw[st,o2,Bool.false_and,cond_false])]
    exact I
   | true =>
    have o2:Ed ks m=true:=by rw[Qq k];exact D
    rw[show(cond true true false)=true from rfl,ct]
    simp only[Aa h,Aa F,ct,sT h,sT F,sU h,sU F,u6,u7,L,Y,s1]
    rw[Bbv h,ct,A4g h,i64 (a:=(NZ u ks n (m+1)).lo - u.rampUp) (by omega),i64 (a:=(NZ u ks n (m+1)).hi+u.rampDown) (by omega),up _ (by rw[st,o,o2];rfl)]
    exact I
theorem A0m {N:Nat} {X:O R} {K:Nat→Int→LA→O R} {f e d:Bool} (ok:UOk u) (L:uR u) (hn:n≤1000) (T:0<n) (M:ks.length=n) (hN:1100≤N) (C:N4 u ks n=true→K 0 7 []=X) (D:N4 u ks n=false→K n 0 (tb n (NZ u ks n))=X):∀ (m p fuel:Nat),p+m=n→m<fuel →
  (∀ h,h<p→Ed ks h=true→(IA u ks n h).lo≤(IA u ks n h).hi)→Fp N K (n:Int) (Av ks) n f e d u.av fuel n (p:Int) (tb n (gE u ks n p))=X
 | 0,p,fuel+1,hp,_,G=>by
  rw[Fp];unfold Qt
  have:N4 u ks n=false:=by
   unfold N4
   rw[List.any_eq_false]
   intro h hm
   simp at hm
   cases I:Ed ks h with
   | true=>have:=G h (by omega) I;simp;omega
   | false=>simp
  rw[Lm (by omega),cf,i64 (by omega),show(n:Int) - 1=((n - 1:Nat):Int) by omega]
  have e:=A0l (N:=N) (K:=K) (f:=f) (e:=e) (d:=d) (ks:=ks) ok L hn M (n - 1) N (by omega) (by omega)
  dsimp only
  rw[Z3 (g:=gE u ks n p) (g':=gC u ks n (n - 1)) fun i hi=>by
   unfold gE gC
   rw[if_pos (by omega)]
   by_cases h:i<n - 1
   ·rw[if_pos h]
   ·rw[if_neg h,show i=n - 1 by omega,sV _ _ T],e]
  exact D this
 | m+1,p,fuel+1,hp,hf,G=>by
  rw[Fp];unfold Qt So Xr AO
  have h:p<n:=by omega
  have F:p<ks.length:=by omega
  have hb:=ok.b;have ha:=ok.a
  have U:=A0m (N:=N) (K:=K) (f:=f) (e:=e) (d:=d) ok L hn T M hN C D m (p+1) fuel (by omega) (by omega)
  rw[Jy h,ct,Aa h,ct,D8 F,wS (by omega)]
  cases I:(ks[p] != 2) with
  | true =>
   have o:Ed ks p=false:=by rw[Qq F];simpa using I
   rw[ct,Z3 (g:=gE u ks n p) (g':=gE u ks n (p+1)) fun i _=>by
    unfold gE
    by_cases C:i<p
    ·rw[if_pos C,if_pos (by omega)]
    ·rw[if_neg C]
     by_cases D:i=p
     ·subst D;rw[if_pos (by omega),Bfm o]
     ·rw[if_neg (by omega)]]
   exact U fun h' S k=>by
    by_cases e:h'=p
    ·subst e;rw[o] at k;cases k
    ·exact G h' (by omega) k
  | false =>
   have o:Ed ks p=true:=by rw[Qq F];simpa using I
   have en:=Bgu (n:=n) ok o
   rw[cf,Du,ct,B7,A9n L M hn h,ct,Bfk h,ct,Bdj h]
   have s1:∀ (a b:Int),[(AV.int .i64 a),(.int .i64 b)]=(PD.mk a b).av:=fun _ _=>rfl
   have up:tb n (A05 (gE u ks n p) p (IA u ks n p))=tb n (gE u ks n (p+1)):=Z3 fun i _=>by
    unfold A05 gE
    by_cases C:i=p
    ·subst C;simp
    ·rw[if_neg C]
     by_cases D:i<p
     ·rw[if_pos D,if_pos (by omega)]
     ·rw[if_neg D,if_neg (by omega)]
   have fin:cond (Ac (p:Int) n) (An .i64 (List.drop (0+((p:Int).toNat*2)) (tb n (gE u ks n (p+1)))) fun w=>(cond (Ac (p:Int) n) (An .i64 (List.drop ((0+((p:Int).toNat*2))+1) (tb n (gE u ks n (p+1)))) fun x=>(cond (decide (w>x)) (K 0 7 []) (Fp N K (n:Int) (Av ks) n f e d u.av fuel n ((p+1:Nat):Int) (tb n (gE u ks n (p+1)))))) none)) none=X:=by
    rw[Aa h,ct,sT h,ct,sU h,show gE u ks n (p+1) p=IA u ks n p by unfold gE;rw[if_pos (by omega)]]
    by_cases V:(IA u ks n p).lo>(IA u ks n p).hi
    ·rw[decide_eq_true V,ct]
     refine C ?_
     unfold N4
     rw[List.any_eq_true]
     exact⟨p,by simpa using h,by simp[o];omega⟩
    ·rw[decide_eq_false V,cf]
     exact U fun h' S k=>by
      by_cases e:h'=p
      ·subst e;omega
      ·exact G h' (by omega) k
   cases p with
   | zero =>
    rw[show(decide (((0:Nat):Int)>0)==true)=false from rfl,cf]
    dsimp only
    rw[cf]
    rw[show(decide ((0:Nat)<0))=false from rfl,Bool.false_and,cond_false] at en
    rw[←en,up]
    simpa only[Aa h,ct,sT h,sU h] using fin
   | succ q =>
    have r0:=Az6 (ks:=ks) (n:=n) ok q
    have r1:=Avo (ks:=ks) ok q
    have ge0:A05 (gE u ks n (q+1)) (q+1) (Bbx u ks n (q+1)) (q+1)=Bbx u ks n (q+1):=by simp[A05]
    have ge1:A05 (gE u ks n (q+1)) (q+1) (Bbx u ks n (q+1)) q=IA u ks n q:=by unfold A05 gE;rw[if_neg (by omega),if_pos (by omega)]
    have hq:q<n:=by omega
    rw[show(decide (((q+1:Nat):Int)>0)==true)=true by simp,ct,show IntKind.wrap .i64 (((q+1:Nat):Int) - 1)=(q:Int) by rw[i64 (by omega)];omega,Aa hq,ct,D8 (by omega)]
    rw[show decide (0<q+1)=true by simp,Bool.true_and,show Rz u ks (q+1)=Ed ks q from rfl,Nat.add_sub_cancel] at en
    rw[←Qq (by omega)]
    dsimp only
    cases Y:Ed ks q with
    | false =>
     rw[Y,cond_false] at en
     rw[show(cond true false false)=false from rfl,cf,←en,up]
     simpa only[Aa h,ct,sT h,sU h] using fin
    | true =>
     rw[Y,cond_true] at en
     rw[show(cond true true false)=true from rfl,ct]
     simp only[Aa h,Aa hq,ct,sT h,sT hq,sU h,sU hq,u6,u7,ge0,ge1,s1]
     rw[Bbv h,ct,A4g h,i64 (a:=(IA u ks n q).lo - u.rampDown) (by omega),i64 (a:=(IA u ks n q).hi+u.rampUp) (by omega),←en]
     rw[Z3 (g:=A05 (A05 (gE u ks n (q+1)) (q+1) (Bbx u ks n (q+1))) (q+1) (IA u ks n (q+1))) (g':=A05 (gE u ks n (q+1)) (q+1) (IA u ks n (q+1))) fun i _=>by
      unfold A05;by_cases C:i=q+1<;>simp[C],up]
     simpa only[Aa h,ct,sT h,sU h] using fin
end
end
end Gx

namespace Gx
open Go Go.Proofs
section
variable {R:Type}
theorem sq {u:UnitD} {h:Int} (C:De u h=true):UOk u:=by
 simp only[De,Bool.and_eq_true,Fq,decide_eq_true_eq] at C
 obtain⟨S,T,U,V,Y,h6,h7,h8,h9,D,F,G,I,L,k,M⟩:=C
 refine⟨by omega,by omega,by omega,fun hs=>?_⟩
 unfold A3g at k
 rw[show(u.state==2)=true by simpa using hs] at k
 simpa[Fq] using k
def ny (u:UnitD) (h:Int) (ks:List Int):Int :=
 cond (!De u h) 1 (cond ((ks.length:Int) != h) 4 (cond (!(Dz u 0 (Cz u) ks).2) 16 (cond ((u.state==2&&!Ed ks 0)&&decide (u.output>u.stopRamp)) 7 (cond (N4 u ks ks.length) 7 0))))
section
variable {u:UnitD} {ks:List Int} {n:Nat}
theorem Bgv {f:Int→O R} (h:0<ks.length):An .i64 (Av ks) f=f ks[0]:=by
 have:=QF (l:=ks) (i:=0) h (f:=f)
 rwa [List.drop_zero] at this
theorem Abx {N:Nat} {X:O R} {K:Nat→Int→LA→O R} {h:Int} {g i o:Bool} (hl:u.away.l.length≤1000) (V:ks.length≤1000) (hN:4096≤N) (hn:n=ks.length)
  (C:ny u h ks=0→K n 0 (tb n (NZ u ks n))=X) (k:ny u h ks≠0→K 0 (ny u h ks) []=X):Qu N u.av o h (Av ks) n g i K=X:=by
 subst hn
 rw[SI];unfold Yx
 rw[Du,ct,B7,Ail (by omega) (by omega) (by omega)]
 unfold ny at C k
 cases M:De u h with
 | false=>rw[M] at k;exact k (by simp)
 | true =>
  rw[M] at C k
  have ok:=sq M
  obtain⟨hs,hu,hh⟩:=Yu M
  simp only[Bool.not_true,cond_false] at C k ⊢
  cases F:((ks.length:Int) != h) with
  | true=>rw[F] at k;exact k (by simp)
  | false =>
   rw[F] at C k
   have G:(ks.length:Int)=h:=by simpa using F
   have S:0<ks.length:=by omega
   rw[cf,ct]
   simp only[cond_false] at C k
   refine Az5 (by omega) hs hl V rfl (fun T=>?_) (fun T=>?_)
   ·rw[T] at C k
    simp only[Bool.not_true,cond_false] at C k
    rw[show((0:Int) != 0)=false from rfl,cf,A93,show Ac 0 ks.length=true by simp[Ac];omega,ct,Bgv S,Bf1,u9]
    have D:cond ((u.state==2&&!Ed ks 0)&&decide (u.output>u.stopRamp)) 7 (cond (N4 u ks ks.length) 7 0)=cond (N4 u ks ks.length) 7 (0:Int)→Nl N K h (Av ks) ks.length g i o u.av=X:=by
     intro hc
     rw[hc] at C k
     unfold Nl Xs
     rw[←G,show((decide (0≤(ks.length:Int)))&&((decide ((ks.length:Int)≤(ks.length:Int)))&&((decide ((ks.length:Int)≤140737488355328))&&(decide (((ks.length:Int)*((16:Nat):Int))≤140737488355328)))))=true by simp;omega,ct,Int.toNat_natCast,Bdi]
     have:=A0m (N:=N) (K:=K) (f:=g) (e:=i) (d:=o) (X:=X) ok hu V S rfl (by omega) (fun U=>by rw[U] at k;exact k (by simp)) (fun U=>by rw[U] at C;exact C rfl) ks.length 0 N (by omega) (by omega) (by omega)
     rw[Z3 (g:=gE u ks ks.length 0) (g':=fun _=>⟨0,0⟩) fun i _=>by unfold gE;rw[if_neg (by omega)]] at this
     exact this
    rw[Qq S] at D k
    have e:(ks[0] != 2)=!(ks[0]==2):=rfl
    rw[e]
    cases I:(u.state==2) with
    | false=>rw[I] at D;exact D rfl
    | true =>
     rw[I] at D k
     cases L:(ks[0]==2) with
     | true=>rw[L] at D;exact D rfl
     | false =>
      rw[L] at D k
      cases Y:decide (u.output>u.stopRamp) with
      | false=>rw[Y] at D;exact D rfl
      | true=>rw[Y] at k;exact k (by simp)
   ·rw[T] at k
    exact k (by simp)
end
end
end Gx

namespace Gx
open Go Go.Proofs
section
variable {R:Type}
theorem vS {N:Nat} {X:O R} {k0:Nat→Int→LA→LA→O R} {K:Nat→LA→O R} {h:Int} {raw ks:List Int} {L:List StD} {u:UnitD} {s:StD} {g i b:Bool} {p:Nat} (S:u.away.l.length≤1000) (hN:1100≤N) (hL:L.length≤1000) (G:∀ t ∈ L,Vs u t) (hs:Cw u=true) (Y:p≤1000) (I:ks.length≤1000)
  (T:K ks.length (Av ks)=X) (U:∀ t:StD,Vs u t→k0 (ks.length+1) ((p+1:Nat):Int) (Av (ks++[t.k])) t.av=X):∀ (m j fuel:Nat) (C:List StD),j+m=L.length→m<fuel→C.length≤j→(∀ t ∈ C,Vs u t) →
  Nz N k0 K h (Av raw) raw.length g i L.length b u.av s.av (L.flatMap StD.av) fuel ks.length (p:Int) C.length (j:Int) (Av ks) (C.flatMap StD.av)=X
 | 0,j,fuel+1,C,hj,_,hC,M=>by
  rw[Nz];unfold Vv
  rw[Lm (by omega),cf]
  by_cases h0:C.length=0
  ·rw[show(((C.length:Nat):Int)==0)=true by simpa using h0,ct];exact T
  ·rw[show(((C.length:Nat):Int)==0)=false by simpa using h0,cf]
   have pick:∀ (k:Nat) (G:k<C.length),(cond (Nat.ble 2 (List.length (List.drop (0+(Int.toNat (k:Int))*2) (C.flatMap StD.av)))) (cond ((Nat.beq (List.length (List.take 2 (List.drop (0+(Int.toNat (k:Int))*2) (C.flatMap StD.av)))) 2)&&((Nat.ble 2 (List.length s.av))&&(!false))) (An .i64 (setCells s.av 0 (List.take 2 (List.drop (0+(Int.toNat (k:Int))*2) (C.flatMap StD.av)))) fun ae=>(cond ((Nat.ble (ks.length+1) 140737488355328)&&(Nat.ble ((ks.length+1)*8) 140737488355328)) (k0 (ks.length+1) (IntKind.wrap .i64 ((p:Int)+1)) ((List.take (ks.length*1) (Av ks))++[(.int .i64 ae)]) (setCells s.av 0 (List.take 2 (List.drop (0+(Int.toNat (k:Int))*2) (C.flatMap StD.av))))) none)) none) none)=X:=by
    intro k G
    rw[vL G,WO,ct,WP,Bek,ct,A51,lw,show((Nat.ble (ks.length+1) 140737488355328)&&(Nat.ble ((ks.length+1)*8) 140737488355328))=true by rw[Bool.and_eq_true,Nat.ble_eq,Nat.ble_eq];omega,ct,wS (by omega),A8y]
    exact U _ (M _ (List.getElem_mem G))
   by_cases hr:p<raw.length
   ·rw[Jy hr,ct,Aa hr,ct,D8 hr]
    have F:(0:Int)<(C.length:Int):=by omega
    have e:Int.tmod (IntKind.wrap .i64 (Int.tmod raw[p] (C.length:Int)+(C.length:Int))) (C.length:Int)=(((raw[p]%(C.length:Int)).toNat:Nat):Int):=by
     rw[Aqn F (by omega),Aim F]
     have:=Int.emod_nonneg raw[p] (show(C.length:Int)≠0 by omega)
     omega
    have D:(raw[p]%(C.length:Int)).toNat<C.length:=by
     have:=Int.emod_lt_of_pos raw[p] F
     have:=Int.emod_nonneg raw[p] (show(C.length:Int)≠0 by omega)
     omega
    rw[cf,cf]
    simp only[e]
    rw[Aa D,ct]
    exact pick _ D
   ·rw[Lm (by omega),cf,show Ac 0 C.length=true by simp[Ac];omega,ct]
    exact pick 0 (by omega)
 | m+1,j,fuel+1,C,hj,hf,hC,M=>by
  rw[Nz];unfold Vv
  have D:j<L.length:=by omega
  have ho:=G L[j] (List.getElem_mem D)
  rw[Jy D,ct,Du,ct,Aa D,ct,vL D,Bbr,B7,sS S hN (vJ hs ho).2.2,wS (by omega)]
  cases nk u p L[j].k with
  | false=>rw[cf];exact vS S hN hL G hs Y I T U m (j+1) fuel C (by omega) (by omega) (by omega) M
  | true =>
   rw[ct,ct,WO,ct,WP,show ∀ t:StD,((Nat.beq (List.length t.av) 2)&&(Nat.ble 2 2))=true from fun _=>rfl,ct,A8x (by omega),ct,Bda,Awf,SB]
   have:=vS (N:=N) (k0:=k0) (h:=h) (raw:=raw) (g:=g) (i:=i) (b:=b) (s:=s) S hN hL G hs Y I T U m (j+1) fuel (C++[L[j]]) (by omega) (by omega) (by simp;omega) (fun t ht=>by
    rcases List.mem_append.1 ht with V | V
    ·exact M t V
    ·rw[List.mem_singleton.1 V];exact ho)
   rw[List.length_append] at this
   exact this
theorem z6 {N:Nat} {X:O R} {K:Nat→LA→O R} {h:Int} {raw:List Int} {u:UnitD} {g i b:Bool} (F:u.away.l.length≤1000) (hN:1100≤N) (hs:Cw u=true) (I:h≤1000) (H:∀ ks:List Int,ks.length≤h→K ks.length (Av ks)=X):∀ (m fuel:Nat) (ks:List Int) (s:StD),ks.length+m=h→m<fuel→Vs u s →
  Hg N K h (Av raw) raw.length g i b u.av fuel ks.length (ks.length:Int) (Av ks) s.av=X
 | 0,fuel+1,ks,s,M,_,_=>by
  rw[Hg];unfold Vw
  rw[show decide ((ks.length:Int)<h)=false by simp;omega,show(false==true)=false from rfl,cf]
  exact H ks (by omega)
 | m+1,fuel+1,ks,s,M,T,D=>by
  rw[Hg];unfold Vw
  rw[show decide ((ks.length:Int)<h)=true by simp;omega,show(true==true)=true from rfl,ct,Du,ct,B7,K3,hs,show(cond true true false)=true from rfl]
  dsimp only
  rw[ct]
  unfold Yw IB
  rw[Du,ct,oX,ct,B7,Awf,mA hN hs D]
  have:=iT (u:=u) (s:=s)
  refine vS (L:=Ii u s) (C:=[]) F hN (by omega) (sL hs D) hs (by omega) (by omega) (H ks (by omega)) (fun t S=>?_) (Ii u s).length 0 N (by omega) (by omega) (by simp) (by simp)
  have G:=z6 (N:=N) (K:=K) (raw:=raw) (g:=g) (i:=i) (b:=b) F hN hs I H m fuel (ks++[t.k]) t (by simp;omega) (by omega) S
  rw[List.length_append] at G
  exact G
theorem A9o {N:Nat} {X:O R} {K:Nat→LA→O R} {h:Int} {raw:List Int} {u:UnitD} {g i b:Bool} {n:Nat} (hn:n=raw.length) (k:u.away.l.length≤1000) (hN:1100≤N) (hs:Cw u=true) (C:0≤h∧h≤1000) (H:∀ ks:List Int,ks.length≤h→K ks.length (Av ks)=X):Xq N u.av b h (Av raw) n g i K=X:=by
 subst hn
 rw[gI];unfold MN
 rw[Du,ct,B7,SA hs,show ∀ t:StD,((Nat.beq (List.length t.av) 2)&&((Nat.ble 2 2)&&(!false)))=true from fun _=>rfl,ct,Bda]
 exact z6 k hN hs C.2 H h.toNat N [] (Cz u) (by simp;omega) (by omega) (EO hs)
theorem Ari {N:Nat} {K:Int→O R} {raw:List Int} {g i:Bool} {n:Nat} {a c:Int} (hn:n=raw.length) (D:0≤a) (F:c≤1000000000):∃ v:Int,0≤v∧(v=0∨v≤c)∧∀ K:Int→O R,SM N (Av raw) n g i a c K=K v:=by
 subst hn
 by_cases k:a≥(raw.length:Int)
 ·refine⟨0,by omega,.inl rfl,fun K=>?_⟩
  rw[DT];unfold SL
  rw[decide_eq_true k];rfl
 ·by_cases C:c≤0
  ·refine⟨0,by omega,.inl rfl,fun K=>?_⟩
   rw[DT];unfold SL
   rw[decide_eq_false k,decide_eq_true C];rfl
  ·have hi:a.toNat<raw.length:=by omega
   obtain⟨j,rfl⟩:∃ j:Nat,a=j:=⟨a.toNat,by omega⟩
   rw[Int.toNat_natCast] at hi
   refine⟨IntKind.wrap .i64 (Int.tdiv raw[j] 3)%(c+1),Int.emod_nonneg _ (by omega),.inr (by have:=Int.emod_lt_of_pos (IntKind.wrap .i64 (Int.tdiv raw[j] 3)) (show 0<c+1 by omega);omega),fun K=>?_⟩
   rw[DT];unfold SL
   rw[decide_eq_false k,decide_eq_false C,show(false==false)=true from rfl,ct,show(cond false true false)=false from rfl,cf,Aa hi,ct,D8 hi,i64 (a:=c+1) (by omega),Bhh (by omega) (by omega)]
end
end Gx

namespace Gx
open Go Go.Proofs
section
variable {R:Type}
def Akw (p:PlanD) (c:Int):Bool:=decide ((p.st.l.length:Int)=c)&&(decide ((p.en.l.length:Int)=c)&&decide ((p.re.l.length:Int)=c))
def vT (u:UnitD) (c:Int) (p:PlanD):Int×Int:=cond (De u c) (cond (Akw p c) (A56 u 0 (Cz u) (u.state==2) (u.output:Rat) p.st.l p.en.l p.re.l) (0,4)) (0,1)
theorem gQ (a b:Int):(a != b)=!decide (a=b):=by by_cases h:a=b<;>simp[h]
theorem Akx {u:UnitD}:∀ {ks:List Int} {es rs:List RatD} {h:Int} {s:StD} {was:Bool} {v:Rat},es.length=ks.length→rs.length=ks.length→(A56 u h s was v ks es rs).2=0→(Dz u h s ks).2=true
 | [],_,_,_,_,_,_,_,_,_=>rfl
 | k::ks,e::es,r::rs,h,s,was,v,F,G,C=>by
  rw[A56] at C
  rw[Dz]
  cases D:Wl u h s k with
  | none=>rw[D] at C;simp at C
  | some t =>
   rw[D] at C
   dsimp only at C ⊢
   cases hr:np u (k==2) e.q r.q with
   | false=>rw[hr] at C;simp at C
   | true =>
    cases hq:Akr u was (k==2) v e.q r.q with
    | false=>rw[hr,hq] at C;simp at C
    | true =>
     rw[hr,hq] at C
     exact Akx (by simpa using F) (by simpa using G) C
 | k::ks,[],_,_,_,_,_,F,_,_=>by simp at F
 | k::ks,e::es,[],_,_,_,_,_,G,_=>by simp at G
def A4j (u:UnitD):StD→List StD→Prop
 | _,[]=>True
 | s,t::r=>t ∈ Ii u s∧A4j u t r
theorem Aky {u:UnitD} (hs:Cw u=true):∀ {ks:List Int} {h:Int} {s:StD},Vs u s→A4j u s (Dz u h s ks).1
 | [],_,_,_=>trivial
 | k::ks,h,s,D=>by
  rw[Dz]
  cases C:Wl u h s k with
  | none=>trivial
  | some t =>
   have:=sO hs D C
   exact⟨this.2.2.1,Aky hs this.1⟩
theorem Akz {u:UnitD}:∀ {ks:List Int} {h:Int} {s:StD},(Dz u h s ks).2=true→(Dz u h s ks).1.length=ks.length
 | [],_,_,_=>rfl
 | k::ks,h,s,D=>by
  rw[Dz] at D ⊢
  cases C:Wl u h s k with
  | none=>rw[C] at D;cases D
  | some t =>
   rw[C] at D
   dsimp only at D ⊢
   rw[List.length_cons,Akz D,List.length_cons]
section
variable {N:Nat} {u:UnitD} {p:PlanD} {f e:Bool} {c:Int}
theorem Aob {K:Int→Int→O R} (hN:4000≤N) (L:fit 2000 N) (M:u.away.l.length≤1000) (oe:okR p.en.l) (or:okR p.re.l):RT N u.av f c p.av e K=K (vT u c p).1 (vT u c p).2:=by
 rw[sC];unfold iR vT
 rw[Du,ct,B7,X7 (by omega) (by omega) (by omega)]
 cases S:De u c with
 | false=>rfl
 | true =>
  obtain⟨hs,G,Y⟩:=Yu S
  rw[show(!true)=false from rfl,cf,p0,p1,p2,gQ,gQ,gQ]
  unfold Akw
  by_cases k:(p.st.l.length:Int)=c
  ·by_cases D:(p.en.l.length:Int)=c
   ·by_cases I:(p.re.l.length:Int)=c
    ·simp only[k,D,I,decide_true,Bool.not_true,beq_self_eq_true,Bga,cf,Bool.and_self,cond_true]
     unfold MK WI
     rw[Du,ct,p0,B7]
     have F:=G
     unfold uR at F
     have fin:∀ (j lf:Int),lf=cond (Dz u 0 (Cz u) p.st.l).2 0 16→((Dz u 0 (Cz u) p.st.l).2=false→j=(Dz u 0 (Cz u) p.st.l).1.length)→(An .i64 (List.drop 19 u.av) fun ak=>(An .i64 (List.drop 21 u.av) fun al=>(B6 N al (fun x=>(cond ((Nat.beq 0 0)&&((Nat.beq (List.length x) 3)&&(Nat.beq 3 3))) (Lo N K c j lf f u.av e p.av N (ak==(2:Int)) 0 false x) none)))))=K (A56 u 0 (Cz u) (u.state==2) (u.output:Rat) p.st.l p.en.l p.re.l).1 (A56 u 0 (Cz u) (u.state==2) (u.output:Rat) p.st.l p.en.l p.re.l).2:=by
      intro j lf T U
      rw[A93,Bf1]
      refine Il (by omega) (by omega) fun x V=>?_
      rw[c3,ct]
      have:=An4 (R:=R) (N:=N) (n:=p.st.l.length) (K:=K) (f:=f) (e:=e) (j:=j) (lf:=lf) (by omega) L hs G rfl (by omega) (by omega) (by omega) oe or p.st.l.length 0 N (Cz u) (u.state==2) (u.output:Rat) x false (by omega) (by omega) (EO hs) (V.is (by have:=qi (v:=u.output) (by omega);omega)) (by simpa using T) (by simpa using U)
      rw[k] at this
      exact this
     refine Aki (by omega) hs M (by omega) rfl (fun C=>?_) (fun C=>?_)
     ·exact fin _ _ (by rw[C];rfl) (fun h=>by rw[C] at h;cases h)
     ·exact fin _ _ (by rw[C];rfl) (fun _=>rfl)
    ·simp[k,D,I]
   ·simp[k,D]
  ·simp[k]
end
end
end Gx

namespace Gx
open Go Go.Proofs
set_option maxRecDepth 100000
section
variable {R:Type}
def Bfn (u:UnitD) (e r:Rat):Rat:=(u.noLoad:Rat)+Wa (e - (u.min:Rat)) u.segs.l+(u.reservePrice:Rat)*r
def Ua (u:UnitD):StD→List StD→List Int→List RatD→List RatD→Rat
 | s,t::ts,k::ks,e::es,r::rs=>((Vu u s t:Int):Rat)+cond (k==2) (Bfn u e.q r.q) 0+Ua u t ts ks es rs
 | _,_,_,_,_=>0
theorem A57 {u:UnitD} (C:uR u) (s t:StD):0≤Vu u s t∧Vu u s t≤1048576:=by
 unfold uR at C;unfold Vu
 cases (s.k==0&&!(t.k==0))<;>cases decide (s.h≤u.hotHours)<;>simp<;>omega
theorem A58 {u:UnitD} {c:Int} {e:Rat} (k:De u c=true) (D:qm e≤5):qm (Wa (e - (u.min:Rat)) u.segs.l)≤600:=by
 have F:=iO k
 have C:=Xg k
 have hq:qm (e - (u.min:Rat))≤8:=by have:=VT e (u.min:Rat);have:=qi (v:=u.min) (by omega);omega
 have:=Ai7 (A:=8) u.segs.l _ (QL k) (by omega) hq
 have G:u.segs.l.length*(8+3*u.segs.l.length+31)≤8*(8+24+31):=Nat.mul_le_mul C.1 (by omega)
 omega
theorem Bfo (s:StD):((Nat.beq (List.length s.av) 2)&&(true&&(!false)))=true:=rfl
section
variable {N n:Nat} {u:UnitD} {p:PlanD} {f e:Bool} {c:Int}
theorem Avx {X:O R} {K:LA→Int→O R} {ts:List StD} (hN:4000≤N) (G:fit 1000000 N) (M:De u c=true) (hc:c=n) (hk:p.st.l.length=n) (he:p.en.l.length=n) (hr:p.re.l.length=n) (ht:ts.length=n) (oe:okR p.en.l) (or:okR p.re.l):∀ (m h fuel:Nat) (s:StD) (x:RatD) (q:Rat),h+m=n→m<fuel→Vs u s→A4j u s (ts.drop h)→x.can q→qm q≤2+h*700 →
  (∀ d:RatD,d.can (q+Ua u s (ts.drop h) (p.st.l.drop h) (p.en.l.drop h) (p.re.l.drop h))→K d.av 0=X) →
  Th N K n c f u.av e p.av (ts.flatMap StD.av) fuel (h:Int) x.av s.av=X:=by
 obtain⟨hs,hu,hc24⟩:=Yu M
 intro m
 induction m with
 | zero =>
  intro h fuel s x q hh U _ _ V _ hX
  obtain⟨fuel,rfl⟩:∃ k,fuel=k+1:=⟨fuel - 1,by omega⟩
  rw[Th];unfold MM
  rw[show decide ((h:Int)<c)=false by simp;omega,cf]
  refine hX x ?_
  rw[Es (l:=ts) (by omega),Ua,Rat.add_zero]
  ·exact V
  ·intro t ts k ks e es r rs I;cases I
 | succ m ih =>
  intro h fuel s x q hh U L C V hq hX
  obtain⟨fuel,rfl⟩:∃ k,fuel=k+1:=⟨fuel - 1,by omega⟩
  rw[Th];unfold MM
  have I:h<p.st.l.length:=by omega
  have S:h<p.en.l.length:=by omega
  have T:h<p.re.l.length:=by omega
  have h4:h<ts.length:=by omega
  have e1:=oe.at S
  have r1:=or.at T
  have hsr:=A57 hu s ts[h]
  have Y:=hu
  unfold uR at Y
  rw[Ci h4] at C hX
  rw[Ci I,Ci S,Ci T,Ua] at hX
  have F:Vs u ts[h]:=sL hs L _ C.1
  have hhn:h*700≤24*700:=Nat.mul_le_mul_right _ (by omega)
  rw[show decide ((h:Int)<c)=true by simp;omega,ct,b3,ct,Du,ct,oX,ct,Aa (show h<n by omega),ct,vL h4,WO,ct,B7,Awf,WP,Akq (by omega) hs L C.1]
  refine Il (by omega) (by omega) fun a ha=>?_
  rw[lN]
  refine Ai4 V ha (G.le (by have:=qi (v:=Vu u s ts[h]) (by omega);omega)) fun y hy=>?_
  have hqy:qm (q+((Vu u s ts[h]:Int):Rat))≤2+h*700+3:=by have:=Ma q ((Vu u s ts[h]:Int):Rat);have:=qi (v:=Vu u s ts[h]) (by omega);omega
  simp only[Bcy,b3,lN,ct,Ai3,A51,Bfo]
  rw[p0,Aa I,ct,D8 I,wS (by omega)]
  by_cases D:p.st.l[h]=2
  ·rw[show(p.st.l[h] != 2)=false by simp[D],cf,u5]
   rw[show(p.st.l[h]==2)=true by simpa using D] at hX
   refine Il (by omega) (by omega) fun b hb=>?_
   refine Ai4 hy hb (G.le (by have:=qi (v:=u.noLoad) (by omega);omega)) fun y2 hy2=>?_
   have hq2:qm (q+((Vu u s ts[h]:Int):Rat)+(u.noLoad:Rat))≤2+h*700+6:=by have:=Ma (q+((Vu u s ts[h]:Int):Rat)) (u.noLoad:Rat);have:=qi (v:=u.noLoad) (by omega);omega
   simp only[Bcy,b3,lN,ct,Ai3]
   rw[p1,Aa S,ct,HX S,Arg,ct,vO]
   refine Ai6 e1 (QL M) (Xg M).1 (by omega) (G.le (by omega)) fun sc hsc=>?_
   have hqs:=A58 (e:=p.en.l[h].q) M (by have:=e1.qm;omega)
   refine Ai4 hy2 hsc (G.le (by omega)) fun y3 hy3=>?_
   have hq3:=Ma (q+((Vu u s ts[h]:Int):Rat)+(u.noLoad:Rat)) (Wa (p.en.l[h].q - (u.min:Rat)) u.segs.l)
   simp only[Bcy,b3,lN,ct,Ai3]
   rw[Bhg,p2,Aa T,ct,HX T,Arg,ct,vO]
   rw[UZ];unfold iJ
   refine Il (by omega) (by omega) fun rp hrp=>?_
   rw[b3,ct,lN]
   refine Avq (hrp.is (qi (by omega))) r1 (G.le (by omega)) fun mu hmu=>?_
   have hqm:=n8 ((u.reservePrice:Int):Rat) p.re.l[h].q
   have hqr:=r1.qm
   have hqp:=qi (v:=u.reservePrice) (by omega)
   simp only[c3,b3,lN,ct]
   refine Ai4 hy3 hmu (G.le (by omega)) fun y4 hy4=>?_
   have hq4:=Ma (q+((Vu u s ts[h]:Int):Rat)+(u.noLoad:Rat)+Wa (p.en.l[h].q - (u.min:Rat)) u.segs.l) ((u.reservePrice:Rat)*p.re.l[h].q)
   simp only[Bcy,ct,Ai3]
   refine ih (h+1) fuel ts[h] y4 _ (by omega) (by omega) F C.2 hy4 (by rw[Nat.add_mul];omega) fun d hd=>hX d ?_
   have:q+(((Vu u s ts[h]:Int):Rat)+cond true (Bfn u p.en.l[h].q p.re.l[h].q) 0+Ua u ts[h] (ts.drop (h+1)) (p.st.l.drop (h+1)) (p.en.l.drop (h+1)) (p.re.l.drop (h+1)))=q+((Vu u s ts[h]:Int):Rat)+(u.noLoad:Rat)+Wa (p.en.l[h].q - (u.min:Rat)) u.segs.l+(u.reservePrice:Rat)*p.re.l[h].q+Ua u ts[h] (ts.drop (h+1)) (p.st.l.drop (h+1)) (p.en.l.drop (h+1)) (p.re.l.drop (h+1)):=by
    rw[cond_true,Bfn];grind
   rw[this];exact hd
  ·rw[show(p.st.l[h] != 2)=true by simp[D],ct]
   rw[show(p.st.l[h]==2)=false by simpa using D] at hX
   refine ih (h+1) fuel ts[h] y _ (by omega) (by omega) F C.2 hy (by rw[Nat.add_mul];omega) fun d hd=>hX d ?_
   rw[cond_false,Rat.add_zero,←Rat.add_assoc];exact hd
theorem Bby (h:(vT u c p).2=0):De u c=true∧Akw p c=true∧(A56 u 0 (Cz u) (u.state==2) (u.output:Rat) p.st.l p.en.l p.re.l).2=0:=by
 unfold vT at h
 cases k:De u c with
 | false=>rw[k] at h;simp at h
 | true =>
  cases C:Akw p c with
  | false=>rw[k,C] at h;simp at h
  | true=>rw[k,C] at h;exact⟨rfl,rfl,h⟩
theorem A4k (h:Akw p c=true):(p.st.l.length:Int)=c∧(p.en.l.length:Int)=c∧(p.re.l.length:Int)=c:=by
 simpa[Akw] using h
def A06 (u:UnitD) (c:Int) (p:PlanD):Rat:=cond ((vT u c p).2==0) (Ua u (Cz u) (Dz u 0 (Cz u) p.st.l).1 p.st.l p.en.l p.re.l) 0
theorem Ak0 {X:O R} {K:LA→Int→O R} (hN:4000≤N) (G:fit 1000000 N) (I:u.away.l.length≤1000) (oe:okR p.en.l) (or:okR p.re.l) (h:∀ d:RatD,d.is (A06 u c p) (qm (A06 u c p))→K d.av (vT u c p).2=X):WQ N u.av f c p.av e K=X:=by
 rw[zJ];unfold sP
 rw[Du,ct,Bgq,ct,B7,Bgr,Aob hN (G.le (by omega)) I oe or]
 by_cases k:(vT u c p).2=0
 ·obtain⟨L,S,C⟩:=Bby k
  obtain⟨hs,U,V⟩:=Yu L
  obtain⟨l1,l2,l3⟩:=A4k S
  have M:=Akx (by omega) (by omega) C
  have D:=Akz M
  rw[show((vT u c p).2 != 0)=false by simp[k],cf,ct,p0]
  refine Aki (by omega) hs I (by omega) rfl (fun _=>?_) (fun h=>by rw[M] at h;cases h)
  rw[show((0:Int) != 0)=false from rfl,cf]
  refine Il (by omega) (by omega) fun x T=>?_
  rw[c3,ct,ct,aZ (by omega) hs,Azw,ct,Bda]
  refine Avx (n:=p.st.l.length) hN G L (by omega) rfl (by omega) (by omega) D oe or p.st.l.length 0 N (Cz u) x ((0:Int):Rat) (by omega) (by omega) (EO hs) (by rw[List.drop_zero];exact Aky hs (EO hs)) T (by have:=qi (v:=0) (by omega);omega) fun d F=>?_
  simp only[List.drop_zero] at F
  rw[show(((0:Int):Rat))=0 from rfl,Rat.zero_add] at F
  have e:A06 u c p=Ua u (Cz u) (Dz u 0 (Cz u) p.st.l).1 p.st.l p.en.l p.re.l:=by unfold A06;rw[k];rfl
  have:=h d (by rw[e];exact F.is (Nat.le_refl _))
  rw[k] at this;exact this
 ·rw[show((vT u c p).2 != 0)=true by simp[k],ct]
  have e:A06 u c p=0:=by unfold A06;rw[show((vT u c p).2==0)=false by simpa using k];rfl
  exact h i_ (by rw[e];exact Sf)
end
end
end Gx

namespace Gx
open Go Go.Proofs
set_option maxRecDepth 100000
section
variable {R:Type}
def Kc:List RatD→List RatD→Rat
 | a::az9',b::bs=>a.q*b.q+Kc az9' bs
 | _,_=>0
def Ak1:List RatD→List RatD→List RatD→List RatD→Rat
 | a::az9',e::es,b::bs,r::rs=>a.q*e.q+b.q*r.q+Ak1 az9' es bs rs
 | _,_,_,_=>0
theorem A59:∀ {a e b r:List RatD},e.length=a.length→b.length=a.length→r.length=a.length→Ak1 a e b r=Kc a e+Kc b r
 | [],[],[],[],_,_,_=>by
  have k:Ak1 [] [] [] []=0:=by rw[Ak1];intros;simp_all
  have C:Kc [] []=0:=by rw[Kc];intros;simp_all
  rw[k,C,Rat.add_zero]
 | a::az9',e::es,b::bs,r::rs,k,C,D=>by
  rw[Ak1,Kc,Kc,A59 (by simpa using k) (by simpa using C) (by simpa using D)]
  grind
theorem Vy:qm (0:Rat)≤2:=qi (v:=0) (by omega)
def okP (l:List RatD):Prop:=∀ x ∈ l,x.is x.q 12
theorem okR.okP {l:List RatD} (h:okR l):okP l:=fun x k=>⟨(h x k).1,rfl,Nat.le_trans (h x k).2.2 (by omega)⟩
theorem okP.at {l:List RatD} (h:okP l) {i:Nat} (hi:i<l.length):(l[i]).is (l[i]).q 12:=h _ (List.getElem_mem hi)
theorem Avy:∀ {a b:List RatD},okP a→okR b→qm (Kc a b)≤2+a.length*20
 | [],b,_,_=>by rw[show Kc [] b=0 by rw[Kc];intros;simp_all];have:=Vy;omega
 | a::az9',[],_,_=>by rw[show Kc (a::az9') []=0 by rw[Kc];intros;simp_all];have:=Vy;omega
 | a::az9',b::bs,C,D=>by
  have F:=Avy (a:=az9') (b:=bs) (fun x k=>C x (by simp[k])) (fun x k=>D x (by simp[k]))
  have G:=(C a (by simp)).qm
  have I:=(D b (by simp)).qm
  have L:=n8 a.q b.q
  have M:=Ma (a.q*b.q) (Kc az9' bs)
  rw[Kc,List.length_cons,Nat.add_mul];omega
theorem A0n {u:UnitD} {c:Int} (C:De u c=true):∀ {ts:List StD} {s:StD} {ks:List Int} {es rs:List RatD},okR es→okR rs→qm (Ua u s ts ks es rs)≤2+ts.length*620
 | [],s,ks,es,rs,_,_=>by rw[show Ua u s [] ks es rs=0 by rw[Ua];intros;simp_all];have:=Vy;omega
 | t::ts,s,[],es,rs,_,_=>by rw[show Ua u s (t::ts) [] es rs=0 by rw[Ua];intros;simp_all];have:=Vy;omega
 | t::ts,s,k::ks,[],rs,_,_=>by rw[show Ua u s (t::ts) (k::ks) [] rs=0 by rw[Ua];intros;simp_all];have:=Vy;omega
 | t::ts,s,k::ks,e::es,[],_,_=>by rw[show Ua u s (t::ts) (k::ks) (e::es) []=0 by rw[Ua];intros;simp_all];have:=Vy;omega
 | t::ts,s,k::ks,e::es,r::rs,G,I=>by
  obtain⟨hs,L,M⟩:=Yu C
  have T:=A57 L s t
  have D:=L
  unfold uR at D
  have h3:=A0n C (ts:=ts) (s:=t) (ks:=ks) (es:=es) (rs:=rs) (fun x F=>G x (by simp[F])) (fun x F=>I x (by simp[F]))
  have h4:=(G e (by simp)).qm
  have h5:=(I r (by simp)).qm
  have U:=qi (v:=Vu u s t) (by omega)
  have V:=qi (v:=u.noLoad) (by omega)
  have Y:=qi (v:=u.reservePrice) (by omega)
  have hq4:=A58 (e:=e.q) C (by omega)
  have hq5:=n8 ((u.reservePrice:Int):Rat) r.q
  have hq6:=Ma (u.noLoad:Rat) (Wa (e.q - (u.min:Rat)) u.segs.l)
  have hq7:=Ma ((u.noLoad:Rat)+Wa (e.q - (u.min:Rat)) u.segs.l) ((u.reservePrice:Rat)*r.q)
  have hq8:qm (cond (k==2) (Bfn u e.q r.q) 0)≤612:=by
   cases (k==2) with
   | true=>rw[cond_true,Bfn];omega
   | false=>rw[cond_false];have:=Vy;omega
  have hq9:=Ma ((Vu u s t:Int):Rat) (cond (k==2) (Bfn u e.q r.q) 0)
  have S:=Ma (((Vu u s t:Int):Rat)+cond (k==2) (Bfn u e.q r.q) 0) (Ua u t ts ks es rs)
  rw[Ua,List.length_cons,Nat.add_mul];omega
section
variable {N n:Nat} {u:UnitD} {p:PlanD} {f e:Bool} {c:Int}
theorem A4l (oe:okR p.en.l) (or:okR p.re.l):qm (A06 u c p)≤15000:=by
 by_cases k:(vT u c p).2=0
 ·obtain⟨D,F,C⟩:=Bby k
  obtain⟨hs,I,L⟩:=Yu D
  obtain⟨l1,l2,l3⟩:=A4k F
  have G:=Akz (Akx (by omega) (by omega) C)
  have e:A06 u c p=Ua u (Cz u) (Dz u 0 (Cz u) p.st.l).1 p.st.l p.en.l p.re.l:=by unfold A06;rw[k];rfl
  have:=A0n D (ts:=(Dz u 0 (Cz u) p.st.l).1) (s:=Cz u) (ks:=p.st.l) oe or
  rw[e];omega
 ·have e:A06 u c p=0:=by unfold A06;rw[show((vT u c p).2==0)=false by simpa using k];rfl
  rw[e];have:=Vy;omega
theorem Ak2 {X:O R} {K:LA→Int→O R} {A B:List RatD} {f1 f2 f3 f4:Bool} {z:RatD} {w:Rat} (hN:4000≤N) (C:fit 1000000 N) (hc:c=n) (hn:n≤24) (hA:A.length=n) (hB:B.length=n) (he:p.en.l.length=n) (hr:p.re.l.length=n) (oA:okP A) (oB:okP B) (oe:okR p.en.l) (or:okR p.re.l) (hz:z.is w 15000):∀ (m h fuel:Nat) (x:RatD) (q:Rat),h+m=n→m<fuel→x.can q→qm q≤2+h*60 →
  (∀ d:RatD,d.can (q+Ak1 (A.drop h) (p.en.l.drop h) (B.drop h) (p.re.l.drop h) - w)→K d.av 0=X) →
  Qr N K (A.flatMap RatD.av) n f1 f2 (B.flatMap RatD.av) n f3 f4 c e p.av z.av fuel (h:Int) x.av=X:=by
 intro m
 induction m with
 | zero =>
  intro h fuel x q hh G I hq hX
  obtain⟨fuel,rfl⟩:∃ k,fuel=k+1:=⟨fuel - 1,by omega⟩
  have L:h*60≤24*60:=Nat.mul_le_mul_right _ (by omega)
  rw[Qr];unfold Yv
  rw[show decide ((h:Int)<c)=false by simp;omega,cf,b3,ct,b3,ct,lN,lN]
  refine Aca (I.is hq) hz (C.le (by omega)) fun d M=>?_
  rw[c3,ct,b3,ct,lN]
  refine hX d ?_
  rw[Es (l:=A) (by omega),show Ak1 [] (p.en.l.drop h) (B.drop h) (p.re.l.drop h)=0 by rw[Ak1];intros;simp_all,Rat.add_zero]
  exact M
 | succ m ih =>
  intro h fuel x q hh G I hq hX
  obtain⟨fuel,rfl⟩:∃ k,fuel=k+1:=⟨fuel - 1,by omega⟩
  have L:h*60≤24*60:=Nat.mul_le_mul_right _ (by omega)
  rw[Qr];unfold Yv
  have S:h<A.length:=by omega
  have D:h<p.en.l.length:=by omega
  have F:h<p.re.l.length:=by omega
  have T:h<B.length:=by omega
  have a1:=oA.at S
  have b1:=oB.at T
  have e1:=oe.at D
  have r1:=or.at F
  have q1:=a1.qm;have q2:=b1.qm;have q3:=e1.qm;have q4:=r1.qm
  have q5:=n8 A[h].q p.en.l[h].q
  have q6:=n8 B[h].q p.re.l[h].q
  rw[Ci S,Ci D,Ci F,Ci T,Ak1] at hX
  rw[show decide ((h:Int)<c)=true by simp;omega,ct]
  simp only[b3,lN,ct,Aa (show h<n by omega),HX S,HX D,HX F,HX T,Arg,vO,p1,p2,Aa D,Aa F]
  refine Avq a1 e1 (C.le (by omega)) fun m1 U=>?_
  refine Acc (I.is hq) (U.is (m:=20) (by omega)) (C.le (by omega)) fun s1 V=>?_
  have q7:=Ma q (A[h].q*p.en.l[h].q)
  simp only[Bcy,b3,lN,ct,Ai3]
  refine Avq b1 r1 (C.le (by omega)) fun m2 Y=>?_
  refine Acc (V.is (m:=2+h*60+25) (by omega)) (Y.is (m:=20) (by omega)) (C.le (by omega)) fun s2 hs2=>?_
  have q8:=Ma (q+A[h].q*p.en.l[h].q) (B[h].q*p.re.l[h].q)
  simp only[Bcy,ct,Ai3]
  rw[wS (by omega)]
  refine ih (h+1) fuel s2 _ (by omega) (by omega) hs2 (by rw[Nat.add_mul];omega) fun d M=>hX d ?_
  have:q+(A[h].q*p.en.l[h].q+B[h].q*p.re.l[h].q+Ak1 (A.drop (h+1)) (p.en.l.drop (h+1)) (B.drop (h+1)) (p.re.l.drop (h+1))) - w=q+A[h].q*p.en.l[h].q+B[h].q*p.re.l[h].q+Ak1 (A.drop (h+1)) (p.en.l.drop (h+1)) (B.drop (h+1)) (p.re.l.drop (h+1)) - w:=by grind
  rw[this];exact M
def Bf4 (A B:List RatD) (c:Int):Bool:=decide ((A.length:Int)=c)&&decide ((B.length:Int)=c)
def Bf5 (u:UnitD) (c:Int) (p:PlanD) (A B:List RatD):Int:=cond ((vT u c p).2==0) (cond (Bf4 A B c) 0 4) (vT u c p).2
def A0o (u:UnitD) (c:Int) (p:PlanD) (A B:List RatD):Rat:=cond ((vT u c p).2==0&&Bf4 A B c) (Kc A p.en.l+Kc B p.re.l - A06 u c p) 0
theorem A4m {A B:List RatD} (oA:okP A) (oB:okP B) (oe:okR p.en.l) (or:okR p.re.l) (hA:A.length≤30) (hB:B.length≤30):qm (A0o u c p A B)≤20000:=by
 have k:=Avy oA oe
 have C:=Avy oB or
 have D:=A4l (u:=u) (c:=c) oe or
 have F:=Ma (Kc A p.en.l) (Kc B p.re.l)
 have G:=VT (Kc A p.en.l+Kc B p.re.l) (A06 u c p)
 have I:=Vy
 unfold A0o
 cases ((vT u c p).2==0&&Bf4 A B c) with
 | true=>rw[cond_true];omega
 | false=>rw[cond_false];omega
theorem WU {X:O R} {K:LA→Int→O R} {A B:List RatD} {M S T U:Bool} (hN:4000≤N) (L:fit 1000000 N) (V:u.away.l.length≤1000) (hA:A.length≤30) (hB:B.length≤30) (oA:okP A) (oB:okP B) (oe:okR p.en.l) (or:okR p.re.l)
  (h:∀ d:RatD,d.is (A0o u c p A B) 20000→K d.av (Bf5 u c p A B)=X):Ny N u.av f c p.av e (A.flatMap RatD.av) A.length M S (B.flatMap RatD.av) B.length T U K=X:=by
 have C:=A4m (u:=u) (c:=c) (p:=p) oA oB oe or hA hB
 rw[mC];unfold WR
 rw[Du,ct,Bgq,ct,B7,Bgr]
 refine Ak0 hN L V oe or fun z F=>?_
 rw[c3,ct,gQ,gQ,gQ]
 by_cases k:(vT u c p).2=0
 ·obtain⟨Y,hl,hck⟩:=Bby k
  obtain⟨hs,hu,hc⟩:=Yu Y
  obtain⟨l1,l2,l3⟩:=A4k hl
  rw[decide_eq_true k,show(!true)=false from rfl,cf]
  unfold Bf5 A0o Bf4 at h
  rw[show((vT u c p).2==0)=true by simpa using k] at h
  by_cases D:(A.length:Int)=c
  ·by_cases G:(B.length:Int)=c
   ·rw[decide_eq_true D,decide_eq_true G] at h ⊢
    rw[show((!true)==false)=true from rfl,ct,show(cond false true (!true))=false from rfl,cf]
    unfold DS NV
    refine Il (by omega) (by omega) fun x hx=>?_
    rw[c3,ct]
    have hlB:B.length=A.length:=by omega
    rw[hlB]
    refine Ak2 (n:=A.length) hN L (by omega) (by omega) rfl (by omega) (by omega) (by omega) oA oB oe or (⟨F.1,F.2.1,Nat.le_trans F.2.2 (A4l oe or)⟩) A.length 0 N x ((0:Int):Rat) (by omega) (by omega) hx (by have:=qi (v:=0) (by omega);omega) fun d I=>?_
    simp only[List.drop_zero] at I
    rw[show(((0:Int):Rat))=0 from rfl,Rat.zero_add,A59 (by omega) (by omega) (by omega)] at I
    refine h d ?_
    have e:A0o u c p A B=Kc A p.en.l+Kc B p.re.l - A06 u c p:=by unfold A0o Bf4;rw[show((vT u c p).2==0)=true by simpa using k,decide_eq_true D,decide_eq_true G];rfl
    rw[e] at C
    exact I.is C
   ·rw[decide_eq_true D,decide_eq_false G] at h ⊢
    exact h i_ Sf
  ·rw[decide_eq_false D] at h ⊢
   exact h i_ Sf
 ·rw[decide_eq_false k,show(!false)=true from rfl,ct]
  unfold Bf5 A0o at h
  rw[show((vT u c p).2==0)=false by simpa using k] at h
  exact h i_ Sf
end
end
end Gx

namespace Gx
open Go Go.Proofs
section
variable {R:Type}
def rq (v:Int):RatD:=lM (v:Rat)
theorem Bgw {v:Int} (h:-9223372036854775808≤v∧v≤9223372036854775807):(rq v).is (v:Rat) 4:=(rF _).is (by have:=qi h;omega)
def vU (l:List Int):LA:=(l.map rq).flatMap RatD.av
theorem Bdk (l:List Int):(vU l).length=l.length*3:=by
 induction l with
 | nil=>rfl
 | cons a r k=>unfold vU at k ⊢;rw[List.map_cons,List.flatMap_cons,List.length_append,k];simp[RatD.av];omega
theorem Avz (l:List Int):List.take (l.length*3) (vU l)=vU l:=by rw[←Bdk,List.take_length]
theorem A0p (l:List Int) (v:Int):List.take (l.length*3) (vU l)++List.take 3 (setCells [(.bool false),.nsl,.nsl] 0 (rq v).av)=vU (l++[v]):=by
 rw[Avz];unfold vU;rw[List.map_append,List.flatMap_append];rfl
theorem Bgx {j:Nat} (h:j≤1000000000000):((Nat.ble (j+1) 140737488355328)&&(Nat.ble ((j+1)*56) 140737488355328))=true:=by
 rw[Bool.and_eq_true,Nat.ble_eq,Nat.ble_eq];omega
def A0q (u:UnitD) (A:List Int):Nat→Int
 | 0=>u.output
 | i+1=>A.getD i 0
structure Gd (u:UnitD) (ks:List Int) (n h:Nat) (v p r:Int):Prop where
 on:Ed ks h=true→((NZ u ks n h).lo≤p∧p≤(NZ u ks n h).hi)∧(0≤r∧r≤u.reserve∧p+r≤u.max)
 was:Ed ks h=true→Rz u ks h=true→p+r - v≤u.rampUp∧v - p≤u.rampDown
 st:Ed ks h=true→Rz u ks h=false→p+r≤u.startRamp
 off:Ed ks h=false→p=0∧r=0
theorem Gd.rng {u:UnitD} {ks:List Int} {n h:Nat} {v p r:Int} (ok:UOk u) (C:uR u) (D:h<n) (g:Gd u ks n h v p r):(0≤p∧p≤1048576)∧(0≤r∧r≤1048576):=by
 unfold uR at C
 cases k:Ed ks h with
 | true =>
  have:=g.on k
  have:=Avp (ks:=ks) (n:=n) ok (n - 1 - h) h (by omega)
  have:=Az6 (ks:=ks) (n:=n) ok h
  have:=Avo (ks:=ks) ok h
  omega
 | false=>have:=g.off k;omega
def GdA (u:UnitD) (ks:List Int) (n m:Nat) (A B:List Int):Prop:=A.length=m∧B.length=m∧∀ i,i<m→Gd u ks n i (A0q u A i) (A.getD i 0) (B.getD i 0)
theorem GdA.snoc {u:UnitD} {ks:List Int} {n m:Nat} {A B:List Int} (g:GdA u ks n m A B) {p r:Int} (h:Gd u ks n m (A0q u A m) p r):GdA u ks n (m+1) (A++[p]) (B++[r]):=by
 obtain⟨k,C,D⟩:=g
 have gl:∀ {L:List Int} {x:Int} {i:Nat},i<L.length→(L++[x]).getD i 0=L.getD i 0:=fun {L x i} hi=>by
  rw[List.getD_eq_getElem?_getD,List.getD_eq_getElem?_getD,List.getElem?_append_left hi]
 have gs:∀ {L:List Int} {x:Int},(L++[x]).getD L.length 0=x:=fun {L x}=>by
  rw[List.getD_eq_getElem?_getD,List.getElem?_append_right (Nat.le_refl _)];simp
 have pv:∀ i,i≤m→A0q u (A++[p]) i=A0q u A i:=fun i hi=>by
  cases i with
  | zero=>rfl
  | succ i=>exact gl (by omega)
 refine⟨by simp[k],by simp[C],fun i hi=>?_⟩
 rw[pv i (by omega)]
 by_cases e:i=m
 ·subst e
  have e1:(A++[p]).getD i 0=p:=by rw[←k];exact gs
  have F:(B++[r]).getD i 0=r:=by rw[←C];exact gs
  rw[e1,F];exact h
 ·rw[gl (by omega),gl (by omega)];exact D i (by omega)
theorem Bfp {u:UnitD} {ks:List Int} {n h:Nat} {A B:List Int} (ok:UOk u) (G:N4 u ks n=false) (I:h<n) (C:Ed ks h=true) (g:GdA u ks n h A B):(NZ u ks n h).lo≤(NZ u ks n h).hi∧(Rz u ks h=true→(NZ u ks n h).lo≤A0q u A h+u.rampUp∧A0q u A h - u.rampDown≤(NZ u ks n h).hi)∧(Rz u ks h=false→(NZ u ks n h).hi≤u.startRamp)∧u.min≤(NZ u ks n h).lo∧(NZ u ks n h).hi≤u.max:=by
 have e:(NZ u ks n h).lo≤(NZ u ks n h).hi:=by
  rw[Bbw ok,List.any_eq_false] at G
  have:=G h (by simpa using I)
  simp at this;omega
 have r1:=Avp (ks:=ks) (n:=n) ok (n - 1 - h) h (by omega)
 have D:=Az6 (ks:=ks) (n:=n) ok h
 have L:=Avo (ks:=ks) ok h
 have M:=L.2.2.2.2 C
 refine⟨e,fun F=>?_,fun F=>?_,by omega,by omega⟩
 ·cases h with
  | zero =>
   have f:gF u ks 0=⟨Iq u.min (u.output - u.rampDown),Bv u.max (u.output+u.rampUp)⟩:=by
    rw[gF,C,show(u.state==2)=true from F];rfl
   rw[f] at D
   simp only[Jq,Sn] at D
   have S:=ok.b
   show _≤u.output+_∧u.output - _≤_
   omega
  | succ h =>
   have k:Ed ks h=true:=F
   have gd:=(g.2.2 h (by omega)).on k
   have st:=gG u ks (n:=n) (h:=h) I
   rw[k,C] at st
   simp only[Bool.and_true,cond_true] at st
   rw[st] at gd
   simp only[Jq,Sn] at gd
   show _≤A.getD h 0+_∧A.getD h 0 - _≤_
   omega
 ·have f:gF u ks h=⟨u.min,u.startRamp⟩:=by rw[Bgt C,F];rfl
  rw[f] at D
  simp only at D
  omega
section
variable {N n:Nat} {X:O R} {u:UnitD} {ks raw:List Int} {K0 K1:LA→O R} {l g i:Bool}
theorem A6a {k0:Int→Int→Nat→Nat→LA→LA→O R} {A B:List Int} {p:Nat} {a b:Int} {o:LA} (hN:4000≤N) (F:p≤1000) (C:A.length=p) (D:B.length=p) (G:0≤a∧a≤1048576) (I:0≤b∧b≤1048576) :
  Gs N k0 K0 K1 (n:Int) n (Av raw) raw.length l g n (Av ks) i u.av o (p:Int) a b p p (vU A) (vU B)=k0 a ((p+1:Nat):Int) (p+1) (p+1) (vU (A++[a])) (vU (B++[b])):=by
 unfold Gs
 rw[Ai5 (by omega) hN,show((Nat.beq (List.length (lM (a:Rat)).av) 3)&&(Nat.ble 3 3))=true from rfl,ct,Bgx (by omega),ct,Ai5 (by omega) hN,show((Nat.beq (List.length (lM (b:Rat)).av) 3)&&(Nat.ble 3 3))=true from rfl,ct,ct,wS (by omega)]
 have e1:=A0p A a
 have k:=A0p B b
 rw[C] at e1;rw[D] at k
 unfold rq at e1 k
 rw[e1,k]
theorem Bdl {k0:Int→Int→Nat→Nat→LA→LA→O R} {A B:List Int} {p:Nat} (hN:4000≤N) (G:p<n) (hn:n≤1000) (ok:UOk u) (C:uR u) (U:N4 u ks n=false) (D:Ed ks p=true) (gg:GdA u ks n p A B)
  (H:∀ a b,Gd u ks n p (A0q u A p) a b→k0 a ((p+1:Nat):Int) (p+1) (p+1) (vU (A++[a])) (vU (B++[b]))=X) :
  Jr N k0 K0 K1 (n:Int) n (Av raw) raw.length l g n (NZ u ks n p).lo (NZ u ks n p).hi u.max (Av ks) i u.av (tb n (NZ u ks n)) (A0q u A p) (p:Int) (Rz u ks p) p p (vU A) (vU B)=X:=by
 have F:=C
 unfold uR at F
 obtain⟨w1,V,w3,w4,w5⟩:=Bfp ok U G D gg
 have r1:=Avp (ks:=ks) (n:=n) ok (n - 1 - p) p (by omega)
 have Y:0≤A0q u A p∧A0q u A p≤1048576:=by
  cases p with
  | zero=>show 0≤u.output∧u.output≤_;omega
  | succ q=>exact((gg.2.2 q (by omega)).rng ok C (by omega)).1
 unfold Jr Tj
 have I:∀ lo hi top:Int,0≤lo→lo≤hi→hi≤1048576→hi≤top→top≤2097152→(∀ a b,lo≤a→a≤hi→0≤b→b≤u.reserve→a+b≤top→Gd u ks n p (A0q u A p) a b) →
   Om N k0 K0 K1 (n:Int) n (Av raw) raw.length l g n (Av ks) i u.av (tb n (NZ u ks n)) (p:Int) lo hi top p p (vU A) (vU B)=X:=by
  intro lo hi top h0 L M S T hg
  unfold Om Ti
  rw[i64 (a:=2*(p:Int)) (by omega),i64 (a:=hi - lo) (by omega),i64 (a:=2*(p:Int)+1) (by omega)]
  obtain⟨v,v1,v2,ev⟩:=Ari (R:=R) (N:=N) (raw:=raw) (g:=false) (i:=g) (n:=raw.length) (a:=2*(p:Int)) (c:=hi - lo) rfl (by omega) (by omega) (K:=fun _=>none)
  rw[ev]
  rw[Bg2,i64 (a:=lo+v) (by omega),i64 (a:=top - (lo+v)) (by omega)]
  obtain⟨w,x1,x2,ew⟩:=Ari (R:=R) (N:=N) (raw:=raw) (g:=false) (i:=g) (n:=raw.length) (a:=2*(p:Int)+1) (c:=Bv u.reserve (top - (lo+v))) rfl (by omega) (by rw[Jq];omega) (K:=fun _=>none)
  rw[ew]
  rw[Jq] at x2
  have gd:=hg (lo+v) w (by omega) (by omega) x1 (by omega) (by omega)
  have gr:=gd.rng ok C G
  dsimp only
  rw[A6a hN (by omega) gg.1 gg.2.1 gr.1 gr.2]
  exact H _ _ gd
 cases k:Rz u ks p with
 | true =>
  obtain⟨y1,y2⟩:=V k
  rw[ct,u7,u6,u6,i64 (a:=A0q u A p - u.rampDown) (by omega),i64 (a:=A0q u A p+u.rampUp) (by omega)]
  simp only[Jq,Sn]
  refine I _ _ _ (by omega) (by omega) (by omega) (by omega) (by omega) fun a b L M S T h5=>⟨fun _=>by omega,fun _ _=>by omega,fun _ hq=>?_,fun hq=>?_⟩
  ·rw[k] at hq;cases hq
  ·rw[D] at hq;cases hq
 | false =>
  have y:=w3 k
  have oc:=ok.c
  rw[cf,u8]
  simp only[Jq]
  refine I _ _ _ (by omega) (by omega) (by omega) (by omega) (by omega) fun a b L M S T h5=>⟨fun _=>by omega,fun _ hq=>?_,fun _ _=>by omega,fun hq=>?_⟩
  ·rw[k] at hq;cases hq
  ·rw[D] at hq;cases hq
theorem Arj (hN:4000≤N) (hn:n≤1000) (F:ks.length=n) (ok:UOk u) (G:uR u) (I:N4 u ks n=false) (H:∀ A B,GdA u ks n n A B→K1 [(.imm (Av ks) n 1 false false),(.imm (vU A) n 3 false false),(.imm (vU B) n 3 false false)]=X) :
  ∀ (m p fuel:Nat) (A B:List Int),p+m=n→m<fuel→GdA u ks n p A B→Ch N K0 K1 (n:Int) n (Av raw) raw.length l g n (Av ks) i u.av (tb n (NZ u ks n)) fuel (A0q u A p) (p:Int) p p (vU A) (vU B)=X
 | 0,p,fuel+1,A,B,S,_,gg=>by
  rw[Ch];unfold Mz
  obtain rfl:p=n:=by omega
  have e1:=Avz A
  have L:=Avz B
  rw[gg.1] at e1
  rw[gg.2.1] at L
  rw[Lm (Nat.le_refl _),cf,e1,L,Nat.mul_one]
  have e3:=Ew ks
  rw[F] at e3
  rw[show List.take p (Av ks)=Av ks by rw[←e3,List.take_length]]
  exact H A B gg
 | m+1,p,fuel+1,A,B,S,T,gg=>by
  rw[Ch];unfold Mz
  have h:p<n:=by omega
  have C:p<ks.length:=by omega
  have M:∀ a b,Gd u ks n p (A0q u A p) a b→Ch N K0 K1 (n:Int) n (Av raw) raw.length l g n (Av ks) i u.av (tb n (NZ u ks n)) fuel a ((p+1:Nat):Int) (p+1) (p+1) (vU (A++[a])) (vU (B++[b]))=X:=fun a b gd=>by
   have:=Arj hN hn F ok G I H m (p+1) fuel (A++[a]) (B++[b]) (by omega) (by omega) (gg.snoc gd)
   rwa [show A0q u (A++[a]) (p+1)=a by show(A++[a]).getD p 0=a;rw[List.getD_eq_getElem?_getD,←gg.1,List.getElem?_append_right (Nat.le_refl _)];simp] at this
  rw[Jy h,ct,Aa h,ct,Nat.zero_add,D8 C,←Qq C]
  cases D:Ed ks p with
  | false =>
   rw[cf]
   dsimp only
   rw[A6a hN (by omega) gg.1 gg.2.1 (by omega) (by omega)]
   exact M 0 0 ⟨fun hq=>(by rw[D] at hq;cases hq),fun hq=>(by rw[D] at hq;cases hq),fun hq=>(by rw[D] at hq;cases hq),fun _=>⟨rfl,rfl⟩⟩
  | true =>
   have k:=Bdl (k0:=Ch N K0 K1 (n:Int) n (Av raw) raw.length l g n (Av ks) i u.av (tb n (NZ u ks n)) fuel) (K0:=K0) (K1:=K1) (raw:=raw) (l:=l) (g:=g) (i:=i) hN h hn ok G I D gg M
   rw[ct,ct,sT h,ct,sU h,u3]
   cases p with
   | zero =>
    rw[show((((0:Nat):Int)==0)==true)=true from rfl,ct,A93]
    rw[show Rz u ks 0=(u.state==2) from rfl] at k
    cases hs:(u.state==2) with
    | true=>rw[hs] at k;exact k
    | false=>rw[hs] at k;exact k
   | succ q =>
    rw[show((((q+1:Nat):Int)==0)==true)=false by simp;omega,cf,show(decide (((q+1:Nat):Int)>0)==true)=true by simp,ct,show IntKind.wrap .i64 (((q+1:Nat):Int) - 1)=(q:Int) by rw[i64 (by omega)];omega,Aa (by omega),ct,Nat.zero_add,D8 (by omega),←Qq (by omega)]
    rw[show Rz u ks (q+1)=Ed ks q from rfl] at k
    cases hs:Ed ks q with
    | true=>rw[hs] at k;exact k
    | false=>rw[hs] at k;exact k
theorem Aoc {h:Int} {m:Nat} (S:m=raw.length) (hn:n=ks.length) (T:u.away.l.length≤1000) (U:ks.length≤1000) (hN:4096≤N)
  (V:ny u h ks≠0→K0 [(.imm [] 0 1 false false),(.imm [] 0 3 false false),(.imm [] 0 3 false false)]=X)
  (G:ny u h ks=0→∀ A B,GdA u ks n n A B→K1 [(.imm (Av ks) n 1 false false),(.imm (vU A) n 3 false false),(.imm (vU B) n 3 false false)]=X):Lc N u.av i h n (Av raw) m l g (Av ks) K0 K1=X:=by
 subst S
 rw[IE];unfold Sw
 rw[Du,ct,B7,Nat.mul_one,hn,←Ew ks,List.take_length,Ew,←hn]
 refine Abx T U hN hn (fun k=>?_) (fun k=>?_)
 ·rw[show((0:Int) != 0)=false from rfl,cf,Bf1]
  have G:=G k
  unfold ny at k
  cases F:De u h with
  | false=>rw[F] at k;simp at k
  | true =>
   rw[F] at k
   have ok:=sq F
   obtain⟨hs,Y,hh⟩:=Yu F
   simp only[Bool.not_true,cond_false] at k
   cases D:((ks.length:Int) != h) with
   | true=>rw[D] at k;simp at k
   | false =>
    rw[D] at k
    have C:(ks.length:Int)=h:=by simpa using D
    cases L:(Dz u 0 (Cz u) ks).2 with
    | false=>rw[L] at k;simp at k
    | true =>
     rw[L] at k
     cases M:((u.state==2&&!Ed ks 0)&&decide (u.output>u.stopRamp)) with
     | true=>rw[M] at k;simp at k
     | false =>
      rw[M] at k
      cases I:N4 u ks ks.length with
      | true=>rw[I] at k;simp at k
      | false =>
       rw[←hn] at I C
       rw[←C]
       exact Arj (by omega) (by omega) hn.symm ok Y I G n 0 N [] [] (by omega) (by omega) ⟨rfl,rfl,fun i hi=>by omega⟩
 ·rw[show(ny u h ks != 0)=true by simpa using k,ct]
  exact V k
end
end
end Gx

namespace Gx
open Go Go.Proofs
set_option maxRecDepth 100000
section
variable {R:Type}
variable {N:Nat} {u:UnitD} {p:PlanD} {f e:Bool} {c:Int}
theorem A6b {l:List RatD} (C:∀ x ∈ l,x.ok) (h:A9m l=true):okR l∧l.length≤30:=by
 simp only[A9m,Bool.and_eq_true,decide_eq_true_eq,List.all_eq_true] at h
 refine⟨fun x k=>⟨C x k,rfl,?_⟩,h.1⟩
 have:=h.2 x k
 simp only[Bbt,Bool.and_eq_true,decide_eq_true_eq] at this
 unfold RatD.m;omega
def Bg8 (ks:List Int) (en re:List RatD) (a b c:Bool):PlanD:=⟨.of ks false a,.of en false b,.of re false c⟩
theorem Bfq {ks:List Int} {en re:List RatD} {a b c:Bool}:[AV.imm (Av ks) ks.length 1 false a,.imm (en.flatMap RatD.av) en.length 3 false b,.imm (re.flatMap RatD.av) re.length 3 false c]=(Bg8 ks en re a b c).av:=by
 rw[←Fz];rfl
end
end Gx

namespace Gx.Cf
open Go Go.Proofs
inductive Sl (α:Type) where
 | nil
 | of (l:List α) (t o:Bool)
def Sl.l {α:Type}:Sl α→List α
 | .nil=>[]
 | .of l _ _=>l
def Sl.av {α:Type} (sz:Nat) (e:α→LA):Sl α→AV
 | .nil=>.nsl
 | .of l t o=>.imm (l.flatMap e) l.length sz t o
def HC (n:Int):LA:=[.int .i64 n]
def Av (l:List Int):LA:=l.map fun n=>.int .i64 n
theorem Fz:∀ l:List Int,l.flatMap HC=Av l
 | []=>rfl
 | a::r=>by rw[List.flatMap_cons,Fz r];rfl
theorem Ew (l:List Int):(Av l).length=l.length:=by simp[Av]
theorem z7 (l m:List Int):Av l++Av m=Av (l++m):=by simp[Av]
structure FracD where
 num:Int
 den:Int
structure BusD where
 name:List UInt8
 demand:Sl Int
 shed:Int
structure LineD where
 name:List UInt8
 fr:Int
 to:Int
 re:FracD
 smin:FracD
 smax:FracD
 limit:Int
 emer:Int
 away:Sl Int
structure SegD where
 width:Int
 price:Int
structure UnitD where
 name:List UInt8
 bus:Int
 min:Int
 max:Int
 segs:Sl SegD
 noLoad:Int
 rampUp:Int
 rampDown:Int
 startRamp:Int
 stopRamp:Int
 upTime:Int
 downTime:Int
 startTime:Int
 hotCost:Int
 coldCost:Int
 hotHours:Int
 reserve:Int
 reservePrice:Int
 away:Sl Int
 state:Int
 hours:Int
 output:Int
structure StoreD where
 name:List UInt8
 bus:Int
 capacity:Int
 initial:Int
 final:Int
 charge:Int
 discharge:Int
 eff:FracD
structure TieD where
 name:List UInt8
 bus:Int
 imp:Sl Int
 exp:Sl Int
 price:Sl Int
structure MoveD where
 unit:Int
 up:Int
 down:Int
structure OutD where
 name:List UInt8
 lines:Sl Int
 corr:Bool
 moves:Sl MoveD
structure CaseD where
 hours:Int
 reserve:Sl Int
 buses:Sl BusD
 lines:Sl LineD
 units:Sl UnitD
 stores:Sl StoreD
 ties:Sl TieD
 outs:Sl OutD
def BusD.av (b:BusD):LA:=[.str b.name,b.demand.av 1 HC,.int .i64 b.shed]
def LineD.av (b:LineD):LA:=[.str b.name,.int .i64 b.fr,.int .i64 b.to,.int .i64 b.re.num,.int .i64 b.re.den,.int .i64 b.smin.num,.int .i64 b.smin.den,.int .i64 b.smax.num,.int .i64 b.smax.den,.int .i64 b.limit,.int .i64 b.emer,b.away.av 1 HC]
def SegD.av (s:SegD):LA:=[.int .i64 s.width,.int .i64 s.price]
def UnitD.av (u:UnitD):LA:=[.str u.name,.int .i64 u.bus,.int .i64 u.min,.int .i64 u.max,u.segs.av 2 SegD.av,.int .i64 u.noLoad,.int .i64 u.rampUp,.int .i64 u.rampDown,.int .i64 u.startRamp,.int .i64 u.stopRamp,.int .i64 u.upTime,.int .i64 u.downTime,.int .i64 u.startTime,.int .i64 u.hotCost,.int .i64 u.coldCost,.int .i64 u.hotHours,.int .i64 u.reserve,.int .i64 u.reservePrice,u.away.av 1 HC,.int .i64 u.state,.int .i64 u.hours,.int .i64 u.output]
def StoreD.av (s:StoreD):LA:=[.str s.name,.int .i64 s.bus,.int .i64 s.capacity,.int .i64 s.initial,.int .i64 s.final,.int .i64 s.charge,.int .i64 s.discharge,.int .i64 s.eff.num,.int .i64 s.eff.den]
def TieD.av (t:TieD):LA:=[.str t.name,.int .i64 t.bus,t.imp.av 1 HC,t.exp.av 1 HC,t.price.av 1 HC]
def MoveD.av (m:MoveD):LA:=[.int .i64 m.unit,.int .i64 m.up,.int .i64 m.down]
def OutD.av (o:OutD):LA:=[.str o.name,o.lines.av 1 HC,.bool o.corr,o.moves.av 3 MoveD.av]
def CaseD.av (c:CaseD):LA:=[.int .i64 c.hours,c.reserve.av 1 HC,c.buses.av 3 BusD.av,c.lines.av 12 LineD.av,c.units.av 22 UnitD.av,c.stores.av 9 StoreD.av,c.ties.av 5 TieD.av,c.outs.av 4 OutD.av]
section
variable {R:Type}
theorem H8 {α:Type} {sz:Nat} {e:α→LA} {s:Sl α} {r:LA} {f:LA→Nat→O R}:Co sz (s.av sz e::r) f=f (s.l.flatMap e) s.l.length:=by
 cases s<;>simp[Co,Sl.av,Sl.l,A6r]
theorem IG {s:List UInt8} {r:LA} {f:List UInt8→O R}:Awd (.str s::r) f=f s:=by simp[Awd,vd]
theorem Bbz {b:Bool} {r:LA} {f:Bool→O R}:ON (.bool b::r) f=f b:=by simp[ON,asBool]
theorem Fj (a b:Nat):Nat.ble a b=decide (a≤b):=by
  cases h:Nat.ble a b with
  | true=>simp at h;simp[h]
  | false => have : ¬ a ≤ b := fun k => by rw [Nat.ble_eq_true_of_le k] at h; cases h
             simp[this]
theorem Av0 (a b:Nat):Nat.beq a b=decide (a=b):=by
  cases h:Nat.beq a b with
  | true=>have:=Nat.eq_of_beq_eq_true h;simp[this]
  | false => have : a ≠ b := fun e => by subst e; rw [Nat.beq_refl] at h; cases h
             simp[this]
theorem ct (x y:O R):cond true x y=x:=rfl
theorem cf (x y:O R):cond false x y=y:=rfl
theorem Bl {α:Type} {e:α→LA} {sz:Nat} (k:∀ a,(e a).length=sz):∀ (l:List α) (j:Nat) (h:j<l.length),List.drop (j*sz) (l.flatMap e)=e l[j]++(l.drop (j+1)).flatMap e
 | a::r,0,_=>by simp
 | a::r,j+1,h=>by
  have:=Bl k r j (by simpa using h)
  rw[List.flatMap_cons,List.drop_append,k,show(j+1)*sz - sz=j*sz by rw[Nat.add_mul];omega,List.drop_eq_nil_of_le (by rw[k,Nat.add_mul];omega)]
  simpa using this
theorem QF {l:List Int} {i:Nat} (h:i<l.length) {f:Int→O R}:An .i64 (List.drop i (Av l)) f=f l[i]:=by
 rw[Av,List.drop_eq_getElem_cons (by simpa using h)];simp[A4]
abbrev Kd:=Option ((Int×Int×Int)×{ e:Int // e≠0 })
def nd (p:Kd) (ok:Bool) (w:Int×Int×Int) (e:{ e:Int // e≠0 }):Kd:=match p with
 | some x=>some x
 | none=>cond ok none (some (w,e))
theorem WV (p:Kd) (w:Int×Int×Int) (e:{ e:Int // e≠0 }):nd p true w e=p:=by cases p<;>rfl
theorem Bdm (x:(Int×Int×Int)×{ e:Int // e≠0 }) (ok:Bool) (w:Int×Int×Int) (e:{ e:Int // e≠0 }):nd (some x) ok w e=some x:=rfl
theorem A0r (p:Kd) (a b:Bool) (w:Int×Int×Int) (e:{ e:Int // e≠0 }):nd (nd p a w e) b w e=nd p (a&&b) w e:=by cases p<;>cases a<;>cases b<;>rfl
def Bb0 (p:Kd) (k i:Int):LA:=match p with
 | none=>[.int .i64 k,.int .i64 i,.int .i64 0,.int .i64 0]
 | some ((a,b,f),e)=>[.int .i64 a,.int .i64 b,.int .i64 f,.int .i64 e.1]
def Fs (lo hi n:Int):Bool:=decide (lo≤n)&&decide (n≤hi)
end
end Gx.Cf

namespace Gx.Cf
open Go Go.Proofs
section
variable {R:Type}
def Tk (n N:Nat):Prop:=n<N∧n<4611686018427387904
theorem Fr {j:Nat} (h:j<4611686018427387904):IntKind.wrap .i64 ((j:Int)+1)=((j+1:Nat):Int):=by rw[Y0 _ (by omega)];omega
theorem Ak3 {l:List Int} {j:Nat} (h:j<l.length) {f:Int→O R}:An .i64 (List.drop ((Int.toNat (j:Int))*1) (Av l)) f=f l[j]:=by
 rw[Int.toNat_natCast,Nat.mul_one,QF h]
theorem Jy {j n:Nat} (h:j<n):decide ((j:Int)<(n:Int))=true:=by simp;omega
theorem Lm {j n:Nat} (h:n≤j):decide ((j:Int)<(n:Int))=false:=by simp;omega
theorem Ci {α:Type} {l:List α} {j:Nat} (h:j<l.length):l.drop j=l[j]::l.drop (j+1):=List.drop_eq_getElem_cons h
theorem Es {α:Type} {l:List α} {j:Nat} (h:l.length≤j):l.drop j=[]:=List.drop_eq_nil_of_le h
theorem SO {N:Nat} {lo hi:Int} {l:List Int} {t o:Bool} {K:Bool→O R} (hs:l.length<4611686018427387904):∀ (m j fuel:Nat),j+m=l.length→m<fuel →
  Ic N K lo hi (Av l) l.length t o fuel (j:Int)=K ((l.drop j).all (Fs lo hi))
 | 0,j,fuel+1,D,_=>by
  rw[Ic];unfold Sg
  rw[Lm (by omega),cf,Es (by omega)];rfl
 | m+1,j,fuel+1,D,G=>by
  rw[Ic];unfold Sg
  have h:j<l.length:=by omega
  rw[Jy h,ct,Aa h,ct,Ak3 h,ct,Ak3 h,Fr (by omega),SO hs m (j+1) fuel (by omega) (by omega),Ci h,List.all_cons]
  unfold Fs
  by_cases k:l[j]<lo
  ·have:¬ lo≤l[j]:=by omega
   simp[k,this]
  ·have:lo≤l[j]:=by omega
   by_cases C:l[j]>hi
   ·have:¬ l[j]≤hi:=by omega
    simp[k,C,this]
   ·have F:l[j]≤hi:=by omega
    simp[k,C,this,F]
theorem Hv {N:Nat} {lo hi:Int} {l:List Int} {n:Nat} {t o:Bool} {K:Bool→O R} (hn:n=l.length) (hs:Tk l.length N):Aw N lo hi (Av l) n t o K=K (l.all (Fs lo hi)):=by
 subst hn
 rw[ZQ];unfold DL
 have:=SO (R:=R) (N:=N) (lo:=lo) (hi:=hi) (t:=t) (o:=o) (K:=K) hs.2 l.length 0 N (by omega) hs.1
 simpa using this
theorem Er {N:Nat} {lo hi a:Int} {t o:Bool} {K:Bool→O R} (hN:8≤N):Aw N lo hi [.int .i64 a] 1 t o K=K (Fs lo hi a):=by
 have:=Hv (R:=R) (N:=N) (lo:=lo) (hi:=hi) (l:=[a]) (t:=t) (o:=o) (K:=K) rfl ⟨by simp;omega,by simp⟩
 simpa[Av] using this
theorem Aby {N:Nat} {lo hi a b:Int} {t o:Bool} {K:Bool→O R} (hN:8≤N):Aw N lo hi [.int .i64 a,.int .i64 b] 2 t o K=K (Fs lo hi a&&Fs lo hi b):=by
 have:=Hv (R:=R) (N:=N) (lo:=lo) (hi:=hi) (l:=[a,b]) (t:=t) (o:=o) (K:=K) rfl ⟨by simp;omega,by simp⟩
 simpa[Av] using this
def Alm:List Int→Bool
 | a::b::r=>decide (a<b)&&Alm (b::r)
 | _=>true
theorem SP (a b:Int) (r:List Int):Alm (a::b::r)=(decide (a<b)&&Alm (b::r)):=by rw[Alm]
theorem sr (a:Int):Alm [a]=true:=by rw[Alm];intros;simp_all
theorem Av1:Alm []=true:=by rw[Alm];intros;simp_all
theorem Ak4 {j:Nat} (h:j+1<4611686018427387904):IntKind.wrap .i64 (((j+1:Nat):Int) - 1)=(j:Int):=by rw[Y0 _ (by omega)];omega
theorem bG {N:Nat} {l:List Int} {t o:Bool} {K:Bool→O R} (hs:l.length<4611686018427387904):∀ (m j fuel:Nat),j+1+m=l.length→m<fuel →
  Hf N K (Av l) l.length t o fuel ((j+1:Nat):Int)=K (Alm (l.drop j))
 | 0,j,fuel+1,C,_=>by
  rw[Hf];unfold Pd
  rw[Lm (by omega),cf,Ci (by omega),Es (by omega),sr]
 | m+1,j,fuel+1,C,D=>by
  rw[Hf];unfold Pd
  have h:j+1<l.length:=by omega
  have h':j<l.length:=by omega
  rw[Jy h,ct,Aa h,ct,Ak3 h,Ak4 (by omega),Aa h',ct,Ak3 h',Fr (by omega),bG hs m (j+1) fuel (by omega) (by omega),Ci h',Ci h,SP]
  by_cases k:l[j+1]≤l[j]
  ·have:¬ l[j]<l[j+1]:=by omega
   simp[k,this]
  ·have:l[j]<l[j+1]:=by omega
   simp[k,this]
theorem AP {N:Nat} {l:List Int} {n:Nat} {t o:Bool} {K:Bool→O R} (hn:n=l.length) (hs:Tk l.length N):Pe N (Av l) n t o K=K (Alm l):=by
 subst hn
 rw[fZ];unfold LW
 rcases l with _ | ⟨a,r⟩
 ·have hN:=hs.1
  rcases N with _ | N
  ·simp at hN
  ·dsimp only;rw[Hf];unfold Pd;simp[Av1]
 ·have:=bG (R:=R) (N:=N) (t:=t) (o:=o) (K:=K) hs.2 r.length 0 N (by simp;omega) (by have:=hs.1;simp at this;omega)
  simpa using this
theorem su {N:Nat} {v:Int} {l:List Int} {t o:Bool} {K:Bool→O R} (hs:l.length<4611686018427387904):∀ (m j fuel:Nat),j+m=l.length→m<fuel →
  Tg N K (Av l) l.length t o v fuel (j:Int)=K ((l.drop j).contains v)
 | 0,j,fuel+1,k,_=>by
  rw[Tg];unfold LX
  rw[Lm (by omega),cf,Es (by omega)];rfl
 | m+1,j,fuel+1,k,C=>by
  rw[Tg];unfold LX
  have h:j<l.length:=by omega
  rw[Jy h,ct,Aa h,ct,Ak3 h,Fr (by omega),su hs m (j+1) fuel (by omega) (by omega),Ci h,List.contains_cons,BEq.comm]
  cases D:v==l[j]<;>simp
theorem WW {N:Nat} {v:Int} {l:List Int} {n:Nat} {t o:Bool} {K:Bool→O R} (hn:n=l.length) (hs:Tk l.length N):LY N (Av l) n t o v K=K (l.contains v):=by
 subst hn
 rw[yh];unfold rZ
 have:=su (R:=R) (N:=N) (v:=v) (t:=t) (o:=o) (K:=K) hs.2 l.length 0 N (by omega) hs.1
 simpa using this
end
end Gx.Cf

namespace Gx.Cf
open Go Go.Proofs
section
variable {R:Type}
def Is:Kd→Int
 | none=>0
 | some x=>x.2.1
theorem SQ {c:CaseD} {f:Int→O R}:An .i64 c.av f=f c.hours:=by simp[CaseD.av,A4]
theorem A4n {c:CaseD} {f:LA→Nat→O R}:Co 1 (List.drop 1 c.av) f=f (Av c.reserve.l) c.reserve.l.length:=by simp[CaseD.av,H8,Fz]
theorem Vz {c:CaseD} {f:LA→Nat→O R}:Co 3 (List.drop 2 c.av) f=f (c.buses.l.flatMap BusD.av) c.buses.l.length:=by simp[CaseD.av,H8]
theorem R4 {c:CaseD} {f:LA→Nat→O R}:Co 12 (List.drop 3 c.av) f=f (c.lines.l.flatMap LineD.av) c.lines.l.length:=by simp[CaseD.av,H8]
theorem IH {c:CaseD} {f:LA→Nat→O R}:Co 22 (List.drop 4 c.av) f=f (c.units.l.flatMap UnitD.av) c.units.l.length:=by simp[CaseD.av,H8]
theorem EP {c:CaseD} {f:LA→Nat→O R}:Co 9 (List.drop 5 c.av) f=f (c.stores.l.flatMap StoreD.av) c.stores.l.length:=by simp[CaseD.av,H8]
theorem iW {c:CaseD} {f:LA→Nat→O R}:Co 5 (List.drop 6 c.av) f=f (c.ties.l.flatMap TieD.av) c.ties.l.length:=by simp[CaseD.av,H8]
theorem DU {c:CaseD} {f:LA→Nat→O R}:Co 4 (List.drop 7 c.av) f=f (c.outs.l.flatMap OutD.av) c.outs.l.length:=by simp[CaseD.av,H8]
def Do (p:Kd):LA:=Bb0 p 0 0
theorem Ah {N:Nat} {p:Kd} {k i f e:Int} {ok:Bool} {K:LA→O R} (D:e≠0) :
  Ab N ok k i f e (Do p) K=K (Do (nd p ok (k,i,f) ⟨e,D⟩)):=by
 rw[Zf];unfold Og Kk
 rcases p with _ | ⟨⟨a,b,F⟩,e',C⟩
 ·cases ok<;>simp[Do,Bb0,A4,nd,Fj,C0]
 ·have:(e'==0)=false:=by simpa using C
  simp[Do,Bb0,A4,nd,this]
def Ark (h:Int) (l:List Int) (lo hi:Int) (w:Int×Int×Int) (p:Kd):Kd:=nd (nd p ((l.length:Int)==h) w ⟨4,by decide⟩) (l.all (Fs lo hi)) w ⟨3,by decide⟩
def Ak5 (h:Int) (l:List Int) (w:Int×Int×Int) (p:Kd):Kd:=nd (nd p (l.all (Fs 0 (IntKind.wrap .i64 (h - 1)))) w ⟨3,by decide⟩) (Alm l) w ⟨11,by decide⟩
theorem Ex {N:Nat} {c:CaseD} {p:Kd} {k i f lo hi:Int} {l:List Int} {n:Nat} {t o o1:Bool} {K:LA→O R} (hn:n=l.length) (hs:Tk l.length N) :
  Cx N c.av o1 (Av l) n t o lo hi k i f (Do p) K=K (Do (Ark c.hours l lo hi (k,i,f) p)):=by
 rw[Vb];unfold Q4
 rw[SQ,Ah (by decide),Hv hn hs,Ah (by decide),hn];rfl
theorem Wm {N:Nat} {c:CaseD} {p:Kd} {k i f:Int} {l:List Int} {n:Nat} {t o o1:Bool} {K:LA→O R} (hn:n=l.length) (hs:Tk l.length N) :
  Hl N c.av o1 (Av l) n t o k i f (Do p) K=K (Do (Ak5 c.hours l (k,i,f) p)):=by
 rw[Zm];unfold Ve
 rw[SQ,Hv hn hs,Ah (by decide),AP hn hs,Ah (by decide)];rfl
def z8 (c:CaseD) (b:Int):Bool:=decide (0≤b)&&decide (b<(c.buses.l.length:Int))
theorem A4o (n:Nat) (b:Int) (h:n<4611686018427387904):Fs 0 (IntKind.wrap .i64 ((n:Int) - 1)) b=(decide (0≤b)&&decide (b<(n:Int))):=by
 rw[Y0 _ (by omega),Fs]
 congr 1
 simp;omega
theorem Js {N:Nat} {c:CaseD} {p:Kd} {k i f b:Int} {o1:Bool} {K:LA→O R} (hN:8≤N) (C:c.buses.l.length<4611686018427387904) :
  Eo N c.av o1 b k i f (Do p) K=K (Do (nd p (z8 c b) (k,i,f) ⟨12,by decide⟩)):=by
 rw[BR];unfold Xk
 rw[Vz,Er hN,A4o _ _ C,Ah (by decide)];rfl
def Tl (f:FracD):Bool:=Fs 1 1048576 f.den&&Fs (-1048576) 1048576 f.num
theorem MS {N:Nat} {f:FracD} {o:Bool} {K:Bool→O R} (hN:8≤N):Jk N [.int .i64 f.num,.int .i64 f.den] o K=K (Tl f):=by
 rw[QW];unfold NP
 simp only[List.drop_succ_cons,List.drop_zero,A4,Er hN]
 unfold Tl
 cases Fs 1 1048576 f.den<;>simp
def Av2 (c:UInt8):Bool:=decide (97≤c.toNat)&&decide (c.toNat≤122)
def Bfr (c:UInt8):Bool:=Av2 c||(decide (48≤c.toNat)&&decide (c.toNat≤57))||decide (c.toNat=95)
def Av3 (s:List UInt8):Bool:=decide (1≤s.length)&&(decide (s.length≤16)&&(!(s==[99,111,114,114,101,99,116,105,118,101])&&(Av2 (s.getD 0 0)&&s.all Bfr)))
theorem WX {s:List UInt8} {j:Nat} (h:j<s.length):List.getD s (Int.toNat (j:Int)) 0=s[j]:=by
 rw[Int.toNat_natCast,List.getD_eq_getElem?_getD,List.getElem?_eq_getElem h];rfl
theorem mI {N:Nat} {s:List UInt8} {K:Bool→O R} (hs:s.length<4611686018427387904):∀ (m j fuel:Nat),j+m=s.length→m<fuel →
  Pc N K s fuel (j:Int)=K ((decide (j≠0)||(decide (s.length=0)||Av2 (s.getD 0 0)))&&(s.drop j).all Bfr)
 | 0,j,fuel+1,G,_=>by
  rw[Pc];unfold DM
  rw[Lm (by omega),cf,Es (by omega)]
  by_cases h:j=0
  ·have:s.length=0:=by omega
   simp[this]
  ·simp[h]
 | m+1,j,fuel+1,G,T=>by
  rw[Pc];unfold DM LU
  dsimp only
  have h:j<s.length:=by omega
  rw[Jy h,ct,Aa h,ct,Fr (by omega),mI hs m (j+1) fuel (by omega) (by omega),Ci h,List.all_cons,WX h]
  have I:j=0→s.getD 0 0=s[j]:=fun e=>by
   have:=WX h;rw[←this,e];rfl
  unfold Bfr Av2
  by_cases k:j=0
  ·rw[I k]
   have C:decide (s.length=0)=false:=decide_eq_false (by omega)
   have e:((j:Int)==0)=true:=by simp;omega
   simp only[ct,k,ne_eq,not_true_eq_false,decide_false,Bool.false_or,C,Nat.zero_add,show decide (¬ (1=0))=true by decide,Bool.true_or,Bool.true_and]
   simp only[k] at *
   generalize s[0].toNat=v
   by_cases D:97≤v<;>by_cases F:v≤122<;>simp[D,F,show((97:Int)≤v)↔97≤v by omega,show((v:Int)≤122)↔v≤122 by omega]
  ·have e:((j:Int)==0)=false:=by simp;omega
   simp only[ct,e,k,ne_eq,not_false_eq_true,decide_true,Bool.true_or,Bool.true_and,show decide (¬ (j+1=0))=true by simp]
   generalize s[j].toNat=v
   generalize (s.drop (j+1)).all _=r
   by_cases D:97≤v<;>by_cases F:v≤122<;>by_cases L:48≤v<;>by_cases M:v≤57<;>by_cases S:v=95 <;>
    simp[D,F,L,M,show((97:Int)≤v)↔97≤v by omega,show((v:Int)≤122)↔v≤122 by omega,show((v:Int)<48)↔¬ 48≤v by omega,show((57:Int)<v)↔¬ v≤57 by omega,show((v:Int) != 95)=!decide (v=95) by (by_cases v=95<;>simp_all<;>omega),S]
theorem Aod {N:Nat} {s:List UInt8} {K:Bool→O R} (hN:64≤N):QV N s K=K (Av3 s):=by
 rw[rV];unfold iP LV VX
 dsimp only
 unfold Av3
 by_cases k:1≤s.length
 ·by_cases C:s.length≤16
  ·have D:=mI (R:=R) (N:=N) (s:=s) (K:=K) (by omega) s.length 0 N (by omega) (by omega)
   simp only[List.drop_zero,Int.natCast_zero] at D
   rw[D]
   simp only[k,C,show(decide ((s.length:Int)<1))=false by simp;omega,show(decide ((s.length:Int)>16))=false by simp;omega,decide_true,cond_true,cond_false,beq_self_eq_true]
   have:s.length≠0:=by omega
   cases s==[99,111,114,114,101,99,116,105,118,101]<;>simp[this]
  ·simp[k,C,show((s.length:Int)<1)↔¬ 1≤s.length by omega,show((16:Int)<s.length)↔¬ s.length≤16 by omega]
 ·simp[k,show((s.length:Int)<1)↔¬ 1≤s.length by omega]
end
end Gx.Cf

namespace Gx.Cf
open Go Go.Proofs
section
variable {R:Type}
def sv (names:List (List UInt8)) (k i:Int) (s:List UInt8) (p:Kd):Kd:=nd (nd p (Av3 s) (k,i,0) ⟨9,by decide⟩) (names.all fun x=>!(x==s)) (k,i,0) ⟨10,by decide⟩
theorem SR (a:BusD):a.av.length=3:=rfl
theorem Hw (a:LineD):a.av.length=12:=rfl
theorem Qv (a:UnitD):a.av.length=22:=rfl
theorem Pq (a:StoreD):a.av.length=9:=rfl
theorem Z8 (a:TieD):a.av.length=5:=rfl
theorem Pr (a:OutD):a.av.length=4:=rfl
end
end Gx.Cf

namespace Gx.Cf
open Go Go.Proofs
section
variable {R:Type}
structure Small (c:CaseD) (N:Nat):Prop where
 n64:64≤N
 res:Tk c.reserve.l.length N
 bus:Tk c.buses.l.length N
 lin:Tk c.lines.l.length N
 uni:Tk c.units.l.length N
 sto:Tk c.stores.l.length N
 tie:Tk c.ties.l.length N
 out:Tk c.outs.l.length N
 dem:∀ b ∈ c.buses.l,Tk b.demand.l.length N
 law:∀ b ∈ c.lines.l,Tk b.away.l.length N
 seg:∀ b ∈ c.units.l,Tk b.segs.l.length N
 uaw:∀ b ∈ c.units.l,Tk b.away.l.length N
 tim:∀ b ∈ c.ties.l,Tk b.imp.l.length N
 tex:∀ b ∈ c.ties.l,Tk b.exp.l.length N
 tpr:∀ b ∈ c.ties.l,Tk b.price.l.length N
 oli:∀ b ∈ c.outs.l,Tk b.lines.l.length N
 omo:∀ b ∈ c.outs.l,Tk b.moves.l.length N
 omb:∀ b ∈ c.outs.l,b.moves.l.length<8796093022208
 top:c.buses.l.length≤1000000∧c.lines.l.length≤1000000∧c.units.l.length≤1000000∧c.stores.l.length≤1000000∧c.ties.l.length≤1000000∧c.outs.l.length≤1000000
def Gu {α:Type} (f:Nat→α→Kd→Kd):List α→Nat→Kd→Kd
 | [],_,p=>p
 | a::r,j,p=>Gu f r (j+1) (f j a p)
theorem Ps {α:Type} {f:Nat→α→Kd→Kd} {x:(Int×Int×Int)×{ e:Int // e≠0 }} (k:∀ j a,f j a (some x)=some x):∀ (l:List α) (j:Nat),Gu f l j (some x)=some x
 | [],_=>rfl
 | a::r,j=>by rw[Gu,k];exact Ps k r (j+1)
abbrev e1:{ e:Int // e≠0 }:=⟨1,by decide⟩
abbrev e3:{ e:Int // e≠0 }:=⟨3,by decide⟩
abbrev e4:{ e:Int // e≠0 }:=⟨4,by decide⟩
abbrev e8:{ e:Int // e≠0 }:=⟨8,by decide⟩
abbrev Bfs:{ e:Int // e≠0 }:=⟨11,by decide⟩
abbrev A9p:{ e:Int // e≠0 }:=⟨12,by decide⟩
abbrev Bh4:{ e:Int // e≠0 }:=⟨13,by decide⟩
abbrev Bg9:{ e:Int // e≠0 }:=⟨16,by decide⟩
def A4p (c:CaseD) (p:Kd):Kd :=
 let p:=nd p (Fs 1 24 c.hours) (0,0,0) e3
 let p:=Ark c.hours c.reserve.l 0 1048576 (0,0,1) p
 let p:=nd p (Fs 1 32 (c.buses.l.length:Int)) (0,0,2) e8
 let p:=nd p (decide ((c.lines.l.length:Int)≤64)) (0,0,3) e8
 let p:=nd p (decide ((c.units.l.length:Int)≤16)) (0,0,4) e8
 let p:=nd p (decide ((c.stores.l.length:Int)≤8)) (0,0,5) e8
 let p:=nd p (decide ((c.ties.l.length:Int)≤8)) (0,0,6) e8
 nd p (decide ((c.outs.l.length:Int)≤64)) (0,0,7) e8
def Bdn (c:CaseD) (j:Nat) (b:BusD) (p:Kd):Kd :=
 let p:=sv ((c.buses.l.map (·.name)).take j) 1 j b.name p
 let p:=Ark c.hours b.demand.l 0 1048576 (1,j,1) p
 nd p (Fs 0 1048576 b.shed) (1,j,2) e3
def Arl (c:CaseD) (j:Nat) (x:LineD) (p:Kd):Kd :=
 let p:=sv ((c.lines.l.map (·.name)).take j) 2 j x.name p
 let p:=nd p (z8 c x.fr) (2,j,1) A9p
 let p:=nd p (z8 c x.to) (2,j,2) A9p
 let p:=nd p (x.to != x.fr) (2,j,2) e1
 let p:=nd p (Tl x.re&&decide (x.re.num>0)) (2,j,3) e3
 let p:=nd p (Tl x.smin&&decide (x.smin.num≤0)) (2,j,4) e3
 let p:=nd p (Tl x.smax&&decide (x.smax.num≥0)) (2,j,5) e3
 let p:=nd p (Fs 0 1048576 x.limit) (2,j,6) e3
 let p:=nd p (Fs x.limit 1048576 x.emer) (2,j,7) e3
 Ak5 c.hours x.away.l (2,j,8) p
def Ak6 (c:CaseD) (j:Nat) (x:StoreD) (p:Kd):Kd :=
 let p:=sv ((c.stores.l.map (·.name)).take j) 4 j x.name p
 let p:=nd p (z8 c x.bus) (4,j,1) A9p
 let p:=nd p (Fs 0 1048576 x.capacity) (4,j,2) e3
 let p:=nd p (Fs 0 x.capacity x.initial) (4,j,3) e3
 let p:=nd p (Fs 0 x.capacity x.final) (4,j,4) e3
 let p:=nd p (Fs 0 1048576 x.charge) (4,j,5) e3
 let p:=nd p (Fs 0 1048576 x.discharge) (4,j,6) e3
 nd p (Tl x.eff&&(decide (x.eff.num>0)&&decide (x.eff.num≤x.eff.den))) (4,j,7) e3
def Bdo (c:CaseD) (j:Nat) (x:TieD) (p:Kd):Kd :=
 let p:=sv ((c.ties.l.map (·.name)).take j) 5 j x.name p
 let p:=nd p (z8 c x.bus) (5,j,1) A9p
 let p:=Ark c.hours x.imp.l 0 1048576 (5,j,2) p
 let p:=Ark c.hours x.exp.l 0 1048576 (5,j,3) p
 Ark c.hours x.price.l (-1048576) 1048576 (5,j,4) p
end
end Gx.Cf

namespace Gx.Cf
open Go Go.Proofs
section
variable {R:Type}
theorem II (a:SegD):a.av.length=2:=rfl
theorem Qw (a:MoveD):a.av.length=3:=rfl
def Gq (s:SegD):Bool:=Fs 1 1048576 s.width&&Fs (-1048576) 1048576 s.price
def WY (a:Int):List SegD→Int
 | []=>a
 | s::r=>WY (IntKind.wrap .i64 (a+s.width)) r
def gR:List SegD→Bool
 | a::b::r=>decide (b.price≥a.price)&&gR (b::r)
 | _=>true
theorem WZ (a b:SegD) (r:List SegD):gR (a::b::r)=(decide (b.price≥a.price)&&gR (b::r)):=by rw[gR]
theorem Ak7 (a:SegD):gR [a]=true:=by rw[gR];intros;simp_all
theorem A0s:gR []=true:=by rw[gR];intros;simp_all
def Bb1 (u:UnitD) (j:Nat) (p:Kd):Kd :=
 let p:=nd p (decide ((u.segs.l.length:Int)≤8)) (3,j,4) e8
 let p:=nd p (u.segs.l.all Gq) (3,j,4) e3
 let p:=nd p (gR u.segs.l) (3,j,4) Bfs
 nd p (WY 0 u.segs.l==IntKind.wrap .i64 (u.max - u.min)) (3,j,4) e4
theorem vV {u:UnitD} {f:LA→Nat→O R}:Co 2 (List.drop 4 u.av) f=f (u.segs.l.flatMap SegD.av) u.segs.l.length:=by simp[UnitD.av,H8]
theorem Beo {u:UnitD} {f:Int→O R}:An .i64 (List.drop 3 u.av) f=f u.max:=by simp[UnitD.av,A4]
theorem Bep {u:UnitD} {f:Int→O R}:An .i64 (List.drop 2 u.av) f=f u.min:=by simp[UnitD.av,A4]
theorem Arm {l:List SegD} {j:Nat} (h:j<l.length) {f:Int→O R}:An .i64 (List.drop 1 (List.drop ((Int.toNat (j:Int))*2) (l.flatMap SegD.av))) f=f l[j].price:=by
 rw[Int.toNat_natCast,Bl II _ _ h];simp[SegD.av,A4]
theorem A9q {l:List SegD} {j:Nat} (h:j<l.length) {f:Int→O R}:An .i64 (List.drop ((Int.toNat (j:Int))*2) (l.flatMap SegD.av)) f=f l[j].width:=by
 rw[Int.toNat_natCast,Bl II _ _ h];simp[SegD.av,A4]
def A0t (c:CaseD) (j:Nat) (u:UnitD) (p:Kd):Kd :=
 let p:=sv ((c.units.l.map (·.name)).take j) 3 j u.name p
 let p:=nd p (z8 c u.bus) (3,j,1) A9p
 let p:=nd p (Fs 0 1048576 u.min) (3,j,2) e3
 let p:=nd p (Fs u.min 1048576 u.max) (3,j,3) e3
 let p:=Bb1 u j p
 let p:=nd p (Fs 0 1048576 u.noLoad) (3,j,5) e3
 let p:=nd p (Fs 0 1048576 u.rampUp) (3,j,6) e3
 let p:=nd p (Fs 0 1048576 u.rampDown) (3,j,7) e3
 let p:=nd p (Fs u.min u.max u.startRamp) (3,j,8) e3
 let p:=nd p (Fs u.min u.max u.stopRamp) (3,j,9) e3
 let p:=nd p (Fs 0 24 u.upTime) (3,j,10) e3
 let p:=nd p (Fs 0 24 u.downTime) (3,j,11) e3
 let p:=nd p (Fs 0 24 u.startTime) (3,j,12) e3
 let p:=nd p (Fs 0 1048576 u.hotCost) (3,j,13) e3
 let p:=nd p (Fs 0 1048576 u.coldCost) (3,j,14) e3
 let p:=nd p (Fs 0 24 u.hotHours) (3,j,15) e3
 let p:=nd p (Fs 0 1048576 u.reserve) (3,j,16) e3
 let p:=nd p (Fs 0 1048576 u.reservePrice) (3,j,17) e3
 let p:=Ak5 c.hours u.away.l (3,j,18) p
 let p:=nd p (Fs 0 2 u.state) (3,j,19) A9p
 let p:=nd p (u.state != 1||u.startTime != 0) (3,j,19) Bg9
 let p:=nd p (Fs 1 48 u.hours) (3,j,20) e3
 let p:=nd p (u.state != 1||decide (u.hours≤u.startTime)) (3,j,20) e3
 cond (u.state==2) (nd p (Fs u.min u.max u.output) (3,j,21) e3) (nd p (Fs 0 0 u.output) (3,j,21) e3)
def Bdp (c:CaseD) (m:MoveD):Bool:=decide (0≤m.unit)&&decide (m.unit<(c.units.l.length:Int))
def A9r (m:MoveD):Bool:=Fs 0 1048576 m.up&&Fs 0 1048576 m.down
def A4q (c:CaseD) (o:OutD) (j:Nat) (p:Kd):Kd :=
 let p:=nd p ((o.moves.l.length:Int)==0||o.corr) (6,j,3) Bg9
 let p:=nd p (decide ((o.moves.l.length:Int)≤16)) (6,j,3) e8
 let p:=nd p (o.moves.l.all (Bdp c)) (6,j,3) A9p
 let p:=nd p (Alm (o.moves.l.map (·.unit))) (6,j,3) Bfs
 nd p (o.moves.l.all A9r) (6,j,3) e3
theorem A6c {u:OutD} {f:LA→Nat→O R}:Co 3 (List.drop 3 u.av) f=f (u.moves.l.flatMap MoveD.av) u.moves.l.length:=by simp[OutD.av,H8]
theorem Bft {u:OutD} {f:Bool→O R}:ON (List.drop 2 u.av) f=f u.corr:=by simp[OutD.av,Bbz]
def A9s (c:CaseD) (j:Nat) (x:OutD) (p:Kd):Kd :=
 let p:=sv ((c.outs.l.map (·.name)).take j) 6 j x.name p
 let p:=nd p ((x.lines.l.length:Int)==1||(x.lines.l.length:Int)==2) (6,j,1) e4
 let p:=nd p (x.lines.l.all fun n=>decide (0≤n)&&decide (n<(c.lines.l.length:Int))) (6,j,1) A9p
 let p:=nd p (Alm x.lines.l) (6,j,1) Bfs
 A4q c x j p
theorem vW {c:CaseD} {j:Nat} {x:OutD} {y:(Int×Int×Int)×{ e:Int // e≠0 }}:A9s c j x (some y)=some y:=rfl
end
end Gx.Cf

namespace Gx.Cf
open Go Go.Proofs
section
variable {R:Type}
theorem Bdq {u:OutD} {f:LA→Nat→O R}:Co 1 (List.drop 1 u.av) f=f (Av u.lines.l) u.lines.l.length:=by simp[OutD.av,H8,Fz]
end
end Gx.Cf

namespace Gx.Cf
open Go Go.Proofs
section
variable {R:Type}
def Hx (l:List (List UInt8)):LA:=l.map fun s=>.str s
theorem Ub (l:List (List UInt8)):(Hx l).length=l.length:=by simp[Hx]
theorem Ak8 {l:List (List UInt8)} {i:Nat} (h:i<l.length) {f:List UInt8→O R}:Awd (List.drop i (Hx l)) f=f l[i]:=by
 rw[Hx,List.drop_eq_getElem_cons (by simpa using h)];simp[IG]
theorem Gc {c:CaseD}:List.take 8 c.av=c.av:=rfl
theorem Pt {c:CaseD}:Nat.ble 8 (List.length c.av)=true:=rfl
theorem ST {N:Nat} {c:CaseD} {o:Bool} {K:Nat→LA→O R} (C:c.buses.l.length≤1000000):∀ (m j fuel:Nat),j+m=c.buses.l.length→m<fuel →
  Me N K o c.av fuel j (j:Int) (Hx ((c.buses.l.take j).map (·.name)))=K c.buses.l.length (Hx (c.buses.l.map (·.name)))
 | 0,j,fuel+1,D,_=>by
  rw[Me];unfold Yd
  have k:j=c.buses.l.length:=by omega
  rw[Vz,Lm (by omega),cf,List.take_of_length_le (by omega),k]
 | m+1,j,fuel+1,D,I=>by
  rw[Me];unfold Yd
  have h:j<c.buses.l.length:=by omega
  have b3:(Nat.ble (j+1) 140737488355328&&Nat.ble ((j+1)*16) 140737488355328)=true:=by rw[Fj,Fj];simp;omega
  have F:List.take (j*1) (Hx ((c.buses.l.take j).map (·.name)))++[.str c.buses.l[j].name]=Hx ((c.buses.l.take (j+1)).map (·.name)):=by
   rw[List.take_of_length_le (by simp[Ub];omega),List.take_succ_eq_append_getElem h,List.map_append];simp[Hx]
  have G:∀ f:List UInt8→O R,Awd (List.drop (j*3) (List.flatMap BusD.av c.buses.l)) f=f c.buses.l[j].name:=fun f=>by rw[Bl SR _ _ h];simp[BusD.av,IG]
  rw[Vz,Jy h,ct,Vz,Aa h,ct,Int.toNat_natCast,G,b3,ct,F,Fr (by omega),ST C m (j+1) fuel (by omega) (by omega)]
theorem A0u {N:Nat} {c:CaseD} {o:Bool} {K:Nat→LA→O R} (hs:Small c N):Hk N c.av o 1 K=K (c.buses.l.map (·.name)).length (Hx (c.buses.l.map (·.name))):=by
 rw[J8];unfold Mk
 have:=ST (R:=R) (N:=N) (c:=c) (o:=o) (K:=K) hs.top.1 c.buses.l.length 0 N (by omega) hs.bus.1
 simpa[Hx] using this
theorem SU {N:Nat} {c:CaseD} {o:Bool} {K:Nat→LA→O R} (C:c.lines.l.length≤1000000):∀ (m j fuel:Nat),j+m=c.lines.l.length→m<fuel →
  Mf N K o c.av fuel j (j:Int) (Hx ((c.lines.l.take j).map (·.name)))=K c.lines.l.length (Hx (c.lines.l.map (·.name)))
 | 0,j,fuel+1,D,_=>by
  rw[Mf];unfold Ye
  have k:j=c.lines.l.length:=by omega
  rw[R4,Lm (by omega),cf,List.take_of_length_le (by omega),k]
 | m+1,j,fuel+1,D,I=>by
  rw[Mf];unfold Ye
  have h:j<c.lines.l.length:=by omega
  have b3:(Nat.ble (j+1) 140737488355328&&Nat.ble ((j+1)*16) 140737488355328)=true:=by rw[Fj,Fj];simp;omega
  have F:List.take (j*1) (Hx ((c.lines.l.take j).map (·.name)))++[.str c.lines.l[j].name]=Hx ((c.lines.l.take (j+1)).map (·.name)):=by
   rw[List.take_of_length_le (by simp[Ub];omega),List.take_succ_eq_append_getElem h,List.map_append];simp[Hx]
  have G:∀ f:List UInt8→O R,Awd (List.drop (j*12) (List.flatMap LineD.av c.lines.l)) f=f c.lines.l[j].name:=fun f=>by rw[Bl Hw _ _ h];simp[LineD.av,IG]
  rw[R4,Jy h,ct,R4,Aa h,ct,Int.toNat_natCast,G,b3,ct,F,Fr (by omega),SU C m (j+1) fuel (by omega) (by omega)]
theorem z9 {N:Nat} {c:CaseD} {o:Bool} {K:Nat→LA→O R} (hs:Small c N):Hk N c.av o 2 K=K (c.lines.l.map (·.name)).length (Hx (c.lines.l.map (·.name))):=by
 rw[J8];unfold Mk
 have:=SU (R:=R) (N:=N) (c:=c) (o:=o) (K:=K) hs.top.2.1 c.lines.l.length 0 N (by omega) hs.lin.1
 simpa[Hx] using this
theorem SV {N:Nat} {c:CaseD} {o:Bool} {K:Nat→LA→O R} (C:c.units.l.length≤1000000):∀ (m j fuel:Nat),j+m=c.units.l.length→m<fuel →
  Mg N K o c.av fuel j (j:Int) (Hx ((c.units.l.take j).map (·.name)))=K c.units.l.length (Hx (c.units.l.map (·.name)))
 | 0,j,fuel+1,D,_=>by
  rw[Mg];unfold Yf
  have k:j=c.units.l.length:=by omega
  rw[IH,Lm (by omega),cf,List.take_of_length_le (by omega),k]
 | m+1,j,fuel+1,D,I=>by
  rw[Mg];unfold Yf
  have h:j<c.units.l.length:=by omega
  have b3:(Nat.ble (j+1) 140737488355328&&Nat.ble ((j+1)*16) 140737488355328)=true:=by rw[Fj,Fj];simp;omega
  have F:List.take (j*1) (Hx ((c.units.l.take j).map (·.name)))++[.str c.units.l[j].name]=Hx ((c.units.l.take (j+1)).map (·.name)):=by
   rw[List.take_of_length_le (by simp[Ub];omega),List.take_succ_eq_append_getElem h,List.map_append];simp[Hx]
  have G:∀ f:List UInt8→O R,Awd (List.drop (j*22) (List.flatMap UnitD.av c.units.l)) f=f c.units.l[j].name:=fun f=>by rw[Bl Qv _ _ h];simp[UnitD.av,IG]
  rw[IH,Jy h,ct,IH,Aa h,ct,Int.toNat_natCast,G,b3,ct,F,Fr (by omega),SV C m (j+1) fuel (by omega) (by omega)]
theorem z_ {N:Nat} {c:CaseD} {o:Bool} {K:Nat→LA→O R} (hs:Small c N):Hk N c.av o 3 K=K (c.units.l.map (·.name)).length (Hx (c.units.l.map (·.name))):=by
 rw[J8];unfold Mk
 have:=SV (R:=R) (N:=N) (c:=c) (o:=o) (K:=K) hs.top.2.2.1 c.units.l.length 0 N (by omega) hs.uni.1
 simpa[Hx] using this
theorem MT {N:Nat} {c:CaseD} {o:Bool} {K:Nat→LA→O R} (C:c.stores.l.length≤1000000):∀ (m j fuel:Nat),j+m=c.stores.l.length→m<fuel →
  Mh N K o c.av fuel j (j:Int) (Hx ((c.stores.l.take j).map (·.name)))=K c.stores.l.length (Hx (c.stores.l.map (·.name)))
 | 0,j,fuel+1,D,_=>by
  rw[Mh];unfold Yg
  have k:j=c.stores.l.length:=by omega
  rw[EP,Lm (by omega),cf,List.take_of_length_le (by omega),k]
 | m+1,j,fuel+1,D,I=>by
  rw[Mh];unfold Yg
  have h:j<c.stores.l.length:=by omega
  have b3:(Nat.ble (j+1) 140737488355328&&Nat.ble ((j+1)*16) 140737488355328)=true:=by rw[Fj,Fj];simp;omega
  have F:List.take (j*1) (Hx ((c.stores.l.take j).map (·.name)))++[.str c.stores.l[j].name]=Hx ((c.stores.l.take (j+1)).map (·.name)):=by
   rw[List.take_of_length_le (by simp[Ub];omega),List.take_succ_eq_append_getElem h,List.map_append];simp[Hx]
  have G:∀ f:List UInt8→O R,Awd (List.drop (j*9) (List.flatMap StoreD.av c.stores.l)) f=f c.stores.l[j].name:=fun f=>by rw[Bl Pq _ _ h];simp[StoreD.av,IG]
  rw[EP,Jy h,ct,EP,Aa h,ct,Int.toNat_natCast,G,b3,ct,F,Fr (by omega),MT C m (j+1) fuel (by omega) (by omega)]
theorem sw {N:Nat} {c:CaseD} {o:Bool} {K:Nat→LA→O R} (hs:Small c N):Hk N c.av o 4 K=K (c.stores.l.map (·.name)).length (Hx (c.stores.l.map (·.name))):=by
 rw[J8];unfold Mk
 have:=MT (R:=R) (N:=N) (c:=c) (o:=o) (K:=K) hs.top.2.2.2.1 c.stores.l.length 0 N (by omega) hs.sto.1
 simpa[Hx] using this
theorem bH {N:Nat} {c:CaseD} {o:Bool} {K:Nat→LA→O R} (C:c.ties.l.length≤1000000):∀ (m j fuel:Nat),j+m=c.ties.l.length→m<fuel →
  Mi N K o c.av fuel j (j:Int) (Hx ((c.ties.l.take j).map (·.name)))=K c.ties.l.length (Hx (c.ties.l.map (·.name)))
 | 0,j,fuel+1,D,_=>by
  rw[Mi];unfold Yh
  have k:j=c.ties.l.length:=by omega
  rw[iW,Lm (by omega),cf,List.take_of_length_le (by omega),k]
 | m+1,j,fuel+1,D,I=>by
  rw[Mi];unfold Yh
  have h:j<c.ties.l.length:=by omega
  have b3:(Nat.ble (j+1) 140737488355328&&Nat.ble ((j+1)*16) 140737488355328)=true:=by rw[Fj,Fj];simp;omega
  have F:List.take (j*1) (Hx ((c.ties.l.take j).map (·.name)))++[.str c.ties.l[j].name]=Hx ((c.ties.l.take (j+1)).map (·.name)):=by
   rw[List.take_of_length_le (by simp[Ub];omega),List.take_succ_eq_append_getElem h,List.map_append];simp[Hx]
  have G:∀ f:List UInt8→O R,Awd (List.drop (j*5) (List.flatMap TieD.av c.ties.l)) f=f c.ties.l[j].name:=fun f=>by rw[Bl Z8 _ _ h];simp[TieD.av,IG]
  rw[iW,Jy h,ct,iW,Aa h,ct,Int.toNat_natCast,G,b3,ct,F,Fr (by omega),bH C m (j+1) fuel (by omega) (by omega)]
theorem Ak9 {N:Nat} {c:CaseD} {o:Bool} {K:Nat→LA→O R} (hs:Small c N):Hk N c.av o 5 K=K (c.ties.l.map (·.name)).length (Hx (c.ties.l.map (·.name))):=by
 rw[J8];unfold Mk
 have:=bH (R:=R) (N:=N) (c:=c) (o:=o) (K:=K) hs.top.2.2.2.2.1 c.ties.l.length 0 N (by omega) hs.tie.1
 simpa[Hx] using this
theorem bI {N:Nat} {c:CaseD} {o:Bool} {K:Nat→LA→O R} (C:c.outs.l.length≤1000000):∀ (m j fuel:Nat),j+m=c.outs.l.length→m<fuel →
  Mj N K o c.av fuel j (j:Int) (Hx ((c.outs.l.take j).map (·.name)))=K c.outs.l.length (Hx (c.outs.l.map (·.name)))
 | 0,j,fuel+1,D,_=>by
  rw[Mj];unfold Yi
  have k:j=c.outs.l.length:=by omega
  rw[DU,Lm (by omega),cf,List.take_of_length_le (by omega),k]
 | m+1,j,fuel+1,D,I=>by
  rw[Mj];unfold Yi
  have h:j<c.outs.l.length:=by omega
  have b3:(Nat.ble (j+1) 140737488355328&&Nat.ble ((j+1)*16) 140737488355328)=true:=by rw[Fj,Fj];simp;omega
  have F:List.take (j*1) (Hx ((c.outs.l.take j).map (·.name)))++[.str c.outs.l[j].name]=Hx ((c.outs.l.take (j+1)).map (·.name)):=by
   rw[List.take_of_length_le (by simp[Ub];omega),List.take_succ_eq_append_getElem h,List.map_append];simp[Hx]
  have G:∀ f:List UInt8→O R,Awd (List.drop (j*4) (List.flatMap OutD.av c.outs.l)) f=f c.outs.l[j].name:=fun f=>by rw[Bl Pr _ _ h];simp[OutD.av,IG]
  rw[DU,Jy h,ct,DU,Aa h,ct,Int.toNat_natCast,G,b3,ct,F,Fr (by omega),bI C m (j+1) fuel (by omega) (by omega)]
theorem Ala {N:Nat} {c:CaseD} {o:Bool} {K:Nat→LA→O R} (hs:Small c N):Hk N c.av o 6 K=K (c.outs.l.map (·.name)).length (Hx (c.outs.l.map (·.name))):=by
 rw[J8];unfold Mk
 have:=bI (R:=R) (N:=N) (c:=c) (o:=o) (K:=K) hs.top.2.2.2.2.2 c.outs.l.length 0 N (by omega) hs.out.1
 simpa[Hx] using this
theorem Wn {N:Nat} {L:List (List UInt8)} {k:Int} {n:Nat} {K:LA→O R} (hn:n<L.length) (hs:n<4611686018427387904):∀ (m j fuel:Nat) (p:Kd),j+m=n→m<fuel →
  Ec N K k (n:Int) L.length (Hx L) fuel (j:Int) (Do p)=K (Do (nd p (((L.take n).drop j).all fun x=>!(x==L[n])) (k,n,0) ⟨10,by decide⟩))
 | 0,j,fuel+1,p,C,_=>by
  rw[Ec];unfold Jj
  rw[Lm (by omega),cf,Es (l:=L.take n) (by simp;omega),List.all_nil,WV]
 | m+1,j,fuel+1,p,C,F=>by
  rw[Ec];unfold Jj
  have h:j<L.length:=by omega
  have D:j<(L.take n).length:=by simp;omega
  rw[Jy (by omega),ct,Aa h,ct,Int.toNat_natCast,Nat.zero_add,Nat.mul_one,Ak8 h,Aa hn,ct,Int.toNat_natCast,Nat.zero_add,Nat.mul_one,Ak8 hn,Ah (by decide),Fr (by omega),Wn hn hs m (j+1) fuel _ (by omega) (by omega),Ci D,List.all_cons,A0r]
  have e:(L.take n)[j]=L[j]:=by simp
  rw[e]
theorem Ei {N:Nat} {c:CaseD} {L:List (List UInt8)} {o:Bool} {p:Kd} {k:Int} {n:Nat} {K:LA→O R} (hN:64≤N) (hL:∀ K:Nat→LA→O R,Hk N c.av o k K=K L.length (Hx L)) (hn:n<L.length) (hs:Tk n N) :
  Cr N c.av o k (n:Int) (Do p) K=K (Do (sv (L.take n) k n L[n] p)):=by
 rw[Zk];unfold Oh
 rw[Gc,Pt,ct,hL,Aa hn,ct,Int.toNat_natCast,Nat.zero_add,Nat.mul_one,Ak8 hn,Aod hN,Ah (by decide)]
 have:=Wn (R:=R) (N:=N) (L:=L) (k:=k) (n:=n) (K:=K) hn hs.2 n 0 N (nd p (Av3 L[n]) (k,n,0) ⟨9,by decide⟩) (by omega) hs.1
 simpa[sv] using this
theorem W_ {N fuel:Nat} {c:CaseD} {o:Bool} {p:Kd} {K:LA→O R} (hs:Small c N):Bm N K o c.av (fuel+6) 2 (Do p)=K (Do
  (nd (nd (nd (nd (nd p (decide ((c.lines.l.length:Int)≤64)) (0,0,3) e8) (decide ((c.units.l.length:Int)≤16)) (0,0,4) e8) (decide ((c.stores.l.length:Int)≤8)) (0,0,5) e8) (decide ((c.ties.l.length:Int)≤8)) (0,0,6) e8) (decide ((c.outs.l.length:Int)≤64)) (0,0,7) e8)):=by
 have most:∀ (k:Nat) (n:Int) (K:Int→O R),k<7→([0,32,64,16,8,8,64]:List Int)[k]?=some n→Rr N (k:Int) K=K n:=by
  intro k n K C D
  rw[rT];unfold ut
  rw[Aa C,ct]
  have e:[(.int .i64 (0:Int)),(.int .i64 (32:Int)),(.int .i64 (64:Int)),(.int .i64 (16:Int)),(.int .i64 (8:Int)),(.int .i64 (8:Int)),(.int .i64 (64:Int))]=Av [0,32,64,16,8,8,64]:=rfl
  rw[e,Int.toNat_natCast,Nat.zero_add,Nat.mul_one,QF (by simpa using C)]
  rw[List.getElem?_eq_getElem (by simpa using C)] at D
  simp only[Option.some.injEq] at D
  rw[D]
 have m2:∀ K:Int→O R,Rr N 2 K=K 64:=fun K=>most 2 64 K (by omega) rfl
 have m3:∀ K:Int→O R,Rr N 3 K=K 16:=fun K=>most 3 16 K (by omega) rfl
 have m4:∀ K:Int→O R,Rr N 4 K=K 8:=fun K=>most 4 8 K (by omega) rfl
 have m5:∀ K:Int→O R,Rr N 5 K=K 8:=fun K=>most 5 8 K (by omega) rfl
 have m6:∀ K:Int→O R,Rr N 6 K=K 64:=fun K=>most 6 64 K (by omega) rfl
 have F:IntKind.wrap .i64 (2+1)=3:=rfl
 have w3:IntKind.wrap .i64 (3+1)=4:=rfl
 have G:IntKind.wrap .i64 (4+1)=5:=rfl
 have I:IntKind.wrap .i64 (5+1)=6:=rfl
 have L:IntKind.wrap .i64 (6+1)=7:=rfl
 rw[Bm];unfold Cp
 rw[show decide ((2:Int)≤6)=true from rfl,ct,Pt,ct,Gc,z9 hs,m2,Ah (by decide),F]
 rw[Bm];unfold Cp
 rw[show decide ((3:Int)≤6)=true from rfl,ct,Pt,ct,Gc,z_ hs,m3,Ah (by decide),w3]
 rw[Bm];unfold Cp
 rw[show decide ((4:Int)≤6)=true from rfl,ct,Pt,ct,Gc,sw hs,m4,Ah (by decide),G]
 rw[Bm];unfold Cp
 rw[show decide ((5:Int)≤6)=true from rfl,ct,Pt,ct,Gc,Ak9 hs,m5,Ah (by decide),I]
 rw[Bm];unfold Cp
 rw[show decide ((6:Int)≤6)=true from rfl,ct,Pt,ct,Gc,Ala hs,m6,Ah (by decide),L]
 rw[Bm];unfold Cp
 rw[show decide ((7:Int)≤6)=false from rfl,cf]
 simp only[List.length_map]
theorem XA {N:Nat} {c:CaseD} {o:Bool} {p:Kd} {K:LA→O R} (hs:Small c N):Gr N c.av o (Do p) K=K (Do (A4p c p)):=by
 have hN:=hs.n64
 rw[We];unfold Ml
 have:=fun p=>W_ (fuel:=N - 6) (o:=o) (p:=p) (K:=K) hs
 rw[show N - 6+6=N by omega] at this
 simp only[SQ,Er (show 8≤N by omega),Ah (show(3:Int)≠0 by decide),Ah (show(8:Int)≠0 by decide),Pt,ct,Gc,A4n,Vz,Ex rfl hs.res,this]
 rfl
end
end Gx.Cf

namespace Gx.Cf
open Go Go.Proofs
section
variable {R:Type}
theorem NX {p:Kd} {f:Int→O R}:An .i64 (List.drop 3 (Do p)) f=f (Is p):=by
 rcases p with _ | ⟨⟨a,b,k⟩,e,C⟩<;>simp[Do,Bb0,A4,Is]
theorem N5 {N:Nat} {i:Int} {u:UnitD} {o:Bool} {p:Kd} {K:LA→O R} (hs:u.segs.l.length<4611686018427387904):∀ (m j fuel:Nat) (a:Int),j+m=u.segs.l.length→m<fuel →
  Dh N K i (Do p) o u.av fuel a (j:Int)=K (Do (nd p (WY a (u.segs.l.drop j)==IntKind.wrap .i64 (u.max - u.min)) (3,i,4) e4))
 | 0,j,fuel+1,a,C,_=>by
  rw[Dh];unfold F9
  simp only[vV,Beo,Bep,NX,Ah (show(4:Int)≠0 by decide)]
  rw[Lm (by omega),Es (l:=u.segs.l) (by omega),WY,WV]
  rcases p with _ | ⟨x,e,k⟩
  ·simp[Is]
  ·have:(e != 0)=true:=by simpa using k
   simp[Is,this,nd]
 | m+1,j,fuel+1,a,C,G=>by
  rw[Dh];unfold F9
  have h:j<u.segs.l.length:=by omega
  simp only[vV,Beo,Bep,NX,Ah (show(4:Int)≠0 by decide),A9q h,Aa h]
  rw[Jy h,Fr (by omega),N5 hs m (j+1) fuel _ (by omega) (by omega),Ci h,WY,WV]
  rcases p with _ | ⟨x,e,k⟩
  ·simp[Is]
  ·have D:(e != 0)=true:=by simpa using k
   have F:(e==0)=false:=by simpa using k
   simp[Is,D,F,nd]
theorem Wo {N:Nat} {i:Int} {u:UnitD} {o:Bool} {K:LA→O R} (hs:Tk u.segs.l.length N):∀ (m j fuel:Nat) (p:Kd),j+1+m=u.segs.l.length→m<fuel →
  Cs N K i o u.av fuel ((j+1:Nat):Int) (Do p)=K (Do (nd (nd p (gR (u.segs.l.drop j)) (3,i,4) Bfs) (WY 0 u.segs.l==IntKind.wrap .i64 (u.max - u.min)) (3,i,4) e4))
 | 0,j,fuel+1,p,k,_=>by
  rw[Cs];unfold Em
  rw[vV,Lm (by omega),cf,Ci (l:=u.segs.l) (j:=j) (by omega),Es (l:=u.segs.l) (j:=j+1) (by omega),Ak7,WV]
  have:=N5 (R:=R) (N:=N) (i:=i) (u:=u) (o:=o) (p:=p) (K:=K) hs.2 u.segs.l.length 0 N 0 (by omega) hs.1
  simpa using this
 | m+1,j,fuel+1,p,k,D=>by
  rw[Cs];unfold Em
  have h:j+1<u.segs.l.length:=by omega
  have h':j<u.segs.l.length:=by omega
  have C:=hs.2
  simp only[vV]
  rw[Jy h,ct,Aa h,ct,Arm h,Ak4 (by omega),Aa h',ct,Arm h',Fr (by omega),Ah (by decide),Wo hs m (j+1) fuel _ (by omega) (by omega),Ci h',Ci h,WZ,A0r]
theorem Wp {N:Nat} {i:Int} {u:UnitD} {o:Bool} {K:LA→O R} (hN:8≤N) (hs:Tk u.segs.l.length N):∀ (m j fuel:Nat) (p:Kd),j+m=u.segs.l.length→m<fuel →
  Ct N K i (u.segs.l.flatMap SegD.av) u.segs.l.length o u.av fuel (u.segs.l.length:Int) (j:Int) (Do p) =
   K (Do (nd (nd (nd p ((u.segs.l.drop j).all Gq) (3,i,4) e3) (gR u.segs.l) (3,i,4) Bfs) (WY 0 u.segs.l==IntKind.wrap .i64 (u.max - u.min)) (3,i,4) e4))
 | 0,j,fuel+1,p,C,_=>by
  rw[Ct];unfold Ga
  rw[Lm (by omega),cf,Es (l:=u.segs.l) (by omega),List.all_nil,WV]
  rcases k:u.segs.l with _ | ⟨b,r⟩
  ·rw[A0s,WV]
   have l2:=N5 (R:=R) (N:=N) (i:=i) (u:=u) (o:=o) (p:=p) (K:=K) hs.2 u.segs.l.length 0 N 0 (by omega) hs.1
   rcases N with _ | N
   ·omega
   ·dsimp only
    rw[Cs];unfold Em
    rw[vV,k]
    simp only[List.length_nil,Int.natCast_zero]
    rw[show decide ((1:Int)<0)=false by decide,cf]
    rw[k] at l2
    simpa using l2
  ·have:=Wo (R:=R) (N:=N) (i:=i) (u:=u) (o:=o) (K:=K) hs r.length 0 N p (by rw[k];simp;omega) (by have:=hs.1;rw[k] at this;simp at this;omega)
   rw[k] at this
   simpa using this
 | m+1,j,fuel+1,p,C,I=>by
  rw[Ct];unfold Ga
  have h:j<u.segs.l.length:=by omega
  have D:=hs.2
  rw[Jy h,ct,Aa h,ct,Int.toNat_natCast,Bl II _ _ h,Ci h,List.all_cons,Fr (by omega)]
  have F:Nat.ble 2 (List.length (u.segs.l[j].av++List.flatMap SegD.av (List.drop (j+1) u.segs.l)))=true:=by rw[Fj,List.length_append,II];simp
  have G:List.take 2 (u.segs.l[j].av++List.flatMap SegD.av (List.drop (j+1) u.segs.l))=u.segs.l[j].av:=List.take_left' (II _)
  rw[F,ct,G,II]
  simp only[SegD.av,setCells,C0,List.nil_append,List.append_nil,List.drop_nil,List.drop_succ_cons,List.drop_zero,List.take_zero,List.length_cons,List.length_nil,A4,Fj,Av0,Ba,Nat.reduceAdd,decide_true,Bool.and_true,Bool.or_true,Bool.not_false,cond_true,Nat.zero_add,Nat.le_refl,Er hN,Ah (show(3:Int)≠0 by decide),Wp hN hs m (j+1) fuel _ (show j+1+m=_ by omega) (show m<fuel by omega)]
  unfold Gq
  rw[A0r,A0r]
  cases Fs 1 1048576 u.segs.l[j].width<;>rfl
theorem IP {N:Nat} {p:Kd} {j:Nat} {u:UnitD} {o:Bool} {K:LA→O R} (hN:8≤N) (hs:Tk u.segs.l.length N) :
  Dx N u.av o (j:Int) (Do p) K=K (Do (Bb1 u j p)):=by
 rw[Rt];unfold Im
 simp only[vV,Ah (show(8:Int)≠0 by decide)]
 have:=Wp (R:=R) (N:=N) (i:=j) (u:=u) (o:=o) (K:=K) hN hs u.segs.l.length 0 N (nd p (decide ((u.segs.l.length:Int)≤8)) (3,j,4) e8) (by omega) hs.1
 simpa[Bb1] using this
theorem Z9 {N:Nat} {i:Int} {l:List MoveD} {o:Bool} {K:LA→O R} (hN:8≤N) (hs:l.length<4611686018427387904):∀ (m j fuel:Nat) (p:Kd),j+m=l.length→m<fuel →
  Eg N K i (l.flatMap MoveD.av) l.length o fuel (l.length:Int) (j:Int) (Do p)=K (Do (nd p ((l.drop j).all A9r) (6,i,3) e3))
 | 0,j,fuel+1,p,k,_=>by
  rw[Eg];unfold Hb
  rw[Lm (by omega),cf,Es (by omega),List.all_nil,WV]
 | m+1,j,fuel+1,p,k,F=>by
  rw[Eg];unfold Hb
  have h:j<l.length:=by omega
  rw[Jy h,ct,Aa h,ct,Int.toNat_natCast,Bl Qw _ _ h,Ci h,List.all_cons,Fr (by omega)]
  have C:Nat.ble 3 (List.length (l[j].av++List.flatMap MoveD.av (List.drop (j+1) l)))=true:=by rw[Fj,List.length_append,Qw];simp
  have D:List.take 3 (l[j].av++List.flatMap MoveD.av (List.drop (j+1) l))=l[j].av:=List.take_left' (Qw _)
  rw[C,ct,D,Qw]
  simp only[MoveD.av,setCells,C0,List.nil_append,List.append_nil,List.drop_nil,List.drop_succ_cons,List.drop_zero,List.take_zero,List.length_cons,List.length_nil,A4,Fj,Av0,Ba,Nat.reduceAdd,decide_true,Bool.and_true,Bool.or_true,Bool.not_false,cond_true,Nat.zero_add,Nat.le_refl,Aby hN,Ah (show(3:Int)≠0 by decide),Z9 hN hs m (j+1) fuel _ (show j+1+m=_ by omega) (show m<fuel by omega)]
  rw[A0r];rfl
theorem AA {N:Nat} {c:CaseD} {i:Int} {u:OutD} {o:Bool} {p:Kd} {K:LA→O R} (hN:8≤N) (k:c.units.l.length≤1000000) (hs:Tk u.moves.l.length N) (C:u.moves.l.length<8796093022208):∀ (m j fuel:Nat),j+m=u.moves.l.length→m<fuel →
  Eh N K i (u.moves.l.flatMap MoveD.av) u.moves.l.length o (Do p) c.av u.av fuel j (u.moves.l.length:Int) (j:Int) (Av ((u.moves.l.take j).map (·.unit))) =
   K (Do (nd (nd (nd p (u.moves.l.all (Bdp c)) (6,i,3) A9p) (Alm (u.moves.l.map (·.unit))) (6,i,3) Bfs) (u.moves.l.all A9r) (6,i,3) e3))
 | 0,j,fuel+1,D,_=>by
  rw[Eh];unfold Hc
  have F:j=u.moves.l.length:=by omega
  rw[Lm (by omega),cf,Nat.mul_one,List.take_of_length_le (by simp[Ew];omega),List.take_of_length_le (show u.moves.l.length≤j by omega)]
  rw[IH,Hv (by simp;omega) (by simpa using hs),Ah (by decide),AP (by simp;omega) (by simpa using hs),Ah (by decide),A6c]
  have:=Z9 (R:=R) (N:=N) (i:=i) (l:=u.moves.l) (o:=o) (K:=K) hN hs.2 u.moves.l.length 0 N (nd (nd p (u.moves.l.all (Bdp c)) (6,i,3) A9p) (Alm (u.moves.l.map (·.unit))) (6,i,3) Bfs) (by omega) hs.1
  have e:(u.moves.l.map (·.unit)).all (Fs 0 (IntKind.wrap .i64 ((c.units.l.length:Int) - 1)))=u.moves.l.all (Bdp c):=by
   rw[List.all_map];congr 1;funext m;exact A4o _ _ (by omega)
  rw[e]
  simpa using this
 | m+1,j,fuel+1,D,M=>by
  rw[Eh];unfold Hc
  have h:j<u.moves.l.length:=by omega
  have G:Nat.ble 3 (List.length (u.moves.l[j].av++List.flatMap MoveD.av (List.drop (j+1) u.moves.l)))=true:=by rw[Fj,List.length_append,Qw];simp
  have I:List.take 3 (u.moves.l[j].av++List.flatMap MoveD.av (List.drop (j+1) u.moves.l))=u.moves.l[j].av:=List.take_left' (Qw _)
  have b3:(decide (j≤140737488355327)&&decide ((j+1)*8≤140737488355328))=true:=by simp;omega
  have L:List.take (j*1) (Av ((u.moves.l.take j).map (·.unit)))++[.int .i64 u.moves.l[j].unit]=Av ((u.moves.l.take (j+1)).map (·.unit)):=by
   rw[List.take_of_length_le (by simp[Ew];omega),List.take_succ_eq_append_getElem h,List.map_append,←z7];rfl
  rw[Jy h,ct,Aa h,ct,Int.toNat_natCast,Bl Qw _ _ h,Fr (by omega),G,ct,I,Qw]
  simp only[MoveD.av,setCells,C0,List.nil_append,List.append_nil,List.drop_nil,List.drop_succ_cons,List.take_zero,List.length_cons,List.length_nil,A4,Fj,Av0,Ba,Nat.reduceAdd,Nat.reduceLeDiff,decide_true,Bool.and_true,Bool.or_true,Bool.not_false,cond_true,Nat.zero_add,Nat.le_refl,b3,L,AA hN k hs C m (j+1) fuel (show j+1+m=_ by omega) (show m<fuel by omega)]
theorem gS {N:Nat} {c:CaseD} {p:Kd} {o:Bool} {j:Nat} {K:LA→O R} (hs:Small c N) (h:j<c.ties.l.length) :
  Ni N c.av o (j:Int) (Do p) K=K (Do (Bdo c j c.ties.l[j] p)):=by
 have hN:=hs.n64
 have hN8:8≤N:=by omega
 have C:=hs.tie
 have M:=hs.top
 have F:c.ties.l[j] ∈ c.ties.l:=List.getElem_mem h
 have S:=hs.tim _ F;have G:=hs.tex _ F;have I:=hs.tpr _ F
 have D:=@Ei R N c (c.ties.l.map (·.name)) o (k:=5) (n:=j) (hN:=hN) (hL:=fun K=>Ak9 hs) (hn:=by simpa using h) (hs:=⟨by have:=C.1;omega,by have:=C.2;omega⟩)
 have L:(c.ties.l.map (·.name))[j]'(by simpa using h)=c.ties.l[j].name:=by simp
 rw[L] at D
 rw[CE];unfold Xl 
 rw[iW,Aa h,ct,Int.toNat_natCast,Bl Z8 _ _ h]
 generalize c.ties.l[j]=b at *
 have T:Nat.ble 5 (List.length (b.av++List.flatMap TieD.av (List.drop (j+1) c.ties.l)))=true:=by rw[Fj,List.length_append,Z8];simp
 have U:List.take 5 (b.av++List.flatMap TieD.av (List.drop (j+1) c.ties.l))=b.av:=List.take_left' (Z8 b)
 rw[T,ct,U,Z8]
 simp only[Gc,D,TieD.av,List.drop_succ_cons,List.drop_zero,A4,H8,Fz,Fj,Av0,decide_true,Bool.and_true,cond_true]
 simp only[Js hN8 (show c.buses.l.length<4611686018427387904 by omega),Ex rfl S,Ex rfl G,Ex rfl I]
 rfl
theorem XB {N:Nat} {c:CaseD} {p:Kd} {o:Bool} {j:Nat} {K:LA→O R} (hs:Small c N) (h:j<c.stores.l.length) :
  Jl N c.av o (j:Int) (Do p) K=K (Do (Ak6 c j c.stores.l[j] p)):=by
 have hN:=hs.n64
 have hN8:8≤N:=by omega
 have C:=hs.sto
 have G:=hs.top
 have M:c.stores.l[j] ∈ c.stores.l:=List.getElem_mem h
 skip
 have D:=@Ei R N c (c.stores.l.map (·.name)) o (k:=4) (n:=j) (hN:=hN) (hL:=fun K=>sw hs) (hn:=by simpa using h) (hs:=⟨by have:=C.1;omega,by have:=C.2;omega⟩)
 have F:(c.stores.l.map (·.name))[j]'(by simpa using h)=c.stores.l[j].name:=by simp
 rw[F] at D
 rw[Wg];unfold Tf 
 rw[EP,Aa h,ct,Int.toNat_natCast,Bl Pq _ _ h]
 generalize c.stores.l[j]=b at *
 have I:Nat.ble 9 (List.length (b.av++List.flatMap StoreD.av (List.drop (j+1) c.stores.l)))=true:=by rw[Fj,List.length_append,Pq];simp
 have L:List.take 9 (b.av++List.flatMap StoreD.av (List.drop (j+1) c.stores.l))=b.av:=List.take_left' (Pq b)
 rw[I,ct,L,Pq]
 simp only[Gc,D,StoreD.av,List.drop_succ_cons,List.drop_zero,List.take_succ_cons,List.take_zero,List.length_cons,List.length_nil,A4,Fj,Av0,Ba,Nat.reduceAdd,decide_true,Bool.and_true,Bool.or_true,cond_true,Nat.zero_add,Nat.le_refl]
 simp only[Js hN8 (show c.buses.l.length<4611686018427387904 by omega),Er hN8,Ah (show(3:Int)≠0 by decide),MS hN8]
 unfold Ak6;cases Tl b.eff<;>cases decide (b.eff.num>0)<;>rfl
theorem bX {N:Nat} {c:CaseD} {p:Kd} {o:Bool} {j:Nat} {K:LA→O R} (hs:Small c N) (h:j<c.lines.l.length) :
  Hm N c.av o (j:Int) (Do p) K=K (Do (Arl c j c.lines.l[j] p)):=by
 have hN:=hs.n64
 have hN8:8≤N:=by omega
 have C:=hs.lin
 have G:=hs.top
 have I:c.lines.l[j] ∈ c.lines.l:=List.getElem_mem h
 have L:=hs.law _ I
 have D:=@Ei R N c (c.lines.l.map (·.name)) o (k:=2) (n:=j) (hN:=hN) (hL:=fun K=>z9 hs) (hn:=by simpa using h) (hs:=⟨by have:=C.1;omega,by have:=C.2;omega⟩)
 have F:(c.lines.l.map (·.name))[j]'(by simpa using h)=c.lines.l[j].name:=by simp
 rw[F] at D
 rw[Zo];unfold Oi Km Pg Q6 Pf Q5
 rw[R4,Aa h,ct,Int.toNat_natCast,Bl Hw _ _ h]
 generalize c.lines.l[j]=b at *
 have M:Nat.ble 12 (List.length (b.av++List.flatMap LineD.av (List.drop (j+1) c.lines.l)))=true:=by rw[Fj,List.length_append,Hw];simp
 have S:List.take 12 (b.av++List.flatMap LineD.av (List.drop (j+1) c.lines.l))=b.av:=List.take_left' (Hw b)
 rw[M,ct,S,Hw]
 simp only[Gc,D,LineD.av,List.drop_succ_cons,List.drop_zero,List.take_succ_cons,List.take_zero,List.length_cons,List.length_nil,A4,H8,Fz,Fj,Av0,Ba,Nat.reduceAdd,Nat.reduceLeDiff,decide_true,Bool.and_true,Bool.or_true,cond_true,Nat.zero_add]
 simp only[Js hN8 (show c.buses.l.length<4611686018427387904 by omega),Er hN8,Ah (show(1:Int)≠0 by decide),Ah (show(3:Int)≠0 by decide),MS hN8,Wm rfl L]
 unfold Arl;rw[show(b.fr != b.to)=(b.to != b.fr) by simp[bne,BEq.comm (a:=b.fr)]];cases Tl b.re<;>cases Tl b.smin<;>cases Tl b.smax<;>rfl
end
end Gx.Cf

namespace Gx.Cf
open Go Go.Proofs
section
variable {R:Type}
def A6d (c:CaseD) (j:Nat) (u:UnitD) (p:Kd):Kd :=
 let p:=sv ((c.units.l.map (·.name)).take j) 3 j u.name p
 let p:=nd p (z8 c u.bus) (3,j,1) A9p
 let p:=nd p (Fs 0 1048576 u.min) (3,j,2) e3
 let p:=nd p (Fs u.min 1048576 u.max) (3,j,3) e3
 let p:=Bb1 u j p
 let p:=nd p (Fs 0 1048576 u.noLoad) (3,j,5) e3
 let p:=nd p (Fs 0 1048576 u.rampUp) (3,j,6) e3
 let p:=nd p (Fs 0 1048576 u.rampDown) (3,j,7) e3
 let p:=nd p (Fs u.min u.max u.startRamp) (3,j,8) e3
 let p:=nd p (Fs u.min u.max u.stopRamp) (3,j,9) e3
 let p:=nd p (Fs 0 24 u.upTime) (3,j,10) e3
 nd p (Fs 0 24 u.downTime) (3,j,11) e3
def Bb2 (c:CaseD) (j:Nat) (u:UnitD) (p:Kd):Kd :=
 let p:=nd p (Fs 0 24 u.startTime) (3,j,12) e3
 let p:=nd p (Fs 0 1048576 u.hotCost) (3,j,13) e3
 let p:=nd p (Fs 0 1048576 u.coldCost) (3,j,14) e3
 let p:=nd p (Fs 0 24 u.hotHours) (3,j,15) e3
 let p:=nd p (Fs 0 1048576 u.reserve) (3,j,16) e3
 let p:=nd p (Fs 0 1048576 u.reservePrice) (3,j,17) e3
 let p:=Ak5 c.hours u.away.l (3,j,18) p
 let p:=nd p (Fs 0 2 u.state) (3,j,19) A9p
 let p:=nd p (u.state != 1||decide (u.startTime>0)) (3,j,19) Bg9
 let p:=nd p (Fs 1 48 u.hours) (3,j,20) e3
 let p:=nd p (u.state != 1||decide (u.hours≤u.startTime)) (3,j,20) e3
 cond (u.state==2) (nd p (Fs u.min u.max u.output) (3,j,21) e3) (nd p (u.output==0) (3,j,21) e3)
theorem Bgy (n:Int):Fs 0 0 n=(n==0):=by
 unfold Fs
 by_cases h:n=0
 ·simp[h]
 ·have:(n==0)=false:=by simpa using h
  rw[this];simp;omega
theorem Bdr {c:CaseD} {j:Nat} {u:UnitD} {p:Kd}:Bb2 c j u (A6d c j u p)=A0t c j u p:=by
 show _=(let p:=nd (A6d c j u p) (Fs 0 24 u.startTime) (3,j,12) e3
  let p:=nd p (Fs 0 1048576 u.hotCost) (3,j,13) e3
  let p:=nd p (Fs 0 1048576 u.coldCost) (3,j,14) e3
  let p:=nd p (Fs 0 24 u.hotHours) (3,j,15) e3
  let p:=nd p (Fs 0 1048576 u.reserve) (3,j,16) e3
  let p:=nd p (Fs 0 1048576 u.reservePrice) (3,j,17) e3
  let p:=Ak5 c.hours u.away.l (3,j,18) p
  let p:=nd p (Fs 0 2 u.state) (3,j,19) A9p
  let p:=nd p (u.state != 1||u.startTime != 0) (3,j,19) Bg9
  let p:=nd p (Fs 1 48 u.hours) (3,j,20) e3
  let p:=nd p (u.state != 1||decide (u.hours≤u.startTime)) (3,j,20) e3
  cond (u.state==2) (nd p (Fs u.min u.max u.output) (3,j,21) e3) (nd p (Fs 0 0 u.output) (3,j,21) e3))
 unfold Bb2
 rw[Bgy]
 cases hq:nd (A6d c j u p) (Fs 0 24 u.startTime) (3,(j:Int),12) e3 with
 | some x=>simp only[Bdm,Ak5]
 | none =>
  have k:Fs 0 24 u.startTime=true:=by
   cases C:Fs 0 24 u.startTime with
   | true=>rfl
   | false =>
    rw[C] at hq
    cases D:A6d c j u p<;>rw[D] at hq<;>simp[nd] at hq
  have:decide (u.startTime>0)=(u.startTime != 0):=by
   unfold Fs at k
   simp at k
   by_cases h:u.startTime=0
   ·simp[h]
   ·have F:(u.startTime != 0)=true:=by simpa using h
    rw[F];simp;omega
  rw[this]
theorem bY {N:Nat} {c:CaseD} {p:Kd} {o:Bool} {j:Nat} {K:LA→O R} (hs:Small c N) (h:j<c.units.l.length) :
  Hn N c.av o (j:Int) (Do p) K=K (Do (A0t c j c.units.l[j] p)):=by
 have hN:=hs.n64
 have hN8:8≤N:=by omega
 have C:=hs.uni
 have L:=hs.top
 have M:c.units.l[j] ∈ c.units.l:=List.getElem_mem h
 have S:=hs.seg _ M;have F:=hs.uaw _ M
 have D:=@Ei R N c (c.units.l.map (·.name)) o (k:=3) (n:=j) (hN:=hN) (hL:=fun K=>z_ hs) (hn:=by simpa using h) (hs:=⟨by have:=C.1;omega,by have:=C.2;omega⟩)
 have G:(c.units.l.map (·.name))[j]'(by simpa using h)=c.units.l[j].name:=by simp
 rw[G] at D
 rw[Zq];unfold Oj Kn Pk Ra
 rw[IH,Aa h,ct,Int.toNat_natCast,Bl Qv _ _ h]
 generalize c.units.l[j]=b at *
 have T:Nat.ble 22 (List.length (b.av++List.flatMap UnitD.av (List.drop (j+1) c.units.l)))=true:=by rw[Fj,List.length_append,Qv];simp
 have U:List.take 22 (b.av++List.flatMap UnitD.av (List.drop (j+1) c.units.l))=b.av:=List.take_left' (Qv b)
 rw[T,ct,U,Qv]
 have I:∀ (p:Kd) (K:LA→O R),Dx N [.str b.name,.int .i64 b.bus,.int .i64 b.min,.int .i64 b.max,b.segs.av 2 SegD.av,.int .i64 b.noLoad,.int .i64 b.rampUp,.int .i64 b.rampDown,.int .i64 b.startRamp,.int .i64 b.stopRamp,.int .i64 b.upTime,.int .i64 b.downTime,.int .i64 b.startTime,.int .i64 b.hotCost,.int .i64 b.coldCost,.int .i64 b.hotHours,.int .i64 b.reserve,.int .i64 b.reservePrice,b.away.av 1 HC,.int .i64 b.state,.int .i64 b.hours,.int .i64 b.output] o j (Do p) K=K (Do (Bb1 b j p)):=fun p K=>IP hN8 S
 simp only[Gc,D,UnitD.av,List.drop_succ_cons,List.drop_zero,List.take_succ_cons,List.take_zero,A4,H8,Fz,Fj,Av0,decide_true,Bool.and_true,cond_true,cond_false,Nat.le_refl]
 simp only[Js hN8 (show c.buses.l.length<4611686018427387904 by omega),Er hN8,Ah (show(3:Int)≠0 by decide),Ah (show(12:Int)≠0 by decide),Ah (show(16:Int)≠0 by decide),I,Wm rfl F]
 rw[←Bdr]
 unfold Bb2
 by_cases s1:b.state=1
 ·simp[s1];rfl
 ·have a4:(b.state != 1)=true:=by simpa using s1
  rw[a4]
  cases b.state==2<;>rfl
theorem SW {N:Nat} {c:CaseD} {p:Kd} {o:Bool} {j:Nat} {K:LA→O R} (hs:Small c N) (h:j<c.outs.l.length) :
  F1 N c.av o (j:Int) (Do p) K=K (Do (A9s c j c.outs.l[j] p)):=by
 have hN:=hs.n64
 have hN8:8≤N:=by omega
 have C:=hs.out
 have D:=hs.top
 have I:c.outs.l[j] ∈ c.outs.l:=List.getElem_mem h
 have S:=hs.oli _ I;have F:=hs.omo _ I;have L:=hs.omb _ I
 have G:=@Ei R N c (c.outs.l.map (·.name)) o (k:=6) (n:=j) (hN:=hN) (hL:=fun K=>Ala hs) (hn:=by simpa using h) (hs:=⟨by have:=C.1;omega,by have:=C.2;omega⟩)
 have M:(c.outs.l.map (·.name))[j]'(by simpa using h)=c.outs.l[j].name:=by simp
 rw[M] at G
 rw[Vg];unfold Ko In Mo
 rw[DU,Aa h,ct,Int.toNat_natCast,Bl Pr _ _ h]
 generalize c.outs.l[j]=b at *
 have T:Nat.ble 4 (List.length (b.av++List.flatMap OutD.av (List.drop (j+1) c.outs.l)))=true:=by rw[Fj,List.length_append,Pr];simp
 have U:List.take 4 (b.av++List.flatMap OutD.av (List.drop (j+1) c.outs.l))=b.av:=List.take_left' (Pr b)
 rw[T,ct,U,Pr]
 have l1:=fun p=>AA (R:=R) (N:=N) (c:=c) (i:=j) (u:=b) (o:=o) (p:=p) (K:=K) hN8 D.2.2.1 F L b.moves.l.length 0 N (by omega) F.1
 simp only[List.take_zero,List.map_nil,Int.natCast_zero,Av] at l1
 simp only[Av0,decide_true,Bool.and_true,cond_true,Pt,Gc,G,Bdq,A6c,Bft,Er hN8,Hv rfl S,AP rfl S,R4,Ah (show(4:Int)≠0 by decide),Ah (show(8:Int)≠0 by decide),Ah (show(11:Int)≠0 by decide),Ah (show(12:Int)≠0 by decide),Ah (show(16:Int)≠0 by decide),l1]
 have a1:Fs 1 2 (b.lines.l.length:Int)=((b.lines.l.length:Int)==1||(b.lines.l.length:Int)==2):=by
  unfold Fs
  by_cases x1:b.lines.l.length=1
  ·simp[x1]
  ·by_cases x2:b.lines.l.length=2
   ·simp[x2]
   ·have y1:((b.lines.l.length:Int)==1)=false:=by simp;omega
    have y2:((b.lines.l.length:Int)==2)=false:=by simp;omega
    rw[y1,y2];simp;omega
 have a2:b.lines.l.all (Fs 0 (IntKind.wrap .i64 ((c.lines.l.length:Int) - 1)))=b.lines.l.all fun n=>decide (0≤n)&&decide (n<(c.lines.l.length:Int)):=by
  congr 1;funext n;exact A4o _ _ (by omega)
 rw[a1,a2]
 unfold A9s A4q
 cases b.corr
 ·simp
 ·simp
end
end Gx.Cf

namespace Gx.Cf
inductive Conn (es:List (Nat×Nat)):Nat→Nat→Prop
 | refl (a:Nat):Conn es a a
 | fwd {u v b:Nat}:(u,v) ∈ es→Conn es v b→Conn es u b
 | bwd {u v b:Nat}:(u,v) ∈ es→Conn es u b→Conn es v b
theorem Conn.trans {es:List (Nat×Nat)} {a b c:Nat} (F:Conn es a b) (k:Conn es b c):Conn es a c:=by
 induction F with
 | refl=>exact k
 | fwd C _ D=>exact .fwd C (D k)
 | bwd C _ D=>exact .bwd C (D k)
theorem Conn.symm {es:List (Nat×Nat)} {a b:Nat} (h:Conn es a b):Conn es b a:=by
 induction h with
 | refl=>exact .refl _
 | fwd k _ C=>exact C.trans (.bwd k (.refl _))
 | bwd k _ C=>exact C.trans (.fwd k (.refl _))
theorem Conn.mono {es fs:List (Nat×Nat)} (hs:∀ e ∈ es,e ∈ fs) {a b:Nat} (h:Conn es a b):Conn fs a b:=by
 induction h with
 | refl=>exact .refl _
 | fwd k _ C=>exact .fwd (hs _ k) C
 | bwd k _ C=>exact .bwd (hs _ k) C
def za (es:List (Nat×Nat)) (b:Nat):Prop:=∀ a,a<b→¬ Conn es a b
open Classical in
noncomputable def AB (n:Nat) (es:List (Nat×Nat)):Nat:=((List.range n).filter fun b=>decide (za es b)).length
theorem A4r {n:Nat} {es fs:List (Nat×Nat)} (h:∀ e ∈ es,e ∈ fs):AB n fs≤AB n es:=by
 unfold AB
 have:∀ (l:List Nat),(l.filter fun b=>@decide (za fs b) (Classical.propDecidable _)).length≤(l.filter fun b=>@decide (za es b) (Classical.propDecidable _)).length:=by
  intro l
  induction l with
  | nil=>simp
  | cons a r k =>
   rw[List.filter_cons,List.filter_cons]
   by_cases x:za fs a
   ·have:za es a:=fun b C D=>x b C (D.mono h)
    simp[x,this,k]
   ·by_cases y:za es a<;>simp[x,y]<;>omega
 exact this _
def R5 (n:Nat):List Int:=(List.range n).map fun b:Nat=>(b:Int)
theorem Arn {n a:Nat} (h:a<n):(R5 n).getD a 0=(a:Int):=by
 rw[List.getD_eq_getElem?_getD,R5,List.getElem?_map,List.getElem?_range h];rfl
structure LeastOk (n:Nat) (es:List (Nat×Nat)) (L:List Int):Prop where
 len:L.length=n
 low:∀ b,b<n→0≤L.getD b 0∧L.getD b 0≤b
 con:∀ b,b<n→Conn es (L.getD b 0).toNat b
def A6e (es:List (Nat×Nat)) (L:List Int):Prop:=∀ e ∈ es,L.getD e.1 0=L.getD e.2 0
def Bds (L:List Int):Nat:=((List.range L.length).filter fun b=>L.getD b 0==(b:Int)).length
theorem zb {n:Nat} {es:List (Nat×Nat)} {L:List Int} (h:LeastOk n es L) (G:A6e es L) (I:∀ e ∈ es,e.1<n∧e.2<n):Bds L=AB n es:=by
 unfold Bds AB
 rw[h.len]
 congr 1
 apply List.filter_congr
 intro b C
 have C:b<n:=by simpa using C
 have conn_eq:∀ a b,Conn es a b→L.getD a 0=L.getD b 0:=by
  intro a b D
  induction D with
  | refl=>rfl
  | fwd k _ F=>exact(G _ k).trans F
  | bwd k _ F=>exact(G _ k).symm.trans F
 have M:=h.low b C
 by_cases x:L.getD b 0=(b:Int)
 ·have:za es b:=fun a S D=>by
   have e:=conn_eq a b D
   have:=(h.low a (by omega)).2
   omega
  have x':(L.getD b 0==(b:Int))=true:=by simpa using x
  rw[x'];simp[this]
 ·have x':(L.getD b 0==(b:Int))=false:=by simpa using x
  have:¬ za es b:=fun k=>k (L.getD b 0).toNat (by omega) (h.con b C)
  rw[x'];simp[this]
end Gx.Cf

namespace Gx.Cf
open Go Go.Proofs
section
variable {R:Type}
theorem XC {l:List Int} {j:Nat} (h:j<l.length):l.getD j 0=l[j]:=by rw[List.getD_eq_getElem?_getD,List.getElem?_eq_getElem h];rfl
theorem Aro {x:Int} {n:Nat} (k:0≤x) (C:x.toNat<n):Ac x n=true:=by simp[Ac];omega
theorem Bb3 {l:List Int} {x:Int} (h:x.toNat<l.length) {f:Int→O R}:An .i64 (List.drop (0+((Int.toNat x)*1)) (Av l)) f=f (l.getD x.toNat 0):=by
 rw[Nat.zero_add,Nat.mul_one,QF h,XC h]
theorem sx (l:List Int) (j:Nat) (v:Int):List.set (Av l) j (.int .i64 v)=Av (l.set j v):=by simp[Av,List.map_set]
theorem Av4 {l:List Int} {x:Nat} (h:x<l.length):((Nat.beq 1 1)&&((Nat.ble ((0+(x*1))+1) (List.length (Av l)))&&(!false)))=true:=by
 rw[Av0,Fj,Ew];simp;omega
def Iz (c:CaseD) (l:Int):Nat×Nat:=match c.lines.l[l.toNat]? with
 | some x=>(x.fr.toNat,x.to.toNat)
 | none=>(0,0)
structure LnV (c:CaseD) (l:Int) (x:LineD):Prop where
 l0:0≤l
 lt:l.toNat<c.lines.l.length
 at':c.lines.l[l.toNat]?=some x
 f0:0≤x.fr
 f1:x.fr.toNat<c.buses.l.length
 t0:0≤x.to
 t1:x.to.toNat<c.buses.l.length
theorem A6f {c:CaseD} {l:Int} {x:LineD} (h:LnV c l x):Iz c l=(x.fr.toNat,x.to.toNat):=by unfold Iz;rw[h.at']
theorem Bgz {c:CaseD} {l:Int} {x:LineD} (h:LnV c l x) {f:Int→O R}:An .i64 (List.drop 1 (List.drop ((Int.toNat l)*12) (c.lines.l.flatMap LineD.av))) f=f x.fr:=by
 have e:c.lines.l[l.toNat]'h.lt=x:=by have:=h.at';rw[List.getElem?_eq_getElem h.lt] at this;simpa using this
 rw[Bl Hw _ _ h.lt,e];simp[LineD.av,A4]
theorem Bg0 {c:CaseD} {l:Int} {x:LineD} (h:LnV c l x) {f:Int→O R}:An .i64 (List.drop 2 (List.drop ((Int.toNat l)*12) (c.lines.l.flatMap LineD.av))) f=f x.to:=by
 have e:c.lines.l[l.toNat]'h.lt=x:=by have:=h.at';rw[List.getElem?_eq_getElem h.lt] at this;simpa using this
 rw[Bl Hw _ _ h.lt,e];simp[LineD.av,A4]
theorem A4s {L:List Int} {n j:Nat} (C:L.length=n) (h:j<n):((R5 n).take j++L.drop j).set j (j:Int)=(R5 n).take (j+1)++L.drop (j+1):=by
 have hi:(R5 n).length=n:=by simp[R5]
 have e:(R5 n)[j]'(by omega)=(j:Int):=by simp[R5]
 have k:j - ((R5 n).take j).length=0:=by simp[hi];omega
 rw[List.set_append_right _ _ (by simp;omega),k,List.take_succ_eq_append_getElem (by omega),Ci (l:=L) (by omega),e,List.set_cons_zero,List.append_assoc];rfl
end
end Gx.Cf

namespace Gx.Cf
open Go Go.Proofs
section
variable {R:Type}
def vX (h:Int):List LineD→Nat→List Int
 | [],_=>[]
 | x::r,j=>cond (x.away.l.contains h) (vX h r (j+1)) ((j:Int)::vX h r (j+1))
theorem gT (h:Int):∀ (l:List LineD) (j:Nat),(vX h l j).length≤l.length
 | [],_=>by simp[vX]
 | x::r,j=>by rw[vX];have:=gT h r (j+1);cases x.away.l.contains h<;>simp<;>omega
theorem A0v (h:Int):∀ (l:List LineD) (j:Nat) (a:Int),a ∈ vX h l j→(j:Int)≤a∧a<j+l.length
 | [],_,_,k=>by simp[vX] at k
 | x::r,j,a,k=>by
  rw[vX] at k
  have C:=A0v h r (j+1) a
  cases D:x.away.l.contains h<;>rw[D] at k<;>simp at k
  ·rcases k with rfl | k
   ·simp;omega
   ·have:=C k;simp at this ⊢;omega
  ·have:=C k;simp at this ⊢;omega
def Be (c:CaseD) (h:Int):List Int:=vX h c.lines.l 0
theorem Av5 {A B:List Int} {n:Nat} (h:n=A.length):(List.take (n*1) (Av A))++Av B=Av (A++B):=by
 rw[Nat.mul_one,List.take_of_length_le (by simp[Ew,h]),z7]
theorem gU {N:Nat} {c:CaseD} {h:Int} {o:Bool} {K:Nat→LA→O R} (hs:Small c N):∀ (m j fuel:Nat) (A:List Int),j+m=c.lines.l.length→m<fuel→A.length≤j →
  F2 N K h o c.av fuel A.length (j:Int) (Av A)=K (A++vX h (c.lines.l.drop j) j).length (Av (A++vX h (c.lines.l.drop j) j))
 | 0,j,fuel+1,A,G,_,_=>by
  rw[F2];unfold Ok
  rw[R4,Lm (by omega),cf,Es (l:=c.lines.l) (by omega),vX,List.append_nil]
 | m+1,j,fuel+1,A,G,T,hA=>by
  rw[F2];unfold Ok
  have k:j<c.lines.l.length:=by omega
  have F:=hs.top.2.1
  have I:c.lines.l[j] ∈ c.lines.l:=List.getElem_mem k
  have L:=hs.law _ I
  simp only[R4]
  rw[Jy k,ct,Aa k,ct,Int.toNat_natCast,Bl Hw _ _ k,Ci (l:=c.lines.l) k,vX]
  have C:=gU (N:=N) (c:=c) (h:=h) (o:=o) (K:=K) hs m (j+1) fuel (A++[(j:Int)]) (by omega) (by omega) (by simp;omega)
  have D:=gU (N:=N) (c:=c) (h:=h) (o:=o) (K:=K) hs m (j+1) fuel A (by omega) (by omega) (by omega)
  generalize c.lines.l[j]=b at *
  have b3:(Nat.ble (A.length+1) 140737488355328&&Nat.ble ((A.length+1)*8) 140737488355328)=true:=by rw[Fj,Fj];simp;omega
  have M:∀ (r:LA) (f:LA→Nat→O R),Co 1 (List.drop 11 (b.av++r)) f=f (Av b.away.l) b.away.l.length:=fun r f=>by simp[LineD.av,H8,Fz]
  have S:List.take (A.length*1) (Av A)++[.int .i64 (j:Int)]=Av (A++[(j:Int)]):=Av5 (B:=[(j:Int)]) rfl
  rw[M,WW rfl L,b3,ct,S,Fr (by omega)]
  cases b.away.l.contains h with
  | true=>simp only[Bool.not_true,cond_false,cond_true];exact D
  | false =>
   simp only[Bool.not_false,cond_true,cond_false]
   rw[List.length_append] at C
   simpa using C
theorem A0w {N:Nat} {c:CaseD} {h:Int} {o:Bool} {K:Nat→LA→O R} (hs:Small c N):Nu N c.av o h K=K (Be c h).length (Av (Be c h)):=by
 rw[LZ];unfold Vi
 have:=gU (R:=R) (N:=N) (c:=c) (h:=h) (o:=o) (K:=K) hs c.lines.l.length 0 N [] (by omega) hs.lin.1 (by simp)
 simpa[Be,Av] using this
def B8 (e:Nat×Nat):LA:=[.int .i64 (e.1:Int),.int .i64 (e.2:Int)]
theorem V0 (e:Nat×Nat):(B8 e).length=2:=rfl
theorem iX (es:List (Nat×Nat)):(es.flatMap B8).length=es.length*2:=by
 induction es with
 | nil=>rfl
 | cons e r k=>rw[List.flatMap_cons,List.length_append,k,V0];simp;omega
theorem Alb {N:Nat} {c:CaseD} {o:Bool} {ls:List Int} {K:Nat→Nat→LA→LA→O R} (D:ls.length≤1000000) (C:∀ l ∈ ls,∃ x,LnV c l x):∀ (m j fuel:Nat),j+m=ls.length→m<fuel →
  Mp N K ls.length o c.av (Av ls) fuel j (ls.length:Int) (j:Int) (((ls.take j).map (Iz c)).flatMap B8)=K ls.length ls.length ((ls.map (Iz c)).flatMap B8) (Av ls)
 | 0,j,fuel+1,F,_=>by
  rw[Mp];unfold Yj
  have:j=ls.length:=by omega
  rw[Lm (by omega),cf,List.take_of_length_le (by omega),this]
 | m+1,j,fuel+1,F,I=>by
  rw[Mp];unfold Yj
  have h:j<ls.length:=by omega
  obtain⟨x,k⟩:=C ls[j] (List.getElem_mem h)
  have b3:(Nat.ble (j+1) 140737488355328&&Nat.ble ((j+1)*16) 140737488355328)=true:=by rw[Fj,Fj];simp;omega
  have G:List.take (j*2) (((ls.take j).map (Iz c)).flatMap B8)++[.int .i64 x.fr,.int .i64 x.to]=((ls.take (j+1)).map (Iz c)).flatMap B8:=by
   rw[List.take_of_length_le (by rw[iX];simp;omega),List.take_succ_eq_append_getElem h,List.map_append,List.flatMap_append]
   simp only[List.map_cons,List.map_nil,A6f k,List.flatMap_cons,List.flatMap_nil,List.append_nil,B8]
   have:=k.f0;have:=k.t0
   rw[Int.toNat_of_nonneg k.f0,Int.toNat_of_nonneg k.t0]
  rw[Jy h,ct,Aa h,ct,Bb3 (by simpa using h),Int.toNat_natCast,XC h]
  simp only[R4,Bgz k,Bg0 k]
  rw[Aro k.l0 k.lt,ct,ct,b3,ct,G,Fr (by omega),Alb D C m (j+1) fuel (by omega) (by omega)]
theorem A4t {N:Nat} {c:CaseD} {h:Int} {o:Bool} {K:Nat→Nat→LA→LA→O R} (hs:Small c N) (D:∀ l ∈ Be c h,∃ x,LnV c l x) :
  EL N c.av o h K=K (Be c h).length (Be c h).length (((Be c h).map (Iz c)).flatMap B8) (Av (Be c h)):=by
 rw[lW];unfold WB
 have F:=gT h c.lines.l 0
 have k:=hs.top.2.1
 have C:=hs.lin.1
 have:=Alb (R:=R) (N:=N) (c:=c) (o:=o) (ls:=Be c h) (K:=K) (by unfold Be;omega) D (Be c h).length 0 N (by omega) (by unfold Be;omega)
 rw[Pt,ct,Gc,A0w hs]
 simpa using this
def F4 (st:Bool×List Int) (e:Nat×Nat):Bool×List Int :=
 let m:=Bv (st.2.getD e.1 0) (st.2.getD e.2 0)
 ((st.1||(st.2.getD e.1 0 != m))||(st.2.getD e.2 0 != m),(st.2.set e.1 m).set e.2 m)
theorem zc {N:Nat} {es:List (Nat×Nat)} {n:Nat} {t o:Bool} {K1:Bool→LA→O R} {K:Nat→LA→O R} (hs:es.length<4611686018427387904) (F:∀ e ∈ es,e.1<n∧e.2<n):∀ (m j fuel:Nat) (st:Bool×List Int),j+m=es.length→m<fuel→st.2.length=n →
  If N K1 K (es.flatMap B8) es.length t o n fuel st.1 (es.length:Int) (j:Int) (Av st.2)=K1 ((es.drop j).foldl F4 st).1 (Av ((es.drop j).foldl F4 st).2)
 | 0,j,fuel+1,st,G,_,_=>by
  rw[If];unfold Sh
  rw[Lm (by omega),cf,Es (l:=es) (by omega)];rfl
 | m+1,j,fuel+1,st,G,hf,k=>by
  rw[If];unfold Sh
  have h:j<es.length:=by omega
  obtain⟨C,D⟩:=F es[j] (List.getElem_mem h)
  have I:=zc (N:=N) (es:=es) (n:=n) (t:=t) (o:=o) (K1:=K1) (K:=K) hs F m (j+1) fuel (F4 st es[j]) (by omega) (by omega) (by simp[F4,k])
  rw[Jy h,ct,Aa h,ct,Int.toNat_natCast,Bl V0 _ _ h,Ci (l:=es) h,List.foldl_cons,←I]
  generalize es[j]=e at *
  have L:Nat.ble 2 (List.length (B8 e++List.flatMap B8 (List.drop (j+1) es)))=true:=by rw[Fj,List.length_append,V0];simp
  have M:List.take 2 (B8 e++List.flatMap B8 (List.drop (j+1) es))=B8 e:=List.take_left' (V0 e)
  rw[L,ct,M,V0]
  have iu:Ac (e.1:Int) n=true:=Aa C
  have iv:Ac (e.2:Int) n=true:=Aa D
  have ru:∀ f:Int→O R,An .i64 (List.drop (0+((Int.toNat (e.1:Int))*1)) (Av st.2)) f=f (st.2.getD e.1 0):=fun f=>by rw[Bb3 (by rw[k];simpa using C)];rfl
  have rv:∀ f:Int→O R,An .i64 (List.drop (0+((Int.toNat (e.2:Int))*1)) (Av st.2)) f=f (st.2.getD e.2 0):=fun f=>by rw[Bb3 (by rw[k];simpa using D)];rfl
  have s1:=Av4 (l:=st.2) (x:=(Int.toNat (e.1:Int))) (by rw[k];simpa using C)
  have s2:∀ m:Int,((Nat.beq 1 1)&&((Nat.ble ((0+((Int.toNat (e.2:Int))*1))+1) (List.length (List.set (Av st.2) (0+((Int.toNat (e.1:Int))*1)) (.int .i64 m))))&&(!false)))=true:=fun m=>by
   rw[sx];exact Av4 (by simpa[k] using D)
  have S:∀ m:Int,List.set (List.set (Av st.2) (0+((Int.toNat (e.1:Int))*1)) (.int .i64 m)) (0+((Int.toNat (e.2:Int))*1)) (.int .i64 m)=Av ((st.2.set e.1 m).set e.2 m):=fun m=>by
   rw[sx,sx];simp
  have p1:(!o||Ba (B8 e))=true:=by simp[B8,Ba]
  have p2:(Nat.beq 2 2&&(Nat.ble 2 2&&!false))=true:=rfl
  have T:setCells [(.int .i64 (0:Int)),(.int .i64 (0:Int))] 0 (B8 e)=B8 e:=rfl
  have U:∀ f:Int→O R,An .i64 (B8 e) f=f e.1:=fun f=>by simp[B8,A4]
  have V:∀ f:Int→O R,An .i64 (List.drop 1 (B8 e)) f=f e.2:=fun f=>by simp[B8,A4]
  simp only[p1,p2,T,U,V,ct,iu,iv,ru,rv,s1,s2,S,Fr (show j<4611686018427387904 by omega)]
  unfold F4
  cases st.1
  ·cases Y:(st.2.getD e.1 0 != Bv (st.2.getD e.1 0) (st.2.getD e.2 0))<;>simp only[Y,Bool.false_or,Bool.true_or,cond_true,cond_false,beq_self_eq_true,show(true==false)=false from rfl]
  ·simp only[Bool.true_or,cond_false,show(true==false)=false from rfl]
def nz (L:List Int):Nat:=(L.map Int.toNat).sum
theorem A6g {L:List Int} {x:Nat} {v:Int} (h:x<L.length):nz (L.set x v)+(L.getD x 0).toNat=nz L+v.toNat:=by
 unfold nz
 rw[XC h]
 induction L generalizing x with
 | nil=>simp at h
 | cons a r k =>
  cases x with
  | zero=>simp;omega
  | succ x=>have:=k (x:=x) (by simpa using h);simp at this ⊢;omega
theorem Alc {L:List Int} {x y:Nat} {v:Int} (h:x<L.length):(L.set x v).getD y 0=if x=y then v else L.getD y 0:=by
 rw[List.getD_eq_getElem?_getD,List.getD_eq_getElem?_getD,List.getElem?_set]
 by_cases e:x=y
 ·subst e;simp[h]
 ·simp[e]
theorem Bdt (a b:Int):Bv a b≤a∧Bv a b≤b∧(Bv a b=a∨Bv a b=b):=by
 unfold Bv
 by_cases h:b<a
 ·simp[h];omega
 ·simp[h];omega
theorem A9t {n:Nat} {es:List (Nat×Nat)} {e:Nat×Nat} (T:e ∈ es) (G:e.1<n) (I:e.2<n) {b:Bool} {L:List Int} (h:LeastOk n es L) :
    LeastOk n es (F4 (b,L) e).2∧(((F4 (b,L) e).1=true∧nz (F4 (b,L) e).2<nz L)∨((F4 (b,L) e)=(b,L)∧L.getD e.1 0=L.getD e.2 0)):=by
  obtain⟨u,v⟩:=e
  simp only at G I
  obtain⟨m1,m2,m3⟩:=Bdt (L.getD u 0) (L.getD v 0)
  have k:u<L.length:=by rw[h.len];exact G
  have D:v<L.length:=by rw[h.len];exact I
  have C:Conn es u v:=.fwd T (.refl _)
  have Au:∀ y,((L.set u (Bv (L.getD u 0) (L.getD v 0))).set v (Bv (L.getD u 0) (L.getD v 0))).getD y 0=if v=y then Bv (L.getD u 0) (L.getD v 0) else if u=y then Bv (L.getD u 0) (L.getD v 0) else L.getD y 0:=fun y=>by
    rw[Alc (by simpa using D),Alc k]
  have lu:=h.low u G
  have lv:=h.low v I
  refine⟨⟨by simp[F4,h.len],fun y S=>?_,fun y S=>?_⟩,?_⟩
  · simp only[F4,Au]
    split
    · rename_i e;subst e;omega
    · split
      · rename_i e;subst e;omega
      · exact h.low y S
  · simp only[F4,Au]
    have cm:Conn es (Bv (L.getD u 0) (L.getD v 0)).toNat u:=by
      rcases m3 with e | e<;>rw[e]
      · exact h.con u G
      · exact(h.con v I).trans C.symm
    split
    · rename_i e;subst e;exact cm.trans C
    · split
      · rename_i e;subst e;exact cm
      · exact h.con y S
  · by_cases e1:L.getD u 0=Bv (L.getD u 0) (L.getD v 0)<;>by_cases M:L.getD v 0=Bv (L.getD u 0) (L.getD v 0)
    · right
      have q:(L.set u (Bv (L.getD u 0) (L.getD v 0))).set v (Bv (L.getD u 0) (L.getD v 0))=L:=by
        have key:∀ m:Int,L.getD u 0=m→L.getD v 0=m→(L.set u m).set v m=L:=by
          intro m U V
          have a1:L.set u m=L:=by rw[←U,XC k,List.set_getElem_self]
          have a2:L.set v m=L:=by rw[←V,XC D,List.set_getElem_self]
          rw[a1,a2]
        exact key _ e1 M
      have x1:(L.getD u 0 != Bv (L.getD u 0) (L.getD v 0))=false:=by simpa using e1
      have x2:(L.getD v 0 != Bv (L.getD u 0) (L.getD v 0))=false:=by simpa using M
      refine⟨by simp only[F4,q,x1,x2,Bool.or_false],by rw[e1];exact M.symm⟩
    all_goals
      left
      have Y:=A6g (v:=Bv (L.getD u 0) (L.getD v 0)) k
      have F:=A6g (L:=L.set u (Bv (L.getD u 0) (L.getD v 0))) (x:=v) (v:=Bv (L.getD u 0) (L.getD v 0)) (by simpa using D)
      rw[Alc k] at F
      refine⟨?_,?_⟩
      · first
          | (have x2 : (L.getD v 0 != Bv (L.getD u 0) (L.getD v 0)) = true := by simpa using M
             simp only[F4,x2,Bool.or_true])
          | (have x1 : (L.getD u 0 != Bv (L.getD u 0) (L.getD v 0)) = true := by simpa using e1
             simp only[F4,x1,Bool.or_true,Bool.true_or])
      · simp only[F4]
        split at F
        · rename_i e;subst e;omega
        · omega
theorem Av6 {n:Nat} {es:List (Nat×Nat)} (C:∀ e ∈ es,e.1<n∧e.2<n):∀ (fs:List (Nat×Nat)) (b:Bool) (L:List Int),(∀ e ∈ fs,e ∈ es)→LeastOk n es L →
  LeastOk n es (fs.foldl F4 (b,L)).2∧(((fs.foldl F4 (b,L)).1=true∧(nz (fs.foldl F4 (b,L)).2<nz L∨(b=true∧nz (fs.foldl F4 (b,L)).2≤nz L)))∨((fs.foldl F4 (b,L))=(b,L)∧A6e fs L))
 | [],b,L,_,h=>⟨h,.inr ⟨rfl,fun e C=>by simp at C⟩⟩
 | e::r,b,L,I,h=>by
  have M:=I e (by simp)
  obtain⟨V,Y⟩:=A9t M (C e M).1 (C e M).2 (b:=b) h
  rw[List.foldl_cons]
  rcases Y with⟨S,T⟩ | ⟨S,T⟩
  ·have e':F4 (b,L) e=(true,(F4 (b,L) e).2):=by rw[←S]
   rw[e']
   obtain⟨U,D⟩:=Av6 C r true (F4 (b,L) e).2 (fun x k=>I x (List.mem_cons_of_mem _ k)) V
   refine⟨U,.inl ?_⟩
   rcases D with⟨F,G⟩ | ⟨F,_⟩
   ·exact⟨F,.inl (by rcases G with G | ⟨_,G⟩<;>omega)⟩
   ·rw[F];exact⟨rfl,.inl T⟩
  ·rw[S]
   obtain⟨U,D⟩:=Av6 C r b L (fun x k=>I x (List.mem_cons_of_mem _ k)) h
   refine⟨U,?_⟩
   rcases D with D | ⟨F,G⟩
   ·exact .inl D
   ·refine .inr ⟨F,fun x k=>?_⟩
    rcases List.mem_cons.1 k with rfl | k
    ·exact T
    ·exact G x k
theorem zd {N:Nat} {es:List (Nat×Nat)} {n:Nat} {t o:Bool} (hs:Tk es.length N) (C:∀ e ∈ es,e.1<n∧e.2<n):∀ (s fuel:Nat) (L:List Int),LeastOk n es L→nz L≤s→s+2<fuel →
  ∃ L',LeastOk n es L'∧A6e es L'∧∀ K:Nat→LA→O R,Dy N K (es.flatMap B8) es.length t o n fuel true (Av L)=K n (Av L')
 | s,fuel+1,L,h,hL,S=>by
  obtain⟨F,G⟩:=Av6 C es false L (fun _ I=>I) h
  have step:∀ K:Nat→LA→O R,Dy N K (es.flatMap B8) es.length t o n (fuel+1) true (Av L)=Dy N K (es.flatMap B8) es.length t o n fuel (es.foldl F4 (false,L)).1 (Av (es.foldl F4 (false,L)).2):=fun K=>by
   rw[Dy];unfold Si
   have:=zc (R:=R) (N:=N) (es:=es) (n:=n) (t:=t) (o:=o) (K1:=Dy N K (es.flatMap B8) es.length t o n fuel) (K:=K) hs.2 C es.length 0 N (false,L) (by omega) hs.1 h.len
   simpa using this
  rcases G with⟨D,k⟩ | ⟨D,k⟩
  ·have M:nz (es.foldl F4 (false,L)).2<nz L:=by
    rcases k with k | ⟨k,_⟩
    ·exact k
    ·cases k
   obtain⟨L',a1,a2,a3⟩:=zd hs C (s - 1) fuel _ F (by omega) (by omega)
   exact⟨L',a1,a2,fun K=>by rw[step,D];exact a3 K⟩
  ·refine⟨L,h,k,fun K=>?_⟩
   rw[step,D]
   rcases fuel with _ | fuel
   ·omega
   ·rw[Dy];unfold Si;rfl
 termination_by s=>s
 decreasing_by omega
theorem ze {N:Nat} {es:List (Nat×Nat)} {n:Nat} {t o:Bool} {K:Nat→LA→O R} (hn:n<4611686018427387904) (L:List Int) (hL:L.length=n):∀ (m j fuel:Nat),j+m=n→m<fuel →
  Ig N K (n:Int) (es.flatMap B8) es.length t o fuel n (j:Int) (Av ((R5 n).take j++L.drop j))=Dy N K (es.flatMap B8) es.length t o n N true (Av (R5 n))
 | 0,j,fuel+1,C,_=>by
  rw[Ig];unfold Sj
  rw[Lm (by omega),cf,Es (by omega),List.append_nil,List.take_of_length_le (by simp[R5];omega)]
 | m+1,j,fuel+1,C,D=>by
  rw[Ig];unfold Sj
  have h:j<n:=by omega
  have k:((R5 n).take j++L.drop j).length=n:=by simp[R5];omega
  rw[Jy h,ct,Aa h,ct,Av4 (by rw[k];simpa using h),ct,Int.toNat_natCast,Nat.zero_add,Nat.mul_one,sx,A4s hL h,Fr (by omega),ze hn L hL m (j+1) fuel (by omega) (by omega)]
theorem A4u (n:Nat) (es:List (Nat×Nat)):LeastOk n es (R5 n):=by
 refine⟨by simp[R5],fun b k=>?_,fun b k=>?_⟩
 ·rw[Arn k];omega
 ·rw[Arn k];exact .refl _
theorem Bfu {L:List Int} {b:Nat}:(∀ x ∈ L,x.toNat≤b)→nz L≤L.length*b:=by
 unfold nz
 induction L with
 | nil=>intro _;simp
 | cons a r k =>
  intro h
  have D:=h a (by simp)
  have F:=k (fun x C=>h x (List.mem_cons_of_mem _ C))
  simp[Nat.add_mul];omega
theorem sy {N:Nat} {es:List (Nat×Nat)} {n:Nat} {t o:Bool} (hs:Tk es.length N) (hn:n≤1000) (hN:n*n+1000<N) (D:∀ e ∈ es,e.1<n∧e.2<n) :
  ∃ L,LeastOk n es L∧A6e es L∧∀ (m:Nat) (K:Nat→LA→O R),m=es.length→Pl N (n:Int) (es.flatMap B8) m t o K=K n (Av L):=by
 have k:nz (R5 n)≤n*n:=by
  have:=Bfu (L:=R5 n) (b:=n) (by
   intro x C;simp[R5] at C;obtain⟨a,S,rfl⟩:=C;simp;omega)
  simpa[R5] using this
 obtain⟨L,F,G,I⟩:=zd (R:=R) (N:=N) (es:=es) (n:=n) (t:=t) (o:=o) hs D (n*n) N (R5 n) (A4u n es) k (by omega)
 refine⟨L,F,G,fun m K M=>?_⟩
 subst M
 rw[aD];unfold DN
 have ok:(decide ((0:Int)≤(n:Int))&&(decide ((n:Int)≤(n:Int))&&(decide ((n:Int)≤(140737488355328:Int))&&decide (((n:Int)*((8:Nat):Int))≤(140737488355328:Int)))))=true:=by simp;omega
 have e:List.replicate n (AV.int .i64 (0:Int))=Av (List.replicate n 0):=by simp[Av]
 have:=ze (R:=R) (N:=N) (es:=es) (n:=n) (t:=t) (o:=o) (K:=K) (by omega) (List.replicate n 0) (by simp) n 0 N (by omega) (by omega)
 rw[ok,ct,Int.toNat_natCast,e,←I K]
 simpa using this
theorem oC {N:Nat} {L:List Int} {t o:Bool} {K:Int→O R} (hs:L.length<1000000):∀ (m j fuel:Nat) (a:Nat),j+m=L.length→m<fuel→a≤j →
  Mq N K (Av L) L.length t o fuel (a:Int) (j:Int)=K ((a+((List.range' j m).filter fun b=>L.getD b 0==(b:Int)).length:Nat):Int)
 | 0,j,fuel+1,a,k,_,_=>by
  rw[Mq];unfold Yk
  rw[Lm (by omega),cf];simp
 | m+1,j,fuel+1,a,k,C,D=>by
  rw[Mq];unfold Yk
  have h:j<L.length:=by omega
  rw[Jy h,ct,Aa h,ct,Ak3 h,Fr (by omega),Fr (by omega),List.range'_succ,List.filter_cons,XC h]
  cases F:L[j]==(j:Int) with
  | true =>
   rw[ct,oC hs m (j+1) fuel (a+1) (by omega) (by omega) (by omega)]
   simp;congr 1;omega
  | false =>
   rw[cf,oC hs m (j+1) fuel a (by omega) (by omega) (by omega)]
   simp
theorem Ald {N:Nat} {L:List Int} {n:Nat} {t o:Bool} {K:Int→O R} (hn:n=L.length) (hs:L.length<1000000) (hN:L.length<N):Xm N (Av L) n t o K=K (Bds L:Int):=by
 subst hn
 rw[lY];unfold WC
 have:=oC (R:=R) (N:=N) (L:=L) (t:=t) (o:=o) (K:=K) hs L.length 0 N 0 (by omega) hN (by omega)
 simp only[Int.natCast_zero,Nat.zero_add] at this
 rw[Bds,List.range_eq_range']
 exact this
def tA (gone:List Int):List (Nat×Nat)→Nat→List (Nat×Nat)
 | [],_=>[]
 | e::r,j=>cond (gone.contains (j:Int)) (tA gone r (j+1)) (e::tA gone r (j+1))
theorem Ale {N:Nat} {es:List (Nat×Nat)} {gone:List Int} {n:Nat} {t o t2 o2:Bool} {K:Bool→O R} (T:es.length≤1000) (hlN:es.length<N) (hn:n≤1000) (hN:n*n+1000<N) (k:∀ e ∈ es,e.1<n∧e.2<n) (G:Tk gone.length N):∀ (m j fuel:Nat) (A:List (Nat×Nat)),j+m=es.length→m<fuel→A.length≤j→(∀ e ∈ A,e.1<n∧e.2<n) →
  F3 N K (n:Int) (es.flatMap B8) es.length t o (Av gone) gone.length t2 o2 fuel A.length (j:Int) (A.flatMap B8)=K (decide ((AB n (A++tA gone (es.drop j) j):Int)>(AB n es:Int)))
 | 0,j,fuel+1,A,U,_,hA,hAe=>by
  rw[F3];unfold Ol
  obtain⟨L,a1,a2,a3⟩:=sy (R:=R) (N:=N) (es:=A) (n:=n) (t:=false) (o:=true) ⟨by omega,by omega⟩ hn hN hAe
  obtain⟨L',D,I,b3⟩:=sy (R:=R) (N:=N) (es:=es) (n:=n) (t:=false) (o:=o) ⟨by omega,by omega⟩ hn hN k
  have l1:=a1.len;have l2:=D.len
  rw[Lm (by omega),cf,Es (l:=es) (by omega),tA,List.append_nil,List.take_of_length_le (by rw[iX];exact Nat.le_refl _),a3 _ _ rfl,Nat.mul_one,List.take_of_length_le (by rw[Ew];omega),Ald (by omega) (by omega) (by omega),b3 _ _ rfl,List.take_of_length_le (by rw[Ew];omega),Ald (by omega) (by omega) (by omega),zb a1 a2 hAe,zb D I k]
 | m+1,j,fuel+1,A,U,hf,hA,hAe=>by
  rw[F3];unfold Ol
  have h:j<es.length:=by omega
  have C:=Ale (N:=N) (es:=es) (gone:=gone) (n:=n) (t:=t) (o:=o) (t2:=t2) (o2:=o2) (K:=K) T hlN hn hN k G m (j+1) fuel (A++[es[j]]) (by omega) (by omega) (by simp;omega) (by
   intro e M
   rcases List.mem_append.1 M with F | F
   ·exact hAe e F
   ·simp at F;subst F;exact k _ (List.getElem_mem h))
  have S:=Ale (N:=N) (es:=es) (gone:=gone) (n:=n) (t:=t) (o:=o) (t2:=t2) (o2:=o2) (K:=K) T hlN hn hN k G m (j+1) fuel A (by omega) (by omega) (by omega) hAe
  rw[Jy h,ct,WW rfl G,Aa h,ct,Int.toNat_natCast,Bl V0 _ _ h,Ci (l:=es) h,tA]
  generalize es[j]=e at *
  have D:Nat.ble 2 (List.length (B8 e++List.flatMap B8 (List.drop (j+1) es)))=true:=by rw[Fj,List.length_append,V0];simp
  have I:List.take 2 (B8 e++List.flatMap B8 (List.drop (j+1) es))=B8 e:=List.take_left' (V0 e)
  have b3:(Nat.ble (A.length+1) 140737488355328&&Nat.ble ((A.length+1)*16) 140737488355328)=true:=by rw[Fj,Fj];simp;omega
  have p1:(!o||Ba (B8 e))=true:=by simp[B8,Ba]
  have V:List.take 2 (setCells [(.int .i64 (0:Int)),(.int .i64 (0:Int))] 0 (B8 e))=B8 e:=rfl
  have Y:List.take (A.length*2) (A.flatMap B8)++B8 e=(A++[e]).flatMap B8:=by
   rw[List.take_of_length_le (by rw[iX];exact Nat.le_refl _)];simp
  rw[D,ct,I,p1,ct,V0,show(Nat.beq 2 2&&Nat.ble 2 2)=true from rfl,ct,b3,ct,V,Y,Fr (by omega)]
  cases gone.contains (j:Int) with
  | true=>simp only[Bool.not_true,cond_false,cond_true];exact S
  | false =>
   simp only[Bool.not_false,cond_true,cond_false]
   rw[List.length_append] at C
   simpa using C
theorem Alf {N:Nat} {es:List (Nat×Nat)} {gone:List Int} {n m m2:Nat} {t o t2 o2:Bool} {K:Bool→O R} (C:m=es.length) (k:m2=gone.length) (D:es.length≤1000) (hlN:es.length<N) (hn:n≤1000) (hN:n*n+1000<N) (F:∀ e ∈ es,e.1<n∧e.2<n) (G:Tk gone.length N) :
  Nv N (n:Int) (es.flatMap B8) m t o (Av gone) m2 t2 o2 K=K (decide ((AB n (tA gone es 0):Int)>(AB n es:Int))):=by
 subst C k
 rw[MD];unfold Vl
 have:=Ale (R:=R) (N:=N) (es:=es) (gone:=gone) (n:=n) (t:=t) (o:=o) (t2:=t2) (o2:=o2) (K:=K) D hlN hn hN F G es.length 0 N [] (by omega) hlN (by simp) (by simp)
 simpa using this
end
end Gx.Cf

namespace Gx.Cf
open Go Go.Proofs
section
variable {R:Type}
theorem D4 {p:Kd} {ok:Bool} {w:Int×Int×Int} {e:{ e:Int // e≠0 }} (h:nd p ok w e=none):p=none∧ok=true:=by
 rcases p with _ | x
 ·cases ok
  ·simp[nd] at h
  ·exact⟨rfl,rfl⟩
 ·simp[nd] at h
theorem Tm {α:Type} {f:Nat→α→Kd→Kd} (C:∀ j a x,f j a (some x)=some x):∀ (l:List α) (j:Nat) (p:Kd),Gu f l j p=none→p=none∧∀ i (h:i<l.length),f (j+i) l[i] none=none
 | [],j,p,h=>by rw[Gu] at h;exact⟨h,fun i hi=>by simp at hi⟩
 | a::r,j,p,h=>by
  rw[Gu] at h
  obtain⟨k,D⟩:=Tm C r (j+1) _ h
  have F:p=none:=by
   rcases p with _ | x
   ·rfl
   ·rw[C] at k;cases k
  subst F
  refine⟨rfl,fun i hi=>?_⟩
  cases i with
  | zero=>simpa using k
  | succ i=>have:=D i (by simpa using hi);rw[show j+1+i=j+(i+1) by omega] at this;simpa using this
theorem vY {c:CaseD} (j:Nat) (x:BusD) (y:(Int×Int×Int)×{ e:Int // e≠0 }):Bdn c j x (some y)=some y:=rfl
theorem oD {c:CaseD} (j:Nat) (x:LineD) (y:(Int×Int×Int)×{ e:Int // e≠0 }):Arl c j x (some y)=some y:=rfl
theorem gV {c:CaseD} (j:Nat) (x:StoreD) (y:(Int×Int×Int)×{ e:Int // e≠0 }):Ak6 c j x (some y)=some y:=rfl
theorem vZ {c:CaseD} (j:Nat) (x:TieD) (y:(Int×Int×Int)×{ e:Int // e≠0 }):Bdo c j x (some y)=some y:=rfl
theorem oE {c:CaseD} (j:Nat) (x:UnitD) (y:(Int×Int×Int)×{ e:Int // e≠0 }):A0t c j x (some y)=some y:=by
 show cond (x.state==2) _ _=_
 cases x.state==2<;>rfl
def Bb4 (c:CaseD):Kd :=
 let p:=A4p c none
 let p:=Gu (Bdn c) c.buses.l 0 p
 let p:=Gu (Arl c) c.lines.l 0 p
 let p:=Gu (A0t c) c.units.l 0 p
 let p:=Gu (Ak6 c) c.stores.l 0 p
 let p:=Gu (Bdo c) c.ties.l 0 p
 Gu (A9s c) c.outs.l 0 p
noncomputable def Bb5 (c:CaseD) (h:Int) (o:OutD):Bool :=
 (AB c.buses.l.length (((Be c h).filter fun l=>!o.lines.l.contains l).map (Iz c)):Int)==(AB c.buses.l.length ((Be c h).map (Iz c)):Int)
noncomputable def Bb6 (c:CaseD) (h:Int) (j:Nat) (o:OutD) (p:Kd):Kd:=nd p (Bb5 c h o) (6,j,h) Bh4
noncomputable def oF (c:CaseD):Nat→Nat→Kd→Kd
 | 0,_,p=>p
 | m+1,j,p=>oF c m (j+1) (Gu (Bb6 c j) c.outs.l 0 p)
theorem A9u {c:CaseD} {h:Int} (j:Nat) (x:OutD) (y:(Int×Int×Int)×{ e:Int // e≠0 }):Bb6 c h j x (some y)=some y:=rfl
theorem zf {c:CaseD} {y:(Int×Int×Int)×{ e:Int // e≠0 }}:∀ (m j:Nat),oF c m j (some y)=some y
 | 0,_=>rfl
 | m+1,j=>by rw[oF,Ps (fun j a=>A9u j a y)];exact zf m (j+1)
noncomputable def gW (c:CaseD):Kd:=match Bb4 c with
 | some x=>some x
 | none=>oF c c.hours.toNat 0 none
structure PreV (c:CaseD):Prop where
 hours:1≤c.hours∧c.hours≤24
 nb:c.buses.l.length≤32
 nl:c.lines.l.length≤64
 no:c.outs.l.length≤64
 line:∀ x ∈ c.lines.l,0≤x.fr∧x.fr.toNat<c.buses.l.length∧0≤x.to∧x.to.toNat<c.buses.l.length
 out:∀ x ∈ c.outs.l,x.lines.l.length≤2
theorem A9v {c:CaseD} (h:Bb4 c=none):PreV c:=by
 unfold Bb4 at h
 obtain⟨M,o6⟩:=Tm (fun _ _ _=>vW) _ _ _ h
 obtain⟨S,o5⟩:=Tm (fun j a x=>vZ j a x) _ _ _ M
 obtain⟨T,o4⟩:=Tm (fun j a x=>gV j a x) _ _ _ S
 obtain⟨U,o3⟩:=Tm (fun j a x=>oE j a x) _ _ _ T
 obtain⟨V,o2⟩:=Tm (fun j a x=>oD j a x) _ _ _ U
 obtain⟨I,o1⟩:=Tm (fun j a x=>vY j a x) _ _ _ V
 unfold A4p at I
 obtain⟨Y,e7⟩:=D4 I
 obtain⟨w6,_⟩:=D4 Y
 obtain⟨w5,_⟩:=D4 w6
 obtain⟨w4,_⟩:=D4 w5
 obtain⟨w3,D⟩:=D4 w4
 obtain⟨w2,k⟩:=D4 w3
 obtain⟨w1,_⟩:=D4 w2
 obtain⟨w0,_⟩:=D4 w1
 obtain⟨_,F⟩:=D4 w0
 unfold Fs at F k
 simp at F k D e7
 refine⟨F,by omega,by omega,by omega,fun x G=>?_,fun x G=>?_⟩
 ·obtain⟨i,hi,rfl⟩:=List.getElem_of_mem G
  have:=o2 i hi
  unfold Arl Ak5 at this
  obtain⟨a,_⟩:=D4 this
  obtain⟨a,_⟩:=D4 a
  obtain⟨a,_⟩:=D4 a
  obtain⟨a,_⟩:=D4 a
  obtain⟨a,_⟩:=D4 a
  obtain⟨a,_⟩:=D4 a
  obtain⟨a,_⟩:=D4 a
  obtain⟨a,_⟩:=D4 a
  obtain⟨a,L⟩:=D4 a
  obtain⟨_,C⟩:=D4 a
  unfold z8 at L C
  simp at L C
  omega
 ·obtain⟨i,hi,rfl⟩:=List.getElem_of_mem G
  have:=o6 i hi
  unfold A9s A4q at this
  obtain⟨a,_⟩:=D4 this
  obtain⟨a,_⟩:=D4 a
  obtain⟨a,_⟩:=D4 a
  obtain⟨a,_⟩:=D4 a
  obtain⟨a,_⟩:=D4 a
  obtain⟨a,_⟩:=D4 a
  obtain⟨a,_⟩:=D4 a
  obtain⟨_,C⟩:=D4 a
  simp at C
  omega
theorem PreV.lnV {c:CaseD} (v:PreV c) {h:Int} {l:Int} (C:l ∈ Be c h):∃ x,LnV c l x:=by
 have:=A0v h c.lines.l 0 l C
 have D:0≤l:=by omega
 have k:l.toNat<c.lines.l.length:=by omega
 obtain⟨a,b,d,e⟩:=v.line _ (List.getElem_mem k)
 exact⟨c.lines.l[l.toNat],D,k,List.getElem?_eq_getElem k,a,b,d,e⟩
def w3 (p:Kd):LA:=match p with
 | none=>[.int .i64 0,.int .i64 0,.int .i64 0]
 | some ((a,b,f),_)=>[.int .i64 a,.int .i64 b,.int .i64 f]
end
end Gx.Cf

namespace Gx.Cf
open Go Go.Proofs
section
variable {R:Type}
theorem Bb7 {N:Nat} {c:CaseD} {p:Kd} {o:Bool} {j:Nat} {K:Int→LA→O R} {K2:LA→Int→O R} (hs:Small c N) (h:j<c.buses.l.length) :
  Vm N K K2 o c.av (j:Int) (Do p)=K ((j+1:Nat):Int) (Do (Bdn c j c.buses.l[j] p)):=by
 have hN:=hs.n64
 have hN8:8≤N:=by omega
 have C:=hs.bus
 have G:c.buses.l[j] ∈ c.buses.l:=List.getElem_mem h
 have I:=hs.dem _ G
 have D:=@Ei R N c (c.buses.l.map (·.name)) o (k:=1) (n:=j) (hN:=hN) (hL:=fun K=>A0u hs) (hn:=by simpa using h) (hs:=⟨by have:=C.1;omega,by have:=C.2;omega⟩)
 have F:(c.buses.l.map (·.name))[j]'(by simpa using h)=c.buses.l[j].name:=by simp
 rw[F] at D
 unfold Vm
 simp only[Pt,Gc,ct,D,Vz]
 rw[Aa h,ct,Int.toNat_natCast,Bl SR _ _ h]
 generalize c.buses.l[j]=b at *
 have L:∀ (r:LA) (f:LA→Nat→O R),Co 1 (List.drop 1 (b.av++r)) f=f (Av b.demand.l) b.demand.l.length:=fun r f=>by simp[BusD.av,H8,Fz]
 have M:∀ (r:LA) (f:Int→O R),An .i64 (List.drop 2 (b.av++r)) f=f b.shed:=fun r f=>by simp[BusD.av,A4]
 rw[L,Ex rfl I,ct,M,Er hN8,Ah (by decide),Fr (by have:=C.2;omega)]
 rfl
theorem Av7 {p:Kd} {K:LA→Int→O R}:(cond (Nat.ble 3 (List.length (Do p))) (An .i64 (List.drop 3 (Do p)) fun x38=>(cond ((Nat.beq (List.length (List.take 3 (Do p))) 3)&&((Nat.ble 3 3)&&(!false))) (cond (Nat.ble 3 (List.length (setCells [(.int .i64 (0:Int)),(.int .i64 (0:Int)),(.int .i64 (0:Int))] 0 (List.take 3 (Do p))))) (K (List.take 3 (setCells [(.int .i64 (0:Int)),(.int .i64 (0:Int)),(.int .i64 (0:Int))] 0 (List.take 3 (Do p)))) x38) none) none)) none)=K (w3 p) (Is p):=by
 rcases p with _ | ⟨⟨a,b,f⟩,e,k⟩<;>simp[Do,Bb0,w3,Is,Fj,setCells,C0,A4]
theorem zg {N:Nat} {c:CaseD} {o:Bool} {K:LA→Int→O R} (hs:Small c N):∀ (m j fuel:Nat) (p:Kd),j+m=c.buses.l.length→m<fuel →
  Jn N K o c.av fuel (j:Int) (Do p)=Mv N K o c.av N 0 (Do (Gu (Bdn c) (c.buses.l.drop j) j p))
 | 0,j,fuel+1,p,C,_=>by
  rw[Jn];unfold Yr
  rw[Vz,Lm (by omega),Es (l:=c.buses.l) (by omega),Gu];rfl
 | m+1,j,fuel+1,p,C,G=>by
  rw[Jn];unfold Yr
  have h:j<c.buses.l.length:=by omega
  have k:=hs.bus
  rw[Vz,Jy h,NX,Ci (l:=c.buses.l) h,Gu]
  rcases p with _ | ⟨x,e,D⟩
  ·simp only[Is,beq_self_eq_true,cond_true]
   rw[Bb7 hs h,zg hs m (j+1) fuel _ (by omega) (by omega)]
  ·have F:(e==0)=false:=by simpa using D
   simp only[Is,F,beq_self_eq_true,cond_true,cond_false]
   rw[vY,Ps (fun _ _=>vY _ _ _)]
theorem zh {N:Nat} {c:CaseD} {o:Bool} {K:LA→Int→O R} (hs:Small c N):∀ (m j fuel:Nat) (p:Kd),j+m=c.lines.l.length→m<fuel →
  Mv N K o c.av fuel (j:Int) (Do p)=Mu N K o c.av N 0 (Do (Gu (Arl c) (c.lines.l.drop j) j p))
 | 0,j,fuel+1,p,C,_=>by
  rw[Mv];unfold Yq
  rw[R4,Lm (by omega),Es (l:=c.lines.l) (by omega),Gu];rfl
 | m+1,j,fuel+1,p,C,G=>by
  rw[Mv];unfold Yq
  have h:j<c.lines.l.length:=by omega
  have k:=hs.lin
  rw[R4,Jy h,NX,Ci (l:=c.lines.l) h,Gu]
  rcases p with _ | ⟨x,e,D⟩
  ·simp only[Is,beq_self_eq_true,cond_true]
   rw[Pt,ct,Gc,bX hs h,Fr (by have:=k.2;omega),zh hs m (j+1) fuel _ (by omega) (by omega)]
  ·have F:(e==0)=false:=by simpa using D
   simp only[Is,F,beq_self_eq_true,cond_true,cond_false]
   rw[oD,Ps (fun _ _=>oD _ _ _)]
theorem zi {N:Nat} {c:CaseD} {o:Bool} {K:LA→Int→O R} (hs:Small c N):∀ (m j fuel:Nat) (p:Kd),j+m=c.units.l.length→m<fuel →
  Mu N K o c.av fuel (j:Int) (Do p)=Mt N K o c.av N 0 (Do (Gu (A0t c) (c.units.l.drop j) j p))
 | 0,j,fuel+1,p,C,_=>by
  rw[Mu];unfold Yp
  rw[IH,Lm (by omega),Es (l:=c.units.l) (by omega),Gu];rfl
 | m+1,j,fuel+1,p,C,G=>by
  rw[Mu];unfold Yp
  have h:j<c.units.l.length:=by omega
  have k:=hs.uni
  rw[IH,Jy h,NX,Ci (l:=c.units.l) h,Gu]
  rcases p with _ | ⟨x,e,D⟩
  ·simp only[Is,beq_self_eq_true,cond_true]
   rw[Pt,ct,Gc,bY hs h,Fr (by have:=k.2;omega),zi hs m (j+1) fuel _ (by omega) (by omega)]
  ·have F:(e==0)=false:=by simpa using D
   simp only[Is,F,beq_self_eq_true,cond_true,cond_false]
   rw[oE,Ps (fun _ _=>oE _ _ _)]
theorem zj {N:Nat} {c:CaseD} {o:Bool} {K:LA→Int→O R} (hs:Small c N):∀ (m j fuel:Nat) (p:Kd),j+m=c.stores.l.length→m<fuel →
  Mt N K o c.av fuel (j:Int) (Do p)=Ms N K o c.av N 0 (Do (Gu (Ak6 c) (c.stores.l.drop j) j p))
 | 0,j,fuel+1,p,C,_=>by
  rw[Mt];unfold Yo
  rw[EP,Lm (by omega),Es (l:=c.stores.l) (by omega),Gu];rfl
 | m+1,j,fuel+1,p,C,G=>by
  rw[Mt];unfold Yo
  have h:j<c.stores.l.length:=by omega
  have k:=hs.sto
  rw[EP,Jy h,NX,Ci (l:=c.stores.l) h,Gu]
  rcases p with _ | ⟨x,e,D⟩
  ·simp only[Is,beq_self_eq_true,cond_true]
   rw[Pt,ct,Gc,XB hs h,Fr (by have:=k.2;omega),zj hs m (j+1) fuel _ (by omega) (by omega)]
  ·have F:(e==0)=false:=by simpa using D
   simp only[Is,F,beq_self_eq_true,cond_true,cond_false]
   rw[gV,Ps (fun _ _=>gV _ _ _)]
theorem zk {N:Nat} {c:CaseD} {o:Bool} {K:LA→Int→O R} (hs:Small c N):∀ (m j fuel:Nat) (p:Kd),j+m=c.ties.l.length→m<fuel →
  Ms N K o c.av fuel (j:Int) (Do p)=Mr N K o c.av N 0 (Do (Gu (Bdo c) (c.ties.l.drop j) j p))
 | 0,j,fuel+1,p,C,_=>by
  rw[Ms];unfold Yn
  rw[iW,Lm (by omega),Es (l:=c.ties.l) (by omega),Gu];rfl
 | m+1,j,fuel+1,p,C,G=>by
  rw[Ms];unfold Yn
  have h:j<c.ties.l.length:=by omega
  have k:=hs.tie
  rw[iW,Jy h,NX,Ci (l:=c.ties.l) h,Gu]
  rcases p with _ | ⟨x,e,D⟩
  ·simp only[Is,beq_self_eq_true,cond_true]
   rw[Pt,ct,Gc,gS hs h,Fr (by have:=k.2;omega),zk hs m (j+1) fuel _ (by omega) (by omega)]
  ·have F:(e==0)=false:=by simpa using D
   simp only[Is,F,beq_self_eq_true,cond_true,cond_false]
   rw[vZ,Ps (fun _ _=>vZ _ _ _)]
theorem zl {N:Nat} {c:CaseD} {o:Bool} {K:LA→Int→O R} (hs:Small c N):∀ (m j fuel:Nat) (p:Kd),j+m=c.outs.l.length→m<fuel →
  Mr N K o c.av fuel (j:Int) (Do p)=Ep N K o c.av N 0 (Do (Gu (A9s c) (c.outs.l.drop j) j p))
 | 0,j,fuel+1,p,C,_=>by
  rw[Mr];unfold Ym
  rw[DU,Lm (by omega),Es (l:=c.outs.l) (by omega),Gu];rfl
 | m+1,j,fuel+1,p,C,G=>by
  rw[Mr];unfold Ym
  have h:j<c.outs.l.length:=by omega
  have k:=hs.out
  rw[DU,Jy h,NX,Ci (l:=c.outs.l) h,Gu]
  rcases p with _ | ⟨x,e,D⟩
  ·simp only[Is,beq_self_eq_true,cond_true]
   rw[Pt,ct,Gc,SW hs h,Fr (by have:=k.2;omega),zl hs m (j+1) fuel _ (by omega) (by omega)]
  ·have F:(e==0)=false:=by simpa using D
   simp only[Is,F,beq_self_eq_true,cond_true,cond_false]
   rw[vW,Ps (fun _ _=>vW)]
def IJ (ol:List Int):List Int→Nat→List Int
 | [],_=>[]
 | a::r,j=>cond (ol.contains a) ((j:Int)::IJ ol r (j+1)) (IJ ol r (j+1))
theorem A0x (ol:List Int):∀ (l:List Int) (j:Nat) (x:Int),x ∈ IJ ol l j→(j:Int)≤x
 | [],_,_,h=>by simp[IJ] at h
 | a::r,j,x,h=>by
  rw[IJ] at h
  have k:=A0x ol r (j+1) x
  cases C:ol.contains a<;>rw[C] at h<;>simp at h
  ·have:=k h;omega
  ·rcases h with rfl | h
   ·omega
   ·have:=k h;omega
theorem v5 {f:Int→Nat×Nat} (ol:List Int):∀ (l:List Int) (j:Nat) (pre:List Int),(∀ x ∈ pre,x<(j:Int))→tA (pre++IJ ol l j) (l.map f) j=((l.filter fun a=>!ol.contains a).map f)
 | [],_,_,_=>rfl
 | a::r,j,pre,F=>by
  rw[List.map_cons,tA,IJ,List.filter_cons]
  have C:¬ (j:Int) ∈ pre:=fun h=>by have:=F _ h;omega
  cases I:ol.contains a with
  | true =>
   have G:(pre++cond true ((j:Int)::IJ ol r (j+1)) (IJ ol r (j+1))).contains (j:Int)=true:=by simp
   rw[G]
   have:=v5 (f:=f) ol r (j+1) (pre++[(j:Int)]) (by
    intro x k
    rcases List.mem_append.1 k with D | D
    ·have:=F x D;omega
    ·simp at D;omega)
   simp only[cond_true,Bool.not_true,Bool.false_eq_true,if_false]
   rw[←this];simp
  | false =>
   have G:(pre++cond false ((j:Int)::IJ ol r (j+1)) (IJ ol r (j+1))).contains (j:Int)=false:=by
    simp only[cond_false]
    rw[List.contains_eq_mem]
    simp only[decide_eq_false_iff_not,List.mem_append,not_or]
    exact⟨C,fun D=>by have:=A0x ol r (j+1) _ D;omega⟩
   rw[G]
   have:=v5 (f:=f) ol r (j+1) pre (by intro x k;have:=F x k;omega)
   simp only[cond_false,Bool.not_false,if_true,List.map_cons]
   rw[this]
theorem XD {N:Nat} {c:CaseD} {o:Bool} {hr:Int} {j:Nat} {p:Kd} {K7:Int→LA→O R} {K9:Int→Int→LA→O R} {K:LA→Int→O R} (hs:Small c N) (hN:4096≤N) (v:PreV c) (h:j<c.outs.l.length):∀ (m q fuel:Nat) (A:List Int),q+m=(Be c hr).length→m<fuel→A.length≤q →
  A++IJ c.outs.l[j].lines.l ((Be c hr).drop q) q=IJ c.outs.l[j].lines.l (Be c hr) 0 →
  J9 N K7 K9 K (Be c hr).length (Be c hr).length o c.av (((Be c hr).map (Iz c)).flatMap B8) (Av (Be c hr)) fuel hr (j:Int) A.length (q:Int) (Do p) (Av A)=K9 hr ((j+1:Nat):Int) (Do (Bb6 c hr j c.outs.l[j] p))
 | 0,q,fuel+1,A,hq,_,hA,k=>by
  rw[J9];unfold Vn
  have T:=gT hr c.lines.l 0
  have U:=v.nl
  have D:=v.nb
  have F:=hs.out
  have hnn:c.buses.l.length*c.buses.l.length≤32*32:=Nat.mul_le_mul D D
  have G:(Be c hr).length≤64:=by unfold Be;omega
  rw[Es (l:=Be c hr) (by omega),IJ,List.append_nil] at k
  have M:∀ e ∈ (Be c hr).map (Iz c),e.1<c.buses.l.length∧e.2<c.buses.l.length:=by
   intro e M
   simp only[List.mem_map] at M
   obtain⟨l,V,rfl⟩:=M
   obtain⟨x,C⟩:=v.lnV V
   rw[A6f C];exact⟨C.f1,C.t1⟩
  rw[Lm (by omega),cf,Vz,List.take_of_length_le (by rw[iX];simp),Nat.mul_one,List.take_of_length_le (by rw[Ew];exact Nat.le_refl _),
   Alf (by simp) rfl (by simp;omega) (by simp;omega) (by omega) (by omega) M ⟨by omega,by omega⟩,Ah (by decide),Fr (by have:=F.2;omega)]
  have e1:tA A ((Be c hr).map (Iz c)) 0=(((Be c hr).filter fun a=>!c.outs.l[j].lines.l.contains a).map (Iz c)):=by
   rw[k]
   have:=v5 (f:=Iz c) c.outs.l[j].lines.l (Be c hr) 0 [] (by simp)
   simpa using this
  rw[e1]
  have Y:AB c.buses.l.length ((Be c hr).map (Iz c))≤AB c.buses.l.length (((Be c hr).filter fun a=>!c.outs.l[j].lines.l.contains a).map (Iz c)):=A4r (by
   intro e I
   simp only[List.mem_map,List.mem_filter] at I ⊢
   obtain⟨l,⟨V,_⟩,rfl⟩:=I
   exact⟨l,V,rfl⟩)
  have e2:(!decide ((AB c.buses.l.length (((Be c hr).filter fun a=>!c.outs.l[j].lines.l.contains a).map (Iz c)):Int)>(AB c.buses.l.length ((Be c hr).map (Iz c)):Int)))=Bb5 c hr c.outs.l[j]:=by
   unfold Bb5
   generalize AB c.buses.l.length ((Be c hr).map (Iz c))=x at *
   generalize AB c.buses.l.length (((Be c hr).filter fun a=>!c.outs.l[j].lines.l.contains a).map (Iz c))=y at *
   by_cases hxy:x=y
   ·subst hxy;simp
   ·have a1:((y:Int)==(x:Int))=false:=by simp;omega
    rw[a1];simp;omega
  rw[e2];rfl
 | m+1,q,fuel+1,A,hq,hf,hA,k=>by
  rw[J9];unfold Vn
  have L:q<(Be c hr).length:=by omega
  have T:=gT hr c.lines.l 0
  have U:=v.nl
  have G:(Be c hr).length≤64:=by unfold Be;omega
  have hm:c.outs.l[j] ∈ c.outs.l:=List.getElem_mem h
  have hd:=hs.oli _ hm
  have b4:∀ (f:LA→Nat→O R),Co 1 (List.drop 1 (List.drop (j*4) (List.flatMap OutD.av c.outs.l))) f=f (Av c.outs.l[j].lines.l) c.outs.l[j].lines.l.length:=fun f=>by rw[Bl Pr _ _ h];simp[OutD.av,H8,Fz]
  have b3:(Nat.ble (A.length+1) 140737488355328&&Nat.ble ((A.length+1)*8) 140737488355328)=true:=by rw[Fj,Fj];simp;omega
  have b5:List.take (A.length*1) (Av A)++[.int .i64 (q:Int)]=Av (A++[(q:Int)]):=Av5 (B:=[(q:Int)]) rfl
  rw[Jy L,ct,DU,Aa h,ct,Int.toNat_natCast,b4,Aa L,ct,Bb3 (by simpa using L),Int.toNat_natCast,XC L,WW rfl hd,b3,ct,b5,Fr (by omega)]
  rw[Ci L,IJ] at k
  cases C:c.outs.l[j].lines.l.contains (Be c hr)[q] with
  | true =>
   rw[C] at k
   have S:=XD (o:=o) (hr:=hr) (j:=j) (p:=p) (K7:=K7) (K9:=K9) (K:=K) hs hN v h m (q+1) fuel (A++[(q:Int)]) (by omega) (by omega) (by simp;omega) (by simpa using k)
   rw[List.length_append] at S
   simpa using S
  | false =>
   rw[C] at k
   have S:=XD (o:=o) (hr:=hr) (j:=j) (p:=p) (K7:=K7) (K9:=K9) (K:=K) hs hN v h m (q+1) fuel A (by omega) (by omega) (by omega) (by simpa using k)
   simpa using S
theorem zm {N:Nat} {c:CaseD} {o:Bool} {hr:Int} {K7:Int→LA→O R} {K:LA→Int→O R} (hs:Small c N) (hN:4096≤N) (v:PreV c):∀ (m j fuel:Nat) (p:Kd),j+m=c.outs.l.length→m<fuel →
  Jm N K7 K (Be c hr).length (Be c hr).length o c.av (((Be c hr).map (Iz c)).flatMap B8) (Av (Be c hr)) fuel hr (j:Int) (Do p)=K7 (IntKind.wrap .i64 (hr+1)) (Do (Gu (Bb6 c hr) (c.outs.l.drop j) j p))
 | 0,j,fuel+1,p,k,_=>by
  rw[Jm];unfold Yl
  rw[DU,Lm (by omega),cf,Es (l:=c.outs.l) (by omega),Gu]
 | m+1,j,fuel+1,p,k,G=>by
  rw[Jm];unfold Yl
  have h:j<c.outs.l.length:=by omega
  have C:=gT hr c.lines.l 0
  have D:=v.nl
  have F:=zm (o:=o) (hr:=hr) (K7:=K7) (K:=K) hs hN v m (j+1) fuel (Bb6 c hr j c.outs.l[j] p) (by omega) (by omega)
  have l10:=XD (R:=R) (N:=N) (c:=c) (o:=o) (hr:=hr) (j:=j) (p:=p) (K7:=K7) (K9:=Jm N K7 K (Be c hr).length (Be c hr).length o c.av (((Be c hr).map (Iz c)).flatMap B8) (Av (Be c hr)) fuel) (K:=K) hs hN v h (Be c hr).length 0 N [] (by omega) (by unfold Be;omega) (by simp) (by simp)
  rw[DU,Jy h,ct,Ci (l:=c.outs.l) h,Gu,←F,←l10]
  rfl
theorem zn {N H:Nat} {c:CaseD} {o:Bool} {K:LA→Int→O R} (hs:Small c N) (hN:4096≤N) (v:PreV c) (hH:c.hours=(H:Int)):∀ (m j fuel:Nat) (p:Kd),j+m=H→m<fuel →
  Ep N K o c.av fuel (j:Int) (Do p)=K (w3 (oF c m j p)) (Is (oF c m j p))
 | 0,j,fuel+1,p,k,_=>by
  rw[Ep];unfold Rx
  rw[SQ,hH,Lm (by omega),Av7,oF];rfl
 | m+1,j,fuel+1,p,k,G=>by
  rw[Ep];unfold Rx DO NR
  have I:=v.hours
  rw[SQ,hH,Jy (by omega),NX,Av7]
  rcases p with _ | ⟨x,e,C⟩
  ·simp only[Is,beq_self_eq_true,cond_true]
   have l9:=zm (R:=R) (N:=N) (c:=c) (o:=o) (hr:=(j:Int)) (K7:=Ep N K o c.av fuel) (K:=K) hs hN v c.outs.l.length 0 N none (by omega) hs.out.1
   rw[Pt,ct,Gc,A4t hs (fun l D=>v.lnV D)]
   simp only[List.drop_zero,Int.natCast_zero] at l9
   rw[l9,Fr (by omega),zn hs hN v hH m (j+1) fuel _ (by omega) (by omega)];rfl
  ·have F:(e==0)=false:=by simpa using C
   simp only[Is,F,beq_self_eq_true,cond_true,cond_false]
   rw[zf]
theorem A0y {N:Nat} {c:CaseD} {o:Bool} {y:(Int×Int×Int)×{ e:Int // e≠0 }} {K:LA→Int→O R} {fuel:Nat}:Ep N K o c.av (fuel+1) 0 (Do (some y))=K (w3 (some y)) (Is (some y)):=by
 rw[Ep];unfold Rx
 rw[SQ,NX,Av7]
 have k:(y.2.1==0)=false:=by simpa using y.2.2
 cases decide ((0:Int)<c.hours)<;>simp[Is,k]
theorem Alg {N:Nat} {c:CaseD} {o:Bool} {K:LA→Int→O R} (hs:Small c N) (hN:4096≤N):EM N c.av o K=K (w3 (gW c)) (Is (gW c)):=by
 rw[l8];unfold WD
 have k:[(.int .i64 (0:Int)),(.int .i64 (0:Int)),(.int .i64 (0:Int)),(.int .i64 (0:Int))]=Do none:=rfl
 rw[Pt,ct,Gc,k,XA hs]
 have l0:=fun p=>zg (R:=R) (N:=N) (c:=c) (o:=o) (K:=K) hs c.buses.l.length 0 N p (by omega) hs.bus.1
 have l2:=fun p=>zh (R:=R) (N:=N) (c:=c) (o:=o) (K:=K) hs c.lines.l.length 0 N p (by omega) hs.lin.1
 have l3:=fun p=>zi (R:=R) (N:=N) (c:=c) (o:=o) (K:=K) hs c.units.l.length 0 N p (by omega) hs.uni.1
 have l4:=fun p=>zj (R:=R) (N:=N) (c:=c) (o:=o) (K:=K) hs c.stores.l.length 0 N p (by omega) hs.sto.1
 have l5:=fun p=>zk (R:=R) (N:=N) (c:=c) (o:=o) (K:=K) hs c.ties.l.length 0 N p (by omega) hs.tie.1
 have l6:=fun p=>zl (R:=R) (N:=N) (c:=c) (o:=o) (K:=K) hs c.outs.l.length 0 N p (by omega) hs.out.1
 simp only[List.drop_zero,Int.natCast_zero] at l0 l2 l3 l4 l5 l6
 try dsimp only
 rw[l0,l2,l3,l4,l5,l6]
 show Ep N K o c.av N 0 (Do (Bb4 c))=_
 unfold gW
 cases C:Bb4 c with
 | some y =>
  rcases N with _ | N
  ·omega
  ·exact A0y
 | none =>
  have v:=A9v C
  have D:=v.hours
  have:=zn (R:=R) (N:=N) (H:=c.hours.toNat) (c:=c) (o:=o) (K:=K) hs hN v (by omega) c.hours.toNat 0 N none (by omega) (by omega)
  simpa using this
end
end Gx.Cf

namespace Gx.Cf
open Go Go.Proofs
section
variable {R:Type}
theorem Bfv (p:Kd):(w3 p).length=3:=by rcases p with _ | ⟨⟨a,b,f⟩,e⟩<;>rfl
end
end Gx.Cf

namespace Gx.Cf
open Go Go.Proofs
section
variable {R:Type}
theorem Bb8 (v n:Int) (F:1≤n) (G:n≤4611686018427387904):(IntKind.wrap .u64 n==0)=false∧0≤IntKind.wrap .i64 (Int.tmod (IntKind.wrap .u64 v) (IntKind.wrap .u64 n))∧IntKind.wrap .i64 (Int.tmod (IntKind.wrap .u64 v) (IntKind.wrap .u64 n))<n:=by
 have hn:IntKind.wrap .u64 n=n:=IntWalk.u64_in _ (by omega)
 have k:0≤IntKind.wrap .u64 v:=by rw[IntKind.wrap_u64];omega
 rw[hn]
 have C:0≤Int.tmod (IntKind.wrap .u64 v) n:=Int.tmod_nonneg _ k
 have D:Int.tmod (IntKind.wrap .u64 v) n<n:=Int.tmod_lt_of_pos _ (by omega)
 rw[Y0 _ (by omega)]
 exact⟨by simp;omega,C,D⟩
theorem nx {N:Nat} {l:List Int} {t o:Bool} (M:l.length≤9223372036854775807) (n:Int) (F:1≤n) (G:n≤4611686018427387904) (k:Nat) (I:k≤l.length) :
  ∃ (v:Int) (C:Nat),0≤v∧v<n∧C≤l.length∧∀ K:Int→Int→O R,Ag N n (Av l) l.length t o (k:Int) K=K v (C:Int):=by
 by_cases h:k<l.length
 ·obtain⟨a1,a2,a3⟩:=Bb8 l[k] n F G
  refine⟨_,k+1,a2,a3,by omega,fun K=>?_⟩
  rw[Xh];unfold X9
  have D:IntKind.wrap .i64 ((k:Int)+1)=((k+1:Nat):Int):=by rw[Y0 _ (by omega)];omega
  have L:IntKind.wrap .i64 (IntKind.wrap .i64 ((k:Int)+1) - 1)=(k:Int):=by rw[D,Y0 _ (by omega)];omega
  rw[L,D,Aa h,ct,Ak3 h,Ajc];unfold Auh
  rw[a1,cf,show decide ((k:Int)≥(l.length:Int))=false by simp;omega,cf]
 ·refine⟨0,k,by omega,by omega,I,fun K=>?_⟩
  rw[Xh];unfold X9
  rw[show decide ((k:Int)≥(l.length:Int))=true by simp;omega,ct]
theorem Alh {N m:Nat} {l:List Int} {t o:Bool} (G:l.length≤9223372036854775807) (n:Int) (I:1≤n) (L:n≤4611686018427387904) (S:m≤1000):∀ (r j fuel:Nat) (k:Nat) (A:List Int),j+r=m→r<fuel→k≤l.length→A.length=j →
  ∃ (B:List Int) (M:Nat),B.length=r∧(∀ x ∈ B,0≤x∧x<n)∧M≤l.length∧∀ K:Nat→Int→LA→O R,F0 N K (m:Int) n (Av l) l.length t o fuel j (j:Int) (k:Int) (Av A)=K m (M:Int) (Av (A++B))
 | 0,j,fuel+1,k,A,T,_,C,hA=>by
  refine⟨[],k,rfl,by simp,C,fun K=>?_⟩
  rw[F0];unfold Of
  have:j=m:=by omega
  subst this
  rw[Lm (Nat.le_refl _),cf,List.append_nil]
 | r+1,j,fuel+1,k,A,T,hf,C,hA=>by
  obtain⟨v,U,v0,v1,D,V⟩:=nx (R:=R) (N:=N) (t:=t) (o:=o) G n I L k C
  obtain⟨B,Y,b1,b2,b3,b4⟩:=Alh G n I L S r (j+1) fuel U (A++[v]) (by omega) (by omega) D (by simp[hA])
  refine⟨v::B,Y,by simp[b1],?_,b3,fun K=>?_⟩
  ·intro x F
   rcases List.mem_cons.1 F with rfl | F
   ·exact⟨v0,v1⟩
   ·exact b2 x F
  ·rw[F0];unfold Of
   have c3:(Nat.ble (j+1) 140737488355328&&Nat.ble ((j+1)*8) 140737488355328)=true:=by rw[Fj,Fj];simp;omega
   have c5:List.take (j*1) (Av A)++[.int .i64 v]=Av (A++[v]):=Av5 (B:=[v]) hA.symm
   rw[Jy (by omega),ct,V,c3,ct,c5,Fr (by omega),b4]
   simp
theorem IK {N m:Nat} {l:List Int} {t o:Bool} (hN:1001≤N) (D:l.length≤9223372036854775807) (n:Int) (F:1≤n) (G:n≤4611686018427387904) (I:m≤1000) (k:Nat) (L:k≤l.length) :
  ∃ (B:List Int) (C:Nat),B.length=m∧(∀ x ∈ B,0≤x∧x<n)∧C≤l.length∧∀ K:Nat→Int→LA→O R,E3 N (m:Int) n (Av l) l.length t o (k:Int) K=K m (C:Int) (Av B):=by
 obtain⟨B,C,M,S,b3,T⟩:=Alh (R:=R) (N:=N) (t:=t) (o:=o) D n F G I m 0 N k [] (by omega) (by omega) L rfl
 refine⟨B,C,M,S,b3,fun K=>?_⟩
 rw[LL];unfold Va
 simpa[Av] using T K
theorem v6 {N:Nat} {l:List Int} {t o:Bool} (F:l.length≤9223372036854775807) (H:Int) (T:1≤H) (h2:H≤1000) (k:Nat) (U:k≤l.length) :
  ∃ (B:List Int) (G:Nat),B.length≤1∧(∀ x ∈ B,0≤x∧x<H)∧G≤l.length∧∀ K:Nat→Int→LA→O R,Mb N H (Av l) l.length t o (k:Int) K=K B.length (G:Int) (Av B):=by
 obtain⟨v,I,v0,v1,C,L⟩:=nx (R:=R) (N:=N) (t:=t) (o:=o) F 6 (by omega) (by omega) k U
 by_cases M:v=5
 ·obtain⟨u,V,u0,u1,D,Y⟩:=nx (R:=R) (N:=N) (t:=t) (o:=o) F H T (by omega) I C
  refine⟨[u],V,by simp,by intro x S;simp at S;subst S;exact⟨u0,u1⟩,D,fun K=>?_⟩
  rw[Xi];unfold Ya
  rw[L,Y,M];rfl
 ·refine⟨[],I,by simp,by simp,C,fun K=>?_⟩
  rw[Xi];unfold Ya
  have:(v==5)=false:=by simpa using M
  rw[L,this];rfl
def Bhp:List UInt8:=[48,49,50,51,52,53,54,55,56,57,97,98,99,100,101,102]
theorem Uc {N:Nat} {c:UInt8} {i:Nat} (hi:i<16) {K:List UInt8→O R}:LN N [c] (i:Int) K=K [c,Bhp.getD i 0]:=by
 rw[y7];unfold Ajf
 have e1:Int.tmod (i:Int) 16=(i:Int):=Int.tmod_eq_of_lt (by omega) (by omega)
 rw[e1,Fr (by omega)]
 have c1:(decide ((0:Int)≤(i:Int))&&(decide ((i:Int)≤((i+1:Nat):Int))&&(decide (((i+1:Nat):Int)≤(16:Int))&&decide ((16:Int)≤(16:Int)))))=true:=by simp;omega
 rw[c1,ct]
 simp only[Int.toNat_natCast,Nat.add_sub_cancel_left]
 have:List.take 1 (List.drop i ([48,49,50,51,52,53,54,55,56,57,97,98,99,100,101,102]:List UInt8))=[Bhp.getD i 0]:=by
  rw[Ci (by simpa using hi)]
  simp[Bhp,hi]
 rw[this];rfl
end
end Gx.Cf

namespace Gx.Cf
open Go Go.Proofs
section
variable {R:Type}
theorem Qx {a:Int} (h:-9223372036854775808≤a∧a≤9223372036854775807):IntKind.wrap .i64 a=a:=Y0 a h
theorem I0 {lo hi n:Int} (h:lo≤n∧n≤hi):Fs lo hi n=true:=by unfold Fs;simp;omega
structure LineG (i:Nat) (fr to H:Int) (x:LineD):Prop where
 name:x.name=[108,Bhp.getD i 0]
 fr:x.fr=fr
 to:x.to=to
 re:(Tl x.re&&decide (x.re.num>0))=true
 smin:(Tl x.smin&&decide (x.smin.num≤0))=true
 smax:(Tl x.smax&&decide (x.smax.num≥0))=true
 lim:Fs 0 1048576 x.limit=true
 em:Fs x.limit 1048576 x.emer=true
 aw:x.away.l.length≤1
 awr:∀ y ∈ x.away.l,0≤y∧y<H
theorem Arp {f:FracD} (h:1≤f.den∧f.den≤1048576∧-1048576≤f.num∧f.num≤1048576):Tl f=true:=by unfold Tl;rw[I0 (by omega),I0 (by omega)];rfl
theorem Xt {B:List Int}:List.take (B.length*1) (Av B)=B.flatMap HC:=by rw[Nat.mul_one,List.take_of_length_le (by rw[Ew];exact Nat.le_refl _),Fz]
theorem Arq {N:Nat} {l:List Int} {t o:Bool} (D:l.length≤9223372036854775807) {i:Nat} (hi:i<16) (fr to:Int) {H:Int} (hH:1≤H∧H≤24) (k:Nat) (hk:k≤l.length) :
  ∃ (x:LineD) (k':Nat),LineG i fr to H x∧k'≤l.length∧∀ K:LA→Int→O R,Qi N (i:Int) fr to H (Av l) l.length t o (k:Int) K=K x.av (k':Int):=by
 obtain⟨y2,ky2,y20,y21,M,S⟩:=nx (R:=R) (N:=N) (t:=t) (o:=o) D 4 (by omega) (by omega) k hk
 obtain⟨y4,ky4,y40,y41,T,U⟩:=nx (R:=R) (N:=N) (t:=t) (o:=o) D 2 (by omega) (by omega) ky2 M
 obtain⟨y6,ky6,y60,y61,V,Y⟩:=nx (R:=R) (N:=N) (t:=t) (o:=o) D 40 (by omega) (by omega) ky4 T
 obtain⟨y8,ky8,y80,y81,hky8,hy8⟩:=nx (R:=R) (N:=N) (t:=t) (o:=o) D 20 (by omega) (by omega) ky6 V
 obtain⟨y10,ky10,y100,y101,C,F⟩:=nx (R:=R) (N:=N) (t:=t) (o:=o) D 5 (by omega) (by omega) ky8 hky8
 by_cases h4:y10=4
 ·have e4:(y10==4)=true:=by simpa using h4
  obtain⟨y12,ky12,y120,y121,G,hy12⟩:=nx (R:=R) (N:=N) (t:=t) (o:=o) D 4 (by omega) (by omega) ky10 C
  obtain⟨y14,ky14,y140,y141,I,hy14⟩:=nx (R:=R) (N:=N) (t:=t) (o:=o) D 2 (by omega) (by omega) ky12 G
  obtain⟨y16,ky16,y160,y161,L,hy16⟩:=nx (R:=R) (N:=N) (t:=t) (o:=o) D 4 (by omega) (by omega) ky14 I
  obtain⟨B,kB,b1,b2,hkB,hB⟩:=v6 (R:=R) (N:=N) (t:=t) (o:=o) D H hH.1 (by omega) ky16 L
  refine⟨⟨[108,Bhp.getD i 0],fr,to,⟨1+y2,1+y4⟩,⟨0 - y12,1+y14⟩,⟨y16,1⟩,4+y6,4+y6+y8,.of B false false⟩,kB,⟨rfl,rfl,rfl,?_,?_,?_,I0 (by simp only;omega),I0 (by simp only;omega),b1,b2⟩,hkB,fun K=>?_⟩
  ·rw[Arp (by simp only;omega)];simp;omega
  ·rw[Arp (by simp only;omega)];simp;omega
  ·rw[Arp (by simp only;omega)];simp;omega
  ·rw[Xj];unfold Yb
   rw[Uc hi,S,U,Y,hy8,F,e4,ct,hy12,hy14,hy16,hB,Xt,Qx (a:=1+y2) (by omega),Qx (a:=1+y4) (by omega),Qx (a:=0 - y12) (by omega),Qx (a:=1+y14) (by omega),Qx (a:=4+y6) (by omega),Qx (a:=4+y6+y8) (by omega)]
   rfl
 ·have e4:(y10==4)=false:=by simpa using h4
  obtain⟨B,kB,b1,b2,hkB,hB⟩:=v6 (R:=R) (N:=N) (t:=t) (o:=o) D H hH.1 (by omega) ky10 C
  refine⟨⟨[108,Bhp.getD i 0],fr,to,⟨1+y2,1+y4⟩,⟨0,1⟩,⟨0,1⟩,4+y6,4+y6+y8,.of B false false⟩,kB,⟨rfl,rfl,rfl,?_,?_,?_,I0 (by simp only;omega),I0 (by simp only;omega),b1,b2⟩,hkB,fun K=>?_⟩
  ·rw[Arp (by simp only;omega)];simp;omega
  ·rw[Arp (by simp only;omega)];simp
  ·rw[Arp (by simp only;omega)];simp
  ·rw[Xj];unfold Yb
   rw[Uc hi,S,U,Y,hy8,F,e4,cf,hB,Xt,Qx (a:=1+y2) (by omega),Qx (a:=1+y4) (by omega),Qx (a:=4+y6) (by omega),Qx (a:=4+y6+y8) (by omega)]
   rfl
structure UnitG (i:Nat) (nb H:Int) (u:UnitD):Prop where
 name:u.name=[117,Bhp.getD i 0]
 bus:0≤u.bus∧u.bus<nb
 min:Fs 0 1048576 u.min=true
 max:Fs u.min 1048576 u.max=true
 sl:1≤u.segs.l.length∧u.segs.l.length≤8
 sok:u.segs.l.all Gq=true
 sord:gR u.segs.l=true
 ssum:(WY 0 u.segs.l==IntKind.wrap .i64 (u.max - u.min))=true
 noLoad:Fs 0 1048576 u.noLoad=true
 rampUp:Fs 0 1048576 u.rampUp=true
 rampDown:Fs 0 1048576 u.rampDown=true
 startRamp:Fs u.min u.max u.startRamp=true
 stopRamp:Fs u.min u.max u.stopRamp=true
 upTime:Fs 0 24 u.upTime=true
 downTime:Fs 0 24 u.downTime=true
 startTime:Fs 0 24 u.startTime=true
 hotCost:Fs 0 1048576 u.hotCost=true
 coldCost:Fs 0 1048576 u.coldCost=true
 hotHours:Fs 0 24 u.hotHours=true
 reserve:Fs 0 1048576 u.reserve=true
 reservePrice:Fs 0 1048576 u.reservePrice=true
 aw:u.away.l.length≤1
 awr:∀ y ∈ u.away.l,0≤y∧y<H
 state:Fs 0 2 u.state=true
 starting:(u.state != 1||u.startTime != 0)=true
 hours:Fs 1 48 u.hours=true
 started:(u.state != 1||decide (u.hours≤u.startTime))=true
 output:cond (u.state==2) (Fs u.min u.max u.output) (Fs 0 0 u.output)=true
theorem Arr {s:SegD}:∀ {S:List SegD},gR S=true→(∀ x ∈ S,x.price≤s.price)→gR (S++[s])=true
 | [],_,_=>Ak7 s
 | [a],_,h=>by
  rw[List.cons_append,List.nil_append,WZ,Ak7]
  have:=h a (by simp);simp;omega
 | a::b::r,k,h=>by
  rw[WZ] at k
  simp only[Bool.and_eq_true] at k
  rw[List.cons_append,List.cons_append,WZ,k.1]
  have:=Arr (S:=b::r) k.2 (fun x D=>h x (by rcases List.mem_cons.1 D with C | C<;>simp[C]))
  simpa using this
theorem Ars {s:SegD}:∀ {S:List SegD} {a:Int},WY a (S++[s])=IntKind.wrap .i64 (WY a S+s.width)
 | [],a=>rfl
 | x::r,a=>by rw[List.cons_append,WY,WY];exact Ars
theorem Bdu (S:List SegD):(S.flatMap SegD.av).length=S.length*2:=by
 induction S with
 | nil=>rfl
 | cons e r k=>rw[List.flatMap_cons,List.length_append,k,II];simp;omega
theorem v7 {S:List SegD} {n:Nat} (h:n=S.length):List.take (n*2) (S.flatMap SegD.av)=S.flatMap SegD.av:=List.take_of_length_le (by rw[Bdu,h];exact Nat.le_refl _)
theorem Art {N:Nat} {l:List Int} {t o:Bool} (C:l.length≤9223372036854775807) {i:Nat} {nb H bus mn noLoad:Int} (hb:0≤bus∧bus<nb) (hmn:0≤mn∧mn<8) (hno:0≤noLoad∧noLoad<20) (hH:1≤H∧H≤24):∀ (n fuel:Nat) (p:Int) (k:Nat) (M:Int) (S:List SegD),n<fuel→k≤l.length→S.length+n≤2→1≤S.length+n→(∀ x ∈ S,x.price≤p∧Gq x=true)→gR S=true→WY 0 S=M - mn→0≤M - mn→M - mn≤15*S.length→-10≤p→p≤20+10*S.length →
  ∃ (u:UnitD) (k':Nat),UnitG i nb H u∧k'≤l.length∧∀ K:LA→Int→O R,Fo N K H (Av l) l.length t o [117,Bhp.getD i 0] bus mn noLoad fuel p (n:Int) (k:Int) M S.length (S.flatMap SegD.av)=K u.av (k':Int)
 | 0,fuel+1,p,k,M,S,_,hk,hS,hS1,hp,ho,hw,hM0,hM1,_,_=>by
  obtain⟨y16,ky16,y160,y161,G,hy16⟩:=nx (R:=R) (N:=N) (t:=t) (o:=o) C 20 (by omega) (by omega) k hk
  obtain⟨y18,ky18,y180,y181,I,hy18⟩:=nx (R:=R) (N:=N) (t:=t) (o:=o) C 20 (by omega) (by omega) ky16 G
  obtain⟨y20,ky20,y200,y201,L,hy20⟩:=nx (R:=R) (N:=N) (t:=t) (o:=o) C (M - mn+1) (by omega) (by omega) ky18 I
  obtain⟨y22,ky22,y220,y221,T,hy22⟩:=nx (R:=R) (N:=N) (t:=t) (o:=o) C (M - mn+1) (by omega) (by omega) ky20 L
  obtain⟨y24,ky24,y240,y241,U,hy24⟩:=nx (R:=R) (N:=N) (t:=t) (o:=o) C 3 (by omega) (by omega) ky22 T
  obtain⟨y26,ky26,y260,y261,V,hy26⟩:=nx (R:=R) (N:=N) (t:=t) (o:=o) C 3 (by omega) (by omega) ky24 U
  obtain⟨y28,ky28,y280,y281,Y,hy28⟩:=nx (R:=R) (N:=N) (t:=t) (o:=o) C 2 (by omega) (by omega) ky26 V
  obtain⟨y30,ky30,y300,y301,hky30,hy30⟩:=nx (R:=R) (N:=N) (t:=t) (o:=o) C 30 (by omega) (by omega) ky28 Y
  obtain⟨y32,ky32,y320,y321,hky32,hy32⟩:=nx (R:=R) (N:=N) (t:=t) (o:=o) C 30 (by omega) (by omega) ky30 hky30
  obtain⟨y34,ky34,y340,y341,hky34,hy34⟩:=nx (R:=R) (N:=N) (t:=t) (o:=o) C 4 (by omega) (by omega) ky32 hky32
  obtain⟨y36,ky36,y360,y361,hky36,hy36⟩:=nx (R:=R) (N:=N) (t:=t) (o:=o) C 8 (by omega) (by omega) ky34 hky34
  obtain⟨y38,ky38,y380,y381,hky38,hy38⟩:=nx (R:=R) (N:=N) (t:=t) (o:=o) C 4 (by omega) (by omega) ky36 hky36
  obtain⟨B,kB,b1,b2,hkB,hB⟩:=v6 (R:=R) (N:=N) (t:=t) (o:=o) C H hH.1 (by omega) ky38 hky38
  obtain⟨y43,ky43,y430,y431,hky43,hy43⟩:=nx (R:=R) (N:=N) (t:=t) (o:=o) C (2+y28) (by omega) (by omega) kB hkB
  obtain⟨y46,ky46,y460,y461,D,hy46⟩:=nx (R:=R) (N:=N) (t:=t) (o:=o) C 4 (by omega) (by omega) ky43 hky43
  have i43:Ac y43 3=true:=Aro y430 (by omega)
  obtain⟨x45,hx45,hst⟩:∃ x45:Int,(∀ f:Int→O R,An .i64 (List.drop (0+((Int.toNat y43)*1)) [(.int .i64 (0:Int)),(.int .i64 (2:Int)),(.int .i64 (1:Int))]) f=f x45)∧(x45=0∨x45=2∨(x45=1∧y28=1)):=by
   have e:[(.int .i64 (0:Int)),(.int .i64 (2:Int)),(.int .i64 (1:Int))]=Av [0,2,1]:=rfl
   refine⟨([0,2,1]:List Int).getD y43.toNat 0,fun f=>by rw[e,Bb3 (by simp;omega)],?_⟩
   have:y43=0∨y43=1∨y43=2:=by omega
   rcases this with rfl | rfl | rfl
   ·left;rfl
   ·right;left;rfl
   ·right;right;exact⟨rfl,by omega⟩
  have wM:IntKind.wrap .i64 (IntKind.wrap .i64 (M - mn)+1)=M - mn+1:=by rw[Qx (a:=M - mn) (by omega),Qx (by omega)]
  have head:∀ K:LA→Int→O R,Fo N K H (Av l) l.length t o [117,Bhp.getD i 0] bus mn noLoad (fuel+1) p ((0:Nat):Int) (k:Int) M S.length (S.flatMap SegD.av) =
    Nh N K (Av l) l.length t o (ky46:Int) [117,Bhp.getD i 0] bus mn M S.length noLoad y16 y18 y24 y26 y28 y30 y34 y36 y38 B.length x45 (S.flatMap SegD.av) (Av B) (mn+y20) (mn+y22) (y30+y32) (cond (x45==1) 1 (1+y46)):=fun K=>by
   rw[Fo];unfold Qj
   rw[show decide (((0:Nat):Int)>0)=false from rfl,cf,wM,hy16,hy18,hy20,hy22,hy24,hy26,hy28,hy30,hy32,hy34,hy36,hy38,hB,Qx (a:=2+y28) (by omega),hy43,i43,ct,hx45,hy46,Qx (a:=mn+y20) (by omega),Qx (a:=mn+y22) (by omega),Qx (a:=y30+y32) (by omega),Qx (a:=1+y46) (by omega)]
   cases x45==1<;>rfl
  have hhr:1≤(cond (x45==1) (1:Int) (1+y46))∧(cond (x45==1) (1:Int) (1+y46))≤4:=by cases x45==1<;>simp<;>omega
  have hst1:x45=1→cond (x45==1) (1:Int) (1+y46)=1:=by intro e;subst e;rfl
  have sall:S.all Gq=true:=by rw[List.all_eq_true];exact fun x hx=>(hp x hx).2
  have ssum:(WY 0 S==IntKind.wrap .i64 (M - mn))=true:=by rw[Qx (a:=M - mn) (by omega),hw];simp
  have starting:(x45 != 1||y28 != 0)=true:=by
   rcases hst with h | h | ⟨h,h'⟩
   ·rw[h];rfl
   ·rw[h];rfl
   ·rw[h,h'];rfl
  have started:(x45 != 1||decide ((cond (x45==1) (1:Int) (1+y46))≤y28))=true:=by
   rcases hst with h | h | ⟨h,h'⟩
   ·rw[h];rfl
   ·rw[h];rfl
   ·rw[h,h'];rfl
  have stR:Fs 0 2 x45=true:=I0 (by omega)
  by_cases F:x45=2
  ·obtain⟨y48,ky48,y480,y481,hky48,hy48⟩:=nx (R:=R) (N:=N) (t:=t) (o:=o) C (M - mn+1) (by omega) (by omega) ky46 D
   refine⟨⟨[117,Bhp.getD i 0],bus,mn,M,.of S false false,noLoad,y16,y18,mn+y20,mn+y22,y24,y26,y28,y30,y30+y32,y34,y36,y38,.of B false false,x45,cond (x45==1) 1 (1+y46),mn+y48⟩,ky48,
    ⟨rfl,hb,I0 (by simp only;omega),I0 (by simp only;omega),by simp only[Sl.l];omega,sall,ho,ssum,I0 (by simp only;omega),I0 (by simp only;omega),I0 (by simp only;omega),I0 (by simp only;omega),I0 (by simp only;omega),I0 (by simp only;omega),I0 (by simp only;omega),I0 (by simp only;omega),I0 (by simp only;omega),I0 (by simp only;omega),I0 (by simp only;omega),I0 (by simp only;omega),I0 (by simp only;omega),b1,b2,stR,starting,I0 (by simp only;omega),started,?_⟩,hky48,fun K=>?_⟩
   ·have:(x45==2)=true:=by simpa using F
    simp only[this,cond_true];exact I0 (by omega)
   ·rw[head];unfold Nh
    have:(x45==2)=true:=by simpa using F
    rw[this,ct,wM,hy48,Qx (a:=mn+y48) (by omega),v7 rfl,Xt]
    rfl
  ·refine⟨⟨[117,Bhp.getD i 0],bus,mn,M,.of S false false,noLoad,y16,y18,mn+y20,mn+y22,y24,y26,y28,y30,y30+y32,y34,y36,y38,.of B false false,x45,cond (x45==1) 1 (1+y46),0⟩,ky46,
    ⟨rfl,hb,I0 (by simp only;omega),I0 (by simp only;omega),by simp only[Sl.l];omega,sall,ho,ssum,I0 (by simp only;omega),I0 (by simp only;omega),I0 (by simp only;omega),I0 (by simp only;omega),I0 (by simp only;omega),I0 (by simp only;omega),I0 (by simp only;omega),I0 (by simp only;omega),I0 (by simp only;omega),I0 (by simp only;omega),I0 (by simp only;omega),I0 (by simp only;omega),I0 (by simp only;omega),b1,b2,stR,starting,I0 (by simp only;omega),started,?_⟩,D,fun K=>?_⟩
   ·have:(x45==2)=false:=by simpa using F
    simp only[this,cond_false];exact I0 (by omega)
   ·rw[head];unfold Nh
    have:(x45==2)=false:=by simpa using F
    rw[this,cf,v7 rfl,Xt]
    rfl
 | n+1,fuel+1,p,k,M,S,hf,hk,hS,hS1,hp,ho,hw,hM0,hM1,hp0,hp1=>by
  obtain⟨y12,ky12,y120,y121,hky12,hy12⟩:=nx (R:=R) (N:=N) (t:=t) (o:=o) C 15 (by omega) (by omega) k hk
  obtain⟨y14,ky14,y140,y141,hky14,hy14⟩:=nx (R:=R) (N:=N) (t:=t) (o:=o) C 10 (by omega) (by omega) ky12 hky12
  obtain⟨u,k',g1,g2,g3⟩:=Art (N:=N) (t:=t) (o:=o) (i:=i) (nb:=nb) (H:=H) (bus:=bus) (mn:=mn) (noLoad:=noLoad) C hb hmn hno hH n fuel (p+y14) ky14 (M+(1+y12)) (S++[(⟨1+y12,p⟩:SegD)]) (by omega) hky14 (by simp;omega) (by simp;omega) (by
   intro x hx
   rcases List.mem_append.1 hx with h | h
   ·have:=hp x h;exact⟨by omega,this.2⟩
   ·simp at h;subst h
    refine⟨by simp only;omega,?_⟩
    unfold Gq;rw[I0 (by simp only;omega),I0 (by simp only;omega)];rfl) (Arr ho (fun x hx=>(hp x hx).1)) (by rw[Ars,hw,Qx (by simp only;omega)];simp only;omega) (by omega) (by simp;omega) (by omega) (by simp;omega)
  refine⟨u,k',g1,g2,fun K=>?_⟩
  rw[Fo];unfold Qj
  have c3:(Nat.ble (S.length+1) 140737488355328&&Nat.ble ((S.length+1)*16) 140737488355328)=true:=by rw[Fj,Fj];simp;omega
  have c5:List.take (S.length*2) (S.flatMap SegD.av)++[.int .i64 (1+y12),.int .i64 p]=(S++[(⟨1+y12,p⟩:SegD)]).flatMap SegD.av:=by rw[v7 rfl];simp[SegD.av]
  have wn:IntKind.wrap .i64 (((n+1:Nat):Int) - 1)=(n:Int):=Ak4 (by omega)
  rw[show decide (((n+1:Nat):Int)>0)=true from decide_eq_true (by omega),ct,hy12,c3,ct,hy14,Qx (a:=1+y12) (by omega),Qx (a:=p+y14) (by omega),wn,Qx (a:=M+(1+y12)) (by omega),c5]
  have:=g3 K
  rw[List.length_append] at this
  exact this
theorem A9w {N:Nat} {l:List Int} {t o:Bool} (hN:8≤N) (D:l.length≤9223372036854775807) {i:Nat} (hi:i<16) {nb H:Int} (hnb:1≤nb∧nb≤1000) (hH:1≤H∧H≤24) (k:Nat) (hk:k≤l.length) :
  ∃ (u:UnitD) (S:Nat),UnitG i nb H u∧S≤l.length∧∀ K:LA→Int→O R,Qk N (i:Int) nb H (Av l) l.length t o (k:Int) K=K u.av (S:Int):=by
 obtain⟨y2,ky2,y20,y21,F,T⟩:=nx (R:=R) (N:=N) (t:=t) (o:=o) D nb (by omega) (by omega) k hk
 obtain⟨y4,ky4,y40,y41,G,U⟩:=nx (R:=R) (N:=N) (t:=t) (o:=o) D 8 (by omega) (by omega) ky2 F
 obtain⟨y6,ky6,y60,y61,I,V⟩:=nx (R:=R) (N:=N) (t:=t) (o:=o) D 20 (by omega) (by omega) ky4 G
 obtain⟨y8,ky8,y80,y81,L,Y⟩:=nx (R:=R) (N:=N) (t:=t) (o:=o) D 20 (by omega) (by omega) ky6 I
 obtain⟨y10,ky10,y100,y101,C,M⟩:=nx (R:=R) (N:=N) (t:=t) (o:=o) D 2 (by omega) (by omega) ky8 L
 obtain⟨n,hn⟩:∃ n:Nat,1+y10=(n:Int):=⟨(1+y10).toNat,by omega⟩
 obtain⟨u,S,g1,g2,g3⟩:=Art (R:=R) (N:=N) (l:=l) (t:=t) (o:=o) D (i:=i) (nb:=nb) (H:=H) (bus:=y2) (mn:=y4) (noLoad:=y6) ⟨y20,y21⟩ ⟨y40,y41⟩ ⟨y60,y61⟩ hH n N (y8 - 2) ky10 y4 [] (by omega) C (by simp;omega) (by simp;omega) (by simp) A0s (by simp[WY]) (by omega) (by simp) (by omega) (by simp;omega)
 refine⟨u,S,g1,g2,fun K=>?_⟩
 rw[QS];unfold Yc
 rw[Uc hi,T,U,V,Y,M,Qx (a:=y8 - 2) (by omega),Qx (a:=1+y10) (by omega),hn]
 simpa using g3 K
structure OutG (i:Nat) (nl nu:Nat) (x:OutD):Prop where
 name:x.name=[111,Bhp.getD i 0]
 ll:x.lines.l.length=1∨x.lines.l.length=2
 lr:∀ y ∈ x.lines.l,0≤y∧y<(nl:Int)
 la:Alm x.lines.l=true
 ml:x.moves.l.length≤nu
 mc:((x.moves.l.length:Int)==0||x.corr)=true
 mr:∀ m ∈ x.moves.l,0≤m.unit∧m.unit<(nu:Int)
 ma:Alm (x.moves.l.map (·.unit))=true
 mi:x.moves.l.all A9r=true
theorem A0z {s:Int}:∀ {S:List Int},Alm S=true→(∀ x ∈ S,x<s)→Alm (S++[s])=true
 | [],_,_=>sr s
 | [a],_,h=>by
  rw[List.cons_append,List.nil_append,SP,sr]
  have:=h a (by simp);simp;omega
 | a::b::r,k,h=>by
  rw[SP] at k
  simp only[Bool.and_eq_true] at k
  rw[List.cons_append,List.cons_append,SP,k.1]
  have:=A0z (S:=b::r) k.2 (fun x D=>h x (by rcases List.mem_cons.1 D with C | C<;>simp[C]))
  simpa using this
theorem Bb9 (S:List MoveD):(S.flatMap MoveD.av).length=S.length*3:=by
 induction S with
 | nil=>rfl
 | cons e r k=>rw[List.flatMap_cons,List.length_append,k,Qw];simp;omega
theorem v8 {N:Nat} {l:List Int} {t o:Bool} (M:l.length≤9223372036854775807) {i nl nu:Nat} (T:nu≤16) {B:List Int} (hB1:B.length=1∨B.length=2) (hB2:∀ y ∈ B,0≤y∧y<(nl:Int)) (hB3:Alm B=true):∀ (m j fuel:Nat) (k:Nat) (S:List MoveD),j+m=nu→m<fuel→k≤l.length→S.length≤j→(∀ x ∈ S,0≤x.unit∧x.unit<(j:Int))→Alm (S.map (·.unit))=true→S.all A9r=true →
  ∃ (x:OutD) (I:Nat),OutG i nl nu x∧I≤l.length∧∀ K:LA→Int→O R,Fb N K (nu:Int) (Av l) l.length t o [111,Bhp.getD i 0] B.length (Av B) fuel (j:Int) (k:Int) S.length (S.flatMap MoveD.av)=K x.av (I:Int)
 | 0,j,fuel+1,k,S,hj,_,hk,hS,hr,Y,hi=>by
  have hju:j=nu:=by omega
  subst hju
  refine⟨⟨[111,Bhp.getD i 0],.of B false false,true,.of S false false⟩,k,⟨rfl,hB1,hB2,hB3,hS,by simp,hr,Y,hi⟩,hk,fun K=>?_⟩
  rw[Fb];unfold Ib
  rw[Lm (Nat.le_refl _),cf,Xt,List.take_of_length_le (by rw[Bb9];exact Nat.le_refl _)]
  rfl
 | m+1,j,fuel+1,k,S,hj,hf,hk,hS,hr,Y,hi=>by
  obtain⟨y10,ky10,y100,y101,C,D⟩:=nx (R:=R) (N:=N) (t:=t) (o:=o) M 2 (by omega) (by omega) k hk
  by_cases h1:y10=1
  ·obtain⟨y12,ky12,y120,y121,F,U⟩:=nx (R:=R) (N:=N) (t:=t) (o:=o) M 8 (by omega) (by omega) ky10 C
   obtain⟨y14,ky14,y140,y141,G,V⟩:=nx (R:=R) (N:=N) (t:=t) (o:=o) M 8 (by omega) (by omega) ky12 F
   obtain⟨x,I,g1,g2,g3⟩:=v8 (N:=N) (t:=t) (o:=o) (i:=i) (nl:=nl) (nu:=nu) M T hB1 hB2 hB3 m (j+1) fuel ky14 (S++[(⟨j,y12,y14⟩:MoveD)]) (by omega) (by omega) G (by simp;omega) (by
    intro x L
    rcases List.mem_append.1 L with h | h
    ·have:=hr x h;omega
    ·simp at h;subst h;simp only;omega) (by
    rw[List.map_append];exact A0z Y (by
     intro x L
     simp only[List.mem_map] at L
     obtain⟨y,hy,rfl⟩:=L
     exact(hr y hy).2)) (by
    rw[List.all_append,hi]
    simp only[List.all_cons,List.all_nil,Bool.and_true,Bool.true_and]
    unfold A9r;rw[I0 (by simp only;omega),I0 (by simp only;omega)];rfl)
   refine⟨x,I,g1,g2,fun K=>?_⟩
   rw[Fb];unfold Ib
   have e1:(y10==1)=true:=by simpa using h1
   have c3:(Nat.ble (S.length+1) 140737488355328&&Nat.ble ((S.length+1)*24) 140737488355328)=true:=by rw[Fj,Fj];simp;omega
   have c5:List.take (S.length*3) (S.flatMap MoveD.av)++[.int .i64 (j:Int),.int .i64 y12,.int .i64 y14]=(S++[(⟨j,y12,y14⟩:MoveD)]).flatMap MoveD.av:=by
    rw[List.take_of_length_le (by rw[Bb9];exact Nat.le_refl _)];simp[MoveD.av]
   rw[Jy (by omega),ct,D,e1,ct,U,V,c3,ct,c5,Fr (by omega)]
   have:=g3 K
   rw[List.length_append] at this
   exact this
  ·obtain⟨x,I,g1,g2,g3⟩:=v8 (N:=N) (t:=t) (o:=o) (i:=i) (nl:=nl) (nu:=nu) M T hB1 hB2 hB3 m (j+1) fuel ky10 S (by omega) (by omega) C (by omega) (by intro x L;have:=hr x L;omega) Y hi
   refine⟨x,I,g1,g2,fun K=>?_⟩
   rw[Fb];unfold Ib
   have e1:(y10==1)=false:=by simpa using h1
   rw[Jy (by omega),ct,D,e1,cf,Fr (by omega),g3]
theorem Aru {N:Nat} {l:List Int} {t o:Bool} (hN:64≤N) (I:l.length≤9223372036854775807) {i nl nu:Nat} (G:nu≤16) {B:List Int} (hB1:B.length=1∨B.length=2) (hB2:∀ y ∈ B,0≤y∧y<(nl:Int)) (hB3:Alm B=true) (k:Nat) (M:k≤l.length) :
  ∃ (x:OutD) (F:Nat),OutG i nl nu x∧F≤l.length∧∀ K:LA→Int→O R,Fc N K (nu:Int) (Av l) l.length t o [111,Bhp.getD i 0] (k:Int) B.length (Av B)=K x.av (F:Int):=by
 obtain⟨y8,ky8,y80,y81,C,D⟩:=nx (R:=R) (N:=N) (t:=t) (o:=o) I 2 (by omega) (by omega) k M
 by_cases L:y8=1
 ·obtain⟨x,F,S,T,U⟩:=v8 (R:=R) (N:=N) (t:=t) (o:=o) (i:=i) (nl:=nl) (nu:=nu) I G hB1 hB2 hB3 nu 0 N ky8 [] (by omega) (by omega) C (by simp) (by simp) Av1 rfl
  refine⟨x,F,S,T,fun K=>?_⟩
  unfold Fc Mc
  have e1:(y8==1)=true:=by simpa using L
  rw[D,e1,ct]
  simpa using U K
 ·refine⟨⟨[111,Bhp.getD i 0],.of B false false,false,.of [] false false⟩,ky8,⟨rfl,hB1,hB2,hB3,by simp[Sl.l],by simp[Sl.l],by simp[Sl.l],Av1,rfl⟩,C,fun K=>?_⟩
  unfold Fc Mc
  have e1:(y8==1)=false:=by simpa using L
  rw[D,e1,cf,Xt]
  rfl
theorem A00 {N:Nat} {l:List Int} {t o:Bool} (hN:64≤N) (L:l.length≤9223372036854775807) {i nl nu:Nat} (hi:i<16) (hnl:1≤nl∧nl≤1000) (M:nu≤16) (k:Nat) (hk:k≤l.length) :
  ∃ (x:OutD) (C:Nat),OutG i nl nu x∧C≤l.length∧∀ K:LA→Int→O R,K6 N (i:Int) (nl:Int) (nu:Int) (Av l) l.length t o (k:Int) K=K x.av (C:Int):=by
 obtain⟨y2,ky2,y20,y21,S,G⟩:=nx (R:=R) (N:=N) (t:=t) (o:=o) L (nl:Int) (by omega) (by omega) k hk
 obtain⟨y4,ky4,y40,y41,D,I⟩:=nx (R:=R) (N:=N) (t:=t) (o:=o) L (nl:Int) (by omega) (by omega) ky2 S
 have one:∀ k0,k0≤l.length→∃ (x:OutD) (C:Nat),OutG i nl nu x∧C≤l.length∧∀ K:LA→Int→O R,Fc N K (nu:Int) (Av l) l.length t o [111,Bhp.getD i 0] (k0:Int) 1 [.int .i64 y2]=K x.av (C:Int):=fun k0 hk0 =>
  Aru (i:=i) (nl:=nl) hN L M (B:=[y2]) (.inl rfl) (by intro y T;simp at T;subst T;exact⟨y20,y21⟩) (sr _) k0 hk0
 by_cases h1:y4>y2
 ·obtain⟨y6,ky6,y60,y61,F,U⟩:=nx (R:=R) (N:=N) (t:=t) (o:=o) L 3 (by omega) (by omega) ky4 D
  by_cases h2:y6=2
  ·obtain⟨x,C,V,Y,g3⟩:=Aru (R:=R) (N:=N) (t:=t) (o:=o) (i:=i) (nl:=nl) (nu:=nu) hN L M (B:=[y2,y4]) (.inr rfl) (by intro y T;simp at T;rcases T with rfl | rfl<;>omega) (by rw[SP,sr];simp;omega) ky6 F
   refine⟨x,C,V,Y,fun K=>?_⟩
   rw[Md];unfold I8
   have e1:decide (y4>y2)=true:=by simpa using h1
   have e2:(y6==2)=true:=by simpa using h2
   rw[Uc hi,G,I,e1,U,e2]
   simpa[Av] using g3 K
  ·obtain⟨x,C,V,Y,g3⟩:=one ky6 F
   refine⟨x,C,V,Y,fun K=>?_⟩
   rw[Md];unfold I8
   have e1:decide (y4>y2)=true:=by simpa using h1
   have e2:(y6==2)=false:=by simpa using h2
   rw[Uc hi,G,I,e1,U,e2]
   exact g3 K
 ·obtain⟨x,C,V,Y,g3⟩:=one ky4 D
  refine⟨x,C,V,Y,fun K=>?_⟩
  rw[Md];unfold I8
  have e1:decide (y4>y2)=false:=by simpa using h1
  rw[Uc hi,G,I,e1]
  exact g3 K
end
end Gx.Cf

namespace Gx.Cf
open Go Go.Proofs
section
variable {R:Type}
def Aoe (f:Bool) (H:Nat) (res:List Int) (bs:List BusD) (ls:List LineD) (us:List UnitD) (ss:List StoreD) (ts:List TieD) (os:List OutD):CaseD :=
 ⟨(H:Int),.of res false f,.of bs false f,.of ls false f,.of us false f,.of ss false f,.of ts false f,.of os false f⟩
structure BusG (i H:Nat) (b:BusD):Prop where
 name:b.name=[98,Bhp.getD i 0]
 dl:b.demand.l.length=H
 dr:∀ x ∈ b.demand.l,0≤x∧x<14
 shed:0≤b.shed∧b.shed<300
structure StoreG (nb:Nat) (x:StoreD):Prop where
 name:x.name=[115,48]
 bus:0≤x.bus∧x.bus<(nb:Int)
 cap:0≤x.capacity∧x.capacity<20
 ini:0≤x.initial∧x.initial≤x.capacity
 fin:0≤x.final∧x.final≤x.capacity
 ch:0≤x.charge∧x.charge<8
 dis:0≤x.discharge∧x.discharge<8
 eff:1≤x.eff.num∧x.eff.num≤4∧x.eff.den=4
structure TieG (nb H:Nat) (x:TieD):Prop where
 name:x.name=[116,48]
 bus:0≤x.bus∧x.bus<(nb:Int)
 il:x.imp.l.length=H
 ir:∀ y ∈ x.imp.l,0≤y∧y<12
 el:x.exp.l.length=H
 er:∀ y ∈ x.exp.l,0≤y∧y<12
 pl:x.price.l.length=H
 pr:∀ y ∈ x.price.l,0≤y∧y<40
structure LineH (nb:Nat) (i:Nat) (H:Int) (x:LineD):Prop where
 g:LineG i x.fr x.to H x
 fr:0≤x.fr∧x.fr<(nb:Int)
 to:0≤x.to∧x.to<(nb:Int)
 ne:x.fr≠x.to
structure BaseG (H:Nat) (res:List Int) (bs:List BusD) (ls:List LineD) (us:List UnitD) (ss:List StoreD) (ts:List TieD):Prop where
 h:1≤H∧H≤3
 rl:res.length=H
 rr:∀ x ∈ res,0≤x∧x<5
 bl:1≤bs.length∧bs.length≤4
 bg:∀ i (h:i<bs.length),BusG i H bs[i]
 ll:ls.length≤7
 lg:∀ i (h:i<ls.length),LineH bs.length i H ls[i]
 ul:1≤us.length∧us.length≤3
 ug:∀ i (h:i<us.length),UnitG i bs.length H us[i]
 sl:ss.length≤1
 sg:∀ x ∈ ss,StoreG bs.length x
 tl:ts.length≤1
 tg:∀ x ∈ ts,TieG bs.length H x
structure OutsG (nl nu:Nat) (os:List OutD):Prop where
 l:os.length≤3
 g:∀ i (h:i<os.length),OutG i nl nu os[i]
theorem A9x {N:Nat} (hN:4096≤N) {f:Bool} {H:Nat} {C:List Int} {bs:List BusD} {ls:List LineD} {us:List UnitD} {ss:List StoreD} {ts:List TieD} {os:List OutD} (b:BaseG H C bs ls us ss ts) (g:OutsG ls.length us.length os):Small (Aoe f H C bs ls us ss ts os) N:=by
 have h:=b.h;have rl:=b.rl;have bl:=b.bl;have ll:=b.ll;have ul:=b.ul;have sl:=b.sl;have tl:=b.tl;have ol:=g.l
 have fit:∀ n:Nat,n≤100→Tk n N:=fun n hn=>⟨by omega,by omega⟩
 refine⟨by omega,fit _ (by simp only[Aoe,Sl.l];omega),fit _ (by simp only[Aoe,Sl.l];omega),fit _ (by simp only[Aoe,Sl.l];omega),fit _ (by simp only[Aoe,Sl.l];omega),fit _ (by simp only[Aoe,Sl.l];omega),fit _ (by simp only[Aoe,Sl.l];omega),fit _ (by simp only[Aoe,Sl.l];omega),
  fun x k=>?_,fun x k=>?_,fun x k=>?_,fun x k=>?_,fun x k=>?_,fun x k=>?_,fun x k=>?_,fun x k=>?_,fun x k=>?_,fun x k=>?_,by simp only[Aoe,Sl.l];omega⟩
 all_goals simp only[Aoe,Sl.l] at k
 ·obtain⟨i,hi,rfl⟩:=List.getElem_of_mem k;have:=(b.bg i hi).dl;exact fit _ (by omega)
 ·obtain⟨i,hi,rfl⟩:=List.getElem_of_mem k;have:=(b.lg i hi).g.aw;exact fit _ (by omega)
 ·obtain⟨i,hi,rfl⟩:=List.getElem_of_mem k;have:=(b.ug i hi).sl;exact fit _ (by omega)
 ·obtain⟨i,hi,rfl⟩:=List.getElem_of_mem k;have:=(b.ug i hi).aw;exact fit _ (by omega)
 ·have:=(b.tg x k).il;exact fit _ (by omega)
 ·have:=(b.tg x k).el;exact fit _ (by omega)
 ·have:=(b.tg x k).pl;exact fit _ (by omega)
 ·obtain⟨i,hi,rfl⟩:=List.getElem_of_mem k;have:=(g.g i hi).ll;exact fit _ (by omega)
 ·obtain⟨i,hi,rfl⟩:=List.getElem_of_mem k;have:=(g.g i hi).ml;exact fit _ (by omega)
 ·obtain⟨i,hi,rfl⟩:=List.getElem_of_mem k;have:=(g.g i hi).ml;omega
theorem Bca {α:Type} {e:α→LA} {sz:Nat} (k:∀ a,(e a).length=sz) (l:List α):(l.flatMap e).length=l.length*sz:=by
 induction l with
 | nil=>simp
 | cons a r C=>rw[List.flatMap_cons,List.length_append,C,k,List.length_cons,Nat.add_mul];omega
theorem Cn {α:Type} {e:α→LA} {sz n:Nat} (k:∀ a,(e a).length=sz) (l:List α) (hn:n=l.length):List.take (n*sz) (l.flatMap e)=l.flatMap e:=List.take_of_length_le (by rw[Bca k,hn];exact Nat.le_refl _)
theorem Pu {B:List Int} {n:Nat} (h:n=B.length):List.take (n*1) (Av B)=B.flatMap HC:=by rw[h];exact Xt
theorem gX {α:Type} {P:Nat→α→Prop} {l:List α} {x:α} (h:∀ i (h:i<l.length),P i l[i]) (C:P l.length x):∀ i (h:i<(l++[x]).length),P i (l++[x])[i]:=by
 intro i hi
 by_cases k:i<l.length
 ·rw[List.getElem_append_left k];exact h i k
 ·have:i=l.length:=by simp at hi;omega
  subst this
  simpa using C
theorem A4v {p:Kd} (h:(Is p==0)=true):p=none:=by
 rcases p with _ | ⟨x,e,k⟩
 ·rfl
 ·simp[Is] at h;exact absurd h k
theorem Av8 {N:Nat} {l:List Int} {o:Bool} (hN:4096≤N) (L:l.length≤9223372036854775807) {H:Nat} {C:List Int} {bs:List BusD} {ls:List LineD} {us:List UnitD} {ss:List StoreD} {ts:List TieD} (b:BaseG H C bs ls us ss ts):∀ (n fuel k:Nat) (os:List OutD),n<fuel→k≤l.length→os.length+n≤3→OutsG ls.length us.length os→(os=[]∨gW (Aoe true H C bs ls us ss ts os)=none) →
  ∃ D,OutsG ls.length us.length D∧(D=[]∨gW (Aoe true H C bs ls us ss ts D)=none)∧∀ K:LA→O R,Ih N K (Av l) l.length o (H:Int) C.length bs.length ls.length us.length ss.length ts.length (Av C) (bs.flatMap BusD.av) (ls.flatMap LineD.av) (us.flatMap UnitD.av) (ss.flatMap StoreD.av) (ts.flatMap TieD.av) fuel (n:Int) (k:Int) os.length (os.flatMap OutD.av)=K (Aoe false H C bs ls us ss ts D).av
 | 0,fuel+1,k,os,_,M,_,g,G=>by
  refine⟨os,g,G,fun K=>?_⟩
  rw[Ih];unfold Zw
  rw[show decide (((0:Nat):Int)>0)=false from rfl,Pu rfl,Cn SR _ rfl,Cn Hw _ rfl,Cn Qv _ rfl,Cn Pq _ rfl,Cn Z8 _ rfl,Cn Pr _ rfl]
  rfl
 | n+1,fuel+1,k,os,hf,M,hn,g,G=>by
  by_cases S:ls.length=0
  ·refine⟨os,g,G,fun K=>?_⟩
   rw[Ih];unfold Zw
   rw[show decide ((ls.length:Int)>0)=false from decide_eq_false (by omega),show decide (((n+1:Nat):Int)>0)=true from decide_eq_true (by omega),Pu rfl,Cn SR _ rfl,Cn Hw _ rfl,Cn Qv _ rfl,Cn Pq _ rfl,Cn Z8 _ rfl,Cn Pr _ rfl]
   rfl
  ·have T:=b.ul;have U:=b.ll
   obtain⟨x,I,gx,F,V⟩:=A00 (R:=R) (N:=N) (t:=false) (o:=o) (by omega) L (i:=os.length) (nl:=ls.length) (nu:=us.length) (by omega) (by omega) (by omega) k M
   have g':OutsG ls.length us.length (os++[x]):=⟨by simp;omega,gX g.g gx⟩
   have sm:=A9x (f:=true) hN b g'
   have wn:IntKind.wrap .i64 (((n+1:Nat):Int) - 1)=(n:Int):=Ak4 (by omega)
   have step:∀ K:LA→O R,Ih N K (Av l) l.length o (H:Int) C.length bs.length ls.length us.length ss.length ts.length (Av C) (bs.flatMap BusD.av) (ls.flatMap LineD.av) (us.flatMap UnitD.av) (ss.flatMap StoreD.av) (ts.flatMap TieD.av) (fuel+1) ((n+1:Nat):Int) (k:Int) os.length (os.flatMap OutD.av) =
     cond (Is (gW (Aoe true H C bs ls us ss ts (os++[x])))==0)
      (Ih N K (Av l) l.length o (H:Int) C.length bs.length ls.length us.length ss.length ts.length (Av C) (bs.flatMap BusD.av) (ls.flatMap LineD.av) (us.flatMap UnitD.av) (ss.flatMap StoreD.av) (ts.flatMap TieD.av) fuel (n:Int) (I:Int) (os++[x]).length ((os++[x]).flatMap OutD.av))
      (Ih N K (Av l) l.length o (H:Int) C.length bs.length ls.length us.length ss.length ts.length (Av C) (bs.flatMap BusD.av) (ls.flatMap LineD.av) (us.flatMap UnitD.av) (ss.flatMap StoreD.av) (ts.flatMap TieD.av) fuel (n:Int) (I:Int) os.length (os.flatMap OutD.av)):=fun K=>by
    rw[Ih];unfold Zw WG
    have c1:(Nat.ble (0+os.length) 140737488355328&&Nat.ble ((0+os.length)*72) 140737488355328)=true:=by rw[Fj,Fj];simp;omega
    have Y:(Nat.ble ((0+os.length)+1) 140737488355328&&Nat.ble (((0+os.length)+1)*72) 140737488355328)=true:=by rw[Fj,Fj];simp;omega
    have c3:List.take ((0+os.length)*4) (List.take (os.length*4) (os.flatMap OutD.av))++List.take 4 (setCells [(.str ([]:List UInt8)),.nsl,(.bool false),.nsl] 0 (List.take 4 x.av))=(os++[x]).flatMap OutD.av:=by
     rw[Nat.zero_add,Cn Pr _ rfl,Cn Pr _ rfl]
     simp only[List.flatMap_append,List.flatMap_cons,List.flatMap_nil,List.append_nil]
     rfl
    have c4:List.take (((0+os.length)+1)*4) ((os++[x]).flatMap OutD.av)=(os++[x]).flatMap OutD.av:=Cn Pr _ (by simp)
    have c5:(0+os.length)+1=(os++[x]).length:=by simp
    rw[show decide ((ls.length:Int)>0)=true from decide_eq_true (by omega),show decide (((n+1:Nat):Int)>0)=true from decide_eq_true (by omega)]
    simp only[beq_self_eq_true,cond_true]
    rw[V,show((Nat.beq 0 0)&&((Nat.beq (List.length x.av) 4)&&(Nat.beq 4 4)))=true from rfl,ct,c1,ct,show Nat.ble 4 (List.length x.av)=true from rfl,ct,show((Nat.beq (List.length (List.take 4 x.av)) 4)&&(Nat.ble 4 4))=true from rfl,ct,Y,ct,c3,c4,c5,Pu rfl,Cn SR _ rfl,Cn Hw _ rfl,Cn Qv _ rfl,Cn Pq _ rfl,Cn Z8 _ rfl]
    refine Eq.trans (Alg (R:=R) (N:=N) (c:=Aoe true H C bs ls us ss ts (os++[x])) (o:=true) sm hN) ?_
    rw[Bfv,show((Nat.beq 3 3)&&((Nat.ble 3 3)&&(!false)))=true from rfl,ct,wn]
   cases hq:Is (gW (Aoe true H C bs ls us ss ts (os++[x])))==0 with
   | true =>
    obtain⟨D,a1,a2,a3⟩:=Av8 hN L b n fuel I (os++[x]) (by omega) F (by simp;omega) g' (.inr (A4v hq))
    exact⟨D,a1,a2,fun K=>by rw[step,hq,ct,a3]⟩
   | false =>
    obtain⟨D,a1,a2,a3⟩:=Av8 hN L b n fuel I os (by omega) F (by omega) g G
    exact⟨D,a1,a2,fun K=>by rw[step,hq,cf,a3]⟩
end
end Gx.Cf
