/- A part of the proof: what it holds is said by each theorem. -/
import Derived.Test.YtjmfofdghmlldaaGreatDoorP1
set_option linter.unusedVariables false
set_option linter.defProp false
set_option linter.unusedSimpArgs false
namespace Gx
open Go Go.Proofs
open IntKind (wrap)
set_option maxRecDepth 100000
noncomputable section
variable {R:Type} (N:Nat)
def ML (N b:Nat) (c:LA) (r0:List UInt8→O R):O R :=
 (cond (Nat.blt 0 b) (cond ((Nat.beq 5 5)&&((Nat.beq 1 1)&&(true&&((!false)&&((Nat.beq 0 0)&&((decide (0<((b:Nat):Int)))&&((decide (((b:Nat):Int)≤(((c.length):Nat):Int)))&&(decide (((b:Nat):Int)≤9223372036854775807))))))))) (Option.bind (Ze (c.take b)) fun d=>(r0 d)) none) none)
def U6:=(Ah (@ML R)).1
theorem OQ:@U6 R=@ML R:=(Ah _).2
def VV (F:KF R):List UInt8→O R:=(fun e=>F (.str e) [(100000,⟨false,false,false,false,0,[(.optr 100000 0),.undef],false,(some (168,2))⟩)])
theorem VW (b:Nat) (c:LA) (F:KF R):C2 [] Dc N 116 [(.optr 100000 0)] [(100000,⟨false,false,false,false,0,[(.optr 100000 0),(.own 100001 0 b)],false,(some (168,2))⟩),(100001,⟨false,false,true,false,1,c,false,(some (5,0))⟩)] F=(U6 N b c (VV F)):=by
 rw[OQ]
 kernel_rfl
def F1 (a:LA) (h:Ai) (k:KF R):O R :=
 match a,h with
 | [(.optr 100000 0),(.str aa)],[(100000,⟨false,false,false,false,0,[.nilptr,.nsl],false,(some (168,2))⟩)]=>(Pj N aa (JP k))
 | [(.optr 100000 0),(.str aa)],[(100000,⟨false,false,false,false,0,[(.optr 100000 0),(.own 100001 0 ab)],false,(some (168,2))⟩),(100001,⟨false,false,true,false,1,ac,false,(some (5,0))⟩)]=>(Bl N aa ab ac (Zs k))
 | _,_=>none
theorem Gd:Am N 113 @F1:=by
 intro R Q a h k j;unfold F1;split;exact Az (JQ ..) (JQ ..) ⟨xc N,trivial⟩;exact Az (Zt ..) (Zt ..) ⟨lZ N,trivial⟩;exact A2
def O8:=A1 (Gd N)
def O9:=C5 (Gd N)
def Lk (a:LA) (h:Ai) (k:KF R):O R :=
 match a,h with
 | [(.optr 100000 0)],[(100000,⟨false,false,false,false,0,[.nilptr,.nsl],false,(some (168,2))⟩)]=>(fw N (ni k))
 | [(.optr 100000 0)],[(100000,⟨false,false,false,false,0,[(.optr 100000 0),(.own 100001 0 ab)],false,(some (168,2))⟩),(100001,⟨false,false,true,false,1,ac,false,(some (5,0))⟩)]=>(U6 N ab ac (VV k))
 | _,_=>none
theorem L9:Am N 116 @Lk:=by
 intro R Q a h k j;unfold Lk;split;exact Az (nk ..) (nk ..) trivial;exact Az (VW ..) (VW ..) trivial;exact A2
def Zu:=A1 (L9 N)
def Zv:=C5 (L9 N)
end
end Gx

namespace Gx
open Go Go.Proofs
open IntKind (wrap)
set_option maxRecDepth 100000
noncomputable section
variable {R:Type} (N:Nat)
def DU (b:List UInt8) (r0:LA→Int→O R):O R :=
 (Zq N b (fun d=>(cond (!d) (r0 [(.bool false),.nsl] 2) (Xc N b (fun e=>(cond e (r0 [(.bool false),.nsl] 8) (FG N b (fun c=>(cond ((Nat.beq 0 0)&&((Nat.beq (c.length) 2)&&(Nat.beq 2 2))) (cond (Nat.ble 2 (c.length)) (r0 (c.take 2) 0) none) none)))))))))
def T7:=(Ah (@DU R)).1
theorem BJ:@T7 R=@DU R:=(Ah _).2
def Agd:Gm:=[(78,Abn N),(79,Agb N),(80,Amj N)]
def cG (F:KF R):LA→Int→O R:=(fun f g=>F (.tup [(.pagg f false),(iv g)]) [])
theorem cH (b:List UInt8) (F:KF R):C2 (Agd N) A75 N 23 [(.str b)] [] F=(T7 N b (cG F)):=by
 rw[BJ]
 kernel_rfl
def VX (a:LA) (h:Ai) (k:KF R):O R :=
 match a,h with
 | [(.str b)],[]=>(T7 N b (cG k))
 | _,_=>none
theorem cI:Am N 23 @VX:=by
 intro R Q a h k j;unfold VX;split;exact Az (cH ..) (cH ..) ⟨Abo N,Agc N,Amk N,trivial⟩;exact A2
def Abr:=A1 (cI N)
def Abs:=C5 (cI N)
end
end Gx

namespace Gx
open Go Go.Proofs
open IntKind (wrap)
set_option maxRecDepth 100000
noncomputable section
variable {R:Type} (N:Nat)
def yT (N:Nat) (b:LA) (c:Nat) (d e:Bool) (r0:O R):O R :=
 r0
def Abt:=(Ah (@yT R)).1
theorem l7:@Abt R=@yT R:=(Ah _).2
def Ajl (b:LA) (c:Nat) (d e:Bool) (F:KF R):O R:=F (op 0) (hq [(bN 0 [(.imm b c 1 d e),(iv 0)])])
theorem Ajm (b:LA) (c:Nat) (d e:Bool) (F:KF R):C2 [] Dc N 96 [(.imm b c 1 d e)] [] F=(Abt N b c d e (Ajl b c d e F)):=by
 rw[l7]
 kernel_rfl
def Abu (a:LA) (h:Ai) (k:KF R):O R :=
 match a,h with
 | [(.imm b c 1 d e)],[]=>(Abt N b c d e (Ajl b c d e k))
 | _,_=>none
theorem Ajn:Am N 96 @Abu:=by
 intro R Q a h k j;unfold Abu;split;exact Az (Ajm ..) (Ajm ..) trivial;exact A2
def Ajo:=A1 (Ajn N)
def Ajp:=C5 (Ajn N)
def yU (N:Nat) (c b:Int) (r0:Int→O R):O R :=
 (cond ((wrap .u64 b)==0) none (r0 (wrap .i64 (Int.tmod (wrap .u64 c) (wrap .u64 b)))))
def GX:=(Ah (@yU R)).1
theorem l8:@GX R=@yU R:=(Ah _).2
def Ajq (F:KF R):Int→O R:=(fun d=>F (iv d) [])
theorem Ajr (c b:Int) (F:KF R):C2 [] Dc N 43 [(iv c),(iv b)] [] F=(GX N c b (Ajq F)):=by
 rw[l8]
 kernel_rfl
def Abv (a:LA) (h:Ai) (k:KF R):O R :=
 match a,h with
 | [(.int .i64 c),(.int .i64 b)],[]=>(GX N c b (Ajq k))
 | _,_=>none
theorem Ajs:Am N 43 @Abv:=by
 intro R Q a h k j;unfold Abv;split;exact Az (Ajr ..) (Ajr ..) trivial;exact A2
def sB:=A1 (Ajs N)
def sC:=C5 (Ajs N)
def Yj (g:Int) (c:LA) (b:Nat) (e f:Bool) (d:Int) (r0:Int→Int→O R):O R :=
 (cond (decide (d≥((b:Nat):Int))) (r0 0 d) (cond (Ae (wrap .i64 ((wrap .i64 (d+1)) - 1)) b) (As .i64 (c.drop (((wrap .i64 ((wrap .i64 (d+1)) - 1)).toNat)*1)) fun i=>(GX N i g (fun l=>(r0 l (wrap .i64 (d+1)))))) none))
def Ac:=(Ah (@Yj R)).1
theorem Xe:@Ac R=@Yj R:=(Ah _).2
def Abw:Gm:=[(43,sB N)]
def VY (c:LA) (b:Nat) (e f:Bool) (F:KF R):Int→Int→O R:=(fun m n=>F (iv m) [(100000,(bN 0 [(.imm c b 1 e f),(iv n)]))])
theorem VZ (g:Int) (c:LA) (b:Nat) (e f:Bool) (d:Int) (F:KF R):C2 (Abw N) Dc N 97 [(.optr 100000 0),(iv g)] [(100000,(bN 0 [(.imm c b 1 e f),(iv d)]))] F=(Ac N g c b e f d (VY c b e f F)):=by
 rw[Xe]
 kernel_rfl
def OR (a:LA) (h:Ai) (k:KF R):O R :=
 match a,h with
 | [(.optr 100000 0),(.int .i64 g)],[(100000,⟨false,false,false,false,0,[(.imm c b 1 e f),(.int .i64 d)],false,none⟩)]=>(Ac N g c b e f d (VY c b e f k))
 | _,_=>none
theorem V_:Am N 97 @OR:=by
 intro R Q a h k j;unfold OR;split;exact Az (VZ ..) (VZ ..) ⟨sC N,trivial⟩;exact A2
def G5:=A1 (V_ N)
def G6:=C5 (V_ N)
def Om (r0:Nat→Int→LA→O R) (f g:Int) (b:LA) (c:Nat) (d e:Bool) (k0:Nat→Int→Int→LA→O R) (i:Nat) (l m:Int) (o:LA):O R :=
 (cond (decide (l<f)) (Ac N g b c d e m (fun q r=>(cond ((Nat.ble (i+1) 140737488355328)&&(Nat.ble ((i+1)*8) 140737488355328)) (k0 (i+1) (wrap .i64 (l+1)) r ((o.take (i*1))++[(.int .i64 q)])) none))) (r0 i m o))
def F5 (r0:Nat→Int→LA→O R) (f g:Int) (b:LA) (c:Nat) (d e:Bool):Nat→Nat→Int→Int→LA→O R
 | 0,_,_,_,_=>none
 | n+1,i,l,m,o=>(Om N r0 f g b c d e (F5 r0 f g b c d e n) i l m o)
def U7 (N:Nat) (r0:Nat→Int→LA→O R) (q0:Nat→Int→Int→LA→O R) (f g:Int) (b:LA) (c:Nat) (d e:Bool) (p:Int):O R :=
 (q0 0 0 p [])
def E1:=(Ah (fun (N:Nat) (f g:Int) (b:LA) (c:Nat) (d e:Bool) (p:Int) (r0:Nat→Int→LA→O R)=>(U7 N r0 (fun i l m o=>(F5 N r0 f g b c d e N i l m o)) f g b c d e p))).1
theorem JR (f g b c d e p r0):(@E1 R N f g b c d e p r0)=(U7 N r0 (fun i l m o=>(F5 N r0 f g b c d e N i l m o)) f g b c d e p):=by rw[E1,(Ah _).2]
def OS:Hints:={ H:=(hS hL (hS hL (hS (hS hL (hS (hP [0,1,2,7,8] hL) hL)) hL))),nils:=[(6,1),(7,1)],modes:=[(2,1)] }
def V':Gm:=[(97,G5 N)]
def sD (F:KF R):=Ko Tryz.f98 OS (V' N) [100000] N F
def Ll (b:LA) (c:Nat) (d e:Bool) (F:KF R):Nat→Int→LA→O R:=(fun s t u=>F (.own 300000 0 s) [(100000,(bN 0 [(.imm b c 1 d e),(iv t)])),(300000,(bQ 1 u))])
def sE (f g:Int) (b:LA) (c:Nat) (d e:Bool) (i:Nat) (l m:Int) (o:LA):St:=⟨[(0,(.optr 100000 0)),(1,(iv f)),(2,(iv g)),(7,(.own 300000 0 i)),(8,(iv l))],[(100000,(bN 0 [(.imm b c 1 d e),(iv m)])),(300000,(bQ 1 o))]⟩
def sF (F:KF R):=sD N F [1,1,0,1,0] []
theorem BY (F:KF R) (f g:Int) (b:LA) (c:Nat) (d e:Bool):∀ (n i:Nat) (l m:Int) (o:LA),Aj (sF N F) n (sE f g b c d e i l m o)=(F5 N (Ll b c d e F) f g b c d e n i l m o)
 | 0,_,_,_,_=>by kernel_rfl
 | n+1,i,l,m,o=>Eq.trans (by kernel_rfl) (Bu (Om N (Ll b c d e F) f g b c d e · i l m o) (funext fun i=>funext fun l=>funext fun m=>funext fun o=>(BY F f g b c d e n i l m o)):_)
theorem OT (f g:Int) (b:LA) (c:Nat) (d e:Bool) (p:Int) (F:KF R):C2 (V' N) OS N 98 [(.optr 100000 0),(iv f),(iv g)] [(100000,(bN 0 [(.imm b c 1 d e),(iv p)]))] F=(E1 N f g b c d e p (Ll b c d e F)):=by
 rw[JR]
 exact Eq.trans (by kernel_rfl) (Bu (U7 N (Ll b c d e F) · f g b c d e p) (funext fun i=>funext fun l=>funext fun m=>funext fun o=>(Ad ..).trans (BY N F f g b c d e N i l m o)):_)
def JT (a:LA) (h:Ai) (k:KF R):O R :=
 match a,h with
 | [(.optr 100000 0),(.int .i64 f),(.int .i64 g)],[(100000,⟨false,false,false,false,0,[(.imm b c 1 d e),(.int .i64 p)],false,none⟩)]=>(E1 N f g b c d e p (Ll b c d e k))
 | _,_=>none
theorem OU:Am N 98 @JT:=by
 intro R Q a h k j;unfold JT;split;exact Az (OT ..) (OT ..) ⟨G6 N,trivial⟩;exact A2
def sG:=A1 (OU N)
def sH:=C5 (OU N)
def Abx (N:Nat) (c:List UInt8) (b:Int) (r0:List UInt8→O R):O R :=
 (cond ((decide (0≤(Int.tmod b 16)))&&((decide ((Int.tmod b 16)≤(wrap .i64 ((Int.tmod b 16)+1))))&&((decide ((wrap .i64 ((Int.tmod b 16)+1))≤16))&&(decide ((16:Int)≤(16:Int)))))) (cond (Nat.ble ((c.length)+(List.length (List.take (((wrap .i64 ((Int.tmod b 16)+1)).toNat) - ((Int.tmod b 16).toNat)) (List.drop ((Int.tmod b 16).toNat) ([48,49,50,51,52,53,54,55,56,57,97,98,99,100,101,102]:List UInt8))))) 140737488355328) (r0 (c++(List.take (((wrap .i64 ((Int.tmod b 16)+1)).toNat) - ((Int.tmod b 16).toNat)) (List.drop ((Int.tmod b 16).toNat) ([48,49,50,51,52,53,54,55,56,57,97,98,99,100,101,102]:List UInt8))))) none) none)
def JU:=(Ah (@Abx R)).1
theorem ui:@JU R=@Abx R:=(Ah _).2
def Aby (F:KF R):List UInt8→O R:=(fun d=>F (.str d) [])
theorem Abz (c:List UInt8) (b:Int) (F:KF R):C2 [] Dc N 99 [(.str c),(iv b)] [] F=(JU N c b (Aby F)):=by
 rw[ui]
 kernel_rfl
def uj (a:LA) (h:Ai) (k:KF R):O R :=
 match a,h with
 | [(.str c),(.int .i64 b)],[]=>(JU N c b (Aby k))
 | _,_=>none
theorem Ab0:Am N 99 @uj:=by
 intro R Q a h k j;unfold uj;split;exact Az (Abz ..) (Abz ..) trivial;exact A2
def SX:=A1 (Ab0 N)
def SY:=C5 (Ab0 N)
def Yk (f:Int) (b:LA) (c:Nat) (d e:Bool) (g:Int) (r0:Nat→Int→LA→O R):O R :=
 (Ac N 6 b c d e g (fun l i=>(cond (l==5) (Ac N f b c d e i (fun m n=>(r0 1 n [(.int .i64 m)]))) (r0 0 i []))))
def Mp:=(Ah (@Yk R)).1
theorem Xf:@Mp R=@Yk R:=(Ah _).2
def xd:Hints:={ H:=hL,nils:=[(4,1)],modes:=[(2,1)] }
def Ab1:Gm:=[(97,G5 N)]
def WA (b:LA) (c:Nat) (d e:Bool) (F:KF R):Nat→Int→LA→O R:=(fun o p q=>F (.own 300000 0 o) [(100000,(bN 0 [(.imm b c 1 d e),(iv p)])),(300000,(bQ 1 q))])
theorem WB (f:Int) (b:LA) (c:Nat) (d e:Bool) (g:Int) (F:KF R):C2 (Ab1 N) xd N 157 [(.optr 100000 0),(iv f)] [(100000,(bN 0 [(.imm b c 1 d e),(iv g)]))] F=(Mp N f b c d e g (WA b c d e F)):=by
 rw[Xf]
 kernel_rfl
def OV (a:LA) (h:Ai) (k:KF R):O R :=
 match a,h with
 | [(.optr 100000 0),(.int .i64 f)],[(100000,⟨false,false,false,false,0,[(.imm b c 1 d e),(.int .i64 g)],false,none⟩)]=>(Mp N f b c d e g (WA b c d e k))
 | _,_=>none
theorem WC:Am N 157 @OV:=by
 intro R Q a h k j;unfold OV;split;exact Az (WB ..) (WB ..) ⟨G6 N,trivial⟩;exact A2
def WD:=A1 (WC N)
def WE:=C5 (WC N)
def Yl (l f g i:Int) (b:LA) (c:Nat) (d e:Bool) (m:Int) (r0:LA→Int→O R):O R :=
 (JU N ([108]:List UInt8) l (fun o=>(Ac N 4 b c d e m (fun p v=>(Ac N 2 b c d e v (fun q w=>(Ac N 40 b c d e w (fun n x=>(Ac N 20 b c d e x (fun r y=>(Ac N 5 b c d e y (fun z s=>(cond (z==4) (Ac N 4 b c d e s (fun aa ab=>(Ac N 2 b c d e ab (fun ac ad=>(Ac N 4 b c d e ad (fun ae af=>(Mp N i b c d e af (fun t ag ah=>(r0 [(.str o),(.int .i64 f),(.int .i64 g),(.int .i64 (wrap .i64 (1+p))),(.int .i64 (wrap .i64 (1+q))),(.int .i64 (wrap .i64 ((0:Int) - aa))),(.int .i64 (wrap .i64 (1+ac))),(.int .i64 ae),(.int .i64 1),(.int .i64 (wrap .i64 (4+n))),(.int .i64 (wrap .i64 ((wrap .i64 (4+n))+r))),(.imm (ah.take (t*1)) t 1 false false)] ag))))))))) (Mp N i b c d e s (fun u ai aj=>(r0 [(.str o),(.int .i64 f),(.int .i64 g),(.int .i64 (wrap .i64 (1+p))),(.int .i64 (wrap .i64 (1+q))),(.int .i64 0),(.int .i64 1),(.int .i64 0),(.int .i64 1),(.int .i64 (wrap .i64 (4+n))),(.int .i64 (wrap .i64 ((wrap .i64 (4+n))+r))),(.imm (aj.take (u*1)) u 1 false false)] ai))))))))))))))))
def Q4:=(Ah (@Yl R)).1
theorem Xg:@Q4 R=@Yl R:=(Ah _).2
def xe:Hints:={ H:=hL,modes:=[(3,0)],cob:=[28] }
def Ab2:Gm:=[(99,SX N),(97,G5 N),(157,WD N)]
def WF (b:LA) (c:Nat) (d e:Bool) (F:KF R):LA→Int→O R:=(fun ak al=>F (.pagg ak false) [(100000,(bN 0 [(.imm b c 1 d e),(iv al)]))])
theorem WG (l f g i:Int) (b:LA) (c:Nat) (d e:Bool) (m:Int) (F:KF R):C2 (Ab2 N) xe N 100 [(.optr 100000 0),(iv l),(iv f),(iv g),(iv i)] [(100000,(bN 0 [(.imm b c 1 d e),(iv m)]))] F=(Q4 N l f g i b c d e m (WF b c d e F)):=by
 rw[Xg]
 kernel_rfl
def OW (a:LA) (h:Ai) (k:KF R):O R :=
 match a,h with
 | [(.optr 100000 0),(.int .i64 l),(.int .i64 f),(.int .i64 g),(.int .i64 i)],[(100000,⟨false,false,false,false,0,[(.imm b c 1 d e),(.int .i64 m)],false,none⟩)]=>(Q4 N l f g i b c d e m (WF b c d e k))
 | _,_=>none
theorem WH:Am N 100 @OW:=by
 intro R Q a h k j;unfold OW;split;exact Az (WG ..) (WG ..) ⟨SY N,G6 N,WE N,trivial⟩;exact A2
def xg:=A1 (WH N)
def xh:=C5 (WH N)
def No (r0:LA→Int→O R) (b:LA) (c:Nat) (d e:Bool) (y:Int) (l:List UInt8) (m f i:Int) (g:Nat) (o z aa ab ac x u ad ae af:Int) (v:Nat) (w:Int) (p ag:LA) (ah ai aj ak:Int):O R :=
 (cond (w==2) (Ac N (wrap .i64 ((wrap .i64 (i - f))+1)) b c d e y (fun av aw=>(r0 [(.str l),(.int .i64 m),(.int .i64 f),(.int .i64 i),(.imm (p.take (g*2)) g 2 false false),(.int .i64 o),(.int .i64 z),(.int .i64 aa),(.int .i64 ah),(.int .i64 ai),(.int .i64 ab),(.int .i64 ac),(.int .i64 x),(.int .i64 u),(.int .i64 aj),(.int .i64 ad),(.int .i64 ae),(.int .i64 af),(.imm (ag.take (v*1)) v 1 false false),(.int .i64 w),(.int .i64 ak),(.int .i64 (wrap .i64 (f+av)))] aw))) (r0 [(.str l),(.int .i64 m),(.int .i64 f),(.int .i64 i),(.imm (p.take (g*2)) g 2 false false),(.int .i64 o),(.int .i64 z),(.int .i64 aa),(.int .i64 ah),(.int .i64 ai),(.int .i64 ab),(.int .i64 ac),(.int .i64 x),(.int .i64 u),(.int .i64 aj),(.int .i64 ad),(.int .i64 ae),(.int .i64 af),(.imm (ag.take (v*1)) v 1 false false),(.int .i64 w),(.int .i64 ak),(.int .i64 0)] y))
def Q5 (r0:LA→Int→O R) (q:Int) (b:LA) (c:Nat) (d e:Bool) (l:List UInt8) (m f o:Int) (k0:Int→Int→Int→Int→Nat→LA→O R) (q1:Int→Int→Int→Int→Int→Int→Int→Int→Int→Int→Nat→Int→LA→Int→Int→Int→Int→O R) (r s t i:Int) (g:Nat) (p:LA):O R :=
 (cond (decide (s>0)) (Ac N 15 b c d e t (fun ao ax=>(cond ((Nat.ble (g+1) 140737488355328)&&(Nat.ble ((g+1)*16) 140737488355328)) (Ac N 10 b c d e ax (fun ay az=>(k0 (wrap .i64 (r+ay)) (wrap .i64 (s - 1)) az (wrap .i64 (i+(wrap .i64 (1+ao)))) (g+1) ((p.take (g*2))++[(.int .i64 (wrap .i64 (1+ao))),(.int .i64 r)])))) none))) (Ac N 20 b c d e t (fun z ba=>(Ac N 20 b c d e ba (fun aa bb=>(Ac N (wrap .i64 ((wrap .i64 (i - f))+1)) b c d e bb (fun ap bc=>(Ac N (wrap .i64 ((wrap .i64 (i - f))+1)) b c d e bc (fun aq bd=>(Ac N 3 b c d e bd (fun ab be=>(Ac N 3 b c d e be (fun ac bf=>(Ac N 2 b c d e bf (fun x bg=>(Ac N 30 b c d e bg (fun u bh=>(Ac N 30 b c d e bh (fun ar bi=>(Ac N 4 b c d e bi (fun ad bj=>(Ac N 8 b c d e bj (fun ae bk=>(Ac N 4 b c d e bk (fun af bl=>(Mp N q b c d e bl (fun v bm ag=>(Ac N (wrap .i64 (2+x)) b c d e bm (fun au bn=>(cond (Ae au 3) (As .i64 (List.drop (0+((au.toNat)*1)) [(.int .i64 0),(.int .i64 2),(.int .i64 1)]) fun w=>(Ac N 4 b c d e bn (fun bo y=>(cond (w==1) (q1 y z aa ab ac x u ad ae af v w ag (wrap .i64 (f+ap)) (wrap .i64 (f+aq)) (wrap .i64 (u+ar)) 1) (q1 y z aa ab ac x u ad ae af v w ag (wrap .i64 (f+ap)) (wrap .i64 (f+aq)) (wrap .i64 (u+ar)) (wrap .i64 (1+bo))))))) none))))))))))))))))))))))))))))))
def Fr (r0:LA→Int→O R) (q:Int) (b:LA) (c:Nat) (d e:Bool) (l:List UInt8) (m f o:Int):Nat→Int→Int→Int→Int→Nat→LA→O R
 | 0,_,_,_,_,_,_=>none
 | n+1,r,s,t,i,g,p=>(Q5 N r0 q b c d e l m f o (Fr r0 q b c d e l m f o n) (fun y z aa ab ac x u ad ae af v w ag ah ai aj ak=>(No N r0 b c d e y l m f i g o z aa ab ac x u ad ae af v w p ag ah ai aj ak)) r s t i g p)
def Ym (r0:LA→Int→O R) (q0:List UInt8→Int→Int→Int→Int→Int→Int→Int→Nat→LA→O R) (al am q:Int) (b:LA) (c:Nat) (d e:Bool) (an:Int):O R :=
 (JU N ([117]:List UInt8) al (fun l=>(Ac N am b c d e an (fun m bp=>(Ac N 8 b c d e bp (fun f bq=>(Ac N 20 b c d e bq (fun o br=>(Ac N 20 b c d e br (fun bs bt=>(Ac N 2 b c d e bt (fun bu bv=>(q0 l m f o (wrap .i64 (bs - 2)) (wrap .i64 (1+bu)) bv f 0 [])))))))))))))
def Q6:=(Ah (fun (N:Nat) (al am q:Int) (b:LA) (c:Nat) (d e:Bool) (an:Int) (r0:LA→Int→O R)=>(Ym N r0 (fun l m f o r s t i g p=>(Fr N r0 q b c d e l m f o N r s t i g p)) al am q b c d e an))).1
theorem OX (al am q b c d e an r0):(@Q6 R N al am q b c d e an r0)=(Ym N r0 (fun l m f o r s t i g p=>(Fr N r0 q b c d e l m f o N r s t i g p)) al am q b c d e an):=by rw[Q6,(Ah _).2]
def WI:Hints:={ H:=(hS hL (hS hL (hS hL (hS hL (hS (hS hL (hS (hP [0,3,8,9,10,11] hL) hL)) (hS hL (hS hL (hS hL (hS hL (hS hL (hS hL (hS hL (hS hL (hJ [0,8,9] hL hL)))))))))))))),modes:=[(3,0)],cob:=[22] }
def cJ:Gm:=[(99,SX N),(97,G5 N),(157,WD N)]
def WJ (F:KF R):=Ko Tryz.f101 WI (cJ N) [100000] N F
def Jr (b:LA) (c:Nat) (d e:Bool) (F:KF R):LA→Int→O R:=(fun bw bx=>F (.pagg bw false) [(100000,(bN 0 [(.imm b c 1 d e),(iv bx)]))])
def xi (b:LA) (c:Nat) (d e:Bool) (y:Int) (l:List UInt8) (m f i:Int) (g:Nat) (o z aa ab ac x u ad ae af:Int) (v:Nat) (w:Int) (p ag:LA) (ah ai aj ak:Int):St:=⟨[(0,(.optr 100000 0)),(8,(op 0)),(9,(op 1))],[(100000,(bN 0 [(.imm b c 1 d e),(iv y)])),(300000,(bN 0 [(.str ([]:List UInt8)),(iv 0),(iv 0),(iv 0),.nsl,(iv 0),(iv 0),(iv 0),(iv 0),(iv 0),(iv 0),(iv 0),(iv 0),(iv 0),(iv 0),(iv 0),(iv 0),(iv 0),.nsl,(iv 0),(iv 0),(iv 0)])),(300001,(bN 0 [(.str l),(iv m),(iv f),(iv i),(.own 300002 0 g),(iv o),(iv z),(iv aa),(iv ah),(iv ai),(iv ab),(iv ac),(iv x),(iv u),(iv aj),(iv ad),(iv ae),(iv af),(.own 300003 0 v),(iv w),(iv ak),(iv 0)])),(300002,(bQ 2 p)),(300003,(bQ 1 ag))]⟩
def xj (F:KF R):=WJ N F [1,1,1,1,1,1,1,1,1,1,1,1,1,1] []
def xk (q:Int) (b:LA) (c:Nat) (d e:Bool) (l:List UInt8) (m f o r s t i:Int) (g:Nat) (p:LA):St:=⟨[(0,(.optr 100000 0)),(3,(iv q)),(8,(op 0)),(9,(op 1)),(10,(iv r)),(11,(iv s))],[(100000,(bN 0 [(.imm b c 1 d e),(iv t)])),(300000,(bN 0 [(.str ([]:List UInt8)),(iv 0),(iv 0),(iv 0),.nsl,(iv 0),(iv 0),(iv 0),(iv 0),(iv 0),(iv 0),(iv 0),(iv 0),(iv 0),(iv 0),(iv 0),(iv 0),(iv 0),.nsl,(iv 0),(iv 0),(iv 0)])),(300001,(bN 0 [(.str l),(iv m),(iv f),(iv i),(.own 300002 0 g),(iv o),(iv 0),(iv 0),(iv 0),(iv 0),(iv 0),(iv 0),(iv 0),(iv 0),(iv 0),(iv 0),(iv 0),(iv 0),(.own 300003 0 0),(iv 0),(iv 0),(iv 0)])),(300002,(bQ 2 p)),(300003,(bQ 1 []))]⟩
def xl (F:KF R):=WJ N F [1,1,1,1,0,1,0] []
theorem l_ (F:KF R) (b:LA) (c:Nat) (d e:Bool) (y:Int) (l:List UInt8) (m f i:Int) (g:Nat) (o z aa ab ac x u ad ae af:Int) (v:Nat) (w:Int) (p ag:LA):∀ (ah ai aj ak:Int),B9 (xj N F) (xi b c d e y l m f i g o z aa ab ac x u ad ae af v w p ag ah ai aj ak)=(No N (Jr b c d e F) b c d e y l m f i g o z aa ab ac x u ad ae af v w p ag ah ai aj ak):=by
 intro ah ai aj ak
 kernel_rfl
theorem GY (F:KF R) (q:Int) (b:LA) (c:Nat) (d e:Bool) (l:List UInt8) (m f o:Int):∀ (n:Nat) (r s t i:Int) (g:Nat) (p:LA),Aj (xl N F) n (xk q b c d e l m f o r s t i g p)=(Fr N (Jr b c d e F) q b c d e l m f o n r s t i g p)
 | 0,_,_,_,_,_,_=>by kernel_rfl
 | n+1,r,s,t,i,g,p=>Eq.trans (by kernel_rfl) (NY (Q5 N (Jr b c d e F) q b c d e l m f o · · r s t i g p) (funext fun r=>funext fun s=>funext fun t=>funext fun i=>funext fun g=>funext fun p=>(GY F q b c d e l m f o n r s t i g p)) (funext fun y=>funext fun z=>funext fun aa=>funext fun ab=>funext fun ac=>funext fun x=>funext fun u=>funext fun ad=>funext fun ae=>funext fun af=>funext fun v=>funext fun w=>funext fun ag=>funext fun ah=>funext fun ai=>funext fun aj=>funext fun ak=>(A4 ..).trans (l_ N F b c d e y l m f i g o z aa ab ac x u ad ae af v w p ag ah ai aj ak)):_)
theorem WK (al am q:Int) (b:LA) (c:Nat) (d e:Bool) (an:Int) (F:KF R):C2 (cJ N) WI N 101 [(.optr 100000 0),(iv al),(iv am),(iv q)] [(100000,(bN 0 [(.imm b c 1 d e),(iv an)]))] F=(Q6 N al am q b c d e an (Jr b c d e F)):=by
 rw[OX]
 exact Eq.trans (by kernel_rfl) (Bu (Ym N (Jr b c d e F) · al am q b c d e an) (funext fun l=>funext fun m=>funext fun f=>funext fun o=>funext fun r=>funext fun s=>funext fun t=>funext fun i=>funext fun g=>funext fun p=>(Ad ..).trans (GY N F q b c d e l m f o N r s t i g p)):_)
def OY (a:LA) (h:Ai) (k:KF R):O R :=
 match a,h with
 | [(.optr 100000 0),(.int .i64 al),(.int .i64 am),(.int .i64 q)],[(100000,⟨false,false,false,false,0,[(.imm b c 1 d e),(.int .i64 an)],false,none⟩)]=>(Q6 N al am q b c d e an (Jr b c d e k))
 | _,_=>none
theorem WL:Am N 101 @OY:=by
 intro R Q a h k j;unfold OY;split;exact Az (WK ..) (WK ..) ⟨SY N,G6 N,WE N,trivial⟩;exact A2
def xm:=A1 (WL N)
def xn:=C5 (WL N)
def Iv (r0:LA→Int→O R) (f:Int) (b:LA) (c:Nat) (d e:Bool) (g:List UInt8) (i:Nat) (l:LA) (k1:Int→Int→Nat→LA→O R) (o q:Int) (m:Nat) (p:LA):O R :=
 (cond (decide (o<f)) (Ac N 2 b c d e q (fun ab w=>(cond (ab==1) (Ac N 8 b c d e w (fun ac ad=>(Ac N 8 b c d e ad (fun ae af=>(cond ((Nat.ble (m+1) 140737488355328)&&(Nat.ble ((m+1)*24) 140737488355328)) (k1 (wrap .i64 (o+1)) af (m+1) ((p.take (m*3))++[(.int .i64 o),(.int .i64 ac),(.int .i64 ae)])) none))))) (k1 (wrap .i64 (o+1)) w m p)))) (r0 [(.str g),(.imm (l.take (i*1)) i 1 false false),(.bool true),(.imm (p.take (m*3)) m 3 false false)] q))
def E8 (r0:LA→Int→O R) (f:Int) (b:LA) (c:Nat) (d e:Bool) (g:List UInt8) (i:Nat) (l:LA):Nat→Int→Int→Nat→LA→O R
 | 0,_,_,_,_=>none
 | n+1,o,q,m,p=>(Iv N r0 f b c d e g i l (E8 r0 f b c d e g i l n) o q m p)
def Mq (r0:LA→Int→O R) (f:Int) (b:LA) (c:Nat) (d e:Bool) (g:List UInt8) (q1:Int→Int→Nat→LA→O R) (r:Int) (i:Nat) (l:LA):O R :=
 (Ac N 2 b c d e r (fun ag x=>(cond (ag==1) (q1 0 x 0 []) (r0 [(.str g),(.imm (l.take (i*1)) i 1 false false),(.bool false),(.imm [] 0 3 false false)] x))))
def E9 (r0:LA→Int→O R) (f:Int) (b:LA) (c:Nat) (d e:Bool) (g:List UInt8) (r:Int) (i:Nat) (l:LA):O R:=(Mq N r0 f b c d e g (fun o q m p=>(E8 N r0 f b c d e g i l N o q m p)) r i l)
def Js (r0:LA→Int→O R) (q0:List UInt8→Int→Nat→LA→O R) (t s f:Int) (b:LA) (c:Nat) (d e:Bool) (u:Int):O R :=
 (JU N ([111]:List UInt8) t (fun g=>(Ac N s b c d e u (fun v ah=>(Ac N s b c d e ah (fun y z=>(cond ((decide (y>v))==true) (Ac N 3 b c d e z (fun ai aa=>(cond (cond true (ai==2) false) (q0 g aa 2 [(.int .i64 v),(.int .i64 y)]) (q0 g aa 1 [(.int .i64 v)])))) (q0 g z 1 [(.int .i64 v)]))))))))
def Lm:=(Ah (fun (N:Nat) (t s f:Int) (b:LA) (c:Nat) (d e:Bool) (u:Int) (r0:LA→Int→O R)=>(Js N r0 (fun g r i l=>(E9 N r0 f b c d e g r i l)) t s f b c d e u))).1
theorem Mr (t s f b c d e u r0):(@Lm R N t s f b c d e u r0)=(Js N r0 (fun g r i l=>(E9 N r0 f b c d e g r i l)) t s f b c d e u):=by rw[Lm,(Ah _).2]
def JV:Hints:={ H:=(hS hL (hS hL (hJ [0,3,8,9] hL (hS (hS hL (hS (hS hL (hS hL (hS (hP [0,3,8,9,11] hL) hL))) hL)) hL)))),modes:=[(3,0)],cob:=[18] }
def OZ:Gm:=[(99,SX N),(97,G5 N)]
def JW (F:KF R):=Ko Tryz.f102 JV (OZ N) [100000] N F
def Fa (b:LA) (c:Nat) (d e:Bool) (F:KF R):LA→Int→O R:=(fun aj ak=>F (.pagg aj false) [(100000,(bN 0 [(.imm b c 1 d e),(iv ak)]))])
def nm (f:Int) (b:LA) (c:Nat) (d e:Bool) (g:List UInt8) (i:Nat) (l:LA) (o q:Int) (m:Nat) (p:LA):St:=⟨[(0,(.optr 100000 0)),(3,(iv f)),(8,(op 0)),(9,(op 1)),(11,(iv o))],[(100000,(bN 0 [(.imm b c 1 d e),(iv q)])),(300000,(bN 0 [(.str ([]:List UInt8)),.nsl,(.bool false),.nsl])),(300001,(bN 0 [(.str g),(.own 300002 0 i),(.bool true),(.own 300003 0 m)])),(300002,(bQ 1 l)),(300003,(bQ 3 p))]⟩
def np (F:KF R):=JW N F [1,1,1,0,1,0,1,1,0] []
def nq (f:Int) (b:LA) (c:Nat) (d e:Bool) (g:List UInt8) (r:Int) (i:Nat) (l:LA):St:=⟨[(0,(.optr 100000 0)),(3,(iv f)),(8,(op 0)),(9,(op 1))],[(100000,(bN 0 [(.imm b c 1 d e),(iv r)])),(300000,(bN 0 [(.str ([]:List UInt8)),.nsl,(.bool false),.nsl])),(300001,(bN 0 [(.str g),(.own 300002 0 i),(.bool false),(.own 300003 0 0)])),(300002,(bQ 1 l)),(300003,(bQ 3 []))]⟩
def nr (F:KF R):=JW N F [1,1,1] []
theorem Zw (F:KF R) (f:Int) (b:LA) (c:Nat) (d e:Bool) (g:List UInt8) (i:Nat) (l:LA):∀ (n:Nat) (o q:Int) (m:Nat) (p:LA),Aj (np N F) n (nm f b c d e g i l o q m p)=(E8 N (Fa b c d e F) f b c d e g i l n o q m p)
 | 0,_,_,_,_=>by kernel_rfl
 | n+1,o,q,m,p=>Eq.trans (by kernel_rfl) (Bu (Iv N (Fa b c d e F) f b c d e g i l · o q m p) (funext fun o=>funext fun q=>funext fun m=>funext fun p=>(Zw F f b c d e g i l n o q m p)):_)
theorem cK (F:KF R) (f:Int) (b:LA) (c:Nat) (d e:Bool) (g:List UInt8):∀ (r:Int) (i:Nat) (l:LA),B9 (nr N F) (nq f b c d e g r i l)=(E9 N (Fa b c d e F) f b c d e g r i l):=by
 intro r i l
 exact Eq.trans (by kernel_rfl) (Bu (Mq N (Fa b c d e F) f b c d e g · r i l) (funext fun o=>funext fun q=>funext fun m=>funext fun p=>(Ad ..).trans (Zw N F f b c d e g i l N o q m p)):_)
theorem JX (t s f:Int) (b:LA) (c:Nat) (d e:Bool) (u:Int) (F:KF R):C2 (OZ N) JV N 102 [(.optr 100000 0),(iv t),(iv s),(iv f)] [(100000,(bN 0 [(.imm b c 1 d e),(iv u)]))] F=(Lm N t s f b c d e u (Fa b c d e F)):=by
 rw[Mr]
 exact Eq.trans (by kernel_rfl) (Bu (Js N (Fa b c d e F) · t s f b c d e u) (funext fun g=>funext fun r=>funext fun i=>funext fun l=>(A4 ..).trans (cK N F f b c d e g r i l)):_)
def GZ (a:LA) (h:Ai) (k:KF R):O R :=
 match a,h with
 | [(.optr 100000 0),(.int .i64 t),(.int .i64 s),(.int .i64 f)],[(100000,⟨false,false,false,false,0,[(.imm b c 1 d e),(.int .i64 u)],false,none⟩)]=>(Lm N t s f b c d e u (Fa b c d e k))
 | _,_=>none
theorem JY:Am N 102 @GZ:=by
 intro R Q a h k j;unfold GZ;split;exact Az (JX ..) (JX ..) ⟨SY N,G6 N,trivial⟩;exact A2
def nv:=A1 (JY N)
def nw:=C5 (JY N)
def S7 (N:Nat) (r0:Bool→O R) (d e:Int) (c:LA) (b:Nat) (f g:Bool) (k0:Int→O R) (i:Int):O R :=
 (cond (decide (i<((b:Nat):Int))) (cond (Ae i b) (As .i64 (c.drop ((i.toNat)*1)) fun l=>(cond ((decide (l<d))==false) (cond (Ae i b) (As .i64 (c.drop ((i.toNat)*1)) fun m=>(cond (cond false true (decide (m>e))) (r0 false) (k0 (wrap .i64 (i+1))))) none) (r0 false))) none) (r0 true))
def Iw (r0:Bool→O R) (d e:Int) (c:LA) (b:Nat) (f g:Bool):Nat→Int→O R
 | 0,_=>none
 | n+1,i=>(S7 N r0 d e c b f g (Iw r0 d e c b f g n) i)
def DV (N:Nat) (r0:Bool→O R) (q0:Int→O R) (d e:Int) (c:LA) (b:Nat) (f g:Bool):O R :=
 (q0 0)
def Ap:=(Ah (fun (N:Nat) (d e:Int) (c:LA) (b:Nat) (f g:Bool) (r0:Bool→O R)=>(DV N r0 (fun i=>(Iw N r0 d e c b f g N i)) d e c b f g))).1
theorem WM (d e c b f g r0):(@Ap R N d e c b f g r0)=(DV N r0 (fun i=>(Iw N r0 d e c b f g N i)) d e c b f g):=by rw[Ap,(Ah _).2]
def cL:Hints:={ H:=(hS hL (hS (hS hL (hS (hP [0,1,2,7] hL) hL)) hL)) }
def Ab3 (F:KF R):=Ko Tryz.f162 cL [] [] N F
def Pk (F:KF R):Bool→O R:=(fun o=>F (.bool o) [])
def Ab4 (d e:Int) (c:LA) (b:Nat) (f g:Bool) (i:Int):St:=⟨[(0,(iv d)),(1,(iv e)),(2,(.imm c b 1 f g)),(7,(iv i))],[]⟩
def Ab5 (F:KF R):=Ab3 N F [1,0,1,0] []
theorem JZ (F:KF R) (d e:Int) (c:LA) (b:Nat) (f g:Bool):∀ (n:Nat) (i:Int),Aj (Ab5 N F) n (Ab4 d e c b f g i)=(Iw N (Pk F) d e c b f g n i)
 | 0,_=>by kernel_rfl
 | n+1,i=>Eq.trans (by kernel_rfl) (Bu (S7 N (Pk F) d e c b f g · i) (funext fun i=>(JZ F d e c b f g n i)):_)
theorem cM (d e:Int) (c:LA) (b:Nat) (f g:Bool) (F:KF R):C2 [] cL N 162 [(iv d),(iv e),(.imm c b 1 f g)] [] F=(Ap N d e c b f g (Pk F)):=by
 rw[WM]
 exact Eq.trans (by kernel_rfl) (Bu (DV N (Pk F) · d e c b f g) (funext fun i=>(Ad ..).trans (JZ N F d e c b f g N i)):_)
def WN (a:LA) (h:Ai) (k:KF R):O R :=
 match a,h with
 | [(.int .i64 d),(.int .i64 e),(.imm c b 1 f g)],[]=>(Ap N d e c b f g (Pk k))
 | _,_=>none
theorem cN:Am N 162 @WN:=by
 intro R Q a h k j;unfold WN;split;exact Az (cM ..) (cM ..) trivial;exact A2
def Dt:=A1 (cN N)
def Du:=C5 (cN N)
end
end Gx

namespace Gx
open Go Go.Proofs
open IntKind (wrap)
set_option maxRecDepth 100000
noncomputable section
variable {R:Type} (N:Nat)
def K6 (N:Nat) (r0:LA→O R) (c d e f:Int) (b:LA) (g:Bool):O R :=
 (cond g (cond ((Nat.beq 3 3)&&((Nat.ble 3 (b.length))&&(!false))) (cond ((Nat.beq 1 1)&&((Nat.ble 4 ((Cx b 0 [(.int .i64 c),(.int .i64 d),(.int .i64 e)]).length))&&(!false))) (r0 ((Cx b 0 [(.int .i64 c),(.int .i64 d),(.int .i64 e)]).set 3 (.int .i64 f))) none) none) (r0 b))
def On (N:Nat) (r0:LA→O R) (q0:Bool→O R) (i:Bool) (c d e f:Int) (b:LA):O R :=
 (As .i64 (b.drop 3) fun l=>(cond ((l==0)==true) (q0 (cond true (!i) false)) (q0 false)))
def Aa:=(Ah (fun (N:Nat) (i:Bool) (c d e f:Int) (b:LA) (r0:LA→O R)=>(On N r0 (fun g=>(K6 N r0 c d e f b g)) i c d e f b))).1
theorem Zx (i c d e f b r0):(@Aa R N i c d e f b r0)=(On N r0 (fun g=>(K6 N r0 c d e f b g)) i c d e f b):=by rw[Aa,(Ah _).2]
def BZ:Hints:={ H:=(hJ [0,2,3,4,5,20] hL hL) }
def gc (F:KF R):=Ko Tryz.f161 BZ [] [100000] N F
def K8 (F:KF R):LA→O R:=(fun m=>F (.tup []) [(100000,(bQ 0 m))])
def gd (c d e f:Int) (b:LA) (g:Bool):St:=⟨[(0,(.optr 100000 0)),(2,(iv c)),(3,(iv d)),(4,(iv e)),(5,(iv f)),(20,(.bool g))],[(100000,(bQ 0 b))]⟩
def ge (F:KF R):=gc N F [1] []
theorem SZ (F:KF R) (c d e f:Int) (b:LA):∀ (g:Bool),B9 (ge N F) (gd c d e f b g)=(K6 N (K8 F) c d e f b g):=by
 intro g
 kernel_rfl
theorem B_ (i:Bool) (c d e f:Int) (b:LA) (F:KF R):C2 [] BZ N 161 [(.optr 100000 0),(.bool i),(iv c),(iv d),(iv e),(iv f)] [(100000,(bQ 0 b))] F=(Aa N i c d e f b (K8 F)):=by
 rw[Zx]
 exact Eq.trans (by kernel_rfl) (Bu (On N (K8 F) · i c d e f b) (funext fun g=>(A4 ..).trans (SZ N F c d e f b g)):_)
def Zy (a:LA) (h:Ai) (k:KF R):O R :=
 match a,h with
 | [(.optr 100000 0),(.bool i),(.int .i64 c),(.int .i64 d),(.int .i64 e),(.int .i64 f)],[(100000,⟨false,false,true,false,0,b,false,none⟩)]=>(Aa N i c d e f b (K8 k))
 | _,_=>none
theorem B':Am N 161 @Zy:=by
 intro R Q a h k j;unfold Zy;split;exact Az (B_ ..) (B_ ..) trivial;exact A2
def Bv:=A1 (B' N)
def Bw:=C5 (B' N)
def Ri (f:LA) (o:Bool) (g:LA) (b:Nat) (p i:Bool) (l m c d e:Int) (n:LA) (r0:LA→O R):O R :=
 (As .i64 f fun q=>(Aa N (((b:Nat):Int)==q) c d e 4 n (fun r=>(Ap N l m g b false i (fun s=>(Aa N s c d e 3 r (fun t=>(r0 t))))))))
def Cy:=(Ah (@Ri R)).1
theorem U8:@Cy R=@Ri R:=(Ah _).2
def cO:Gm:=[(161,Bv N),(162,Dt N)]
def Wg (F:KF R):LA→O R:=(fun u=>F (.tup []) [(100000,(bQ 0 u))])
theorem Wh (f:LA) (o:Bool) (g:LA) (b:Nat) (p i:Bool) (l m c d e:Int) (n:LA) (F:KF R):C2 (cO N) Dc N 160 [(.optr 100000 0),(.pagg f o),(.imm g b 1 p i),(iv l),(iv m),(iv c),(iv d),(iv e)] [(100000,(bQ 0 n))] F=(Cy N f o g b p i l m c d e n (Wg F)):=by
 rw[U8]
 kernel_rfl
def U9 (a:LA) (h:Ai) (k:KF R):O R :=
 match a,h with
 | [(.optr 100000 0),(.pagg f o),(.imm g b 1 p i),(.int .i64 l),(.int .i64 m),(.int .i64 c),(.int .i64 d),(.int .i64 e)],[(100000,⟨false,false,true,false,0,n,false,none⟩)]=>(Cy N f o g b p i l m c d e n (Wg k))
 | _,_=>none
theorem Wi:Am N 160 @U9:=by
 intro R Q a h k j;unfold U9;split;exact Az (Wh ..) (Wh ..) ⟨Bw N,Du N,trivial⟩;exact A2
def Oe:=A1 (Wi N)
def Of:=C5 (Wi N)
def Yn (N:Nat) (r0:Nat→LA→O R) (c:Bool) (b:LA) (k0:Nat→Int→LA→O R) (d:Nat) (m:Int) (t:LA):O R :=
 (B4 3 (b.drop 2) fun bc aa=>(cond (decide (m<((aa:Nat):Int))) (B4 3 (b.drop 2) fun ab ac=>(cond (Ae m ac) (Wb (ab.drop ((m.toNat)*3)) fun ad=>(cond ((Nat.ble (d+1) 140737488355328)&&(Nat.ble ((d+1)*16) 140737488355328)) (k0 (d+1) (wrap .i64 (m+1)) ((t.take (d*1))++[(.str ad)])) none)) none)) (r0 d t)))
def Ms (r0:Nat→LA→O R) (c:Bool) (b:LA):Nat→Nat→Int→LA→O R
 | 0,_,_,_=>none
 | n+1,d,m,t=>(Yn N r0 c b (Ms r0 c b n) d m t)
def Yo (N:Nat) (r0:Nat→LA→O R) (c:Bool) (b:LA) (k1:Nat→Int→LA→O R) (e:Nat) (o:Int) (u:LA):O R :=
 (B4 12 (b.drop 3) fun bd ae=>(cond (decide (o<((ae:Nat):Int))) (B4 12 (b.drop 3) fun af ag=>(cond (Ae o ag) (Wb (af.drop ((o.toNat)*12)) fun ah=>(cond ((Nat.ble (e+1) 140737488355328)&&(Nat.ble ((e+1)*16) 140737488355328)) (k1 (e+1) (wrap .i64 (o+1)) ((u.take (e*1))++[(.str ah)])) none)) none)) (r0 e u)))
def Mt (r0:Nat→LA→O R) (c:Bool) (b:LA):Nat→Nat→Int→LA→O R
 | 0,_,_,_=>none
 | n+1,e,o,u=>(Yo N r0 c b (Mt r0 c b n) e o u)
def Yp (N:Nat) (r0:Nat→LA→O R) (c:Bool) (b:LA) (k2:Nat→Int→LA→O R) (f:Nat) (p:Int) (v:LA):O R :=
 (B4 22 (b.drop 4) fun be ai=>(cond (decide (p<((ai:Nat):Int))) (B4 22 (b.drop 4) fun aj ak=>(cond (Ae p ak) (Wb (aj.drop ((p.toNat)*22)) fun al=>(cond ((Nat.ble (f+1) 140737488355328)&&(Nat.ble ((f+1)*16) 140737488355328)) (k2 (f+1) (wrap .i64 (p+1)) ((v.take (f*1))++[(.str al)])) none)) none)) (r0 f v)))
def Mu (r0:Nat→LA→O R) (c:Bool) (b:LA):Nat→Nat→Int→LA→O R
 | 0,_,_,_=>none
 | n+1,f,p,v=>(Yp N r0 c b (Mu r0 c b n) f p v)
def Yq (N:Nat) (r0:Nat→LA→O R) (c:Bool) (b:LA) (k3:Nat→Int→LA→O R) (g:Nat) (q:Int) (w:LA):O R :=
 (B4 9 (b.drop 5) fun bf am=>(cond (decide (q<((am:Nat):Int))) (B4 9 (b.drop 5) fun an ao=>(cond (Ae q ao) (Wb (an.drop ((q.toNat)*9)) fun ap=>(cond ((Nat.ble (g+1) 140737488355328)&&(Nat.ble ((g+1)*16) 140737488355328)) (k3 (g+1) (wrap .i64 (q+1)) ((w.take (g*1))++[(.str ap)])) none)) none)) (r0 g w)))
def Mv (r0:Nat→LA→O R) (c:Bool) (b:LA):Nat→Nat→Int→LA→O R
 | 0,_,_,_=>none
 | n+1,g,q,w=>(Yq N r0 c b (Mv r0 c b n) g q w)
def Yr (N:Nat) (r0:Nat→LA→O R) (c:Bool) (b:LA) (k4:Nat→Int→LA→O R) (i:Nat) (r:Int) (x:LA):O R :=
 (B4 5 (b.drop 6) fun bg aq=>(cond (decide (r<((aq:Nat):Int))) (B4 5 (b.drop 6) fun ar au=>(cond (Ae r au) (Wb (ar.drop ((r.toNat)*5)) fun av=>(cond ((Nat.ble (i+1) 140737488355328)&&(Nat.ble ((i+1)*16) 140737488355328)) (k4 (i+1) (wrap .i64 (r+1)) ((x.take (i*1))++[(.str av)])) none)) none)) (r0 i x)))
def Mw (r0:Nat→LA→O R) (c:Bool) (b:LA):Nat→Nat→Int→LA→O R
 | 0,_,_,_=>none
 | n+1,i,r,x=>(Yr N r0 c b (Mw r0 c b n) i r x)
def Ys (N:Nat) (r0:Nat→LA→O R) (c:Bool) (b:LA) (k5:Nat→Int→LA→O R) (l:Nat) (s:Int) (y:LA):O R :=
 (B4 4 (b.drop 7) fun bh aw=>(cond (decide (s<((aw:Nat):Int))) (B4 4 (b.drop 7) fun ax ay=>(cond (Ae s ay) (Wb (ax.drop ((s.toNat)*4)) fun az=>(cond ((Nat.ble (l+1) 140737488355328)&&(Nat.ble ((l+1)*16) 140737488355328)) (k5 (l+1) (wrap .i64 (s+1)) ((y.take (l*1))++[(.str az)])) none)) none)) (r0 l y)))
def Mx (r0:Nat→LA→O R) (c:Bool) (b:LA):Nat→Nat→Int→LA→O R
 | 0,_,_,_=>none
 | n+1,l,s,y=>(Ys N r0 c b (Mx r0 c b n) l s y)
def My (N:Nat) (r0:Nat→LA→O R) (q0:Nat→Int→LA→O R) (q1:Nat→Int→LA→O R) (q2:Nat→Int→LA→O R) (q3:Nat→Int→LA→O R) (q4:Nat→Int→LA→O R) (q5:Nat→Int→LA→O R) (b:LA) (c:Bool) (z:Int):O R :=
 (cond (z==1) (q0 0 0 []) (cond (z==2) (q1 0 0 []) (cond (z==3) (q2 0 0 []) (cond (z==4) (q3 0 0 []) (cond (z==5) (q4 0 0 []) (cond (z==6) (q5 0 0 []) (r0 0 [])))))))
def Ig:=(Ah (fun (N:Nat) (b:LA) (c:Bool) (z:Int) (r0:Nat→LA→O R)=>(My N r0 (fun d m t=>(Ms N r0 c b N d m t)) (fun e o u=>(Mt N r0 c b N e o u)) (fun f p v=>(Mu N r0 c b N f p v)) (fun g q w=>(Mv N r0 c b N g q w)) (fun i r x=>(Mw N r0 c b N i r x)) (fun l s y=>(Mx N r0 c b N l s y)) b c z))).1
theorem Ku (b c z r0):(@Ig R N b c z r0)=(My N r0 (fun d m t=>(Ms N r0 c b N d m t)) (fun e o u=>(Mt N r0 c b N e o u)) (fun f p v=>(Mu N r0 c b N f p v)) (fun g q w=>(Mv N r0 c b N g q w)) (fun i r x=>(Mw N r0 c b N i r x)) (fun l s y=>(Mx N r0 c b N l s y)) b c z):=by rw[Ig,(Ah _).2]
def ny:Hints:={ H:=(hS hL (hS hL (hS (hS hL (hS (hS hL (hS (hS hL (hS (hP [2,5,6] hL) hL)) (hS hL (hS (hS hL (hS (hP [2,5,7] hL) hL)) (hS hL (hS (hS hL (hS (hP [2,5,8] hL) hL)) (hS hL (hS (hS hL (hS (hP [2,5,9] hL) hL)) (hS hL (hS (hS hL (hS (hP [2,5,10] hL) hL)) (hS hL (hS (hS hL (hS (hP [2,5,11] hL) hL)) hL)))))))))))) hL)) hL))),nils:=[(4,1),(5,1)],modes:=[(2,1)] }
def Q8 (F:KF R):=Ko Tryz.f222 ny [] [] N F
def Cz (F:KF R):Nat→LA→O R:=(fun ba bb=>F (.own 300000 0 ba) (hq [(bQ 1 bb)]))
def Aml (c:Bool) (b:LA) (d:Nat) (m:Int) (t:LA):St:=⟨[(2,(op 0)),(5,(.own 300001 0 d)),(6,(iv m))],(hq [(bP c 0 b),(bQ 1 t)])⟩
def Amm (F:KF R):=Q8 N F [1,1,0,1,0,1,0,1,0] []
def Amn (c:Bool) (b:LA) (e:Nat) (o:Int) (u:LA):St:=⟨[(2,(op 0)),(5,(.own 300001 0 e)),(7,(iv o))],(hq [(bP c 0 b),(bQ 1 u)])⟩
def Amo (F:KF R):=Q8 N F [1,1,0,1,0,1,1,1,0,1,0] []
def Amp (c:Bool) (b:LA) (f:Nat) (p:Int) (v:LA):St:=⟨[(2,(op 0)),(5,(.own 300001 0 f)),(8,(iv p))],(hq [(bP c 0 b),(bQ 1 v)])⟩
def Amq (F:KF R):=Q8 N F [1,1,0,1,0,1,1,1,1,1,0,1,0] []
def Amr (c:Bool) (b:LA) (g:Nat) (q:Int) (w:LA):St:=⟨[(2,(op 0)),(5,(.own 300001 0 g)),(9,(iv q))],(hq [(bP c 0 b),(bQ 1 w)])⟩
def Ams (F:KF R):=Q8 N F [1,1,0,1,0,1,1,1,1,1,1,1,0,1,0] []
def Amt (c:Bool) (b:LA) (i:Nat) (r:Int) (x:LA):St:=⟨[(2,(op 0)),(5,(.own 300001 0 i)),(10,(iv r))],(hq [(bP c 0 b),(bQ 1 x)])⟩
def Amu (F:KF R):=Q8 N F [1,1,0,1,0,1,1,1,1,1,1,1,1,1,0,1,0] []
def Amv (c:Bool) (b:LA) (l:Nat) (s:Int) (y:LA):St:=⟨[(2,(op 0)),(5,(.own 300001 0 l)),(11,(iv s))],(hq [(bP c 0 b),(bQ 1 y)])⟩
def Amw (F:KF R):=Q8 N F [1,1,0,1,0,1,1,1,1,1,1,1,1,1,1,1,0,1,0] []
theorem WO (F:KF R) (c:Bool) (b:LA):∀ (n d:Nat) (m:Int) (t:LA),Aj (Amm N F) n (Aml c b d m t)=(Ms N (Cz F) c b n d m t)
 | 0,_,_,_=>by kernel_rfl
 | n+1,d,m,t=>Eq.trans (by kernel_rfl) (Bu (Yn N (Cz F) c b · d m t) (funext fun d=>funext fun m=>funext fun t=>(WO F c b n d m t)):_)
theorem WP (F:KF R) (c:Bool) (b:LA):∀ (n e:Nat) (o:Int) (u:LA),Aj (Amo N F) n (Amn c b e o u)=(Mt N (Cz F) c b n e o u)
 | 0,_,_,_=>by kernel_rfl
 | n+1,e,o,u=>Eq.trans (by kernel_rfl) (Bu (Yo N (Cz F) c b · e o u) (funext fun e=>funext fun o=>funext fun u=>(WP F c b n e o u)):_)
theorem WQ (F:KF R) (c:Bool) (b:LA):∀ (n f:Nat) (p:Int) (v:LA),Aj (Amq N F) n (Amp c b f p v)=(Mu N (Cz F) c b n f p v)
 | 0,_,_,_=>by kernel_rfl
 | n+1,f,p,v=>Eq.trans (by kernel_rfl) (Bu (Yp N (Cz F) c b · f p v) (funext fun f=>funext fun p=>funext fun v=>(WQ F c b n f p v)):_)
theorem WR (F:KF R) (c:Bool) (b:LA):∀ (n g:Nat) (q:Int) (w:LA),Aj (Ams N F) n (Amr c b g q w)=(Mv N (Cz F) c b n g q w)
 | 0,_,_,_=>by kernel_rfl
 | n+1,g,q,w=>Eq.trans (by kernel_rfl) (Bu (Yq N (Cz F) c b · g q w) (funext fun g=>funext fun q=>funext fun w=>(WR F c b n g q w)):_)
theorem WS (F:KF R) (c:Bool) (b:LA):∀ (n i:Nat) (r:Int) (x:LA),Aj (Amu N F) n (Amt c b i r x)=(Mw N (Cz F) c b n i r x)
 | 0,_,_,_=>by kernel_rfl
 | n+1,i,r,x=>Eq.trans (by kernel_rfl) (Bu (Yr N (Cz F) c b · i r x) (funext fun i=>funext fun r=>funext fun x=>(WS F c b n i r x)):_)
theorem WT (F:KF R) (c:Bool) (b:LA):∀ (n l:Nat) (s:Int) (y:LA),Aj (Amw N F) n (Amv c b l s y)=(Mx N (Cz F) c b n l s y)
 | 0,_,_,_=>by kernel_rfl
 | n+1,l,s,y=>Eq.trans (by kernel_rfl) (Bu (Ys N (Cz F) c b · l s y) (funext fun l=>funext fun s=>funext fun y=>(WT F c b n l s y)):_)
theorem nz (b:LA) (c:Bool) (z:Int) (F:KF R):C2 [] ny N 222 [(.pagg b c),(iv z)] [] F=(Ig N b c z (Cz F)):=by
 rw[Ku]
 exact Eq.trans (by kernel_rfl) (A9q (My N (Cz F) · · · · · · b c z) (funext fun d=>funext fun m=>funext fun t=>(Ad ..).trans (WO N F c b N d m t)) (funext fun e=>funext fun o=>funext fun u=>(Ad ..).trans (WP N F c b N e o u)) (funext fun f=>funext fun p=>funext fun v=>(Ad ..).trans (WQ N F c b N f p v)) (funext fun g=>funext fun q=>funext fun w=>(Ad ..).trans (WR N F c b N g q w)) (funext fun i=>funext fun r=>funext fun x=>(Ad ..).trans (WS N F c b N i r x)) (funext fun l=>funext fun s=>funext fun y=>(Ad ..).trans (WT N F c b N l s y)):_)
def jP (a:LA) (h:Ai) (k:KF R):O R :=
 match a,h with
 | [(.pagg b c),(.int .i64 z)],[]=>(Ig N b c z (Cz k))
 | _,_=>none
theorem oA:Am N 222 @jP:=by
 intro R Q a h k j;unfold jP;split;exact Az (nz ..) (nz ..) trivial;exact A2
def oB:=A1 (oA N)
def oC:=C5 (oA N)
def sI (N:Nat) (b:Int) (r0:Int→O R):O R :=
 (cond (Ae b 7) (As .i64 (List.drop (0+((b.toNat)*1)) [(.int .i64 0),(.int .i64 32),(.int .i64 64),(.int .i64 16),(.int .i64 8),(.int .i64 8),(.int .i64 64)]) fun c=>(r0 c)) none)
def R4:=(Ah (@sI R)).1
theorem oD:@R4 R=@sI R:=(Ah _).2
def uk (F:KF R):Int→O R:=(fun d=>F (iv d) [])
theorem um (b:Int) (F:KF R):C2 [] Dc N 223 [(iv b)] [] F=(R4 N b (uk F)):=by
 rw[oD]
 kernel_rfl
def oE (a:LA) (h:Ai) (k:KF R):O R :=
 match a,h with
 | [(.int .i64 b)],[]=>(R4 N b (uk k))
 | _,_=>none
theorem uo:Am N 223 @oE:=by
 intro R Q a h k j;unfold oE;split;exact Az (um ..) (um ..) trivial;exact A2
def Asc:=A1 (uo N)
def Asd:=C5 (uo N)
def Ck (r0:LA→O R) (c:Bool) (b:LA) (k0:Int→LA→O R) (d:Int) (e:LA):O R :=
 (cond (decide (d≤6)) (cond (Nat.ble 8 (b.length)) (Ig N (b.take 8) c d (fun g x=>(R4 N d (fun i=>(Aa N (decide (((g:Nat):Int)≤i)) 0 0 (wrap .i64 (d+1)) 8 e (fun l=>(k0 (wrap .i64 (d+1)) l))))))) none) (r0 e))
def Bo (r0:LA→O R) (c:Bool) (b:LA):Nat→Int→LA→O R
 | 0,_,_=>none
 | n+1,d,e=>(Ck N r0 c b (Bo r0 c b n) d e)
def Mz (r0:LA→O R) (q0:Int→LA→O R) (b:LA) (c:Bool) (f:LA):O R :=
 (As .i64 b fun m=>(Ap N 1 24 [(.int .i64 m)] 1 false true (fun o=>(Aa N o 0 0 0 3 f (fun p=>(cond (Nat.ble 8 (b.length)) (B4 1 (b.drop 1) fun q r=>(Cy N (b.take 8) c q r false c 0 1048576 0 0 1 p (fun s=>(B4 3 (b.drop 2) fun y t=>(Ap N 1 32 [(.int .i64 ((t:Nat):Int))] 1 false true (fun u=>(Aa N u 0 0 2 8 s (fun v=>(q0 2 v))))))))) none))))))
def Gz:=(Ah (fun (N:Nat) (b:LA) (c:Bool) (f:LA) (r0:LA→O R)=>(Mz N r0 (fun d e=>(Bo N r0 c b N d e)) b c f))).1
theorem Wj (b c f r0):(@Gz R N b c f r0)=(Mz N r0 (fun d e=>(Bo N r0 c b N d e)) b c f):=by rw[Gz,(Ah _).2]
def Zz:Hints:={ H:=(hS hL (hS hL (hS hL (hS hL (hS hL (hS (hP [0,3,4] hL) hL)))))) }
def CA:Gm:=[(162,Dt N),(161,Bv N),(160,Oe N),(222,oB N),(223,Asc N)]
def cP (F:KF R):=Ko Tryz.f158 Zz (CA N) [100000] N F
def Gq (F:KF R):LA→O R:=(fun w=>F (.tup []) [(100000,(bQ 0 w))])
def cQ (c:Bool) (b:LA) (d:Int) (e:LA):St:=⟨[(0,(.optr 100000 0)),(3,(op 0)),(4,(iv d))],[(100000,(bQ 0 e)),(300000,(bP c 0 b))]⟩
def cR (F:KF R):=cP N F [1,1,1,1,1,0] []
theorem T8 (F:KF R) (c:Bool) (b:LA):∀ (n:Nat) (d:Int) (e:LA),Aj (cR N F) n (cQ c b d e)=(Bo N (Gq F) c b n d e)
 | 0,_,_=>by kernel_rfl
 | n+1,d,e=>Eq.trans (by kernel_rfl) (Bu (Ck N (Gq F) c b · d e) (funext fun d=>funext fun e=>(T8 F c b n d e)):_)
theorem Z0 (b:LA) (c:Bool) (f:LA) (F:KF R):C2 (CA N) Zz N 158 [(.optr 100000 0),(.pagg b c)] [(100000,(bQ 0 f))] F=(Gz N b c f (Gq F)):=by
 rw[Wj]
 exact Eq.trans (by kernel_rfl) (Bu (Mz N (Gq F) · b c f) (funext fun d=>funext fun e=>(Ad ..).trans (T8 N F c b N d e)):_)
def Wk (a:LA) (h:Ai) (k:KF R):O R :=
 match a,h with
 | [(.optr 100000 0),(.pagg b c)],[(100000,⟨false,false,true,false,0,f,false,none⟩)]=>(Gz N b c f (Gq k))
 | _,_=>none
theorem Z1:Am N 158 @Wk:=by
 intro R Q a h k j;unfold Wk;split;exact Az (Z0 ..) (Z0 ..) ⟨Du N,Bw N,Of N,oC N,Asd N,trivial⟩;exact A2
def cS:=A1 (Z1 N)
def cT:=C5 (Z1 N)
def J_ (N:Nat) (k1:Int→O R) (r0:Bool→O R) (b:List UInt8) (d:Int) (e:Bool):O R :=
 (cond ((!e)==true) (cond ((d==0)==false) (cond (Ae d (b.length)) (cond ((((UInt8.toNat (List.getD b (d.toNat) 0):Nat):Int) != 95)==true) (cond (Ae d (b.length)) (cond ((decide (((UInt8.toNat (List.getD b (d.toNat) 0):Nat):Int)<48))==false) (cond (Ae d (b.length)) (cond (cond true (cond false true (cond true (cond false true (decide (((UInt8.toNat (List.getD b (d.toNat) 0):Nat):Int)>57))) false)) false) (r0 false) (k1 (wrap .i64 (d+1)))) none) (r0 false)) none) (k1 (wrap .i64 (d+1)))) none) (r0 false)) (k1 (wrap .i64 (d+1))))
def DW (N:Nat) (r0:Bool→O R) (b:List UInt8) (k1:Int→O R) (q2:Int→Bool→O R) (c:Int):O R :=
 (cond (decide (c<(((b.length):Nat):Int))) (cond (Ae c (b.length)) (cond ((decide (((UInt8.toNat (List.getD b (c.toNat) 0):Nat):Int)≥97))==true) (cond (Ae c (b.length)) (q2 c (cond true (decide (((UInt8.toNat (List.getD b (c.toNat) 0):Nat):Int)≤122)) false)) none) (q2 c false)) none) (r0 true))
def Pl (r0:Bool→O R) (b:List UInt8):Nat→Int→O R
 | 0,_=>none
 | n+1,c=>(DW N r0 b (Pl r0 b n) (fun d e=>(J_ N (Pl r0 b n) r0 b d e)) c)
def S_ (N:Nat) (r0:Bool→O R) (b:List UInt8) (q1:Int→O R):O R :=
 (q1 0)
def KA (r0:Bool→O R) (b:List UInt8):O R:=(S_ N r0 b (fun c=>(Pl N r0 b N c)))
def fx (N:Nat) (r0:Bool→O R) (q0:O R) (b:List UInt8):O R :=
 (cond ((decide ((((b.length):Nat):Int)<1))==false) (cond ((cond false true (decide ((((b.length):Nat):Int)>16)))==false) (cond (cond false true (b==([99,111,114,114,101,99,116,105,118,101]:List UInt8))) (r0 false) q0) (r0 false)) (r0 false))
def O_:=(Ah (fun (N:Nat) (b:List UInt8) (r0:Bool→O R)=>(fx N r0 (KA N r0 b) b))).1
theorem oF (b r0):(@O_ R N b r0)=(fx N r0 (KA N r0 b) b):=by rw[O_,(Ah _).2]
def uq:Hints:={ H:=(hS hL (hJ [0] hL (hS (hS hL (hS (hP [0,3] (hS hL (hS (hS (hJ [0,3,4] hL hL) hL) hL))) hL)) hL))) }
def cU (F:KF R):=Ko Tryz.f224 uq [] [] N F
def Jy (F:KF R):Bool→O R:=(fun f=>F (.bool f) [])
def Ase (b:List UInt8) (d:Int) (e:Bool):St:=⟨[(0,(.str b)),(3,(iv d)),(4,(.bool e))],[]⟩
def Asf (F:KF R) (Q1:St→O R):=cU N F [1,1,0,1,0,0,1,0,0,1] [Q1]
def ur (b:List UInt8) (c:Int):St:=⟨[(0,(.str b)),(3,(iv c))],[]⟩
def ut (F:KF R):=cU N F [1,1,0,1,0] []
def Asg (b:List UInt8):St:=⟨[(0,(.str b))],[]⟩
def Ash (F:KF R):=cU N F [1,1] []
theorem Ab6 (Q1:St→O R) (F:KF R) (b:List UInt8):∀ (d:Int) (e:Bool),B9 (Asf N F Q1) (Ase b d e)=(J_ N (fun c=>Q1 (ur b c)) (Jy F) b d e):=by
 intro d e
 kernel_rfl
theorem cV (F:KF R) (b:List UInt8):∀ (n:Nat) (c:Int),Aj (ut N F) n (ur b c)=(Pl N (Jy F) b n c)
 | 0,_=>by kernel_rfl
 | n+1,c=>have e0:=(funext fun c=>(cV F b n c))
  Eq.trans (by kernel_rfl) (NY (DW N (Jy F) b · · c) e0 (funext fun d=>funext fun e=>(A4 ..).trans ((Ab6 N (Aj (ut N F) n) F b d e).trans (Bu (J_ N · (Jy F) b d e) e0))):_)
theorem Ab7 (F:KF R) (b:List UInt8):B9 (Ash N F) (Asg b)=(KA N (Jy F) b):=by
 exact Eq.trans (by kernel_rfl) (Bu (S_ N (Jy F) b ·) (funext fun c=>(Ad ..).trans (cV N F b N c)):_)
theorem uu (b:List UInt8) (F:KF R):C2 [] uq N 224 [(.str b)] [] F=(O_ N b (Jy F)):=by
 rw[oF]
 exact Eq.trans (by kernel_rfl) (Bu (fx N (Jy F) · b) ((A4 ..).trans (Ab7 N F b)):_)
def oG (a:LA) (h:Ai) (k:KF R):O R :=
 match a,h with
 | [(.str b)],[]=>(O_ N b (Jy k))
 | _,_=>none
theorem uv:Am N 224 @oG:=by
 intro R Q a h k j;unfold oG;split;exact Az (uu ..) (uu ..) trivial;exact A2
def Asi:=A1 (uv N)
def Asj:=C5 (uv N)
def Jz (r0:LA→O R) (c b:Int) (d:Nat) (e:LA) (k0:Int→LA→O R) (f:Int) (g:LA):O R :=
 (cond (decide (f<b)) (cond (Ae f d) (Wb (e.drop (0+((f.toNat)*1))) fun o=>(cond (Ae b d) (Wb (e.drop (0+((b.toNat)*1))) fun p=>(Aa N (!(o==p)) c b 0 10 g (fun q=>(k0 (wrap .i64 (f+1)) q)))) none)) none) (r0 g))
def D6 (r0:LA→O R) (c b:Int) (d:Nat) (e:LA):Nat→Int→LA→O R
 | 0,_,_=>none
 | n+1,f,g=>(Jz N r0 c b d e (D6 r0 c b d e n) f g)
def Oo (r0:LA→O R) (q0:Nat→LA→Int→LA→O R) (i:LA) (l:Bool) (c b:Int) (m:LA):O R :=
 (cond (Nat.ble 8 (i.length)) (Ig N (i.take 8) l c (fun d e=>(cond (Ae b d) (Wb (e.drop (0+((b.toNat)*1))) fun r=>(O_ N r (fun s=>(Aa N s c b 0 9 m (fun t=>(q0 d e 0 t)))))) none))) none)
def Co:=(Ah (fun (N:Nat) (i:LA) (l:Bool) (c b:Int) (m:LA) (r0:LA→O R)=>(Oo N r0 (fun d e f g=>(D6 N r0 c b d e N f g)) i l c b m))).1
theorem Z2 (i l c b m r0):(@Co R N i l c b m r0)=(Oo N r0 (fun d e f g=>(D6 N r0 c b d e N f g)) i l c b m):=by rw[Co,(Ah _).2]
def CB:Hints:={ H:=(hS hL (hS hL (hS hL (hS hL (hS (hP [0,2,3,8,9] hL) hL))))) }
def G_:Gm:=[(222,oB N),(224,Asi N),(161,Bv N)]
def gf (F:KF R):=Ko Tryz.f159 CB (G_ N) [100000] N F
def Hg (F:KF R):LA→O R:=(fun u=>F (.tup []) [(100000,(bQ 0 u))])
def gg (c b:Int) (d:Nat) (e:LA) (f:Int) (g:LA):St:=⟨[(0,(.optr 100000 0)),(2,(iv c)),(3,(iv b)),(8,(.own 300000 0 d)),(9,(iv f))],[(100000,(bQ 0 g)),(300000,(bQ 1 e))]⟩
def gh (F:KF R):=gf N F [1,1,1,1,0] []
theorem Va (F:KF R) (c b:Int) (d:Nat) (e:LA):∀ (n:Nat) (f:Int) (g:LA),Aj (gh N F) n (gg c b d e f g)=(D6 N (Hg F) c b d e n f g)
 | 0,_,_=>by kernel_rfl
 | n+1,f,g=>Eq.trans (by kernel_rfl) (Bu (Jz N (Hg F) c b d e · f g) (funext fun f=>funext fun g=>(Va F c b d e n f g)):_)
theorem CC (i:LA) (l:Bool) (c b:Int) (m:LA) (F:KF R):C2 (G_ N) CB N 159 [(.optr 100000 0),(.pagg i l),(iv c),(iv b)] [(100000,(bQ 0 m))] F=(Co N i l c b m (Hg F)):=by
 rw[Z2]
 exact Eq.trans (by kernel_rfl) (Bu (Oo N (Hg F) · i l c b m) (funext fun d=>funext fun e=>funext fun f=>funext fun g=>(Ad ..).trans (Va N F c b d e N f g)):_)
def Z3 (a:LA) (h:Ai) (k:KF R):O R :=
 match a,h with
 | [(.optr 100000 0),(.pagg i l),(.int .i64 c),(.int .i64 b)],[(100000,⟨false,false,true,false,0,m,false,none⟩)]=>(Co N i l c b m (Hg k))
 | _,_=>none
theorem CD:Am N 159 @Z3:=by
 intro R Q a h k j;unfold Z3;split;exact Az (CC ..) (CC ..) ⟨oC N,Asj N,Bw N,trivial⟩;exact A2
def Fl:=A1 (CD N)
def Fm:=C5 (CD N)
def Xh (b:LA) (i:Bool) (c d e f:Int) (g:LA) (r0:LA→O R):O R :=
 (B4 3 (b.drop 2) fun p l=>(Ap N 0 (wrap .i64 (((l:Nat):Int) - 1)) [(.int .i64 c)] 1 false true (fun m=>(Aa N m d e f 12 g (fun n=>(r0 n))))))
def Ej:=(Ah (@Xh R)).1
theorem CE:@Ej R=@Xh R:=(Ah _).2
def oH:Gm:=[(162,Dt N),(161,Bv N)]
def G' (F:KF R):LA→O R:=(fun o=>F (.tup []) [(100000,(bQ 0 o))])
theorem HA (b:LA) (i:Bool) (c d e f:Int) (g:LA) (F:KF R):C2 (oH N) Dc N 225 [(.optr 100000 0),(.pagg b i),(iv c),(iv d),(iv e),(iv f)] [(100000,(bQ 0 g))] F=(Ej N b i c d e f g (G' F)):=by
 rw[CE]
 kernel_rfl
def CF (a:LA) (h:Ai) (k:KF R):O R :=
 match a,h with
 | [(.optr 100000 0),(.pagg b i),(.int .i64 c),(.int .i64 d),(.int .i64 e),(.int .i64 f)],[(100000,⟨false,false,true,false,0,g,false,none⟩)]=>(Ej N b i c d e f g (G' k))
 | _,_=>none
theorem HB:Am N 225 @CF:=by
 intro R Q a h k j;unfold CF;split;exact Az (HA ..) (HA ..) ⟨Du N,Bw N,trivial⟩;exact A2
def M0:=A1 (HB N)
def M1:=C5 (HB N)
def MM (b:LA) (c:Bool) (r0:Bool→O R):O R :=
 (As .i64 (b.drop 1) fun d=>(Ap N 1 1048576 [(.int .i64 d)] 1 false true (fun e=>(cond (e==true) (As .i64 b fun f=>(Ap N (-1048576) 1048576 [(.int .i64 f)] 1 false true (fun g=>(r0 (cond true g false))))) (r0 false)))))
def J3:=(Ah (@MM R)).1
theorem O':@J3 R=@MM R:=(Ah _).2
def Ab8:Gm:=[(162,Dt N)]
def WU (F:KF R):Bool→O R:=(fun i=>F (.bool i) [])
theorem WV (b:LA) (c:Bool) (F:KF R):C2 (Ab8 N) Dc N 226 [(.pagg b c)] [] F=(J3 N b c (WU F)):=by
 rw[O']
 kernel_rfl
def PA (a:LA) (h:Ai) (k:KF R):O R :=
 match a,h with
 | [(.pagg b c)],[]=>(J3 N b c (WU k))
 | _,_=>none
theorem WW:Am N 226 @PA:=by
 intro R Q a h k j;unfold PA;split;exact Az (WV ..) (WV ..) ⟨Du N,trivial⟩;exact A2
def WX:=A1 (WW N)
def WY:=C5 (WW N)
def Pm (N:Nat) (r0:Bool→O R) (c:LA) (b:Nat) (d e:Bool) (k0:Int→O R) (f:Int):O R :=
 (cond (decide (f<((b:Nat):Int))) (cond (Ae f b) (As .i64 (c.drop ((f.toNat)*1)) fun g=>(cond (Ae (wrap .i64 (f - 1)) b) (As .i64 (c.drop (((wrap .i64 (f - 1)).toNat)*1)) fun i=>(cond (decide (g≤i)) (r0 false) (k0 (wrap .i64 (f+1))))) none)) none) (r0 true))
def Hy (r0:Bool→O R) (c:LA) (b:Nat) (d e:Bool):Nat→Int→O R
 | 0,_=>none
 | n+1,f=>(Pm N r0 c b d e (Hy r0 c b d e n) f)
def KB (N:Nat) (r0:Bool→O R) (q0:Int→O R) (c:LA) (b:Nat) (d e:Bool):O R :=
 (q0 1)
def Pn:=(Ah (fun (N:Nat) (c:LA) (b:Nat) (d e:Bool) (r0:Bool→O R)=>(KB N r0 (fun f=>(Hy N r0 c b d e N f)) c b d e))).1
theorem cW (c b d e r0):(@Pn R N c b d e r0)=(KB N r0 (fun f=>(Hy N r0 c b d e N f)) c b d e):=by rw[Pn,(Ah _).2]
def Age (F:KF R):=Ko Tryz.f229 Az5 [] [] N F
def R5 (F:KF R):Bool→O R:=(fun l=>F (.bool l) [])
def Agf (c:LA) (b:Nat) (d e:Bool) (f:Int):St:=⟨[(0,(.imm c b 1 d e)),(3,(iv f))],[]⟩
def Agg (F:KF R):=Age N F [1,0,1,0] []
theorem PB (F:KF R) (c:LA) (b:Nat) (d e:Bool):∀ (n:Nat) (f:Int),Aj (Agg N F) n (Agf c b d e f)=(Hy N (R5 F) c b d e n f)
 | 0,_=>by kernel_rfl
 | n+1,f=>Eq.trans (by kernel_rfl) (Bu (Pm N (R5 F) c b d e · f) (funext fun f=>(PB F c b d e n f)):_)
theorem jQ (c:LA) (b:Nat) (d e:Bool) (F:KF R):C2 [] Az5 N 229 [(.imm c b 1 d e)] [] F=(Pn N c b d e (R5 F)):=by
 rw[cW]
 exact Eq.trans (by kernel_rfl) (Bu (KB N (R5 F) · c b d e) (funext fun f=>(Ad ..).trans (PB N F c b d e N f)):_)
def cX (a:LA) (h:Ai) (k:KF R):O R :=
 match a,h with
 | [(.imm c b 1 d e)],[]=>(Pn N c b d e (R5 k))
 | _,_=>none
theorem jR:Am N 229 @cX:=by
 intro R Q a h k j;unfold cX;split;exact Az (jQ ..) (jQ ..) trivial;exact A2
def jS:=A1 (jR N)
def jT:=C5 (jR N)
def Vb (i:LA) (m:Bool) (b:LA) (c:Nat) (n d:Bool) (e f g:Int) (l:LA) (r0:LA→O R):O R :=
 (As .i64 i fun o=>(Ap N 0 (wrap .i64 (o - 1)) b c false d (fun p=>(Aa N p e f g 3 l (fun q=>(Pn N b c false d (fun r=>(Aa N r e f g 11 q (fun s=>(r0 s))))))))))
def Ih:=(Ah (@Vb R)).1
theorem Z4:@Ih R=@Vb R:=(Ah _).2
def lc:Gm:=[(162,Dt N),(161,Bv N),(229,jS N)]
def CG (F:KF R):LA→O R:=(fun t=>F (.tup []) [(100000,(bQ 0 t))])
theorem CH (i:LA) (m:Bool) (b:LA) (c:Nat) (n d:Bool) (e f g:Int) (l:LA) (F:KF R):C2 (lc N) Dc N 227 [(.optr 100000 0),(.pagg i m),(.imm b c 1 n d),(iv e),(iv f),(iv g)] [(100000,(bQ 0 l))] F=(Ih N i m b c n d e f g l (CG F)):=by
 rw[Z4]
 kernel_rfl
def Z5 (a:LA) (h:Ai) (k:KF R):O R :=
 match a,h with
 | [(.optr 100000 0),(.pagg i m),(.imm b c 1 n d),(.int .i64 e),(.int .i64 f),(.int .i64 g)],[(100000,⟨false,false,true,false,0,l,false,none⟩)]=>(Ih N i m b c n d e f g l (CG k))
 | _,_=>none
theorem CI:Am N 227 @Z5:=by
 intro R Q a h k j;unfold Z5;split;exact Az (CH ..) (CH ..) ⟨Du N,Bw N,jT N,trivial⟩;exact A2
def CJ:=A1 (CI N)
def CK:=C5 (CI N)
end
end Gx

namespace Gx
open Go Go.Proofs
open IntKind (wrap)
set_option maxRecDepth 100000
noncomputable section
variable {R:Type} (N:Nat)
def Hq (r0:LA→O R) (b:Int) (l:LA) (o:Nat) (c:Bool) (k2:Int→Int→LA→O R) (r f:Int) (s:LA):O R :=
 (cond (decide (f<r)) (cond (Ae f o) (cond (Nat.ble 3 ((l.drop ((f.toNat)*3)).length)) (cond ((!c)||(A0 ((l.drop ((f.toNat)*3)).take 3))) (cond ((Nat.beq (((l.drop ((f.toNat)*3)).take 3).length) 3)&&((Nat.ble 3 3)&&(!false))) (As .i64 ((setCells [(.int .i64 0),(.int .i64 0),(.int .i64 0)] 0 ((l.drop ((f.toNat)*3)).take 3)).drop 1) fun z=>(As .i64 ((setCells [(.int .i64 0),(.int .i64 0),(.int .i64 0)] 0 ((l.drop ((f.toNat)*3)).take 3)).drop 2) fun aa=>(Ap N 0 1048576 [(.int .i64 z),(.int .i64 aa)] 2 false true (fun ab=>(Aa N ab 6 b 3 3 s (fun ac=>(k2 r (wrap .i64 (f+1)) ac))))))) none) none) none) none) (r0 s))
def D9 (r0:LA→O R) (b:Int) (l:LA) (o:Nat) (c:Bool):Nat→Int→Int→LA→O R
 | 0,_,_,_=>none
 | n+1,r,f,s=>(Hq N r0 b l o c (D9 r0 b l o c n) r f s)
def Hr (r0:LA→O R) (b:Int) (m:LA) (p:Nat) (c:Bool) (t d e:LA) (k1:Nat→Int→Int→LA→O R) (q2:LA→Nat→Int→Int→LA→O R) (g:Nat) (u i:Int) (q:LA):O R :=
 (cond (decide (i<u)) (cond (Ae i p) (cond (Nat.ble 3 ((m.drop ((i.toNat)*3)).length)) (cond ((!c)||(A0 ((m.drop ((i.toNat)*3)).take 3))) (cond ((Nat.beq (((m.drop ((i.toNat)*3)).take 3).length) 3)&&((Nat.ble 3 3)&&(!false))) (As .i64 (setCells [(.int .i64 0),(.int .i64 0),(.int .i64 0)] 0 ((m.drop ((i.toNat)*3)).take 3)) fun ad=>(cond ((Nat.ble (g+1) 140737488355328)&&(Nat.ble ((g+1)*8) 140737488355328)) (k1 (g+1) u (wrap .i64 (i+1)) ((q.take (g*1))++[(.int .i64 ad)])) none)) none) none) none) none) (B4 22 (d.drop 4) fun be ae=>(Ap N 0 (wrap .i64 (((ae:Nat):Int) - 1)) (q.take (g*1)) g false true (fun af=>(Aa N af 6 b 3 12 t (fun ag=>(Pn N (q.take (g*1)) g false true (fun ah=>(Aa N ah 6 b 3 11 ag (fun ai=>(B4 3 (e.drop 3) fun l o=>(q2 l o ((o:Nat):Int) 0 ai))))))))))))
def Ea (r0:LA→O R) (b:Int) (m:LA) (p:Nat) (c:Bool) (t d e:LA):Nat→Nat→Int→Int→LA→O R
 | 0,_,_,_,_=>none
 | n+1,g,u,i,q=>(Hr N r0 b m p c t d e (Ea r0 b m p c t d e n) (fun l o r f s=>(D9 N r0 b l o c N r f s)) g u i q)
def M2 (r0:LA→O R) (b:Int) (c:Bool) (d:LA) (q1:LA→Nat→LA→Nat→Int→Int→LA→O R) (v e:LA):O R :=
 (B4 3 (e.drop 3) fun bf aj=>(Aa N (decide (((aj:Nat):Int)≤16)) 6 b 3 8 v (fun t=>(B4 3 (e.drop 3) fun m p=>(q1 m p t 0 ((p:Nat):Int) 0 [])))))
def Jb (r0:LA→O R) (b:Int) (c:Bool) (d:LA) (v e:LA):O R:=(M2 N r0 b c d (fun m p t g u i q=>(Ea N r0 b m p c t d e N g u i q)) v e)
def La (r0:LA→O R) (q0:LA→LA→O R) (d:LA) (c:Bool) (b:Int) (w:LA):O R :=
 (B4 4 (d.drop 7) fun x ak=>(cond (Ae b ak) (cond (Nat.ble 4 ((x.drop ((b.toNat)*4)).length)) (cond ((Nat.beq 0 0)&&((Nat.beq (((x.drop ((b.toNat)*4)).take 4).length) 4)&&(Nat.beq 4 4))) (cond (Nat.ble 8 (d.length)) (Co N (d.take 8) c 6 b w (fun al=>(B4 1 (((x.drop ((b.toNat)*4)).take 4).drop 1) fun bg am=>(Ap N 1 2 [(.int .i64 ((am:Nat):Int))] 1 false true (fun an=>(Aa N an 6 b 1 4 al (fun ao=>(B4 12 (d.drop 3) fun bh ap=>(B4 1 (((x.drop ((b.toNat)*4)).take 4).drop 1) fun aq ar=>(Ap N 0 (wrap .i64 (((ap:Nat):Int) - 1)) aq ar false c (fun au=>(Aa N au 6 b 1 12 ao (fun av=>(B4 1 (((x.drop ((b.toNat)*4)).take 4).drop 1) fun aw ax=>(Pn N aw ax false c (fun ay=>(Aa N ay 6 b 1 11 av (fun y=>(aT (((x.drop ((b.toNat)*4)).take 4).drop 2) fun az=>(cond (az==false) (B4 3 (((x.drop ((b.toNat)*4)).take 4).drop 3) fun bi ba=>(Aa N (cond false true (((ba:Nat):Int)==0)) 6 b 3 16 y (fun bb=>(q0 bb ((x.drop ((b.toNat)*4)).take 4))))) (Aa N true 6 b 3 16 y (fun bc=>(q0 bc ((x.drop ((b.toNat)*4)).take 4)))))))))))))))))))))))) none) none) none) none))
def F6:=(Ah (fun (N:Nat) (d:LA) (c:Bool) (b:Int) (w:LA) (r0:LA→O R)=>(La N r0 (fun v e=>(Jb N r0 b c d v e)) d c b w))).1
theorem Vc (d c b w r0):(@F6 R N d c b w r0)=(La N r0 (fun v e=>(Jb N r0 b c d v e)) d c b w):=by rw[F6,(Ah _).2]
def Wl:Hints:={ H:=(hS hL (hS hL (hS hL (hS hL (hS hL (hS hL (hJ [0,2,4,6,7] hL (hS hL (hS hL (hS (hS hL (hS (hP [0,2,4,6,7,8,71,72,73] hL) hL)) (hS hL (hS hL (hS hL (hS (hP [0,2,7,100,101,102] hL) hL)))))))))))))),nils:=[(8,1)] }
def Z6:Gm:=[(159,Fl N),(162,Dt N),(161,Bv N),(229,jS N)]
def Og (F:KF R):=Ko Tryz.f167 Wl (Z6 N) [100000] N F
def B5 (F:KF R):LA→O R:=(fun bd=>F (.tup []) [(100000,(bQ 0 bd))])
def ZO (b:Int) (l:LA) (o:Nat) (c:Bool) (r f:Int) (s:LA):St:=⟨[(0,(.optr 100000 0)),(2,(iv b)),(7,(iv 6)),(100,(.imm l o 3 false c)),(101,(iv r)),(102,(iv f))],[(100000,(bQ 0 s))]⟩
def ZP (F:KF R):=Og N F [1,1,1,1,1,1,1,1,1,1,1,1,1,0] []
def ZQ (b:Int) (m:LA) (p:Nat) (c:Bool) (t d e:LA) (g:Nat) (u i:Int) (q:LA):St:=⟨[(0,(.optr 100000 0)),(2,(iv b)),(4,(op 0)),(6,(op 1)),(7,(iv 6)),(8,(.own 300002 0 g)),(71,(.imm m p 3 false c)),(72,(iv u)),(73,(iv i))],[(100000,(bQ 0 t)),(300000,(bP c 0 d)),(300001,(bP c 0 e)),(300002,(bQ 1 q))]⟩
def ZR (F:KF R):=Og N F [1,1,1,1,1,1,1,1,1,0,1,0] []
def ZS (b:Int) (c:Bool) (d v e:LA):St:=⟨[(0,(.optr 100000 0)),(2,(iv b)),(4,(op 0)),(6,(op 1)),(7,(iv 6))],[(100000,(bQ 0 v)),(300000,(bP c 0 d)),(300001,(bP c 0 e))]⟩
def ZT (F:KF R):=Og N F [1,1,1,1,1,1,1] []
theorem R6 (F:KF R) (b:Int) (l:LA) (o:Nat) (c:Bool):∀ (n:Nat) (r f:Int) (s:LA),Aj (ZP N F) n (ZO b l o c r f s)=(D9 N (B5 F) b l o c n r f s)
 | 0,_,_,_=>by kernel_rfl
 | n+1,r,f,s=>Eq.trans (by kernel_rfl) (Bu (Hq N (B5 F) b l o c · r f s) (funext fun r=>funext fun f=>funext fun s=>(R6 F b l o c n r f s)):_)
theorem R7 (F:KF R) (b:Int) (m:LA) (p:Nat) (c:Bool) (t d e:LA):∀ (n g:Nat) (u i:Int) (q:LA),Aj (ZR N F) n (ZQ b m p c t d e g u i q)=(Ea N (B5 F) b m p c t d e n g u i q)
 | 0,_,_,_,_=>by kernel_rfl
 | n+1,g,u,i,q=>Eq.trans (by kernel_rfl) (NY (Hr N (B5 F) b m p c t d e · · g u i q) (funext fun g=>funext fun u=>funext fun i=>funext fun q=>(R7 F b m p c t d e n g u i q)) (funext fun l=>funext fun o=>funext fun r=>funext fun f=>funext fun s=>(Ad ..).trans (R6 N F b l o c N r f s)):_)
theorem MN (F:KF R) (b:Int) (c:Bool) (d:LA):∀ (v e:LA),B9 (ZT N F) (ZS b c d v e)=(Jb N (B5 F) b c d v e):=by
 intro v e
 exact Eq.trans (by kernel_rfl) (Bu (M2 N (B5 F) b c d · v e) (funext fun m=>funext fun p=>funext fun t=>funext fun g=>funext fun u=>funext fun i=>funext fun q=>(Ad ..).trans (R7 N F b m p c t d e N g u i q)):_)
theorem Wm (d:LA) (c:Bool) (b:Int) (w:LA) (F:KF R):C2 (Z6 N) Wl N 167 [(.optr 100000 0),(.pagg d c),(iv b)] [(100000,(bQ 0 w))] F=(F6 N d c b w (B5 F)):=by
 rw[Vc]
 exact Eq.trans (by kernel_rfl) (Bu (La N (B5 F) · d c b w) (funext fun v=>funext fun e=>(A4 ..).trans (MN N F b c d v e)):_)
def Vd (a:LA) (h:Ai) (k:KF R):O R :=
 match a,h with
 | [(.optr 100000 0),(.pagg d c),(.int .i64 b)],[(100000,⟨false,false,true,false,0,w,false,none⟩)]=>(F6 N d c b w (B5 k))
 | _,_=>none
theorem Wn:Am N 167 @Vd:=by
 intro R Q a h k j;unfold Vd;split;exact Az (Wm ..) (Wm ..) ⟨Fm N,Du N,Bw N,jT N,trivial⟩;exact A2
def ZU:=A1 (Wn N)
def ZV:=C5 (Wn N)
def KC (N:Nat) (r0:Bool→O R) (c:LA) (b:Nat) (e f:Bool) (d:Int) (k0:Int→O R) (g:Int):O R :=
 (cond (decide (g<((b:Nat):Int))) (cond (Ae g b) (As .i64 (c.drop ((g.toNat)*1)) fun i=>(cond (i==d) (r0 true) (k0 (wrap .i64 (g+1))))) none) (r0 false))
def Tn (r0:Bool→O R) (c:LA) (b:Nat) (e f:Bool) (d:Int):Nat→Int→O R
 | 0,_=>none
 | n+1,g=>(KC N r0 c b e f d (Tn r0 c b e f d n) g)
def oI (N:Nat) (r0:Bool→O R) (q0:Int→O R) (c:LA) (b:Nat) (e f:Bool) (d:Int):O R :=
 (q0 0)
def KD:=(Ah (fun (N:Nat) (c:LA) (b:Nat) (e f:Bool) (d:Int) (r0:Bool→O R)=>(oI N r0 (fun g=>(Tn N r0 c b e f d N g)) c b e f d))).1
theorem uw (c b e f d r0):(@KD R N c b e f d r0)=(oI N r0 (fun g=>(Tn N r0 c b e f d N g)) c b e f d):=by rw[KD,(Ah _).2]
def Ab9:Hints:={ H:=(hS hL (hS (hS hL (hS (hP [0,1,5] hL) hL)) hL)) }
def Axc (F:KF R):=Ko Tryz.f169 Ab9 [] [] N F
def HC (F:KF R):Bool→O R:=(fun l=>F (.bool l) [])
def Axd (c:LA) (b:Nat) (e f:Bool) (d g:Int):St:=⟨[(0,(.imm c b 1 e f)),(1,(iv d)),(5,(iv g))],[]⟩
def Axe (F:KF R):=Axc N F [1,0,1,0] []
theorem jU (F:KF R) (c:LA) (b:Nat) (e f:Bool) (d:Int):∀ (n:Nat) (g:Int),Aj (Axe N F) n (Axd c b e f d g)=(Tn N (HC F) c b e f d n g)
 | 0,_=>by kernel_rfl
 | n+1,g=>Eq.trans (by kernel_rfl) (Bu (KC N (HC F) c b e f d · g) (funext fun g=>(jU F c b e f d n g)):_)
theorem Aca (c:LA) (b:Nat) (e f:Bool) (d:Int) (F:KF R):C2 [] Ab9 N 169 [(.imm c b 1 e f),(iv d)] [] F=(KD N c b e f d (HC F)):=by
 rw[uw]
 exact Eq.trans (by kernel_rfl) (Bu (oI N (HC F) · c b e f d) (funext fun g=>(Ad ..).trans (jU N F c b e f d N g)):_)
def ux (a:LA) (h:Ai) (k:KF R):O R :=
 match a,h with
 | [(.imm c b 1 e f),(.int .i64 d)],[]=>(KD N c b e f d (HC k))
 | _,_=>none
theorem Acb:Am N 169 @ux:=by
 intro R Q a h k j;unfold ux;split;exact Az (Aca ..) (Aca ..) trivial;exact A2
def ld:=A1 (Acb N)
def lf:=C5 (Acb N)
def Oq (r0:Nat→LA→O R) (c:Int) (d:Bool) (b:LA) (k0:Nat→Int→LA→O R) (e:Nat) (f:Int) (g:LA):O R :=
 (B4 12 (b.drop 3) fun t i=>(cond (decide (f<((i:Nat):Int))) (B4 12 (b.drop 3) fun l m=>(cond (Ae f m) (B4 1 ((l.drop ((f.toNat)*12)).drop 11) fun o p=>(KD N o p false d c (fun q=>(cond (!q) (cond ((Nat.ble (e+1) 140737488355328)&&(Nat.ble ((e+1)*8) 140737488355328)) (k0 (e+1) (wrap .i64 (f+1)) ((g.take (e*1))++[(.int .i64 f)])) none) (k0 e (wrap .i64 (f+1)) g))))) none)) (r0 e g)))
def F7 (r0:Nat→LA→O R) (c:Int) (d:Bool) (b:LA):Nat→Nat→Int→LA→O R
 | 0,_,_,_=>none
 | n+1,e,f,g=>(Oq N r0 c d b (F7 r0 c d b n) e f g)
def Ve (N:Nat) (r0:Nat→LA→O R) (q0:Nat→Int→LA→O R) (b:LA) (d:Bool) (c:Int):O R :=
 (q0 0 0 [])
def N5:=(Ah (fun (N:Nat) (b:LA) (d:Bool) (c:Int) (r0:Nat→LA→O R)=>(Ve N r0 (fun e f g=>(F7 N r0 c d b N e f g)) b d c))).1
theorem KE (b d c r0):(@N5 R N b d c r0)=(Ve N r0 (fun e f g=>(F7 N r0 c d b N e f g)) b d c):=by rw[N5,(Ah _).2]
def PC:Hints:={ H:=(hS hL (hS hL (hS (hS hL (hS (hP [1,2,5,6] hL) hL)) hL))),nils:=[(4,1),(5,1)],modes:=[(2,1)] }
def WZ:Gm:=[(169,ld N)]
def sJ (F:KF R):=Ko Tryz.f230 PC (WZ N) [] N F
def Ln (F:KF R):Nat→LA→O R:=(fun r s=>F (.own 300000 0 r) (hq [(bQ 1 s)]))
def sK (c:Int) (d:Bool) (b:LA) (e:Nat) (f:Int) (g:LA):St:=⟨[(1,(iv c)),(2,(op 0)),(5,(.own 300001 0 e)),(6,(iv f))],(hq [(bP d 0 b),(bQ 1 g)])⟩
def sL (F:KF R):=sJ N F [1,1,0,1,0] []
theorem CL (F:KF R) (c:Int) (d:Bool) (b:LA):∀ (n e:Nat) (f:Int) (g:LA),Aj (sL N F) n (sK c d b e f g)=(F7 N (Ln F) c d b n e f g)
 | 0,_,_,_=>by kernel_rfl
 | n+1,e,f,g=>Eq.trans (by kernel_rfl) (Bu (Oq N (Ln F) c d b · e f g) (funext fun e=>funext fun f=>funext fun g=>(CL F c d b n e f g)):_)
theorem PD (b:LA) (d:Bool) (c:Int) (F:KF R):C2 (WZ N) PC N 230 [(.pagg b d),(iv c)] [] F=(N5 N b d c (Ln F)):=by
 rw[KE]
 exact Eq.trans (by kernel_rfl) (Bu (Ve N (Ln F) · b d c) (funext fun e=>funext fun f=>funext fun g=>(Ad ..).trans (CL N F c d b N e f g)):_)
def KG (a:LA) (h:Ai) (k:KF R):O R :=
 match a,h with
 | [(.pagg b d),(.int .i64 c)],[]=>(N5 N b d c (Ln k))
 | _,_=>none
theorem PE:Am N 230 @KG:=by
 intro R Q a h k j;unfold KG;split;exact Az (PD ..) (PD ..) ⟨lf N,trivial⟩;exact A2
def sM:=A1 (PE N)
def sN:=C5 (PE N)
def Yt (N:Nat) (r0:Nat→Nat→LA→LA→O R) (d:Nat) (c:Bool) (b g:LA) (k0:Nat→Int→Int→LA→O R) (e:Nat) (i f:Int) (l:LA):O R :=
 (cond (decide (f<i)) (cond (Ae f d) (As .i64 (g.drop (0+((f.toNat)*1))) fun o=>(B4 12 (b.drop 3) fun p q=>(cond (Ae o q) (As .i64 ((p.drop ((o.toNat)*12)).drop 1) fun r=>(B4 12 (b.drop 3) fun s t=>(cond (Ae o t) (As .i64 ((s.drop ((o.toNat)*12)).drop 2) fun u=>(cond ((Nat.ble (e+1) 140737488355328)&&(Nat.ble ((e+1)*16) 140737488355328)) (k0 (e+1) i (wrap .i64 (f+1)) ((l.take (e*2))++[(.int .i64 r),(.int .i64 u)])) none)) none))) none))) none) (r0 e d l g))
def M3 (r0:Nat→Nat→LA→LA→O R) (d:Nat) (c:Bool) (b g:LA):Nat→Nat→Int→Int→LA→O R
 | 0,_,_,_,_=>none
 | n+1,e,i,f,l=>(Yt N r0 d c b g (M3 r0 d c b g n) e i f l)
def TA (r0:Nat→Nat→LA→LA→O R) (q0:Nat→LA→Nat→Int→Int→LA→O R) (b:LA) (c:Bool) (m:Int):O R :=
 (cond (Nat.ble 8 (b.length)) (N5 N (b.take 8) c m (fun d g=>(q0 d g 0 ((d:Nat):Int) 0 []))) none)
def FH:=(Ah (fun (N:Nat) (b:LA) (c:Bool) (m:Int) (r0:Nat→Nat→LA→LA→O R)=>(TA N r0 (fun d g e i f l=>(M3 N r0 d c b g N e i f l)) b c m))).1
theorem jV (b c m r0):(@FH R N b c m r0)=(TA N r0 (fun d g e i f l=>(M3 N r0 d c b g N e i f l)) b c m):=by rw[FH,(Ah _).2]
def oJ:Hints:={ H:=(hS hL (hS hL (hS hL (hS (hS hL (hS (hP [2,6,7,13,14,15] hL) hL)) hL)))),nils:=[(4,2),(5,1),(7,2)],modes:=[(2,2),(2,1)] }
def uy:Gm:=[(230,sM N)]
def Amx (F:KF R):=Ko Tryz.f168 oJ (uy N) [] N F
def Vf (F:KF R):Nat→Nat→LA→LA→O R:=(fun v w x y=>F (.tup [(.own 300000 0 v),(.own 300001 0 w)]) (hq [(bQ 2 x),(bQ 1 y)]))
def Amy (d:Nat) (c:Bool) (b g:LA) (e:Nat) (i f:Int) (l:LA):St:=⟨[(2,(op 0)),(6,(.own 300001 0 d)),(7,(.own 300002 0 e)),(13,(.own 300001 0 d)),(14,(iv i)),(15,(iv f))],(hq [(bP c 0 b),(bQ 1 g),(bQ 2 l)])⟩
def Amz (F:KF R):=Amx N F [1,1,1,0,1,0] []
theorem W_ (F:KF R) (d:Nat) (c:Bool) (b g:LA):∀ (n e:Nat) (i f:Int) (l:LA),Aj (Amz N F) n (Amy d c b g e i f l)=(M3 N (Vf F) d c b g n e i f l)
 | 0,_,_,_,_=>by kernel_rfl
 | n+1,e,i,f,l=>Eq.trans (by kernel_rfl) (Bu (Yt N (Vf F) d c b g · e i f l) (funext fun e=>funext fun i=>funext fun f=>funext fun l=>(W_ F d c b g n e i f l)):_)
theorem oK (b:LA) (c:Bool) (m:Int) (F:KF R):C2 (uy N) oJ N 168 [(.pagg b c),(iv m)] [] F=(FH N b c m (Vf F)):=by
 rw[jV]
 exact Eq.trans (by kernel_rfl) (Bu (TA N (Vf F) · b c m) (funext fun d=>funext fun g=>funext fun e=>funext fun i=>funext fun f=>funext fun l=>(Ad ..).trans (W_ N F d c b g N e i f l)):_)
def jW (a:LA) (h:Ai) (k:KF R):O R :=
 match a,h with
 | [(.pagg b c),(.int .i64 m)],[]=>(FH N b c m (Vf k))
 | _,_=>none
theorem oL:Am N 168 @jW:=by
 intro R Q a h k j;unfold jW;split;exact Az (oK ..) (oK ..) ⟨sN N,trivial⟩;exact A2
def Am0:=A1 (oL N)
def Am1:=C5 (oL N)
def S8 (N:Nat) (k1:Bool→LA→O R) (r0:Nat→LA→O R) (b:LA) (d:Nat) (f e:Bool) (c:Nat) (k2:Bool→Int→Int→LA→O R) (s:Bool) (p g:Int) (l:LA):O R :=
 (cond (decide (g<p)) (cond (Ae g d) (cond (Nat.ble 2 ((b.drop ((g.toNat)*2)).length)) (cond ((!e)||(A0 ((b.drop ((g.toNat)*2)).take 2))) (cond ((Nat.beq (((b.drop ((g.toNat)*2)).take 2).length) 2)&&((Nat.ble 2 2)&&(!false))) (As .i64 (setCells [(.int .i64 0),(.int .i64 0)] 0 ((b.drop ((g.toNat)*2)).take 2)) fun ab=>(cond (Ae ab c) (As .i64 (l.drop (0+((ab.toNat)*1))) fun t=>(As .i64 ((setCells [(.int .i64 0),(.int .i64 0)] 0 ((b.drop ((g.toNat)*2)).take 2)).drop 1) fun ac=>(cond (Ae ac c) (As .i64 (l.drop (0+((ac.toNat)*1))) fun u=>(cond (s==false) (As .i64 (setCells [(.int .i64 0),(.int .i64 0)] 0 ((b.drop ((g.toNat)*2)).take 2)) fun ad=>(cond (Ae ad c) (As .i64 (l.drop (0+((ad.toNat)*1))) fun af=>(cond ((cond false true (af != (L5 t u)))==false) (As .i64 ((setCells [(.int .i64 0),(.int .i64 0)] 0 ((b.drop ((g.toNat)*2)).take 2)).drop 1) fun ae=>(cond (Ae ae c) (As .i64 (l.drop (0+((ae.toNat)*1))) fun ag=>(As .i64 (setCells [(.int .i64 0),(.int .i64 0)] 0 ((b.drop ((g.toNat)*2)).take 2)) fun v=>(As .i64 ((setCells [(.int .i64 0),(.int .i64 0)] 0 ((b.drop ((g.toNat)*2)).take 2)).drop 1) fun y=>(cond (Ae v c) (cond ((Nat.beq 1 1)&&((Nat.ble ((0+((v.toNat)*1))+1) (l.length))&&(!false))) (cond (Ae y c) (cond ((Nat.beq 1 1)&&((Nat.ble ((0+((y.toNat)*1))+1) ((l.set (0+((v.toNat)*1)) (.int .i64 (L5 t u))).length))&&(!false))) (k2 (cond false true (ag != (L5 t u))) p (wrap .i64 (g+1)) ((l.set (0+((v.toNat)*1)) (.int .i64 (L5 t u))).set (0+((y.toNat)*1)) (.int .i64 (L5 t u)))) none) none) none) none)))) none)) (As .i64 (setCells [(.int .i64 0),(.int .i64 0)] 0 ((b.drop ((g.toNat)*2)).take 2)) fun w=>(As .i64 ((setCells [(.int .i64 0),(.int .i64 0)] 0 ((b.drop ((g.toNat)*2)).take 2)).drop 1) fun z=>(cond (Ae w c) (cond ((Nat.beq 1 1)&&((Nat.ble ((0+((w.toNat)*1))+1) (l.length))&&(!false))) (cond (Ae z c) (cond ((Nat.beq 1 1)&&((Nat.ble ((0+((z.toNat)*1))+1) ((l.set (0+((w.toNat)*1)) (.int .i64 (L5 t u))).length))&&(!false))) (k2 true p (wrap .i64 (g+1)) ((l.set (0+((w.toNat)*1)) (.int .i64 (L5 t u))).set (0+((z.toNat)*1)) (.int .i64 (L5 t u)))) none) none) none) none))))) none)) (As .i64 (setCells [(.int .i64 0),(.int .i64 0)] 0 ((b.drop ((g.toNat)*2)).take 2)) fun x=>(As .i64 ((setCells [(.int .i64 0),(.int .i64 0)] 0 ((b.drop ((g.toNat)*2)).take 2)).drop 1) fun aa=>(cond (Ae x c) (cond ((Nat.beq 1 1)&&((Nat.ble ((0+((x.toNat)*1))+1) (l.length))&&(!false))) (cond (Ae aa c) (cond ((Nat.beq 1 1)&&((Nat.ble ((0+((aa.toNat)*1))+1) ((l.set (0+((x.toNat)*1)) (.int .i64 (L5 t u))).length))&&(!false))) (k2 true p (wrap .i64 (g+1)) ((l.set (0+((x.toNat)*1)) (.int .i64 (L5 t u))).set (0+((aa.toNat)*1)) (.int .i64 (L5 t u)))) none) none) none) none))))) none))) none)) none) none) none) none) (k1 s l))
def Ix (k1:Bool→LA→O R) (r0:Nat→LA→O R) (b:LA) (d:Nat) (f e:Bool) (c:Nat):Nat→Bool→Int→Int→LA→O R
 | 0,_,_,_,_=>none
 | n+1,s,p,g,l=>(S8 N k1 r0 b d f e c (Ix k1 r0 b d f e c n) s p g l)
def Ta (N:Nat) (r0:Nat→LA→O R) (b:LA) (d:Nat) (f e:Bool) (c:Nat) (k1:Bool→LA→O R) (q2:Bool→Int→Int→LA→O R) (q:Bool) (o:LA):O R :=
 (cond q (q2 false ((d:Nat):Int) 0 o) (r0 c o))
def Dv (r0:Nat→LA→O R) (b:LA) (d:Nat) (f e:Bool) (c:Nat):Nat→Bool→LA→O R
 | 0,_,_=>none
 | n+1,q,o=>(Ta N r0 b d f e c (Dv r0 b d f e c n) (fun s p g l=>(Ix N (Dv r0 b d f e c n) r0 b d f e c N s p g l)) q o)
def Tb (N:Nat) (r0:Nat→LA→O R) (i:Int) (b:LA) (d:Nat) (f e:Bool) (k0:Nat→Int→LA→O R) (q1:Bool→LA→O R) (c:Nat) (m:Int) (r:LA):O R :=
 (cond (decide (m<i)) (cond (Ae m c) (cond ((Nat.beq 1 1)&&((Nat.ble ((0+((m.toNat)*1))+1) (r.length))&&(!false))) (k0 c (wrap .i64 (m+1)) (r.set (0+((m.toNat)*1)) (.int .i64 m))) none) none) (q1 true r))
def Iy (r0:Nat→LA→O R) (i:Int) (b:LA) (d:Nat) (f e:Bool):Nat→Nat→Int→LA→O R
 | 0,_,_,_=>none
 | n+1,c,m,r=>(Tb N r0 i b d f e (Iy r0 i b d f e n) (fun q o=>(Dv N r0 b d f e c N q o)) c m r)
def DX (N:Nat) (r0:Nat→LA→O R) (q0:Nat→Int→LA→O R) (i:Int) (b:LA) (d:Nat) (f e:Bool):O R :=
 (cond ((decide (0≤i))&&((decide (i≤i))&&((decide (i≤140737488355328))&&(decide ((i*((8:Nat):Int))≤140737488355328))))) (q0 (i.toNat) 0 (List.replicate (i.toNat) (.int .i64 0))) none)
def Po:=(Ah (fun (N:Nat) (i:Int) (b:LA) (d:Nat) (f e:Bool) (r0:Nat→LA→O R)=>(DX N r0 (fun c m r=>(Iy N r0 i b d f e N c m r)) i b d f e))).1
theorem XA (i b d f e r0):(@Po R N i b d f e r0)=(DX N r0 (fun c m r=>(Iy N r0 i b d f e N c m r)) i b d f e):=by rw[Po,(Ah _).2]
def cY:Hints:={ H:=(hS hL (hS hL (hS (hS hL (hS (hP [0,1,5,6] hL) hL)) (hS (hS hL (hS (hP [1,5,7] (hS hL (hS (hS hL (hS hL (hS (hP [1,5,7,23,24,25] hL) hL))) hL))) hL)) hL)))),nils:=[(4,1)],modes:=[(2,1)] }
def HD (F:KF R):=Ko Tryz.f232 cY [] [] N F
def Ed (F:KF R):Nat→LA→O R:=(fun ah ai=>F (.own 300000 0 ah) (hq [(bQ 1 ai)]))
def Acc (b:LA) (d:Nat) (f e:Bool) (c:Nat) (s:Bool) (p g:Int) (l:LA):St:=⟨[(1,(.imm b d 2 f e)),(5,(.own 300000 0 c)),(7,(.bool s)),(23,(.imm b d 2 f e)),(24,(iv p)),(25,(iv g))],(hq [(bQ 1 l)])⟩
def Acd (F:KF R) (Q1:St→O R):=HD N F [1,1,1,0,1,0,0,1,0,1,1,0] [Q1]
def HE (b:LA) (d:Nat) (f e:Bool) (c:Nat) (q:Bool) (o:LA):St:=⟨[(1,(.imm b d 2 f e)),(5,(.own 300000 0 c)),(7,(.bool q))],(hq [(bQ 1 o)])⟩
def cZ (F:KF R):=HD N F [1,1,1,0,1,0] []
def Ace (i:Int) (b:LA) (d:Nat) (f e:Bool) (c:Nat) (m:Int) (r:LA):St:=⟨[(0,(iv i)),(1,(.imm b d 2 f e)),(5,(.own 300000 0 c)),(6,(iv m))],(hq [(bQ 1 r)])⟩
def Acf (F:KF R):=HD N F [1,1,0,1,0] []
theorem KH (Q1:St→O R) (F:KF R) (b:LA) (d:Nat) (f e:Bool) (c:Nat):∀ (n:Nat) (s:Bool) (p g:Int) (l:LA),Aj (Acd N F Q1) n (Acc b d f e c s p g l)=(Ix N (fun q o=>Q1 (HE b d f e c q o)) (Ed F) b d f e c n s p g l)
 | 0,_,_,_,_=>by kernel_rfl
 | n+1,s,p,g,l=>Eq.trans (by kernel_rfl) (Bu (S8 N (fun q o=>Q1 (HE b d f e c q o)) (Ed F) b d f e c · s p g l) (funext fun s=>funext fun p=>funext fun g=>funext fun l=>(KH Q1 F b d f e c n s p g l)):_)
theorem KI (F:KF R) (b:LA) (d:Nat) (f e:Bool) (c:Nat):∀ (n:Nat) (q:Bool) (o:LA),Aj (cZ N F) n (HE b d f e c q o)=(Dv N (Ed F) b d f e c n q o)
 | 0,_,_=>by kernel_rfl
 | n+1,q,o=>have e0:=(funext fun q=>funext fun o=>(KI F b d f e c n q o))
  Eq.trans (by kernel_rfl) (NY (Ta N (Ed F) b d f e c · · q o) e0 (funext fun s=>funext fun p=>funext fun g=>funext fun l=>(Ad ..).trans ((KH N (Aj (cZ N F) n) F b d f e c N s p g l).trans (Bu (Ix N · (Ed F) b d f e c N s p g l) e0))):_)
theorem KJ (F:KF R) (i:Int) (b:LA) (d:Nat) (f e:Bool):∀ (n c:Nat) (m:Int) (r:LA),Aj (Acf N F) n (Ace i b d f e c m r)=(Iy N (Ed F) i b d f e n c m r)
 | 0,_,_,_=>by kernel_rfl
 | n+1,c,m,r=>Eq.trans (by kernel_rfl) (NY (Tb N (Ed F) i b d f e · · c m r) (funext fun c=>funext fun m=>funext fun r=>(KJ F i b d f e n c m r)) (funext fun q=>funext fun o=>(Ad ..).trans (KI N F b d f e c N q o)):_)
theorem c_ (i:Int) (b:LA) (d:Nat) (f e:Bool) (F:KF R):C2 [] cY N 232 [(iv i),(.imm b d 2 f e)] [] F=(Po N i b d f e (Ed F)):=by
 rw[XA]
 exact Eq.trans (by kernel_rfl) (Bu (DX N (Ed F) · i b d f e) (funext fun c=>funext fun m=>funext fun r=>(Ad ..).trans (KJ N F i b d f e N c m r)):_)
def XB (a:LA) (h:Ai) (k:KF R):O R :=
 match a,h with
 | [(.int .i64 i),(.imm b d 2 f e)],[]=>(Po N i b d f e (Ed k))
 | _,_=>none
theorem dA:Am N 232 @XB:=by
 intro R Q a h k j;unfold XB;split;exact Az (c_ ..) (c_ ..) trivial;exact A2
def Acg:=A1 (dA N)
def Ach:=C5 (dA N)
def Yu (N:Nat) (r0:Int→O R) (c:LA) (b:Nat) (d e:Bool) (k0:Int→Int→O R) (g f:Int):O R :=
 (cond (decide (f<((b:Nat):Int))) (cond (Ae f b) (As .i64 (c.drop ((f.toNat)*1)) fun i=>(cond (i==f) (k0 (wrap .i64 (g+1)) (wrap .i64 (f+1))) (k0 g (wrap .i64 (f+1))))) none) (r0 g))
def M4 (r0:Int→O R) (c:LA) (b:Nat) (d e:Bool):Nat→Int→Int→O R
 | 0,_,_=>none
 | n+1,g,f=>(Yu N r0 c b d e (M4 r0 c b d e n) g f)
def TB (N:Nat) (r0:Int→O R) (q0:Int→Int→O R) (c:LA) (b:Nat) (d e:Bool):O R :=
 (q0 0 0)
def Xi:=(Ah (fun (N:Nat) (c:LA) (b:Nat) (d e:Bool) (r0:Int→O R)=>(TB N r0 (fun g f=>(M4 N r0 c b d e N g f)) c b d e))).1
theorem jX (c b d e r0):(@Xi R N c b d e r0)=(TB N r0 (fun g f=>(M4 N r0 c b d e N g f)) c b d e):=by rw[Xi,(Ah _).2]
def oM:Hints:={ H:=(hS hL (hS hL (hS (hS hL (hS (hP [0,3,4] hL) hL)) hL))) }
def Am2 (F:KF R):=Ko Tryz.f231 oM [] [] N F
def Vg (F:KF R):Int→O R:=(fun l=>F (iv l) [])
def Am3 (c:LA) (b:Nat) (d e:Bool) (g f:Int):St:=⟨[(0,(.imm c b 1 d e)),(3,(iv g)),(4,(iv f))],[]⟩
def Am4 (F:KF R):=Am2 N F [1,1,0,1,0] []
theorem XC (F:KF R) (c:LA) (b:Nat) (d e:Bool):∀ (n:Nat) (g f:Int),Aj (Am4 N F) n (Am3 c b d e g f)=(M4 N (Vg F) c b d e n g f)
 | 0,_,_=>by kernel_rfl
 | n+1,g,f=>Eq.trans (by kernel_rfl) (Bu (Yu N (Vg F) c b d e · g f) (funext fun g=>funext fun f=>(XC F c b d e n g f)):_)
theorem oN (c:LA) (b:Nat) (d e:Bool) (F:KF R):C2 [] oM N 231 [(.imm c b 1 d e)] [] F=(Xi N c b d e (Vg F)):=by
 rw[jX]
 exact Eq.trans (by kernel_rfl) (Bu (TB N (Vg F) · c b d e) (funext fun g=>funext fun f=>(Ad ..).trans (XC N F c b d e N g f)):_)
def jY (a:LA) (h:Ai) (k:KF R):O R :=
 match a,h with
 | [(.imm c b 1 d e)],[]=>(Xi N c b d e (Vg k))
 | _,_=>none
theorem oO:Am N 231 @jY:=by
 intro R Q a h k j;unfold jY;split;exact Az (oN ..) (oN ..) trivial;exact A2
def Am5:=A1 (oO N)
def Am6:=C5 (oO N)
def Ot (r0:Bool→O R) (d:Int) (b:LA) (c:Nat) (m e:Bool) (f:LA) (g:Nat) (o i:Bool) (k0:Nat→Int→LA→O R) (p:Nat) (l:Int) (q:LA):O R :=
 (cond (decide (l<((c:Nat):Int))) (KD N f g false i l (fun t=>(cond (!t) (cond (Ae l c) (cond (Nat.ble 2 ((b.drop ((l.toNat)*2)).length)) (cond ((!e)||(A0 ((b.drop ((l.toNat)*2)).take 2))) (cond ((Nat.beq (((b.drop ((l.toNat)*2)).take 2).length) 2)&&(Nat.ble 2 2)) (cond ((Nat.ble (p+1) 140737488355328)&&(Nat.ble ((p+1)*16) 140737488355328)) (k0 (p+1) (wrap .i64 (l+1)) ((q.take (p*2))++((setCells [(.int .i64 0),(.int .i64 0)] 0 ((b.drop ((l.toNat)*2)).take 2)).take 2))) none) none) none) none) none) (k0 p (wrap .i64 (l+1)) q)))) (Po N d (q.take (p*2)) p false true (fun r u=>(Xi N (u.take (r*1)) r false true (fun v=>(Po N d b c false e (fun s w=>(Xi N (w.take (s*1)) s false true (fun x=>(r0 (decide (v>x))))))))))))
def F8 (r0:Bool→O R) (d:Int) (b:LA) (c:Nat) (m e:Bool) (f:LA) (g:Nat) (o i:Bool):Nat→Nat→Int→LA→O R
 | 0,_,_,_=>none
 | n+1,p,l,q=>(Ot N r0 d b c m e f g o i (F8 r0 d b c m e f g o i n) p l q)
def Vh (N:Nat) (r0:Bool→O R) (q0:Nat→Int→LA→O R) (d:Int) (b:LA) (c:Nat) (m e:Bool) (f:LA) (g:Nat) (o i:Bool):O R :=
 (q0 0 0 [])
def N6:=(Ah (fun (N:Nat) (d:Int) (b:LA) (c:Nat) (m e:Bool) (f:LA) (g:Nat) (o i:Bool) (r0:Bool→O R)=>(Vh N r0 (fun p l q=>(F8 N r0 d b c m e f g o i N p l q)) d b c m e f g o i))).1
theorem KK (d b c m e f g o i r0):(@N6 R N d b c m e f g o i r0)=(Vh N r0 (fun p l q=>(F8 N r0 d b c m e f g o i N p l q)) d b c m e f g o i):=by rw[N6,(Ah _).2]
def PF:Hints:={ H:=(hS hL (hS hL (hS (hS hL (hS (hP [0,1,2,7,8] hL) hL)) hL))),nils:=[(7,2)] }
def XD:Gm:=[(169,ld N),(232,Acg N),(231,Am5 N)]
def sO (F:KF R):=Ko Tryz.f170 PF (XD N) [] N F
def Lo (F:KF R):Bool→O R:=(fun y=>F (.bool y) [])
def sP (d:Int) (b:LA) (c:Nat) (m e:Bool) (f:LA) (g:Nat) (o i:Bool) (p:Nat) (l:Int) (q:LA):St:=⟨[(0,(iv d)),(1,(.imm b c 2 m e)),(2,(.imm f g 1 o i)),(7,(.own 300000 0 p)),(8,(iv l))],(hq [(bQ 2 q)])⟩
def sQ (F:KF R):=sO N F [1,1,0,1,0] []
theorem CM (F:KF R) (d:Int) (b:LA) (c:Nat) (m e:Bool) (f:LA) (g:Nat) (o i:Bool):∀ (n p:Nat) (l:Int) (q:LA),Aj (sQ N F) n (sP d b c m e f g o i p l q)=(F8 N (Lo F) d b c m e f g o i n p l q)
 | 0,_,_,_=>by kernel_rfl
 | n+1,p,l,q=>Eq.trans (by kernel_rfl) (Bu (Ot N (Lo F) d b c m e f g o i · p l q) (funext fun p=>funext fun l=>funext fun q=>(CM F d b c m e f g o i n p l q)):_)
theorem PG (d:Int) (b:LA) (c:Nat) (m e:Bool) (f:LA) (g:Nat) (o i:Bool) (F:KF R):C2 (XD N) PF N 170 [(iv d),(.imm b c 2 m e),(.imm f g 1 o i)] [] F=(N6 N d b c m e f g o i (Lo F)):=by
 rw[KK]
 exact Eq.trans (by kernel_rfl) (Bu (Vh N (Lo F) · d b c m e f g o i) (funext fun p=>funext fun l=>funext fun q=>(Ad ..).trans (CM N F d b c m e f g o i N p l q)):_)
def KL (a:LA) (h:Ai) (k:KF R):O R :=
 match a,h with
 | [(.int .i64 d),(.imm b c 2 m e),(.imm f g 1 o i)],[]=>(N6 N d b c m e f g o i (Lo k))
 | _,_=>none
theorem PH:Am N 170 @KL:=by
 intro R Q a h k j;unfold KL;split;exact Az (PG ..) (PG ..) ⟨lf N,Ach N,Am6 N,trivial⟩;exact A2
def sR:=A1 (PH N)
def sS:=C5 (PH N)
end
end Gx

namespace Gx.Cf
open Go Go.Proofs
section
variable {R:Type}
def Fq (n N:Nat):Prop:=n<N∧n<4611686018427387904
theorem Bp {j:Nat} (h:j<4611686018427387904):IntKind.wrap .i64 ((j:Int)+1)=((j+1:Nat):Int):=by rw[wrap_i64 _ (by omega)];omega
theorem Z7 {l:List Int} {j:Nat} (h:j<l.length) {f:Int→O R}:As .i64 (List.drop ((Int.toNat (j:Int))*1) (Ao l)) f=f l[j]:=by
 rw[Int.toNat_natCast,Nat.mul_one,m_ h]
theorem Hh {j n:Nat} (h:j<n):decide ((j:Int)<(n:Int))=true:=by simp;omega
theorem Iz {j n:Nat} (h:n≤j):decide ((j:Int)<(n:Int))=false:=by simp;omega
theorem B7 {α:Type} {l:List α} {j:Nat} (h:j<l.length):l.drop j=l[j]::l.drop (j+1):=List.drop_eq_getElem_cons h
theorem C1 {α:Type} {l:List α} {j:Nat} (h:l.length≤j):l.drop j=[]:=List.drop_eq_nil_of_le h
theorem PI {N:Nat} {lo hi:Int} {l:List Int} {t o:Bool} {K:Bool→O R} (hs:l.length<4611686018427387904):∀ (m j fuel:Nat),j+m=l.length→m<fuel →
  Iw N K lo hi (Ao l) l.length t o fuel (j:Int)=K ((l.drop j).all (Fj lo hi))
 | 0,j,fuel+1,d,_=>by
  rw[Iw];unfold S7
  rw[Iz (by omega),cf,C1 (by omega)];rfl
 | m+1,j,fuel+1,d,f=>by
  rw[Iw];unfold S7
  have h:j<l.length:=by omega
  rw[Hh h,ct,Ab h,ct,Z7 h,ct,Z7 h,Bp (by omega),PI hs m (j+1) fuel (by omega) (by omega),B7 h,List.all_cons]
  unfold Fj
  by_cases b:l[j]<lo
  ·have:¬ lo≤l[j]:=by omega
   simp[b,this]
  ·have:lo≤l[j]:=by omega
   by_cases c:l[j]>hi
   ·have:¬ l[j]≤hi:=by omega
    simp[b,c,this]
   ·have e:l[j]≤hi:=by omega
    simp[b,c,this,e]
theorem Ii {N:Nat} {lo hi:Int} {l:List Int} {n:Nat} {t o:Bool} {K:Bool→O R} (hn:n=l.length) (hs:Fq l.length N):Ap N lo hi (Ao l) n t o K=K (l.all (Fj lo hi)):=by
 subst hn
 rw[WM];unfold DV
 have:=PI (R:=R) (N:=N) (lo:=lo) (hi:=hi) (t:=t) (o:=o) (K:=K) hs.2 l.length 0 N (by omega) hs.1
 simpa using this
theorem Ek {N:Nat} {lo hi a:Int} {t o:Bool} {K:Bool→O R} (hN:8≤N):Ap N lo hi [.int .i64 a] 1 t o K=K (Fj lo hi a):=by
 have:=Ii (R:=R) (N:=N) (lo:=lo) (hi:=hi) (l:=[a]) (t:=t) (o:=o) (K:=K) rfl ⟨by simp;omega,by simp⟩
 simpa[Ao] using this
theorem xo {N:Nat} {lo hi a b:Int} {t o:Bool} {K:Bool→O R} (hN:8≤N):Ap N lo hi [.int .i64 a,.int .i64 b] 2 t o K=K (Fj lo hi a&&Fj lo hi b):=by
 have:=Ii (R:=R) (N:=N) (lo:=lo) (hi:=hi) (l:=[a,b]) (t:=t) (o:=o) (K:=K) rfl ⟨by simp;omega,by simp⟩
 simpa[Ao] using this
def lh:List Int→Bool
 | a::b::r=>decide (a<b)&&lh (b::r)
 | _=>true
theorem FI (a b:Int) (r:List Int):lh (a::b::r)=(decide (a<b)&&lh (b::r)):=by rw[lh]
theorem TC (a:Int):lh [a]=true:=by rw[lh];intros;simp_all
theorem oP:lh []=true:=by rw[lh];intros;simp_all
theorem oQ {j:Nat} (h:j+1<4611686018427387904):IntKind.wrap .i64 (((j+1:Nat):Int) - 1)=(j:Int):=by rw[wrap_i64 _ (by omega)];omega
theorem XE {N:Nat} {l:List Int} {t o:Bool} {K:Bool→O R} (hs:l.length<4611686018427387904):∀ (m j fuel:Nat),j+1+m=l.length→m<fuel →
  Hy N K (Ao l) l.length t o fuel ((j+1:Nat):Int)=K (lh (l.drop j))
 | 0,j,fuel+1,c,_=>by
  rw[Hy];unfold Pm
  rw[Iz (by omega),cf,B7 (by omega),C1 (by omega),TC]
 | m+1,j,fuel+1,c,d=>by
  rw[Hy];unfold Pm
  have h:j+1<l.length:=by omega
  have h':j<l.length:=by omega
  rw[Hh h,ct,Ab h,ct,Z7 h,oQ (by omega),Ab h',ct,Z7 h',Bp (by omega),XE hs m (j+1) fuel (by omega) (by omega),B7 h',B7 h,FI]
  by_cases b:l[j+1]≤l[j]
  ·have:¬ l[j]<l[j+1]:=by omega
   simp[b,this]
  ·have:l[j]<l[j+1]:=by omega
   simp[b,this]
theorem BK {N:Nat} {l:List Int} {n:Nat} {t o:Bool} {K:Bool→O R} (hn:n=l.length) (hs:Fq l.length N):Pn N (Ao l) n t o K=K (lh l):=by
 subst hn
 rw[cW];unfold KB
 rcases l with _ | ⟨a,r⟩
 ·have hN:=hs.1
  rcases N with _ | N
  ·simp at hN
  ·dsimp only;rw[Hy];unfold Pm;simp[oP]
 ·have:=XE (R:=R) (N:=N) (t:=t) (o:=o) (K:=K) hs.2 r.length 0 N (by simp;omega) (by have:=hs.1;simp at this;omega)
  simpa using this
theorem oR {N:Nat} {v:Int} {l:List Int} {t o:Bool} {K:Bool→O R} (hs:l.length<4611686018427387904):∀ (m j fuel:Nat),j+m=l.length→m<fuel →
  Tn N K (Ao l) l.length t o v fuel (j:Int)=K ((l.drop j).contains v)
 | 0,j,fuel+1,b,_=>by
  rw[Tn];unfold KC
  rw[Iz (by omega),cf,C1 (by omega)];rfl
 | m+1,j,fuel+1,b,c=>by
  rw[Tn];unfold KC
  have h:j<l.length:=by omega
  rw[Hh h,ct,Ab h,ct,Z7 h,Bp (by omega),oR hs m (j+1) fuel (by omega) (by omega),B7 h,List.contains_cons,BEq.comm]
  cases d:v==l[j]<;>simp
theorem TD {N:Nat} {v:Int} {l:List Int} {n:Nat} {t o:Bool} {K:Bool→O R} (hn:n=l.length) (hs:Fq l.length N):KD N (Ao l) n t o v K=K (l.contains v):=by
 subst hn
 rw[uw];unfold oI
 have:=oR (R:=R) (N:=N) (v:=v) (t:=t) (o:=o) (K:=K) hs.2 l.length 0 N (by omega) hs.1
 simpa using this
end
end Gx.Cf

namespace Gx.Cf
open Go Go.Proofs
section
variable {R:Type}
def Bt:C6→Int
 | none=>0
 | some x=>x.2.1
theorem Np {c:CaseD} {f:Int→O R}:As .i64 c.av f=f c.hours:=by simp[CaseD.av,A5]
theorem Axf {c:CaseD} {f:LA→Nat→O R}:B4 1 (List.drop 1 c.av) f=f (Ao c.reserve.l) c.reserve.l.length:=by simp[CaseD.av,Ey,Fi]
theorem J4 {c:CaseD} {f:LA→Nat→O R}:B4 3 (List.drop 2 c.av) f=f (c.buses.l.flatMap BusD.av) c.buses.l.length:=by simp[CaseD.av,Ey]
theorem F2 {c:CaseD} {f:LA→Nat→O R}:B4 12 (List.drop 3 c.av) f=f (c.lines.l.flatMap LineD.av) c.lines.l.length:=by simp[CaseD.av,Ey]
theorem Hi {c:CaseD} {f:LA→Nat→O R}:B4 22 (List.drop 4 c.av) f=f (c.units.l.flatMap UnitD.av) c.units.l.length:=by simp[CaseD.av,Ey]
theorem FJ {c:CaseD} {f:LA→Nat→O R}:B4 9 (List.drop 5 c.av) f=f (c.stores.l.flatMap StoreD.av) c.stores.l.length:=by simp[CaseD.av,Ey]
theorem fy {c:CaseD} {f:LA→Nat→O R}:B4 5 (List.drop 6 c.av) f=f (c.ties.l.flatMap TieD.av) c.ties.l.length:=by simp[CaseD.av,Ey]
theorem DY {c:CaseD} {f:LA→Nat→O R}:B4 4 (List.drop 7 c.av) f=f (c.outs.l.flatMap OutD.av) c.outs.l.length:=by simp[CaseD.av,Ey]
def Dp (p:C6):LA:=N_ p 0 0
theorem Af {N:Nat} {p:C6} {k i f e:Int} {ok:Bool} {K:LA→O R} (d:e≠0) :
  Aa N ok k i f e (Dp p) K=K (Dp (nd p ok (k,i,f) ⟨e,d⟩)):=by
 rw[Zx];unfold On K6
 rcases p with _ | ⟨⟨a,b,l⟩,j,c⟩
 ·cases ok<;>simp[Dp,N_,A5,nd,Bq,Cx]
 ·have:(j==0)=false:=by simpa using c
  simp[Dp,N_,A5,nd,this]
def jZ (h:Int) (l:List Int) (lo hi:Int) (w:Int×Int×Int) (p:C6):C6:=nd (nd p ((l.length:Int)==h) w ⟨4,by decide⟩) (l.all (Fj lo hi)) w ⟨3,by decide⟩
def dB (h:Int) (l:List Int) (w:Int×Int×Int) (p:C6):C6:=nd (nd p (l.all (Fj 0 (IntKind.wrap .i64 (h - 1)))) w ⟨3,by decide⟩) (lh l) w ⟨11,by decide⟩
theorem Ev {N:Nat} {c:CaseD} {p:C6} {k i f lo hi:Int} {l:List Int} {n:Nat} {t o o1:Bool} {K:LA→O R} (hn:n=l.length) (hs:Fq l.length N) :
  Cy N c.av o1 (Ao l) n t o lo hi k i f (Dp p) K=K (Dp (jZ c.hours l lo hi (k,i,f) p)):=by
 rw[U8];unfold Ri
 rw[Np,Af (by decide),Ii hn hs,Af (by decide),hn];rfl
theorem Wo {N:Nat} {c:CaseD} {p:C6} {k i f:Int} {l:List Int} {n:Nat} {t o o1:Bool} {K:LA→O R} (hn:n=l.length) (hs:Fq l.length N) :
  Ih N c.av o1 (Ao l) n t o k i f (Dp p) K=K (Dp (dB c.hours l (k,i,f) p)):=by
 rw[Z4];unfold Vb
 rw[Np,Ii hn hs,Af (by decide),BK hn hs,Af (by decide)];rfl
def XF (c:CaseD) (b:Int):Bool:=decide (0≤b)&&decide (b<(c.buses.l.length:Int))
theorem Axg (n:Nat) (b:Int) (h:n<4611686018427387904):Fj 0 (IntKind.wrap .i64 ((n:Int) - 1)) b=(decide (0≤b)&&decide (b<(n:Int))):=by
 rw[wrap_i64 _ (by omega),Fj]
 congr 1
 simp;omega
theorem J5 {N:Nat} {c:CaseD} {p:C6} {k i f b:Int} {o1:Bool} {K:LA→O R} (hN:8≤N) (d:c.buses.l.length<4611686018427387904) :
  Ej N c.av o1 b k i f (Dp p) K=K (Dp (nd p (XF c b) (k,i,f) ⟨12,by decide⟩)):=by
 rw[CE];unfold Xh
 rw[J4,Ek hN,Axg _ _ d,Af (by decide)];rfl
def Jm (f:FracD):Bool:=Fj 1 1048576 f.den&&Fj (-1048576) 1048576 f.num
theorem KM {N:Nat} {f:FracD} {o:Bool} {K:Bool→O R} (hN:8≤N):J3 N [.int .i64 f.num,.int .i64 f.den] o K=K (Jm f):=by
 rw[O'];unfold MM
 simp only[List.drop_succ_cons,List.drop_zero,A5,Ek hN]
 unfold Jm
 cases Fj 1 1048576 f.den<;>simp
def sT (c:UInt8):Bool:=decide (97≤c.toNat)&&decide (c.toNat≤122)
def Axh (c:UInt8):Bool:=sT c||(decide (48≤c.toNat)&&decide (c.toNat≤57))||decide (c.toNat=95)
def G7 (s:List UInt8):Bool:=decide (1≤s.length)&&(decide (s.length≤16)&&(!(s==[99,111,114,114,101,99,116,105,118,101])&&(sT (s.getD 0 0)&&s.all Axh)))
theorem Am7 {s:List UInt8} {j:Nat} (h:j<s.length):List.getD s (Int.toNat (j:Int)) 0=s[j]:=by
 rw[Int.toNat_natCast,List.getD_eq_getElem?_getD,List.getElem?_eq_getElem h];rfl
theorem j0 {N:Nat} {s:List UInt8} {K:Bool→O R} (hs:s.length<4611686018427387904):∀ (m j fuel:Nat),j+m=s.length→m<fuel →
  Pl N K s fuel (j:Int)=K ((decide (j≠0)||(decide (s.length=0)||sT (s.getD 0 0)))&&(s.drop j).all Axh)
 | 0,j,fuel+1,i,_=>by
  rw[Pl];unfold DW
  rw[Iz (by omega),cf,C1 (by omega)]
  by_cases h:j=0
  ·have:s.length=0:=by omega
   simp[this]
  ·simp[h]
 | m+1,j,fuel+1,i,t=>by
  rw[Pl];unfold DW J_
  dsimp only
  have h:j<s.length:=by omega
  rw[Hh h,ct,Ab h,ct,Bp (by omega),j0 hs m (j+1) fuel (by omega) (by omega),B7 h,List.all_cons,Am7 h]
  have k:j=0→s.getD 0 0=s[j]:=fun e=>by
   have:=Am7 h;rw[←this,e];rfl
  unfold Axh sT
  by_cases b:j=0
  ·rw[k b]
   have c:decide (s.length=0)=false:=decide_eq_false (by omega)
   have e:((j:Int)==0)=true:=by simp;omega
   simp only[ct,b,ne_eq,not_true_eq_false,decide_false,Bool.false_or,c,Nat.zero_add,show decide (¬ (1=0))=true by decide,Bool.true_or,Bool.true_and]
   simp only[b] at *
   generalize s[0].toNat=v
   by_cases d:97≤v<;>by_cases f:v≤122<;>simp[d,f,show((97:Int)≤v)↔97≤v by omega,show((v:Int)≤122)↔v≤122 by omega]
  ·have e:((j:Int)==0)=false:=by simp;omega
   simp only[ct,e,b,ne_eq,not_false_eq_true,decide_true,Bool.true_or,Bool.true_and,show decide (¬ (j+1=0))=true by simp]
   generalize s[j].toNat=v
   generalize (s.drop (j+1)).all _=r
   by_cases d:97≤v<;>by_cases f:v≤122<;>by_cases l:48≤v<;>by_cases n:v≤57<;>by_cases q:v=95 <;>
    simp[d,f,l,n,show((97:Int)≤v)↔97≤v by omega,show((v:Int)≤122)↔v≤122 by omega,show((v:Int)<48)↔¬ 48≤v by omega,show((57:Int)<v)↔¬ v≤57 by omega,show((v:Int) != 95)=!decide (v=95) by (by_cases v=95<;>simp_all<;>omega),q]
theorem Agh {N:Nat} {s:List UInt8} {K:Bool→O R} (hN:64≤N):O_ N s K=K (G7 s):=by
 rw[oF];unfold fx KA S_
 dsimp only
 unfold G7
 by_cases b:1≤s.length
 ·by_cases c:s.length≤16
  ·have d:=j0 (R:=R) (N:=N) (s:=s) (K:=K) (by omega) s.length 0 N (by omega) (by omega)
   simp only[List.drop_zero,Int.natCast_zero] at d
   rw[d]
   simp only[b,c,show(decide ((s.length:Int)<1))=false by simp;omega,show(decide ((s.length:Int)>16))=false by simp;omega,decide_true,cond_true,cond_false,beq_self_eq_true]
   have:s.length≠0:=by omega
   cases s==[99,111,114,114,101,99,116,105,118,101]<;>simp[this]
  ·simp[b,c,show((s.length:Int)<1)↔¬ 1≤s.length by omega,show((16:Int)<s.length)↔¬ s.length≤16 by omega]
 ·simp[b,show((s.length:Int)<1)↔¬ 1≤s.length by omega]
end
end Gx.Cf

namespace Gx.Cf
open Go Go.Proofs
section
variable {R:Type}
def Hj (names:List (List UInt8)) (k i:Int) (s:List UInt8) (p:C6):C6:=nd (nd p (G7 s) (k,i,0) ⟨9,by decide⟩) (names.all fun x=>!(x==s)) (k,i,0) ⟨10,by decide⟩
theorem Lp (a:BusD):a.av.length=3:=rfl
theorem Cd (a:LineD):a.av.length=12:=rfl
theorem Dn (a:UnitD):a.av.length=22:=rfl
theorem F9 (a:StoreD):a.av.length=9:=rfl
theorem Lq (a:TieD):a.av.length=5:=rfl
theorem Dg (a:OutD):a.av.length=4:=rfl
end
end Gx.Cf

namespace Gx.Cf
open Go Go.Proofs
section
variable {R:Type}
structure Small (c:CaseD) (N:Nat):Prop where
 n64:64≤N
 res:Fq c.reserve.l.length N
 bus:Fq c.buses.l.length N
 lin:Fq c.lines.l.length N
 uni:Fq c.units.l.length N
 sto:Fq c.stores.l.length N
 tie:Fq c.ties.l.length N
 out:Fq c.outs.l.length N
 dem:∀ b ∈ c.buses.l,Fq b.demand.l.length N
 law:∀ b ∈ c.lines.l,Fq b.away.l.length N
 seg:∀ b ∈ c.units.l,Fq b.segs.l.length N
 uaw:∀ b ∈ c.units.l,Fq b.away.l.length N
 tim:∀ b ∈ c.ties.l,Fq b.imp.l.length N
 tex:∀ b ∈ c.ties.l,Fq b.exp.l.length N
 tpr:∀ b ∈ c.ties.l,Fq b.price.l.length N
 oli:∀ b ∈ c.outs.l,Fq b.lines.l.length N
 omo:∀ b ∈ c.outs.l,Fq b.moves.l.length N
 omb:∀ b ∈ c.outs.l,b.moves.l.length<8796093022208
 top:c.buses.l.length≤1000000∧c.lines.l.length≤1000000∧c.units.l.length≤1000000∧c.stores.l.length≤1000000∧c.ties.l.length≤1000000∧c.outs.l.length≤1000000
def Bj {α:Type} (f:Nat→α→C6→C6):List α→Nat→C6→C6
 | [],_,p=>p
 | a::r,j,p=>Bj f r (j+1) (f j a p)
theorem Bf {α:Type} {f:Nat→α→C6→C6} {x:(Int×Int×Int)×{ e:Int // e≠0 }} (b:∀ j a,f j a (some x)=some x):∀ (l:List α) (j:Nat),Bj f l j (some x)=some x
 | [],_=>rfl
 | a::r,j=>by rw[Bj,b];exact Bf b r (j+1)
abbrev e1:{ e:Int // e≠0 }:=⟨1,by decide⟩
abbrev e3:{ e:Int // e≠0 }:=⟨3,by decide⟩
abbrev e4:{ e:Int // e≠0 }:=⟨4,by decide⟩
abbrev e8:{ e:Int // e≠0 }:=⟨8,by decide⟩
abbrev A16:{ e:Int // e≠0 }:=⟨11,by decide⟩
abbrev Avi:{ e:Int // e≠0 }:=⟨12,by decide⟩
abbrev A9s:{ e:Int // e≠0 }:=⟨13,by decide⟩
abbrev A8w:{ e:Int // e≠0 }:=⟨16,by decide⟩
def dC (c:CaseD) (p:C6):C6 :=
 let p:=nd p (Fj 1 24 c.hours) (0,0,0) e3
 let p:=jZ c.hours c.reserve.l 0 1048576 (0,0,1) p
 let p:=nd p (Fj 1 32 (c.buses.l.length:Int)) (0,0,2) e8
 let p:=nd p (decide ((c.lines.l.length:Int)≤64)) (0,0,3) e8
 let p:=nd p (decide ((c.units.l.length:Int)≤16)) (0,0,4) e8
 let p:=nd p (decide ((c.stores.l.length:Int)≤8)) (0,0,5) e8
 let p:=nd p (decide ((c.ties.l.length:Int)≤8)) (0,0,6) e8
 nd p (decide ((c.outs.l.length:Int)≤64)) (0,0,7) e8
def sU (c:CaseD) (j:Nat) (b:BusD) (p:C6):C6 :=
 let p:=Hj ((c.buses.l.map (·.name)).take j) 1 j b.name p
 let p:=jZ c.hours b.demand.l 0 1048576 (1,j,1) p
 nd p (Fj 0 1048576 b.shed) (1,j,2) e3
def CN (c:CaseD) (j:Nat) (x:LineD) (p:C6):C6 :=
 let p:=Hj ((c.lines.l.map (·.name)).take j) 2 j x.name p
 let p:=nd p (XF c x.fr) (2,j,1) Avi
 let p:=nd p (XF c x.tl) (2,j,2) Avi
 let p:=nd p (x.tl != x.fr) (2,j,2) e1
 let p:=nd p (Jm x.re&&decide (x.re.num>0)) (2,j,3) e3
 let p:=nd p (Jm x.smin&&decide (x.smin.num≤0)) (2,j,4) e3
 let p:=nd p (Jm x.smax&&decide (x.smax.num≥0)) (2,j,5) e3
 let p:=nd p (Fj 0 1048576 x.limit) (2,j,6) e3
 let p:=nd p (Fj x.limit 1048576 x.emer) (2,j,7) e3
 dB c.hours x.away.l (2,j,8) p
def BL (c:CaseD) (j:Nat) (x:StoreD) (p:C6):C6 :=
 let p:=Hj ((c.stores.l.map (·.name)).take j) 4 j x.name p
 let p:=nd p (XF c x.bus) (4,j,1) Avi
 let p:=nd p (Fj 0 1048576 x.capacity) (4,j,2) e3
 let p:=nd p (Fj 0 x.capacity x.initial) (4,j,3) e3
 let p:=nd p (Fj 0 x.capacity x.final) (4,j,4) e3
 let p:=nd p (Fj 0 1048576 x.charge) (4,j,5) e3
 let p:=nd p (Fj 0 1048576 x.discharge) (4,j,6) e3
 nd p (Jm x.eff&&(decide (x.eff.num>0)&&decide (x.eff.num≤x.eff.den))) (4,j,7) e3
def Agi (c:CaseD) (j:Nat) (x:TieD) (p:C6):C6 :=
 let p:=Hj ((c.ties.l.map (·.name)).take j) 5 j x.name p
 let p:=nd p (XF c x.bus) (5,j,1) Avi
 let p:=jZ c.hours x.imp.l 0 1048576 (5,j,2) p
 let p:=jZ c.hours x.exp.l 0 1048576 (5,j,3) p
 jZ c.hours x.price.l (-1048576) 1048576 (5,j,4) p
end
end Gx.Cf

namespace Gx.Cf
open Go Go.Proofs
section
variable {R:Type}
theorem Pp (a:SegD):a.av.length=2:=rfl
theorem Ew (a:MoveD):a.av.length=3:=rfl
def uz (s:SegD):Bool:=Fj 1 1048576 s.width&&Fj (-1048576) 1048576 s.price
def ZW (a:Int):List SegD→Int
 | []=>a
 | s::r=>ZW (IntKind.wrap .i64 (a+s.width)) r
def dD:List SegD→Bool
 | a::b::r=>decide (b.price≥a.price)&&dD (b::r)
 | _=>true
theorem HF (a b:SegD) (r:List SegD):dD (a::b::r)=(decide (b.price≥a.price)&&dD (b::r)):=by rw[dD]
theorem oS (a:SegD):dD [a]=true:=by rw[dD];intros;simp_all
theorem Aci:dD []=true:=by rw[dD];intros;simp_all
def Am8 (u:UnitD) (j:Nat) (p:C6):C6 :=
 let p:=nd p (decide ((u.segs.l.length:Int)≤8)) (3,j,4) e8
 let p:=nd p (u.segs.l.all uz) (3,j,4) e3
 let p:=nd p (dD u.segs.l) (3,j,4) A16
 nd p (ZW 0 u.segs.l==IntKind.wrap .i64 (u.max - u.min)) (3,j,4) e4
theorem MO {u:UnitD} {f:LA→Nat→O R}:B4 2 (List.drop 4 u.av) f=f (u.segs.l.flatMap SegD.av) u.segs.l.length:=by simp[UnitD.av,Ey]
theorem Az8 {u:UnitD} {f:Int→O R}:As .i64 (List.drop 3 u.av) f=f u.max:=by simp[UnitD.av,A5]
theorem Az9 {u:UnitD} {f:Int→O R}:As .i64 (List.drop 2 u.av) f=f u.min:=by simp[UnitD.av,A5]
theorem gA {l:List SegD} {j:Nat} (h:j<l.length) {f:Int→O R}:As .i64 (List.drop 1 (List.drop ((Int.toNat (j:Int))*2) (l.flatMap SegD.av))) f=f l[j].price:=by
 rw[Int.toNat_natCast,Ax Pp _ _ h];simp[SegD.av,A5]
theorem A17 {l:List SegD} {j:Nat} (h:j<l.length) {f:Int→O R}:As .i64 (List.drop ((Int.toNat (j:Int))*2) (l.flatMap SegD.av)) f=f l[j].width:=by
 rw[Int.toNat_natCast,Ax Pp _ _ h];simp[SegD.av,A5]
def HG (c:CaseD) (j:Nat) (u:UnitD) (p:C6):C6 :=
 let p:=Hj ((c.units.l.map (·.name)).take j) 3 j u.name p
 let p:=nd p (XF c u.bus) (3,j,1) Avi
 let p:=nd p (Fj 0 1048576 u.min) (3,j,2) e3
 let p:=nd p (Fj u.min 1048576 u.max) (3,j,3) e3
 let p:=Am8 u j p
 let p:=nd p (Fj 0 1048576 u.noLoad) (3,j,5) e3
 let p:=nd p (Fj 0 1048576 u.rampUp) (3,j,6) e3
 let p:=nd p (Fj 0 1048576 u.rampDown) (3,j,7) e3
 let p:=nd p (Fj u.min u.max u.startRamp) (3,j,8) e3
 let p:=nd p (Fj u.min u.max u.stopRamp) (3,j,9) e3
 let p:=nd p (Fj 0 24 u.upTime) (3,j,10) e3
 let p:=nd p (Fj 0 24 u.downTime) (3,j,11) e3
 let p:=nd p (Fj 0 24 u.startTime) (3,j,12) e3
 let p:=nd p (Fj 0 1048576 u.hotCost) (3,j,13) e3
 let p:=nd p (Fj 0 1048576 u.coldCost) (3,j,14) e3
 let p:=nd p (Fj 0 24 u.hotHours) (3,j,15) e3
 let p:=nd p (Fj 0 1048576 u.reserve) (3,j,16) e3
 let p:=nd p (Fj 0 1048576 u.reservePrice) (3,j,17) e3
 let p:=dB c.hours u.away.l (3,j,18) p
 let p:=nd p (Fj 0 2 u.state) (3,j,19) Avi
 let p:=nd p (u.state != 1||u.startTime != 0) (3,j,19) A8w
 let p:=nd p (Fj 1 48 u.hours) (3,j,20) e3
 let p:=nd p (u.state != 1||decide (u.hours≤u.startTime)) (3,j,20) e3
 cond (u.state==2) (nd p (Fj u.min u.max u.output) (3,j,21) e3) (nd p (Fj 0 0 u.output) (3,j,21) e3)
def Ask (c:CaseD) (m:MoveD):Bool:=decide (0≤m.unit)&&decide (m.unit<(c.units.l.length:Int))
def Agj (m:MoveD):Bool:=Fj 0 1048576 m.up&&Fj 0 1048576 m.down
def li (c:CaseD) (o:OutD) (j:Nat) (p:C6):C6 :=
 let p:=nd p ((o.moves.l.length:Int)==0||o.corr) (6,j,3) A8w
 let p:=nd p (decide ((o.moves.l.length:Int)≤16)) (6,j,3) e8
 let p:=nd p (o.moves.l.all (Ask c)) (6,j,3) Avi
 let p:=nd p (lh (o.moves.l.map (·.unit))) (6,j,3) A16
 nd p (o.moves.l.all Agj) (6,j,3) e3
theorem yV {u:OutD} {f:LA→Nat→O R}:B4 3 (List.drop 3 u.av) f=f (u.moves.l.flatMap MoveD.av) u.moves.l.length:=by simp[OutD.av,Ey]
theorem A4c {u:OutD} {f:Bool→O R}:aT (List.drop 2 u.av) f=f u.corr:=by simp[OutD.av,A38]
def lj (c:CaseD) (j:Nat) (x:OutD) (p:C6):C6 :=
 let p:=Hj ((c.outs.l.map (·.name)).take j) 6 j x.name p
 let p:=nd p ((x.lines.l.length:Int)==1||(x.lines.l.length:Int)==2) (6,j,1) e4
 let p:=nd p (x.lines.l.all fun n=>decide (0≤n)&&decide (n<(c.lines.l.length:Int))) (6,j,1) Avi
 let p:=nd p (lh x.lines.l) (6,j,1) A16
 li c x j p
theorem Lr {c:CaseD} {j:Nat} {x:OutD} {y:(Int×Int×Int)×{ e:Int // e≠0 }}:lj c j x (some y)=some y:=rfl
end
end Gx.Cf

namespace Gx.Cf
open Go Go.Proofs
section
variable {R:Type}
theorem oT {u:OutD} {f:LA→Nat→O R}:B4 1 (List.drop 1 u.av) f=f (Ao u.lines.l) u.lines.l.length:=by simp[OutD.av,Ey,Fi]
end
end Gx.Cf

namespace Gx.Cf
open Go Go.Proofs
section
variable {R:Type}
def Bg (l:List (List UInt8)):LA:=l.map fun s=>.str s
theorem Gr (l:List (List UInt8)):(Bg l).length=l.length:=by simp[Bg]
theorem Acj {l:List (List UInt8)} {i:Nat} (h:i<l.length) {f:List UInt8→O R}:Wb (List.drop i (Bg l)) f=f l[i]:=by
 rw[Bg,List.drop_eq_getElem_cons (by simpa using h)];simp[Et]
theorem Ce {c:CaseD}:List.take 8 c.av=c.av:=rfl
theorem Fb {c:CaseD}:Nat.ble 8 (List.length c.av)=true:=rfl
theorem PJ {N:Nat} {c:CaseD} {o:Bool} {K:Nat→LA→O R} (d:c.buses.l.length≤1000000):∀ (m j fuel:Nat),j+m=c.buses.l.length→m<fuel →
  Ms N K o c.av fuel j (j:Int) (Bg ((c.buses.l.take j).map (·.name)))=K c.buses.l.length (Bg (c.buses.l.map (·.name)))
 | 0,j,fuel+1,e,_=>by
  rw[Ms];unfold Yn
  have b:j=c.buses.l.length:=by omega
  rw[J4,Iz (by omega),cf,List.take_of_length_le (by omega),b]
 | m+1,j,fuel+1,e,q=>by
  rw[Ms];unfold Yn
  have h:j<c.buses.l.length:=by omega
  have i:(Nat.ble (j+1) 140737488355328&&Nat.ble ((j+1)*16) 140737488355328)=true:=by rw[Bq,Bq];simp;omega
  have k:List.take (j*1) (Bg ((c.buses.l.take j).map (·.name)))++[.str c.buses.l[j].name]=Bg ((c.buses.l.take (j+1)).map (·.name)):=by
   rw[List.take_of_length_le (by simp[Gr];omega),List.take_succ_eq_append_getElem h,List.map_append];simp[Bg]
  have n:∀ f:List UInt8→O R,Wb (List.drop (j*3) (List.flatMap BusD.av c.buses.l)) f=f c.buses.l[j].name:=fun f=>by rw[Ax Lp _ _ h];simp[BusD.av,Et]
  rw[J4,Hh h,ct,J4,Ab h,ct,Int.toNat_natCast,n,i,ct,k,Bp (by omega),PJ d m (j+1) fuel (by omega) (by omega)]
theorem Asl {N:Nat} {c:CaseD} {o:Bool} {K:Nat→LA→O R} (hs:Small c N):Ig N c.av o 1 K=K (c.buses.l.map (·.name)).length (Bg (c.buses.l.map (·.name))):=by
 rw[Ku];unfold My
 have:=PJ (R:=R) (N:=N) (c:=c) (o:=o) (K:=K) hs.top.1 c.buses.l.length 0 N (by omega) hs.bus.1
 simpa[Bg] using this
theorem PK {N:Nat} {c:CaseD} {o:Bool} {K:Nat→LA→O R} (d:c.lines.l.length≤1000000):∀ (m j fuel:Nat),j+m=c.lines.l.length→m<fuel →
  Mt N K o c.av fuel j (j:Int) (Bg ((c.lines.l.take j).map (·.name)))=K c.lines.l.length (Bg (c.lines.l.map (·.name)))
 | 0,j,fuel+1,e,_=>by
  rw[Mt];unfold Yo
  have b:j=c.lines.l.length:=by omega
  rw[F2,Iz (by omega),cf,List.take_of_length_le (by omega),b]
 | m+1,j,fuel+1,e,q=>by
  rw[Mt];unfold Yo
  have h:j<c.lines.l.length:=by omega
  have i:(Nat.ble (j+1) 140737488355328&&Nat.ble ((j+1)*16) 140737488355328)=true:=by rw[Bq,Bq];simp;omega
  have k:List.take (j*1) (Bg ((c.lines.l.take j).map (·.name)))++[.str c.lines.l[j].name]=Bg ((c.lines.l.take (j+1)).map (·.name)):=by
   rw[List.take_of_length_le (by simp[Gr];omega),List.take_succ_eq_append_getElem h,List.map_append];simp[Bg]
  have n:∀ f:List UInt8→O R,Wb (List.drop (j*12) (List.flatMap LineD.av c.lines.l)) f=f c.lines.l[j].name:=fun f=>by rw[Ax Cd _ _ h];simp[LineD.av,Et]
  rw[F2,Hh h,ct,F2,Ab h,ct,Int.toNat_natCast,n,i,ct,k,Bp (by omega),PK d m (j+1) fuel (by omega) (by omega)]
theorem vA {N:Nat} {c:CaseD} {o:Bool} {K:Nat→LA→O R} (hs:Small c N):Ig N c.av o 2 K=K (c.lines.l.map (·.name)).length (Bg (c.lines.l.map (·.name))):=by
 rw[Ku];unfold My
 have:=PK (R:=R) (N:=N) (c:=c) (o:=o) (K:=K) hs.top.2.1 c.lines.l.length 0 N (by omega) hs.lin.1
 simpa[Bg] using this
theorem PL {N:Nat} {c:CaseD} {o:Bool} {K:Nat→LA→O R} (d:c.units.l.length≤1000000):∀ (m j fuel:Nat),j+m=c.units.l.length→m<fuel →
  Mu N K o c.av fuel j (j:Int) (Bg ((c.units.l.take j).map (·.name)))=K c.units.l.length (Bg (c.units.l.map (·.name)))
 | 0,j,fuel+1,e,_=>by
  rw[Mu];unfold Yp
  have b:j=c.units.l.length:=by omega
  rw[Hi,Iz (by omega),cf,List.take_of_length_le (by omega),b]
 | m+1,j,fuel+1,e,q=>by
  rw[Mu];unfold Yp
  have h:j<c.units.l.length:=by omega
  have i:(Nat.ble (j+1) 140737488355328&&Nat.ble ((j+1)*16) 140737488355328)=true:=by rw[Bq,Bq];simp;omega
  have k:List.take (j*1) (Bg ((c.units.l.take j).map (·.name)))++[.str c.units.l[j].name]=Bg ((c.units.l.take (j+1)).map (·.name)):=by
   rw[List.take_of_length_le (by simp[Gr];omega),List.take_succ_eq_append_getElem h,List.map_append];simp[Bg]
  have n:∀ f:List UInt8→O R,Wb (List.drop (j*22) (List.flatMap UnitD.av c.units.l)) f=f c.units.l[j].name:=fun f=>by rw[Ax Dn _ _ h];simp[UnitD.av,Et]
  rw[Hi,Hh h,ct,Hi,Ab h,ct,Int.toNat_natCast,n,i,ct,k,Bp (by omega),PL d m (j+1) fuel (by omega) (by omega)]
theorem vB {N:Nat} {c:CaseD} {o:Bool} {K:Nat→LA→O R} (hs:Small c N):Ig N c.av o 3 K=K (c.units.l.map (·.name)).length (Bg (c.units.l.map (·.name))):=by
 rw[Ku];unfold My
 have:=PL (R:=R) (N:=N) (c:=c) (o:=o) (K:=K) hs.top.2.2.1 c.units.l.length 0 N (by omega) hs.uni.1
 simpa[Bg] using this
theorem KN {N:Nat} {c:CaseD} {o:Bool} {K:Nat→LA→O R} (d:c.stores.l.length≤1000000):∀ (m j fuel:Nat),j+m=c.stores.l.length→m<fuel →
  Mv N K o c.av fuel j (j:Int) (Bg ((c.stores.l.take j).map (·.name)))=K c.stores.l.length (Bg (c.stores.l.map (·.name)))
 | 0,j,fuel+1,e,_=>by
  rw[Mv];unfold Yq
  have b:j=c.stores.l.length:=by omega
  rw[FJ,Iz (by omega),cf,List.take_of_length_le (by omega),b]
 | m+1,j,fuel+1,e,q=>by
  rw[Mv];unfold Yq
  have h:j<c.stores.l.length:=by omega
  have i:(Nat.ble (j+1) 140737488355328&&Nat.ble ((j+1)*16) 140737488355328)=true:=by rw[Bq,Bq];simp;omega
  have k:List.take (j*1) (Bg ((c.stores.l.take j).map (·.name)))++[.str c.stores.l[j].name]=Bg ((c.stores.l.take (j+1)).map (·.name)):=by
   rw[List.take_of_length_le (by simp[Gr];omega),List.take_succ_eq_append_getElem h,List.map_append];simp[Bg]
  have n:∀ f:List UInt8→O R,Wb (List.drop (j*9) (List.flatMap StoreD.av c.stores.l)) f=f c.stores.l[j].name:=fun f=>by rw[Ax F9 _ _ h];simp[StoreD.av,Et]
  rw[FJ,Hh h,ct,FJ,Ab h,ct,Int.toNat_natCast,n,i,ct,k,Bp (by omega),KN d m (j+1) fuel (by omega) (by omega)]
theorem oU {N:Nat} {c:CaseD} {o:Bool} {K:Nat→LA→O R} (hs:Small c N):Ig N c.av o 4 K=K (c.stores.l.map (·.name)).length (Bg (c.stores.l.map (·.name))):=by
 rw[Ku];unfold My
 have:=KN (R:=R) (N:=N) (c:=c) (o:=o) (K:=K) hs.top.2.2.2.1 c.stores.l.length 0 N (by omega) hs.sto.1
 simpa[Bg] using this
theorem XG {N:Nat} {c:CaseD} {o:Bool} {K:Nat→LA→O R} (d:c.ties.l.length≤1000000):∀ (m j fuel:Nat),j+m=c.ties.l.length→m<fuel →
  Mw N K o c.av fuel j (j:Int) (Bg ((c.ties.l.take j).map (·.name)))=K c.ties.l.length (Bg (c.ties.l.map (·.name)))
 | 0,j,fuel+1,e,_=>by
  rw[Mw];unfold Yr
  have b:j=c.ties.l.length:=by omega
  rw[fy,Iz (by omega),cf,List.take_of_length_le (by omega),b]
 | m+1,j,fuel+1,e,q=>by
  rw[Mw];unfold Yr
  have h:j<c.ties.l.length:=by omega
  have i:(Nat.ble (j+1) 140737488355328&&Nat.ble ((j+1)*16) 140737488355328)=true:=by rw[Bq,Bq];simp;omega
  have k:List.take (j*1) (Bg ((c.ties.l.take j).map (·.name)))++[.str c.ties.l[j].name]=Bg ((c.ties.l.take (j+1)).map (·.name)):=by
   rw[List.take_of_length_le (by simp[Gr];omega),List.take_succ_eq_append_getElem h,List.map_append];simp[Bg]
  have n:∀ f:List UInt8→O R,Wb (List.drop (j*5) (List.flatMap TieD.av c.ties.l)) f=f c.ties.l[j].name:=fun f=>by rw[Ax Lq _ _ h];simp[TieD.av,Et]
  rw[fy,Hh h,ct,fy,Ab h,ct,Int.toNat_natCast,n,i,ct,k,Bp (by omega),XG d m (j+1) fuel (by omega) (by omega)]
theorem Ack {N:Nat} {c:CaseD} {o:Bool} {K:Nat→LA→O R} (hs:Small c N):Ig N c.av o 5 K=K (c.ties.l.map (·.name)).length (Bg (c.ties.l.map (·.name))):=by
 rw[Ku];unfold My
 have:=XG (R:=R) (N:=N) (c:=c) (o:=o) (K:=K) hs.top.2.2.2.2.1 c.ties.l.length 0 N (by omega) hs.tie.1
 simpa[Bg] using this
theorem XH {N:Nat} {c:CaseD} {o:Bool} {K:Nat→LA→O R} (d:c.outs.l.length≤1000000):∀ (m j fuel:Nat),j+m=c.outs.l.length→m<fuel →
  Mx N K o c.av fuel j (j:Int) (Bg ((c.outs.l.take j).map (·.name)))=K c.outs.l.length (Bg (c.outs.l.map (·.name)))
 | 0,j,fuel+1,e,_=>by
  rw[Mx];unfold Ys
  have b:j=c.outs.l.length:=by omega
  rw[DY,Iz (by omega),cf,List.take_of_length_le (by omega),b]
 | m+1,j,fuel+1,e,q=>by
  rw[Mx];unfold Ys
  have h:j<c.outs.l.length:=by omega
  have i:(Nat.ble (j+1) 140737488355328&&Nat.ble ((j+1)*16) 140737488355328)=true:=by rw[Bq,Bq];simp;omega
  have k:List.take (j*1) (Bg ((c.outs.l.take j).map (·.name)))++[.str c.outs.l[j].name]=Bg ((c.outs.l.take (j+1)).map (·.name)):=by
   rw[List.take_of_length_le (by simp[Gr];omega),List.take_succ_eq_append_getElem h,List.map_append];simp[Bg]
  have n:∀ f:List UInt8→O R,Wb (List.drop (j*4) (List.flatMap OutD.av c.outs.l)) f=f c.outs.l[j].name:=fun f=>by rw[Ax Dg _ _ h];simp[OutD.av,Et]
  rw[DY,Hh h,ct,DY,Ab h,ct,Int.toNat_natCast,n,i,ct,k,Bp (by omega),XH d m (j+1) fuel (by omega) (by omega)]
theorem Acl {N:Nat} {c:CaseD} {o:Bool} {K:Nat→LA→O R} (hs:Small c N):Ig N c.av o 6 K=K (c.outs.l.map (·.name)).length (Bg (c.outs.l.map (·.name))):=by
 rw[Ku];unfold My
 have:=XH (R:=R) (N:=N) (c:=c) (o:=o) (K:=K) hs.top.2.2.2.2.2 c.outs.l.length 0 N (by omega) hs.out.1
 simpa[Bg] using this
theorem Wp {N:Nat} {L:List (List UInt8)} {k:Int} {n:Nat} {K:LA→O R} (hn:n<L.length) (hs:n<4611686018427387904):∀ (m j fuel:Nat) (p:C6),j+m=n→m<fuel →
  D6 N K k (n:Int) L.length (Bg L) fuel (j:Int) (Dp p)=K (Dp (nd p (((L.take n).drop j).all fun x=>!(x==L[n])) (k,n,0) ⟨10,by decide⟩))
 | 0,j,fuel+1,p,b,_=>by
  rw[D6];unfold Jz
  rw[Iz (by omega),cf,C1 (l:=L.take n) (by simp;omega),List.all_nil,Gh]
 | m+1,j,fuel+1,p,b,d=>by
  rw[D6];unfold Jz
  have h:j<L.length:=by omega
  have c:j<(L.take n).length:=by simp;omega
  rw[Hh (by omega),ct,Ab h,ct,Int.toNat_natCast,Nat.zero_add,Nat.mul_one,Acj h,Ab hn,ct,Int.toNat_natCast,Nat.zero_add,Nat.mul_one,Acj hn,Af (by decide),Bp (by omega),Wp hn hs m (j+1) fuel _ (by omega) (by omega),B7 c,List.all_cons,Rf]
  have e:(L.take n)[j]=L[j]:=by simp
  rw[e]
theorem Eb {N:Nat} {c:CaseD} {L:List (List UInt8)} {o:Bool} {p:C6} {k:Int} {n:Nat} {K:LA→O R} (hN:64≤N) (hL:∀ K:Nat→LA→O R,Ig N c.av o k K=K L.length (Bg L)) (hn:n<L.length) (hs:Fq n N) :
  Co N c.av o k (n:Int) (Dp p) K=K (Dp (Hj (L.take n) k n L[n] p)):=by
 rw[Z2];unfold Oo
 rw[Ce,Fb,ct,hL,Ab hn,ct,Int.toNat_natCast,Nat.zero_add,Nat.mul_one,Acj hn,Agh hN,Af (by decide)]
 have:=Wp (R:=R) (N:=N) (L:=L) (k:=k) (n:=n) (K:=K) hn hs.2 n 0 N (nd p (G7 L[n]) (k,n,0) ⟨9,by decide⟩) (by omega) hs.1
 simpa[Hj] using this
theorem TE {N fuel:Nat} {c:CaseD} {o:Bool} {p:C6} {K:LA→O R} (hs:Small c N):Bo N K o c.av (fuel+6) 2 (Dp p)=K (Dp
  (nd (nd (nd (nd (nd p (decide ((c.lines.l.length:Int)≤64)) (0,0,3) e8) (decide ((c.units.l.length:Int)≤16)) (0,0,4) e8) (decide ((c.stores.l.length:Int)≤8)) (0,0,5) e8) (decide ((c.ties.l.length:Int)≤8)) (0,0,6) e8) (decide ((c.outs.l.length:Int)≤64)) (0,0,7) e8)):=by
 have most:∀ (k:Nat) (n:Int) (K:Int→O R),k<7→([0,32,64,16,8,8,64]:List Int)[k]?=some n→R4 N (k:Int) K=K n:=by
  intro k n K b d
  rw[oD];unfold sI
  rw[Ab b,ct]
  have e:[(.int .i64 (0:Int)),(.int .i64 (32:Int)),(.int .i64 (64:Int)),(.int .i64 (16:Int)),(.int .i64 (8:Int)),(.int .i64 (8:Int)),(.int .i64 (64:Int))]=Ao [0,32,64,16,8,8,64]:=rfl
  rw[e,Int.toNat_natCast,Nat.zero_add,Nat.mul_one,m_ (by simpa using b)]
  rw[List.getElem?_eq_getElem (by simpa using b)] at d
  simp only[Option.some.injEq] at d
  rw[d]
 have m2:∀ K:Int→O R,R4 N 2 K=K 64:=fun K=>most 2 64 K (by omega) rfl
 have m3:∀ K:Int→O R,R4 N 3 K=K 16:=fun K=>most 3 16 K (by omega) rfl
 have m4:∀ K:Int→O R,R4 N 4 K=K 8:=fun K=>most 4 8 K (by omega) rfl
 have m5:∀ K:Int→O R,R4 N 5 K=K 8:=fun K=>most 5 8 K (by omega) rfl
 have m6:∀ K:Int→O R,R4 N 6 K=K 64:=fun K=>most 6 64 K (by omega) rfl
 have f:IntKind.wrap .i64 (2+1)=3:=rfl
 have w3:IntKind.wrap .i64 (3+1)=4:=rfl
 have i:IntKind.wrap .i64 (4+1)=5:=rfl
 have j:IntKind.wrap .i64 (5+1)=6:=rfl
 have m:IntKind.wrap .i64 (6+1)=7:=rfl
 rw[Bo];unfold Ck
 rw[show decide ((2:Int)≤6)=true from rfl,ct,Fb,ct,Ce,vA hs,m2,Af (by decide),f]
 rw[Bo];unfold Ck
 rw[show decide ((3:Int)≤6)=true from rfl,ct,Fb,ct,Ce,vB hs,m3,Af (by decide),w3]
 rw[Bo];unfold Ck
 rw[show decide ((4:Int)≤6)=true from rfl,ct,Fb,ct,Ce,oU hs,m4,Af (by decide),i]
 rw[Bo];unfold Ck
 rw[show decide ((5:Int)≤6)=true from rfl,ct,Fb,ct,Ce,Ack hs,m5,Af (by decide),j]
 rw[Bo];unfold Ck
 rw[show decide ((6:Int)≤6)=true from rfl,ct,Fb,ct,Ce,Acl hs,m6,Af (by decide),m]
 rw[Bo];unfold Ck
 rw[show decide ((7:Int)≤6)=false from rfl,cf]
 simp only[List.length_map]
theorem TF {N:Nat} {c:CaseD} {o:Bool} {p:C6} {K:LA→O R} (hs:Small c N):Gz N c.av o (Dp p) K=K (Dp (dC c p)):=by
 have hN:=hs.n64
 rw[Wj];unfold Mz
 have:=fun p=>TE (fuel:=N - 6) (o:=o) (p:=p) (K:=K) hs
 rw[show N - 6+6=N by omega] at this
 simp only[Np,Ek (show 8≤N by omega),Af (show(3:Int)≠0 by decide),Af (show(8:Int)≠0 by decide),Fb,ct,Ce,Axf,J4,Ev rfl hs.res,this]
 rfl
end
end Gx.Cf

namespace Gx
open Go Go.Proofs
open IntKind (wrap)
set_option maxRecDepth 100000
noncomputable section
variable {R:Type} (N:Nat)
def Rj (r0:LA→O R) (b:Int) (c:Bool) (d e:LA) (m:LA):O R :=
 (As .i64 (e.drop 9) fun o=>(Ap N 0 1048576 [(.int .i64 o)] 1 false true (fun p=>(Aa N p 2 b 6 3 m (fun q=>(As .i64 (e.drop 9) fun r=>(As .i64 (e.drop 10) fun s=>(Ap N r 1048576 [(.int .i64 s)] 1 false true (fun t=>(Aa N t 2 b 7 3 q (fun u=>(cond (Nat.ble 8 (d.length)) (B4 1 (e.drop 11) fun v w=>(Ih N (d.take 8) c v w false c 2 b 8 u (fun x=>(r0 x)))) none))))))))))))
def Pq (r0:LA→O R) (b:Int) (c:Bool) (d e:LA) (q2:LA→O R) (g:LA):O R :=
 (cond (Nat.ble 2 ((e.drop 7).length)) (cond ((!c)||(A0 ((e.drop 7).take 2))) (J3 N ((e.drop 7).take 2) false (fun y=>(cond (y==true) (As .i64 (e.drop 7) fun z=>(Aa N (cond true (decide (z≥0)) false) 2 b 5 3 g (fun aa=>(q2 aa)))) (Aa N false 2 b 5 3 g (fun ab=>(q2 ab)))))) none) none)
def Rk (r0:LA→O R) (b:Int) (c:Bool) (d e:LA) (g:LA):O R:=(Pq N r0 b c d e (fun m=>(Rj N r0 b c d e m)) g)
def Pr (r0:LA→O R) (b:Int) (c:Bool) (d:LA) (q1:LA→O R) (f e:LA):O R :=
 (cond (Nat.ble 2 ((e.drop 5).length)) (cond ((!c)||(A0 ((e.drop 5).take 2))) (J3 N ((e.drop 5).take 2) false (fun ac=>(cond (ac==true) (As .i64 (e.drop 5) fun ad=>(Aa N (cond true (decide (ad≤0)) false) 2 b 4 3 f (fun ae=>(q1 ae)))) (Aa N false 2 b 4 3 f (fun af=>(q1 af)))))) none) none)
def Lb (r0:LA→O R) (b:Int) (c:Bool) (d:LA) (f e:LA):O R:=(Pr N r0 b c d (fun g=>(Rk N r0 b c d e g)) f e)
def Ou (r0:LA→O R) (q0:LA→LA→O R) (d:LA) (c:Bool) (b:Int) (i:LA):O R :=
 (B4 12 (d.drop 3) fun l ag=>(cond (Ae b ag) (cond (Nat.ble 12 ((l.drop ((b.toNat)*12)).length)) (cond ((Nat.beq 0 0)&&((Nat.beq (((l.drop ((b.toNat)*12)).take 12).length) 12)&&(Nat.beq 12 12))) (cond (Nat.ble 8 (d.length)) (Co N (d.take 8) c 2 b i (fun ah=>(cond (Nat.ble 8 (d.length)) (As .i64 (((l.drop ((b.toNat)*12)).take 12).drop 1) fun ai=>(Ej N (d.take 8) c ai 2 b 1 ah (fun aj=>(cond (Nat.ble 8 (d.length)) (As .i64 (((l.drop ((b.toNat)*12)).take 12).drop 2) fun ak=>(Ej N (d.take 8) c ak 2 b 2 aj (fun al=>(As .i64 (((l.drop ((b.toNat)*12)).take 12).drop 1) fun am=>(As .i64 (((l.drop ((b.toNat)*12)).take 12).drop 2) fun an=>(Aa N (am != an) 2 b 2 1 al (fun n=>(cond (Nat.ble 2 ((((l.drop ((b.toNat)*12)).take 12).drop 3).length)) (cond ((!c)||(A0 ((((l.drop ((b.toNat)*12)).take 12).drop 3).take 2))) (J3 N ((((l.drop ((b.toNat)*12)).take 12).drop 3).take 2) false (fun ao=>(cond (ao==true) (As .i64 (((l.drop ((b.toNat)*12)).take 12).drop 3) fun ap=>(Aa N (cond true (decide (ap>0)) false) 2 b 3 3 n (fun aq=>(q0 aq ((l.drop ((b.toNat)*12)).take 12))))) (Aa N false 2 b 3 3 n (fun ar=>(q0 ar ((l.drop ((b.toNat)*12)).take 12))))))) none) none)))))))) none)))) none))) none) none) none) none))
def Ij:=(Ah (fun (N:Nat) (d:LA) (c:Bool) (b:Int) (i:LA) (r0:LA→O R)=>(Ou N r0 (fun f e=>(Lb N r0 b c d f e)) d c b i))).1
theorem Z8 (d c b i r0):(@Ij R N d c b i r0)=(Ou N r0 (fun f e=>(Lb N r0 b c d f e)) d c b i):=by rw[Ij,(Ah _).2]
def CO:Hints:={ H:=(hS hL (hS hL (hS hL (hS hL (hS hL (hS hL (hJ [0,2,4,6,7] hL (hJ [0,2,4,6,7] hL (hJ [0,2,4,6,7] hL hL))))))))) }
def HH:Gm:=[(159,Fl N),(225,M0 N),(161,Bv N),(226,WX N),(162,Dt N),(227,CJ N)]
def Rl (F:KF R):=Ko Tryz.f163 CO (HH N) [100000] N F
def Dd (F:KF R):LA→O R:=(fun au=>F (.tup []) [(100000,(bQ 0 au))])
def gi (b:Int) (c:Bool) (d e m:LA):St:=⟨[(0,(.optr 100000 0)),(2,(iv b)),(4,(op 0)),(6,(op 1)),(7,(iv 2))],[(100000,(bQ 0 m)),(300000,(bP c 0 d)),(300001,(bP c 0 e))]⟩
def gj (F:KF R):=Rl N F [1,1,1,1,1,1,1,1,1] []
def gk (b:Int) (c:Bool) (d e g:LA):St:=⟨[(0,(.optr 100000 0)),(2,(iv b)),(4,(op 0)),(6,(op 1)),(7,(iv 2))],[(100000,(bQ 0 g)),(300000,(bP c 0 d)),(300001,(bP c 0 e))]⟩
def gn (F:KF R):=Rl N F [1,1,1,1,1,1,1,1] []
def gp (b:Int) (c:Bool) (d f e:LA):St:=⟨[(0,(.optr 100000 0)),(2,(iv b)),(4,(op 0)),(6,(op 1)),(7,(iv 2))],[(100000,(bQ 0 f)),(300000,(bP c 0 d)),(300001,(bP c 0 e))]⟩
def gq (F:KF R):=Rl N F [1,1,1,1,1,1,1] []
theorem TG (F:KF R) (b:Int) (c:Bool) (d e:LA):∀ (m:LA),B9 (gj N F) (gi b c d e m)=(Rj N (Dd F) b c d e m):=by
 intro m
 kernel_rfl
theorem TH (F:KF R) (b:Int) (c:Bool) (d e:LA):∀ (g:LA),B9 (gn N F) (gk b c d e g)=(Rk N (Dd F) b c d e g):=by
 intro g
 exact Eq.trans (by kernel_rfl) (Bu (Pq N (Dd F) b c d e · g) (funext fun m=>(A4 ..).trans (TG N F b c d e m)):_)
theorem TI (F:KF R) (b:Int) (c:Bool) (d:LA):∀ (f e:LA),B9 (gq N F) (gp b c d f e)=(Lb N (Dd F) b c d f e):=by
 intro f e
 exact Eq.trans (by kernel_rfl) (Bu (Pr N (Dd F) b c d · f e) (funext fun g=>(A4 ..).trans (TH N F b c d e g)):_)
theorem CP (d:LA) (c:Bool) (b:Int) (i:LA) (F:KF R):C2 (HH N) CO N 163 [(.optr 100000 0),(.pagg d c),(iv b)] [(100000,(bQ 0 i))] F=(Ij N d c b i (Dd F)):=by
 rw[Z8]
 exact Eq.trans (by kernel_rfl) (Bu (Ou N (Dd F) · d c b i) (funext fun f=>funext fun e=>(A4 ..).trans (TI N F b c d f e)):_)
def Z9 (a:LA) (h:Ai) (k:KF R):O R :=
 match a,h with
 | [(.optr 100000 0),(.pagg d c),(.int .i64 b)],[(100000,⟨false,false,true,false,0,i,false,none⟩)]=>(Ij N d c b i (Dd k))
 | _,_=>none
theorem CQ:Am N 163 @Z9:=by
 intro R Q a h k j;unfold Z9;split;exact Az (CP ..) (CP ..) ⟨Fm N,M1 N,Bw N,WY N,Du N,CK N,trivial⟩;exact A2
def gr:=A1 (CQ N)
def gt:=C5 (CQ N)
def Gk (r0:LA→O R) (c:Int) (e:LA) (d:Bool) (b:LA) (k2:Int→Int→O R) (q p:Int):O R :=
 (B4 2 (b.drop 4) fun ba s=>(cond ((decide (p<((s:Nat):Int)))==true) (As .i64 (e.drop 3) fun t=>(cond (cond true (t==0) false) (B4 2 (b.drop 4) fun u v=>(cond (Ae p v) (As .i64 (u.drop ((p.toNat)*2)) fun w=>(k2 (wrap .i64 (q+w)) (wrap .i64 (p+1)))) none)) (As .i64 (e.drop 3) fun x=>(cond ((x != 0)==false) (As .i64 (b.drop 3) fun y=>(As .i64 (b.drop 2) fun z=>(Aa N (cond false true (q==(wrap .i64 (y - z)))) 3 c 4 4 e (fun aa=>(r0 aa))))) (Aa N true 3 c 4 4 e (fun ab=>(r0 ab))))))) (As .i64 (e.drop 3) fun ac=>(cond ((ac != 0)==false) (As .i64 (b.drop 3) fun ad=>(As .i64 (b.drop 2) fun ae=>(Aa N (cond false true (q==(wrap .i64 (ad - ae)))) 3 c 4 4 e (fun af=>(r0 af))))) (Aa N true 3 c 4 4 e (fun ag=>(r0 ag)))))))
def Do (r0:LA→O R) (c:Int) (e:LA) (d:Bool) (b:LA):Nat→Int→Int→O R
 | 0,_,_=>none
 | n+1,q,p=>(Gk N r0 c e d b (Do r0 c e d b n) q p)
def Ee (r0:LA→O R) (c:Int) (d:Bool) (b:LA) (k1:Int→LA→O R) (q2:Int→Int→O R) (i:Int) (e:LA):O R :=
 (B4 2 (b.drop 4) fun bb ah=>(cond (decide (i<((ah:Nat):Int))) (B4 2 (b.drop 4) fun ai aj=>(cond (Ae i aj) (As .i64 ((ai.drop ((i.toNat)*2)).drop 1) fun ak=>(B4 2 (b.drop 4) fun al am=>(cond (Ae (wrap .i64 (i - 1)) am) (As .i64 ((al.drop (((wrap .i64 (i - 1)).toNat)*2)).drop 1) fun an=>(Aa N (decide (ak≥an)) 3 c 4 11 e (fun ao=>(k1 (wrap .i64 (i+1)) ao)))) none))) none)) (q2 0 0)))
def Cp (r0:LA→O R) (c:Int) (d:Bool) (b:LA):Nat→Int→LA→O R
 | 0,_,_=>none
 | n+1,i,e=>(Ee N r0 c d b (Cp r0 c d b n) (fun q p=>(Do N r0 c e d b N q p)) i e)
def Gl (r0:LA→O R) (c:Int) (g:LA) (l:Nat) (d:Bool) (b:LA) (k0:Int→Int→LA→O R) (q1:Int→LA→O R) (m f:Int) (o:LA):O R :=
 (cond (decide (f<m)) (cond (Ae f l) (cond (Nat.ble 2 ((g.drop ((f.toNat)*2)).length)) (cond ((!d)||(A0 ((g.drop ((f.toNat)*2)).take 2))) (cond ((Nat.beq (((g.drop ((f.toNat)*2)).take 2).length) 2)&&((Nat.ble 2 2)&&(!false))) (As .i64 (setCells [(.int .i64 0),(.int .i64 0)] 0 ((g.drop ((f.toNat)*2)).take 2)) fun ap=>(Ap N 1 1048576 [(.int .i64 ap)] 1 false true (fun aq=>(cond (aq==true) (As .i64 ((setCells [(.int .i64 0),(.int .i64 0)] 0 ((g.drop ((f.toNat)*2)).take 2)).drop 1) fun ar=>(Ap N (-1048576) 1048576 [(.int .i64 ar)] 1 false true (fun au=>(Aa N (cond true au false) 3 c 4 3 o (fun av=>(k0 m (wrap .i64 (f+1)) av)))))) (Aa N false 3 c 4 3 o (fun aw=>(k0 m (wrap .i64 (f+1)) aw))))))) none) none) none) none) (q1 1 o))
def Cq (r0:LA→O R) (c:Int) (g:LA) (l:Nat) (d:Bool) (b:LA):Nat→Int→Int→LA→O R
 | 0,_,_,_=>none
 | n+1,m,f,o=>(Gl N r0 c g l d b (Cq r0 c g l d b n) (fun i e=>(Cp N r0 c d b N i e)) m f o)
def Jc (r0:LA→O R) (q0:LA→Nat→Int→Int→LA→O R) (b:LA) (d:Bool) (c:Int) (r:LA):O R :=
 (B4 2 (b.drop 4) fun bc ax=>(Aa N (decide (((ax:Nat):Int)≤8)) 3 c 4 8 r (fun ay=>(B4 2 (b.drop 4) fun g l=>(q0 g l ((l:Nat):Int) 0 ay)))))
def Dw:=(Ah (fun (N:Nat) (b:LA) (d:Bool) (c:Int) (r:LA) (r0:LA→O R)=>(Jc N r0 (fun g l m f o=>(Cq N r0 c g l d b N m f o)) b d c r))).1
theorem R8 (b d c r r0):(@Dw R N b d c r r0)=(Jc N r0 (fun g l m f o=>(Cq N r0 c g l d b N m f o)) b d c r):=by rw[Dw,(Ah _).2]
def T9:Hints:={ H:=(hS hL (hS hL (hS hL (hS (hS hL (hS (hP [0,2,4,6,21,22,23] hL) hL)) (hS (hS hL (hS (hP [0,2,4,6,9] hL) hL)) (hS hL (hS (hS hL (hS (hP [0,2,4,6,10,11] hL) hL)) hL))))))) }
def Vi:Gm:=[(161,Bv N),(162,Dt N)]
def Ls (F:KF R):=Ko Tryz.f228 T9 (Vi N) [100000] N F
def Br (F:KF R):LA→O R:=(fun az=>F (.tup []) [(100000,(bQ 0 az))])
def PM (c:Int) (e:LA) (d:Bool) (b:LA) (q p:Int):St:=⟨[(0,(.optr 100000 0)),(2,(iv c)),(4,(op 0)),(6,(iv 3)),(10,(iv q)),(11,(iv p))],[(100000,(bQ 0 e)),(300000,(bP d 0 b))]⟩
def PN (F:KF R):=Ls N F [1,1,1,1,1,1,0,1,0] []
def PO (c:Int) (d:Bool) (b:LA) (i:Int) (e:LA):St:=⟨[(0,(.optr 100000 0)),(2,(iv c)),(4,(op 0)),(6,(iv 3)),(9,(iv i))],[(100000,(bQ 0 e)),(300000,(bP d 0 b))]⟩
def PP (F:KF R):=Ls N F [1,1,1,1,0,1,0] []
def PQ (c:Int) (g:LA) (l:Nat) (d:Bool) (b:LA) (m f:Int) (o:LA):St:=⟨[(0,(.optr 100000 0)),(2,(iv c)),(4,(op 0)),(6,(iv 3)),(21,(.imm g l 2 false d)),(22,(iv m)),(23,(iv f))],[(100000,(bQ 0 o)),(300000,(bP d 0 b))]⟩
def PR (F:KF R):=Ls N F [1,1,1,0,1,0] []
theorem Ps (F:KF R) (c:Int) (e:LA) (d:Bool) (b:LA):∀ (n:Nat) (q p:Int),Aj (PN N F) n (PM c e d b q p)=(Do N (Br F) c e d b n q p)
 | 0,_,_=>by kernel_rfl
 | n+1,q,p=>Eq.trans (by kernel_rfl) (Bu (Gk N (Br F) c e d b · q p) (funext fun q=>funext fun p=>(Ps F c e d b n q p)):_)
theorem Pt (F:KF R) (c:Int) (d:Bool) (b:LA):∀ (n:Nat) (i:Int) (e:LA),Aj (PP N F) n (PO c d b i e)=(Cp N (Br F) c d b n i e)
 | 0,_,_=>by kernel_rfl
 | n+1,i,e=>Eq.trans (by kernel_rfl) (NY (Ee N (Br F) c d b · · i e) (funext fun i=>funext fun e=>(Pt F c d b n i e)) (funext fun q=>funext fun p=>(Ad ..).trans (Ps N F c e d b N q p)):_)
theorem Pu (F:KF R) (c:Int) (g:LA) (l:Nat) (d:Bool) (b:LA):∀ (n:Nat) (m f:Int) (o:LA),Aj (PR N F) n (PQ c g l d b m f o)=(Cq N (Br F) c g l d b n m f o)
 | 0,_,_,_=>by kernel_rfl
 | n+1,m,f,o=>Eq.trans (by kernel_rfl) (NY (Gl N (Br F) c g l d b · · m f o) (funext fun m=>funext fun f=>funext fun o=>(Pu F c g l d b n m f o)) (funext fun i=>funext fun e=>(Ad ..).trans (Pt N F c d b N i e)):_)
theorem Ua (b:LA) (d:Bool) (c:Int) (r:LA) (F:KF R):C2 (Vi N) T9 N 228 [(.optr 100000 0),(.pagg b d),(iv c)] [(100000,(bQ 0 r))] F=(Dw N b d c r (Br F)):=by
 rw[R8]
 exact Eq.trans (by kernel_rfl) (Bu (Jc N (Br F) · b d c r) (funext fun g=>funext fun l=>funext fun m=>funext fun f=>funext fun o=>(Ad ..).trans (Pu N F c g l d b N m f o)):_)
def R9 (a:LA) (h:Ai) (k:KF R):O R :=
 match a,h with
 | [(.optr 100000 0),(.pagg b d),(.int .i64 c)],[(100000,⟨false,false,true,false,0,r,false,none⟩)]=>(Dw N b d c r (Br k))
 | _,_=>none
theorem Ub:Am N 228 @R9:=by
 intro R Q a h k j;unfold R9;split;exact Az (Ua ..) (Ua ..) ⟨Bw N,Du N,trivial⟩;exact A2
def PS:=A1 (Ub N)
def PT:=C5 (Ub N)
def Rm (r0:LA→O R) (b:Int) (c:Bool) (d i:LA):O R :=
 (As .i64 (d.drop 19) fun o=>(cond (o==2) (As .i64 (d.drop 2) fun p=>(As .i64 (d.drop 3) fun q=>(As .i64 (d.drop 21) fun r=>(Ap N p q [(.int .i64 r)] 1 false true (fun s=>(Aa N s 3 b 21 3 i (fun t=>(r0 t)))))))) (As .i64 (d.drop 21) fun u=>(Aa N (u==0) 3 b 21 3 i (fun v=>(r0 v))))))
def Pv (r0:LA→O R) (b:Int) (c:Bool) (q1:LA→O R) (g d:LA):O R :=
 (As .i64 (d.drop 20) fun w=>(Ap N 1 48 [(.int .i64 w)] 1 false true (fun x=>(Aa N x 3 b 20 3 g (fun m=>(As .i64 (d.drop 19) fun y=>(cond ((y != 1)==false) (As .i64 (d.drop 20) fun z=>(As .i64 (d.drop 12) fun aa=>(Aa N (cond false true (decide (z≤aa))) 3 b 20 3 m (fun ab=>(q1 ab))))) (Aa N true 3 b 20 3 m (fun ac=>(q1 ac))))))))))
def Lc (r0:LA→O R) (b:Int) (c:Bool) (g d:LA):O R:=(Pv N r0 b c (fun i=>(Rm N r0 b c d i)) g d)
def Ov (r0:LA→O R) (q0:LA→LA→O R) (f:LA) (c:Bool) (b:Int) (l:LA):O R :=
 (B4 22 (f.drop 4) fun e ad=>(cond (Ae b ad) (cond (Nat.ble 22 ((e.drop ((b.toNat)*22)).length)) (cond ((Nat.beq 0 0)&&((Nat.beq (((e.drop ((b.toNat)*22)).take 22).length) 22)&&(Nat.beq 22 22))) (cond (Nat.ble 8 (f.length)) (Co N (f.take 8) c 3 b l (fun ae=>(cond (Nat.ble 8 (f.length)) (As .i64 (((e.drop ((b.toNat)*22)).take 22).drop 1) fun af=>(Ej N (f.take 8) c af 3 b 1 ae (fun ag=>(As .i64 (((e.drop ((b.toNat)*22)).take 22).drop 2) fun ah=>(Ap N 0 1048576 [(.int .i64 ah)] 1 false true (fun ai=>(Aa N ai 3 b 2 3 ag (fun aj=>(As .i64 (((e.drop ((b.toNat)*22)).take 22).drop 2) fun ak=>(As .i64 (((e.drop ((b.toNat)*22)).take 22).drop 3) fun al=>(Ap N ak 1048576 [(.int .i64 al)] 1 false true (fun am=>(Aa N am 3 b 3 3 aj (fun an=>(cond (Nat.ble 22 (((e.drop ((b.toNat)*22)).take 22).length)) (Dw N (((e.drop ((b.toNat)*22)).take 22).take 22) c b an (fun ao=>(As .i64 (((e.drop ((b.toNat)*22)).take 22).drop 5) fun ap=>(Ap N 0 1048576 [(.int .i64 ap)] 1 false true (fun aq=>(Aa N aq 3 b 5 3 ao (fun ar=>(As .i64 (((e.drop ((b.toNat)*22)).take 22).drop 6) fun au=>(Ap N 0 1048576 [(.int .i64 au)] 1 false true (fun av=>(Aa N av 3 b 6 3 ar (fun aw=>(As .i64 (((e.drop ((b.toNat)*22)).take 22).drop 7) fun ax=>(Ap N 0 1048576 [(.int .i64 ax)] 1 false true (fun ay=>(Aa N ay 3 b 7 3 aw (fun az=>(As .i64 (((e.drop ((b.toNat)*22)).take 22).drop 2) fun ba=>(As .i64 (((e.drop ((b.toNat)*22)).take 22).drop 3) fun bb=>(As .i64 (((e.drop ((b.toNat)*22)).take 22).drop 8) fun bc=>(Ap N ba bb [(.int .i64 bc)] 1 false true (fun bd=>(Aa N bd 3 b 8 3 az (fun be=>(As .i64 (((e.drop ((b.toNat)*22)).take 22).drop 2) fun bf=>(As .i64 (((e.drop ((b.toNat)*22)).take 22).drop 3) fun bg=>(As .i64 (((e.drop ((b.toNat)*22)).take 22).drop 9) fun bh=>(Ap N bf bg [(.int .i64 bh)] 1 false true (fun bi=>(Aa N bi 3 b 9 3 be (fun bj=>(As .i64 (((e.drop ((b.toNat)*22)).take 22).drop 10) fun bk=>(Ap N 0 24 [(.int .i64 bk)] 1 false true (fun bl=>(Aa N bl 3 b 10 3 bj (fun bm=>(As .i64 (((e.drop ((b.toNat)*22)).take 22).drop 11) fun bn=>(Ap N 0 24 [(.int .i64 bn)] 1 false true (fun bo=>(Aa N bo 3 b 11 3 bm (fun bp=>(As .i64 (((e.drop ((b.toNat)*22)).take 22).drop 12) fun bq=>(Ap N 0 24 [(.int .i64 bq)] 1 false true (fun br=>(Aa N br 3 b 12 3 bp (fun bs=>(As .i64 (((e.drop ((b.toNat)*22)).take 22).drop 13) fun bt=>(Ap N 0 1048576 [(.int .i64 bt)] 1 false true (fun bu=>(Aa N bu 3 b 13 3 bs (fun bv=>(As .i64 (((e.drop ((b.toNat)*22)).take 22).drop 14) fun bw=>(Ap N 0 1048576 [(.int .i64 bw)] 1 false true (fun bx=>(Aa N bx 3 b 14 3 bv (fun bz=>(As .i64 (((e.drop ((b.toNat)*22)).take 22).drop 15) fun ca=>(Ap N 0 24 [(.int .i64 ca)] 1 false true (fun cb=>(Aa N cb 3 b 15 3 bz (fun cc=>(As .i64 (((e.drop ((b.toNat)*22)).take 22).drop 16) fun cd=>(Ap N 0 1048576 [(.int .i64 cd)] 1 false true (fun ce=>(Aa N ce 3 b 16 3 cc (fun cf=>(As .i64 (((e.drop ((b.toNat)*22)).take 22).drop 17) fun cg=>(Ap N 0 1048576 [(.int .i64 cg)] 1 false true (fun ch=>(Aa N ch 3 b 17 3 cf (fun ci=>(cond (Nat.ble 8 (f.length)) (B4 1 (((e.drop ((b.toNat)*22)).take 22).drop 18) fun cj ck=>(Ih N (f.take 8) c cj ck false c 3 b 18 ci (fun cl=>(As .i64 (((e.drop ((b.toNat)*22)).take 22).drop 19) fun cm=>(Ap N 0 2 [(.int .i64 cm)] 1 false true (fun cn=>(Aa N cn 3 b 19 12 cl (fun n=>(As .i64 (((e.drop ((b.toNat)*22)).take 22).drop 19) fun co=>(cond ((co != 1)==false) (As .i64 (((e.drop ((b.toNat)*22)).take 22).drop 12) fun cp=>(Aa N (cond false true (decide (cp>0))) 3 b 19 16 n (fun cq=>(q0 cq ((e.drop ((b.toNat)*22)).take 22))))) (Aa N true 3 b 19 16 n (fun cr=>(q0 cr ((e.drop ((b.toNat)*22)).take 22)))))))))))))) none)))))))))))))))))))))))))))))))))))))))))))))))))))))))))))))))))))))))) none))))))))))))))) none))) none) none) none) none))
def Ik:=(Ah (fun (N:Nat) (f:LA) (c:Bool) (b:Int) (l:LA) (r0:LA→O R)=>(Ov N r0 (fun g d=>(Lc N r0 b c g d)) f c b l))).1
theorem AA (f c b l r0):(@Ik R N f c b l r0)=(Ov N r0 (fun g d=>(Lc N r0 b c g d)) f c b l):=by rw[Ik,(Ah _).2]
def CS:Hints:={ H:=(hS hL (hS hL (hS hL (hS hL (hS hL (hS hL (hS hL (hS hL (hS hL (hS hL (hS hL (hS hL (hS hL (hS hL (hS hL (hS hL (hS hL (hS hL (hS hL (hS hL (hS hL (hS hL (hJ [0,2,6,7] hL (hS hL (hJ [0,2,6,7] hL hL))))))))))))))))))))))))) }
def HI:Gm:=[(159,Fl N),(225,M0 N),(162,Dt N),(161,Bv N),(228,PS N),(227,CJ N)]
def CT (F:KF R):=Ko Tryz.f164 CS (HI N) [100000] N F
def Fn (F:KF R):LA→O R:=(fun cs=>F (.tup []) [(100000,(bQ 0 cs))])
def gv (b:Int) (c:Bool) (d i:LA):St:=⟨[(0,(.optr 100000 0)),(2,(iv b)),(6,(op 0)),(7,(iv 3))],[(100000,(bQ 0 i)),(300000,(bP c 0 d))]⟩
def gw (F:KF R):=CT N F [1,1,1,1,1,1,1,1,1,1,1,1,1,1,1,1,1,1,1,1,1,1,1,1,1] []
def gy (b:Int) (c:Bool) (g d:LA):St:=⟨[(0,(.optr 100000 0)),(2,(iv b)),(6,(op 0)),(7,(iv 3))],[(100000,(bQ 0 g)),(300000,(bP c 0 d))]⟩
def gz (F:KF R):=CT N F [1,1,1,1,1,1,1,1,1,1,1,1,1,1,1,1,1,1,1,1,1,1,1] []
theorem TJ (F:KF R) (b:Int) (c:Bool) (d:LA):∀ (i:LA),B9 (gw N F) (gv b c d i)=(Rm N (Fn F) b c d i):=by
 intro i
 kernel_rfl
theorem TK (F:KF R) (b:Int) (c:Bool):∀ (g d:LA),B9 (gz N F) (gy b c g d)=(Lc N (Fn F) b c g d):=by
 intro g d
 exact Eq.trans (by kernel_rfl) (Bu (Pv N (Fn F) b c · g d) (funext fun i=>(A4 ..).trans (TJ N F b c d i)):_)
theorem CU (f:LA) (c:Bool) (b:Int) (l:LA) (F:KF R):C2 (HI N) CS N 164 [(.optr 100000 0),(.pagg f c),(iv b)] [(100000,(bQ 0 l))] F=(Ik N f c b l (Fn F)):=by
 rw[AA]
 exact Eq.trans (by kernel_rfl) (Bu (Ov N (Fn F) · f c b l) (funext fun g=>funext fun d=>(A4 ..).trans (TK N F b c g d)):_)
def AB (a:LA) (h:Ai) (k:KF R):O R :=
 match a,h with
 | [(.optr 100000 0),(.pagg f c),(.int .i64 b)],[(100000,⟨false,false,true,false,0,l,false,none⟩)]=>(Ik N f c b l (Fn k))
 | _,_=>none
theorem CV:Am N 164 @AB:=by
 intro R Q a h k j;unfold AB;split;exact Az (CU ..) (CU ..) ⟨Fm N,M1 N,Du N,Bw N,PT N,CK N,trivial⟩;exact A2
def hE:=A1 (CV N)
def hG:=C5 (CV N)
def To (d:LA) (e:Bool) (b:Int) (f:LA) (r0:LA→O R):O R :=
 (B4 9 (d.drop 5) fun c i=>(cond (Ae b i) (cond (Nat.ble 9 ((c.drop ((b.toNat)*9)).length)) (cond ((Nat.beq 0 0)&&((Nat.beq (((c.drop ((b.toNat)*9)).take 9).length) 9)&&(Nat.beq 9 9))) (cond (Nat.ble 8 (d.length)) (Co N (d.take 8) e 4 b f (fun l=>(cond (Nat.ble 8 (d.length)) (As .i64 (((c.drop ((b.toNat)*9)).take 9).drop 1) fun m=>(Ej N (d.take 8) e m 4 b 1 l (fun n=>(As .i64 (((c.drop ((b.toNat)*9)).take 9).drop 2) fun o=>(Ap N 0 1048576 [(.int .i64 o)] 1 false true (fun p=>(Aa N p 4 b 2 3 n (fun q=>(As .i64 (((c.drop ((b.toNat)*9)).take 9).drop 2) fun r=>(As .i64 (((c.drop ((b.toNat)*9)).take 9).drop 3) fun s=>(Ap N 0 r [(.int .i64 s)] 1 false true (fun t=>(Aa N t 4 b 3 3 q (fun u=>(As .i64 (((c.drop ((b.toNat)*9)).take 9).drop 2) fun v=>(As .i64 (((c.drop ((b.toNat)*9)).take 9).drop 4) fun w=>(Ap N 0 v [(.int .i64 w)] 1 false true (fun x=>(Aa N x 4 b 4 3 u (fun y=>(As .i64 (((c.drop ((b.toNat)*9)).take 9).drop 5) fun z=>(Ap N 0 1048576 [(.int .i64 z)] 1 false true (fun aa=>(Aa N aa 4 b 5 3 y (fun ab=>(As .i64 (((c.drop ((b.toNat)*9)).take 9).drop 6) fun ac=>(Ap N 0 1048576 [(.int .i64 ac)] 1 false true (fun ad=>(Aa N ad 4 b 6 3 ab (fun g=>(cond (Nat.ble 2 ((((c.drop ((b.toNat)*9)).take 9).drop 7).length)) (cond ((!e)||(A0 ((((c.drop ((b.toNat)*9)).take 9).drop 7).take 2))) (J3 N ((((c.drop ((b.toNat)*9)).take 9).drop 7).take 2) false (fun ae=>(cond (ae==true) (As .i64 (((c.drop ((b.toNat)*9)).take 9).drop 7) fun af=>(cond ((cond true (decide (af>0)) false)==true) (As .i64 (((c.drop ((b.toNat)*9)).take 9).drop 7) fun ag=>(As .i64 (((c.drop ((b.toNat)*9)).take 9).drop 8) fun ah=>(Aa N (cond true (decide (ag≤ah)) false) 4 b 7 3 g (fun ai=>(r0 ai))))) (Aa N false 4 b 7 3 g (fun aj=>(r0 aj))))) (Aa N false 4 b 7 3 g (fun ak=>(r0 ak)))))) none) none))))))))))))))))))))))))))))))) none))) none) none) none) none))
def J6:=(Ah (@To R)).1
theorem Wq:@J6 R=@To R:=(Ah _).2
def hI:Gm:=[(159,Fl N),(225,M0 N),(162,Dt N),(161,Bv N),(226,WX N)]
def AC (F:KF R):LA→O R:=(fun al=>F (.tup []) [(100000,(bQ 0 al))])
theorem AD (d:LA) (e:Bool) (b:Int) (f:LA) (F:KF R):C2 (hI N) Dc N 165 [(.optr 100000 0),(.pagg d e),(iv b)] [(100000,(bQ 0 f))] F=(J6 N d e b f (AC F)):=by
 rw[Wq]
 kernel_rfl
def Wr (a:LA) (h:Ai) (k:KF R):O R :=
 match a,h with
 | [(.optr 100000 0),(.pagg d e),(.int .i64 b)],[(100000,⟨false,false,true,false,0,f,false,none⟩)]=>(J6 N d e b f (AC k))
 | _,_=>none
theorem AE:Am N 165 @Wr:=by
 intro R Q a h k j;unfold Wr;split;exact Az (AD ..) (AD ..) ⟨Fm N,M1 N,Du N,Bw N,WY N,trivial⟩;exact A2
def dE:=A1 (AE N)
def dF:=C5 (AE N)
def Xj (c:LA) (d:Bool) (b:Int) (e:LA) (r0:LA→O R):O R :=
 (B4 5 (c.drop 6) fun f g=>(cond (Ae b g) (cond (Nat.ble 5 ((f.drop ((b.toNat)*5)).length)) (cond ((Nat.beq 0 0)&&((Nat.beq (((f.drop ((b.toNat)*5)).take 5).length) 5)&&(Nat.beq 5 5))) (cond (Nat.ble 8 (c.length)) (Co N (c.take 8) d 5 b e (fun i=>(cond (Nat.ble 8 (c.length)) (As .i64 (((f.drop ((b.toNat)*5)).take 5).drop 1) fun l=>(Ej N (c.take 8) d l 5 b 1 i (fun m=>(cond (Nat.ble 8 (c.length)) (B4 1 (((f.drop ((b.toNat)*5)).take 5).drop 2) fun n o=>(Cy N (c.take 8) d n o false d 0 1048576 5 b 2 m (fun p=>(cond (Nat.ble 8 (c.length)) (B4 1 (((f.drop ((b.toNat)*5)).take 5).drop 3) fun q r=>(Cy N (c.take 8) d q r false d 0 1048576 5 b 3 p (fun s=>(cond (Nat.ble 8 (c.length)) (B4 1 (((f.drop ((b.toNat)*5)).take 5).drop 4) fun t u=>(Cy N (c.take 8) d t u false d (-1048576) 1048576 5 b 4 s (fun v=>(r0 v)))) none)))) none)))) none)))) none))) none) none) none) none))
def Nq:=(Ah (@Xj R)).1
theorem CW:@Nq R=@Xj R:=(Ah _).2
def oV:Gm:=[(159,Fl N),(225,M0 N),(160,Oe N)]
def HJ (F:KF R):LA→O R:=(fun w=>F (.tup []) [(100000,(bQ 0 w))])
theorem HK (c:LA) (d:Bool) (b:Int) (e:LA) (F:KF R):C2 (oV N) Dc N 166 [(.optr 100000 0),(.pagg c d),(iv b)] [(100000,(bQ 0 e))] F=(Nq N c d b e (HJ F)):=by
 rw[CW]
 kernel_rfl
def CX (a:LA) (h:Ai) (k:KF R):O R :=
 match a,h with
 | [(.optr 100000 0),(.pagg c d),(.int .i64 b)],[(100000,⟨false,false,true,false,0,e,false,none⟩)]=>(Nq N c d b e (HJ k))
 | _,_=>none
theorem HL:Am N 166 @CX:=by
 intro R Q a h k j;unfold CX;split;exact Az (HK ..) (HK ..) ⟨Fm N,M1 N,Of N,trivial⟩;exact A2
def lk:=A1 (HL N)
def lm:=C5 (HL N)
end
end Gx

namespace Gx.Cf
open Go Go.Proofs
section
variable {R:Type}
theorem MP {p:C6} {f:Int→O R}:As .i64 (List.drop 3 (Dp p)) f=f (Bt p):=by
 rcases p with _ | ⟨⟨a,b,c⟩,e,d⟩<;>simp[Dp,N_,A5,Bt]
theorem Oh {N:Nat} {i:Int} {u:UnitD} {o:Bool} {p:C6} {K:LA→O R} (hs:u.segs.l.length<4611686018427387904):∀ (m j fuel:Nat) (a:Int),j+m=u.segs.l.length→m<fuel →
  Do N K i (Dp p) o u.av fuel a (j:Int)=K (Dp (nd p (ZW a (u.segs.l.drop j)==IntKind.wrap .i64 (u.max - u.min)) (3,i,4) e4))
 | 0,j,fuel+1,a,c,_=>by
  rw[Do];unfold Gk
  simp only[MO,Az8,Az9,MP,Af (show(4:Int)≠0 by decide)]
  rw[Iz (by omega),C1 (l:=u.segs.l) (by omega),ZW,Gh]
  rcases p with _ | ⟨x,e,b⟩
  ·simp[Bt]
  ·have:(e != 0)=true:=by simpa using b
   simp[Bt,this,nd]
 | m+1,j,fuel+1,a,c,k=>by
  rw[Do];unfold Gk
  have h:j<u.segs.l.length:=by omega
  simp only[MO,Az8,Az9,MP,Af (show(4:Int)≠0 by decide),A17 h,Ab h]
  rw[Hh h,Bp (by omega),Oh hs m (j+1) fuel _ (by omega) (by omega),B7 h,ZW,Gh]
  rcases p with _ | ⟨x,e,b⟩
  ·simp[Bt]
  ·have d:(e != 0)=true:=by simpa using b
   have f:(e==0)=false:=by simpa using b
   simp[Bt,d,f,nd]
theorem Ws {N:Nat} {i:Int} {u:UnitD} {o:Bool} {K:LA→O R} (hs:Fq u.segs.l.length N):∀ (m j fuel:Nat) (p:C6),j+1+m=u.segs.l.length→m<fuel →
  Cp N K i o u.av fuel ((j+1:Nat):Int) (Dp p)=K (Dp (nd (nd p (dD (u.segs.l.drop j)) (3,i,4) A16) (ZW 0 u.segs.l==IntKind.wrap .i64 (u.max - u.min)) (3,i,4) e4))
 | 0,j,fuel+1,p,b,_=>by
  rw[Cp];unfold Ee
  rw[MO,Iz (by omega),cf,B7 (l:=u.segs.l) (j:=j) (by omega),C1 (l:=u.segs.l) (j:=j+1) (by omega),oS,Gh]
  have:=Oh (R:=R) (N:=N) (i:=i) (u:=u) (o:=o) (p:=p) (K:=K) hs.2 u.segs.l.length 0 N 0 (by omega) hs.1
  simpa using this
 | m+1,j,fuel+1,p,b,d=>by
  rw[Cp];unfold Ee
  have h:j+1<u.segs.l.length:=by omega
  have h':j<u.segs.l.length:=by omega
  have c:=hs.2
  simp only[MO]
  rw[Hh h,ct,Ab h,ct,gA h,oQ (by omega),Ab h',ct,gA h',Bp (by omega),Af (by decide),Ws hs m (j+1) fuel _ (by omega) (by omega),B7 h',B7 h,HF,Rf]
theorem Wt {N:Nat} {i:Int} {u:UnitD} {o:Bool} {K:LA→O R} (hN:8≤N) (hs:Fq u.segs.l.length N):∀ (m j fuel:Nat) (p:C6),j+m=u.segs.l.length→m<fuel →
  Cq N K i (u.segs.l.flatMap SegD.av) u.segs.l.length o u.av fuel (u.segs.l.length:Int) (j:Int) (Dp p) =
   K (Dp (nd (nd (nd p ((u.segs.l.drop j).all uz) (3,i,4) e3) (dD u.segs.l) (3,i,4) A16) (ZW 0 u.segs.l==IntKind.wrap .i64 (u.max - u.min)) (3,i,4) e4))
 | 0,j,fuel+1,p,d,_=>by
  rw[Cq];unfold Gl
  rw[Iz (by omega),cf,C1 (l:=u.segs.l) (by omega),List.all_nil,Gh]
  rcases c:u.segs.l with _ | ⟨b,r⟩
  ·rw[Aci,Gh]
   have l2:=Oh (R:=R) (N:=N) (i:=i) (u:=u) (o:=o) (p:=p) (K:=K) hs.2 u.segs.l.length 0 N 0 (by omega) hs.1
   rcases N with _ | N
   ·omega
   ·dsimp only
    rw[Cp];unfold Ee
    rw[MO,c]
    simp only[List.length_nil,Int.natCast_zero]
    rw[show decide ((1:Int)<0)=false by decide,cf]
    rw[c] at l2
    simpa using l2
  ·have:=Ws (R:=R) (N:=N) (i:=i) (u:=u) (o:=o) (K:=K) hs r.length 0 N p (by rw[c];simp;omega) (by have:=hs.1;rw[c] at this;simp at this;omega)
   rw[c] at this
   simpa using this
 | m+1,j,fuel+1,p,d,n=>by
  rw[Cq];unfold Gl
  have h:j<u.segs.l.length:=by omega
  have e:=hs.2
  rw[Hh h,ct,Ab h,ct,Int.toNat_natCast,Ax Pp _ _ h,B7 h,List.all_cons,Bp (by omega)]
  have f:Nat.ble 2 (List.length (u.segs.l[j].av++List.flatMap SegD.av (List.drop (j+1) u.segs.l)))=true:=by rw[Bq,List.length_append,Pp];simp
  have k:List.take 2 (u.segs.l[j].av++List.flatMap SegD.av (List.drop (j+1) u.segs.l))=u.segs.l[j].av:=List.take_left' (Pp _)
  rw[f,ct,k,Pp]
  simp only[SegD.av,setCells,Cx,List.nil_append,List.append_nil,List.drop_nil,List.drop_succ_cons,List.drop_zero,List.take_zero,List.length_cons,List.length_nil,A5,Bq,IJ,A0,Nat.reduceAdd,decide_true,Bool.and_true,Bool.or_true,Bool.not_false,cond_true,Nat.zero_add,Nat.le_refl,Ek hN,Af (show(3:Int)≠0 by decide),Wt hN hs m (j+1) fuel _ (show j+1+m=_ by omega) (show m<fuel by omega)]
  unfold uz
  rw[Rf,Rf]
  cases Fj 1 1048576 u.segs.l[j].width<;>rfl
theorem IK {N:Nat} {p:C6} {j:Nat} {u:UnitD} {o:Bool} {K:LA→O R} (hN:8≤N) (hs:Fq u.segs.l.length N) :
  Dw N u.av o (j:Int) (Dp p) K=K (Dp (Am8 u j p)):=by
 rw[R8];unfold Jc
 simp only[MO,Af (show(8:Int)≠0 by decide)]
 have:=Wt (R:=R) (N:=N) (i:=j) (u:=u) (o:=o) (K:=K) hN hs u.segs.l.length 0 N (nd p (decide ((u.segs.l.length:Int)≤8)) (3,j,4) e8) (by omega) hs.1
 simpa[Am8] using this
theorem AF {N:Nat} {i:Int} {l:List MoveD} {o:Bool} {K:LA→O R} (hN:8≤N) (hs:l.length<4611686018427387904):∀ (m j fuel:Nat) (p:C6),j+m=l.length→m<fuel →
  D9 N K i (l.flatMap MoveD.av) l.length o fuel (l.length:Int) (j:Int) (Dp p)=K (Dp (nd p ((l.drop j).all Agj) (6,i,3) e3))
 | 0,j,fuel+1,p,b,_=>by
  rw[D9];unfold Hq
  rw[Iz (by omega),cf,C1 (by omega),List.all_nil,Gh]
 | m+1,j,fuel+1,p,b,e=>by
  rw[D9];unfold Hq
  have h:j<l.length:=by omega
  rw[Hh h,ct,Ab h,ct,Int.toNat_natCast,Ax Ew _ _ h,B7 h,List.all_cons,Bp (by omega)]
  have c:Nat.ble 3 (List.length (l[j].av++List.flatMap MoveD.av (List.drop (j+1) l)))=true:=by rw[Bq,List.length_append,Ew];simp
  have d:List.take 3 (l[j].av++List.flatMap MoveD.av (List.drop (j+1) l))=l[j].av:=List.take_left' (Ew _)
  rw[c,ct,d,Ew]
  simp only[MoveD.av,setCells,Cx,List.nil_append,List.append_nil,List.drop_nil,List.drop_succ_cons,List.drop_zero,List.take_zero,List.length_cons,List.length_nil,A5,Bq,IJ,A0,Nat.reduceAdd,decide_true,Bool.and_true,Bool.or_true,Bool.not_false,cond_true,Nat.zero_add,Nat.le_refl,xo hN,Af (show(3:Int)≠0 by decide),AF hN hs m (j+1) fuel _ (show j+1+m=_ by omega) (show m<fuel by omega)]
  rw[Rf];rfl
theorem AG {N:Nat} {c:CaseD} {i:Int} {u:OutD} {o:Bool} {p:C6} {K:LA→O R} (hN:8≤N) (b:c.units.l.length≤1000000) (hs:Fq u.moves.l.length N) (d:u.moves.l.length<8796093022208):∀ (m j fuel:Nat),j+m=u.moves.l.length→m<fuel →
  Ea N K i (u.moves.l.flatMap MoveD.av) u.moves.l.length o (Dp p) c.av u.av fuel j (u.moves.l.length:Int) (j:Int) (Ao ((u.moves.l.take j).map (·.unit))) =
   K (Dp (nd (nd (nd p (u.moves.l.all (Ask c)) (6,i,3) Avi) (lh (u.moves.l.map (·.unit))) (6,i,3) A16) (u.moves.l.all Agj) (6,i,3) e3))
 | 0,j,fuel+1,f,_=>by
  rw[Ea];unfold Hr
  have k:j=u.moves.l.length:=by omega
  rw[Iz (by omega),cf,Nat.mul_one,List.take_of_length_le (by simp[Es];omega),List.take_of_length_le (show u.moves.l.length≤j by omega)]
  rw[Hi,Ii (by simp;omega) (by simpa using hs),Af (by decide),BK (by simp;omega) (by simpa using hs),Af (by decide),yV]
  have:=AF (R:=R) (N:=N) (i:=i) (l:=u.moves.l) (o:=o) (K:=K) hN hs.2 u.moves.l.length 0 N (nd (nd p (u.moves.l.all (Ask c)) (6,i,3) Avi) (lh (u.moves.l.map (·.unit))) (6,i,3) A16) (by omega) hs.1
  have e:(u.moves.l.map (·.unit)).all (Fj 0 (IntKind.wrap .i64 ((c.units.l.length:Int) - 1)))=u.moves.l.all (Ask c):=by
   rw[List.all_map];congr 1;funext m;exact Axg _ _ (by omega)
  rw[e]
  simpa using this
 | m+1,j,fuel+1,f,v=>by
  rw[Ea];unfold Hr
  have h:j<u.moves.l.length:=by omega
  have n:Nat.ble 3 (List.length (u.moves.l[j].av++List.flatMap MoveD.av (List.drop (j+1) u.moves.l)))=true:=by rw[Bq,List.length_append,Ew];simp
  have q:List.take 3 (u.moves.l[j].av++List.flatMap MoveD.av (List.drop (j+1) u.moves.l))=u.moves.l[j].av:=List.take_left' (Ew _)
  have s:(decide (j≤140737488355327)&&decide ((j+1)*8≤140737488355328))=true:=by simp;omega
  have t:List.take (j*1) (Ao ((u.moves.l.take j).map (·.unit)))++[.int .i64 u.moves.l[j].unit]=Ao ((u.moves.l.take (j+1)).map (·.unit)):=by
   rw[List.take_of_length_le (by simp[Es];omega),List.take_succ_eq_append_getElem h,List.map_append,←aU];rfl
  rw[Hh h,ct,Ab h,ct,Int.toNat_natCast,Ax Ew _ _ h,Bp (by omega),n,ct,q,Ew]
  simp only[MoveD.av,setCells,Cx,List.nil_append,List.append_nil,List.drop_nil,List.drop_succ_cons,List.take_zero,List.length_cons,List.length_nil,A5,Bq,IJ,A0,Nat.reduceAdd,Nat.reduceLeDiff,decide_true,Bool.and_true,Bool.or_true,Bool.not_false,cond_true,Nat.zero_add,Nat.le_refl,s,t,AG hN b hs d m (j+1) fuel (show j+1+m=_ by omega) (show m<fuel by omega)]
theorem dG {N:Nat} {c:CaseD} {p:C6} {o:Bool} {j:Nat} {K:LA→O R} (hs:Small c N) (h:j<c.ties.l.length) :
  Nq N c.av o (j:Int) (Dp p) K=K (Dp (Agi c j c.ties.l[j] p)):=by
 have hN:=hs.n64
 have hN8:8≤N:=by omega
 have d:=hs.tie
 have s:=hs.top
 have f:c.ties.l[j] ∈ c.ties.l:=List.getElem_mem h
 have t:=hs.tim _ f;have i:=hs.tex _ f;have m:=hs.tpr _ f
 have e:=@Eb R N c (c.ties.l.map (·.name)) o (k:=5) (n:=j) (hN:=hN) (hL:=fun K=>Ack hs) (hn:=by simpa using h) (hs:=⟨by have:=d.1;omega,by have:=d.2;omega⟩)
 have q:(c.ties.l.map (·.name))[j]'(by simpa using h)=c.ties.l[j].name:=by simp
 rw[q] at e
 rw[CW];unfold Xj 
 rw[fy,Ab h,ct,Int.toNat_natCast,Ax Lq _ _ h]
 generalize c.ties.l[j]=b at *
 have u:Nat.ble 5 (List.length (b.av++List.flatMap TieD.av (List.drop (j+1) c.ties.l)))=true:=by rw[Bq,List.length_append,Lq];simp
 have v:List.take 5 (b.av++List.flatMap TieD.av (List.drop (j+1) c.ties.l))=b.av:=List.take_left' (Lq b)
 rw[u,ct,v,Lq]
 simp only[Ce,e,TieD.av,List.drop_succ_cons,List.drop_zero,A5,Ey,Fi,Bq,IJ,decide_true,Bool.and_true,cond_true]
 simp only[J5 hN8 (show c.buses.l.length<4611686018427387904 by omega),Ev rfl t,Ev rfl i,Ev rfl m]
 rfl
theorem TL {N:Nat} {c:CaseD} {p:C6} {o:Bool} {j:Nat} {K:LA→O R} (hs:Small c N) (h:j<c.stores.l.length) :
  J6 N c.av o (j:Int) (Dp p) K=K (Dp (BL c j c.stores.l[j] p)):=by
 have hN:=hs.n64
 have hN8:8≤N:=by omega
 have d:=hs.sto
 have i:=hs.top
 have s:c.stores.l[j] ∈ c.stores.l:=List.getElem_mem h
 skip
 have e:=@Eb R N c (c.stores.l.map (·.name)) o (k:=4) (n:=j) (hN:=hN) (hL:=fun K=>oU hs) (hn:=by simpa using h) (hs:=⟨by have:=d.1;omega,by have:=d.2;omega⟩)
 have f:(c.stores.l.map (·.name))[j]'(by simpa using h)=c.stores.l[j].name:=by simp
 rw[f] at e
 rw[Wq];unfold To 
 rw[FJ,Ab h,ct,Int.toNat_natCast,Ax F9 _ _ h]
 generalize c.stores.l[j]=b at *
 have m:Nat.ble 9 (List.length (b.av++List.flatMap StoreD.av (List.drop (j+1) c.stores.l)))=true:=by rw[Bq,List.length_append,F9];simp
 have q:List.take 9 (b.av++List.flatMap StoreD.av (List.drop (j+1) c.stores.l))=b.av:=List.take_left' (F9 b)
 rw[m,ct,q,F9]
 simp only[Ce,e,StoreD.av,List.drop_succ_cons,List.drop_zero,List.take_succ_cons,List.take_zero,List.length_cons,List.length_nil,A5,Bq,IJ,A0,Nat.reduceAdd,decide_true,Bool.and_true,Bool.or_true,cond_true,Nat.zero_add,Nat.le_refl]
 simp only[J5 hN8 (show c.buses.l.length<4611686018427387904 by omega),Ek hN8,Af (show(3:Int)≠0 by decide),KM hN8]
 unfold BL;cases Jm b.eff<;>cases decide (b.eff.num>0)<;>rfl
theorem ZX {N:Nat} {c:CaseD} {p:C6} {o:Bool} {j:Nat} {K:LA→O R} (hs:Small c N) (h:j<c.lines.l.length) :
  Ij N c.av o (j:Int) (Dp p) K=K (Dp (CN c j c.lines.l[j] p)):=by
 have hN:=hs.n64
 have hN8:8≤N:=by omega
 have d:=hs.lin
 have i:=hs.top
 have m:c.lines.l[j] ∈ c.lines.l:=List.getElem_mem h
 have q:=hs.law _ m
 have e:=@Eb R N c (c.lines.l.map (·.name)) o (k:=2) (n:=j) (hN:=hN) (hL:=fun K=>vA hs) (hn:=by simpa using h) (hs:=⟨by have:=d.1;omega,by have:=d.2;omega⟩)
 have f:(c.lines.l.map (·.name))[j]'(by simpa using h)=c.lines.l[j].name:=by simp
 rw[f] at e
 rw[Z8];unfold Ou Lb Pr Rk Pq Rj
 rw[F2,Ab h,ct,Int.toNat_natCast,Ax Cd _ _ h]
 generalize c.lines.l[j]=b at *
 have s:Nat.ble 12 (List.length (b.av++List.flatMap LineD.av (List.drop (j+1) c.lines.l)))=true:=by rw[Bq,List.length_append,Cd];simp
 have t:List.take 12 (b.av++List.flatMap LineD.av (List.drop (j+1) c.lines.l))=b.av:=List.take_left' (Cd b)
 rw[s,ct,t,Cd]
 simp only[Ce,e,LineD.av,List.drop_succ_cons,List.drop_zero,List.take_succ_cons,List.take_zero,List.length_cons,List.length_nil,A5,Ey,Fi,Bq,IJ,A0,Nat.reduceAdd,Nat.reduceLeDiff,decide_true,Bool.and_true,Bool.or_true,cond_true,Nat.zero_add]
 simp only[J5 hN8 (show c.buses.l.length<4611686018427387904 by omega),Ek hN8,Af (show(1:Int)≠0 by decide),Af (show(3:Int)≠0 by decide),KM hN8,Wo rfl q]
 unfold CN;rw[show(b.fr != b.tl)=(b.tl != b.fr) by simp[bne,BEq.comm (a:=b.fr)]];cases Jm b.re<;>cases Jm b.smin<;>cases Jm b.smax<;>rfl
end
end Gx.Cf

namespace Gx.Cf
open Go Go.Proofs
section
variable {R:Type}
def A0a (c:CaseD) (j:Nat) (u:UnitD) (p:C6):C6 :=
 let p:=Hj ((c.units.l.map (·.name)).take j) 3 j u.name p
 let p:=nd p (XF c u.bus) (3,j,1) Avi
 let p:=nd p (Fj 0 1048576 u.min) (3,j,2) e3
 let p:=nd p (Fj u.min 1048576 u.max) (3,j,3) e3
 let p:=Am8 u j p
 let p:=nd p (Fj 0 1048576 u.noLoad) (3,j,5) e3
 let p:=nd p (Fj 0 1048576 u.rampUp) (3,j,6) e3
 let p:=nd p (Fj 0 1048576 u.rampDown) (3,j,7) e3
 let p:=nd p (Fj u.min u.max u.startRamp) (3,j,8) e3
 let p:=nd p (Fj u.min u.max u.stopRamp) (3,j,9) e3
 let p:=nd p (Fj 0 24 u.upTime) (3,j,10) e3
 nd p (Fj 0 24 u.downTime) (3,j,11) e3
def A4d (c:CaseD) (j:Nat) (u:UnitD) (p:C6):C6 :=
 let p:=nd p (Fj 0 24 u.startTime) (3,j,12) e3
 let p:=nd p (Fj 0 1048576 u.hotCost) (3,j,13) e3
 let p:=nd p (Fj 0 1048576 u.coldCost) (3,j,14) e3
 let p:=nd p (Fj 0 24 u.hotHours) (3,j,15) e3
 let p:=nd p (Fj 0 1048576 u.reserve) (3,j,16) e3
 let p:=nd p (Fj 0 1048576 u.reservePrice) (3,j,17) e3
 let p:=dB c.hours u.away.l (3,j,18) p
 let p:=nd p (Fj 0 2 u.state) (3,j,19) Avi
 let p:=nd p (u.state != 1||decide (u.startTime>0)) (3,j,19) A8w
 let p:=nd p (Fj 1 48 u.hours) (3,j,20) e3
 let p:=nd p (u.state != 1||decide (u.hours≤u.startTime)) (3,j,20) e3
 cond (u.state==2) (nd p (Fj u.min u.max u.output) (3,j,21) e3) (nd p (u.output==0) (3,j,21) e3)
theorem A78 (n:Int):Fj 0 0 n=(n==0):=by
 unfold Fj
 by_cases h:n=0
 ·simp[h]
 ·have:(n==0)=false:=by simpa using h
  rw[this];simp;omega
theorem A52 {c:CaseD} {j:Nat} {u:UnitD} {p:C6}:A4d c j u (A0a c j u p)=HG c j u p:=by
 show _=(let p:=nd (A0a c j u p) (Fj 0 24 u.startTime) (3,j,12) e3
  let p:=nd p (Fj 0 1048576 u.hotCost) (3,j,13) e3
  let p:=nd p (Fj 0 1048576 u.coldCost) (3,j,14) e3
  let p:=nd p (Fj 0 24 u.hotHours) (3,j,15) e3
  let p:=nd p (Fj 0 1048576 u.reserve) (3,j,16) e3
  let p:=nd p (Fj 0 1048576 u.reservePrice) (3,j,17) e3
  let p:=dB c.hours u.away.l (3,j,18) p
  let p:=nd p (Fj 0 2 u.state) (3,j,19) Avi
  let p:=nd p (u.state != 1||u.startTime != 0) (3,j,19) A8w
  let p:=nd p (Fj 1 48 u.hours) (3,j,20) e3
  let p:=nd p (u.state != 1||decide (u.hours≤u.startTime)) (3,j,20) e3
  cond (u.state==2) (nd p (Fj u.min u.max u.output) (3,j,21) e3) (nd p (Fj 0 0 u.output) (3,j,21) e3))
 unfold A4d
 rw[A78]
 cases hq:nd (A0a c j u p) (Fj 0 24 u.startTime) (3,(j:Int),12) e3 with
 | some x=>simp only[SE,dB]
 | none =>
  have b:Fj 0 24 u.startTime=true:=by
   cases d:Fj 0 24 u.startTime with
   | true=>rfl
   | false =>
    rw[d] at hq
    cases e:A0a c j u p<;>rw[e] at hq<;>simp[nd] at hq
  have:decide (u.startTime>0)=(u.startTime != 0):=by
   unfold Fj at b
   simp at b
   by_cases h:u.startTime=0
   ·simp[h]
   ·have f:(u.startTime != 0)=true:=by simpa using h
    rw[f];simp;omega
  rw[this]
theorem ZY {N:Nat} {c:CaseD} {p:C6} {o:Bool} {j:Nat} {K:LA→O R} (hs:Small c N) (h:j<c.units.l.length) :
  Ik N c.av o (j:Int) (Dp p) K=K (Dp (HG c j c.units.l[j] p)):=by
 have hN:=hs.n64
 have hN8:8≤N:=by omega
 have d:=hs.uni
 have q:=hs.top
 have s:c.units.l[j] ∈ c.units.l:=List.getElem_mem h
 have t:=hs.seg _ s;have f:=hs.uaw _ s
 have e:=@Eb R N c (c.units.l.map (·.name)) o (k:=3) (n:=j) (hN:=hN) (hL:=fun K=>vB hs) (hn:=by simpa using h) (hs:=⟨by have:=d.1;omega,by have:=d.2;omega⟩)
 have i:(c.units.l.map (·.name))[j]'(by simpa using h)=c.units.l[j].name:=by simp
 rw[i] at e
 rw[AA];unfold Ov Lc Pv Rm
 rw[Hi,Ab h,ct,Int.toNat_natCast,Ax Dn _ _ h]
 generalize c.units.l[j]=b at *
 have u:Nat.ble 22 (List.length (b.av++List.flatMap UnitD.av (List.drop (j+1) c.units.l)))=true:=by rw[Bq,List.length_append,Dn];simp
 have v:List.take 22 (b.av++List.flatMap UnitD.av (List.drop (j+1) c.units.l))=b.av:=List.take_left' (Dn b)
 rw[u,ct,v,Dn]
 have m:∀ (p:C6) (K:LA→O R),Dw N [.str b.name,.int .i64 b.bus,.int .i64 b.min,.int .i64 b.max,b.segs.av 2 SegD.av,.int .i64 b.noLoad,.int .i64 b.rampUp,.int .i64 b.rampDown,.int .i64 b.startRamp,.int .i64 b.stopRamp,.int .i64 b.upTime,.int .i64 b.downTime,.int .i64 b.startTime,.int .i64 b.hotCost,.int .i64 b.coldCost,.int .i64 b.hotHours,.int .i64 b.reserve,.int .i64 b.reservePrice,b.away.av 1 ZN,.int .i64 b.state,.int .i64 b.hours,.int .i64 b.output] o j (Dp p) K=K (Dp (Am8 b j p)):=fun p K=>IK hN8 t
 simp only[Ce,e,UnitD.av,List.drop_succ_cons,List.drop_zero,List.take_succ_cons,List.take_zero,A5,Ey,Fi,Bq,IJ,decide_true,Bool.and_true,cond_true,cond_false,Nat.le_refl]
 simp only[J5 hN8 (show c.buses.l.length<4611686018427387904 by omega),Ek hN8,Af (show(3:Int)≠0 by decide),Af (show(12:Int)≠0 by decide),Af (show(16:Int)≠0 by decide),m,Wo rfl f]
 rw[←A52]
 unfold A4d
 by_cases s1:b.state=1
 ·simp[s1];rfl
 ·have a4:(b.state != 1)=true:=by simpa using s1
  rw[a4]
  cases b.state==2<;>rfl
theorem PU {N:Nat} {c:CaseD} {p:C6} {o:Bool} {j:Nat} {K:LA→O R} (hs:Small c N) (h:j<c.outs.l.length) :
  F6 N c.av o (j:Int) (Dp p) K=K (Dp (lj c j c.outs.l[j] p)):=by
 have hN:=hs.n64
 have hN8:8≤N:=by omega
 have d:=hs.out
 have e:=hs.top
 have q:c.outs.l[j] ∈ c.outs.l:=List.getElem_mem h
 have v:=hs.oli _ q;have f:=hs.omo _ q;have s:=hs.omb _ q
 have m:=@Eb R N c (c.outs.l.map (·.name)) o (k:=6) (n:=j) (hN:=hN) (hL:=fun K=>Acl hs) (hn:=by simpa using h) (hs:=⟨by have:=d.1;omega,by have:=d.2;omega⟩)
 have t:(c.outs.l.map (·.name))[j]'(by simpa using h)=c.outs.l[j].name:=by simp
 rw[t] at m
 rw[Vc];unfold La Jb M2
 rw[DY,Ab h,ct,Int.toNat_natCast,Ax Dg _ _ h]
 generalize c.outs.l[j]=b at *
 have x:Nat.ble 4 (List.length (b.av++List.flatMap OutD.av (List.drop (j+1) c.outs.l)))=true:=by rw[Bq,List.length_append,Dg];simp
 have y:List.take 4 (b.av++List.flatMap OutD.av (List.drop (j+1) c.outs.l))=b.av:=List.take_left' (Dg b)
 rw[x,ct,y,Dg]
 have l1:=fun p=>AG (R:=R) (N:=N) (c:=c) (i:=j) (u:=b) (o:=o) (p:=p) (K:=K) hN8 e.2.2.1 f s b.moves.l.length 0 N (by omega) f.1
 simp only[List.take_zero,List.map_nil,Int.natCast_zero,Ao] at l1
 simp only[IJ,decide_true,Bool.and_true,cond_true,Fb,Ce,m,oT,yV,A4c,Ek hN8,Ii rfl v,BK rfl v,F2,Af (show(4:Int)≠0 by decide),Af (show(8:Int)≠0 by decide),Af (show(11:Int)≠0 by decide),Af (show(12:Int)≠0 by decide),Af (show(16:Int)≠0 by decide),l1]
 have a1:Fj 1 2 (b.lines.l.length:Int)=((b.lines.l.length:Int)==1||(b.lines.l.length:Int)==2):=by
  unfold Fj
  by_cases x1:b.lines.l.length=1
  ·simp[x1]
  ·by_cases x2:b.lines.l.length=2
   ·simp[x2]
   ·have y1:((b.lines.l.length:Int)==1)=false:=by simp;omega
    have y2:((b.lines.l.length:Int)==2)=false:=by simp;omega
    rw[y1,y2];simp;omega
 have a2:b.lines.l.all (Fj 0 (IntKind.wrap .i64 ((c.lines.l.length:Int) - 1)))=b.lines.l.all fun n=>decide (0≤n)&&decide (n<(c.lines.l.length:Int)):=by
  congr 1;funext n;exact Axg _ _ (by omega)
 rw[a1,a2]
 unfold lj li
 cases b.corr
 ·simp
 ·simp
end
end Gx.Cf

namespace Gx.Cf
inductive Conn (es:List (Nat×Nat)):Nat→Nat→Prop
 | refl (a:Nat):Conn es a a
 | fwd {u v b:Nat}:(u,v) ∈ es→Conn es v b→Conn es u b
 | bwd {u v b:Nat}:(u,v) ∈ es→Conn es u b→Conn es v b
theorem Conn.trans {es:List (Nat×Nat)} {a b c:Nat} (i:Conn es a b) (d:Conn es b c):Conn es a c:=by
 induction i with
 | refl=>exact d
 | fwd e _ f=>exact .fwd e (f d)
 | bwd e _ f=>exact .bwd e (f d)
theorem Conn.symm {es:List (Nat×Nat)} {a b:Nat} (h:Conn es a b):Conn es b a:=by
 induction h with
 | refl=>exact .refl _
 | fwd c _ d=>exact d.trans (.bwd c (.refl _))
 | bwd c _ d=>exact d.trans (.fwd c (.refl _))
theorem Conn.mono {es fs:List (Nat×Nat)} (hs:∀ e ∈ es,e ∈ fs) {a b:Nat} (h:Conn es a b):Conn fs a b:=by
 induction h with
 | refl=>exact .refl _
 | fwd c _ d=>exact .fwd (hs _ c) d
 | bwd c _ d=>exact .bwd (hs _ c) d
def Sa (es:List (Nat×Nat)) (b:Nat):Prop:=∀ a,a<b→¬ Conn es a b
open Classical in
noncomputable def Jj (n:Nat) (es:List (Nat×Nat)):Nat:=((List.range n).filter fun b=>decide (Sa es b)).length
theorem Axi {n:Nat} {es fs:List (Nat×Nat)} (h:∀ e ∈ es,e ∈ fs):Jj n fs≤Jj n es:=by
 unfold Jj
 have:∀ (l:List Nat),(l.filter fun b=>@decide (Sa fs b) (Classical.propDecidable _)).length≤(l.filter fun b=>@decide (Sa es b) (Classical.propDecidable _)).length:=by
  intro l
  induction l with
  | nil=>simp
  | cons a r c =>
   rw[List.filter_cons,List.filter_cons]
   by_cases x:Sa fs a
   ·have:Sa es a:=fun b d f=>x b d (f.mono h)
    simp[x,this,c]
   ·by_cases y:Sa es a<;>simp[x,y]<;>omega
 exact this _
def Fs (n:Nat):List Int:=(List.range n).map fun b:Nat=>(b:Int)
structure UfOk (n:Nat) (es:List (Nat×Nat)) (st:List Int×Int):Prop where
 len:st.1.length=n
 iff:∀ a b,a<n→b<n→(st.1.getD a 0=st.1.getD b 0↔Conn es a b)
 cnt:st.2=(Jj n es:Int)
theorem gB {n a:Nat} (h:a<n):(Fs n).getD a 0=(a:Int):=by
 rw[List.getD_eq_getElem?_getD,Fs,List.getElem?_map,List.getElem?_range h];rfl
structure LeastOk (n:Nat) (es:List (Nat×Nat)) (L:List Int):Prop where
 len:L.length=n
 low:∀ b,b<n→0≤L.getD b 0∧L.getD b 0≤b
 con:∀ b,b<n→Conn es (L.getD b 0).toNat b
def A0b (es:List (Nat×Nat)) (L:List Int):Prop:=∀ e ∈ es,L.getD e.1 0=L.getD e.2 0
def A53 (L:List Int):Nat:=((List.range L.length).filter fun b=>L.getD b 0==(b:Int)).length
theorem vC {n:Nat} {es:List (Nat×Nat)} {L:List Int} (h:LeastOk n es L) (j:A0b es L) (k:∀ e ∈ es,e.1<n∧e.2<n):A53 L=Jj n es:=by
 unfold A53 Jj
 rw[h.len]
 congr 1
 apply List.filter_congr
 intro b d
 have d:b<n:=by simpa using d
 have conn_eq:∀ a b,Conn es a b→L.getD a 0=L.getD b 0:=by
  intro a b f
  induction f with
  | refl=>rfl
  | fwd c _ i=>exact(j _ c).trans i
  | bwd c _ i=>exact(j _ c).symm.trans i
 have l:=h.low b d
 by_cases x:L.getD b 0=(b:Int)
 ·have:Sa es b:=fun a m f=>by
   have e:=conn_eq a b f
   have:=(h.low a (by omega)).2
   omega
  have x':(L.getD b 0==(b:Int))=true:=by simpa using x
  rw[x'];simp[this]
 ·have x':(L.getD b 0==(b:Int))=false:=by simpa using x
  have:¬ Sa es b:=fun c=>c (L.getD b 0).toNat (by omega) (h.con b d)
  rw[x'];simp[this]
end Gx.Cf

namespace Gx.Cf
open Go Go.Proofs
section
variable {R:Type}
theorem TM {l:List Int} {j:Nat} (h:j<l.length):l.getD j 0=l[j]:=by rw[List.getD_eq_getElem?_getD,List.getElem?_eq_getElem h];rfl
theorem Uc {x:Int} {n:Nat} (h0:0≤x) (b:x.toNat<n):Ae x n=true:=by simp[Ae];omega
theorem Acm {l:List Int} {x:Int} (h:x.toNat<l.length) {f:Int→O R}:As .i64 (List.drop (0+((Int.toNat x)*1)) (Ao l)) f=f (l.getD x.toNat 0):=by
 rw[Nat.zero_add,Nat.mul_one,m_ h,TM h]
theorem AH (l:List Int) (j:Nat) (v:Int):List.set (Ao l) j (.int .i64 v)=Ao (l.set j v):=by simp[Ao,List.map_set]
theorem TN {l:List Int} {x:Nat} (h:x<l.length):((Nat.beq 1 1)&&((Nat.ble ((0+(x*1))+1) (List.length (Ao l)))&&(!false)))=true:=by
 rw[IJ,Bq,Es];simp;omega
def Fc (c:CaseD) (l:Int):Nat×Nat:=match c.lines.l[l.toNat]? with
 | some x=>(x.fr.toNat,x.tl.toNat)
 | none=>(0,0)
structure LnV (c:CaseD) (l:Int) (x:LineD):Prop where
 l0:0≤l
 lt:l.toNat<c.lines.l.length
 at':c.lines.l[l.toNat]?=some x
 f0:0≤x.fr
 f1:x.fr.toNat<c.buses.l.length
 t0:0≤x.tl
 t1:x.tl.toNat<c.buses.l.length
theorem gC {c:CaseD} {l:Int} {x:LineD} (h:LnV c l x):Fc c l=(x.fr.toNat,x.tl.toNat):=by unfold Fc;rw[h.at']
theorem A4e {c:CaseD} {l:Int} {x:LineD} (h:LnV c l x) {f:Int→O R}:As .i64 (List.drop 1 (List.drop ((Int.toNat l)*12) (c.lines.l.flatMap LineD.av))) f=f x.fr:=by
 have e:c.lines.l[l.toNat]'h.lt=x:=by have:=h.at';rw[List.getElem?_eq_getElem h.lt] at this;simpa using this
 rw[Ax Cd _ _ h.lt,e];simp[LineD.av,A5]
theorem A4f {c:CaseD} {l:Int} {x:LineD} (h:LnV c l x) {f:Int→O R}:As .i64 (List.drop 2 (List.drop ((Int.toNat l)*12) (c.lines.l.flatMap LineD.av))) f=f x.tl:=by
 have e:c.lines.l[l.toNat]'h.lt=x:=by have:=h.at';rw[List.getElem?_eq_getElem h.lt] at this;simpa using this
 rw[Ax Cd _ _ h.lt,e];simp[LineD.av,A5]
theorem ln {L:List Int} {n j:Nat} (c:L.length=n) (h:j<n):((Fs n).take j++L.drop j).set j (j:Int)=(Fs n).take (j+1)++L.drop (j+1):=by
 have hi:(Fs n).length=n:=by simp[Fs]
 have e:(Fs n)[j]'(by omega)=(j:Int):=by simp[Fs]
 have b:j - ((Fs n).take j).length=0:=by simp[hi];omega
 rw[List.set_append_right _ _ (by simp;omega),b,List.take_succ_eq_append_getElem (by omega),B7 (l:=L) (by omega),e,List.set_cons_zero,List.append_assoc];rfl
end
end Gx.Cf

namespace Gx.Cf
open Go Go.Proofs
section
variable {R:Type}
def dH (h:Int):List LineD→Nat→List Int
 | [],_=>[]
 | x::r,j=>cond (x.away.l.contains h) (dH h r (j+1)) ((j:Int)::dH h r (j+1))
theorem HM (h:Int):∀ (l:List LineD) (j:Nat),(dH h l j).length≤l.length
 | [],_=>by simp[dH]
 | x::r,j=>by rw[dH];have:=HM h r (j+1);cases x.away.l.contains h<;>simp<;>omega
theorem Asm (h:Int):∀ (l:List LineD) (j:Nat) (a:Int),a ∈ dH h l j→(j:Int)≤a∧a<j+l.length
 | [],_,_,b=>by simp[dH] at b
 | x::r,j,a,b=>by
  rw[dH] at b
  have c:=Asm h r (j+1) a
  cases d:x.away.l.contains h<;>rw[d] at b<;>simp at b
  ·rcases b with rfl | b
   ·simp;omega
   ·have:=c b;simp at this ⊢;omega
  ·have:=c b;simp at this ⊢;omega
def A6 (c:CaseD) (h:Int):List Int:=dH h c.lines.l 0
theorem yW {A B:List Int} {n:Nat} (h:n=A.length):(List.take (n*1) (Ao A))++Ao B=Ao (A++B):=by
 rw[Nat.mul_one,List.take_of_length_le (by simp[Es,h]),aU]
theorem dI {N:Nat} {c:CaseD} {h:Int} {o:Bool} {K:Nat→LA→O R} (hs:Small c N):∀ (m j fuel:Nat) (A:List Int),j+m=c.lines.l.length→m<fuel→A.length≤j →
  F7 N K h o c.av fuel A.length (j:Int) (Ao A)=K (A++dH h (c.lines.l.drop j) j).length (Ao (A++dH h (c.lines.l.drop j) j))
 | 0,j,fuel+1,A,n,_,_=>by
  rw[F7];unfold Oq
  rw[F2,Iz (by omega),cf,C1 (l:=c.lines.l) (by omega),dH,List.append_nil]
 | m+1,j,fuel+1,A,n,x,hA=>by
  rw[F7];unfold Oq
  have d:j<c.lines.l.length:=by omega
  have k:=hs.top.2.1
  have q:c.lines.l[j] ∈ c.lines.l:=List.getElem_mem d
  have s:=hs.law _ q
  simp only[F2]
  rw[Hh d,ct,Ab d,ct,Int.toNat_natCast,Ax Cd _ _ d,B7 (l:=c.lines.l) d,dH]
  have e:=dI (N:=N) (c:=c) (h:=h) (o:=o) (K:=K) hs m (j+1) fuel (A++[(j:Int)]) (by omega) (by omega) (by simp;omega)
  have i:=dI (N:=N) (c:=c) (h:=h) (o:=o) (K:=K) hs m (j+1) fuel A (by omega) (by omega) (by omega)
  generalize c.lines.l[j]=b at *
  have t:(Nat.ble (A.length+1) 140737488355328&&Nat.ble ((A.length+1)*8) 140737488355328)=true:=by rw[Bq,Bq];simp;omega
  have u:∀ (r:LA) (f:LA→Nat→O R),B4 1 (List.drop 11 (b.av++r)) f=f (Ao b.away.l) b.away.l.length:=fun r f=>by simp[LineD.av,Ey,Fi]
  have v:List.take (A.length*1) (Ao A)++[.int .i64 (j:Int)]=Ao (A++[(j:Int)]):=yW (B:=[(j:Int)]) rfl
  rw[u,TD rfl s,t,ct,v,Bp (by omega)]
  cases b.away.l.contains h with
  | true=>simp only[Bool.not_true,cond_false,cond_true];exact i
  | false =>
   simp only[Bool.not_false,cond_true,cond_false]
   rw[List.length_append] at e
   simpa using e
theorem Asn {N:Nat} {c:CaseD} {h:Int} {o:Bool} {K:Nat→LA→O R} (hs:Small c N):N5 N c.av o h K=K (A6 c h).length (Ao (A6 c h)):=by
 rw[KE];unfold Ve
 have:=dI (R:=R) (N:=N) (c:=c) (h:=h) (o:=o) (K:=K) hs c.lines.l.length 0 N [] (by omega) hs.lin.1 (by simp)
 simpa[A6,Ao] using this
def Bz (e:Nat×Nat):LA:=[.int .i64 (e.1:Int),.int .i64 (e.2:Int)]
theorem Vj (e:Nat×Nat):(Bz e).length=2:=rfl
theorem gD (es:List (Nat×Nat)):(es.flatMap Bz).length=es.length*2:=by
 induction es with
 | nil=>rfl
 | cons e r b=>rw[List.flatMap_cons,List.length_append,b,Vj];simp;omega
theorem Acn {N:Nat} {c:CaseD} {o:Bool} {ls:List Int} {K:Nat→Nat→LA→LA→O R} (e:ls.length≤1000000) (d:∀ l ∈ ls,∃ x,LnV c l x):∀ (m j fuel:Nat),j+m=ls.length→m<fuel →
  M3 N K ls.length o c.av (Ao ls) fuel j (ls.length:Int) (j:Int) (((ls.take j).map (Fc c)).flatMap Bz)=K ls.length ls.length ((ls.map (Fc c)).flatMap Bz) (Ao ls)
 | 0,j,fuel+1,f,_=>by
  rw[M3];unfold Yt
  have:j=ls.length:=by omega
  rw[Iz (by omega),cf,List.take_of_length_le (by omega),this]
 | m+1,j,fuel+1,f,n=>by
  rw[M3];unfold Yt
  have h:j<ls.length:=by omega
  obtain⟨x,b⟩:=d ls[j] (List.getElem_mem h)
  have i:(Nat.ble (j+1) 140737488355328&&Nat.ble ((j+1)*16) 140737488355328)=true:=by rw[Bq,Bq];simp;omega
  have k:List.take (j*2) (((ls.take j).map (Fc c)).flatMap Bz)++[.int .i64 x.fr,.int .i64 x.tl]=((ls.take (j+1)).map (Fc c)).flatMap Bz:=by
   rw[List.take_of_length_le (by rw[gD];simp;omega),List.take_succ_eq_append_getElem h,List.map_append,List.flatMap_append]
   simp only[List.map_cons,List.map_nil,gC b,List.flatMap_cons,List.flatMap_nil,List.append_nil,Bz]
   have:=b.f0;have:=b.t0
   rw[Int.toNat_of_nonneg b.f0,Int.toNat_of_nonneg b.t0]
  rw[Hh h,ct,Ab h,ct,Acm (by simpa using h),Int.toNat_natCast,TM h]
  simp only[F2,A4e b,A4f b]
  rw[Uc b.l0 b.lt,ct,ct,i,ct,k,Bp (by omega),Acn e d m (j+1) fuel (by omega) (by omega)]
theorem Axj {N:Nat} {c:CaseD} {h:Int} {o:Bool} {K:Nat→Nat→LA→LA→O R} (hs:Small c N) (e:∀ l ∈ A6 c h,∃ x,LnV c l x) :
  FH N c.av o h K=K (A6 c h).length (A6 c h).length (((A6 c h).map (Fc c)).flatMap Bz) (Ao (A6 c h)):=by
 rw[jV];unfold TA
 have f:=HM h c.lines.l 0
 have b:=hs.top.2.1
 have d:=hs.lin.1
 have:=Acn (R:=R) (N:=N) (c:=c) (o:=o) (ls:=A6 c h) (K:=K) (by unfold A6;omega) e (A6 c h).length 0 N (by omega) (by unfold A6;omega)
 rw[Fb,ct,Ce,Asn hs]
 simpa using this
def Ga (st:Bool×List Int) (e:Nat×Nat):Bool×List Int :=
 let m:=L5 (st.2.getD e.1 0) (st.2.getD e.2 0)
 ((st.1||(st.2.getD e.1 0 != m))||(st.2.getD e.2 0 != m),(st.2.set e.1 m).set e.2 m)
theorem vD {N:Nat} {es:List (Nat×Nat)} {n:Nat} {t o:Bool} {K1:Bool→LA→O R} {K:Nat→LA→O R} (hs:es.length<4611686018427387904) (i:∀ e ∈ es,e.1<n∧e.2<n):∀ (m j fuel:Nat) (st:Bool×List Int),j+m=es.length→m<fuel→st.2.length=n →
  Ix N K1 K (es.flatMap Bz) es.length t o n fuel st.1 (es.length:Int) (j:Int) (Ao st.2)=K1 ((es.drop j).foldl Ga st).1 (Ao ((es.drop j).foldl Ga st).2)
 | 0,j,fuel+1,st,k,_,_=>by
  rw[Ix];unfold S8
  rw[Iz (by omega),cf,C1 (l:=es) (by omega)];rfl
 | m+1,j,fuel+1,st,k,G,b=>by
  rw[Ix];unfold S8
  have h:j<es.length:=by omega
  obtain⟨c,d⟩:=i es[j] (List.getElem_mem h)
  have q:=vD (N:=N) (es:=es) (n:=n) (t:=t) (o:=o) (K1:=K1) (K:=K) hs i m (j+1) fuel (Ga st es[j]) (by omega) (by omega) (by simp[Ga,b])
  rw[Hh h,ct,Ab h,ct,Int.toNat_natCast,Ax Vj _ _ h,B7 (l:=es) h,List.foldl_cons,←q]
  generalize es[j]=e at *
  have s:Nat.ble 2 (List.length (Bz e++List.flatMap Bz (List.drop (j+1) es)))=true:=by rw[Bq,List.length_append,Vj];simp
  have u:List.take 2 (Bz e++List.flatMap Bz (List.drop (j+1) es))=Bz e:=List.take_left' (Vj e)
  rw[s,ct,u,Vj]
  have iu:Ae (e.1:Int) n=true:=Ab c
  have iv:Ae (e.2:Int) n=true:=Ab d
  have ru:∀ f:Int→O R,As .i64 (List.drop (0+((Int.toNat (e.1:Int))*1)) (Ao st.2)) f=f (st.2.getD e.1 0):=fun f=>by rw[Acm (by rw[b];simpa using c)];rfl
  have rv:∀ f:Int→O R,As .i64 (List.drop (0+((Int.toNat (e.2:Int))*1)) (Ao st.2)) f=f (st.2.getD e.2 0):=fun f=>by rw[Acm (by rw[b];simpa using d)];rfl
  have s1:=TN (l:=st.2) (x:=(Int.toNat (e.1:Int))) (by rw[b];simpa using c)
  have s2:∀ m:Int,((Nat.beq 1 1)&&((Nat.ble ((0+((Int.toNat (e.2:Int))*1))+1) (List.length (List.set (Ao st.2) (0+((Int.toNat (e.1:Int))*1)) (.int .i64 m))))&&(!false)))=true:=fun m=>by
   rw[AH];exact TN (by simpa[b] using d)
  have v:∀ m:Int,List.set (List.set (Ao st.2) (0+((Int.toNat (e.1:Int))*1)) (.int .i64 m)) (0+((Int.toNat (e.2:Int))*1)) (.int .i64 m)=Ao ((st.2.set e.1 m).set e.2 m):=fun m=>by
   rw[AH,AH];simp
  have y:(!o||A0 (Bz e))=true:=by simp[Bz,A0]
  have z:(Nat.beq 2 2&&(Nat.ble 2 2&&!false))=true:=rfl
  have A:setCells [(.int .i64 (0:Int)),(.int .i64 (0:Int))] 0 (Bz e)=Bz e:=rfl
  have C:∀ f:Int→O R,As .i64 (Bz e) f=f e.1:=fun f=>by simp[Bz,A5]
  have D:∀ f:Int→O R,As .i64 (List.drop 1 (Bz e)) f=f e.2:=fun f=>by simp[Bz,A5]
  simp only[y,z,A,C,D,ct,iu,iv,ru,rv,s1,s2,v,Bp (show j<4611686018427387904 by omega)]
  unfold Ga
  cases st.1
  ·cases F:(st.2.getD e.1 0 != L5 (st.2.getD e.1 0) (st.2.getD e.2 0))<;>simp only[F,Bool.false_or,Bool.true_or,cond_true,cond_false,beq_self_eq_true,show(true==false)=false from rfl]
  ·simp only[Bool.true_or,cond_false,show(true==false)=false from rfl]
def lp (L:List Int):Nat:=(L.map Int.toNat).sum
theorem A0c {L:List Int} {x:Nat} {v:Int} (h:x<L.length):lp (L.set x v)+(L.getD x 0).toNat=lp L+v.toNat:=by
 unfold lp
 rw[TM h]
 induction L generalizing x with
 | nil=>simp at h
 | cons a r b =>
  cases x with
  | zero=>simp;omega
  | succ x=>have:=b (x:=x) (by simpa using h);simp at this ⊢;omega
theorem Aco {L:List Int} {x y:Nat} {v:Int} (h:x<L.length):(L.set x v).getD y 0=if x=y then v else L.getD y 0:=by
 rw[List.getD_eq_getElem?_getD,List.getD_eq_getElem?_getD,List.getElem?_set]
 by_cases e:x=y
 ·subst e;simp[h]
 ·simp[e]
theorem A54 (a b:Int):L5 a b≤a∧L5 a b≤b∧(L5 a b=a∨L5 a b=b):=by
 unfold L5
 by_cases h:b<a
 ·simp[h];omega
 ·simp[h];omega
theorem A18 {n:Nat} {es:List (Nat×Nat)} {e:Nat×Nat} (t:e ∈ es) (j:e.1<n) (k:e.2<n) {b:Bool} {L:List Int} (h:LeastOk n es L) :
    LeastOk n es (Ga (b,L) e).2∧(((Ga (b,L) e).1=true∧lp (Ga (b,L) e).2<lp L)∨((Ga (b,L) e)=(b,L)∧L.getD e.1 0=L.getD e.2 0)):=by
  obtain⟨u,v⟩:=e
  simp only at j k
  obtain⟨m1,m2,m3⟩:=A54 (L.getD u 0) (L.getD v 0)
  have c:u<L.length:=by rw[h.len];exact j
  have f:v<L.length:=by rw[h.len];exact k
  have d:Conn es u v:=.fwd t (.refl _)
  have Al:∀ y,((L.set u (L5 (L.getD u 0) (L.getD v 0))).set v (L5 (L.getD u 0) (L.getD v 0))).getD y 0=if v=y then L5 (L.getD u 0) (L.getD v 0) else if u=y then L5 (L.getD u 0) (L.getD v 0) else L.getD y 0:=fun y=>by
    rw[Aco (by simpa using f),Aco c]
  have lu:=h.low u j
  have lv:=h.low v k
  refine⟨⟨by simp[Ga,h.len],fun y s=>?_,fun y s=>?_⟩,?_⟩
  · simp only[Ga,Al]
    split
    · rename_i e;subst e;omega
    · split
      · rename_i e;subst e;omega
      · exact h.low y s
  · simp only[Ga,Al]
    have cm:Conn es (L5 (L.getD u 0) (L.getD v 0)).toNat u:=by
      rcases m3 with e | e<;>rw[e]
      · exact h.con u j
      · exact(h.con v k).trans d.symm
    split
    · rename_i e;subst e;exact cm.trans d
    · split
      · rename_i e;subst e;exact cm
      · exact h.con y s
  · by_cases e1:L.getD u 0=L5 (L.getD u 0) (L.getD v 0)<;>by_cases l:L.getD v 0=L5 (L.getD u 0) (L.getD v 0)
    · right
      have q:(L.set u (L5 (L.getD u 0) (L.getD v 0))).set v (L5 (L.getD u 0) (L.getD v 0))=L:=by
        have key:∀ m:Int,L.getD u 0=m→L.getD v 0=m→(L.set u m).set v m=L:=by
          intro m z A
          have a1:L.set u m=L:=by rw[←z,TM c,List.set_getElem_self]
          have a2:L.set v m=L:=by rw[←A,TM f,List.set_getElem_self]
          rw[a1,a2]
        exact key _ e1 l
      have x1:(L.getD u 0 != L5 (L.getD u 0) (L.getD v 0))=false:=by simpa using e1
      have x2:(L.getD v 0 != L5 (L.getD u 0) (L.getD v 0))=false:=by simpa using l
      refine⟨by simp only[Ga,q,x1,x2,Bool.or_false],by rw[e1];exact l.symm⟩
    all_goals
      left
      have C:=A0c (v:=L5 (L.getD u 0) (L.getD v 0)) c
      have i:=A0c (L:=L.set u (L5 (L.getD u 0) (L.getD v 0))) (x:=v) (v:=L5 (L.getD u 0) (L.getD v 0)) (by simpa using f)
      rw[Aco c] at i
      refine⟨?_,?_⟩
      · first
          | (have x2 : (L.getD v 0 != L5 (L.getD u 0) (L.getD v 0)) = true := by simpa using l
             simp only[Ga,x2,Bool.or_true])
          | (have x1 : (L.getD u 0 != L5 (L.getD u 0) (L.getD v 0)) = true := by simpa using e1
             simp only[Ga,x1,Bool.or_true,Bool.true_or])
      · simp only[Ga]
        split at i
        · rename_i e;subst e;omega
        · omega
theorem Am9 {n:Nat} {es:List (Nat×Nat)} (d:∀ e ∈ es,e.1<n∧e.2<n):∀ (fs:List (Nat×Nat)) (b:Bool) (L:List Int),(∀ e ∈ fs,e ∈ es)→LeastOk n es L →
  LeastOk n es (fs.foldl Ga (b,L)).2∧(((fs.foldl Ga (b,L)).1=true∧(lp (fs.foldl Ga (b,L)).2<lp L∨(b=true∧lp (fs.foldl Ga (b,L)).2≤lp L)))∨((fs.foldl Ga (b,L))=(b,L)∧A0b fs L))
 | [],b,L,_,h=>⟨h,.inr ⟨rfl,fun e d=>by simp at d⟩⟩
 | e::r,b,L,k,h=>by
  have l:=k e (by simp)
  obtain⟨t,u⟩:=A18 l (d e l).1 (d e l).2 (b:=b) h
  rw[List.foldl_cons]
  rcases u with⟨m,q⟩ | ⟨m,q⟩
  ·have v:Ga (b,L) e=(true,(Ga (b,L) e).2):=by rw[←m]
   rw[v]
   obtain⟨s,f⟩:=Am9 d r true (Ga (b,L) e).2 (fun x c=>k x (List.mem_cons_of_mem _ c)) t
   refine⟨s,.inl ?_⟩
   rcases f with⟨i,j⟩ | ⟨i,_⟩
   ·exact⟨i,.inl (by rcases j with j | ⟨_,j⟩<;>omega)⟩
   ·rw[i];exact⟨rfl,.inl q⟩
  ·rw[m]
   obtain⟨s,f⟩:=Am9 d r b L (fun x c=>k x (List.mem_cons_of_mem _ c)) h
   refine⟨s,?_⟩
   rcases f with f | ⟨i,j⟩
   ·exact .inl f
   ·refine .inr ⟨i,fun x c=>?_⟩
    rcases List.mem_cons.1 c with rfl | c
    ·exact q
    ·exact j x c
theorem vE {N:Nat} {es:List (Nat×Nat)} {n:Nat} {t o:Bool} (hs:Fq es.length N) (c:∀ e ∈ es,e.1<n∧e.2<n):∀ (s fuel:Nat) (L:List Int),LeastOk n es L→lp L≤s→s+2<fuel →
  ∃ L',LeastOk n es L'∧A0b es L'∧∀ K:Nat→LA→O R,Dv N K (es.flatMap Bz) es.length t o n fuel true (Ao L)=K n (Ao L')
 | s,fuel+1,L,h,hL,l=>by
  obtain⟨f,i⟩:=Am9 c es false L (fun _ j=>j) h
  have step:∀ K:Nat→LA→O R,Dv N K (es.flatMap Bz) es.length t o n (fuel+1) true (Ao L)=Dv N K (es.flatMap Bz) es.length t o n fuel (es.foldl Ga (false,L)).1 (Ao (es.foldl Ga (false,L)).2):=fun K=>by
   rw[Dv];unfold Ta
   have:=vD (R:=R) (N:=N) (es:=es) (n:=n) (t:=t) (o:=o) (K1:=Dv N K (es.flatMap Bz) es.length t o n fuel) (K:=K) hs.2 c es.length 0 N (false,L) (by omega) hs.1 h.len
   simpa using this
  rcases i with⟨d,b⟩ | ⟨d,b⟩
  ·have k:lp (es.foldl Ga (false,L)).2<lp L:=by
    rcases b with b | ⟨b,_⟩
    ·exact b
    ·cases b
   obtain⟨L',a1,a2,a3⟩:=vE hs c (s - 1) fuel _ f (by omega) (by omega)
   exact⟨L',a1,a2,fun K=>by rw[step,d];exact a3 K⟩
  ·refine⟨L,h,b,fun K=>?_⟩
   rw[step,d]
   rcases fuel with _ | fuel
   ·omega
   ·rw[Dv];unfold Ta;rfl
 termination_by s=>s
 decreasing_by omega
theorem vF {N:Nat} {es:List (Nat×Nat)} {n:Nat} {t o:Bool} {K:Nat→LA→O R} (hn:n<4611686018427387904) (L:List Int) (hL:L.length=n):∀ (m j fuel:Nat),j+m=n→m<fuel →
  Iy N K (n:Int) (es.flatMap Bz) es.length t o fuel n (j:Int) (Ao ((Fs n).take j++L.drop j))=Dv N K (es.flatMap Bz) es.length t o n N true (Ao (Fs n))
 | 0,j,fuel+1,c,_=>by
  rw[Iy];unfold Tb
  rw[Iz (by omega),cf,C1 (by omega),List.append_nil,List.take_of_length_le (by simp[Fs];omega)]
 | m+1,j,fuel+1,c,d=>by
  rw[Iy];unfold Tb
  have h:j<n:=by omega
  have b:((Fs n).take j++L.drop j).length=n:=by simp[Fs];omega
  rw[Hh h,ct,Ab h,ct,TN (by rw[b];simpa using h),ct,Int.toNat_natCast,Nat.zero_add,Nat.mul_one,AH,ln hL h,Bp (by omega),vF hn L hL m (j+1) fuel (by omega) (by omega)]
theorem Axk (n:Nat) (es:List (Nat×Nat)):LeastOk n es (Fs n):=by
 refine⟨by simp[Fs],fun b c=>?_,fun b c=>?_⟩
 ·rw[gB c];omega
 ·rw[gB c];exact .refl _
theorem A7f {L:List Int} {b:Nat}:(∀ x ∈ L,x.toNat≤b)→lp L≤L.length*b:=by
 unfold lp
 induction L with
 | nil=>intro _;simp
 | cons a r c =>
  intro h
  have e:=h a (by simp)
  have f:=c (fun x d=>h x (List.mem_cons_of_mem _ d))
  simp[Nat.add_mul];omega
theorem oW {N:Nat} {es:List (Nat×Nat)} {n:Nat} {t o:Bool} (hs:Fq es.length N) (hn:n≤1000) (hN:n*n+1000<N) (f:∀ e ∈ es,e.1<n∧e.2<n) :
  ∃ L,LeastOk n es L∧A0b es L∧∀ (m:Nat) (K:Nat→LA→O R),m=es.length→Po N (n:Int) (es.flatMap Bz) m t o K=K n (Ao L):=by
 have c:lp (Fs n)≤n*n:=by
  have:=A7f (L:=Fs n) (b:=n) (by
   intro x d;simp[Fs] at d;obtain⟨a,q,rfl⟩:=d;simp;omega)
  simpa[Fs] using this
 obtain⟨L,i,j,k⟩:=vE (R:=R) (N:=N) (es:=es) (n:=n) (t:=t) (o:=o) hs f (n*n) N (Fs n) (Axk n es) c (by omega)
 refine⟨L,i,j,fun m K l=>?_⟩
 subst l
 rw[XA];unfold DX
 have ok:(decide ((0:Int)≤(n:Int))&&(decide ((n:Int)≤(n:Int))&&(decide ((n:Int)≤(140737488355328:Int))&&decide (((n:Int)*((8:Nat):Int))≤(140737488355328:Int)))))=true:=by simp;omega
 have e:List.replicate n (AV.int .i64 (0:Int))=Ao (List.replicate n 0):=by simp[Ao]
 have:=vF (R:=R) (N:=N) (es:=es) (n:=n) (t:=t) (o:=o) (K:=K) (by omega) (List.replicate n 0) (by simp) n 0 N (by omega) (by omega)
 rw[ok,ct,Int.toNat_natCast,e,←k K]
 simpa using this
theorem lq {N:Nat} {L:List Int} {t o:Bool} {K:Int→O R} (hs:L.length<1000000):∀ (m j fuel:Nat) (a:Nat),j+m=L.length→m<fuel→a≤j →
  M4 N K (Ao L) L.length t o fuel (a:Int) (j:Int)=K ((a+((List.range' j m).filter fun b=>L.getD b 0==(b:Int)).length:Nat):Int)
 | 0,j,fuel+1,a,c,_,_=>by
  rw[M4];unfold Yu
  rw[Iz (by omega),cf];simp
 | m+1,j,fuel+1,a,c,d,e=>by
  rw[M4];unfold Yu
  have h:j<L.length:=by omega
  rw[Hh h,ct,Ab h,ct,Z7 h,Bp (by omega),Bp (by omega),List.range'_succ,List.filter_cons,TM h]
  cases f:L[j]==(j:Int) with
  | true =>
   rw[ct,lq hs m (j+1) fuel (a+1) (by omega) (by omega) (by omega)]
   simp;congr 1;omega
  | false =>
   rw[cf,lq hs m (j+1) fuel a (by omega) (by omega) (by omega)]
   simp
theorem Acp {N:Nat} {L:List Int} {n:Nat} {t o:Bool} {K:Int→O R} (hn:n=L.length) (hs:L.length<1000000) (hN:L.length<N):Xi N (Ao L) n t o K=K (A53 L:Int):=by
 subst hn
 rw[jX];unfold TB
 have:=lq (R:=R) (N:=N) (L:=L) (t:=t) (o:=o) (K:=K) hs L.length 0 N 0 (by omega) hN (by omega)
 simp only[Int.natCast_zero,Nat.zero_add] at this
 rw[A53,List.range_eq_range']
 exact this
def oX (gone:List Int):List (Nat×Nat)→Nat→List (Nat×Nat)
 | [],_=>[]
 | e::r,j=>cond (gone.contains (j:Int)) (oX gone r (j+1)) (e::oX gone r (j+1))
theorem Acq {N:Nat} {es:List (Nat×Nat)} {gone:List Int} {n:Nat} {t o t2 o2:Bool} {K:Bool→O R} (v:es.length≤1000) (hlN:es.length<N) (hn:n≤1000) (hN:n*n+1000<N) (b:∀ e ∈ es,e.1<n∧e.2<n) (i:Fq gone.length N):∀ (m j fuel:Nat) (A:List (Nat×Nat)),j+m=es.length→m<fuel→A.length≤j→(∀ e ∈ A,e.1<n∧e.2<n) →
  F8 N K (n:Int) (es.flatMap Bz) es.length t o (Ao gone) gone.length t2 o2 fuel A.length (j:Int) (A.flatMap Bz)=K (decide ((Jj n (A++oX gone (es.drop j) j):Int)>(Jj n es:Int)))
 | 0,j,fuel+1,A,x,_,hA,hAe=>by
  rw[F8];unfold Ot
  obtain⟨L,a1,a2,a3⟩:=oW (R:=R) (N:=N) (es:=A) (n:=n) (t:=false) (o:=true) ⟨by omega,by omega⟩ hn hN hAe
  obtain⟨L',d,k,q⟩:=oW (R:=R) (N:=N) (es:=es) (n:=n) (t:=false) (o:=o) ⟨by omega,by omega⟩ hn hN b
  have l1:=a1.len;have l2:=d.len
  rw[Iz (by omega),cf,C1 (l:=es) (by omega),oX,List.append_nil,List.take_of_length_le (by rw[gD];exact Nat.le_refl _),a3 _ _ rfl,Nat.mul_one,List.take_of_length_le (by rw[Es];omega),Acp (by omega) (by omega) (by omega),q _ _ rfl,List.take_of_length_le (by rw[Es];omega),Acp (by omega) (by omega) (by omega),vC a1 a2 hAe,vC d k b]
 | m+1,j,fuel+1,A,x,D,hA,hAe=>by
  rw[F8];unfold Ot
  have h:j<es.length:=by omega
  have c:=Acq (N:=N) (es:=es) (gone:=gone) (n:=n) (t:=t) (o:=o) (t2:=t2) (o2:=o2) (K:=K) v hlN hn hN b i m (j+1) fuel (A++[es[j]]) (by omega) (by omega) (by simp;omega) (by
   intro e s
   rcases List.mem_append.1 s with f | f
   ·exact hAe e f
   ·simp at f;subst f;exact b _ (List.getElem_mem h))
  have u:=Acq (N:=N) (es:=es) (gone:=gone) (n:=n) (t:=t) (o:=o) (t2:=t2) (o2:=o2) (K:=K) v hlN hn hN b i m (j+1) fuel A (by omega) (by omega) (by omega) hAe
  rw[Hh h,ct,TD rfl i,Ab h,ct,Int.toNat_natCast,Ax Vj _ _ h,B7 (l:=es) h,oX]
  generalize es[j]=e at *
  have d:Nat.ble 2 (List.length (Bz e++List.flatMap Bz (List.drop (j+1) es)))=true:=by rw[Bq,List.length_append,Vj];simp
  have k:List.take 2 (Bz e++List.flatMap Bz (List.drop (j+1) es))=Bz e:=List.take_left' (Vj e)
  have q:(Nat.ble (A.length+1) 140737488355328&&Nat.ble ((A.length+1)*16) 140737488355328)=true:=by rw[Bq,Bq];simp;omega
  have y:(!o||A0 (Bz e))=true:=by simp[Bz,A0]
  have z:List.take 2 (setCells [(.int .i64 (0:Int)),(.int .i64 (0:Int))] 0 (Bz e))=Bz e:=rfl
  have C:List.take (A.length*2) (A.flatMap Bz)++Bz e=(A++[e]).flatMap Bz:=by
   rw[List.take_of_length_le (by rw[gD];exact Nat.le_refl _)];simp
  rw[d,ct,k,y,ct,Vj,show(Nat.beq 2 2&&Nat.ble 2 2)=true from rfl,ct,q,ct,z,C,Bp (by omega)]
  cases gone.contains (j:Int) with
  | true=>simp only[Bool.not_true,cond_false,cond_true];exact u
  | false =>
   simp only[Bool.not_false,cond_true,cond_false]
   rw[List.length_append] at c
   simpa using c
theorem Acr {N:Nat} {es:List (Nat×Nat)} {gone:List Int} {n m m2:Nat} {t o t2 o2:Bool} {K:Bool→O R} (c:m=es.length) (b:m2=gone.length) (d:es.length≤1000) (hlN:es.length<N) (hn:n≤1000) (hN:n*n+1000<N) (f:∀ e ∈ es,e.1<n∧e.2<n) (i:Fq gone.length N) :
  N6 N (n:Int) (es.flatMap Bz) m t o (Ao gone) m2 t2 o2 K=K (decide ((Jj n (oX gone es 0):Int)>(Jj n es:Int))):=by
 subst c b
 rw[KK];unfold Vh
 have:=Acq (R:=R) (N:=N) (es:=es) (gone:=gone) (n:=n) (t:=t) (o:=o) (t2:=t2) (o2:=o2) (K:=K) d hlN hn hN f i es.length 0 N [] (by omega) hlN (by simp) (by simp)
 simpa using this
end
end Gx.Cf

namespace Gx.Cf
open Go Go.Proofs
section
variable {R:Type}
theorem Dh {p:C6} {ok:Bool} {w:Int×Int×Int} {e:{ e:Int // e≠0 }} (h:nd p ok w e=none):p=none∧ok=true:=by
 rcases p with _ | x
 ·cases ok
  ·simp[nd] at h
  ·exact⟨rfl,rfl⟩
 ·simp[nd] at h
theorem Gb {α:Type} {f:Nat→α→C6→C6} (c:∀ j a x,f j a (some x)=some x):∀ (l:List α) (j:Nat) (p:C6),Bj f l j p=none→p=none∧∀ i (h:i<l.length),f (j+i) l[i] none=none
 | [],j,p,h=>by rw[Bj] at h;exact⟨h,fun i hi=>by simp at hi⟩
 | a::r,j,p,h=>by
  rw[Bj] at h
  obtain⟨b,d⟩:=Gb c r (j+1) _ h
  have e:p=none:=by
   rcases p with _ | x
   ·rfl
   ·rw[c] at b;cases b
  subst e
  refine⟨rfl,fun i hi=>?_⟩
  cases i with
  | zero=>simpa using b
  | succ i=>have:=d i (by simpa using hi);rw[show j+1+i=j+(i+1) by omega] at this;simpa using this
theorem FK {c:CaseD} (j:Nat) (x:BusD) (y:(Int×Int×Int)×{ e:Int // e≠0 }):sU c j x (some y)=some y:=rfl
theorem Tp {c:CaseD} (j:Nat) (x:LineD) (y:(Int×Int×Int)×{ e:Int // e≠0 }):CN c j x (some y)=some y:=rfl
theorem Ma {c:CaseD} (j:Nat) (x:StoreD) (y:(Int×Int×Int)×{ e:Int // e≠0 }):BL c j x (some y)=some y:=rfl
theorem Ra {c:CaseD} (j:Nat) (x:TieD) (y:(Int×Int×Int)×{ e:Int // e≠0 }):Agi c j x (some y)=some y:=rfl
theorem Pw {c:CaseD} (j:Nat) (x:UnitD) (y:(Int×Int×Int)×{ e:Int // e≠0 }):HG c j x (some y)=some y:=by
 show cond (x.state==2) _ _=_
 cases x.state==2<;>rfl
def HN (c:CaseD):C6 :=
 let p:=dC c none
 let p:=Bj (sU c) c.buses.l 0 p
 let p:=Bj (CN c) c.lines.l 0 p
 let p:=Bj (HG c) c.units.l 0 p
 let p:=Bj (BL c) c.stores.l 0 p
 let p:=Bj (Agi c) c.ties.l 0 p
 Bj (lj c) c.outs.l 0 p
noncomputable def A4g (c:CaseD) (h:Int) (o:OutD):Bool :=
 (Jj c.buses.l.length (((A6 c h).filter fun l=>!o.lines.l.contains l).map (Fc c)):Int)==(Jj c.buses.l.length ((A6 c h).map (Fc c)):Int)
noncomputable def Aso (c:CaseD) (h:Int) (j:Nat) (o:OutD) (p:C6):C6:=nd p (A4g c h o) (6,j,h) A9s
noncomputable def M5 (c:CaseD):Nat→Nat→C6→C6
 | 0,_,p=>p
 | m+1,j,p=>M5 c m (j+1) (Bj (Aso c j) c.outs.l 0 p)
theorem A19 {c:CaseD} {h:Int} (j:Nat) (x:OutD) (y:(Int×Int×Int)×{ e:Int // e≠0 }):Aso c h j x (some y)=some y:=rfl
theorem vG {c:CaseD} {y:(Int×Int×Int)×{ e:Int // e≠0 }}:∀ (m j:Nat),M5 c m j (some y)=some y
 | 0,_=>rfl
 | m+1,j=>by rw[M5,Bf (fun j a=>A19 j a y)];exact vG m (j+1)
noncomputable def Ca (c:CaseD):C6:=match HN c with
 | some x=>some x
 | none=>M5 c c.hours.toNat 0 none
structure PreV (c:CaseD):Prop where
 hours:1≤c.hours∧c.hours≤24
 nb:c.buses.l.length≤32
 nl:c.lines.l.length≤64
 no:c.outs.l.length≤64
 line:∀ x ∈ c.lines.l,0≤x.fr∧x.fr.toNat<c.buses.l.length∧0≤x.tl∧x.tl.toNat<c.buses.l.length
 out:∀ x ∈ c.outs.l,x.lines.l.length≤2
theorem gE {c:CaseD} (h:HN c=none):PreV c:=by
 unfold HN at h
 obtain⟨n,o6⟩:=Gb (fun _ _ _=>Lr) _ _ _ h
 obtain⟨q,o5⟩:=Gb (fun j a x=>Ra j a x) _ _ _ n
 obtain⟨s,o4⟩:=Gb (fun j a x=>Ma j a x) _ _ _ q
 obtain⟨t,o3⟩:=Gb (fun j a x=>Pw j a x) _ _ _ s
 obtain⟨u,o2⟩:=Gb (fun j a x=>Tp j a x) _ _ _ t
 obtain⟨l,o1⟩:=Gb (fun j a x=>FK j a x) _ _ _ u
 unfold dC at l
 obtain⟨v,y⟩:=Dh l
 obtain⟨z,_⟩:=Dh v
 obtain⟨A,_⟩:=Dh z
 obtain⟨C,_⟩:=Dh A
 obtain⟨w3,e⟩:=Dh C
 obtain⟨D,b⟩:=Dh w3
 obtain⟨F,_⟩:=Dh D
 obtain⟨w0,_⟩:=Dh F
 obtain⟨_,f⟩:=Dh w0
 unfold Fj at f b
 simp at f b e y
 refine⟨f,by omega,by omega,by omega,fun x k=>?_,fun x k=>?_⟩
 ·obtain⟨i,hi,rfl⟩:=List.getElem_of_mem k
  have:=o2 i hi
  unfold CN dB at this
  obtain⟨a,_⟩:=Dh this
  obtain⟨a,_⟩:=Dh a
  obtain⟨a,_⟩:=Dh a
  obtain⟨a,_⟩:=Dh a
  obtain⟨a,_⟩:=Dh a
  obtain⟨a,_⟩:=Dh a
  obtain⟨a,_⟩:=Dh a
  obtain⟨a,_⟩:=Dh a
  obtain⟨a,m⟩:=Dh a
  obtain⟨_,d⟩:=Dh a
  unfold XF at m d
  simp at m d
  omega
 ·obtain⟨i,hi,rfl⟩:=List.getElem_of_mem k
  have:=o6 i hi
  unfold lj li at this
  obtain⟨a,_⟩:=Dh this
  obtain⟨a,_⟩:=Dh a
  obtain⟨a,_⟩:=Dh a
  obtain⟨a,_⟩:=Dh a
  obtain⟨a,_⟩:=Dh a
  obtain⟨a,_⟩:=Dh a
  obtain⟨a,_⟩:=Dh a
  obtain⟨_,d⟩:=Dh a
  simp at d
  omega
theorem PreV.lnV {c:CaseD} (v:PreV c) {h:Int} {l:Int} (i:l ∈ A6 c h):∃ x,LnV c l x:=by
 have:=Asm h c.lines.l 0 l i
 have h0:0≤l:=by omega
 have f:l.toNat<c.lines.l.length:=by omega
 obtain⟨a,b,d,e⟩:=v.line _ (List.getElem_mem f)
 exact⟨c.lines.l[l.toNat],h0,f,List.getElem?_eq_getElem f,a,b,d,e⟩
def w3 (p:C6):LA:=match p with
 | none=>[.int .i64 0,.int .i64 0,.int .i64 0]
 | some ((a,b,f),_)=>[.int .i64 a,.int .i64 b,.int .i64 f]
end
end Gx.Cf

namespace Gx
open Go Go.Proofs
open IntKind (wrap)
set_option maxRecDepth 100000
noncomputable section
variable {R:Type} (N:Nat)
def Vk (k0:Int→LA→O R) (r0:LA→Int→O R) (c:Bool) (b:LA) (w:Int) (al:LA):O R :=
 (cond (Nat.ble 8 (b.length)) (Co N (b.take 8) c 1 w al (fun am=>(cond (Nat.ble 8 (b.length)) (B4 3 (b.drop 2) fun an ao=>(cond (Ae w ao) (B4 1 ((an.drop ((w.toNat)*3)).drop 1) fun ap aq=>(Cy N (b.take 8) c ap aq false c 0 1048576 1 w 1 am (fun ar=>(B4 3 (b.drop 2) fun au av=>(cond (Ae w av) (As .i64 ((au.drop ((w.toNat)*3)).drop 2) fun aw=>(Ap N 0 1048576 [(.int .i64 aw)] 1 false true (fun ax=>(Aa N ax 1 w 2 3 ar (fun ay=>(k0 (wrap .i64 (w+1)) ay)))))) none))))) none)) none))) none)
def Vl (k7:Int→LA→O R) (k9:Int→Int→LA→O R) (r0:LA→Int→O R) (e f:Nat) (c:Bool) (b g i:LA) (k10:Int→Int→Nat→Int→LA→LA→O R) (v p:Int) (m:Nat) (q:Int) (x y:LA):O R :=
 (cond (decide (q<((f:Nat):Int))) (B4 4 (b.drop 7) fun az ba=>(cond (Ae p ba) (B4 1 ((az.drop ((p.toNat)*4)).drop 1) fun bb bc=>(cond (Ae q f) (As .i64 (i.drop (0+((q.toNat)*1))) fun bd=>(KD N bb bc false c bd (fun be=>(cond be (cond ((Nat.ble (m+1) 140737488355328)&&(Nat.ble ((m+1)*8) 140737488355328)) (k10 v p (m+1) (wrap .i64 (q+1)) x ((y.take (m*1))++[(.int .i64 q)])) none) (k10 v p m (wrap .i64 (q+1)) x y))))) none)) none)) (B4 3 (b.drop 2) fun ci bf=>(N6 N ((bf:Nat):Int) (g.take (e*2)) e false true (y.take (m*1)) m false true (fun bg=>(Aa N (!bg) 6 p v 13 x (fun bh=>(k9 v (wrap .i64 (p+1)) bh)))))))
def Kv (k7:Int→LA→O R) (k9:Int→Int→LA→O R) (r0:LA→Int→O R) (e f:Nat) (c:Bool) (b g i:LA):Nat→Int→Int→Nat→Int→LA→LA→O R
 | 0,_,_,_,_,_,_=>none
 | n+1,v,p,m,q,x,y=>(Vl N k7 k9 r0 e f c b g i (Kv k7 k9 r0 e f c b g i n) v p m q x y)
def Yv (N:Nat) (k7:Int→LA→O R) (r0:LA→Int→O R) (e f:Nat) (c:Bool) (b g i:LA) (k9:Int→Int→LA→O R) (q10:Int→Int→Nat→Int→LA→LA→O R) (r s:Int) (t:LA):O R :=
 (B4 4 (b.drop 7) fun cj bi=>(cond (decide (s<((bi:Nat):Int))) (q10 r s 0 0 t []) (k7 (wrap .i64 (r+1)) t)))
def J7 (k7:Int→LA→O R) (r0:LA→Int→O R) (e f:Nat) (c:Bool) (b g i:LA):Nat→Int→Int→LA→O R
 | 0,_,_,_=>none
 | n+1,r,s,t=>(Yv N k7 r0 e f c b g i (J7 k7 r0 e f c b g i n) (fun v p m q x y=>(Kv N k7 (J7 k7 r0 e f c b g i n) r0 e f c b g i N v p m q x y)) r s t)
def MQ (k7:Int→LA→O R) (r0:LA→Int→O R) (c:Bool) (b:LA) (q9:Nat→Nat→LA→LA→Int→Int→LA→O R) (aj:Int) (ak:LA):O R :=
 (cond (Nat.ble 8 (b.length)) (FH N (b.take 8) c aj (fun e f g i=>(q9 e f g i aj 0 ak))) none)
def DZ (k7:Int→LA→O R) (r0:LA→Int→O R) (c:Bool) (b:LA) (aj:Int) (ak:LA):O R:=(MQ N k7 r0 c b (fun e f g i r s t=>(J7 N k7 r0 e f c b g i N r s t)) aj ak)
def Sb (N:Nat) (r0:LA→Int→O R) (c:Bool) (b:LA) (k7:Int→LA→O R) (q8:Int→LA→O R) (l:Int) (d:LA):O R :=
 (As .i64 b fun bj=>(cond ((decide (l<bj))==true) (As .i64 (d.drop 3) fun bk=>(cond (cond true (bk==0) false) (q8 l d) (cond (Nat.ble 3 (d.length)) (As .i64 (d.drop 3) fun bl=>(cond ((Nat.beq ((d.take 3).length) 3)&&((Nat.ble 3 3)&&(!false))) (cond (Nat.ble 3 ((setCells [(.int .i64 0),(.int .i64 0),(.int .i64 0)] 0 (d.take 3)).length)) (r0 ((setCells [(.int .i64 0),(.int .i64 0),(.int .i64 0)] 0 (d.take 3)).take 3) bl) none) none)) none))) (cond (Nat.ble 3 (d.length)) (As .i64 (d.drop 3) fun bm=>(cond ((Nat.beq ((d.take 3).length) 3)&&((Nat.ble 3 3)&&(!false))) (cond (Nat.ble 3 ((setCells [(.int .i64 0),(.int .i64 0),(.int .i64 0)] 0 (d.take 3)).length)) (r0 ((setCells [(.int .i64 0),(.int .i64 0),(.int .i64 0)] 0 (d.take 3)).take 3) bm) none) none)) none)))
def El (r0:LA→Int→O R) (c:Bool) (b:LA):Nat→Int→LA→O R
 | 0,_,_=>none
 | n+1,l,d=>(Sb N r0 c b (El r0 c b n) (fun aj ak=>(DZ N (El r0 c b n) r0 c b aj ak)) l d)
def Yw (r0:LA→Int→O R) (c:Bool) (b:LA) (k6:Int→LA→O R) (q7:Int→LA→O R) (ae:Int) (z:LA):O R :=
 (B4 4 (b.drop 7) fun ck bn=>(cond ((decide (ae<((bn:Nat):Int)))==true) (As .i64 (z.drop 3) fun bo=>(cond (cond true (bo==0) false) (cond (Nat.ble 8 (b.length)) (F6 N (b.take 8) c ae z (fun bp=>(k6 (wrap .i64 (ae+1)) bp))) none) (q7 0 z))) (q7 0 z)))
def M6 (r0:LA→Int→O R) (c:Bool) (b:LA):Nat→Int→LA→O R
 | 0,_,_=>none
 | n+1,ae,z=>(Yw N r0 c b (M6 r0 c b n) (fun l d=>(El N r0 c b N l d)) ae z)
def Yx (r0:LA→Int→O R) (c:Bool) (b:LA) (k5:Int→LA→O R) (q6:Int→LA→O R) (af:Int) (aa:LA):O R :=
 (B4 5 (b.drop 6) fun cl bq=>(cond ((decide (af<((bq:Nat):Int)))==true) (As .i64 (aa.drop 3) fun br=>(cond (cond true (br==0) false) (cond (Nat.ble 8 (b.length)) (Nq N (b.take 8) c af aa (fun bs=>(k5 (wrap .i64 (af+1)) bs))) none) (q6 0 aa))) (q6 0 aa)))
def M7 (r0:LA→Int→O R) (c:Bool) (b:LA):Nat→Int→LA→O R
 | 0,_,_=>none
 | n+1,af,aa=>(Yx N r0 c b (M7 r0 c b n) (fun ae z=>(M6 N r0 c b N ae z)) af aa)
def Yy (r0:LA→Int→O R) (c:Bool) (b:LA) (k4:Int→LA→O R) (q5:Int→LA→O R) (ag:Int) (ab:LA):O R :=
 (B4 9 (b.drop 5) fun cm bt=>(cond ((decide (ag<((bt:Nat):Int)))==true) (As .i64 (ab.drop 3) fun bu=>(cond (cond true (bu==0) false) (cond (Nat.ble 8 (b.length)) (J6 N (b.take 8) c ag ab (fun bv=>(k4 (wrap .i64 (ag+1)) bv))) none) (q5 0 ab))) (q5 0 ab)))
def M8 (r0:LA→Int→O R) (c:Bool) (b:LA):Nat→Int→LA→O R
 | 0,_,_=>none
 | n+1,ag,ab=>(Yy N r0 c b (M8 r0 c b n) (fun af aa=>(M7 N r0 c b N af aa)) ag ab)
def Yz (r0:LA→Int→O R) (c:Bool) (b:LA) (k3:Int→LA→O R) (q4:Int→LA→O R) (ah:Int) (ac:LA):O R :=
 (B4 22 (b.drop 4) fun cn bw=>(cond ((decide (ah<((bw:Nat):Int)))==true) (As .i64 (ac.drop 3) fun bx=>(cond (cond true (bx==0) false) (cond (Nat.ble 8 (b.length)) (Ik N (b.take 8) c ah ac (fun bz=>(k3 (wrap .i64 (ah+1)) bz))) none) (q4 0 ac))) (q4 0 ac)))
def M9 (r0:LA→Int→O R) (c:Bool) (b:LA):Nat→Int→LA→O R
 | 0,_,_=>none
 | n+1,ah,ac=>(Yz N r0 c b (M9 r0 c b n) (fun ag ab=>(M8 N r0 c b N ag ab)) ah ac)
def Y0 (r0:LA→Int→O R) (c:Bool) (b:LA) (k2:Int→LA→O R) (q3:Int→LA→O R) (ai:Int) (ad:LA):O R :=
 (B4 12 (b.drop 3) fun co ca=>(cond ((decide (ai<((ca:Nat):Int)))==true) (As .i64 (ad.drop 3) fun cb=>(cond (cond true (cb==0) false) (cond (Nat.ble 8 (b.length)) (Ij N (b.take 8) c ai ad (fun cc=>(k2 (wrap .i64 (ai+1)) cc))) none) (q3 0 ad))) (q3 0 ad)))
def Na (r0:LA→Int→O R) (c:Bool) (b:LA):Nat→Int→LA→O R
 | 0,_,_=>none
 | n+1,ai,ad=>(Y0 N r0 c b (Na r0 c b n) (fun ah ac=>(M9 N r0 c b N ah ac)) ai ad)
def Y1 (N:Nat) (r0:LA→Int→O R) (c:Bool) (b:LA) (k0:Int→LA→O R) (q1:Int→LA→O R) (q2:Int→LA→O R) (u:Int) (o:LA):O R :=
 (B4 3 (b.drop 2) fun cp cd=>(cond ((decide (u<((cd:Nat):Int)))==true) (As .i64 (o.drop 3) fun ce=>(cond (cond true (ce==0) false) (q1 u o) (q2 0 o))) (q2 0 o)))
def J8 (r0:LA→Int→O R) (c:Bool) (b:LA):Nat→Int→LA→O R
 | 0,_,_=>none
 | n+1,u,o=>(Y1 N r0 c b (J8 r0 c b n) (fun w al=>(Vk N (J8 r0 c b n) r0 c b w al)) (fun ai ad=>(Na N r0 c b N ai ad)) u o)
def TO (r0:LA→Int→O R) (q0:Int→LA→O R) (b:LA) (c:Bool):O R :=
 (cond (Nat.ble 8 (b.length)) (Gz N (b.take 8) c [(.int .i64 0),(.int .i64 0),(.int .i64 0),(.int .i64 0)] (fun cf=>(q0 0 cf))) none)
def FL:=(Ah (fun (N:Nat) (b:LA) (c:Bool) (r0:LA→Int→O R)=>(TO N r0 (fun u o=>(J8 N r0 c b N u o)) b c))).1
theorem j1 (b c r0):(@FL R N b c r0)=(TO N r0 (fun u o=>(J8 N r0 c b N u o)) b c):=by rw[FL,(Ah _).2]
def oY:Hints:={ H:=(hS hL (hS hL (hS hL (hS (hS hL (hS (hP [1,2,4,5] (hJ [1,2,4,5] hL hL)) hL)) (hS (hS hL (hS (hP [1,2,4,6] hL) hL)) (hS (hS hL (hS (hP [1,2,4,7] hL) hL)) (hS (hS hL (hS (hP [1,2,4,8] hL) hL)) (hS (hS hL (hS (hP [1,2,4,9] hL) hL)) (hS (hS hL (hS (hP [1,2,4,10] hL) hL)) (hS (hS hL (hS (hP [1,2,4,11] (hJ [1,2,4,11] hL (hS (hS (hS hL (hS hL (hS (hP [1,2,4,11,12,13,14] (hS hL (hS (hS (hS hL (hS (hS hL (hS (hP [1,2,4,11,12,13,14,15,16] hL) hL)) hL)) hL) hL))) hL))) hL) hL))) hL)) hL)))))))))),nils:=[(15,1)],modes:=[(3,0),(0,0)] }
def vH:Gm:=[(158,cS N),(159,Fl N),(160,Oe N),(162,Dt N),(161,Bv N),(163,gr N),(164,hE N),(165,dE N),(166,lk N),(167,ZU N),(168,Am0 N),(169,ld N),(170,sR N)]
def Fd (F:KF R):=Ko Tryz.f103 oY (vH N) [] N F
def Bb (F:KF R):LA→Int→O R:=(fun cg ch=>F (.tup [(.pagg cg false),(iv ch)]) [])
def Ana (c:Bool) (b:LA) (w:Int) (al:LA):St:=⟨[(1,(op 0)),(2,(op 1)),(4,(op 2)),(5,(iv w))],(hq [(bP c 0 b),(bQ 0 [(iv 0),(iv 0),(iv 0)]),(bQ 0 al)])⟩
def Anb (F:KF R) (Q0:St→O R):=Fd N F [1,1,1,0,1,0,0,1] [Q0]
def Agk (e f:Nat) (c:Bool) (b g i:LA) (v p:Int) (m:Nat) (q:Int) (x y:LA):St:=⟨[(1,(op 0)),(2,(op 1)),(4,(op 2)),(11,(iv v)),(12,(.own 300003 0 e)),(13,(.own 300004 0 f)),(14,(iv p)),(15,(.own 300005 0 m)),(16,(iv q))],(hq [(bP c 0 b),(bQ 0 [(iv 0),(iv 0),(iv 0)]),(bQ 0 x),(bQ 2 g),(bQ 1 i),(bQ 1 y)])⟩
def Agl (F:KF R) (Q7 Q9:St→O R):=Fd N F [1,1,1,1,1,1,1,1,1,0,1,0,0,1,0,0,1,1,0,0,1,0,0,1,0,1,0] [Q7,Q9]
def TP (e f:Nat) (c:Bool) (b g i:LA) (r s:Int) (t:LA):St:=⟨[(1,(op 0)),(2,(op 1)),(4,(op 2)),(11,(iv r)),(12,(.own 300003 0 e)),(13,(.own 300004 0 f)),(14,(iv s))],(hq [(bP c 0 b),(bQ 0 [(iv 0),(iv 0),(iv 0)]),(bQ 0 t),(bQ 2 g),(bQ 1 i)])⟩
def oZ (F:KF R) (Q7:St→O R):=Fd N F [1,1,1,1,1,1,1,1,1,0,1,0,0,1,0,0,1,1,0] [Q7]
def Anc (c:Bool) (b:LA) (aj:Int) (ak:LA):St:=⟨[(1,(op 0)),(2,(op 1)),(4,(op 2)),(11,(iv aj))],(hq [(bP c 0 b),(bQ 0 [(iv 0),(iv 0),(iv 0)]),(bQ 0 ak)])⟩
def And (F:KF R) (Q7:St→O R):=Fd N F [1,1,1,1,1,1,1,1,1,0,1,0,0,1] [Q7]
def J9 (c:Bool) (b:LA) (l:Int) (d:LA):St:=⟨[(1,(op 0)),(2,(op 1)),(4,(op 2)),(11,(iv l))],(hq [(bP c 0 b),(bQ 0 [(iv 0),(iv 0),(iv 0)]),(bQ 0 d)])⟩
def o7 (F:KF R):=Fd N F [1,1,1,1,1,1,1,1,1,0,1,0] []
def Ane (c:Bool) (b:LA) (ae:Int) (z:LA):St:=⟨[(1,(op 0)),(2,(op 1)),(4,(op 2)),(10,(iv ae))],(hq [(bP c 0 b),(bQ 0 [(iv 0),(iv 0),(iv 0)]),(bQ 0 z)])⟩
def Anf (F:KF R):=Fd N F [1,1,1,1,1,1,1,1,0,1,0] []
def Ang (c:Bool) (b:LA) (af:Int) (aa:LA):St:=⟨[(1,(op 0)),(2,(op 1)),(4,(op 2)),(9,(iv af))],(hq [(bP c 0 b),(bQ 0 [(iv 0),(iv 0),(iv 0)]),(bQ 0 aa)])⟩
def Anh (F:KF R):=Fd N F [1,1,1,1,1,1,1,0,1,0] []
def Ani (c:Bool) (b:LA) (ag:Int) (ab:LA):St:=⟨[(1,(op 0)),(2,(op 1)),(4,(op 2)),(8,(iv ag))],(hq [(bP c 0 b),(bQ 0 [(iv 0),(iv 0),(iv 0)]),(bQ 0 ab)])⟩
def Anj (F:KF R):=Fd N F [1,1,1,1,1,1,0,1,0] []
def Ank (c:Bool) (b:LA) (ah:Int) (ac:LA):St:=⟨[(1,(op 0)),(2,(op 1)),(4,(op 2)),(7,(iv ah))],(hq [(bP c 0 b),(bQ 0 [(iv 0),(iv 0),(iv 0)]),(bQ 0 ac)])⟩
def Anl (F:KF R):=Fd N F [1,1,1,1,1,0,1,0] []
def Anm (c:Bool) (b:LA) (ai:Int) (ad:LA):St:=⟨[(1,(op 0)),(2,(op 1)),(4,(op 2)),(6,(iv ai))],(hq [(bP c 0 b),(bQ 0 [(iv 0),(iv 0),(iv 0)]),(bQ 0 ad)])⟩
def Ann (F:KF R):=Fd N F [1,1,1,1,0,1,0] []
def o8 (c:Bool) (b:LA) (u:Int) (o:LA):St:=⟨[(1,(op 0)),(2,(op 1)),(4,(op 2)),(5,(iv u))],(hq [(bP c 0 b),(bQ 0 [(iv 0),(iv 0),(iv 0)]),(bQ 0 o)])⟩
def o_ (F:KF R):=Fd N F [1,1,1,0,1,0] []
theorem xp (Q0:St→O R) (F:KF R) (c:Bool) (b:LA):∀ (w:Int) (al:LA),B9 (Anb N F Q0) (Ana c b w al)=(Vk N (fun u o=>Q0 (o8 c b u o)) (Bb F) c b w al):=by
 intro w al
 kernel_rfl
theorem PV (Q7 Q9:St→O R) (F:KF R) (e f:Nat) (c:Bool) (b g i:LA):∀ (n:Nat) (v p:Int) (m:Nat) (q:Int) (x y:LA),Aj (Agl N F Q7 Q9) n (Agk e f c b g i v p m q x y)=(Kv N (fun l d=>Q7 (J9 c b l d)) (fun r s t=>Q9 (TP e f c b g i r s t)) (Bb F) e f c b g i n v p m q x y)
 | 0,_,_,_,_,_,_=>by kernel_rfl
 | n+1,v,p,m,q,x,y=>Eq.trans (by kernel_rfl) (Bu (Vl N (fun l d=>Q7 (J9 c b l d)) (fun r s t=>Q9 (TP e f c b g i r s t)) (Bb F) e f c b g i · v p m q x y) (funext fun v=>funext fun p=>funext fun m=>funext fun q=>funext fun x=>funext fun y=>(PV Q7 Q9 F e f c b g i n v p m q x y)):_)
theorem XI (Q7:St→O R) (F:KF R) (e f:Nat) (c:Bool) (b g i:LA):∀ (n:Nat) (r s:Int) (t:LA),Aj (oZ N F Q7) n (TP e f c b g i r s t)=(J7 N (fun l d=>Q7 (J9 c b l d)) (Bb F) e f c b g i n r s t)
 | 0,_,_,_=>by kernel_rfl
 | n+1,r,s,t=>have e0:=(funext fun r=>funext fun s=>funext fun t=>(XI Q7 F e f c b g i n r s t))
  Eq.trans (by kernel_rfl) (NY (Yv N (fun l d=>Q7 (J9 c b l d)) (Bb F) e f c b g i · · r s t) e0 (funext fun v=>funext fun p=>funext fun m=>funext fun q=>funext fun x=>funext fun y=>(Ad ..).trans ((PV N Q7 (Aj (oZ N F Q7) n) F e f c b g i N v p m q x y).trans (Bu (Kv N (fun l d=>Q7 (J9 c b l d)) · (Bb F) e f c b g i N v p m q x y) e0))):_)
theorem xq (Q7:St→O R) (F:KF R) (c:Bool) (b:LA):∀ (aj:Int) (ak:LA),B9 (And N F Q7) (Anc c b aj ak)=(DZ N (fun l d=>Q7 (J9 c b l d)) (Bb F) c b aj ak):=by
 intro aj ak
 exact Eq.trans (by kernel_rfl) (Bu (MQ N (fun l d=>Q7 (J9 c b l d)) (Bb F) c b · aj ak) (funext fun e=>funext fun f=>funext fun g=>funext fun i=>funext fun r=>funext fun s=>funext fun t=>(Ad ..).trans (XI N Q7 F e f c b g i N r s t)):_)
theorem XJ (F:KF R) (c:Bool) (b:LA):∀ (n:Nat) (l:Int) (d:LA),Aj (o7 N F) n (J9 c b l d)=(El N (Bb F) c b n l d)
 | 0,_,_=>by kernel_rfl
 | n+1,l,d=>have e0:=(funext fun l=>funext fun d=>(XJ F c b n l d))
  Eq.trans (by kernel_rfl) (NY (Sb N (Bb F) c b · · l d) e0 (funext fun aj=>funext fun ak=>(A4 ..).trans ((xq N (Aj (o7 N F) n) F c b aj ak).trans (Bu (DZ N · (Bb F) c b aj ak) e0))):_)
theorem XK (F:KF R) (c:Bool) (b:LA):∀ (n:Nat) (ae:Int) (z:LA),Aj (Anf N F) n (Ane c b ae z)=(M6 N (Bb F) c b n ae z)
 | 0,_,_=>by kernel_rfl
 | n+1,ae,z=>Eq.trans (by kernel_rfl) (NY (Yw N (Bb F) c b · · ae z) (funext fun ae=>funext fun z=>(XK F c b n ae z)) (funext fun l=>funext fun d=>(Ad ..).trans (XJ N F c b N l d)):_)
theorem XL (F:KF R) (c:Bool) (b:LA):∀ (n:Nat) (af:Int) (aa:LA),Aj (Anh N F) n (Ang c b af aa)=(M7 N (Bb F) c b n af aa)
 | 0,_,_=>by kernel_rfl
 | n+1,af,aa=>Eq.trans (by kernel_rfl) (NY (Yx N (Bb F) c b · · af aa) (funext fun af=>funext fun aa=>(XL F c b n af aa)) (funext fun ae=>funext fun z=>(Ad ..).trans (XK N F c b N ae z)):_)
theorem XM (F:KF R) (c:Bool) (b:LA):∀ (n:Nat) (ag:Int) (ab:LA),Aj (Anj N F) n (Ani c b ag ab)=(M8 N (Bb F) c b n ag ab)
 | 0,_,_=>by kernel_rfl
 | n+1,ag,ab=>Eq.trans (by kernel_rfl) (NY (Yy N (Bb F) c b · · ag ab) (funext fun ag=>funext fun ab=>(XM F c b n ag ab)) (funext fun af=>funext fun aa=>(Ad ..).trans (XL N F c b N af aa)):_)
theorem XN (F:KF R) (c:Bool) (b:LA):∀ (n:Nat) (ah:Int) (ac:LA),Aj (Anl N F) n (Ank c b ah ac)=(M9 N (Bb F) c b n ah ac)
 | 0,_,_=>by kernel_rfl
 | n+1,ah,ac=>Eq.trans (by kernel_rfl) (NY (Yz N (Bb F) c b · · ah ac) (funext fun ah=>funext fun ac=>(XN F c b n ah ac)) (funext fun ag=>funext fun ab=>(Ad ..).trans (XM N F c b N ag ab)):_)
theorem XO (F:KF R) (c:Bool) (b:LA):∀ (n:Nat) (ai:Int) (ad:LA),Aj (Ann N F) n (Anm c b ai ad)=(Na N (Bb F) c b n ai ad)
 | 0,_,_=>by kernel_rfl
 | n+1,ai,ad=>Eq.trans (by kernel_rfl) (NY (Y0 N (Bb F) c b · · ai ad) (funext fun ai=>funext fun ad=>(XO F c b n ai ad)) (funext fun ah=>funext fun ac=>(Ad ..).trans (XN N F c b N ah ac)):_)
theorem XP (F:KF R) (c:Bool) (b:LA):∀ (n:Nat) (u:Int) (o:LA),Aj (o_ N F) n (o8 c b u o)=(J8 N (Bb F) c b n u o)
 | 0,_,_=>by kernel_rfl
 | n+1,u,o=>have e0:=(funext fun u=>funext fun o=>(XP F c b n u o))
  Eq.trans (by kernel_rfl) (A8v (Y1 N (Bb F) c b · · · u o) e0 (funext fun w=>funext fun al=>(A4 ..).trans ((xp N (Aj (o_ N F) n) F c b w al).trans (Bu (Vk N · (Bb F) c b w al) e0))) (funext fun ai=>funext fun ad=>(Ad ..).trans (XO N F c b N ai ad)):_)
theorem oa (b:LA) (c:Bool) (F:KF R):C2 (vH N) oY N 103 [(.pagg b c)] [] F=(FL N b c (Bb F)):=by
 rw[j1]
 exact Eq.trans (by kernel_rfl) (Bu (TO N (Bb F) · b c) (funext fun u=>funext fun o=>(Ad ..).trans (XP N F c b N u o)):_)
def j2 (a:LA) (h:Ai) (k:KF R):O R :=
 match a,h with
 | [(.pagg b c)],[]=>(FL N b c (Bb k))
 | _,_=>none
theorem oc:Am N 103 @j2:=by
 intro R Q a h k j;unfold j2;split;exact Az (oa ..) (oa ..) ⟨cT N,Fm N,Of N,Du N,Bw N,gt N,hG N,dF N,lm N,ZV N,Am1 N,lf N,sS N,trivial⟩;exact A2
def Ano:=A1 (oc N)
def Anp:=C5 (oc N)
end
end Gx

namespace Gx.Cf
open Go Go.Proofs
section
variable {R:Type}
theorem A4h {N:Nat} {c:CaseD} {p:C6} {o:Bool} {j:Nat} {K:Int→LA→O R} {K2:LA→Int→O R} (hs:Small c N) (h:j<c.buses.l.length) :
  Vk N K K2 o c.av (j:Int) (Dp p)=K ((j+1:Nat):Int) (Dp (sU c j c.buses.l[j] p)):=by
 have hN:=hs.n64
 have hN8:8≤N:=by omega
 have d:=hs.bus
 have m:c.buses.l[j] ∈ c.buses.l:=List.getElem_mem h
 have q:=hs.dem _ m
 have e:=@Eb R N c (c.buses.l.map (·.name)) o (k:=1) (n:=j) (hN:=hN) (hL:=fun K=>Asl hs) (hn:=by simpa using h) (hs:=⟨by have:=d.1;omega,by have:=d.2;omega⟩)
 have i:(c.buses.l.map (·.name))[j]'(by simpa using h)=c.buses.l[j].name:=by simp
 rw[i] at e
 unfold Vk
 simp only[Fb,Ce,ct,e,J4]
 rw[Ab h,ct,Int.toNat_natCast,Ax Lp _ _ h]
 generalize c.buses.l[j]=b at *
 have s:∀ (r:LA) (f:LA→Nat→O R),B4 1 (List.drop 1 (b.av++r)) f=f (Ao b.demand.l) b.demand.l.length:=fun r f=>by simp[BusD.av,Ey,Fi]
 have t:∀ (r:LA) (f:Int→O R),As .i64 (List.drop 2 (b.av++r)) f=f b.shed:=fun r f=>by simp[BusD.av,A5]
 rw[s,Ev rfl q,ct,t,Ek hN8,Af (by decide),Bp (by have:=d.2;omega)]
 rfl
theorem Anq {p:C6} {K:LA→Int→O R}:(cond (Nat.ble 3 (List.length (Dp p))) (As .i64 (List.drop 3 (Dp p)) fun x38=>(cond ((Nat.beq (List.length (List.take 3 (Dp p))) 3)&&((Nat.ble 3 3)&&(!false))) (cond (Nat.ble 3 (List.length (setCells [(.int .i64 (0:Int)),(.int .i64 (0:Int)),(.int .i64 (0:Int))] 0 (List.take 3 (Dp p))))) (K (List.take 3 (setCells [(.int .i64 (0:Int)),(.int .i64 (0:Int)),(.int .i64 (0:Int))] 0 (List.take 3 (Dp p)))) x38) none) none)) none)=K (w3 p) (Bt p):=by
 rcases p with _ | ⟨⟨a,b,f⟩,e,c⟩<;>simp[Dp,N_,w3,Bt,Bq,setCells,Cx,A5]
theorem vI {N:Nat} {c:CaseD} {o:Bool} {K:LA→Int→O R} (hs:Small c N):∀ (m j fuel:Nat) (p:C6),j+m=c.buses.l.length→m<fuel →
  J8 N K o c.av fuel (j:Int) (Dp p)=Na N K o c.av N 0 (Dp (Bj (sU c) (c.buses.l.drop j) j p))
 | 0,j,fuel+1,p,d,_=>by
  rw[J8];unfold Y1
  rw[J4,Iz (by omega),C1 (l:=c.buses.l) (by omega),Bj];rfl
 | m+1,j,fuel+1,p,d,k=>by
  rw[J8];unfold Y1
  have h:j<c.buses.l.length:=by omega
  have b:=hs.bus
  rw[J4,Hh h,MP,B7 (l:=c.buses.l) h,Bj]
  rcases p with _ | ⟨x,e,f⟩
  ·simp only[Bt,beq_self_eq_true,cond_true]
   rw[A4h hs h,vI hs m (j+1) fuel _ (by omega) (by omega)]
  ·have i:(e==0)=false:=by simpa using f
   simp only[Bt,i,beq_self_eq_true,cond_true,cond_false]
   rw[FK,Bf (fun _ _=>FK _ _ _)]
theorem vJ {N:Nat} {c:CaseD} {o:Bool} {K:LA→Int→O R} (hs:Small c N):∀ (m j fuel:Nat) (p:C6),j+m=c.lines.l.length→m<fuel →
  Na N K o c.av fuel (j:Int) (Dp p)=M9 N K o c.av N 0 (Dp (Bj (CN c) (c.lines.l.drop j) j p))
 | 0,j,fuel+1,p,d,_=>by
  rw[Na];unfold Y0
  rw[F2,Iz (by omega),C1 (l:=c.lines.l) (by omega),Bj];rfl
 | m+1,j,fuel+1,p,d,k=>by
  rw[Na];unfold Y0
  have h:j<c.lines.l.length:=by omega
  have b:=hs.lin
  rw[F2,Hh h,MP,B7 (l:=c.lines.l) h,Bj]
  rcases p with _ | ⟨x,e,f⟩
  ·simp only[Bt,beq_self_eq_true,cond_true]
   rw[Fb,ct,Ce,ZX hs h,Bp (by have:=b.2;omega),vJ hs m (j+1) fuel _ (by omega) (by omega)]
  ·have i:(e==0)=false:=by simpa using f
   simp only[Bt,i,beq_self_eq_true,cond_true,cond_false]
   rw[Tp,Bf (fun _ _=>Tp _ _ _)]
theorem vK {N:Nat} {c:CaseD} {o:Bool} {K:LA→Int→O R} (hs:Small c N):∀ (m j fuel:Nat) (p:C6),j+m=c.units.l.length→m<fuel →
  M9 N K o c.av fuel (j:Int) (Dp p)=M8 N K o c.av N 0 (Dp (Bj (HG c) (c.units.l.drop j) j p))
 | 0,j,fuel+1,p,d,_=>by
  rw[M9];unfold Yz
  rw[Hi,Iz (by omega),C1 (l:=c.units.l) (by omega),Bj];rfl
 | m+1,j,fuel+1,p,d,k=>by
  rw[M9];unfold Yz
  have h:j<c.units.l.length:=by omega
  have b:=hs.uni
  rw[Hi,Hh h,MP,B7 (l:=c.units.l) h,Bj]
  rcases p with _ | ⟨x,e,f⟩
  ·simp only[Bt,beq_self_eq_true,cond_true]
   rw[Fb,ct,Ce,ZY hs h,Bp (by have:=b.2;omega),vK hs m (j+1) fuel _ (by omega) (by omega)]
  ·have i:(e==0)=false:=by simpa using f
   simp only[Bt,i,beq_self_eq_true,cond_true,cond_false]
   rw[Pw,Bf (fun _ _=>Pw _ _ _)]
theorem vL {N:Nat} {c:CaseD} {o:Bool} {K:LA→Int→O R} (hs:Small c N):∀ (m j fuel:Nat) (p:C6),j+m=c.stores.l.length→m<fuel →
  M8 N K o c.av fuel (j:Int) (Dp p)=M7 N K o c.av N 0 (Dp (Bj (BL c) (c.stores.l.drop j) j p))
 | 0,j,fuel+1,p,d,_=>by
  rw[M8];unfold Yy
  rw[FJ,Iz (by omega),C1 (l:=c.stores.l) (by omega),Bj];rfl
 | m+1,j,fuel+1,p,d,k=>by
  rw[M8];unfold Yy
  have h:j<c.stores.l.length:=by omega
  have b:=hs.sto
  rw[FJ,Hh h,MP,B7 (l:=c.stores.l) h,Bj]
  rcases p with _ | ⟨x,e,f⟩
  ·simp only[Bt,beq_self_eq_true,cond_true]
   rw[Fb,ct,Ce,TL hs h,Bp (by have:=b.2;omega),vL hs m (j+1) fuel _ (by omega) (by omega)]
  ·have i:(e==0)=false:=by simpa using f
   simp only[Bt,i,beq_self_eq_true,cond_true,cond_false]
   rw[Ma,Bf (fun _ _=>Ma _ _ _)]
theorem vM {N:Nat} {c:CaseD} {o:Bool} {K:LA→Int→O R} (hs:Small c N):∀ (m j fuel:Nat) (p:C6),j+m=c.ties.l.length→m<fuel →
  M7 N K o c.av fuel (j:Int) (Dp p)=M6 N K o c.av N 0 (Dp (Bj (Agi c) (c.ties.l.drop j) j p))
 | 0,j,fuel+1,p,d,_=>by
  rw[M7];unfold Yx
  rw[fy,Iz (by omega),C1 (l:=c.ties.l) (by omega),Bj];rfl
 | m+1,j,fuel+1,p,d,k=>by
  rw[M7];unfold Yx
  have h:j<c.ties.l.length:=by omega
  have b:=hs.tie
  rw[fy,Hh h,MP,B7 (l:=c.ties.l) h,Bj]
  rcases p with _ | ⟨x,e,f⟩
  ·simp only[Bt,beq_self_eq_true,cond_true]
   rw[Fb,ct,Ce,dG hs h,Bp (by have:=b.2;omega),vM hs m (j+1) fuel _ (by omega) (by omega)]
  ·have i:(e==0)=false:=by simpa using f
   simp only[Bt,i,beq_self_eq_true,cond_true,cond_false]
   rw[Ra,Bf (fun _ _=>Ra _ _ _)]
theorem vN {N:Nat} {c:CaseD} {o:Bool} {K:LA→Int→O R} (hs:Small c N):∀ (m j fuel:Nat) (p:C6),j+m=c.outs.l.length→m<fuel →
  M6 N K o c.av fuel (j:Int) (Dp p)=El N K o c.av N 0 (Dp (Bj (lj c) (c.outs.l.drop j) j p))
 | 0,j,fuel+1,p,d,_=>by
  rw[M6];unfold Yw
  rw[DY,Iz (by omega),C1 (l:=c.outs.l) (by omega),Bj];rfl
 | m+1,j,fuel+1,p,d,k=>by
  rw[M6];unfold Yw
  have h:j<c.outs.l.length:=by omega
  have b:=hs.out
  rw[DY,Hh h,MP,B7 (l:=c.outs.l) h,Bj]
  rcases p with _ | ⟨x,e,f⟩
  ·simp only[Bt,beq_self_eq_true,cond_true]
   rw[Fb,ct,Ce,PU hs h,Bp (by have:=b.2;omega),vN hs m (j+1) fuel _ (by omega) (by omega)]
  ·have i:(e==0)=false:=by simpa using f
   simp only[Bt,i,beq_self_eq_true,cond_true,cond_false]
   rw[Lr,Bf (fun _ _=>Lr)]
def HO (ol:List Int):List Int→Nat→List Int
 | [],_=>[]
 | a::r,j=>cond (ol.contains a) ((j:Int)::HO ol r (j+1)) (HO ol r (j+1))
theorem Asp (ol:List Int):∀ (l:List Int) (j:Nat) (x:Int),x ∈ HO ol l j→(j:Int)≤x
 | [],_,_,h=>by simp[HO] at h
 | a::r,j,x,h=>by
  rw[HO] at h
  have b:=Asp ol r (j+1) x
  cases c:ol.contains a<;>rw[c] at h<;>simp at h
  ·have:=b h;omega
  ·rcases h with rfl | h
   ·omega
   ·have:=b h;omega
theorem sV {f:Int→Nat×Nat} (ol:List Int):∀ (l:List Int) (j:Nat) (pre:List Int),(∀ x ∈ pre,x<(j:Int))→oX (pre++HO ol l j) (l.map f) j=((l.filter fun a=>!ol.contains a).map f)
 | [],_,_,_=>rfl
 | a::r,j,pre,e=>by
  rw[List.map_cons,oX,HO,List.filter_cons]
  have c:¬ (j:Int) ∈ pre:=fun h=>by have:=e _ h;omega
  cases k:ol.contains a with
  | true =>
   have i:(pre++cond true ((j:Int)::HO ol r (j+1)) (HO ol r (j+1))).contains (j:Int)=true:=by simp
   rw[i]
   have:=sV (f:=f) ol r (j+1) (pre++[(j:Int)]) (by
    intro x b
    rcases List.mem_append.1 b with d | d
    ·have:=e x d;omega
    ·simp at d;omega)
   simp only[cond_true,Bool.not_true,Bool.false_eq_true,if_false]
   rw[←this];simp
  | false =>
   have i:(pre++cond false ((j:Int)::HO ol r (j+1)) (HO ol r (j+1))).contains (j:Int)=false:=by
    simp only[cond_false]
    rw[List.contains_eq_mem]
    simp only[decide_eq_false_iff_not,List.mem_append,not_or]
    exact⟨c,fun d=>by have:=Asp ol r (j+1) _ d;omega⟩
   rw[i]
   have:=sV (f:=f) ol r (j+1) pre (by intro x b;have:=e x b;omega)
   simp only[cond_false,Bool.not_false,if_true,List.map_cons]
   rw[this]
theorem TQ {N:Nat} {c:CaseD} {o:Bool} {hr:Int} {j:Nat} {p:C6} {K7:Int→LA→O R} {K9:Int→Int→LA→O R} {K:LA→Int→O R} (hs:Small c N) (hN:4096≤N) (v:PreV c) (h:j<c.outs.l.length):∀ (m q fuel:Nat) (A:List Int),q+m=(A6 c hr).length→m<fuel→A.length≤q →
  A++HO c.outs.l[j].lines.l ((A6 c hr).drop q) q=HO c.outs.l[j].lines.l (A6 c hr) 0 →
  Kv N K7 K9 K (A6 c hr).length (A6 c hr).length o c.av (((A6 c hr).map (Fc c)).flatMap Bz) (Ao (A6 c hr)) fuel hr (j:Int) A.length (q:Int) (Dp p) (Ao A)=K9 hr ((j+1:Nat):Int) (Dp (Aso c hr j c.outs.l[j] p))
 | 0,q,fuel+1,A,hq,_,hA,b=>by
  rw[Kv];unfold Vl
  have C:=HM hr c.lines.l 0
  have D:=v.nl
  have i:=v.nb
  have k:=hs.out
  have L:c.buses.l.length*c.buses.l.length≤32*32:=Nat.mul_le_mul i i
  have n:(A6 c hr).length≤64:=by unfold A6;omega
  rw[C1 (l:=A6 c hr) (by omega),HO,List.append_nil] at b
  have u:∀ e ∈ (A6 c hr).map (Fc c),e.1<c.buses.l.length∧e.2<c.buses.l.length:=by
   intro e u
   simp only[List.mem_map] at u
   obtain⟨l,F,rfl⟩:=u
   obtain⟨x,d⟩:=v.lnV F
   rw[gC d];exact⟨d.f1,d.t1⟩
  rw[Iz (by omega),cf,J4,List.take_of_length_le (by rw[gD];simp),Nat.mul_one,List.take_of_length_le (by rw[Es];exact Nat.le_refl _),
   Acr (by simp) rfl (by simp;omega) (by simp;omega) (by omega) (by omega) u ⟨by omega,by omega⟩,Af (by decide),Bp (by have:=k.2;omega)]
  have e1:oX A ((A6 c hr).map (Fc c)) 0=(((A6 c hr).filter fun a=>!c.outs.l[j].lines.l.contains a).map (Fc c)):=by
   rw[b]
   have:=sV (f:=Fc c) c.outs.l[j].lines.l (A6 c hr) 0 [] (by simp)
   simpa using this
  rw[e1]
  have G:Jj c.buses.l.length ((A6 c hr).map (Fc c))≤Jj c.buses.l.length (((A6 c hr).filter fun a=>!c.outs.l[j].lines.l.contains a).map (Fc c)):=Axi (by
   intro e s
   simp only[List.mem_map,List.mem_filter] at s ⊢
   obtain⟨l,⟨F,_⟩,rfl⟩:=s
   exact⟨l,F,rfl⟩)
  have M:(!decide ((Jj c.buses.l.length (((A6 c hr).filter fun a=>!c.outs.l[j].lines.l.contains a).map (Fc c)):Int)>(Jj c.buses.l.length ((A6 c hr).map (Fc c)):Int)))=A4g c hr c.outs.l[j]:=by
   unfold A4g
   generalize Jj c.buses.l.length ((A6 c hr).map (Fc c))=x at *
   generalize Jj c.buses.l.length (((A6 c hr).filter fun a=>!c.outs.l[j].lines.l.contains a).map (Fc c))=y at *
   by_cases I:x=y
   ·subst I;simp
   ·have a1:((y:Int)==(x:Int))=false:=by simp;omega
    rw[a1];simp;omega
  rw[M];rfl
 | m+1,q,fuel+1,A,hq,Y,hA,b=>by
  rw[Kv];unfold Vl
  have t:q<(A6 c hr).length:=by omega
  have C:=HM hr c.lines.l 0
  have D:=v.nl
  have n:(A6 c hr).length≤64:=by unfold A6;omega
  have S:c.outs.l[j] ∈ c.outs.l:=List.getElem_mem h
  have T:=hs.oli _ S
  have U:∀ (f:LA→Nat→O R),B4 1 (List.drop 1 (List.drop (j*4) (List.flatMap OutD.av c.outs.l))) f=f (Ao c.outs.l[j].lines.l) c.outs.l[j].lines.l.length:=fun f=>by rw[Ax Dg _ _ h];simp[OutD.av,Ey,Fi]
  have V:(Nat.ble (A.length+1) 140737488355328&&Nat.ble ((A.length+1)*8) 140737488355328)=true:=by rw[Bq,Bq];simp;omega
  have X:List.take (A.length*1) (Ao A)++[.int .i64 (q:Int)]=Ao (A++[(q:Int)]):=yW (B:=[(q:Int)]) rfl
  rw[Hh t,ct,DY,Ab h,ct,Int.toNat_natCast,U,Ab t,ct,Acm (by simpa using t),Int.toNat_natCast,TM t,TD rfl T,V,ct,X,Bp (by omega)]
  rw[B7 t,HO] at b
  cases d:c.outs.l[j].lines.l.contains (A6 c hr)[q] with
  | true =>
   rw[d] at b
   have z:=TQ (o:=o) (hr:=hr) (j:=j) (p:=p) (K7:=K7) (K9:=K9) (K:=K) hs hN v h m (q+1) fuel (A++[(q:Int)]) (by omega) (by omega) (by simp;omega) (by simpa using b)
   rw[List.length_append] at z
   simpa using z
  | false =>
   rw[d] at b
   have z:=TQ (o:=o) (hr:=hr) (j:=j) (p:=p) (K7:=K7) (K9:=K9) (K:=K) hs hN v h m (q+1) fuel A (by omega) (by omega) (by omega) (by simpa using b)
   simpa using z
theorem vO {N:Nat} {c:CaseD} {o:Bool} {hr:Int} {K7:Int→LA→O R} {K:LA→Int→O R} (hs:Small c N) (hN:4096≤N) (v:PreV c):∀ (m j fuel:Nat) (p:C6),j+m=c.outs.l.length→m<fuel →
  J7 N K7 K (A6 c hr).length (A6 c hr).length o c.av (((A6 c hr).map (Fc c)).flatMap Bz) (Ao (A6 c hr)) fuel hr (j:Int) (Dp p)=K7 (IntKind.wrap .i64 (hr+1)) (Dp (Bj (Aso c hr) (c.outs.l.drop j) j p))
 | 0,j,fuel+1,p,b,_=>by
  rw[J7];unfold Yv
  rw[DY,Iz (by omega),cf,C1 (l:=c.outs.l) (by omega),Bj]
 | m+1,j,fuel+1,p,b,i=>by
  rw[J7];unfold Yv
  have h:j<c.outs.l.length:=by omega
  have d:=HM hr c.lines.l 0
  have e:=v.nl
  have f:=vO (o:=o) (hr:=hr) (K7:=K7) (K:=K) hs hN v m (j+1) fuel (Aso c hr j c.outs.l[j] p) (by omega) (by omega)
  have l10:=TQ (R:=R) (N:=N) (c:=c) (o:=o) (hr:=hr) (j:=j) (p:=p) (K7:=K7) (K9:=J7 N K7 K (A6 c hr).length (A6 c hr).length o c.av (((A6 c hr).map (Fc c)).flatMap Bz) (Ao (A6 c hr)) fuel) (K:=K) hs hN v h (A6 c hr).length 0 N [] (by omega) (by unfold A6;omega) (by simp) (by simp)
  rw[DY,Hh h,ct,B7 (l:=c.outs.l) h,Bj,←f,←l10]
  rfl
theorem vP {N H:Nat} {c:CaseD} {o:Bool} {K:LA→Int→O R} (hs:Small c N) (hN:4096≤N) (v:PreV c) (hH:c.hours=(H:Int)):∀ (m j fuel:Nat) (p:C6),j+m=H→m<fuel →
  El N K o c.av fuel (j:Int) (Dp p)=K (w3 (M5 c m j p)) (Bt (M5 c m j p))
 | 0,j,fuel+1,p,b,_=>by
  rw[El];unfold Sb
  rw[Np,hH,Iz (by omega),Anq,M5];rfl
 | m+1,j,fuel+1,p,b,k=>by
  rw[El];unfold Sb DZ MQ
  have n:=v.hours
  rw[Np,hH,Hh (by omega),MP,Anq]
  rcases p with _ | ⟨x,e,d⟩
  ·simp only[Bt,beq_self_eq_true,cond_true]
   have l9:=vO (R:=R) (N:=N) (c:=c) (o:=o) (hr:=(j:Int)) (K7:=El N K o c.av fuel) (K:=K) hs hN v c.outs.l.length 0 N none (by omega) hs.out.1
   rw[Fb,ct,Ce,Axj hs (fun l f=>v.lnV f)]
   simp only[List.drop_zero,Int.natCast_zero] at l9
   rw[l9,Bp (by omega),vP hs hN v hH m (j+1) fuel _ (by omega) (by omega)];rfl
  ·have i:(e==0)=false:=by simpa using d
   simp only[Bt,i,beq_self_eq_true,cond_true,cond_false]
   rw[vG]
theorem Asq {N:Nat} {c:CaseD} {o:Bool} {y:(Int×Int×Int)×{ e:Int // e≠0 }} {K:LA→Int→O R} {fuel:Nat}:El N K o c.av (fuel+1) 0 (Dp (some y))=K (w3 (some y)) (Bt (some y)):=by
 rw[El];unfold Sb
 rw[Np,MP,Anq]
 have b:(y.2.1==0)=false:=by simpa using y.2.2
 cases decide ((0:Int)<c.hours)<;>simp[Bt,b]
theorem Acs {N:Nat} {c:CaseD} {o:Bool} {K:LA→Int→O R} (hs:Small c N) (hN:4096≤N):FL N c.av o K=K (w3 (Ca c)) (Bt (Ca c)):=by
 rw[j1];unfold TO
 have b:[(.int .i64 (0:Int)),(.int .i64 (0:Int)),(.int .i64 (0:Int)),(.int .i64 (0:Int))]=Dp none:=rfl
 rw[Fb,ct,Ce,b,TF hs]
 have l0:=fun p=>vI (R:=R) (N:=N) (c:=c) (o:=o) (K:=K) hs c.buses.l.length 0 N p (by omega) hs.bus.1
 have l2:=fun p=>vJ (R:=R) (N:=N) (c:=c) (o:=o) (K:=K) hs c.lines.l.length 0 N p (by omega) hs.lin.1
 have l3:=fun p=>vK (R:=R) (N:=N) (c:=c) (o:=o) (K:=K) hs c.units.l.length 0 N p (by omega) hs.uni.1
 have l4:=fun p=>vL (R:=R) (N:=N) (c:=c) (o:=o) (K:=K) hs c.stores.l.length 0 N p (by omega) hs.sto.1
 have l5:=fun p=>vM (R:=R) (N:=N) (c:=c) (o:=o) (K:=K) hs c.ties.l.length 0 N p (by omega) hs.tie.1
 have l6:=fun p=>vN (R:=R) (N:=N) (c:=c) (o:=o) (K:=K) hs c.outs.l.length 0 N p (by omega) hs.out.1
 simp only[List.drop_zero,Int.natCast_zero] at l0 l2 l3 l4 l5 l6
 try dsimp only
 rw[l0,l2,l3,l4,l5,l6]
 show El N K o c.av N 0 (Dp (HN c))=_
 unfold Ca
 cases d:HN c with
 | some y =>
  rcases N with _ | N
  ·omega
  ·exact Asq
 | none =>
  have v:=gE d
  have e:=v.hours
  have:=vP (R:=R) (N:=N) (H:=c.hours.toNat) (c:=c) (o:=o) (K:=K) hs hN v (by omega) c.hours.toNat 0 N none (by omega) (by omega)
  simpa using this
end
end Gx.Cf

namespace Gx.Cf
open Go Go.Proofs
section
variable {R:Type}
theorem A7g (p:C6):(w3 p).length=3:=by rcases p with _ | ⟨⟨a,b,f⟩,e⟩<;>rfl
end
end Gx.Cf

namespace Gx.Cf
open Go Go.Proofs
section
variable {R:Type}
theorem Asr (v n:Int) (d:1≤n) (e:n≤4611686018427387904):(IntKind.wrap .u64 n==0)=false∧0≤IntKind.wrap .i64 (Int.tmod (IntKind.wrap .u64 v) (IntKind.wrap .u64 n))∧IntKind.wrap .i64 (Int.tmod (IntKind.wrap .u64 v) (IntKind.wrap .u64 n))<n:=by
 have hn:IntKind.wrap .u64 n=n:=IntWalk.u64_in _ (by omega)
 have b:0≤IntKind.wrap .u64 v:=by rw[IntKind.wrap_u64];omega
 rw[hn]
 have h0:0≤Int.tmod (IntKind.wrap .u64 v) n:=Int.tmod_nonneg _ b
 have c:Int.tmod (IntKind.wrap .u64 v) n<n:=Int.tmod_lt_of_pos _ (by omega)
 rw[wrap_i64 _ (by omega)]
 exact⟨by simp;omega,h0,c⟩
theorem nx {N:Nat} {l:List Int} {t o:Bool} (i:l.length≤9223372036854775807) (n:Int) (c:1≤n) (d:n≤4611686018427387904) (k:Nat) (e:k≤l.length) :
  ∃ (v:Int) (b:Nat),0≤v∧v<n∧b≤l.length∧∀ K:Int→Int→O R,Ac N n (Ao l) l.length t o (k:Int) K=K v (b:Int):=by
 by_cases h:k<l.length
 ·obtain⟨a1,a2,a3⟩:=Asr l[k] n c d
  refine⟨_,k+1,a2,a3,by omega,fun K=>?_⟩
  rw[Xe];unfold Yj
  have w0:IntKind.wrap .i64 ((k:Int)+1)=((k+1:Nat):Int):=by rw[wrap_i64 _ (by omega)];omega
  have f:IntKind.wrap .i64 (IntKind.wrap .i64 ((k:Int)+1) - 1)=(k:Int):=by rw[w0,wrap_i64 _ (by omega)];omega
  rw[f,w0,Ab h,ct,Z7 h,l8];unfold yU
  rw[a1,cf,show decide ((k:Int)≥(l.length:Int))=false by simp;omega,cf]
 ·refine⟨0,k,by omega,by omega,e,fun K=>?_⟩
  rw[Xe];unfold Yj
  rw[show decide ((k:Int)≥(l.length:Int))=true by simp;omega,ct]
theorem Acu {N m:Nat} {l:List Int} {t o:Bool} (e:l.length≤9223372036854775807) (n:Int) (f:1≤n) (i:n≤4611686018427387904) (s:m≤1000):∀ (r j fuel:Nat) (k:Nat) (A:List Int),j+r=m→r<fuel→k≤l.length→A.length=j →
  ∃ (B:List Int) (q:Nat),B.length=r∧(∀ x ∈ B,0≤x∧x<n)∧q≤l.length∧∀ K:Nat→Int→LA→O R,F5 N K (m:Int) n (Ao l) l.length t o fuel j (j:Int) (k:Int) (Ao A)=K m (q:Int) (Ao (A++B))
 | 0,j,fuel+1,k,A,u,_,b,hA=>by
  refine⟨[],k,rfl,by simp,b,fun K=>?_⟩
  rw[F5];unfold Om
  have:j=m:=by omega
  subst this
  rw[Iz (Nat.le_refl _),cf,List.append_nil]
 | r+1,j,fuel+1,k,A,u,S,b,hA=>by
  obtain⟨v,y,v0,v1,c,z⟩:=nx (R:=R) (N:=N) (t:=t) (o:=o) e n f i k b
  obtain⟨B,C,D,F,G,I⟩:=Acu e n f i s r (j+1) fuel y (A++[v]) (by omega) (by omega) c (by simp[hA])
  refine⟨v::B,C,by simp[D],?_,G,fun K=>?_⟩
  ·intro x d
   rcases List.mem_cons.1 d with rfl | d
   ·exact⟨v0,v1⟩
   ·exact F x d
  ·rw[F5];unfold Om
   have L:(Nat.ble (j+1) 140737488355328&&Nat.ble ((j+1)*8) 140737488355328)=true:=by rw[Bq,Bq];simp;omega
   have M:List.take (j*1) (Ao A)++[.int .i64 v]=Ao (A++[v]):=yW (B:=[v]) hA.symm
   rw[Hh (by omega),ct,z,L,ct,M,Bp (by omega),I]
   simp
theorem HP {N m:Nat} {l:List Int} {t o:Bool} (hN:1001≤N) (c:l.length≤9223372036854775807) (n:Int) (d:1≤n) (e:n≤4611686018427387904) (f:m≤1000) (k:Nat) (i:k≤l.length) :
  ∃ (B:List Int) (b:Nat),B.length=m∧(∀ x ∈ B,0≤x∧x<n)∧b≤l.length∧∀ K:Nat→Int→LA→O R,E1 N (m:Int) n (Ao l) l.length t o (k:Int) K=K m (b:Int) (Ao B):=by
 obtain⟨B,b,j,q,s,u⟩:=Acu (R:=R) (N:=N) (t:=t) (o:=o) c n d e f m 0 N k [] (by omega) (by omega) i rfl
 refine⟨B,b,j,q,s,fun K=>?_⟩
 rw[JR];unfold U7
 simpa[Ao] using u K
theorem sW {N:Nat} {l:List Int} {t o:Bool} (d:l.length≤9223372036854775807) (H:Int) (n:1≤H) (z:H≤1000) (k:Nat) (q:k≤l.length) :
  ∃ (B:List Int) (e:Nat),B.length≤1∧(∀ x ∈ B,0≤x∧x<H)∧e≤l.length∧∀ K:Nat→Int→LA→O R,Mp N H (Ao l) l.length t o (k:Int) K=K B.length (e:Int) (Ao B):=by
 obtain⟨v,f,v0,v1,b,i⟩:=nx (R:=R) (N:=N) (t:=t) (o:=o) d 6 (by omega) (by omega) k q
 by_cases j:v=5
 ·obtain⟨u,s,u0,u1,c,y⟩:=nx (R:=R) (N:=N) (t:=t) (o:=o) d H n (by omega) f b
  refine⟨[u],s,by simp,by intro x m;simp at m;subst m;exact⟨u0,u1⟩,c,fun K=>?_⟩
  rw[Xf];unfold Yk
  rw[i,y,j];rfl
 ·refine⟨[],f,by simp,by simp,b,fun K=>?_⟩
  rw[Xf];unfold Yk
  have:(v==5)=false:=by simpa using j
  rw[i,this];rfl
def A86:List UInt8:=[48,49,50,51,52,53,54,55,56,57,97,98,99,100,101,102]
theorem Ud {N:Nat} {c:UInt8} {i:Nat} (hi:i<16) {K:List UInt8→O R}:JU N [c] (i:Int) K=K [c,A86.getD i 0]:=by
 rw[ui];unfold Abx
 have e1:Int.tmod (i:Int) 16=(i:Int):=Int.tmod_eq_of_lt (by omega) (by omega)
 rw[e1,Bp (by omega)]
 have c1:(decide ((0:Int)≤(i:Int))&&(decide ((i:Int)≤((i+1:Nat):Int))&&(decide (((i+1:Nat):Int)≤(16:Int))&&decide ((16:Int)≤(16:Int)))))=true:=by simp;omega
 rw[c1,ct]
 simp only[Int.toNat_natCast,Nat.add_sub_cancel_left]
 have:List.take 1 (List.drop i ([48,49,50,51,52,53,54,55,56,57,97,98,99,100,101,102]:List UInt8))=[A86.getD i 0]:=by
  rw[B7 (by simpa using hi)]
  simp[A86,hi]
 rw[this];rfl
end
end Gx.Cf

namespace Gx.Cf
open Go Go.Proofs
section
variable {R:Type}
theorem Px {a:Int} (h:-9223372036854775808≤a∧a≤9223372036854775807):IntKind.wrap .i64 a=a:=wrap_i64 a h
theorem Fw {lo hi n:Int} (h:lo≤n∧n≤hi):Fj lo hi n=true:=by unfold Fj;simp;omega
structure LineG (i:Nat) (fr tx H:Int) (x:LineD):Prop where
 name:x.name=[108,A86.getD i 0]
 fr:x.fr=fr
 tx:x.tl=tx
 re:(Jm x.re&&decide (x.re.num>0))=true
 smin:(Jm x.smin&&decide (x.smin.num≤0))=true
 smax:(Jm x.smax&&decide (x.smax.num≥0))=true
 lim:Fj 0 1048576 x.limit=true
 em:Fj x.limit 1048576 x.emer=true
 aw:x.away.l.length≤1
 awr:∀ y ∈ x.away.l,0≤y∧y<H
theorem Ajt {f:FracD} (h:1≤f.den∧f.den≤1048576∧-1048576≤f.num∧f.num≤1048576):Jm f=true:=by unfold Jm;rw[Fw (by omega),Fw (by omega)];rfl
theorem Xk {B:List Int}:List.take (B.length*1) (Ao B)=B.flatMap ZN:=by rw[Nat.mul_one,List.take_of_length_le (by rw[Es];exact Nat.le_refl _),Fi]
theorem Aju {N:Nat} {l:List Int} {t o:Bool} (c:l.length≤9223372036854775807) {i:Nat} (hi:i<16) (fr tx:Int) {H:Int} (hH:1≤H∧H≤24) (k:Nat) (M:k≤l.length) :
  ∃ (x:LineD) (I:Nat),LineG i fr tx H x∧I≤l.length∧∀ K:LA→Int→O R,Q4 N (i:Int) fr tx H (Ao l) l.length t o (k:Int) K=K x.av (I:Int):=by
 obtain⟨y2,ky2,y20,y21,m,n⟩:=nx (R:=R) (N:=N) (t:=t) (o:=o) c 4 (by omega) (by omega) k M
 obtain⟨y4,ky4,y40,y41,q,s⟩:=nx (R:=R) (N:=N) (t:=t) (o:=o) c 2 (by omega) (by omega) ky2 m
 obtain⟨y6,ky6,y60,y61,u,v⟩:=nx (R:=R) (N:=N) (t:=t) (o:=o) c 40 (by omega) (by omega) ky4 q
 obtain⟨y8,ky8,y80,y81,y,z⟩:=nx (R:=R) (N:=N) (t:=t) (o:=o) c 20 (by omega) (by omega) ky6 u
 obtain⟨y10,ky10,y100,y101,b,d⟩:=nx (R:=R) (N:=N) (t:=t) (o:=o) c 5 (by omega) (by omega) ky8 y
 by_cases L:y10=4
 ·have e4:(y10==4)=true:=by simpa using L
  obtain⟨y12,ky12,y120,y121,e,A⟩:=nx (R:=R) (N:=N) (t:=t) (o:=o) c 4 (by omega) (by omega) ky10 b
  obtain⟨y14,ky14,y140,y141,f,C⟩:=nx (R:=R) (N:=N) (t:=t) (o:=o) c 2 (by omega) (by omega) ky12 e
  obtain⟨y16,ky16,y160,y161,j,D⟩:=nx (R:=R) (N:=N) (t:=t) (o:=o) c 4 (by omega) (by omega) ky14 f
  obtain⟨B,kB,F,G,hkB,hB⟩:=sW (R:=R) (N:=N) (t:=t) (o:=o) c H hH.1 (by omega) ky16 j
  refine⟨⟨[108,A86.getD i 0],fr,tx,⟨1+y2,1+y4⟩,⟨0 - y12,1+y14⟩,⟨y16,1⟩,4+y6,4+y6+y8,.of B false false⟩,kB,⟨rfl,rfl,rfl,?_,?_,?_,Fw (by simp only;omega),Fw (by simp only;omega),F,G⟩,hkB,fun K=>?_⟩
  ·rw[Ajt (by simp only;omega)];simp;omega
  ·rw[Ajt (by simp only;omega)];simp;omega
  ·rw[Ajt (by simp only;omega)];simp;omega
  ·rw[Xg];unfold Yl
   rw[Ud hi,n,s,v,z,d,e4,ct,A,C,D,hB,Xk,Px (a:=1+y2) (by omega),Px (a:=1+y4) (by omega),Px (a:=0 - y12) (by omega),Px (a:=1+y14) (by omega),Px (a:=4+y6) (by omega),Px (a:=4+y6+y8) (by omega)]
   rfl
 ·have e4:(y10==4)=false:=by simpa using L
  obtain⟨B,kB,F,G,hkB,hB⟩:=sW (R:=R) (N:=N) (t:=t) (o:=o) c H hH.1 (by omega) ky10 b
  refine⟨⟨[108,A86.getD i 0],fr,tx,⟨1+y2,1+y4⟩,⟨0,1⟩,⟨0,1⟩,4+y6,4+y6+y8,.of B false false⟩,kB,⟨rfl,rfl,rfl,?_,?_,?_,Fw (by simp only;omega),Fw (by simp only;omega),F,G⟩,hkB,fun K=>?_⟩
  ·rw[Ajt (by simp only;omega)];simp;omega
  ·rw[Ajt (by simp only;omega)];simp
  ·rw[Ajt (by simp only;omega)];simp
  ·rw[Xg];unfold Yl
   rw[Ud hi,n,s,v,z,d,e4,cf,hB,Xk,Px (a:=1+y2) (by omega),Px (a:=1+y4) (by omega),Px (a:=4+y6) (by omega),Px (a:=4+y6+y8) (by omega)]
   rfl
structure UnitG (i:Nat) (nb H:Int) (u:UnitD):Prop where
 name:u.name=[117,A86.getD i 0]
 bus:0≤u.bus∧u.bus<nb
 min:Fj 0 1048576 u.min=true
 max:Fj u.min 1048576 u.max=true
 sl:1≤u.segs.l.length∧u.segs.l.length≤8
 sok:u.segs.l.all uz=true
 sord:dD u.segs.l=true
 ssum:(ZW 0 u.segs.l==IntKind.wrap .i64 (u.max - u.min))=true
 noLoad:Fj 0 1048576 u.noLoad=true
 rampUp:Fj 0 1048576 u.rampUp=true
 rampDown:Fj 0 1048576 u.rampDown=true
 startRamp:Fj u.min u.max u.startRamp=true
 stopRamp:Fj u.min u.max u.stopRamp=true
 upTime:Fj 0 24 u.upTime=true
 downTime:Fj 0 24 u.downTime=true
 startTime:Fj 0 24 u.startTime=true
 hotCost:Fj 0 1048576 u.hotCost=true
 coldCost:Fj 0 1048576 u.coldCost=true
 hotHours:Fj 0 24 u.hotHours=true
 reserve:Fj 0 1048576 u.reserve=true
 reservePrice:Fj 0 1048576 u.reservePrice=true
 aw:u.away.l.length≤1
 awr:∀ y ∈ u.away.l,0≤y∧y<H
 state:Fj 0 2 u.state=true
 starting:(u.state != 1||u.startTime != 0)=true
 hours:Fj 1 48 u.hours=true
 started:(u.state != 1||decide (u.hours≤u.startTime))=true
 output:cond (u.state==2) (Fj u.min u.max u.output) (Fj 0 0 u.output)=true
theorem Ajv {s:SegD}:∀ {S:List SegD},dD S=true→(∀ x ∈ S,x.price≤s.price)→dD (S++[s])=true
 | [],_,_=>oS s
 | [a],_,h=>by
  rw[List.cons_append,List.nil_append,HF,oS]
  have:=h a (by simp);simp;omega
 | a::b::r,c,h=>by
  rw[HF] at c
  simp only[Bool.and_eq_true] at c
  rw[List.cons_append,List.cons_append,HF,c.1]
  have:=Ajv (S:=b::r) c.2 (fun x e=>h x (by rcases List.mem_cons.1 e with d | d<;>simp[d]))
  simpa using this
theorem Ajw {s:SegD}:∀ {S:List SegD} {a:Int},ZW a (S++[s])=IntKind.wrap .i64 (ZW a S+s.width)
 | [],a=>rfl
 | x::r,a=>by rw[List.cons_append,ZW,ZW];exact Ajw
theorem A55 (S:List SegD):(S.flatMap SegD.av).length=S.length*2:=by
 induction S with
 | nil=>rfl
 | cons e r b=>rw[List.flatMap_cons,List.length_append,b,Pp];simp;omega
theorem sX {S:List SegD} {n:Nat} (h:n=S.length):List.take (n*2) (S.flatMap SegD.av)=S.flatMap SegD.av:=List.take_of_length_le (by rw[A55,h];exact Nat.le_refl _)
theorem Ajx {N:Nat} {l:List Int} {t o:Bool} (b:l.length≤9223372036854775807) {i:Nat} {nb H bus mn noLoad:Int} (hb:0≤bus∧bus<nb) (hmn:0≤mn∧mn<8) (hno:0≤noLoad∧noLoad<20) (hH:1≤H∧H≤24):∀ (n fuel:Nat) (p:Int) (k:Nat) (M:Int) (S:List SegD),n<fuel→k≤l.length→S.length+n≤2→1≤S.length+n→(∀ x ∈ S,x.price≤p∧uz x=true)→dD S=true→ZW 0 S=M - mn→0≤M - mn→M - mn≤15*S.length→-10≤p→p≤20+10*S.length →
  ∃ (u:UnitD) (k':Nat),UnitG i nb H u∧k'≤l.length∧∀ K:LA→Int→O R,Fr N K H (Ao l) l.length t o [117,A86.getD i 0] bus mn noLoad fuel p (n:Int) (k:Int) M S.length (S.flatMap SegD.av)=K u.av (k':Int)
 | 0,fuel+1,p,k,M,S,_,hk,hS,hS1,hp,ho,hw,hM0,hM1,_,_=>by
  obtain⟨y16,ky16,y160,y161,j,V⟩:=nx (R:=R) (N:=N) (t:=t) (o:=o) b 20 (by omega) (by omega) k hk
  obtain⟨y18,ky18,y180,y181,m,X⟩:=nx (R:=R) (N:=N) (t:=t) (o:=o) b 20 (by omega) (by omega) ky16 j
  obtain⟨y20,ky20,y200,y201,q,Y⟩:=nx (R:=R) (N:=N) (t:=t) (o:=o) b (M - mn+1) (by omega) (by omega) ky18 m
  obtain⟨y22,ky22,y220,y221,s,hy22⟩:=nx (R:=R) (N:=N) (t:=t) (o:=o) b (M - mn+1) (by omega) (by omega) ky20 q
  obtain⟨y24,ky24,y240,y241,v,hy24⟩:=nx (R:=R) (N:=N) (t:=t) (o:=o) b 3 (by omega) (by omega) ky22 s
  obtain⟨y26,ky26,y260,y261,y,hy26⟩:=nx (R:=R) (N:=N) (t:=t) (o:=o) b 3 (by omega) (by omega) ky24 v
  obtain⟨y28,ky28,y280,y281,z,hy28⟩:=nx (R:=R) (N:=N) (t:=t) (o:=o) b 2 (by omega) (by omega) ky26 y
  obtain⟨y30,ky30,y300,y301,A,hy30⟩:=nx (R:=R) (N:=N) (t:=t) (o:=o) b 30 (by omega) (by omega) ky28 z
  obtain⟨y32,ky32,y320,y321,C,hy32⟩:=nx (R:=R) (N:=N) (t:=t) (o:=o) b 30 (by omega) (by omega) ky30 A
  obtain⟨y34,ky34,y340,y341,D,hy34⟩:=nx (R:=R) (N:=N) (t:=t) (o:=o) b 4 (by omega) (by omega) ky32 C
  obtain⟨y36,ky36,y360,y361,F,hy36⟩:=nx (R:=R) (N:=N) (t:=t) (o:=o) b 8 (by omega) (by omega) ky34 D
  obtain⟨y38,ky38,y380,y381,G,hy38⟩:=nx (R:=R) (N:=N) (t:=t) (o:=o) b 4 (by omega) (by omega) ky36 F
  obtain⟨B,kB,b1,b2,hkB,hB⟩:=sW (R:=R) (N:=N) (t:=t) (o:=o) b H hH.1 (by omega) ky38 G
  obtain⟨y43,ky43,y430,y431,I,hy43⟩:=nx (R:=R) (N:=N) (t:=t) (o:=o) b (2+y28) (by omega) (by omega) kB hkB
  obtain⟨y46,ky46,y460,y461,c,hy46⟩:=nx (R:=R) (N:=N) (t:=t) (o:=o) b 4 (by omega) (by omega) ky43 I
  have i43:Ae y43 3=true:=Uc y430 (by omega)
  obtain⟨x45,hx45,hst⟩:∃ x45:Int,(∀ f:Int→O R,As .i64 (List.drop (0+((Int.toNat y43)*1)) [(.int .i64 (0:Int)),(.int .i64 (2:Int)),(.int .i64 (1:Int))]) f=f x45)∧(x45=0∨x45=2∨(x45=1∧y28=1)):=by
   have e:[(.int .i64 (0:Int)),(.int .i64 (2:Int)),(.int .i64 (1:Int))]=Ao [0,2,1]:=rfl
   refine⟨([0,2,1]:List Int).getD y43.toNat 0,fun f=>by rw[e,Acm (by simp;omega)],?_⟩
   have:y43=0∨y43=1∨y43=2:=by omega
   rcases this with rfl | rfl | rfl
   ·left;rfl
   ·right;left;rfl
   ·right;right;exact⟨rfl,by omega⟩
  have wM:IntKind.wrap .i64 (IntKind.wrap .i64 (M - mn)+1)=M - mn+1:=by rw[Px (a:=M - mn) (by omega),Px (by omega)]
  have head:∀ K:LA→Int→O R,Fr N K H (Ao l) l.length t o [117,A86.getD i 0] bus mn noLoad (fuel+1) p ((0:Nat):Int) (k:Int) M S.length (S.flatMap SegD.av) =
    No N K (Ao l) l.length t o (ky46:Int) [117,A86.getD i 0] bus mn M S.length noLoad y16 y18 y24 y26 y28 y30 y34 y36 y38 B.length x45 (S.flatMap SegD.av) (Ao B) (mn+y20) (mn+y22) (y30+y32) (cond (x45==1) 1 (1+y46)):=fun K=>by
   rw[Fr];unfold Q5
   rw[show decide (((0:Nat):Int)>0)=false from rfl,cf,wM,V,X,Y,hy22,hy24,hy26,hy28,hy30,hy32,hy34,hy36,hy38,hB,Px (a:=2+y28) (by omega),hy43,i43,ct,hx45,hy46,Px (a:=mn+y20) (by omega),Px (a:=mn+y22) (by omega),Px (a:=y30+y32) (by omega),Px (a:=1+y46) (by omega)]
   cases x45==1<;>rfl
  have hhr:1≤(cond (x45==1) (1:Int) (1+y46))∧(cond (x45==1) (1:Int) (1+y46))≤4:=by cases x45==1<;>simp<;>omega
  have hst1:x45=1→cond (x45==1) (1:Int) (1+y46)=1:=by intro e;subst e;rfl
  have sall:S.all uz=true:=by rw[List.all_eq_true];exact fun x hx=>(hp x hx).2
  have ssum:(ZW 0 S==IntKind.wrap .i64 (M - mn))=true:=by rw[Px (a:=M - mn) (by omega),hw];simp
  have starting:(x45 != 1||y28 != 0)=true:=by
   rcases hst with h | h | ⟨h,h'⟩
   ·rw[h];rfl
   ·rw[h];rfl
   ·rw[h,h'];rfl
  have started:(x45 != 1||decide ((cond (x45==1) (1:Int) (1+y46))≤y28))=true:=by
   rcases hst with h | h | ⟨h,h'⟩
   ·rw[h];rfl
   ·rw[h];rfl
   ·rw[h,h'];rfl
  have stR:Fj 0 2 x45=true:=Fw (by omega)
  by_cases d:x45=2
  ·obtain⟨y48,ky48,y480,y481,L,hy48⟩:=nx (R:=R) (N:=N) (t:=t) (o:=o) b (M - mn+1) (by omega) (by omega) ky46 c
   refine⟨⟨[117,A86.getD i 0],bus,mn,M,.of S false false,noLoad,y16,y18,mn+y20,mn+y22,y24,y26,y28,y30,y30+y32,y34,y36,y38,.of B false false,x45,cond (x45==1) 1 (1+y46),mn+y48⟩,ky48,
    ⟨rfl,hb,Fw (by simp only;omega),Fw (by simp only;omega),by simp only[Sl.l];omega,sall,ho,ssum,Fw (by simp only;omega),Fw (by simp only;omega),Fw (by simp only;omega),Fw (by simp only;omega),Fw (by simp only;omega),Fw (by simp only;omega),Fw (by simp only;omega),Fw (by simp only;omega),Fw (by simp only;omega),Fw (by simp only;omega),Fw (by simp only;omega),Fw (by simp only;omega),Fw (by simp only;omega),b1,b2,stR,starting,Fw (by simp only;omega),started,?_⟩,L,fun K=>?_⟩
   ·have:(x45==2)=true:=by simpa using d
    simp only[this,cond_true];exact Fw (by omega)
   ·rw[head];unfold No
    have:(x45==2)=true:=by simpa using d
    rw[this,ct,wM,hy48,Px (a:=mn+y48) (by omega),sX rfl,Xk]
    rfl
  ·refine⟨⟨[117,A86.getD i 0],bus,mn,M,.of S false false,noLoad,y16,y18,mn+y20,mn+y22,y24,y26,y28,y30,y30+y32,y34,y36,y38,.of B false false,x45,cond (x45==1) 1 (1+y46),0⟩,ky46,
    ⟨rfl,hb,Fw (by simp only;omega),Fw (by simp only;omega),by simp only[Sl.l];omega,sall,ho,ssum,Fw (by simp only;omega),Fw (by simp only;omega),Fw (by simp only;omega),Fw (by simp only;omega),Fw (by simp only;omega),Fw (by simp only;omega),Fw (by simp only;omega),Fw (by simp only;omega),Fw (by simp only;omega),Fw (by simp only;omega),Fw (by simp only;omega),Fw (by simp only;omega),Fw (by simp only;omega),b1,b2,stR,starting,Fw (by simp only;omega),started,?_⟩,c,fun K=>?_⟩
   ·have:(x45==2)=false:=by simpa using d
    simp only[this,cond_false];exact Fw (by omega)
   ·rw[head];unfold No
    have:(x45==2)=false:=by simpa using d
    rw[this,cf,sX rfl,Xk]
    rfl
 | n+1,fuel+1,p,k,M,S,hf,hk,hS,hS1,hp,ho,hw,hM0,hM1,hp0,hp1=>by
  obtain⟨y12,ky12,y120,y121,T,hy12⟩:=nx (R:=R) (N:=N) (t:=t) (o:=o) b 15 (by omega) (by omega) k hk
  obtain⟨y14,ky14,y140,y141,U,hy14⟩:=nx (R:=R) (N:=N) (t:=t) (o:=o) b 10 (by omega) (by omega) ky12 T
  obtain⟨u,k',g1,g2,g3⟩:=Ajx (N:=N) (t:=t) (o:=o) (i:=i) (nb:=nb) (H:=H) (bus:=bus) (mn:=mn) (noLoad:=noLoad) b hb hmn hno hH n fuel (p+y14) ky14 (M+(1+y12)) (S++[(⟨1+y12,p⟩:SegD)]) (by omega) U (by simp;omega) (by simp;omega) (by
   intro x hx
   rcases List.mem_append.1 hx with h | h
   ·have:=hp x h;exact⟨by omega,this.2⟩
   ·simp at h;subst h
    refine⟨by simp only;omega,?_⟩
    unfold uz;rw[Fw (by simp only;omega),Fw (by simp only;omega)];rfl) (Ajv ho (fun x hx=>(hp x hx).1)) (by rw[Ajw,hw,Px (by simp only;omega)];simp only;omega) (by omega) (by simp;omega) (by omega) (by simp;omega)
  refine⟨u,k',g1,g2,fun K=>?_⟩
  rw[Fr];unfold Q5
  have c3:(Nat.ble (S.length+1) 140737488355328&&Nat.ble ((S.length+1)*16) 140737488355328)=true:=by rw[Bq,Bq];simp;omega
  have c5:List.take (S.length*2) (S.flatMap SegD.av)++[.int .i64 (1+y12),.int .i64 p]=(S++[(⟨1+y12,p⟩:SegD)]).flatMap SegD.av:=by rw[sX rfl];simp[SegD.av]
  have wn:IntKind.wrap .i64 (((n+1:Nat):Int) - 1)=(n:Int):=oQ (by omega)
  rw[show decide (((n+1:Nat):Int)>0)=true from decide_eq_true (by omega),ct,hy12,c3,ct,hy14,Px (a:=1+y12) (by omega),Px (a:=p+y14) (by omega),wn,Px (a:=M+(1+y12)) (by omega),c5]
  have:=g3 K
  rw[List.length_append] at this
  exact this
theorem A2a {N:Nat} {l:List Int} {t o:Bool} (hN:8≤N) (c:l.length≤9223372036854775807) {i:Nat} (hi:i<16) {nb H:Int} (z:1≤nb∧nb≤1000) (hH:1≤H∧H≤24) (k:Nat) (A:k≤l.length) :
  ∃ (u:UnitD) (q:Nat),UnitG i nb H u∧q≤l.length∧∀ K:LA→Int→O R,Q6 N (i:Int) nb H (Ao l) l.length t o (k:Int) K=K u.av (q:Int):=by
 obtain⟨y2,ky2,y20,y21,d,s⟩:=nx (R:=R) (N:=N) (t:=t) (o:=o) c nb (by omega) (by omega) k A
 obtain⟨y4,ky4,y40,y41,e,v⟩:=nx (R:=R) (N:=N) (t:=t) (o:=o) c 8 (by omega) (by omega) ky2 d
 obtain⟨y6,ky6,y60,y61,f,x⟩:=nx (R:=R) (N:=N) (t:=t) (o:=o) c 20 (by omega) (by omega) ky4 e
 obtain⟨y8,ky8,y80,y81,j,y⟩:=nx (R:=R) (N:=N) (t:=t) (o:=o) c 20 (by omega) (by omega) ky6 f
 obtain⟨y10,ky10,y100,y101,b,m⟩:=nx (R:=R) (N:=N) (t:=t) (o:=o) c 2 (by omega) (by omega) ky8 j
 obtain⟨n,hn⟩:∃ n:Nat,1+y10=(n:Int):=⟨(1+y10).toNat,by omega⟩
 obtain⟨u,q,C,D,F⟩:=Ajx (R:=R) (N:=N) (l:=l) (t:=t) (o:=o) c (i:=i) (nb:=nb) (H:=H) (bus:=y2) (mn:=y4) (noLoad:=y6) ⟨y20,y21⟩ ⟨y40,y41⟩ ⟨y60,y61⟩ hH n N (y8 - 2) ky10 y4 [] (by omega) b (by simp;omega) (by simp;omega) (by simp) Aci (by simp[ZW]) (by omega) (by simp) (by omega) (by simp;omega)
 refine⟨u,q,C,D,fun K=>?_⟩
 rw[OX];unfold Ym
 rw[Ud hi,s,v,x,y,m,Px (a:=y8 - 2) (by omega),Px (a:=1+y10) (by omega),hn]
 simpa using F K
structure OutG (i:Nat) (nl nu:Nat) (x:OutD):Prop where
 name:x.name=[111,A86.getD i 0]
 ll:x.lines.l.length=1∨x.lines.l.length=2
 lr:∀ y ∈ x.lines.l,0≤y∧y<(nl:Int)
 la:lh x.lines.l=true
 ml:x.moves.l.length≤nu
 mc:((x.moves.l.length:Int)==0||x.corr)=true
 mr:∀ m ∈ x.moves.l,0≤m.unit∧m.unit<(nu:Int)
 ma:lh (x.moves.l.map (·.unit))=true
 mi:x.moves.l.all Agj=true
theorem Ass {s:Int}:∀ {S:List Int},lh S=true→(∀ x ∈ S,x<s)→lh (S++[s])=true
 | [],_,_=>TC s
 | [a],_,h=>by
  rw[List.cons_append,List.nil_append,FI,TC]
  have:=h a (by simp);simp;omega
 | a::b::r,c,h=>by
  rw[FI] at c
  simp only[Bool.and_eq_true] at c
  rw[List.cons_append,List.cons_append,FI,c.1]
  have:=Ass (S:=b::r) c.2 (fun x e=>h x (by rcases List.mem_cons.1 e with d | d<;>simp[d]))
  simpa using this
theorem A4i (S:List MoveD):(S.flatMap MoveD.av).length=S.length*3:=by
 induction S with
 | nil=>rfl
 | cons e r b=>rw[List.flatMap_cons,List.length_append,b,Ew];simp;omega
theorem sY {N:Nat} {l:List Int} {t o:Bool} (q:l.length≤9223372036854775807) {i nl nu:Nat} (s:nu≤16) {B:List Int} (hB1:B.length=1∨B.length=2) (hB2:∀ y ∈ B,0≤y∧y<(nl:Int)) (hB3:lh B=true):∀ (m j fuel:Nat) (k:Nat) (S:List MoveD),j+m=nu→m<fuel→k≤l.length→S.length≤j→(∀ x ∈ S,0≤x.unit∧x.unit<(j:Int))→lh (S.map (·.unit))=true→S.all Agj=true →
  ∃ (x:OutD) (f:Nat),OutG i nl nu x∧f≤l.length∧∀ K:LA→Int→O R,E8 N K (nu:Int) (Ao l) l.length t o [111,A86.getD i 0] B.length (Ao B) fuel (j:Int) (k:Int) S.length (S.flatMap MoveD.av)=K x.av (f:Int)
 | 0,j,fuel+1,k,S,L,_,A,hS,hr,z,hi=>by
  have C:j=nu:=by omega
  subst C
  refine⟨⟨[111,A86.getD i 0],.of B false false,true,.of S false false⟩,k,⟨rfl,hB1,hB2,hB3,hS,by simp,hr,z,hi⟩,A,fun K=>?_⟩
  rw[E8];unfold Iv
  rw[Iz (Nat.le_refl _),cf,Xk,List.take_of_length_le (by rw[A4i];exact Nat.le_refl _)]
  rfl
 | m+1,j,fuel+1,k,S,L,V,A,hS,hr,z,hi=>by
  obtain⟨y10,ky10,y100,y101,b,c⟩:=nx (R:=R) (N:=N) (t:=t) (o:=o) q 2 (by omega) (by omega) k A
  by_cases I:y10=1
  ·obtain⟨y12,ky12,y120,y121,d,u⟩:=nx (R:=R) (N:=N) (t:=t) (o:=o) q 8 (by omega) (by omega) ky10 b
   obtain⟨y14,ky14,y140,y141,e,v⟩:=nx (R:=R) (N:=N) (t:=t) (o:=o) q 8 (by omega) (by omega) ky12 d
   obtain⟨x,f,D,F,G⟩:=sY (N:=N) (t:=t) (o:=o) (i:=i) (nl:=nl) (nu:=nu) q s hB1 hB2 hB3 m (j+1) fuel ky14 (S++[(⟨j,y12,y14⟩:MoveD)]) (by omega) (by omega) e (by simp;omega) (by
    intro x n
    rcases List.mem_append.1 n with h | h
    ·have:=hr x h;omega
    ·simp at h;subst h;simp only;omega) (by
    rw[List.map_append];exact Ass z (by
     intro x n
     simp only[List.mem_map] at n
     obtain⟨y,M,rfl⟩:=n
     exact(hr y M).2)) (by
    rw[List.all_append,hi]
    simp only[List.all_cons,List.all_nil,Bool.and_true,Bool.true_and]
    unfold Agj;rw[Fw (by simp only;omega),Fw (by simp only;omega)];rfl)
   refine⟨x,f,D,F,fun K=>?_⟩
   rw[E8];unfold Iv
   have e1:(y10==1)=true:=by simpa using I
   have T:(Nat.ble (S.length+1) 140737488355328&&Nat.ble ((S.length+1)*24) 140737488355328)=true:=by rw[Bq,Bq];simp;omega
   have U:List.take (S.length*3) (S.flatMap MoveD.av)++[.int .i64 (j:Int),.int .i64 y12,.int .i64 y14]=(S++[(⟨j,y12,y14⟩:MoveD)]).flatMap MoveD.av:=by
    rw[List.take_of_length_le (by rw[A4i];exact Nat.le_refl _)];simp[MoveD.av]
   rw[Hh (by omega),ct,c,e1,ct,u,v,T,ct,U,Bp (by omega)]
   have:=G K
   rw[List.length_append] at this
   exact this
  ·obtain⟨x,f,D,F,G⟩:=sY (N:=N) (t:=t) (o:=o) (i:=i) (nl:=nl) (nu:=nu) q s hB1 hB2 hB3 m (j+1) fuel ky10 S (by omega) (by omega) b (by omega) (by intro x n;have:=hr x n;omega) z hi
   refine⟨x,f,D,F,fun K=>?_⟩
   rw[E8];unfold Iv
   have e1:(y10==1)=false:=by simpa using I
   rw[Hh (by omega),ct,c,e1,cf,Bp (by omega),G]
theorem Ajy {N:Nat} {l:List Int} {t o:Bool} (hN:64≤N) (f:l.length≤9223372036854775807) {i nl nu:Nat} (e:nu≤16) {B:List Int} (hB1:B.length=1∨B.length=2) (hB2:∀ y ∈ B,0≤y∧y<(nl:Int)) (hB3:lh B=true) (k:Nat) (m:k≤l.length) :
  ∃ (x:OutD) (d:Nat),OutG i nl nu x∧d≤l.length∧∀ K:LA→Int→O R,E9 N K (nu:Int) (Ao l) l.length t o [111,A86.getD i 0] (k:Int) B.length (Ao B)=K x.av (d:Int):=by
 obtain⟨y8,ky8,y80,y81,b,c⟩:=nx (R:=R) (N:=N) (t:=t) (o:=o) f 2 (by omega) (by omega) k m
 by_cases j:y8=1
 ·obtain⟨x,d,n,q,s⟩:=sY (R:=R) (N:=N) (t:=t) (o:=o) (i:=i) (nl:=nl) (nu:=nu) f e hB1 hB2 hB3 nu 0 N ky8 [] (by omega) (by omega) b (by simp) (by simp) oP rfl
  refine⟨x,d,n,q,fun K=>?_⟩
  unfold E9 Mq
  have e1:(y8==1)=true:=by simpa using j
  rw[c,e1,ct]
  simpa using s K
 ·refine⟨⟨[111,A86.getD i 0],.of B false false,false,.of [] false false⟩,ky8,⟨rfl,hB1,hB2,hB3,by simp[Sl.l],by simp[Sl.l],by simp[Sl.l],oP,rfl⟩,b,fun K=>?_⟩
  unfold E9 Mq
  have e1:(y8==1)=false:=by simpa using j
  rw[c,e1,cf,Xk]
  rfl
theorem Ast {N:Nat} {l:List Int} {t o:Bool} (hN:64≤N) (j:l.length≤9223372036854775807) {i nl nu:Nat} (hi:i<16) (I:1≤nl∧nl≤1000) (m:nu≤16) (k:Nat) (L:k≤l.length) :
  ∃ (x:OutD) (b:Nat),OutG i nl nu x∧b≤l.length∧∀ K:LA→Int→O R,Lm N (i:Int) (nl:Int) (nu:Int) (Ao l) l.length t o (k:Int) K=K x.av (b:Int):=by
 obtain⟨y2,ky2,y20,y21,n,e⟩:=nx (R:=R) (N:=N) (t:=t) (o:=o) j (nl:Int) (by omega) (by omega) k L
 obtain⟨y4,ky4,y40,y41,c,f⟩:=nx (R:=R) (N:=N) (t:=t) (o:=o) j (nl:Int) (by omega) (by omega) ky2 n
 have one:∀ A,A≤l.length→∃ (x:OutD) (b:Nat),OutG i nl nu x∧b≤l.length∧∀ K:LA→Int→O R,E9 N K (nu:Int) (Ao l) l.length t o [111,A86.getD i 0] (A:Int) 1 [.int .i64 y2]=K x.av (b:Int):=fun A C =>
  Ajy (i:=i) (nl:=nl) hN j m (B:=[y2]) (.inl rfl) (by intro y q;simp at q;subst q;exact⟨y20,y21⟩) (TC _) A C
 by_cases D:y4>y2
 ·obtain⟨y6,ky6,y60,y61,d,s⟩:=nx (R:=R) (N:=N) (t:=t) (o:=o) j 3 (by omega) (by omega) ky4 c
  by_cases G:y6=2
  ·obtain⟨x,b,u,v,z⟩:=Ajy (R:=R) (N:=N) (t:=t) (o:=o) (i:=i) (nl:=nl) (nu:=nu) hN j m (B:=[y2,y4]) (.inr rfl) (by intro y q;simp at q;rcases q with rfl | rfl<;>omega) (by rw[FI,TC];simp;omega) ky6 d
   refine⟨x,b,u,v,fun K=>?_⟩
   rw[Mr];unfold Js
   have e1:decide (y4>y2)=true:=by simpa using D
   have F:(y6==2)=true:=by simpa using G
   rw[Ud hi,e,f,e1,s,F]
   simpa[Ao] using z K
  ·obtain⟨x,b,u,v,z⟩:=one ky6 d
   refine⟨x,b,u,v,fun K=>?_⟩
   rw[Mr];unfold Js
   have e1:decide (y4>y2)=true:=by simpa using D
   have F:(y6==2)=false:=by simpa using G
   rw[Ud hi,e,f,e1,s,F]
   exact z K
 ·obtain⟨x,b,u,v,z⟩:=one ky4 c
  refine⟨x,b,u,v,fun K=>?_⟩
  rw[Mr];unfold Js
  have e1:decide (y4>y2)=false:=by simpa using D
  rw[Ud hi,e,f,e1]
  exact z K
end
end Gx.Cf

namespace Gx
open Go Go.Proofs
open IntKind (wrap)
set_option maxRecDepth 100000
noncomputable section
variable {R:Type} (N:Nat)
def TR (k2:Int→Int→Nat→LA→O R) (r0:LA→O R) (m:Int) (b:LA) (c:Nat) (d:Bool) (f:Int) (g e:Nat) (l i:LA) (au av:Int) (an:Nat) (aw:LA):O R :=
 (Ac N m b c false d av (fun bc bq=>(Ac N (wrap .i64 (m - 1)) b c false d bq (fun br bs=>(cond (m==0) none (Q4 N ((an:Nat):Int) bc (Int.tmod (wrap .i64 ((wrap .i64 (bc+1))+br)) m) f b c false d bs (fun bd bt=>(cond ((Nat.beq (bd.length) 12)&&(Nat.ble 12 12)) (cond ((Nat.ble (an+1) 140737488355328)&&(Nat.ble ((an+1)*120) 140737488355328)) (k2 (wrap .i64 (au - 1)) bt (an+1) ((aw.take (an*12))++((setCells [(.str ([]:List UInt8)),(.int .i64 0),(.int .i64 0),(.int .i64 0),(.int .i64 0),(.int .i64 0),(.int .i64 0),(.int .i64 0),(.int .i64 0),(.int .i64 0),(.int .i64 0),.nsl] 0 bd).take 12))) none) none))))))))
def TS (k7:Int→Int→Nat→LA→O R) (r0:LA→O R) (b:LA) (c:Nat) (d:Bool) (f:Int) (g e p o s u:Nat) (l i q r t v:LA) (ar ax:Int) (w:Nat) (ao:LA):O R :=
 (Lm N ((w:Nat):Int) ((p:Nat):Int) ((o:Nat):Int) b c false d ax (fun az be=>(cond ((Nat.beq 0 0)&&((Nat.beq (az.length) 4)&&(Nat.beq 4 4))) (cond ((Nat.ble (0+w) 140737488355328)&&(Nat.ble ((0+w)*72) 140737488355328)) (cond (Nat.ble 4 (az.length)) (cond ((Nat.beq ((az.take 4).length) 4)&&(Nat.ble 4 4)) (cond ((Nat.ble ((0+w)+1) 140737488355328)&&(Nat.ble (((0+w)+1)*72) 140737488355328)) (FL N [(.int .i64 f),(.imm (l.take (g*1)) g 1 false true),(.imm (i.take (e*3)) e 3 false true),(.imm (q.take (p*12)) p 12 false true),(.imm (r.take (o*22)) o 22 false true),(.imm (t.take (s*9)) s 9 false true),(.imm (v.take (u*5)) u 5 false true),(.imm (List.take (((0+w)+1)*4) (((ao.take (w*4)).take ((0+w)*4))++((setCells [(.str ([]:List UInt8)),.nsl,(.bool false),.nsl] 0 (az.take 4)).take 4))) ((0+w)+1) 4 false true)] true (fun bu bv=>(cond ((Nat.beq (bu.length) 3)&&((Nat.ble 3 3)&&(!false))) (cond (bv==0) (k7 (wrap .i64 (ar - 1)) be ((0+w)+1) (((ao.take (w*4)).take ((0+w)*4))++((setCells [(.str ([]:List UInt8)),.nsl,(.bool false),.nsl] 0 (az.take 4)).take 4))) (k7 (wrap .i64 (ar - 1)) be w ao)) none))) none) none) none) none) none)))
def AI (N:Nat) (r0:LA→O R) (b:LA) (c:Nat) (d:Bool) (f:Int) (g e p o s u:Nat) (l i q r t v:LA) (k7:Int→Int→Nat→LA→O R) (q8:Int→Int→Nat→LA→O R) (ae ai:Int) (x:Nat) (z:LA):O R :=
 (cond ((decide (ae>0))==true) (cond (cond true (decide (((p:Nat):Int)>0)) false) (q8 ae ai x z) (r0 [(.int .i64 f),(.imm (l.take (g*1)) g 1 false false),(.imm (i.take (e*3)) e 3 false false),(.imm (q.take (p*12)) p 12 false false),(.imm (r.take (o*22)) o 22 false false),(.imm (t.take (s*9)) s 9 false false),(.imm (v.take (u*5)) u 5 false false),(.imm (z.take (x*4)) x 4 false false)])) (r0 [(.int .i64 f),(.imm (l.take (g*1)) g 1 false false),(.imm (i.take (e*3)) e 3 false false),(.imm (q.take (p*12)) p 12 false false),(.imm (r.take (o*22)) o 22 false false),(.imm (t.take (s*9)) s 9 false false),(.imm (v.take (u*5)) u 5 false false),(.imm (z.take (x*4)) x 4 false false)]))
def I0 (r0:LA→O R) (b:LA) (c:Nat) (d:Bool) (f:Int) (g e p o s u:Nat) (l i q r t v:LA):Nat→Int→Int→Nat→LA→O R
 | 0,_,_,_,_=>none
 | n+1,ae,ai,x,z=>(AI N r0 b c d f g e p o s u l i q r t v (I0 r0 b c d f g e p o s u l i q r t v n) (fun ar ax w ao=>(TS N (I0 r0 b c d f g e p o s u l i q r t v n) r0 b c d f g e p o s u l i q r t v ar ax w ao)) ae ai x z)
def dJ (r0:LA→O R) (b:LA) (c:Nat) (d:Bool) (f:Int) (g e p o s:Nat) (l i q r t:LA) (q7:Int→Int→Nat→LA→O R) (ap:Int) (u:Nat) (v:LA):O R :=
 (Ac N 4 b c false d ap (fun bw bx=>(q7 bw bx 0 [])))
def TT (r0:LA→O R) (b:LA) (c:Nat) (d:Bool) (f:Int) (g e p o s:Nat) (l i q r t:LA) (ap:Int) (u:Nat) (v:LA):O R:=(dJ N r0 b c d f g e p o s l i q r t (fun ae ai x z=>(I0 N r0 b c d f g e p o s u l i q r t v N ae ai x z)) ap u v)
def KO (r0:LA→O R) (m:Int) (b:LA) (c:Nat) (d:Bool) (f:Int) (g e p o:Nat) (l i q r:LA) (q6:Int→Nat→LA→O R) (aq:Int) (s:Nat) (t:LA):O R :=
 (Ac N 3 b c false d aq (fun bz bf=>(cond (bz==2) (Ac N m b c false d bf (fun ca cb=>(E1 N f 12 b c false d cb (fun bg cc cd=>(E1 N f 12 b c false d cc (fun bh ce cf=>(E1 N f 40 b c false d ce (fun bi cg ch=>(q6 cg 1 [(.str ([116,48]:List UInt8)),(.int .i64 ca),(.imm (cd.take (bg*1)) bg 1 false false),(.imm (cf.take (bh*1)) bh 1 false false),(.imm (ch.take (bi*1)) bi 1 false false)]))))))))) (q6 bf 0 []))))
def HQ (r0:LA→O R) (m:Int) (b:LA) (c:Nat) (d:Bool) (f:Int) (g e p o:Nat) (l i q r:LA) (aq:Int) (s:Nat) (t:LA):O R:=(KO N r0 m b c d f g e p o l i q r (fun ap u v=>(TT N r0 b c d f g e p o s l i q r t ap u v)) aq s t)
def AJ (r0:LA→O R) (m:Int) (b:LA) (c:Nat) (d:Bool) (f:Int) (g e:Nat) (l i:LA) (k4:Int→Int→Nat→Nat→LA→LA→O R) (q5:Int→Nat→LA→O R) (aj ak:Int) (p o:Nat) (q r:LA):O R :=
 (cond (decide (aj>0)) (Q6 N ((o:Nat):Int) m f b c false d ak (fun bj ci=>(cond ((Nat.beq (bj.length) 22)&&(Nat.ble 22 22)) (cond ((Nat.ble (o+1) 140737488355328)&&(Nat.ble ((o+1)*216) 140737488355328)) (k4 (wrap .i64 (aj - 1)) ci p (o+1) q ((r.take (o*22))++((setCells [(.str ([]:List UInt8)),(.int .i64 0),(.int .i64 0),(.int .i64 0),.nsl,(.int .i64 0),(.int .i64 0),(.int .i64 0),(.int .i64 0),(.int .i64 0),(.int .i64 0),(.int .i64 0),(.int .i64 0),(.int .i64 0),(.int .i64 0),(.int .i64 0),(.int .i64 0),(.int .i64 0),.nsl,(.int .i64 0),(.int .i64 0),(.int .i64 0)] 0 bj).take 22))) none) none))) (Ac N 3 b c false d ak (fun cj bk=>(cond (cj==2) (Ac N m b c false d bk (fun ck cl=>(Ac N 20 b c false d cl (fun bb cm=>(Ac N 8 b c false d cm (fun cn co=>(Ac N 8 b c false d co (fun cp cq=>(Ac N 4 b c false d cq (fun cr cs=>(Ac N (wrap .i64 (bb+1)) b c false d cs (fun ct cu=>(Ac N (wrap .i64 (bb+1)) b c false d cu (fun cv cw=>(q5 cw 1 [(.str ([115,48]:List UInt8)),(.int .i64 ck),(.int .i64 bb),(.int .i64 ct),(.int .i64 cv),(.int .i64 cn),(.int .i64 cp),(.int .i64 (wrap .i64 (1+cr))),(.int .i64 4)]))))))))))))))) (q5 bk 0 [])))))
def Py (r0:LA→O R) (m:Int) (b:LA) (c:Nat) (d:Bool) (f:Int) (g e:Nat) (l i:LA):Nat→Int→Int→Nat→Nat→LA→LA→O R
 | 0,_,_,_,_,_,_=>none
 | n+1,aj,ak,p,o,q,r=>(AJ N r0 m b c d f g e l i (Py r0 m b c d f g e l i n) (fun aq s t=>(HQ N r0 m b c d f g e p o l i q r aq s t)) aj ak p o q r)
def AK (r0:LA→O R) (m:Int) (b:LA) (c:Nat) (d:Bool) (f:Int) (g e:Nat) (l i:LA) (k2:Int→Int→Nat→LA→O R) (q3:Int→Int→Nat→LA→O R) (q4:Int→Int→Nat→Nat→LA→LA→O R) (af aa:Int) (ab:Nat) (ac:LA):O R :=
 (cond ((decide (af>0))==true) (cond (cond true (decide (m>1)) false) (q3 af aa ab ac) (Ac N 3 b c false d aa (fun cx cy=>(q4 (wrap .i64 (1+cx)) cy ab 0 ac [])))) (Ac N 3 b c false d aa (fun cz da=>(q4 (wrap .i64 (1+cz)) da ab 0 ac []))))
def Pz (r0:LA→O R) (m:Int) (b:LA) (c:Nat) (d:Bool) (f:Int) (g e:Nat) (l i:LA):Nat→Int→Int→Nat→LA→O R
 | 0,_,_,_,_=>none
 | n+1,af,aa,ab,ac=>(AK N r0 m b c d f g e l i (Pz r0 m b c d f g e l i n) (fun au av an aw=>(TR N (Pz r0 m b c d f g e l i n) r0 m b c d f g e l i au av an aw)) (fun aj ak p o q r=>(Py N r0 m b c d f g e l i N aj ak p o q r)) af aa ab ac)
def KP (r0:LA→O R) (b:LA) (c:Nat) (d:Bool) (f:Int) (g e:Nat) (l i:LA) (k1:Int→Int→Int→Nat→LA→O R) (q2:Int→Int→Nat→LA→O R) (m ag al:Int) (y:Nat) (am:LA):O R :=
 (cond (decide (ag<m)) (Ac N ag b c false d al (fun db dc=>(Q4 N ((y:Nat):Int) db ag f b c false d dc (fun bl dd=>(cond ((Nat.beq (bl.length) 12)&&(Nat.ble 12 12)) (cond ((Nat.ble (y+1) 140737488355328)&&(Nat.ble ((y+1)*120) 140737488355328)) (k1 m (wrap .i64 (ag+1)) dd (y+1) ((am.take (y*12))++((setCells [(.str ([]:List UInt8)),(.int .i64 0),(.int .i64 0),(.int .i64 0),(.int .i64 0),(.int .i64 0),(.int .i64 0),(.int .i64 0),(.int .i64 0),(.int .i64 0),(.int .i64 0),.nsl] 0 bl).take 12))) none) none))))) (Ac N 5 b c false d al (fun de df=>(q2 de df y am))))
def Xl (r0:LA→O R) (b:LA) (c:Nat) (d:Bool) (f:Int) (g e:Nat) (l i:LA):Nat→Int→Int→Int→Nat→LA→O R
 | 0,_,_,_,_,_=>none
 | n+1,m,ag,al,y,am=>(KP N r0 b c d f g e l i (Xl r0 b c d f g e l i n) (fun af aa ab ac=>(Pz N r0 m b c d f g e l i N af aa ab ac)) m ag al y am)
def AL (r0:LA→O R) (b:LA) (c:Nat) (d:Bool) (g:Nat) (l:LA) (k0:Int→Int→Int→Nat→LA→O R) (q1:Int→Int→Int→Nat→LA→O R) (ad ah f:Int) (e:Nat) (i:LA):O R :=
 (cond (decide (ad>0)) (JU N ([98]:List UInt8) ((e:Nat):Int) (fun bm=>(E1 N f 14 b c false d ah (fun ba dg bn=>(Ac N 2 b c false d dg (fun dh bo=>(cond (dh==1) (Ac N 200 b c false d bo (fun di dj=>(cond ((Nat.ble (e+1) 140737488355328)&&(Nat.ble ((e+1)*48) 140737488355328)) (k0 (wrap .i64 (ad - 1)) dj f (e+1) ((i.take (e*3))++[(.str bm),(.imm (bn.take (ba*1)) ba 1 false false),(.int .i64 (wrap .i64 (100+di)))])) none))) (cond ((Nat.ble (e+1) 140737488355328)&&(Nat.ble ((e+1)*48) 140737488355328)) (k0 (wrap .i64 (ad - 1)) bo f (e+1) ((i.take (e*3))++[(.str bm),(.imm (bn.take (ba*1)) ba 1 false false),(.int .i64 0)])) none)))))))) (q1 ((e:Nat):Int) 1 ah 0 []))
def Nb (r0:LA→O R) (b:LA) (c:Nat) (d:Bool) (g:Nat) (l:LA):Nat→Int→Int→Int→Nat→LA→O R
 | 0,_,_,_,_,_=>none
 | n+1,ad,ah,f,e,i=>(AL N r0 b c d g l (Nb r0 b c d g l n) (fun m ag al y am=>(Xl N r0 b c d f g e l i N m ag al y am)) ad ah f e i)
def od (r0:LA→O R) (q0:Nat→LA→Int→Int→Int→Nat→LA→O R) (b:LA) (c:Nat) (ay d:Bool):O R :=
 (Abt N b c false d (Ac N 3 b c false d 0 (fun bp dk=>(E1 N (wrap .i64 (1+bp)) 5 b c false d dk (fun g dl l=>(Ac N 4 b c false d dl (fun dm dn=>(q0 g l (wrap .i64 (1+dm)) dn (wrap .i64 (1+bp)) 0 []))))))))
def TU:=(Ah (fun (N:Nat) (b:LA) (c:Nat) (ay d:Bool) (r0:LA→O R)=>(od N r0 (fun g l ad ah f e i=>(Nb N r0 b c d g l N ad ah f e i)) b c ay d))).1
theorem vR (b c ay d r0):(@TU R N b c ay d r0)=(od N r0 (fun g l ad ah f e i=>(Nb N r0 b c d g l N ad ah f e i)) b c ay d):=by rw[TU,(Ah _).2]
def Acv:Hints:={ H:=(hS hL (hS hL (hS hL (hS hL (hS (hS hL (hS (hP [2,3,4,5] hL) hL)) (hS hL (hS (hS hL (hS (hP [2,3,4,7,8] hL) hL)) (hS (hS hL (hS (hP [2,3,4,7,9] (hJ [2,3,4,7,9] hL hL)) hL)) (hS (hS hL (hS (hP [2,3,4,7,11] hL) hL)) (hJ [2,3,4,7] hL (hJ [2,3,4] hL (hS (hS hL (hS (hP [2,3,4,13] (hJ [2,3,4,13] hL hL)) hL)) hL)))))))))))),modes:=[(3,0)],cob:=[23,44,192] }
def Ajz:Gm:=[(96,Ajo N),(97,G5 N),(98,sG N),(99,SX N),(100,xg N),(101,xm N),(102,nv N),(103,Ano N)]
def Nc (F:KF R):=Ko Tryz.f42 Acv (Ajz N) [] N F
def Cb (F:KF R):LA→O R:=(fun dp=>F (.pagg dp false) [])
def Axl (m:Int) (b:LA) (c:Nat) (d:Bool) (f:Int) (g e:Nat) (l i:LA) (au av:Int) (an:Nat) (aw:LA):St:=⟨[(2,(op 0)),(3,(op 1)),(4,(op 2)),(7,(iv m)),(9,(iv au))],(hq [(bN 0 [(iv 0),.nsl,.nsl,.nsl,.nsl,.nsl,.nsl,.nsl]),(bN 0 [(.imm b c 1 false d),(iv av)]),(bN 0 [(iv f),(.own 300003 0 g),(.own 300004 0 e),(.own 300005 0 an),(.own 300006 0 0),(.own 300007 0 0),(.own 300008 0 0),(.own 300009 0 0)]),(bQ 1 l),(bQ 3 i),(bQ 12 aw),(bQ 22 []),(bQ 9 []),(bQ 5 []),(bQ 4 [])])⟩
def Axm (F:KF R) (Q2:St→O R):=Nc N F [1,1,1,1,1,1,1,0,1,0,0,1] [Q2]
def Axn (b:LA) (c:Nat) (d:Bool) (f:Int) (g e p o s u:Nat) (l i q r t v:LA) (ar ax:Int) (w:Nat) (ao:LA):St:=⟨[(2,(op 0)),(3,(op 1)),(4,(op 2)),(13,(iv ar))],(hq [(bN 0 [(iv 0),.nsl,.nsl,.nsl,.nsl,.nsl,.nsl,.nsl]),(bN 0 [(.imm b c 1 false d),(iv ax)]),(bN 0 [(iv f),(.own 300003 0 g),(.own 300004 0 e),(.own 300005 0 p),(.own 300006 0 o),(.own 300007 0 s),(.own 300008 0 u),(.own 300009 0 w)]),(bQ 1 l),(bQ 3 i),(bQ 12 q),(bQ 22 r),(bQ 9 t),(bQ 5 v),(bQ 4 ao)])⟩
def Axo (F:KF R) (Q7:St→O R):=Nc N F [1,1,1,1,1,1,1,1,1,1,1,0,1,0,0,1] [Q7]
def Acw (b:LA) (c:Nat) (d:Bool) (f:Int) (g e p o s u:Nat) (l i q r t v:LA) (ae ai:Int) (x:Nat) (z:LA):St:=⟨[(2,(op 0)),(3,(op 1)),(4,(op 2)),(13,(iv ae))],(hq [(bN 0 [(iv 0),.nsl,.nsl,.nsl,.nsl,.nsl,.nsl,.nsl]),(bN 0 [(.imm b c 1 false d),(iv ai)]),(bN 0 [(iv f),(.own 300003 0 g),(.own 300004 0 e),(.own 300005 0 p),(.own 300006 0 o),(.own 300007 0 s),(.own 300008 0 u),(.own 300009 0 x)]),(bQ 1 l),(bQ 3 i),(bQ 12 q),(bQ 22 r),(bQ 9 t),(bQ 5 v),(bQ 4 z)])⟩
def Acx (F:KF R):=Nc N F [1,1,1,1,1,1,1,1,1,1,1,0,1,0] []
def Axp (b:LA) (c:Nat) (d:Bool) (f:Int) (g e p o s:Nat) (l i q r t:LA) (ap:Int) (u:Nat) (v:LA):St:=⟨[(2,(op 0)),(3,(op 1)),(4,(op 2))],(hq [(bN 0 [(iv 0),.nsl,.nsl,.nsl,.nsl,.nsl,.nsl,.nsl]),(bN 0 [(.imm b c 1 false d),(iv ap)]),(bN 0 [(iv f),(.own 300003 0 g),(.own 300004 0 e),(.own 300005 0 p),(.own 300006 0 o),(.own 300007 0 s),(.own 300008 0 u),(.own 300009 0 0)]),(bQ 1 l),(bQ 3 i),(bQ 12 q),(bQ 22 r),(bQ 9 t),(bQ 5 v),(bQ 4 [])])⟩
def Axq (F:KF R):=Nc N F [1,1,1,1,1,1,1,1,1,1,1] []
def Axr (m:Int) (b:LA) (c:Nat) (d:Bool) (f:Int) (g e p o:Nat) (l i q r:LA) (aq:Int) (s:Nat) (t:LA):St:=⟨[(2,(op 0)),(3,(op 1)),(4,(op 2)),(7,(iv m))],(hq [(bN 0 [(iv 0),.nsl,.nsl,.nsl,.nsl,.nsl,.nsl,.nsl]),(bN 0 [(.imm b c 1 false d),(iv aq)]),(bN 0 [(iv f),(.own 300003 0 g),(.own 300004 0 e),(.own 300005 0 p),(.own 300006 0 o),(.own 300007 0 s),(.own 300008 0 0),(.own 300009 0 0)]),(bQ 1 l),(bQ 3 i),(bQ 12 q),(bQ 22 r),(bQ 9 t),(bQ 5 []),(bQ 4 [])])⟩
def Axs (F:KF R):=Nc N F [1,1,1,1,1,1,1,1,1,1] []
def Axt (m:Int) (b:LA) (c:Nat) (d:Bool) (f:Int) (g e:Nat) (l i:LA) (aj ak:Int) (p o:Nat) (q r:LA):St:=⟨[(2,(op 0)),(3,(op 1)),(4,(op 2)),(7,(iv m)),(11,(iv aj))],(hq [(bN 0 [(iv 0),.nsl,.nsl,.nsl,.nsl,.nsl,.nsl,.nsl]),(bN 0 [(.imm b c 1 false d),(iv ak)]),(bN 0 [(iv f),(.own 300003 0 g),(.own 300004 0 e),(.own 300005 0 p),(.own 300006 0 o),(.own 300007 0 0),(.own 300008 0 0),(.own 300009 0 0)]),(bQ 1 l),(bQ 3 i),(bQ 12 q),(bQ 22 r),(bQ 9 []),(bQ 5 []),(bQ 4 [])])⟩
def Axu (F:KF R):=Nc N F [1,1,1,1,1,1,1,1,0,1,0] []
def Acy (m:Int) (b:LA) (c:Nat) (d:Bool) (f:Int) (g e:Nat) (l i:LA) (af aa:Int) (ab:Nat) (ac:LA):St:=⟨[(2,(op 0)),(3,(op 1)),(4,(op 2)),(7,(iv m)),(9,(iv af))],(hq [(bN 0 [(iv 0),.nsl,.nsl,.nsl,.nsl,.nsl,.nsl,.nsl]),(bN 0 [(.imm b c 1 false d),(iv aa)]),(bN 0 [(iv f),(.own 300003 0 g),(.own 300004 0 e),(.own 300005 0 ab),(.own 300006 0 0),(.own 300007 0 0),(.own 300008 0 0),(.own 300009 0 0)]),(bQ 1 l),(bQ 3 i),(bQ 12 ac),(bQ 22 []),(bQ 9 []),(bQ 5 []),(bQ 4 [])])⟩
def Acz (F:KF R):=Nc N F [1,1,1,1,1,1,1,0,1,0] []
def Axv (b:LA) (c:Nat) (d:Bool) (f:Int) (g e:Nat) (l i:LA) (m ag al:Int) (y:Nat) (am:LA):St:=⟨[(2,(op 0)),(3,(op 1)),(4,(op 2)),(7,(iv m)),(8,(iv ag))],(hq [(bN 0 [(iv 0),.nsl,.nsl,.nsl,.nsl,.nsl,.nsl,.nsl]),(bN 0 [(.imm b c 1 false d),(iv al)]),(bN 0 [(iv f),(.own 300003 0 g),(.own 300004 0 e),(.own 300005 0 y),(.own 300006 0 0),(.own 300007 0 0),(.own 300008 0 0),(.own 300009 0 0)]),(bQ 1 l),(bQ 3 i),(bQ 12 am),(bQ 22 []),(bQ 9 []),(bQ 5 []),(bQ 4 [])])⟩
def Axw (F:KF R):=Nc N F [1,1,1,1,1,1,0,1,0] []
def Axx (b:LA) (c:Nat) (d:Bool) (g:Nat) (l:LA) (ad ah f:Int) (e:Nat) (i:LA):St:=⟨[(2,(op 0)),(3,(op 1)),(4,(op 2)),(5,(iv ad))],(hq [(bN 0 [(iv 0),.nsl,.nsl,.nsl,.nsl,.nsl,.nsl,.nsl]),(bN 0 [(.imm b c 1 false d),(iv ah)]),(bN 0 [(iv f),(.own 300003 0 g),(.own 300004 0 e),(.own 300005 0 0),(.own 300006 0 0),(.own 300007 0 0),(.own 300008 0 0),(.own 300009 0 0)]),(bQ 1 l),(bQ 3 i),(bQ 12 []),(bQ 22 []),(bQ 9 []),(bQ 5 []),(bQ 4 [])])⟩
def Axy (F:KF R):=Nc N F [1,1,1,1,0,1,0] []
theorem Agm (Q2:St→O R) (F:KF R) (m:Int) (b:LA) (c:Nat) (d:Bool) (f:Int) (g e:Nat) (l i:LA):∀ (au av:Int) (an:Nat) (aw:LA),B9 (Axm N F Q2) (Axl m b c d f g e l i au av an aw)=(TR N (fun af aa ab ac=>Q2 (Acy m b c d f g e l i af aa ab ac)) (Cb F) m b c d f g e l i au av an aw):=by
 intro au av an aw
 kernel_rfl
theorem Agn (Q7:St→O R) (F:KF R) (b:LA) (c:Nat) (d:Bool) (f:Int) (g e p o s u:Nat) (l i q r t v:LA):∀ (ar ax:Int) (w:Nat) (ao:LA),B9 (Axo N F Q7) (Axn b c d f g e p o s u l i q r t v ar ax w ao)=(TS N (fun ae ai x z=>Q7 (Acw b c d f g e p o s u l i q r t v ae ai x z)) (Cb F) b c d f g e p o s u l i q r t v ar ax w ao):=by
 intro ar ax w ao
 kernel_rfl
theorem j3 (F:KF R) (b:LA) (c:Nat) (d:Bool) (f:Int) (g e p o s u:Nat) (l i q r t v:LA):∀ (n:Nat) (ae ai:Int) (x:Nat) (z:LA),Aj (Acx N F) n (Acw b c d f g e p o s u l i q r t v ae ai x z)=(I0 N (Cb F) b c d f g e p o s u l i q r t v n ae ai x z)
 | 0,_,_,_,_=>by kernel_rfl
 | n+1,ae,ai,x,z=>have e0:=(funext fun ae=>funext fun ai=>funext fun x=>funext fun z=>(j3 F b c d f g e p o s u l i q r t v n ae ai x z))
  Eq.trans (by kernel_rfl) (NY (AI N (Cb F) b c d f g e p o s u l i q r t v · · ae ai x z) e0 (funext fun ar=>funext fun ax=>funext fun w=>funext fun ao=>(A4 ..).trans ((Agn N (Aj (Acx N F) n) F b c d f g e p o s u l i q r t v ar ax w ao).trans (Bu (TS N · (Cb F) b c d f g e p o s u l i q r t v ar ax w ao) e0))):_)
theorem Ago (F:KF R) (b:LA) (c:Nat) (d:Bool) (f:Int) (g e p o s:Nat) (l i q r t:LA):∀ (ap:Int) (u:Nat) (v:LA),B9 (Axq N F) (Axp b c d f g e p o s l i q r t ap u v)=(TT N (Cb F) b c d f g e p o s l i q r t ap u v):=by
 intro ap u v
 exact Eq.trans (by kernel_rfl) (Bu (dJ N (Cb F) b c d f g e p o s l i q r t · ap u v) (funext fun ae=>funext fun ai=>funext fun x=>funext fun z=>(Ad ..).trans (j3 N F b c d f g e p o s u l i q r t v N ae ai x z)):_)
theorem Agp (F:KF R) (m:Int) (b:LA) (c:Nat) (d:Bool) (f:Int) (g e p o:Nat) (l i q r:LA):∀ (aq:Int) (s:Nat) (t:LA),B9 (Axs N F) (Axr m b c d f g e p o l i q r aq s t)=(HQ N (Cb F) m b c d f g e p o l i q r aq s t):=by
 intro aq s t
 exact Eq.trans (by kernel_rfl) (Bu (KO N (Cb F) m b c d f g e p o l i q r · aq s t) (funext fun ap=>funext fun u=>funext fun v=>(A4 ..).trans (Ago N F b c d f g e p o s l i q r t ap u v)):_)
theorem j4 (F:KF R) (m:Int) (b:LA) (c:Nat) (d:Bool) (f:Int) (g e:Nat) (l i:LA):∀ (n:Nat) (aj ak:Int) (p o:Nat) (q r:LA),Aj (Axu N F) n (Axt m b c d f g e l i aj ak p o q r)=(Py N (Cb F) m b c d f g e l i n aj ak p o q r)
 | 0,_,_,_,_,_,_=>by kernel_rfl
 | n+1,aj,ak,p,o,q,r=>Eq.trans (by kernel_rfl) (NY (AJ N (Cb F) m b c d f g e l i · · aj ak p o q r) (funext fun aj=>funext fun ak=>funext fun p=>funext fun o=>funext fun q=>funext fun r=>(j4 F m b c d f g e l i n aj ak p o q r)) (funext fun aq=>funext fun s=>funext fun t=>(A4 ..).trans (Agp N F m b c d f g e p o l i q r aq s t)):_)
theorem j5 (F:KF R) (m:Int) (b:LA) (c:Nat) (d:Bool) (f:Int) (g e:Nat) (l i:LA):∀ (n:Nat) (af aa:Int) (ab:Nat) (ac:LA),Aj (Acz N F) n (Acy m b c d f g e l i af aa ab ac)=(Pz N (Cb F) m b c d f g e l i n af aa ab ac)
 | 0,_,_,_,_=>by kernel_rfl
 | n+1,af,aa,ab,ac=>have e0:=(funext fun af=>funext fun aa=>funext fun ab=>funext fun ac=>(j5 F m b c d f g e l i n af aa ab ac))
  Eq.trans (by kernel_rfl) (A8v (AK N (Cb F) m b c d f g e l i · · · af aa ab ac) e0 (funext fun au=>funext fun av=>funext fun an=>funext fun aw=>(A4 ..).trans ((Agm N (Aj (Acz N F) n) F m b c d f g e l i au av an aw).trans (Bu (TR N · (Cb F) m b c d f g e l i au av an aw) e0))) (funext fun aj=>funext fun ak=>funext fun p=>funext fun o=>funext fun q=>funext fun r=>(Ad ..).trans (j4 N F m b c d f g e l i N aj ak p o q r)):_)
theorem j6 (F:KF R) (b:LA) (c:Nat) (d:Bool) (f:Int) (g e:Nat) (l i:LA):∀ (n:Nat) (m ag al:Int) (y:Nat) (am:LA),Aj (Axw N F) n (Axv b c d f g e l i m ag al y am)=(Xl N (Cb F) b c d f g e l i n m ag al y am)
 | 0,_,_,_,_,_=>by kernel_rfl
 | n+1,m,ag,al,y,am=>Eq.trans (by kernel_rfl) (NY (KP N (Cb F) b c d f g e l i · · m ag al y am) (funext fun m=>funext fun ag=>funext fun al=>funext fun y=>funext fun am=>(j6 F b c d f g e l i n m ag al y am)) (funext fun af=>funext fun aa=>funext fun ab=>funext fun ac=>(Ad ..).trans (j5 N F m b c d f g e l i N af aa ab ac)):_)
theorem j7 (F:KF R) (b:LA) (c:Nat) (d:Bool) (g:Nat) (l:LA):∀ (n:Nat) (ad ah f:Int) (e:Nat) (i:LA),Aj (Axy N F) n (Axx b c d g l ad ah f e i)=(Nb N (Cb F) b c d g l n ad ah f e i)
 | 0,_,_,_,_,_=>by kernel_rfl
 | n+1,ad,ah,f,e,i=>Eq.trans (by kernel_rfl) (NY (AL N (Cb F) b c d g l · · ad ah f e i) (funext fun ad=>funext fun ah=>funext fun f=>funext fun e=>funext fun i=>(j7 F b c d g l n ad ah f e i)) (funext fun m=>funext fun ag=>funext fun al=>funext fun y=>funext fun am=>(Ad ..).trans (j6 N F b c d f g e l i N m ag al y am)):_)
theorem Ac0 (b:LA) (c:Nat) (ay d:Bool) (F:KF R):C2 (Ajz N) Acv N 42 [(.imm b c 1 ay d)] [] F=(TU N b c ay d (Cb F)):=by
 rw[vR]
 exact Eq.trans (by kernel_rfl) (Bu (od N (Cb F) · b c ay d) (funext fun g=>funext fun l=>funext fun ad=>funext fun ah=>funext fun f=>funext fun e=>funext fun i=>(Ad ..).trans (j7 N F b c d g l N ad ah f e i)):_)
def vS (a:LA) (h:Ai) (k:KF R):O R :=
 match a,h with
 | [(.imm b c 1 ay d)],[]=>(TU N b c ay d (Cb k))
 | _,_=>none
theorem Ac1:Am N 42 @vS:=by
 intro R Q a h k j;unfold vS;split;exact Az (Ac0 ..) (Ac0 ..) ⟨Ajp N,G6 N,sH N,SY N,xh N,xn N,nw N,Anp N,trivial⟩;exact A2
def Ac2:=A1 (Ac1 N)
def Ac3:=C5 (Ac1 N)
def Axz (N:Nat) (d e:Int) (c:Bool) (b:LA) (r0:Bool→LA→O R):O R :=
 (As .i64 (b.drop 11) fun f=>(cond (f==0) (cond ((Nat.beq 3 3)&&((Nat.ble 11 (b.length))&&(!false))) (r0 (c||false) (Cx b 8 [(.int .i64 d),(.int .i64 e),(.int .i64 0)])) none) (r0 c b)))
def XQ:=(Ah (@Axz R)).1
theorem Aj0:@XQ R=@Axz R:=(Ah _).2
def Asu (F:KF R):Bool→LA→O R:=(fun g i=>F (.tup []) [(100000,(bP g 0 i))])
theorem Asv (d e:Int) (c:Bool) (b:LA) (F:KF R):C2 [] Dc N 233 [(.optr 100000 0),(iv d),(iv e)] [(100000,(bP c 0 b))] F=(XQ N d e c b (Asu F)):=by
 rw[Aj0]
 kernel_rfl
def Aj1 (a:LA) (h:Ai) (k:KF R):O R :=
 match a,h with
 | [(.optr 100000 0),(.int .i64 d),(.int .i64 e)],[(100000,⟨false,false,true,c,0,b,false,none⟩)]=>(XQ N d e c b (Asu k))
 | _,_=>none
theorem Asw:Am N 233 @Aj1:=by
 intro R Q a h k j;unfold Aj1;split;exact Az (Asv ..) (Asv ..) trivial;exact A2
def AM:=A1 (Asw N)
def AN:=C5 (Asw N)
def Ac4 (N:Nat) (e:Bool) (d f:Int) (c:Bool) (b:LA) (r0:Bool→LA→O R):O R :=
 (As .i64 (b.drop 11) fun g=>(cond ((g==0)==true) (cond (cond true (!e) false) (cond ((Nat.beq 1 1)&&((Nat.ble 11 (b.length))&&(!false))) (cond ((Nat.beq 1 1)&&((Nat.ble 12 ((b.set 10 (.int .i64 d)).length))&&(!false))) (r0 ((c||false)||false) ((b.set 10 (.int .i64 d)).set 11 (.int .i64 f))) none) none) (r0 c b)) (r0 c b)))
def A3:=(Ah (@Ac4 R)).1
theorem vT:@A3 R=@Ac4 R:=(Ah _).2
def Ac5 (F:KF R):Bool→LA→O R:=(fun i l=>F (.tup []) [(100000,(bP i 0 l))])
theorem Ac6 (e:Bool) (d f:Int) (c:Bool) (b:LA) (F:KF R):C2 [] Dc N 236 [(.optr 100000 0),(.bool e),(iv d),(iv f)] [(100000,(bP c 0 b))] F=(A3 N e d f c b (Ac5 F)):=by
 rw[vT]
 kernel_rfl
def vU (a:LA) (h:Ai) (k:KF R):O R :=
 match a,h with
 | [(.optr 100000 0),(.bool e),(.int .i64 d),(.int .i64 f)],[(100000,⟨false,false,true,c,0,b,false,none⟩)]=>(A3 N e d f c b (Ac5 k))
 | _,_=>none
theorem Ac7:Am N 236 @vU:=by
 intro R Q a h k j;unfold vU;split;exact Az (Ac6 ..) (Ac6 ..) trivial;exact A2
def De:=A1 (Ac7 N)
def Df:=C5 (Ac7 N)
def lw (b c f g:Int) (d:Bool) (e:LA) (r0:Bool→LA→O R):O R :=
 (cond ((decide (c≥f))==true) (A3 N (cond true (decide (c≤g)) false) b 3 d e (fun i l=>(r0 i l))) (A3 N false b 3 d e (fun m n=>(r0 m n))))
def Bc:=(Ah (@lw R)).1
theorem j8:@Bc R=@lw R:=(Ah _).2
def Asx:Gm:=[(236,De N)]
def oe (F:KF R):Bool→LA→O R:=(fun o p=>F (.tup []) [(100000,(bP o 0 p))])
theorem oh (b c f g:Int) (d:Bool) (e:LA) (F:KF R):C2 (Asx N) Dc N 234 [(.optr 100000 0),(iv b),(iv c),(iv f),(iv g)] [(100000,(bP d 0 e))] F=(Bc N b c f g d e (oe F)):=by
 rw[j8]
 kernel_rfl
def j9 (a:LA) (h:Ai) (k:KF R):O R :=
 match a,h with
 | [(.optr 100000 0),(.int .i64 b),(.int .i64 c),(.int .i64 f),(.int .i64 g)],[(100000,⟨false,false,true,d,0,e,false,none⟩)]=>(Bc N b c f g d e (oe k))
 | _,_=>none
theorem oi:Am N 234 @j9:=by
 intro R Q a h k j;unfold j9;split;exact Az (oh ..) (oh ..) ⟨Df N,trivial⟩;exact A2
def Hs:=A1 (oi N)
def Ht:=C5 (oi N)
def Y2 (r0:Bool→LA→O R) (c d e:Int) (f:LA) (b:Nat) (g i:Bool) (k0:Int→Int→Bool→LA→O R) (p l:Int) (o:Bool) (m:LA):O R :=
 (cond (decide (l<p)) (cond (Ae l b) (As .i64 (f.drop ((l.toNat)*1)) fun s=>(As .i64 (m.drop 11) fun t=>(cond (t != 0) (r0 o m) (Bc N c s d e o m (fun u v=>(k0 p (wrap .i64 (l+1)) u v)))))) none) (r0 o m))
def Nd (r0:Bool→LA→O R) (c d e:Int) (f:LA) (b:Nat) (g i:Bool):Nat→Int→Int→Bool→LA→O R
 | 0,_,_,_,_=>none
 | n+1,p,l,o,m=>(Y2 N r0 c d e f b g i (Nd r0 c d e f b g i n) p l o m)
def TV (r0:Bool→LA→O R) (q0:Int→Int→Bool→LA→O R) (c:Int) (f:LA) (b:Nat) (g i:Bool) (d e:Int) (r:Bool) (q:LA):O R :=
 (As .i64 q fun w=>(A3 N (((b:Nat):Int)==w) c 4 r q (fun x y=>(q0 ((b:Nat):Int) 0 x y))))
def N7:=(Ah (fun (N:Nat) (c:Int) (f:LA) (b:Nat) (g i:Bool) (d e:Int) (r:Bool) (q:LA) (r0:Bool→LA→O R)=>(TV N r0 (fun p l o m=>(Nd N r0 c d e f b g i N p l o m)) c f b g i d e r q))).1
theorem j_ (c f b g i d e r q r0):(@N7 R N c f b g i d e r q r0)=(TV N r0 (fun p l o m=>(Nd N r0 c d e f b g i N p l o m)) c f b g i d e r q):=by rw[N7,(Ah _).2]
def oq:Hints:={ H:=(hS hL (hS hL (hS (hP [0,1,3,4,23,24,25] hL) hL))) }
def vV:Gm:=[(236,De N),(234,Hs N)]
def Anr (F:KF R):=Ko Tryz.f235 oq (vV N) [100000] N F
def Vm (F:KF R):Bool→LA→O R:=(fun z aa=>F (.tup []) [(100000,(bP z 0 aa))])
def Ans (c d e:Int) (f:LA) (b:Nat) (g i:Bool) (p l:Int) (o:Bool) (m:LA):St:=⟨[(0,(.optr 100000 0)),(1,(iv c)),(3,(iv d)),(4,(iv e)),(23,(.imm f b 1 g i)),(24,(iv p)),(25,(iv l))],[(100000,(bP o 0 m))]⟩
def Ant (F:KF R):=Anr N F [1,1,0] []
theorem XR (F:KF R) (c d e:Int) (f:LA) (b:Nat) (g i:Bool):∀ (n:Nat) (p l:Int) (o:Bool) (m:LA),Aj (Ant N F) n (Ans c d e f b g i p l o m)=(Nd N (Vm F) c d e f b g i n p l o m)
 | 0,_,_,_,_=>by kernel_rfl
 | n+1,p,l,o,m=>Eq.trans (by kernel_rfl) (Bu (Y2 N (Vm F) c d e f b g i · p l o m) (funext fun p=>funext fun l=>funext fun o=>funext fun m=>(XR F c d e f b g i n p l o m)):_)
theorem ot (c:Int) (f:LA) (b:Nat) (g i:Bool) (d e:Int) (r:Bool) (q:LA) (F:KF R):C2 (vV N) oq N 235 [(.optr 100000 0),(iv c),(.imm f b 1 g i),(iv d),(iv e)] [(100000,(bP r 0 q))] F=(N7 N c f b g i d e r q (Vm F)):=by
 rw[j_]
 exact Eq.trans (by kernel_rfl) (Bu (TV N (Vm F) · c f b g i d e r q) (funext fun p=>funext fun l=>funext fun o=>funext fun m=>(Ad ..).trans (XR N F c d e f b g i N p l o m)):_)
def ja (a:LA) (h:Ai) (k:KF R):O R :=
 match a,h with
 | [(.optr 100000 0),(.int .i64 c),(.imm f b 1 g i),(.int .i64 d),(.int .i64 e)],[(100000,⟨false,false,true,r,0,q,false,none⟩)]=>(N7 N c f b g i d e r q (Vm k))
 | _,_=>none
theorem ou:Am N 235 @ja:=by
 intro R Q a h k j;unfold ja;split;exact Az (ot ..) (ot ..) ⟨Df N,Ht N,trivial⟩;exact A2
def TW:=A1 (ou N)
def TX:=C5 (ou N)
def KQ (r0:Bool→LA→O R) (c:Bool) (b:LA):O R :=
 (B4 12 (b.drop 3) fun ao r=>(A3 N (decide (((r:Nat):Int)≤64)) 3 8 c b (fun s g=>(B4 22 (g.drop 4) fun ap t=>(A3 N (decide (((t:Nat):Int)≤16)) 4 8 s g (fun u i=>(B4 9 (i.drop 5) fun aq v=>(A3 N (decide (((v:Nat):Int)≤8)) 5 8 u i (fun w l=>(B4 5 (l.drop 6) fun ar x=>(A3 N (decide (((x:Nat):Int)≤8)) 6 8 w l (fun y m=>(B4 4 (m.drop 7) fun au z=>(A3 N (decide (((z:Nat):Int)≤64)) 7 8 y m (fun aa ab=>(r0 aa ab))))))))))))))))
def gF (r0:Bool→LA→O R) (q0:Bool→LA→O R) (d:Bool) (e:LA):O R :=
 (XQ N 0 0 d e (fun ac n=>(As .i64 n fun ad=>(Bc N 0 ad 1 24 ac n (fun o p=>(B4 1 (p.drop 1) fun ae af=>(N7 N 1 ae af false o 0 1048576 o p (fun q f=>(B4 3 (f.drop 2) fun av ag=>(cond ((decide (((ag:Nat):Int)≥1))==true) (B4 3 (f.drop 2) fun aw ah=>(A3 N (cond true (decide (((ah:Nat):Int)≤32)) false) 2 8 q f (fun ai aj=>(q0 ai aj)))) (A3 N false 2 8 q f (fun ak al=>(q0 ak al)))))))))))))
def HR:=(Ah (fun (N:Nat) (d:Bool) (e:LA) (r0:Bool→LA→O R)=>(gF N r0 (fun c b=>(KQ N r0 c b)) d e))).1
theorem ov (d e r0):(@HR R N d e r0)=(gF N r0 (fun c b=>(KQ N r0 c b)) d e):=by rw[HR,(Ah _).2]
def vW:Hints:={ H:=(hS hL (hS hL (hS hL (hJ [0] hL hL)))) }
def Ac8:Gm:=[(233,AM N),(234,Hs N),(235,TW N),(236,De N)]
def Asy (F:KF R):=Ko Tryz.f171 vW (Ac8 N) [100000] N F
def KR (F:KF R):Bool→LA→O R:=(fun am an=>F (.tup []) [(100000,(bP am 0 an))])
def Asz (c:Bool) (b:LA):St:=⟨[(0,(.optr 100000 0))],[(100000,(bP c 0 b))]⟩
def As0 (F:KF R):=Asy N F [1,1,1,1] []
theorem Ac9 (F:KF R):∀ (c:Bool) (b:LA),B9 (As0 N F) (Asz c b)=(KQ N (KR F) c b):=by
 intro c b
 kernel_rfl
theorem vX (d:Bool) (e:LA) (F:KF R):C2 (Ac8 N) vW N 171 [(.optr 100000 0)] [(100000,(bP d 0 e))] F=(HR N d e (KR F)):=by
 rw[ov]
 exact Eq.trans (by kernel_rfl) (Bu (gF N (KR F) · d e) (funext fun c=>funext fun b=>(A4 ..).trans (Ac9 N F c b)):_)
def ow (a:LA) (h:Ai) (k:KF R):O R :=
 match a,h with
 | [(.optr 100000 0)],[(100000,⟨false,false,true,d,0,e,false,none⟩)]=>(HR N d e (KR k))
 | _,_=>none
theorem vY:Am N 171 @ow:=by
 intro R Q a h k j;unfold ow;split;exact Az (vX ..) (vX ..) ⟨AN N,Ht N,TX N,Df N,trivial⟩;exact A2
def As1:=A1 (vY N)
def As2:=C5 (vY N)
def KS (N:Nat) (r0:Bool→O R) (b:List UInt8) (k1:Int→Int→O R) (d c:Int):O R :=
 (cond (decide (c<d)) (cond (Ae c (b.length)) (cond ((decide (((UInt8.toNat (List.getD b (c.toNat) 0):Nat):Int)<97))==false) (cond ((cond false true (decide (((UInt8.toNat (List.getD b (c.toNat) 0):Nat):Int)>122)))==true) (cond ((decide (((UInt8.toNat (List.getD b (c.toNat) 0):Nat):Int)<48))==false) (cond ((cond true (cond false true (decide (((UInt8.toNat (List.getD b (c.toNat) 0):Nat):Int)>57))) false)==true) (cond (cond true (((UInt8.toNat (List.getD b (c.toNat) 0):Nat):Int) != 95) false) (r0 false) (k1 d (wrap .i64 (c+1)))) (k1 d (wrap .i64 (c+1)))) (cond (cond true (((UInt8.toNat (List.getD b (c.toNat) 0):Nat):Int) != 95) false) (r0 false) (k1 d (wrap .i64 (c+1))))) (k1 d (wrap .i64 (c+1)))) (cond ((decide (((UInt8.toNat (List.getD b (c.toNat) 0):Nat):Int)<48))==false) (cond ((cond true (cond false true (decide (((UInt8.toNat (List.getD b (c.toNat) 0):Nat):Int)>57))) false)==true) (cond (cond true (((UInt8.toNat (List.getD b (c.toNat) 0):Nat):Int) != 95) false) (r0 false) (k1 d (wrap .i64 (c+1)))) (k1 d (wrap .i64 (c+1)))) (cond (cond true (((UInt8.toNat (List.getD b (c.toNat) 0):Nat):Int) != 95) false) (r0 false) (k1 d (wrap .i64 (c+1)))))) none) (r0 true))
def Xm (r0:Bool→O R) (b:List UInt8):Nat→Int→Int→O R
 | 0,_,_=>none
 | n+1,d,c=>(KS N r0 b (Xm r0 b n) d c)
def dK (N:Nat) (r0:Bool→O R) (b:List UInt8) (q1:Int→Int→O R):O R :=
 (q1 (((b.length):Nat):Int) 0)
def TY (r0:Bool→O R) (b:List UInt8):O R:=(dK N r0 b (fun d c=>(Xm N r0 b N d c)))
def pA (N:Nat) (r0:Bool→O R) (q0:O R) (b:List UInt8):O R :=
 (cond ((decide ((((b.length):Nat):Int)<1))==false) (cond ((cond false true (decide ((((b.length):Nat):Int)>16)))==false) (cond ((cond false true (b==([99,111,114,114,101,99,116,105,118,101]:List UInt8)))==false) (cond (Ae 0 (b.length)) (cond ((cond false true (decide (((UInt8.toNat (List.getD b 0 0):Nat):Int)<97)))==false) (cond (Ae 0 (b.length)) (cond (cond false true (decide (((UInt8.toNat (List.getD b 0 0):Nat):Int)>122))) (r0 false) q0) none) (r0 false)) none) (r0 false)) (r0 false)) (r0 false))
def Vn:=(Ah (fun (N:Nat) (b:List UInt8) (r0:Bool→O R)=>(pA N r0 (TY N r0 b) b))).1
theorem vZ (b r0):(@Vn R N b r0)=(pA N r0 (TY N r0 b) b):=by rw[Vn,(Ah _).2]
def Ada:Hints:={ H:=(hS hL (hJ [0] hL (hS (hS hL (hS (hP [0,28,29] hL) hL)) hL))) }
def Adb (F:KF R):=Ko Tryz.f284 Ada [] [] N F
def Tq (F:KF R):Bool→O R:=(fun e=>F (.bool e) [])
def Ax0 (b:List UInt8) (d c:Int):St:=⟨[(0,(.str b)),(28,(iv d)),(29,(iv c))],[]⟩
def Ax1 (F:KF R):=Adb N F [1,1,0,1,0] []
def Ax2 (b:List UInt8):St:=⟨[(0,(.str b))],[]⟩
def Ax3 (F:KF R):=Adb N F [1,1] []
theorem jb (F:KF R) (b:List UInt8):∀ (n:Nat) (d c:Int),Aj (Ax1 N F) n (Ax0 b d c)=(Xm N (Tq F) b n d c)
 | 0,_,_=>by kernel_rfl
 | n+1,d,c=>Eq.trans (by kernel_rfl) (Bu (KS N (Tq F) b · d c) (funext fun d=>funext fun c=>(jb F b n d c)):_)
theorem Agq (F:KF R) (b:List UInt8):B9 (Ax3 N F) (Ax2 b)=(TY N (Tq F) b):=by
 exact Eq.trans (by kernel_rfl) (Bu (dK N (Tq F) b ·) (funext fun d=>funext fun c=>(Ad ..).trans (jb N F b N d c)):_)
theorem Adc (b:List UInt8) (F:KF R):C2 [] Ada N 284 [(.str b)] [] F=(Vn N b (Tq F)):=by
 rw[vZ]
 exact Eq.trans (by kernel_rfl) (Bu (pA N (Tq F) · b) ((A4 ..).trans (Agq N F b)):_)
def v6 (a:LA) (h:Ai) (k:KF R):O R :=
 match a,h with
 | [(.str b)],[]=>(Vn N b (Tq k))
 | _,_=>none
theorem Add:Am N 284 @v6:=by
 intro R Q a h k j;unfold v6;split;exact Az (Adc ..) (Adc ..) trivial;exact A2
def Xn:=A1 (Add N)
def Xo:=C5 (Add N)
end
end Gx

namespace Gx.Cf
open Go Go.Proofs
section
variable {R:Type}
def Ade (f:Bool) (H:Nat) (res:List Int) (bs:List BusD) (ls:List LineD) (us:List UnitD) (ss:List StoreD) (ts:List TieD) (os:List OutD):CaseD :=
 ⟨(H:Int),.of res false f,.of bs false f,.of ls false f,.of us false f,.of ss false f,.of ts false f,.of os false f⟩
structure BusG (i H:Nat) (b:BusD):Prop where
 name:b.name=[98,A86.getD i 0]
 dl:b.demand.l.length=H
 dr:∀ x ∈ b.demand.l,0≤x∧x<14
 shed:0≤b.shed∧b.shed<300
structure StoreG (nb:Nat) (x:StoreD):Prop where
 name:x.name=[115,48]
 bus:0≤x.bus∧x.bus<(nb:Int)
 cap:0≤x.capacity∧x.capacity<20
 ini:0≤x.initial∧x.initial≤x.capacity
 fin:0≤x.final∧x.final≤x.capacity
 ch:0≤x.charge∧x.charge<8
 dis:0≤x.discharge∧x.discharge<8
 eff:1≤x.eff.num∧x.eff.num≤4∧x.eff.den=4
structure TieG (nb H:Nat) (x:TieD):Prop where
 name:x.name=[116,48]
 bus:0≤x.bus∧x.bus<(nb:Int)
 il:x.imp.l.length=H
 ir:∀ y ∈ x.imp.l,0≤y∧y<12
 el:x.exp.l.length=H
 er:∀ y ∈ x.exp.l,0≤y∧y<12
 pl:x.price.l.length=H
 pr:∀ y ∈ x.price.l,0≤y∧y<40
structure LineH (nb:Nat) (i:Nat) (H:Int) (x:LineD):Prop where
 g:LineG i x.fr x.tl H x
 fr:0≤x.fr∧x.fr<(nb:Int)
 tx:0≤x.tl∧x.tl<(nb:Int)
 ne:x.fr≠x.tl
structure BaseG (H:Nat) (res:List Int) (bs:List BusD) (ls:List LineD) (us:List UnitD) (ss:List StoreD) (ts:List TieD):Prop where
 h:1≤H∧H≤3
 rl:res.length=H
 rr:∀ x ∈ res,0≤x∧x<5
 bl:1≤bs.length∧bs.length≤4
 bg:∀ i (h:i<bs.length),BusG i H bs[i]
 ll:ls.length≤7
 lg:∀ i (h:i<ls.length),LineH bs.length i H ls[i]
 ul:1≤us.length∧us.length≤3
 ug:∀ i (h:i<us.length),UnitG i bs.length H us[i]
 sl:ss.length≤1
 sg:∀ x ∈ ss,StoreG bs.length x
 tl:ts.length≤1
 tg:∀ x ∈ ts,TieG bs.length H x
structure OutsG (nl nu:Nat) (os:List OutD):Prop where
 l:os.length≤3
 g:∀ i (h:i<os.length),OutG i nl nu os[i]
theorem Aj2 {N:Nat} (hN:4096≤N) {f:Bool} {H:Nat} {d:List Int} {bs:List BusD} {ls:List LineD} {us:List UnitD} {ss:List StoreD} {ts:List TieD} {os:List OutD} (b:BaseG H d bs ls us ss ts) (g:OutsG ls.length us.length os):Small (Ade f H d bs ls us ss ts os) N:=by
 have h:=b.h;have rl:=b.rl;have bl:=b.bl;have ll:=b.ll;have ul:=b.ul;have sl:=b.sl;have tl:=b.tl;have ol:=g.l
 have fit:∀ n:Nat,n≤100→Fq n N:=fun n hn=>⟨by omega,by omega⟩
 refine⟨by omega,fit _ (by simp only[Ade,Sl.l];omega),fit _ (by simp only[Ade,Sl.l];omega),fit _ (by simp only[Ade,Sl.l];omega),fit _ (by simp only[Ade,Sl.l];omega),fit _ (by simp only[Ade,Sl.l];omega),fit _ (by simp only[Ade,Sl.l];omega),fit _ (by simp only[Ade,Sl.l];omega),
  fun x c=>?_,fun x c=>?_,fun x c=>?_,fun x c=>?_,fun x c=>?_,fun x c=>?_,fun x c=>?_,fun x c=>?_,fun x c=>?_,fun x c=>?_,by simp only[Ade,Sl.l];omega⟩
 all_goals simp only[Ade,Sl.l] at c
 ·obtain⟨i,hi,rfl⟩:=List.getElem_of_mem c;have:=(b.bg i hi).dl;exact fit _ (by omega)
 ·obtain⟨i,hi,rfl⟩:=List.getElem_of_mem c;have:=(b.lg i hi).g.aw;exact fit _ (by omega)
 ·obtain⟨i,hi,rfl⟩:=List.getElem_of_mem c;have:=(b.ug i hi).sl;exact fit _ (by omega)
 ·obtain⟨i,hi,rfl⟩:=List.getElem_of_mem c;have:=(b.ug i hi).aw;exact fit _ (by omega)
 ·have:=(b.tg x c).il;exact fit _ (by omega)
 ·have:=(b.tg x c).el;exact fit _ (by omega)
 ·have:=(b.tg x c).pl;exact fit _ (by omega)
 ·obtain⟨i,hi,rfl⟩:=List.getElem_of_mem c;have:=(g.g i hi).ll;exact fit _ (by omega)
 ·obtain⟨i,hi,rfl⟩:=List.getElem_of_mem c;have:=(g.g i hi).ml;exact fit _ (by omega)
 ·obtain⟨i,hi,rfl⟩:=List.getElem_of_mem c;have:=(g.g i hi).ml;omega
theorem A4j {α:Type} {e:α→LA} {sz:Nat} (b:∀ a,(e a).length=sz) (l:List α):(l.flatMap e).length=l.length*sz:=by
 induction l with
 | nil=>simp
 | cons a r c=>rw[List.flatMap_cons,List.length_append,c,b,List.length_cons,Nat.add_mul];omega
theorem Cg {α:Type} {e:α→LA} {sz n:Nat} (b:∀ a,(e a).length=sz) (l:List α) (hn:n=l.length):List.take (n*sz) (l.flatMap e)=l.flatMap e:=List.take_of_length_le (by rw[A4j b,hn];exact Nat.le_refl _)
theorem P0 {B:List Int} {n:Nat} (h:n=B.length):List.take (n*1) (Ao B)=B.flatMap ZN:=by rw[h];exact Xk
theorem dL {α:Type} {P:Nat→α→Prop} {l:List α} {x:α} (h:∀ i (h:i<l.length),P i l[i]) (c:P l.length x):∀ i (h:i<(l++[x]).length),P i (l++[x])[i]:=by
 intro i hi
 by_cases b:i<l.length
 ·rw[List.getElem_append_left b];exact h i b
 ·have:i=l.length:=by simp at hi;omega
  subst this
  simpa using c
theorem Ax4 {p:C6} (h:(Bt p==0)=true):p=none:=by
 rcases p with _ | ⟨x,e,b⟩
 ·rfl
 ·simp[Bt] at h;exact absurd h b
theorem Anu {N:Nat} {l:List Int} {o:Bool} (hN:4096≤N) (s:l.length≤9223372036854775807) {H:Nat} {d:List Int} {bs:List BusD} {ls:List LineD} {us:List UnitD} {ss:List StoreD} {ts:List TieD} (b:BaseG H d bs ls us ss ts):∀ (n fuel k:Nat) (os:List OutD),n<fuel→k≤l.length→os.length+n≤3→OutsG ls.length us.length os→(os=[]∨Ca (Ade true H d bs ls us ss ts os)=none) →
  ∃ e,OutsG ls.length us.length e∧(e=[]∨Ca (Ade true H d bs ls us ss ts e)=none)∧∀ K:LA→O R,I0 N K (Ao l) l.length o (H:Int) d.length bs.length ls.length us.length ss.length ts.length (Ao d) (bs.flatMap BusD.av) (ls.flatMap LineD.av) (us.flatMap UnitD.av) (ss.flatMap StoreD.av) (ts.flatMap TieD.av) fuel (n:Int) (k:Int) os.length (os.flatMap OutD.av)=K (Ade false H d bs ls us ss ts e).av
 | 0,fuel+1,k,os,_,u,_,g,m=>by
  refine⟨os,g,m,fun K=>?_⟩
  rw[I0];unfold AI
  rw[show decide (((0:Nat):Int)>0)=false from rfl,P0 rfl,Cg Lp _ rfl,Cg Cd _ rfl,Cg Dn _ rfl,Cg F9 _ rfl,Cg Lq _ rfl,Cg Dg _ rfl]
  rfl
 | n+1,fuel+1,k,os,I,u,hn,g,m=>by
  by_cases v:ls.length=0
  ·refine⟨os,g,m,fun K=>?_⟩
   rw[I0];unfold AI
   rw[show decide ((ls.length:Int)>0)=false from decide_eq_false (by omega),show decide (((n+1:Nat):Int)>0)=true from decide_eq_true (by omega),P0 rfl,Cg Lp _ rfl,Cg Cd _ rfl,Cg Dn _ rfl,Cg F9 _ rfl,Cg Lq _ rfl,Cg Dg _ rfl]
   rfl
  ·have y:=b.ul;have z:=b.ll
   obtain⟨x,q,gx,j,A⟩:=Ast (R:=R) (N:=N) (t:=false) (o:=o) (by omega) s (i:=os.length) (nl:=ls.length) (nu:=us.length) (by omega) (by omega) (by omega) k u
   have g':OutsG ls.length us.length (os++[x]):=⟨by simp;omega,dL g.g gx⟩
   have sm:=Aj2 (f:=true) hN b g'
   have wn:IntKind.wrap .i64 (((n+1:Nat):Int) - 1)=(n:Int):=oQ (by omega)
   have step:∀ K:LA→O R,I0 N K (Ao l) l.length o (H:Int) d.length bs.length ls.length us.length ss.length ts.length (Ao d) (bs.flatMap BusD.av) (ls.flatMap LineD.av) (us.flatMap UnitD.av) (ss.flatMap StoreD.av) (ts.flatMap TieD.av) (fuel+1) ((n+1:Nat):Int) (k:Int) os.length (os.flatMap OutD.av) =
     cond (Bt (Ca (Ade true H d bs ls us ss ts (os++[x])))==0)
      (I0 N K (Ao l) l.length o (H:Int) d.length bs.length ls.length us.length ss.length ts.length (Ao d) (bs.flatMap BusD.av) (ls.flatMap LineD.av) (us.flatMap UnitD.av) (ss.flatMap StoreD.av) (ts.flatMap TieD.av) fuel (n:Int) (q:Int) (os++[x]).length ((os++[x]).flatMap OutD.av))
      (I0 N K (Ao l) l.length o (H:Int) d.length bs.length ls.length us.length ss.length ts.length (Ao d) (bs.flatMap BusD.av) (ls.flatMap LineD.av) (us.flatMap UnitD.av) (ss.flatMap StoreD.av) (ts.flatMap TieD.av) fuel (n:Int) (q:Int) os.length (os.flatMap OutD.av)):=fun K=>by
    rw[I0];unfold AI TS
    have c1:(Nat.ble (0+os.length) 140737488355328&&Nat.ble ((0+os.length)*72) 140737488355328)=true:=by rw[Bq,Bq];simp;omega
    have C:(Nat.ble ((0+os.length)+1) 140737488355328&&Nat.ble (((0+os.length)+1)*72) 140737488355328)=true:=by rw[Bq,Bq];simp;omega
    have D:List.take ((0+os.length)*4) (List.take (os.length*4) (os.flatMap OutD.av))++List.take 4 (setCells [(.str ([]:List UInt8)),.nsl,(.bool false),.nsl] 0 (List.take 4 x.av))=(os++[x]).flatMap OutD.av:=by
     rw[Nat.zero_add,Cg Dg _ rfl,Cg Dg _ rfl]
     simp only[List.flatMap_append,List.flatMap_cons,List.flatMap_nil,List.append_nil]
     rfl
    have F:List.take (((0+os.length)+1)*4) ((os++[x]).flatMap OutD.av)=(os++[x]).flatMap OutD.av:=Cg Dg _ (by simp)
    have G:(0+os.length)+1=(os++[x]).length:=by simp
    rw[show decide ((ls.length:Int)>0)=true from decide_eq_true (by omega),show decide (((n+1:Nat):Int)>0)=true from decide_eq_true (by omega)]
    simp only[beq_self_eq_true,cond_true]
    rw[A,show((Nat.beq 0 0)&&((Nat.beq (List.length x.av) 4)&&(Nat.beq 4 4)))=true from rfl,ct,c1,ct,show Nat.ble 4 (List.length x.av)=true from rfl,ct,show((Nat.beq (List.length (List.take 4 x.av)) 4)&&(Nat.ble 4 4))=true from rfl,ct,C,ct,D,F,G,P0 rfl,Cg Lp _ rfl,Cg Cd _ rfl,Cg Dn _ rfl,Cg F9 _ rfl,Cg Lq _ rfl]
    refine Eq.trans (Acs (R:=R) (N:=N) (c:=Ade true H d bs ls us ss ts (os++[x])) (o:=true) sm hN) ?_
    rw[A7g,show((Nat.beq 3 3)&&((Nat.ble 3 3)&&(!false)))=true from rfl,ct,wn]
   cases hq:Bt (Ca (Ade true H d bs ls us ss ts (os++[x])))==0 with
   | true =>
    obtain⟨e,a1,a2,a3⟩:=Anu hN s b n fuel q (os++[x]) (by omega) j (by simp;omega) g' (.inr (Ax4 hq))
    exact⟨e,a1,a2,fun K=>by rw[step,hq,ct,a3]⟩
   | false =>
    obtain⟨e,a1,a2,a3⟩:=Anu hN s b n fuel q os (by omega) j (by omega) g m
    exact⟨e,a1,a2,fun K=>by rw[step,hq,cf,a3]⟩
end
end Gx.Cf
