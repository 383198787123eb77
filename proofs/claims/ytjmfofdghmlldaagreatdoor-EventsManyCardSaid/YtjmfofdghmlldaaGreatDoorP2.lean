/- A part of the proof: what it holds is said by each theorem. -/
import Derived.Test.YtjmfofdghmlldaaGreatDoorP1
set_option linter.unusedVariables false
set_option linter.defProp false
set_option linter.unusedSimpArgs false
namespace Gx
open Go Go.Proofs
open IntKind (wrap)
set_option maxRecDepth 100000
noncomputable section
variable {R:Type} (N:Nat)
def Ai9 (N:Nat) (b:LA) (c:Nat) (d e:Bool) (r0:O R):O R :=
 r0
def Aja:=(Ai (@Ai9 R)).1
theorem y_:@Aja R=@Ai9 R:=(Ai _).2
def Af6 (b:LA) (c:Nat) (d e:Bool) (F:KF R):O R:=F (op 0) (hq [(bN 0 [(.imm b c 1 d e),(iv 0)])])
theorem Af7 (b:LA) (c:Nat) (d e:Bool) (F:KF R):C7 [] Dx N 96 [(.imm b c 1 d e)] [] F=(Aja N b c d e (Af6 b c d e F)):=by
 rw[y_]
 kernel_rfl
def ya (a:LA) (h:Aj) (k:KF R):O R :=
 match a,h with
 | [(.imm b c 1 d e)],[]=>(Aja N b c d e (Af6 b c d e k))
 | _,_=>none
theorem Af8:An N 96 @ya:=by
 intro R Q a h k j;unfold ya;split;exact A3 (Af7 ..) (Af7 ..) trivial;exact A5
def Ayq:=A4 (Af8 N)
def Ayr:=C8 (Af8 N)
def va (N:Nat) (c b:Int) (r0:Int→O R):O R :=
 (cond ((wrap .u64 b)==0) none (r0 (wrap .i64 (Int.tmod (wrap .u64 c) (wrap .u64 b)))))
def Z6:=(Ai (@va R)).1
theorem j9:@Z6 R=@va R:=(Ai _).2
def Af9 (F:KF R):Int→O R:=(fun d=>F (iv d) [])
theorem Aga (c b:Int) (F:KF R):C7 [] Dx N 43 [(iv c),(iv b)] [] F=(Z6 N c b (Af9 F)):=by
 rw[j9]
 kernel_rfl
def yb (a:LA) (h:Aj) (k:KF R):O R :=
 match a,h with
 | [(.int .i64 c),(.int .i64 b)],[]=>(Z6 N c b (Af9 k))
 | _,_=>none
theorem Agb:An N 43 @yb:=by
 intro R Q a h k j;unfold yb;split;exact A3 (Aga ..) (Aga ..) trivial;exact A5
def pp:=A4 (Agb N)
def pq:=C8 (Agb N)
def Xm (g:Int) (c:LA) (b:Nat) (e f:Bool) (d:Int) (r0:Int→Int→O R):O R :=
 (cond (decide (d≥((b:Nat):Int))) (r0 0 d) (cond (Ah (wrap .i64 ((wrap .i64 (d+1)) - 1)) b) (At .i64 (c.drop (((wrap .i64 ((wrap .i64 (d+1)) - 1)).toNat)*1)) fun i=>(Z6 N i g (fun l=>(r0 l (wrap .i64 (d+1)))))) none))
def Ad:=(Ai (@Xm R)).1
theorem We:@Ad R=@Xm R:=(Ai _).2
def yc:Gm:=[(43,pp N)]
def TH (c:LA) (b:Nat) (e f:Bool) (F:KF R):Int→Int→O R:=(fun m n=>F (iv m) [(100000,(bN 0 [(.imm c b 1 e f),(iv n)]))])
theorem TI (g:Int) (c:LA) (b:Nat) (e f:Bool) (d:Int) (F:KF R):C7 (yc N) Dx N 97 [(.optr 100000 0),(iv g)] [(100000,(bN 0 [(.imm c b 1 e f),(iv d)]))] F=(Ad N g c b e f d (TH c b e f F)):=by
 rw[We]
 kernel_rfl
def ME (a:LA) (h:Aj) (k:KF R):O R :=
 match a,h with
 | [(.optr 100000 0),(.int .i64 g)],[(100000,⟨false,false,false,false,0,[(.imm c b 1 e f),(.int .i64 d)],false,none⟩)]=>(Ad N g c b e f d (TH c b e f k))
 | _,_=>none
theorem TJ:An N 97 @ME:=by
 intro R Q a h k j;unfold ME;split;exact A3 (TI ..) (TI ..) ⟨pq N,trivial⟩;exact A5
def Jc:=A4 (TJ N)
def Jd:=C8 (TJ N)
def N2 (r0:Nat→Int→LA→O R) (f g:Int) (b:LA) (c:Nat) (d e:Bool) (k0:Nat→Int→Int→LA→O R) (i:Nat) (l m:Int) (o:LA):O R :=
 (cond (decide (l<f)) (Ad N g b c d e m (fun q r=>(cond ((Nat.ble (i+1) 140737488355328)&&(Nat.ble ((i+1)*8) 140737488355328)) (k0 (i+1) (wrap .i64 (l+1)) r ((o.take (i*1))++[(.int .i64 q)])) none))) (r0 i m o))
def Fw (r0:Nat→Int→LA→O R) (f g:Int) (b:LA) (c:Nat) (d e:Bool):Nat→Nat→Int→Int→LA→O R
 | 0,_,_,_,_=>none
 | n+1,i,l,m,o=>(N2 N r0 f g b c d e (Fw r0 f g b c d e n) i l m o)
def T9 (N:Nat) (r0:Nat→Int→LA→O R) (q0:Nat→Int→Int→LA→O R) (f g:Int) (b:LA) (c:Nat) (d e:Bool) (p:Int):O R :=
 (q0 0 0 p [])
def Eu:=(Ai (fun (N:Nat) (f g:Int) (b:LA) (c:Nat) (d e:Bool) (p:Int) (r0:Nat→Int→LA→O R)=>(T9 N r0 (fun i l m o=>(Fw N r0 f g b c d e N i l m o)) f g b c d e p))).1
theorem HI (f g b c d e p r0):(@Eu R N f g b c d e p r0)=(T9 N r0 (fun i l m o=>(Fw N r0 f g b c d e N i l m o)) f g b c d e p):=by rw[Eu,(Ai _).2]
def MF:Hints:={ H:=(hS hL (hS hL (hS (hS hL (hS (hP [0,1,2,7,8] hL) hL)) hL))),nils:=[(6,1),(7,1)],modes:=[(2,1)] }
def TK:Gm:=[(97,Jc N)]
def pt (F:KF R):=Ki Tryz.f98 MF (TK N) [100000] N F
def Kz (b:LA) (c:Nat) (d e:Bool) (F:KF R):Nat→Int→LA→O R:=(fun s t u=>F (.own 300000 0 s) [(100000,(bN 0 [(.imm b c 1 d e),(iv t)])),(300000,(bQ 1 u))])
def pu (f g:Int) (b:LA) (c:Nat) (d e:Bool) (i:Nat) (l m:Int) (o:LA):St:=⟨[(0,(.optr 100000 0)),(1,(iv f)),(2,(iv g)),(7,(.own 300000 0 i)),(8,(iv l))],[(100000,(bN 0 [(.imm b c 1 d e),(iv m)])),(300000,(bQ 1 o))]⟩
def pv (F:KF R):=pt N F [1,1,0,1,0] []
theorem AG (F:KF R) (f g:Int) (b:LA) (c:Nat) (d e:Bool):∀ (n i:Nat) (l m:Int) (o:LA),Ak (pv N F) n (pu f g b c d e i l m o)=(Fw N (Kz b c d e F) f g b c d e n i l m o)
 | 0,_,_,_,_=>by kernel_rfl
 | n+1,i,l,m,o=>Eq.trans (by kernel_rfl) (Bv (N2 N (Kz b c d e F) f g b c d e · i l m o) (funext fun i=>funext fun l=>funext fun m=>funext fun o=>(AG F f g b c d e n i l m o)):_)
theorem MG (f g:Int) (b:LA) (c:Nat) (d e:Bool) (p:Int) (F:KF R):C7 (TK N) MF N 98 [(.optr 100000 0),(iv f),(iv g)] [(100000,(bN 0 [(.imm b c 1 d e),(iv p)]))] F=(Eu N f g b c d e p (Kz b c d e F)):=by
 rw[HI]
 exact Eq.trans (by kernel_rfl) (Bv (T9 N (Kz b c d e F) · f g b c d e p) (funext fun i=>funext fun l=>funext fun m=>funext fun o=>(Ac ..).trans (AG N F f g b c d e N i l m o)):_)
def HJ (a:LA) (h:Aj) (k:KF R):O R :=
 match a,h with
 | [(.optr 100000 0),(.int .i64 f),(.int .i64 g)],[(100000,⟨false,false,false,false,0,[(.imm b c 1 d e),(.int .i64 p)],false,none⟩)]=>(Eu N f g b c d e p (Kz b c d e k))
 | _,_=>none
theorem MH:An N 98 @HJ:=by
 intro R Q a h k j;unfold HJ;split;exact A3 (MG ..) (MG ..) ⟨Jd N,trivial⟩;exact A5
def pw:=A4 (MH N)
def pz:=C8 (MH N)
def yd (N:Nat) (c:List UInt8) (b:Int) (r0:List UInt8→O R):O R :=
 (cond ((decide (0≤(Int.tmod b 16)))&&((decide ((Int.tmod b 16)≤(wrap .i64 ((Int.tmod b 16)+1))))&&((decide ((wrap .i64 ((Int.tmod b 16)+1))≤16))&&(decide ((16:Int)≤(16:Int)))))) (cond (Nat.ble ((c.length)+(List.length (List.take (((wrap .i64 ((Int.tmod b 16)+1)).toNat) - ((Int.tmod b 16).toNat)) (List.drop ((Int.tmod b 16).toNat) ([48,49,50,51,52,53,54,55,56,57,97,98,99,100,101,102]:List UInt8))))) 140737488355328) (r0 (c++(List.take (((wrap .i64 ((Int.tmod b 16)+1)).toNat) - ((Int.tmod b 16).toNat)) (List.drop ((Int.tmod b 16).toNat) ([48,49,50,51,52,53,54,55,56,57,97,98,99,100,101,102]:List UInt8))))) none) none)
def HK:=(Ai (@yd R)).1
theorem sL:@HK R=@yd R:=(Ai _).2
def ye (F:KF R):List UInt8→O R:=(fun d=>F (.str d) [])
theorem yf (c:List UInt8) (b:Int) (F:KF R):C7 [] Dx N 99 [(.str c),(iv b)] [] F=(HK N c b (ye F)):=by
 rw[sL]
 kernel_rfl
def sM (a:LA) (h:Aj) (k:KF R):O R :=
 match a,h with
 | [(.str c),(.int .i64 b)],[]=>(HK N c b (ye k))
 | _,_=>none
theorem yg:An N 99 @sM:=by
 intro R Q a h k j;unfold sM;split;exact A3 (yf ..) (yf ..) trivial;exact A5
def QG:=A4 (yg N)
def QH:=C8 (yg N)
def Xn (f:Int) (b:LA) (c:Nat) (d e:Bool) (g:Int) (r0:Nat→Int→LA→O R):O R :=
 (Ad N 6 b c d e g (fun l i=>(cond (l==5) (Ad N f b c d e i (fun m n=>(r0 1 n [(.int .i64 m)]))) (r0 0 i []))))
def L6:=(Ai (@Xn R)).1
theorem Wf:@L6 R=@Xn R:=(Ai _).2
def ur:Hints:={ H:=hL,nils:=[(4,1)],modes:=[(2,1)] }
def yh:Gm:=[(97,Jc N)]
def TL (b:LA) (c:Nat) (d e:Bool) (F:KF R):Nat→Int→LA→O R:=(fun o p q=>F (.own 300000 0 o) [(100000,(bN 0 [(.imm b c 1 d e),(iv p)])),(300000,(bQ 1 q))])
theorem TM (f:Int) (b:LA) (c:Nat) (d e:Bool) (g:Int) (F:KF R):C7 (yh N) ur N 157 [(.optr 100000 0),(iv f)] [(100000,(bN 0 [(.imm b c 1 d e),(iv g)]))] F=(L6 N f b c d e g (TL b c d e F)):=by
 rw[Wf]
 kernel_rfl
def MI (a:LA) (h:Aj) (k:KF R):O R :=
 match a,h with
 | [(.optr 100000 0),(.int .i64 f)],[(100000,⟨false,false,false,false,0,[(.imm b c 1 d e),(.int .i64 g)],false,none⟩)]=>(L6 N f b c d e g (TL b c d e k))
 | _,_=>none
theorem TN:An N 157 @MI:=by
 intro R Q a h k j;unfold MI;split;exact A3 (TM ..) (TM ..) ⟨Jd N,trivial⟩;exact A5
def TO:=A4 (TN N)
def TP:=C8 (TN N)
def Xo (l f g i:Int) (b:LA) (c:Nat) (d e:Bool) (m:Int) (r0:LA→Int→O R):O R :=
 (HK N ([108]:List UInt8) l (fun o=>(Ad N 4 b c d e m (fun p v=>(Ad N 2 b c d e v (fun q w=>(Ad N 40 b c d e w (fun n x=>(Ad N 20 b c d e x (fun r y=>(Ad N 5 b c d e y (fun z s=>(cond (z==4) (Ad N 4 b c d e s (fun aa ab=>(Ad N 2 b c d e ab (fun ac ad=>(Ad N 4 b c d e ad (fun ae af=>(L6 N i b c d e af (fun t ag ah=>(r0 [(.str o),(.int .i64 f),(.int .i64 g),(.int .i64 (wrap .i64 (1+p))),(.int .i64 (wrap .i64 (1+q))),(.int .i64 (wrap .i64 ((0:Int) - aa))),(.int .i64 (wrap .i64 (1+ac))),(.int .i64 ae),(.int .i64 1),(.int .i64 (wrap .i64 (4+n))),(.int .i64 (wrap .i64 ((wrap .i64 (4+n))+r))),(.imm (ah.take (t*1)) t 1 false false)] ag))))))))) (L6 N i b c d e s (fun u ai aj=>(r0 [(.str o),(.int .i64 f),(.int .i64 g),(.int .i64 (wrap .i64 (1+p))),(.int .i64 (wrap .i64 (1+q))),(.int .i64 0),(.int .i64 1),(.int .i64 0),(.int .i64 1),(.int .i64 (wrap .i64 (4+n))),(.int .i64 (wrap .i64 ((wrap .i64 (4+n))+r))),(.imm (aj.take (u*1)) u 1 false false)] ai))))))))))))))))
def Qc:=(Ai (@Xo R)).1
theorem Wg:@Qc R=@Xo R:=(Ai _).2
def ut:Hints:={ H:=hL,modes:=[(3,0)],cob:=[28] }
def yi:Gm:=[(99,QG N),(97,Jc N),(157,TO N)]
def TQ (b:LA) (c:Nat) (d e:Bool) (F:KF R):LA→Int→O R:=(fun ak al=>F (.pagg ak false) [(100000,(bN 0 [(.imm b c 1 d e),(iv al)]))])
theorem TR (l f g i:Int) (b:LA) (c:Nat) (d e:Bool) (m:Int) (F:KF R):C7 (yi N) ut N 100 [(.optr 100000 0),(iv l),(iv f),(iv g),(iv i)] [(100000,(bN 0 [(.imm b c 1 d e),(iv m)]))] F=(Qc N l f g i b c d e m (TQ b c d e F)):=by
 rw[Wg]
 kernel_rfl
def MJ (a:LA) (h:Aj) (k:KF R):O R :=
 match a,h with
 | [(.optr 100000 0),(.int .i64 l),(.int .i64 f),(.int .i64 g),(.int .i64 i)],[(100000,⟨false,false,false,false,0,[(.imm b c 1 d e),(.int .i64 m)],false,none⟩)]=>(Qc N l f g i b c d e m (TQ b c d e k))
 | _,_=>none
theorem TS:An N 100 @MJ:=by
 intro R Q a h k j;unfold MJ;split;exact A3 (TR ..) (TR ..) ⟨QH N,Jd N,TP N,trivial⟩;exact A5
def uu:=A4 (TS N)
def uv:=C8 (TS N)
def M6 (r0:LA→Int→O R) (b:LA) (c:Nat) (d e:Bool) (y:Int) (l:List UInt8) (m f i:Int) (g:Nat) (o z aa ab ac x u ad ae af:Int) (v:Nat) (w:Int) (p ag:LA) (ah ai aj ak:Int):O R :=
 (cond (w==2) (Ad N (wrap .i64 ((wrap .i64 (i - f))+1)) b c d e y (fun av aw=>(r0 [(.str l),(.int .i64 m),(.int .i64 f),(.int .i64 i),(.imm (p.take (g*2)) g 2 false false),(.int .i64 o),(.int .i64 z),(.int .i64 aa),(.int .i64 ah),(.int .i64 ai),(.int .i64 ab),(.int .i64 ac),(.int .i64 x),(.int .i64 u),(.int .i64 aj),(.int .i64 ad),(.int .i64 ae),(.int .i64 af),(.imm (ag.take (v*1)) v 1 false false),(.int .i64 w),(.int .i64 ak),(.int .i64 (wrap .i64 (f+av)))] aw))) (r0 [(.str l),(.int .i64 m),(.int .i64 f),(.int .i64 i),(.imm (p.take (g*2)) g 2 false false),(.int .i64 o),(.int .i64 z),(.int .i64 aa),(.int .i64 ah),(.int .i64 ai),(.int .i64 ab),(.int .i64 ac),(.int .i64 x),(.int .i64 u),(.int .i64 aj),(.int .i64 ad),(.int .i64 ae),(.int .i64 af),(.imm (ag.take (v*1)) v 1 false false),(.int .i64 w),(.int .i64 ak),(.int .i64 0)] y))
def Qd (r0:LA→Int→O R) (q:Int) (b:LA) (c:Nat) (d e:Bool) (l:List UInt8) (m f o:Int) (k0:Int→Int→Int→Int→Nat→LA→O R) (q1:Int→Int→Int→Int→Int→Int→Int→Int→Int→Int→Nat→Int→LA→Int→Int→Int→Int→O R) (r s t i:Int) (g:Nat) (p:LA):O R :=
 (cond (decide (s>0)) (Ad N 15 b c d e t (fun ao ax=>(cond ((Nat.ble (g+1) 140737488355328)&&(Nat.ble ((g+1)*16) 140737488355328)) (Ad N 10 b c d e ax (fun ay az=>(k0 (wrap .i64 (r+ay)) (wrap .i64 (s - 1)) az (wrap .i64 (i+(wrap .i64 (1+ao)))) (g+1) ((p.take (g*2))++[(.int .i64 (wrap .i64 (1+ao))),(.int .i64 r)])))) none))) (Ad N 20 b c d e t (fun z ba=>(Ad N 20 b c d e ba (fun aa bb=>(Ad N (wrap .i64 ((wrap .i64 (i - f))+1)) b c d e bb (fun ap bc=>(Ad N (wrap .i64 ((wrap .i64 (i - f))+1)) b c d e bc (fun aq bd=>(Ad N 3 b c d e bd (fun ab be=>(Ad N 3 b c d e be (fun ac bf=>(Ad N 2 b c d e bf (fun x bg=>(Ad N 30 b c d e bg (fun u bh=>(Ad N 30 b c d e bh (fun ar bi=>(Ad N 4 b c d e bi (fun ad bj=>(Ad N 8 b c d e bj (fun ae bk=>(Ad N 4 b c d e bk (fun af bl=>(L6 N q b c d e bl (fun v bm ag=>(Ad N (wrap .i64 (2+x)) b c d e bm (fun au bn=>(cond (Ah au 3) (At .i64 (List.drop (0+((au.toNat)*1)) [(.int .i64 0),(.int .i64 2),(.int .i64 1)]) fun w=>(Ad N 4 b c d e bn (fun bo y=>(cond (w==1) (q1 y z aa ab ac x u ad ae af v w ag (wrap .i64 (f+ap)) (wrap .i64 (f+aq)) (wrap .i64 (u+ar)) 1) (q1 y z aa ab ac x u ad ae af v w ag (wrap .i64 (f+ap)) (wrap .i64 (f+aq)) (wrap .i64 (u+ar)) (wrap .i64 (1+bo))))))) none))))))))))))))))))))))))))))))
def Fi (r0:LA→Int→O R) (q:Int) (b:LA) (c:Nat) (d e:Bool) (l:List UInt8) (m f o:Int):Nat→Int→Int→Int→Int→Nat→LA→O R
 | 0,_,_,_,_,_,_=>none
 | n+1,r,s,t,i,g,p=>(Qd N r0 q b c d e l m f o (Fi r0 q b c d e l m f o n) (fun y z aa ab ac x u ad ae af v w ag ah ai aj ak=>(M6 N r0 b c d e y l m f i g o z aa ab ac x u ad ae af v w p ag ah ai aj ak)) r s t i g p)
def Xp (r0:LA→Int→O R) (q0:List UInt8→Int→Int→Int→Int→Int→Int→Int→Nat→LA→O R) (al am q:Int) (b:LA) (c:Nat) (d e:Bool) (an:Int):O R :=
 (HK N ([117]:List UInt8) al (fun l=>(Ad N am b c d e an (fun m bp=>(Ad N 8 b c d e bp (fun f bq=>(Ad N 20 b c d e bq (fun o br=>(Ad N 20 b c d e br (fun bs bt=>(Ad N 2 b c d e bt (fun bu bv=>(q0 l m f o (wrap .i64 (bs - 2)) (wrap .i64 (1+bu)) bv f 0 [])))))))))))))
def Qe:=(Ai (fun (N:Nat) (al am q:Int) (b:LA) (c:Nat) (d e:Bool) (an:Int) (r0:LA→Int→O R)=>(Xp N r0 (fun l m f o r s t i g p=>(Fi N r0 q b c d e l m f o N r s t i g p)) al am q b c d e an))).1
theorem MK (al am q b c d e an r0):(@Qe R N al am q b c d e an r0)=(Xp N r0 (fun l m f o r s t i g p=>(Fi N r0 q b c d e l m f o N r s t i g p)) al am q b c d e an):=by rw[Qe,(Ai _).2]
def TT:Hints:={ H:=(hS hL (hS hL (hS hL (hS hL (hS (hS hL (hS (hP [0,3,8,9,10,11] hL) hL)) (hS hL (hS hL (hS hL (hS hL (hS hL (hS hL (hS hL (hS hL (hJ [0,8,9] hL hL)))))))))))))),modes:=[(3,0)],cob:=[22] }
def ZO:Gm:=[(99,QG N),(97,Jc N),(157,TO N)]
def TU (F:KF R):=Ki Tryz.f101 TT (ZO N) [100000] N F
def Je (b:LA) (c:Nat) (d e:Bool) (F:KF R):LA→Int→O R:=(fun bw bx=>F (.pagg bw false) [(100000,(bN 0 [(.imm b c 1 d e),(iv bx)]))])
def uw (b:LA) (c:Nat) (d e:Bool) (y:Int) (l:List UInt8) (m f i:Int) (g:Nat) (o z aa ab ac x u ad ae af:Int) (v:Nat) (w:Int) (p ag:LA) (ah ai aj ak:Int):St:=⟨[(0,(.optr 100000 0)),(8,(op 0)),(9,(op 1))],[(100000,(bN 0 [(.imm b c 1 d e),(iv y)])),(300000,(bN 0 [(.str ([]:List UInt8)),(iv 0),(iv 0),(iv 0),.nsl,(iv 0),(iv 0),(iv 0),(iv 0),(iv 0),(iv 0),(iv 0),(iv 0),(iv 0),(iv 0),(iv 0),(iv 0),(iv 0),.nsl,(iv 0),(iv 0),(iv 0)])),(300001,(bN 0 [(.str l),(iv m),(iv f),(iv i),(.own 300002 0 g),(iv o),(iv z),(iv aa),(iv ah),(iv ai),(iv ab),(iv ac),(iv x),(iv u),(iv aj),(iv ad),(iv ae),(iv af),(.own 300003 0 v),(iv w),(iv ak),(iv 0)])),(300002,(bQ 2 p)),(300003,(bQ 1 ag))]⟩
def ux (F:KF R):=TU N F [1,1,1,1,1,1,1,1,1,1,1,1,1,1] []
def uy (q:Int) (b:LA) (c:Nat) (d e:Bool) (l:List UInt8) (m f o r s t i:Int) (g:Nat) (p:LA):St:=⟨[(0,(.optr 100000 0)),(3,(iv q)),(8,(op 0)),(9,(op 1)),(10,(iv r)),(11,(iv s))],[(100000,(bN 0 [(.imm b c 1 d e),(iv t)])),(300000,(bN 0 [(.str ([]:List UInt8)),(iv 0),(iv 0),(iv 0),.nsl,(iv 0),(iv 0),(iv 0),(iv 0),(iv 0),(iv 0),(iv 0),(iv 0),(iv 0),(iv 0),(iv 0),(iv 0),(iv 0),.nsl,(iv 0),(iv 0),(iv 0)])),(300001,(bN 0 [(.str l),(iv m),(iv f),(iv i),(.own 300002 0 g),(iv o),(iv 0),(iv 0),(iv 0),(iv 0),(iv 0),(iv 0),(iv 0),(iv 0),(iv 0),(iv 0),(iv 0),(iv 0),(.own 300003 0 0),(iv 0),(iv 0),(iv 0)])),(300002,(bQ 2 p)),(300003,(bQ 1 []))]⟩
def uz (F:KF R):=TU N F [1,1,1,1,0,1,0] []
theorem j_ (F:KF R) (b:LA) (c:Nat) (d e:Bool) (y:Int) (l:List UInt8) (m f i:Int) (g:Nat) (o z aa ab ac x u ad ae af:Int) (v:Nat) (w:Int) (p ag:LA):∀ (ah ai aj ak:Int),B8 (ux N F) (uw b c d e y l m f i g o z aa ab ac x u ad ae af v w p ag ah ai aj ak)=(M6 N (Je b c d e F) b c d e y l m f i g o z aa ab ac x u ad ae af v w p ag ah ai aj ak):=by
 intro ah ai aj ak
 kernel_rfl
theorem ES (F:KF R) (q:Int) (b:LA) (c:Nat) (d e:Bool) (l:List UInt8) (m f o:Int):∀ (n:Nat) (r s t i:Int) (g:Nat) (p:LA),Ak (uz N F) n (uy q b c d e l m f o r s t i g p)=(Fi N (Je b c d e F) q b c d e l m f o n r s t i g p)
 | 0,_,_,_,_,_,_=>by kernel_rfl
 | n+1,r,s,t,i,g,p=>Eq.trans (by kernel_rfl) (PQ (Qd N (Je b c d e F) q b c d e l m f o · · r s t i g p) (funext fun r=>funext fun s=>funext fun t=>funext fun i=>funext fun g=>funext fun p=>(ES F q b c d e l m f o n r s t i g p)) (funext fun y=>funext fun z=>funext fun aa=>funext fun ab=>funext fun ac=>funext fun x=>funext fun u=>funext fun ad=>funext fun ae=>funext fun af=>funext fun v=>funext fun w=>funext fun ag=>funext fun ah=>funext fun ai=>funext fun aj=>funext fun ak=>(A2 ..).trans (j_ N F b c d e y l m f i g o z aa ab ac x u ad ae af v w p ag ah ai aj ak)):_)
theorem TV (al am q:Int) (b:LA) (c:Nat) (d e:Bool) (an:Int) (F:KF R):C7 (ZO N) TT N 101 [(.optr 100000 0),(iv al),(iv am),(iv q)] [(100000,(bN 0 [(.imm b c 1 d e),(iv an)]))] F=(Qe N al am q b c d e an (Je b c d e F)):=by
 rw[MK]
 exact Eq.trans (by kernel_rfl) (Bv (Xp N (Je b c d e F) · al am q b c d e an) (funext fun l=>funext fun m=>funext fun f=>funext fun o=>funext fun r=>funext fun s=>funext fun t=>funext fun i=>funext fun g=>funext fun p=>(Ac ..).trans (ES N F q b c d e l m f o N r s t i g p)):_)
def ML (a:LA) (h:Aj) (k:KF R):O R :=
 match a,h with
 | [(.optr 100000 0),(.int .i64 al),(.int .i64 am),(.int .i64 q)],[(100000,⟨false,false,false,false,0,[(.imm b c 1 d e),(.int .i64 an)],false,none⟩)]=>(Qe N al am q b c d e an (Je b c d e k))
 | _,_=>none
theorem TW:An N 101 @ML:=by
 intro R Q a h k j;unfold ML;split;exact A3 (TV ..) (TV ..) ⟨QH N,Jd N,TP N,trivial⟩;exact A5
def vA:=A4 (TW N)
def vB:=C8 (TW N)
def Ic (r0:LA→Int→O R) (f:Int) (b:LA) (c:Nat) (d e:Bool) (g:List UInt8) (i:Nat) (l:LA) (k1:Int→Int→Nat→LA→O R) (o q:Int) (m:Nat) (p:LA):O R :=
 (cond (decide (o<f)) (Ad N 2 b c d e q (fun ab w=>(cond (ab==1) (Ad N 8 b c d e w (fun ac ad=>(Ad N 8 b c d e ad (fun ae af=>(cond ((Nat.ble (m+1) 140737488355328)&&(Nat.ble ((m+1)*24) 140737488355328)) (k1 (wrap .i64 (o+1)) af (m+1) ((p.take (m*3))++[(.int .i64 o),(.int .i64 ac),(.int .i64 ae)])) none))))) (k1 (wrap .i64 (o+1)) w m p)))) (r0 [(.str g),(.imm (l.take (i*1)) i 1 false false),(.bool true),(.imm (p.take (m*3)) m 3 false false)] q))
def E3 (r0:LA→Int→O R) (f:Int) (b:LA) (c:Nat) (d e:Bool) (g:List UInt8) (i:Nat) (l:LA):Nat→Int→Int→Nat→LA→O R
 | 0,_,_,_,_=>none
 | n+1,o,q,m,p=>(Ic N r0 f b c d e g i l (E3 r0 f b c d e g i l n) o q m p)
def L7 (r0:LA→Int→O R) (f:Int) (b:LA) (c:Nat) (d e:Bool) (g:List UInt8) (q1:Int→Int→Nat→LA→O R) (r:Int) (i:Nat) (l:LA):O R :=
 (Ad N 2 b c d e r (fun ag x=>(cond (ag==1) (q1 0 x 0 []) (r0 [(.str g),(.imm (l.take (i*1)) i 1 false false),(.bool false),(.imm [] 0 3 false false)] x))))
def E4 (r0:LA→Int→O R) (f:Int) (b:LA) (c:Nat) (d e:Bool) (g:List UInt8) (r:Int) (i:Nat) (l:LA):O R:=(L7 N r0 f b c d e g (fun o q m p=>(E3 N r0 f b c d e g i l N o q m p)) r i l)
def Jf (r0:LA→Int→O R) (q0:List UInt8→Int→Nat→LA→O R) (t s f:Int) (b:LA) (c:Nat) (d e:Bool) (u:Int):O R :=
 (HK N ([111]:List UInt8) t (fun g=>(Ad N s b c d e u (fun v ah=>(Ad N s b c d e ah (fun y z=>(cond ((decide (y>v))==true) (Ad N 3 b c d e z (fun ai aa=>(cond (cond true (ai==2) false) (q0 g aa 2 [(.int .i64 v),(.int .i64 y)]) (q0 g aa 1 [(.int .i64 v)])))) (q0 g z 1 [(.int .i64 v)]))))))))
def K3:=(Ai (fun (N:Nat) (t s f:Int) (b:LA) (c:Nat) (d e:Bool) (u:Int) (r0:LA→Int→O R)=>(Jf N r0 (fun g r i l=>(E4 N r0 f b c d e g r i l)) t s f b c d e u))).1
theorem L8 (t s f b c d e u r0):(@K3 R N t s f b c d e u r0)=(Jf N r0 (fun g r i l=>(E4 N r0 f b c d e g r i l)) t s f b c d e u):=by rw[K3,(Ai _).2]
def HL:Hints:={ H:=(hS hL (hS hL (hJ [0,3,8,9] hL (hS (hS hL (hS (hS hL (hS hL (hS (hP [0,3,8,9,11] hL) hL))) hL)) hL)))),modes:=[(3,0)],cob:=[18] }
def MM:Gm:=[(99,QG N),(97,Jc N)]
def HM (F:KF R):=Ki Tryz.f102 HL (MM N) [100000] N F
def E5 (b:LA) (c:Nat) (d e:Bool) (F:KF R):LA→Int→O R:=(fun aj ak=>F (.pagg aj false) [(100000,(bN 0 [(.imm b c 1 d e),(iv ak)]))])
def lh (f:Int) (b:LA) (c:Nat) (d e:Bool) (g:List UInt8) (i:Nat) (l:LA) (o q:Int) (m:Nat) (p:LA):St:=⟨[(0,(.optr 100000 0)),(3,(iv f)),(8,(op 0)),(9,(op 1)),(11,(iv o))],[(100000,(bN 0 [(.imm b c 1 d e),(iv q)])),(300000,(bN 0 [(.str ([]:List UInt8)),.nsl,(.bool false),.nsl])),(300001,(bN 0 [(.str g),(.own 300002 0 i),(.bool true),(.own 300003 0 m)])),(300002,(bQ 1 l)),(300003,(bQ 3 p))]⟩
def li (F:KF R):=HM N F [1,1,1,0,1,0,1,1,0] []
def lj (f:Int) (b:LA) (c:Nat) (d e:Bool) (g:List UInt8) (r:Int) (i:Nat) (l:LA):St:=⟨[(0,(.optr 100000 0)),(3,(iv f)),(8,(op 0)),(9,(op 1))],[(100000,(bN 0 [(.imm b c 1 d e),(iv r)])),(300000,(bN 0 [(.str ([]:List UInt8)),.nsl,(.bool false),.nsl])),(300001,(bN 0 [(.str g),(.own 300002 0 i),(.bool false),(.own 300003 0 0)])),(300002,(bQ 1 l)),(300003,(bQ 3 []))]⟩
def lk (F:KF R):=HM N F [1,1,1] []
theorem Yu (F:KF R) (f:Int) (b:LA) (c:Nat) (d e:Bool) (g:List UInt8) (i:Nat) (l:LA):∀ (n:Nat) (o q:Int) (m:Nat) (p:LA),Ak (li N F) n (lh f b c d e g i l o q m p)=(E3 N (E5 b c d e F) f b c d e g i l n o q m p)
 | 0,_,_,_,_=>by kernel_rfl
 | n+1,o,q,m,p=>Eq.trans (by kernel_rfl) (Bv (Ic N (E5 b c d e F) f b c d e g i l · o q m p) (funext fun o=>funext fun q=>funext fun m=>funext fun p=>(Yu F f b c d e g i l n o q m p)):_)
theorem ZP (F:KF R) (f:Int) (b:LA) (c:Nat) (d e:Bool) (g:List UInt8):∀ (r:Int) (i:Nat) (l:LA),B8 (lk N F) (lj f b c d e g r i l)=(E4 N (E5 b c d e F) f b c d e g r i l):=by
 intro r i l
 exact Eq.trans (by kernel_rfl) (Bv (L7 N (E5 b c d e F) f b c d e g · r i l) (funext fun o=>funext fun q=>funext fun m=>funext fun p=>(Ac ..).trans (Yu N F f b c d e g i l N o q m p)):_)
theorem HN (t s f:Int) (b:LA) (c:Nat) (d e:Bool) (u:Int) (F:KF R):C7 (MM N) HL N 102 [(.optr 100000 0),(iv t),(iv s),(iv f)] [(100000,(bN 0 [(.imm b c 1 d e),(iv u)]))] F=(K3 N t s f b c d e u (E5 b c d e F)):=by
 rw[L8]
 exact Eq.trans (by kernel_rfl) (Bv (Jf N (E5 b c d e F) · t s f b c d e u) (funext fun g=>funext fun r=>funext fun i=>funext fun l=>(A2 ..).trans (ZP N F f b c d e g r i l)):_)
def ET (a:LA) (h:Aj) (k:KF R):O R :=
 match a,h with
 | [(.optr 100000 0),(.int .i64 t),(.int .i64 s),(.int .i64 f)],[(100000,⟨false,false,false,false,0,[(.imm b c 1 d e),(.int .i64 u)],false,none⟩)]=>(K3 N t s f b c d e u (E5 b c d e k))
 | _,_=>none
theorem HO:An N 102 @ET:=by
 intro R Q a h k j;unfold ET;split;exact A3 (HN ..) (HN ..) ⟨QH N,Jd N,trivial⟩;exact A5
def lm:=A4 (HO N)
def ln:=C8 (HO N)
def R4 (N:Nat) (r0:Bool→O R) (d e:Int) (c:LA) (b:Nat) (f g:Bool) (k0:Int→O R) (i:Int):O R :=
 (cond (decide (i<((b:Nat):Int))) (cond (Ah i b) (At .i64 (c.drop ((i.toNat)*1)) fun l=>(cond ((decide (l<d))==false) (cond (Ah i b) (At .i64 (c.drop ((i.toNat)*1)) fun m=>(cond (cond false true (decide (m>e))) (r0 false) (k0 (wrap .i64 (i+1))))) none) (r0 false))) none) (r0 true))
def If (r0:Bool→O R) (d e:Int) (c:LA) (b:Nat) (f g:Bool):Nat→Int→O R
 | 0,_=>none
 | n+1,i=>(R4 N r0 d e c b f g (If r0 d e c b f g n) i)
def CA (N:Nat) (r0:Bool→O R) (q0:Int→O R) (d e:Int) (c:LA) (b:Nat) (f g:Bool):O R :=
 (q0 0)
def Ap:=(Ai (fun (N:Nat) (d e:Int) (c:LA) (b:Nat) (f g:Bool) (r0:Bool→O R)=>(CA N r0 (fun i=>(If N r0 d e c b f g N i)) d e c b f g))).1
theorem TX (d e c b f g r0):(@Ap R N d e c b f g r0)=(CA N r0 (fun i=>(If N r0 d e c b f g N i)) d e c b f g):=by rw[Ap,(Ai _).2]
def ZQ:Hints:={ H:=(hS hL (hS (hS hL (hS (hP [0,1,2,7] hL) hL)) hL)) }
def yj (F:KF R):=Ki Tryz.f162 ZQ [] [] N F
def Ox (F:KF R):Bool→O R:=(fun o=>F (.bool o) [])
def yk (d e:Int) (c:LA) (b:Nat) (f g:Bool) (i:Int):St:=⟨[(0,(iv d)),(1,(iv e)),(2,(.imm c b 1 f g)),(7,(iv i))],[]⟩
def ym (F:KF R):=yj N F [1,0,1,0] []
theorem HP (F:KF R) (d e:Int) (c:LA) (b:Nat) (f g:Bool):∀ (n:Nat) (i:Int),Ak (ym N F) n (yk d e c b f g i)=(If N (Ox F) d e c b f g n i)
 | 0,_=>by kernel_rfl
 | n+1,i=>Eq.trans (by kernel_rfl) (Bv (R4 N (Ox F) d e c b f g · i) (funext fun i=>(HP F d e c b f g n i)):_)
theorem ZR (d e:Int) (c:LA) (b:Nat) (f g:Bool) (F:KF R):C7 [] ZQ N 162 [(iv d),(iv e),(.imm c b 1 f g)] [] F=(Ap N d e c b f g (Ox F)):=by
 rw[TX]
 exact Eq.trans (by kernel_rfl) (Bv (CA N (Ox F) · d e c b f g) (funext fun i=>(Ac ..).trans (HP N F d e c b f g N i)):_)
def TY (a:LA) (h:Aj) (k:KF R):O R :=
 match a,h with
 | [(.int .i64 d),(.int .i64 e),(.imm c b 1 f g)],[]=>(Ap N d e c b f g (Ox k))
 | _,_=>none
theorem ZS:An N 162 @TY:=by
 intro R Q a h k j;unfold TY;split;exact A3 (ZR ..) (ZR ..) trivial;exact A5
def Dm:=A4 (ZS N)
def Dn:=C8 (ZS N)
end
end Gx

namespace Gx
open Go Go.Proofs
open IntKind (wrap)
set_option maxRecDepth 100000
noncomputable section
variable {R:Type} (N:Nat)
def Ko (N:Nat) (r0:LA→O R) (c d e f:Int) (b:LA) (g:Bool):O R :=
 (cond g (cond ((Nat.beq 3 3)&&((Nat.ble 3 (b.length))&&(!false))) (cond ((Nat.beq 1 1)&&((Nat.ble 4 ((Cy b 0 [(.int .i64 c),(.int .i64 d),(.int .i64 e)]).length))&&(!false))) (r0 ((Cy b 0 [(.int .i64 c),(.int .i64 d),(.int .i64 e)]).set 3 (.int .i64 f))) none) none) (r0 b))
def N3 (N:Nat) (r0:LA→O R) (q0:Bool→O R) (i:Bool) (c d e f:Int) (b:LA):O R :=
 (At .i64 (b.drop 3) fun l=>(cond ((l==0)==true) (q0 (cond true (!i) false)) (q0 false)))
def Aa:=(Ai (fun (N:Nat) (i:Bool) (c d e f:Int) (b:LA) (r0:LA→O R)=>(N3 N r0 (fun g=>(Ko N r0 c d e f b g)) i c d e f b))).1
theorem Yv (i c d e f b r0):(@Aa R N i c d e f b r0)=(N3 N r0 (fun g=>(Ko N r0 c d e f b g)) i c d e f b):=by rw[Aa,(Ai _).2]
def AH:Hints:={ H:=(hJ [0,2,3,4,5,20] hL hL) }
def ei (F:KF R):=Ki Tryz.f161 AH [] [100000] N F
def Kp (F:KF R):LA→O R:=(fun m=>F (.tup []) [(100000,(bQ 0 m))])
def ek (c d e f:Int) (b:LA) (g:Bool):St:=⟨[(0,(.optr 100000 0)),(2,(iv c)),(3,(iv d)),(4,(iv e)),(5,(iv f)),(20,(.bool g))],[(100000,(bQ 0 b))]⟩
def eo (F:KF R):=ei N F [1] []
theorem QI (F:KF R) (c d e f:Int) (b:LA):∀ (g:Bool),B8 (eo N F) (ek c d e f b g)=(Ko N (Kp F) c d e f b g):=by
 intro g
 kernel_rfl
theorem AI (i:Bool) (c d e f:Int) (b:LA) (F:KF R):C7 [] AH N 161 [(.optr 100000 0),(.bool i),(iv c),(iv d),(iv e),(iv f)] [(100000,(bQ 0 b))] F=(Aa N i c d e f b (Kp F)):=by
 rw[Yv]
 exact Eq.trans (by kernel_rfl) (Bv (N3 N (Kp F) · i c d e f b) (funext fun g=>(A2 ..).trans (QI N F c d e f b g)):_)
def Yw (a:LA) (h:Aj) (k:KF R):O R :=
 match a,h with
 | [(.optr 100000 0),(.bool i),(.int .i64 c),(.int .i64 d),(.int .i64 e),(.int .i64 f)],[(100000,⟨false,false,true,false,0,b,false,none⟩)]=>(Aa N i c d e f b (Kp k))
 | _,_=>none
theorem AJ:An N 161 @Yw:=by
 intro R Q a h k j;unfold Yw;split;exact A3 (AI ..) (AI ..) trivial;exact A5
def Bs:=A4 (AJ N)
def Bt:=C8 (AJ N)
def Qm (f:LA) (o:Bool) (g:LA) (b:Nat) (p i:Bool) (l m c d e:Int) (n:LA) (r0:LA→O R):O R :=
 (At .i64 f fun q=>(Aa N (((b:Nat):Int)==q) c d e 4 n (fun r=>(Ap N l m g b false i (fun s=>(Aa N s c d e 3 r (fun t=>(r0 t))))))))
def Cu:=(Ai (@Qm R)).1
theorem Ua:@Cu R=@Qm R:=(Ai _).2
def ZT:Gm:=[(161,Bs N),(162,Dm N)]
def Vh (F:KF R):LA→O R:=(fun u=>F (.tup []) [(100000,(bQ 0 u))])
theorem Vi (f:LA) (o:Bool) (g:LA) (b:Nat) (p i:Bool) (l m c d e:Int) (n:LA) (F:KF R):C7 (ZT N) Dx N 160 [(.optr 100000 0),(.pagg f o),(.imm g b 1 p i),(iv l),(iv m),(iv c),(iv d),(iv e)] [(100000,(bQ 0 n))] F=(Cu N f o g b p i l m c d e n (Vh F)):=by
 rw[Ua]
 kernel_rfl
def Ub (a:LA) (h:Aj) (k:KF R):O R :=
 match a,h with
 | [(.optr 100000 0),(.pagg f o),(.imm g b 1 p i),(.int .i64 l),(.int .i64 m),(.int .i64 c),(.int .i64 d),(.int .i64 e)],[(100000,⟨false,false,true,false,0,n,false,none⟩)]=>(Cu N f o g b p i l m c d e n (Vh k))
 | _,_=>none
theorem Vj:An N 160 @Ub:=by
 intro R Q a h k j;unfold Ub;split;exact A3 (Vi ..) (Vi ..) ⟨Bt N,Dn N,trivial⟩;exact A5
def Nw:=A4 (Vj N)
def Nx:=C8 (Vj N)
def Xq (N:Nat) (r0:Nat→LA→O R) (c:Bool) (b:LA) (k0:Nat→Int→LA→O R) (d:Nat) (m:Int) (t:LA):O R :=
 (Bw 3 (b.drop 2) fun bc aa=>(cond (decide (m<((aa:Nat):Int))) (Bw 3 (b.drop 2) fun ab ac=>(cond (Ah m ac) (BT (ab.drop ((m.toNat)*3)) fun ad=>(cond ((Nat.ble (d+1) 140737488355328)&&(Nat.ble ((d+1)*16) 140737488355328)) (k0 (d+1) (wrap .i64 (m+1)) ((t.take (d*1))++[(.str ad)])) none)) none)) (r0 d t)))
def L9 (r0:Nat→LA→O R) (c:Bool) (b:LA):Nat→Nat→Int→LA→O R
 | 0,_,_,_=>none
 | n+1,d,m,t=>(Xq N r0 c b (L9 r0 c b n) d m t)
def Xr (N:Nat) (r0:Nat→LA→O R) (c:Bool) (b:LA) (k1:Nat→Int→LA→O R) (e:Nat) (o:Int) (u:LA):O R :=
 (Bw 12 (b.drop 3) fun bd ae=>(cond (decide (o<((ae:Nat):Int))) (Bw 12 (b.drop 3) fun af ag=>(cond (Ah o ag) (BT (af.drop ((o.toNat)*12)) fun ah=>(cond ((Nat.ble (e+1) 140737488355328)&&(Nat.ble ((e+1)*16) 140737488355328)) (k1 (e+1) (wrap .i64 (o+1)) ((u.take (e*1))++[(.str ah)])) none)) none)) (r0 e u)))
def Ma (r0:Nat→LA→O R) (c:Bool) (b:LA):Nat→Nat→Int→LA→O R
 | 0,_,_,_=>none
 | n+1,e,o,u=>(Xr N r0 c b (Ma r0 c b n) e o u)
def Xs (N:Nat) (r0:Nat→LA→O R) (c:Bool) (b:LA) (k2:Nat→Int→LA→O R) (f:Nat) (p:Int) (v:LA):O R :=
 (Bw 22 (b.drop 4) fun be ai=>(cond (decide (p<((ai:Nat):Int))) (Bw 22 (b.drop 4) fun aj ak=>(cond (Ah p ak) (BT (aj.drop ((p.toNat)*22)) fun al=>(cond ((Nat.ble (f+1) 140737488355328)&&(Nat.ble ((f+1)*16) 140737488355328)) (k2 (f+1) (wrap .i64 (p+1)) ((v.take (f*1))++[(.str al)])) none)) none)) (r0 f v)))
def Mb (r0:Nat→LA→O R) (c:Bool) (b:LA):Nat→Nat→Int→LA→O R
 | 0,_,_,_=>none
 | n+1,f,p,v=>(Xs N r0 c b (Mb r0 c b n) f p v)
def Xt (N:Nat) (r0:Nat→LA→O R) (c:Bool) (b:LA) (k3:Nat→Int→LA→O R) (g:Nat) (q:Int) (w:LA):O R :=
 (Bw 9 (b.drop 5) fun bf am=>(cond (decide (q<((am:Nat):Int))) (Bw 9 (b.drop 5) fun an ao=>(cond (Ah q ao) (BT (an.drop ((q.toNat)*9)) fun ap=>(cond ((Nat.ble (g+1) 140737488355328)&&(Nat.ble ((g+1)*16) 140737488355328)) (k3 (g+1) (wrap .i64 (q+1)) ((w.take (g*1))++[(.str ap)])) none)) none)) (r0 g w)))
def Mc (r0:Nat→LA→O R) (c:Bool) (b:LA):Nat→Nat→Int→LA→O R
 | 0,_,_,_=>none
 | n+1,g,q,w=>(Xt N r0 c b (Mc r0 c b n) g q w)
def Xu (N:Nat) (r0:Nat→LA→O R) (c:Bool) (b:LA) (k4:Nat→Int→LA→O R) (i:Nat) (r:Int) (x:LA):O R :=
 (Bw 5 (b.drop 6) fun bg aq=>(cond (decide (r<((aq:Nat):Int))) (Bw 5 (b.drop 6) fun ar au=>(cond (Ah r au) (BT (ar.drop ((r.toNat)*5)) fun av=>(cond ((Nat.ble (i+1) 140737488355328)&&(Nat.ble ((i+1)*16) 140737488355328)) (k4 (i+1) (wrap .i64 (r+1)) ((x.take (i*1))++[(.str av)])) none)) none)) (r0 i x)))
def Md (r0:Nat→LA→O R) (c:Bool) (b:LA):Nat→Nat→Int→LA→O R
 | 0,_,_,_=>none
 | n+1,i,r,x=>(Xu N r0 c b (Md r0 c b n) i r x)
def Xv (N:Nat) (r0:Nat→LA→O R) (c:Bool) (b:LA) (k5:Nat→Int→LA→O R) (l:Nat) (s:Int) (y:LA):O R :=
 (Bw 4 (b.drop 7) fun bh aw=>(cond (decide (s<((aw:Nat):Int))) (Bw 4 (b.drop 7) fun ax ay=>(cond (Ah s ay) (BT (ax.drop ((s.toNat)*4)) fun az=>(cond ((Nat.ble (l+1) 140737488355328)&&(Nat.ble ((l+1)*16) 140737488355328)) (k5 (l+1) (wrap .i64 (s+1)) ((y.take (l*1))++[(.str az)])) none)) none)) (r0 l y)))
def Me (r0:Nat→LA→O R) (c:Bool) (b:LA):Nat→Nat→Int→LA→O R
 | 0,_,_,_=>none
 | n+1,l,s,y=>(Xv N r0 c b (Me r0 c b n) l s y)
def Mf (N:Nat) (r0:Nat→LA→O R) (q0:Nat→Int→LA→O R) (q1:Nat→Int→LA→O R) (q2:Nat→Int→LA→O R) (q3:Nat→Int→LA→O R) (q4:Nat→Int→LA→O R) (q5:Nat→Int→LA→O R) (b:LA) (c:Bool) (z:Int):O R :=
 (cond (z==1) (q0 0 0 []) (cond (z==2) (q1 0 0 []) (cond (z==3) (q2 0 0 []) (cond (z==4) (q3 0 0 []) (cond (z==5) (q4 0 0 []) (cond (z==6) (q5 0 0 []) (r0 0 [])))))))
def Hx:=(Ai (fun (N:Nat) (b:LA) (c:Bool) (z:Int) (r0:Nat→LA→O R)=>(Mf N r0 (fun d m t=>(L9 N r0 c b N d m t)) (fun e o u=>(Ma N r0 c b N e o u)) (fun f p v=>(Mb N r0 c b N f p v)) (fun g q w=>(Mc N r0 c b N g q w)) (fun i r x=>(Md N r0 c b N i r x)) (fun l s y=>(Me N r0 c b N l s y)) b c z))).1
theorem Ke (b c z r0):(@Hx R N b c z r0)=(Mf N r0 (fun d m t=>(L9 N r0 c b N d m t)) (fun e o u=>(Ma N r0 c b N e o u)) (fun f p v=>(Mb N r0 c b N f p v)) (fun g q w=>(Mc N r0 c b N g q w)) (fun i r x=>(Md N r0 c b N i r x)) (fun l s y=>(Me N r0 c b N l s y)) b c z):=by rw[Hx,(Ai _).2]
def lp:Hints:={ H:=(hS hL (hS hL (hS (hS hL (hS (hS hL (hS (hS hL (hS (hP [2,5,6] hL) hL)) (hS hL (hS (hS hL (hS (hP [2,5,7] hL) hL)) (hS hL (hS (hS hL (hS (hP [2,5,8] hL) hL)) (hS hL (hS (hS hL (hS (hP [2,5,9] hL) hL)) (hS hL (hS (hS hL (hS (hP [2,5,10] hL) hL)) (hS hL (hS (hS hL (hS (hP [2,5,11] hL) hL)) hL)))))))))))) hL)) hL))),nils:=[(4,1),(5,1)],modes:=[(2,1)] }
def Qf (F:KF R):=Ki Tryz.f222 lp [] [] N F
def Cv (F:KF R):Nat→LA→O R:=(fun ba bb=>F (.own 300000 0 ba) (hq [(bQ 1 bb)]))
def Ajb (c:Bool) (b:LA) (d:Nat) (m:Int) (t:LA):St:=⟨[(2,(op 0)),(5,(.own 300001 0 d)),(6,(iv m))],(hq [(bP c 0 b),(bQ 1 t)])⟩
def Ajc (F:KF R):=Qf N F [1,1,0,1,0,1,0,1,0] []
def Ajd (c:Bool) (b:LA) (e:Nat) (o:Int) (u:LA):St:=⟨[(2,(op 0)),(5,(.own 300001 0 e)),(7,(iv o))],(hq [(bP c 0 b),(bQ 1 u)])⟩
def Aje (F:KF R):=Qf N F [1,1,0,1,0,1,1,1,0,1,0] []
def Ajf (c:Bool) (b:LA) (f:Nat) (p:Int) (v:LA):St:=⟨[(2,(op 0)),(5,(.own 300001 0 f)),(8,(iv p))],(hq [(bP c 0 b),(bQ 1 v)])⟩
def Ajg (F:KF R):=Qf N F [1,1,0,1,0,1,1,1,1,1,0,1,0] []
def Ajh (c:Bool) (b:LA) (g:Nat) (q:Int) (w:LA):St:=⟨[(2,(op 0)),(5,(.own 300001 0 g)),(9,(iv q))],(hq [(bP c 0 b),(bQ 1 w)])⟩
def Aji (F:KF R):=Qf N F [1,1,0,1,0,1,1,1,1,1,1,1,0,1,0] []
def Ajj (c:Bool) (b:LA) (i:Nat) (r:Int) (x:LA):St:=⟨[(2,(op 0)),(5,(.own 300001 0 i)),(10,(iv r))],(hq [(bP c 0 b),(bQ 1 x)])⟩
def Ajk (F:KF R):=Qf N F [1,1,0,1,0,1,1,1,1,1,1,1,1,1,0,1,0] []
def Ajl (c:Bool) (b:LA) (l:Nat) (s:Int) (y:LA):St:=⟨[(2,(op 0)),(5,(.own 300001 0 l)),(11,(iv s))],(hq [(bP c 0 b),(bQ 1 y)])⟩
def Ajm (F:KF R):=Qf N F [1,1,0,1,0,1,1,1,1,1,1,1,1,1,1,1,0,1,0] []
theorem TZ (F:KF R) (c:Bool) (b:LA):∀ (n d:Nat) (m:Int) (t:LA),Ak (Ajc N F) n (Ajb c b d m t)=(L9 N (Cv F) c b n d m t)
 | 0,_,_,_=>by kernel_rfl
 | n+1,d,m,t=>Eq.trans (by kernel_rfl) (Bv (Xq N (Cv F) c b · d m t) (funext fun d=>funext fun m=>funext fun t=>(TZ F c b n d m t)):_)
theorem T_ (F:KF R) (c:Bool) (b:LA):∀ (n e:Nat) (o:Int) (u:LA),Ak (Aje N F) n (Ajd c b e o u)=(Ma N (Cv F) c b n e o u)
 | 0,_,_,_=>by kernel_rfl
 | n+1,e,o,u=>Eq.trans (by kernel_rfl) (Bv (Xr N (Cv F) c b · e o u) (funext fun e=>funext fun o=>funext fun u=>(T_ F c b n e o u)):_)
theorem T' (F:KF R) (c:Bool) (b:LA):∀ (n f:Nat) (p:Int) (v:LA),Ak (Ajg N F) n (Ajf c b f p v)=(Mb N (Cv F) c b n f p v)
 | 0,_,_,_=>by kernel_rfl
 | n+1,f,p,v=>Eq.trans (by kernel_rfl) (Bv (Xs N (Cv F) c b · f p v) (funext fun f=>funext fun p=>funext fun v=>(T' F c b n f p v)):_)
theorem UA (F:KF R) (c:Bool) (b:LA):∀ (n g:Nat) (q:Int) (w:LA),Ak (Aji N F) n (Ajh c b g q w)=(Mc N (Cv F) c b n g q w)
 | 0,_,_,_=>by kernel_rfl
 | n+1,g,q,w=>Eq.trans (by kernel_rfl) (Bv (Xt N (Cv F) c b · g q w) (funext fun g=>funext fun q=>funext fun w=>(UA F c b n g q w)):_)
theorem UB (F:KF R) (c:Bool) (b:LA):∀ (n i:Nat) (r:Int) (x:LA),Ak (Ajk N F) n (Ajj c b i r x)=(Md N (Cv F) c b n i r x)
 | 0,_,_,_=>by kernel_rfl
 | n+1,i,r,x=>Eq.trans (by kernel_rfl) (Bv (Xu N (Cv F) c b · i r x) (funext fun i=>funext fun r=>funext fun x=>(UB F c b n i r x)):_)
theorem UC (F:KF R) (c:Bool) (b:LA):∀ (n l:Nat) (s:Int) (y:LA),Ak (Ajm N F) n (Ajl c b l s y)=(Me N (Cv F) c b n l s y)
 | 0,_,_,_=>by kernel_rfl
 | n+1,l,s,y=>Eq.trans (by kernel_rfl) (Bv (Xv N (Cv F) c b · l s y) (funext fun l=>funext fun s=>funext fun y=>(UC F c b n l s y)):_)
theorem lq (b:LA) (c:Bool) (z:Int) (F:KF R):C7 [] lp N 222 [(.pagg b c),(iv z)] [] F=(Hx N b c z (Cv F)):=by
 rw[Ke]
 exact Eq.trans (by kernel_rfl) (A6n (Mf N (Cv F) · · · · · · b c z) (funext fun d=>funext fun m=>funext fun t=>(Ac ..).trans (TZ N F c b N d m t)) (funext fun e=>funext fun o=>funext fun u=>(Ac ..).trans (T_ N F c b N e o u)) (funext fun f=>funext fun p=>funext fun v=>(Ac ..).trans (T' N F c b N f p v)) (funext fun g=>funext fun q=>funext fun w=>(Ac ..).trans (UA N F c b N g q w)) (funext fun i=>funext fun r=>funext fun x=>(Ac ..).trans (UB N F c b N i r x)) (funext fun l=>funext fun s=>funext fun y=>(Ac ..).trans (UC N F c b N l s y)):_)
def gT (a:LA) (h:Aj) (k:KF R):O R :=
 match a,h with
 | [(.pagg b c),(.int .i64 z)],[]=>(Hx N b c z (Cv k))
 | _,_=>none
theorem lw:An N 222 @gT:=by
 intro R Q a h k j;unfold gT;split;exact A3 (lq ..) (lq ..) trivial;exact A5
def lx:=A4 (lw N)
def ly:=C8 (lw N)
def qA (N:Nat) (b:Int) (r0:Int→O R):O R :=
 (cond (Ah b 7) (At .i64 (List.drop (0+((b.toNat)*1)) [(.int .i64 0),(.int .i64 32),(.int .i64 64),(.int .i64 16),(.int .i64 8),(.int .i64 8),(.int .i64 64)]) fun c=>(r0 c)) none)
def Q6:=(Ai (@qA R)).1
theorem lz:@Q6 R=@qA R:=(Ai _).2
def sN (F:KF R):Int→O R:=(fun d=>F (iv d) [])
theorem sO (b:Int) (F:KF R):C7 [] Dx N 223 [(iv b)] [] F=(Q6 N b (sN F)):=by
 rw[lz]
 kernel_rfl
def mA (a:LA) (h:Aj) (k:KF R):O R :=
 match a,h with
 | [(.int .i64 b)],[]=>(Q6 N b (sN k))
 | _,_=>none
theorem sP:An N 223 @mA:=by
 intro R Q a h k j;unfold mA;split;exact A3 (sO ..) (sO ..) trivial;exact A5
def Aou:=A4 (sP N)
def Aov:=C8 (sP N)
def Ch (r0:LA→O R) (c:Bool) (b:LA) (k0:Int→LA→O R) (d:Int) (e:LA):O R :=
 (cond (decide (d≤6)) (cond (Nat.ble 8 (b.length)) (Hx N (b.take 8) c d (fun g x=>(Q6 N d (fun i=>(Aa N (decide (((g:Nat):Int)≤i)) 0 0 (wrap .i64 (d+1)) 8 e (fun l=>(k0 (wrap .i64 (d+1)) l))))))) none) (r0 e))
def Bn (r0:LA→O R) (c:Bool) (b:LA):Nat→Int→LA→O R
 | 0,_,_=>none
 | n+1,d,e=>(Ch N r0 c b (Bn r0 c b n) d e)
def Mg (r0:LA→O R) (q0:Int→LA→O R) (b:LA) (c:Bool) (f:LA):O R :=
 (At .i64 b fun m=>(Ap N 1 24 [(.int .i64 m)] 1 false true (fun o=>(Aa N o 0 0 0 3 f (fun p=>(cond (Nat.ble 8 (b.length)) (Bw 1 (b.drop 1) fun q r=>(Cu N (b.take 8) c q r false c 0 1048576 0 0 1 p (fun s=>(Bw 3 (b.drop 2) fun y t=>(Ap N 1 32 [(.int .i64 ((t:Nat):Int))] 1 false true (fun u=>(Aa N u 0 0 2 8 s (fun v=>(q0 2 v))))))))) none))))))
def Gp:=(Ai (fun (N:Nat) (b:LA) (c:Bool) (f:LA) (r0:LA→O R)=>(Mg N r0 (fun d e=>(Bn N r0 c b N d e)) b c f))).1
theorem Vk (b c f r0):(@Gp R N b c f r0)=(Mg N r0 (fun d e=>(Bn N r0 c b N d e)) b c f):=by rw[Gp,(Ai _).2]
def Yx:Hints:={ H:=(hS hL (hS hL (hS hL (hS hL (hS hL (hS (hP [0,3,4] hL) hL)))))) }
def AK:Gm:=[(162,Dm N),(161,Bs N),(160,Nw N),(222,lx N),(223,Aou N)]
def ZU (F:KF R):=Ki Tryz.f158 Yx (AK N) [100000] N F
def Ge (F:KF R):LA→O R:=(fun w=>F (.tup []) [(100000,(bQ 0 w))])
def ZV (c:Bool) (b:LA) (d:Int) (e:LA):St:=⟨[(0,(.optr 100000 0)),(3,(op 0)),(4,(iv d))],[(100000,(bQ 0 e)),(300000,(bP c 0 b))]⟩
def ZW (F:KF R):=ZU N F [1,1,1,1,1,0] []
theorem Tb (F:KF R) (c:Bool) (b:LA):∀ (n:Nat) (d:Int) (e:LA),Ak (ZW N F) n (ZV c b d e)=(Bn N (Ge F) c b n d e)
 | 0,_,_=>by kernel_rfl
 | n+1,d,e=>Eq.trans (by kernel_rfl) (Bv (Ch N (Ge F) c b · d e) (funext fun d=>funext fun e=>(Tb F c b n d e)):_)
theorem Yy (b:LA) (c:Bool) (f:LA) (F:KF R):C7 (AK N) Yx N 158 [(.optr 100000 0),(.pagg b c)] [(100000,(bQ 0 f))] F=(Gp N b c f (Ge F)):=by
 rw[Vk]
 exact Eq.trans (by kernel_rfl) (Bv (Mg N (Ge F) · b c f) (funext fun d=>funext fun e=>(Ac ..).trans (Tb N F c b N d e)):_)
def Vl (a:LA) (h:Aj) (k:KF R):O R :=
 match a,h with
 | [(.optr 100000 0),(.pagg b c)],[(100000,⟨false,false,true,false,0,f,false,none⟩)]=>(Gp N b c f (Ge k))
 | _,_=>none
theorem Yz:An N 158 @Vl:=by
 intro R Q a h k j;unfold Vl;split;exact A3 (Yy ..) (Yy ..) ⟨Dn N,Bt N,Nx N,ly N,Aov N,trivial⟩;exact A5
def ZX:=A4 (Yz N)
def ZY:=C8 (Yz N)
def HQ (N:Nat) (k1:Int→O R) (r0:Bool→O R) (b:List UInt8) (d:Int) (e:Bool):O R :=
 (cond ((!e)==true) (cond ((d==0)==false) (cond (Ah d (b.length)) (cond ((((UInt8.toNat (List.getD b (d.toNat) 0):Nat):Int) != 95)==true) (cond (Ah d (b.length)) (cond ((decide (((UInt8.toNat (List.getD b (d.toNat) 0):Nat):Int)<48))==false) (cond (Ah d (b.length)) (cond (cond true (cond false true (cond true (cond false true (decide (((UInt8.toNat (List.getD b (d.toNat) 0):Nat):Int)>57))) false)) false) (r0 false) (k1 (wrap .i64 (d+1)))) none) (r0 false)) none) (k1 (wrap .i64 (d+1)))) none) (r0 false)) (k1 (wrap .i64 (d+1))))
def CB (N:Nat) (r0:Bool→O R) (b:List UInt8) (k1:Int→O R) (q2:Int→Bool→O R) (c:Int):O R :=
 (cond (decide (c<(((b.length):Nat):Int))) (cond (Ah c (b.length)) (cond ((decide (((UInt8.toNat (List.getD b (c.toNat) 0):Nat):Int)≥97))==true) (cond (Ah c (b.length)) (q2 c (cond true (decide (((UInt8.toNat (List.getD b (c.toNat) 0):Nat):Int)≤122)) false)) none) (q2 c false)) none) (r0 true))
def Oy (r0:Bool→O R) (b:List UInt8):Nat→Int→O R
 | 0,_=>none
 | n+1,c=>(CB N r0 b (Oy r0 b n) (fun d e=>(HQ N (Oy r0 b n) r0 b d e)) c)
def QJ (N:Nat) (r0:Bool→O R) (b:List UInt8) (q1:Int→O R):O R :=
 (q1 0)
def HR (r0:Bool→O R) (b:List UInt8):O R:=(QJ N r0 b (fun c=>(Oy N r0 b N c)))
def d_ (N:Nat) (r0:Bool→O R) (q0:O R) (b:List UInt8):O R :=
 (cond ((decide ((((b.length):Nat):Int)<1))==false) (cond ((cond false true (decide ((((b.length):Nat):Int)>16)))==false) (cond (cond false true (b==([99,111,114,114,101,99,116,105,118,101]:List UInt8))) (r0 false) q0) (r0 false)) (r0 false))
def MN:=(Ai (fun (N:Nat) (b:List UInt8) (r0:Bool→O R)=>(d_ N r0 (HR N r0 b) b))).1
theorem mB (b r0):(@MN R N b r0)=(d_ N r0 (HR N r0 b) b):=by rw[MN,(Ai _).2]
def sQ:Hints:={ H:=(hS hL (hJ [0] hL (hS (hS hL (hS (hP [0,3] (hS hL (hS (hS (hJ [0,3,4] hL hL) hL) hL))) hL)) hL))) }
def ZZ (F:KF R):=Ki Tryz.f224 sQ [] [] N F
def Jl (F:KF R):Bool→O R:=(fun f=>F (.bool f) [])
def Aow (b:List UInt8) (d:Int) (e:Bool):St:=⟨[(0,(.str b)),(3,(iv d)),(4,(.bool e))],[]⟩
def Aox (F:KF R) (Q1:St→O R):=ZZ N F [1,1,0,1,0,0,1,0,0,1] [Q1]
def sR (b:List UInt8) (c:Int):St:=⟨[(0,(.str b)),(3,(iv c))],[]⟩
def sS (F:KF R):=ZZ N F [1,1,0,1,0] []
def Aoy (b:List UInt8):St:=⟨[(0,(.str b))],[]⟩
def Aoz (F:KF R):=ZZ N F [1,1] []
theorem yn (Q1:St→O R) (F:KF R) (b:List UInt8):∀ (d:Int) (e:Bool),B8 (Aox N F Q1) (Aow b d e)=(HQ N (fun c=>Q1 (sR b c)) (Jl F) b d e):=by
 intro d e
 kernel_rfl
theorem Z_ (F:KF R) (b:List UInt8):∀ (n:Nat) (c:Int),Ak (sS N F) n (sR b c)=(Oy N (Jl F) b n c)
 | 0,_=>by kernel_rfl
 | n+1,c=>have e0:=(funext fun c=>(Z_ F b n c))
  Eq.trans (by kernel_rfl) (PQ (CB N (Jl F) b · · c) e0 (funext fun d=>funext fun e=>(A2 ..).trans ((yn N (Ak (sS N F) n) F b d e).trans (Bv (HQ N · (Jl F) b d e) e0))):_)
theorem yo (F:KF R) (b:List UInt8):B8 (Aoz N F) (Aoy b)=(HR N (Jl F) b):=by
 exact Eq.trans (by kernel_rfl) (Bv (QJ N (Jl F) b ·) (funext fun c=>(Ac ..).trans (Z_ N F b N c)):_)
theorem sT (b:List UInt8) (F:KF R):C7 [] sQ N 224 [(.str b)] [] F=(MN N b (Jl F)):=by
 rw[mB]
 exact Eq.trans (by kernel_rfl) (Bv (d_ N (Jl F) · b) ((A2 ..).trans (yo N F b)):_)
def mC (a:LA) (h:Aj) (k:KF R):O R :=
 match a,h with
 | [(.str b)],[]=>(MN N b (Jl k))
 | _,_=>none
theorem sU:An N 224 @mC:=by
 intro R Q a h k j;unfold mC;split;exact A3 (sT ..) (sT ..) trivial;exact A5
def Ao0:=A4 (sU N)
def Ao1:=C8 (sU N)
def Jm (r0:LA→O R) (c b:Int) (d:Nat) (e:LA) (k0:Int→LA→O R) (f:Int) (g:LA):O R :=
 (cond (decide (f<b)) (cond (Ah f d) (BT (e.drop (0+((f.toNat)*1))) fun o=>(cond (Ah b d) (BT (e.drop (0+((b.toNat)*1))) fun p=>(Aa N (!(o==p)) c b 0 10 g (fun q=>(k0 (wrap .i64 (f+1)) q)))) none)) none) (r0 g))
def Dy (r0:LA→O R) (c b:Int) (d:Nat) (e:LA):Nat→Int→LA→O R
 | 0,_,_=>none
 | n+1,f,g=>(Jm N r0 c b d e (Dy r0 c b d e n) f g)
def N4 (r0:LA→O R) (q0:Nat→LA→Int→LA→O R) (i:LA) (l:Bool) (c b:Int) (m:LA):O R :=
 (cond (Nat.ble 8 (i.length)) (Hx N (i.take 8) l c (fun d e=>(cond (Ah b d) (BT (e.drop (0+((b.toNat)*1))) fun r=>(MN N r (fun s=>(Aa N s c b 0 9 m (fun t=>(q0 d e 0 t)))))) none))) none)
def Ck:=(Ai (fun (N:Nat) (i:LA) (l:Bool) (c b:Int) (m:LA) (r0:LA→O R)=>(N4 N r0 (fun d e f g=>(Dy N r0 c b d e N f g)) i l c b m))).1
theorem Y0 (i l c b m r0):(@Ck R N i l c b m r0)=(N4 N r0 (fun d e f g=>(Dy N r0 c b d e N f g)) i l c b m):=by rw[Ck,(Ai _).2]
def AL:Hints:={ H:=(hS hL (hS hL (hS hL (hS hL (hS (hP [0,2,3,8,9] hL) hL))))) }
def EU:Gm:=[(222,lx N),(224,Ao0 N),(161,Bs N)]
def ep (F:KF R):=Ki Tryz.f159 AL (EU N) [100000] N F
def G3 (F:KF R):LA→O R:=(fun u=>F (.tup []) [(100000,(bQ 0 u))])
def eu (c b:Int) (d:Nat) (e:LA) (f:Int) (g:LA):St:=⟨[(0,(.optr 100000 0)),(2,(iv c)),(3,(iv b)),(8,(.own 300000 0 d)),(9,(iv f))],[(100000,(bQ 0 g)),(300000,(bQ 1 e))]⟩
def ew (F:KF R):=ep N F [1,1,1,1,0] []
theorem Uc (F:KF R) (c b:Int) (d:Nat) (e:LA):∀ (n:Nat) (f:Int) (g:LA),Ak (ew N F) n (eu c b d e f g)=(Dy N (G3 F) c b d e n f g)
 | 0,_,_=>by kernel_rfl
 | n+1,f,g=>Eq.trans (by kernel_rfl) (Bv (Jm N (G3 F) c b d e · f g) (funext fun f=>funext fun g=>(Uc F c b d e n f g)):_)
theorem AM (i:LA) (l:Bool) (c b:Int) (m:LA) (F:KF R):C7 (EU N) AL N 159 [(.optr 100000 0),(.pagg i l),(iv c),(iv b)] [(100000,(bQ 0 m))] F=(Ck N i l c b m (G3 F)):=by
 rw[Y0]
 exact Eq.trans (by kernel_rfl) (Bv (N4 N (G3 F) · i l c b m) (funext fun d=>funext fun e=>funext fun f=>funext fun g=>(Ac ..).trans (Uc N F c b d e N f g)):_)
def Y1 (a:LA) (h:Aj) (k:KF R):O R :=
 match a,h with
 | [(.optr 100000 0),(.pagg i l),(.int .i64 c),(.int .i64 b)],[(100000,⟨false,false,true,false,0,m,false,none⟩)]=>(Ck N i l c b m (G3 k))
 | _,_=>none
theorem AN:An N 159 @Y1:=by
 intro R Q a h k j;unfold Y1;split;exact A3 (AM ..) (AM ..) ⟨ly N,Ao1 N,Bt N,trivial⟩;exact A5
def Fd:=A4 (AN N)
def Fe:=C8 (AN N)
def Wh (b:LA) (i:Bool) (c d e f:Int) (g:LA) (r0:LA→O R):O R :=
 (Bw 3 (b.drop 2) fun p l=>(Ap N 0 (wrap .i64 (((l:Nat):Int) - 1)) [(.int .i64 c)] 1 false true (fun m=>(Aa N m d e f 12 g (fun n=>(r0 n))))))
def Ec:=(Ai (@Wh R)).1
theorem AO:@Ec R=@Wh R:=(Ai _).2
def mD:Gm:=[(162,Dm N),(161,Bs N)]
def EV (F:KF R):LA→O R:=(fun o=>F (.tup []) [(100000,(bQ 0 o))])
theorem EW (b:LA) (i:Bool) (c d e f:Int) (g:LA) (F:KF R):C7 (mD N) Dx N 225 [(.optr 100000 0),(.pagg b i),(iv c),(iv d),(iv e),(iv f)] [(100000,(bQ 0 g))] F=(Ec N b i c d e f g (EV F)):=by
 rw[AO]
 kernel_rfl
def AP (a:LA) (h:Aj) (k:KF R):O R :=
 match a,h with
 | [(.optr 100000 0),(.pagg b i),(.int .i64 c),(.int .i64 d),(.int .i64 e),(.int .i64 f)],[(100000,⟨false,false,true,false,0,g,false,none⟩)]=>(Ec N b i c d e f g (EV k))
 | _,_=>none
theorem EX:An N 225 @AP:=by
 intro R Q a h k j;unfold AP;split;exact A3 (EW ..) (EW ..) ⟨Dn N,Bt N,trivial⟩;exact A5
def Mh:=A4 (EX N)
def Mi:=C8 (EX N)
def JZ (b:LA) (c:Bool) (r0:Bool→O R):O R :=
 (At .i64 (b.drop 1) fun d=>(Ap N 1 1048576 [(.int .i64 d)] 1 false true (fun e=>(cond (e==true) (At .i64 b fun f=>(Ap N (-1048576) 1048576 [(.int .i64 f)] 1 false true (fun g=>(r0 (cond true g false))))) (r0 false)))))
def Jn:=(Ai (@JZ R)).1
theorem MO:@Jn R=@JZ R:=(Ai _).2
def yp:Gm:=[(162,Dm N)]
def UD (F:KF R):Bool→O R:=(fun i=>F (.bool i) [])
theorem UE (b:LA) (c:Bool) (F:KF R):C7 (yp N) Dx N 226 [(.pagg b c)] [] F=(Jn N b c (UD F)):=by
 rw[MO]
 kernel_rfl
def MP (a:LA) (h:Aj) (k:KF R):O R :=
 match a,h with
 | [(.pagg b c)],[]=>(Jn N b c (UD k))
 | _,_=>none
theorem UF:An N 226 @MP:=by
 intro R Q a h k j;unfold MP;split;exact A3 (UE ..) (UE ..) ⟨Dn N,trivial⟩;exact A5
def UG:=A4 (UF N)
def UH:=C8 (UF N)
def Oz (N:Nat) (r0:Bool→O R) (c:LA) (b:Nat) (d e:Bool) (k0:Int→O R) (f:Int):O R :=
 (cond (decide (f<((b:Nat):Int))) (cond (Ah f b) (At .i64 (c.drop ((f.toNat)*1)) fun g=>(cond (Ah (wrap .i64 (f - 1)) b) (At .i64 (c.drop (((wrap .i64 (f - 1)).toNat)*1)) fun i=>(cond (decide (g≤i)) (r0 false) (k0 (wrap .i64 (f+1))))) none)) none) (r0 true))
def Hg (r0:Bool→O R) (c:LA) (b:Nat) (d e:Bool):Nat→Int→O R
 | 0,_=>none
 | n+1,f=>(Oz N r0 c b d e (Hg r0 c b d e n) f)
def HS (N:Nat) (r0:Bool→O R) (q0:Int→O R) (c:LA) (b:Nat) (d e:Bool):O R :=
 (q0 1)
def O0:=(Ai (fun (N:Nat) (c:LA) (b:Nat) (d e:Bool) (r0:Bool→O R)=>(HS N r0 (fun f=>(Hg N r0 c b d e N f)) c b d e))).1
theorem Z' (c b d e r0):(@O0 R N c b d e r0)=(HS N r0 (fun f=>(Hg N r0 c b d e N f)) c b d e):=by rw[O0,(Ai _).2]
def Acr (F:KF R):=Ki Tryz.f229 Awq [] [] N F
def Q8 (F:KF R):Bool→O R:=(fun l=>F (.bool l) [])
def Acs (c:LA) (b:Nat) (d e:Bool) (f:Int):St:=⟨[(0,(.imm c b 1 d e)),(3,(iv f))],[]⟩
def Acu (F:KF R):=Acr N F [1,0,1,0] []
theorem MQ (F:KF R) (c:LA) (b:Nat) (d e:Bool):∀ (n:Nat) (f:Int),Ak (Acu N F) n (Acs c b d e f)=(Hg N (Q8 F) c b d e n f)
 | 0,_=>by kernel_rfl
 | n+1,f=>Eq.trans (by kernel_rfl) (Bv (Oz N (Q8 F) c b d e · f) (funext fun f=>(MQ F c b d e n f)):_)
theorem gU (c:LA) (b:Nat) (d e:Bool) (F:KF R):C7 [] Awq N 229 [(.imm c b 1 d e)] [] F=(O0 N c b d e (Q8 F)):=by
 rw[Z']
 exact Eq.trans (by kernel_rfl) (Bv (HS N (Q8 F) · c b d e) (funext fun f=>(Ac ..).trans (MQ N F c b d e N f)):_)
def aA (a:LA) (h:Aj) (k:KF R):O R :=
 match a,h with
 | [(.imm c b 1 d e)],[]=>(O0 N c b d e (Q8 k))
 | _,_=>none
theorem gV:An N 229 @aA:=by
 intro R Q a h k j;unfold aA;split;exact A3 (gU ..) (gU ..) trivial;exact A5
def gW:=A4 (gV N)
def gX:=C8 (gV N)
def Ud (i:LA) (m:Bool) (b:LA) (c:Nat) (n d:Bool) (e f g:Int) (l:LA) (r0:LA→O R):O R :=
 (At .i64 i fun o=>(Ap N 0 (wrap .i64 (o - 1)) b c false d (fun p=>(Aa N p e f g 3 l (fun q=>(O0 N b c false d (fun r=>(Aa N r e f g 11 q (fun s=>(r0 s))))))))))
def Hy:=(Ai (@Ud R)).1
theorem Y2:@Hy R=@Ud R:=(Ai _).2
def ja:Gm:=[(162,Dm N),(161,Bs N),(229,gW N)]
def AQ (F:KF R):LA→O R:=(fun t=>F (.tup []) [(100000,(bQ 0 t))])
theorem AR (i:LA) (m:Bool) (b:LA) (c:Nat) (n d:Bool) (e f g:Int) (l:LA) (F:KF R):C7 (ja N) Dx N 227 [(.optr 100000 0),(.pagg i m),(.imm b c 1 n d),(iv e),(iv f),(iv g)] [(100000,(bQ 0 l))] F=(Hy N i m b c n d e f g l (AQ F)):=by
 rw[Y2]
 kernel_rfl
def Y3 (a:LA) (h:Aj) (k:KF R):O R :=
 match a,h with
 | [(.optr 100000 0),(.pagg i m),(.imm b c 1 n d),(.int .i64 e),(.int .i64 f),(.int .i64 g)],[(100000,⟨false,false,true,false,0,l,false,none⟩)]=>(Hy N i m b c n d e f g l (AQ k))
 | _,_=>none
theorem AS:An N 227 @Y3:=by
 intro R Q a h k j;unfold Y3;split;exact A3 (AR ..) (AR ..) ⟨Dn N,Bt N,gX N,trivial⟩;exact A5
def AT:=A4 (AS N)
def AU:=C8 (AS N)
end
end Gx

namespace Gx
open Go Go.Proofs
open IntKind (wrap)
set_option maxRecDepth 100000
noncomputable section
variable {R:Type} (N:Nat)
def G9 (r0:LA→O R) (b:Int) (l:LA) (o:Nat) (c:Bool) (k2:Int→Int→LA→O R) (r f:Int) (s:LA):O R :=
 (cond (decide (f<r)) (cond (Ah f o) (cond (Nat.ble 3 ((l.drop ((f.toNat)*3)).length)) (cond ((!c)||(A0 ((l.drop ((f.toNat)*3)).take 3))) (cond ((Nat.beq (((l.drop ((f.toNat)*3)).take 3).length) 3)&&((Nat.ble 3 3)&&(!false))) (At .i64 ((setCells [(.int .i64 0),(.int .i64 0),(.int .i64 0)] 0 ((l.drop ((f.toNat)*3)).take 3)).drop 1) fun z=>(At .i64 ((setCells [(.int .i64 0),(.int .i64 0),(.int .i64 0)] 0 ((l.drop ((f.toNat)*3)).take 3)).drop 2) fun aa=>(Ap N 0 1048576 [(.int .i64 z),(.int .i64 aa)] 2 false true (fun ab=>(Aa N ab 6 b 3 3 s (fun ac=>(k2 r (wrap .i64 (f+1)) ac))))))) none) none) none) none) (r0 s))
def D2 (r0:LA→O R) (b:Int) (l:LA) (o:Nat) (c:Bool):Nat→Int→Int→LA→O R
 | 0,_,_,_=>none
 | n+1,r,f,s=>(G9 N r0 b l o c (D2 r0 b l o c n) r f s)
def Ha (r0:LA→O R) (b:Int) (m:LA) (p:Nat) (c:Bool) (t d e:LA) (k1:Nat→Int→Int→LA→O R) (q2:LA→Nat→Int→Int→LA→O R) (g:Nat) (u i:Int) (q:LA):O R :=
 (cond (decide (i<u)) (cond (Ah i p) (cond (Nat.ble 3 ((m.drop ((i.toNat)*3)).length)) (cond ((!c)||(A0 ((m.drop ((i.toNat)*3)).take 3))) (cond ((Nat.beq (((m.drop ((i.toNat)*3)).take 3).length) 3)&&((Nat.ble 3 3)&&(!false))) (At .i64 (setCells [(.int .i64 0),(.int .i64 0),(.int .i64 0)] 0 ((m.drop ((i.toNat)*3)).take 3)) fun ad=>(cond ((Nat.ble (g+1) 140737488355328)&&(Nat.ble ((g+1)*8) 140737488355328)) (k1 (g+1) u (wrap .i64 (i+1)) ((q.take (g*1))++[(.int .i64 ad)])) none)) none) none) none) none) (Bw 22 (d.drop 4) fun be ae=>(Ap N 0 (wrap .i64 (((ae:Nat):Int) - 1)) (q.take (g*1)) g false true (fun af=>(Aa N af 6 b 3 12 t (fun ag=>(O0 N (q.take (g*1)) g false true (fun ah=>(Aa N ah 6 b 3 11 ag (fun ai=>(Bw 3 (e.drop 3) fun l o=>(q2 l o ((o:Nat):Int) 0 ai))))))))))))
def D3 (r0:LA→O R) (b:Int) (m:LA) (p:Nat) (c:Bool) (t d e:LA):Nat→Nat→Int→Int→LA→O R
 | 0,_,_,_,_=>none
 | n+1,g,u,i,q=>(Ha N r0 b m p c t d e (D3 r0 b m p c t d e n) (fun l o r f s=>(D2 N r0 b l o c N r f s)) g u i q)
def Mj (r0:LA→O R) (b:Int) (c:Bool) (d:LA) (q1:LA→Nat→LA→Nat→Int→Int→LA→O R) (v e:LA):O R :=
 (Bw 3 (e.drop 3) fun bf aj=>(Aa N (decide (((aj:Nat):Int)≤16)) 6 b 3 8 v (fun t=>(Bw 3 (e.drop 3) fun m p=>(q1 m p t 0 ((p:Nat):Int) 0 [])))))
def Is (r0:LA→O R) (b:Int) (c:Bool) (d:LA) (v e:LA):O R:=(Mj N r0 b c d (fun m p t g u i q=>(D3 N r0 b m p c t d e N g u i q)) v e)
def Kq (r0:LA→O R) (q0:LA→LA→O R) (d:LA) (c:Bool) (b:Int) (w:LA):O R :=
 (Bw 4 (d.drop 7) fun x ak=>(cond (Ah b ak) (cond (Nat.ble 4 ((x.drop ((b.toNat)*4)).length)) (cond ((Nat.beq 0 0)&&((Nat.beq (((x.drop ((b.toNat)*4)).take 4).length) 4)&&(Nat.beq 4 4))) (cond (Nat.ble 8 (d.length)) (Ck N (d.take 8) c 6 b w (fun al=>(Bw 1 (((x.drop ((b.toNat)*4)).take 4).drop 1) fun bg am=>(Ap N 1 2 [(.int .i64 ((am:Nat):Int))] 1 false true (fun an=>(Aa N an 6 b 1 4 al (fun ao=>(Bw 12 (d.drop 3) fun bh ap=>(Bw 1 (((x.drop ((b.toNat)*4)).take 4).drop 1) fun aq ar=>(Ap N 0 (wrap .i64 (((ap:Nat):Int) - 1)) aq ar false c (fun au=>(Aa N au 6 b 1 12 ao (fun av=>(Bw 1 (((x.drop ((b.toNat)*4)).take 4).drop 1) fun aw ax=>(O0 N aw ax false c (fun ay=>(Aa N ay 6 b 1 11 av (fun y=>(XY (((x.drop ((b.toNat)*4)).take 4).drop 2) fun az=>(cond (az==false) (Bw 3 (((x.drop ((b.toNat)*4)).take 4).drop 3) fun bi ba=>(Aa N (cond false true (((ba:Nat):Int)==0)) 6 b 3 16 y (fun bb=>(q0 bb ((x.drop ((b.toNat)*4)).take 4))))) (Aa N true 6 b 3 16 y (fun bc=>(q0 bc ((x.drop ((b.toNat)*4)).take 4)))))))))))))))))))))))) none) none) none) none))
def Fx:=(Ai (fun (N:Nat) (d:LA) (c:Bool) (b:Int) (w:LA) (r0:LA→O R)=>(Kq N r0 (fun v e=>(Is N r0 b c d v e)) d c b w))).1
theorem Ue (d c b w r0):(@Fx R N d c b w r0)=(Kq N r0 (fun v e=>(Is N r0 b c d v e)) d c b w):=by rw[Fx,(Ai _).2]
def Vm:Hints:={ H:=(hS hL (hS hL (hS hL (hS hL (hS hL (hS hL (hJ [0,2,4,6,7] hL (hS hL (hS hL (hS (hS hL (hS (hP [0,2,4,6,7,8,71,72,73] hL) hL)) (hS hL (hS hL (hS hL (hS (hP [0,2,7,100,101,102] hL) hL)))))))))))))),nils:=[(8,1)] }
def Y4:Gm:=[(159,Fd N),(162,Dm N),(161,Bs N),(229,gW N)]
def Ny (F:KF R):=Ki Tryz.f167 Vm (Y4 N) [100000] N F
def B5 (F:KF R):LA→O R:=(fun bd=>F (.tup []) [(100000,(bQ 0 bd))])
def WQ (b:Int) (l:LA) (o:Nat) (c:Bool) (r f:Int) (s:LA):St:=⟨[(0,(.optr 100000 0)),(2,(iv b)),(7,(iv 6)),(100,(.imm l o 3 false c)),(101,(iv r)),(102,(iv f))],[(100000,(bQ 0 s))]⟩
def WR (F:KF R):=Ny N F [1,1,1,1,1,1,1,1,1,1,1,1,1,0] []
def WS (b:Int) (m:LA) (p:Nat) (c:Bool) (t d e:LA) (g:Nat) (u i:Int) (q:LA):St:=⟨[(0,(.optr 100000 0)),(2,(iv b)),(4,(op 0)),(6,(op 1)),(7,(iv 6)),(8,(.own 300002 0 g)),(71,(.imm m p 3 false c)),(72,(iv u)),(73,(iv i))],[(100000,(bQ 0 t)),(300000,(bP c 0 d)),(300001,(bP c 0 e)),(300002,(bQ 1 q))]⟩
def WT (F:KF R):=Ny N F [1,1,1,1,1,1,1,1,1,0,1,0] []
def WU (b:Int) (c:Bool) (d v e:LA):St:=⟨[(0,(.optr 100000 0)),(2,(iv b)),(4,(op 0)),(6,(op 1)),(7,(iv 6))],[(100000,(bQ 0 v)),(300000,(bP c 0 d)),(300001,(bP c 0 e))]⟩
def WV (F:KF R):=Ny N F [1,1,1,1,1,1,1] []
theorem Ra (F:KF R) (b:Int) (l:LA) (o:Nat) (c:Bool):∀ (n:Nat) (r f:Int) (s:LA),Ak (WR N F) n (WQ b l o c r f s)=(D2 N (B5 F) b l o c n r f s)
 | 0,_,_,_=>by kernel_rfl
 | n+1,r,f,s=>Eq.trans (by kernel_rfl) (Bv (G9 N (B5 F) b l o c · r f s) (funext fun r=>funext fun f=>funext fun s=>(Ra F b l o c n r f s)):_)
theorem Rb (F:KF R) (b:Int) (m:LA) (p:Nat) (c:Bool) (t d e:LA):∀ (n g:Nat) (u i:Int) (q:LA),Ak (WT N F) n (WS b m p c t d e g u i q)=(D3 N (B5 F) b m p c t d e n g u i q)
 | 0,_,_,_,_=>by kernel_rfl
 | n+1,g,u,i,q=>Eq.trans (by kernel_rfl) (PQ (Ha N (B5 F) b m p c t d e · · g u i q) (funext fun g=>funext fun u=>funext fun i=>funext fun q=>(Rb F b m p c t d e n g u i q)) (funext fun l=>funext fun o=>funext fun r=>funext fun f=>funext fun s=>(Ac ..).trans (Ra N F b l o c N r f s)):_)
theorem J_ (F:KF R) (b:Int) (c:Bool) (d:LA):∀ (v e:LA),B8 (WV N F) (WU b c d v e)=(Is N (B5 F) b c d v e):=by
 intro v e
 exact Eq.trans (by kernel_rfl) (Bv (Mj N (B5 F) b c d · v e) (funext fun m=>funext fun p=>funext fun t=>funext fun g=>funext fun u=>funext fun i=>funext fun q=>(Ac ..).trans (Rb N F b m p c t d e N g u i q)):_)
theorem Vn (d:LA) (c:Bool) (b:Int) (w:LA) (F:KF R):C7 (Y4 N) Vm N 167 [(.optr 100000 0),(.pagg d c),(iv b)] [(100000,(bQ 0 w))] F=(Fx N d c b w (B5 F)):=by
 rw[Ue]
 exact Eq.trans (by kernel_rfl) (Bv (Kq N (B5 F) · d c b w) (funext fun v=>funext fun e=>(A2 ..).trans (J_ N F b c d v e)):_)
def Uf (a:LA) (h:Aj) (k:KF R):O R :=
 match a,h with
 | [(.optr 100000 0),(.pagg d c),(.int .i64 b)],[(100000,⟨false,false,true,false,0,w,false,none⟩)]=>(Fx N d c b w (B5 k))
 | _,_=>none
theorem Vo:An N 167 @Uf:=by
 intro R Q a h k j;unfold Uf;split;exact A3 (Vn ..) (Vn ..) ⟨Fe N,Dn N,Bt N,gX N,trivial⟩;exact A5
def WW:=A4 (Vo N)
def WX:=C8 (Vo N)
def HT (N:Nat) (r0:Bool→O R) (c:LA) (b:Nat) (e f:Bool) (d:Int) (k0:Int→O R) (g:Int):O R :=
 (cond (decide (g<((b:Nat):Int))) (cond (Ah g b) (At .i64 (c.drop ((g.toNat)*1)) fun i=>(cond (i==d) (r0 true) (k0 (wrap .i64 (g+1))))) none) (r0 false))
def Si (r0:Bool→O R) (c:LA) (b:Nat) (e f:Bool) (d:Int):Nat→Int→O R
 | 0,_=>none
 | n+1,g=>(HT N r0 c b e f d (Si r0 c b e f d n) g)
def mE (N:Nat) (r0:Bool→O R) (q0:Int→O R) (c:LA) (b:Nat) (e f:Bool) (d:Int):O R :=
 (q0 0)
def HU:=(Ai (fun (N:Nat) (c:LA) (b:Nat) (e f:Bool) (d:Int) (r0:Bool→O R)=>(mE N r0 (fun g=>(Si N r0 c b e f d N g)) c b e f d))).1
theorem sV (c b e f d r0):(@HU R N c b e f d r0)=(mE N r0 (fun g=>(Si N r0 c b e f d N g)) c b e f d):=by rw[HU,(Ai _).2]
def yq:Hints:={ H:=(hS hL (hS (hS hL (hS (hP [0,1,5] hL) hL)) hL)) }
def Aty (F:KF R):=Ki Tryz.f169 yq [] [] N F
def EY (F:KF R):Bool→O R:=(fun l=>F (.bool l) [])
def Atz (c:LA) (b:Nat) (e f:Bool) (d g:Int):St:=⟨[(0,(.imm c b 1 e f)),(1,(iv d)),(5,(iv g))],[]⟩
def At0 (F:KF R):=Aty N F [1,0,1,0] []
theorem gY (F:KF R) (c:LA) (b:Nat) (e f:Bool) (d:Int):∀ (n:Nat) (g:Int),Ak (At0 N F) n (Atz c b e f d g)=(Si N (EY F) c b e f d n g)
 | 0,_=>by kernel_rfl
 | n+1,g=>Eq.trans (by kernel_rfl) (Bv (HT N (EY F) c b e f d · g) (funext fun g=>(gY F c b e f d n g)):_)
theorem yr (c:LA) (b:Nat) (e f:Bool) (d:Int) (F:KF R):C7 [] yq N 169 [(.imm c b 1 e f),(iv d)] [] F=(HU N c b e f d (EY F)):=by
 rw[sV]
 exact Eq.trans (by kernel_rfl) (Bv (mE N (EY F) · c b e f d) (funext fun g=>(Ac ..).trans (gY N F c b e f d N g)):_)
def sW (a:LA) (h:Aj) (k:KF R):O R :=
 match a,h with
 | [(.imm c b 1 e f),(.int .i64 d)],[]=>(HU N c b e f d (EY k))
 | _,_=>none
theorem yt:An N 169 @sW:=by
 intro R Q a h k j;unfold sW;split;exact A3 (yr ..) (yr ..) trivial;exact A5
def jb:=A4 (yt N)
def jc:=C8 (yt N)
def N5 (r0:Nat→LA→O R) (c:Int) (d:Bool) (b:LA) (k0:Nat→Int→LA→O R) (e:Nat) (f:Int) (g:LA):O R :=
 (Bw 12 (b.drop 3) fun t i=>(cond (decide (f<((i:Nat):Int))) (Bw 12 (b.drop 3) fun l m=>(cond (Ah f m) (Bw 1 ((l.drop ((f.toNat)*12)).drop 11) fun o p=>(HU N o p false d c (fun q=>(cond (!q) (cond ((Nat.ble (e+1) 140737488355328)&&(Nat.ble ((e+1)*8) 140737488355328)) (k0 (e+1) (wrap .i64 (f+1)) ((g.take (e*1))++[(.int .i64 f)])) none) (k0 e (wrap .i64 (f+1)) g))))) none)) (r0 e g)))
def Fy (r0:Nat→LA→O R) (c:Int) (d:Bool) (b:LA):Nat→Nat→Int→LA→O R
 | 0,_,_,_=>none
 | n+1,e,f,g=>(N5 N r0 c d b (Fy r0 c d b n) e f g)
def Ug (N:Nat) (r0:Nat→LA→O R) (q0:Nat→Int→LA→O R) (b:LA) (d:Bool) (c:Int):O R :=
 (q0 0 0 [])
def No:=(Ai (fun (N:Nat) (b:LA) (d:Bool) (c:Int) (r0:Nat→LA→O R)=>(Ug N r0 (fun e f g=>(Fy N r0 c d b N e f g)) b d c))).1
theorem HV (b d c r0):(@No R N b d c r0)=(Ug N r0 (fun e f g=>(Fy N r0 c d b N e f g)) b d c):=by rw[No,(Ai _).2]
def MR:Hints:={ H:=(hS hL (hS hL (hS (hS hL (hS (hP [1,2,5,6] hL) hL)) hL))),nils:=[(4,1),(5,1)],modes:=[(2,1)] }
def UI:Gm:=[(169,jb N)]
def qB (F:KF R):=Ki Tryz.f230 MR (UI N) [] N F
def K4 (F:KF R):Nat→LA→O R:=(fun r s=>F (.own 300000 0 r) (hq [(bQ 1 s)]))
def qC (c:Int) (d:Bool) (b:LA) (e:Nat) (f:Int) (g:LA):St:=⟨[(1,(iv c)),(2,(op 0)),(5,(.own 300001 0 e)),(6,(iv f))],(hq [(bP d 0 b),(bQ 1 g)])⟩
def qD (F:KF R):=qB N F [1,1,0,1,0] []
theorem AW (F:KF R) (c:Int) (d:Bool) (b:LA):∀ (n e:Nat) (f:Int) (g:LA),Ak (qD N F) n (qC c d b e f g)=(Fy N (K4 F) c d b n e f g)
 | 0,_,_,_=>by kernel_rfl
 | n+1,e,f,g=>Eq.trans (by kernel_rfl) (Bv (N5 N (K4 F) c d b · e f g) (funext fun e=>funext fun f=>funext fun g=>(AW F c d b n e f g)):_)
theorem MS (b:LA) (d:Bool) (c:Int) (F:KF R):C7 (UI N) MR N 230 [(.pagg b d),(iv c)] [] F=(No N b d c (K4 F)):=by
 rw[HV]
 exact Eq.trans (by kernel_rfl) (Bv (Ug N (K4 F) · b d c) (funext fun e=>funext fun f=>funext fun g=>(Ac ..).trans (AW N F c d b N e f g)):_)
def HW (a:LA) (h:Aj) (k:KF R):O R :=
 match a,h with
 | [(.pagg b d),(.int .i64 c)],[]=>(No N b d c (K4 k))
 | _,_=>none
theorem MT:An N 230 @HW:=by
 intro R Q a h k j;unfold HW;split;exact A3 (MS ..) (MS ..) ⟨jc N,trivial⟩;exact A5
def qE:=A4 (MT N)
def qF:=C8 (MT N)
def Xw (N:Nat) (r0:Nat→Nat→LA→LA→O R) (d:Nat) (c:Bool) (b g:LA) (k0:Nat→Int→Int→LA→O R) (e:Nat) (i f:Int) (l:LA):O R :=
 (cond (decide (f<i)) (cond (Ah f d) (At .i64 (g.drop (0+((f.toNat)*1))) fun o=>(Bw 12 (b.drop 3) fun p q=>(cond (Ah o q) (At .i64 ((p.drop ((o.toNat)*12)).drop 1) fun r=>(Bw 12 (b.drop 3) fun s t=>(cond (Ah o t) (At .i64 ((s.drop ((o.toNat)*12)).drop 2) fun u=>(cond ((Nat.ble (e+1) 140737488355328)&&(Nat.ble ((e+1)*16) 140737488355328)) (k0 (e+1) i (wrap .i64 (f+1)) ((l.take (e*2))++[(.int .i64 r),(.int .i64 u)])) none)) none))) none))) none) (r0 e d l g))
def Mk (r0:Nat→Nat→LA→LA→O R) (d:Nat) (c:Bool) (b g:LA):Nat→Nat→Int→Int→LA→O R
 | 0,_,_,_,_=>none
 | n+1,e,i,f,l=>(Xw N r0 d c b g (Mk r0 d c b g n) e i f l)
def QK (r0:Nat→Nat→LA→LA→O R) (q0:Nat→LA→Nat→Int→Int→LA→O R) (b:LA) (c:Bool) (m:Int):O R :=
 (cond (Nat.ble 8 (b.length)) (No N (b.take 8) c m (fun d g=>(q0 d g 0 ((d:Nat):Int) 0 []))) none)
def DL:=(Ai (fun (N:Nat) (b:LA) (c:Bool) (m:Int) (r0:Nat→Nat→LA→LA→O R)=>(QK N r0 (fun d g e i f l=>(Mk N r0 d c b g N e i f l)) b c m))).1
theorem gZ (b c m r0):(@DL R N b c m r0)=(QK N r0 (fun d g e i f l=>(Mk N r0 d c b g N e i f l)) b c m):=by rw[DL,(Ai _).2]
def mF:Hints:={ H:=(hS hL (hS hL (hS hL (hS (hS hL (hS (hP [2,6,7,13,14,15] hL) hL)) hL)))),nils:=[(4,2),(5,1),(7,2)],modes:=[(2,2),(2,1)] }
def sX:Gm:=[(230,qE N)]
def Ajn (F:KF R):=Ki Tryz.f168 mF (sX N) [] N F
def Uh (F:KF R):Nat→Nat→LA→LA→O R:=(fun v w x y=>F (.tup [(.own 300000 0 v),(.own 300001 0 w)]) (hq [(bQ 2 x),(bQ 1 y)]))
def Ajo (d:Nat) (c:Bool) (b g:LA) (e:Nat) (i f:Int) (l:LA):St:=⟨[(2,(op 0)),(6,(.own 300001 0 d)),(7,(.own 300002 0 e)),(13,(.own 300001 0 d)),(14,(iv i)),(15,(iv f))],(hq [(bP c 0 b),(bQ 1 g),(bQ 2 l)])⟩
def Ajp (F:KF R):=Ajn N F [1,1,1,0,1,0] []
theorem UJ (F:KF R) (d:Nat) (c:Bool) (b g:LA):∀ (n e:Nat) (i f:Int) (l:LA),Ak (Ajp N F) n (Ajo d c b g e i f l)=(Mk N (Uh F) d c b g n e i f l)
 | 0,_,_,_,_=>by kernel_rfl
 | n+1,e,i,f,l=>Eq.trans (by kernel_rfl) (Bv (Xw N (Uh F) d c b g · e i f l) (funext fun e=>funext fun i=>funext fun f=>funext fun l=>(UJ F d c b g n e i f l)):_)
theorem mG (b:LA) (c:Bool) (m:Int) (F:KF R):C7 (sX N) mF N 168 [(.pagg b c),(iv m)] [] F=(DL N b c m (Uh F)):=by
 rw[gZ]
 exact Eq.trans (by kernel_rfl) (Bv (QK N (Uh F) · b c m) (funext fun d=>funext fun g=>funext fun e=>funext fun i=>funext fun f=>funext fun l=>(Ac ..).trans (UJ N F d c b g N e i f l)):_)
def g8 (a:LA) (h:Aj) (k:KF R):O R :=
 match a,h with
 | [(.pagg b c),(.int .i64 m)],[]=>(DL N b c m (Uh k))
 | _,_=>none
theorem mH:An N 168 @g8:=by
 intro R Q a h k j;unfold g8;split;exact A3 (mG ..) (mG ..) ⟨qF N,trivial⟩;exact A5
def Ajq:=A4 (mH N)
def Ajr:=C8 (mH N)
def R5 (N:Nat) (k1:Bool→LA→O R) (r0:Nat→LA→O R) (b:LA) (d:Nat) (f e:Bool) (c:Nat) (k2:Bool→Int→Int→LA→O R) (s:Bool) (p g:Int) (l:LA):O R :=
 (cond (decide (g<p)) (cond (Ah g d) (cond (Nat.ble 2 ((b.drop ((g.toNat)*2)).length)) (cond ((!e)||(A0 ((b.drop ((g.toNat)*2)).take 2))) (cond ((Nat.beq (((b.drop ((g.toNat)*2)).take 2).length) 2)&&((Nat.ble 2 2)&&(!false))) (At .i64 (setCells [(.int .i64 0),(.int .i64 0)] 0 ((b.drop ((g.toNat)*2)).take 2)) fun ab=>(cond (Ah ab c) (At .i64 (l.drop (0+((ab.toNat)*1))) fun t=>(At .i64 ((setCells [(.int .i64 0),(.int .i64 0)] 0 ((b.drop ((g.toNat)*2)).take 2)).drop 1) fun ac=>(cond (Ah ac c) (At .i64 (l.drop (0+((ac.toNat)*1))) fun u=>(cond (s==false) (At .i64 (setCells [(.int .i64 0),(.int .i64 0)] 0 ((b.drop ((g.toNat)*2)).take 2)) fun ad=>(cond (Ah ad c) (At .i64 (l.drop (0+((ad.toNat)*1))) fun af=>(cond ((cond false true (af != (Lo t u)))==false) (At .i64 ((setCells [(.int .i64 0),(.int .i64 0)] 0 ((b.drop ((g.toNat)*2)).take 2)).drop 1) fun ae=>(cond (Ah ae c) (At .i64 (l.drop (0+((ae.toNat)*1))) fun ag=>(At .i64 (setCells [(.int .i64 0),(.int .i64 0)] 0 ((b.drop ((g.toNat)*2)).take 2)) fun v=>(At .i64 ((setCells [(.int .i64 0),(.int .i64 0)] 0 ((b.drop ((g.toNat)*2)).take 2)).drop 1) fun y=>(cond (Ah v c) (cond ((Nat.beq 1 1)&&((Nat.ble ((0+((v.toNat)*1))+1) (l.length))&&(!false))) (cond (Ah y c) (cond ((Nat.beq 1 1)&&((Nat.ble ((0+((y.toNat)*1))+1) ((l.set (0+((v.toNat)*1)) (.int .i64 (Lo t u))).length))&&(!false))) (k2 (cond false true (ag != (Lo t u))) p (wrap .i64 (g+1)) ((l.set (0+((v.toNat)*1)) (.int .i64 (Lo t u))).set (0+((y.toNat)*1)) (.int .i64 (Lo t u)))) none) none) none) none)))) none)) (At .i64 (setCells [(.int .i64 0),(.int .i64 0)] 0 ((b.drop ((g.toNat)*2)).take 2)) fun w=>(At .i64 ((setCells [(.int .i64 0),(.int .i64 0)] 0 ((b.drop ((g.toNat)*2)).take 2)).drop 1) fun z=>(cond (Ah w c) (cond ((Nat.beq 1 1)&&((Nat.ble ((0+((w.toNat)*1))+1) (l.length))&&(!false))) (cond (Ah z c) (cond ((Nat.beq 1 1)&&((Nat.ble ((0+((z.toNat)*1))+1) ((l.set (0+((w.toNat)*1)) (.int .i64 (Lo t u))).length))&&(!false))) (k2 true p (wrap .i64 (g+1)) ((l.set (0+((w.toNat)*1)) (.int .i64 (Lo t u))).set (0+((z.toNat)*1)) (.int .i64 (Lo t u)))) none) none) none) none))))) none)) (At .i64 (setCells [(.int .i64 0),(.int .i64 0)] 0 ((b.drop ((g.toNat)*2)).take 2)) fun x=>(At .i64 ((setCells [(.int .i64 0),(.int .i64 0)] 0 ((b.drop ((g.toNat)*2)).take 2)).drop 1) fun aa=>(cond (Ah x c) (cond ((Nat.beq 1 1)&&((Nat.ble ((0+((x.toNat)*1))+1) (l.length))&&(!false))) (cond (Ah aa c) (cond ((Nat.beq 1 1)&&((Nat.ble ((0+((aa.toNat)*1))+1) ((l.set (0+((x.toNat)*1)) (.int .i64 (Lo t u))).length))&&(!false))) (k2 true p (wrap .i64 (g+1)) ((l.set (0+((x.toNat)*1)) (.int .i64 (Lo t u))).set (0+((aa.toNat)*1)) (.int .i64 (Lo t u)))) none) none) none) none))))) none))) none)) none) none) none) none) (k1 s l))
def Ig (k1:Bool→LA→O R) (r0:Nat→LA→O R) (b:LA) (d:Nat) (f e:Bool) (c:Nat):Nat→Bool→Int→Int→LA→O R
 | 0,_,_,_,_=>none
 | n+1,s,p,g,l=>(R5 N k1 r0 b d f e c (Ig k1 r0 b d f e c n) s p g l)
def R6 (N:Nat) (r0:Nat→LA→O R) (b:LA) (d:Nat) (f e:Bool) (c:Nat) (k1:Bool→LA→O R) (q2:Bool→Int→Int→LA→O R) (q:Bool) (o:LA):O R :=
 (cond q (q2 false ((d:Nat):Int) 0 o) (r0 c o))
def Do (r0:Nat→LA→O R) (b:LA) (d:Nat) (f e:Bool) (c:Nat):Nat→Bool→LA→O R
 | 0,_,_=>none
 | n+1,q,o=>(R6 N r0 b d f e c (Do r0 b d f e c n) (fun s p g l=>(Ig N (Do r0 b d f e c n) r0 b d f e c N s p g l)) q o)
def R7 (N:Nat) (r0:Nat→LA→O R) (i:Int) (b:LA) (d:Nat) (f e:Bool) (k0:Nat→Int→LA→O R) (q1:Bool→LA→O R) (c:Nat) (m:Int) (r:LA):O R :=
 (cond (decide (m<i)) (cond (Ah m c) (cond ((Nat.beq 1 1)&&((Nat.ble ((0+((m.toNat)*1))+1) (r.length))&&(!false))) (k0 c (wrap .i64 (m+1)) (r.set (0+((m.toNat)*1)) (.int .i64 m))) none) none) (q1 true r))
def Ih (r0:Nat→LA→O R) (i:Int) (b:LA) (d:Nat) (f e:Bool):Nat→Nat→Int→LA→O R
 | 0,_,_,_=>none
 | n+1,c,m,r=>(R7 N r0 i b d f e (Ih r0 i b d f e n) (fun q o=>(Do N r0 b d f e c N q o)) c m r)
def CC (N:Nat) (r0:Nat→LA→O R) (q0:Nat→Int→LA→O R) (i:Int) (b:LA) (d:Nat) (f e:Bool):O R :=
 (cond ((decide (0≤i))&&((decide (i≤i))&&((decide (i≤140737488355328))&&(decide ((i*((8:Nat):Int))≤140737488355328))))) (q0 (i.toNat) 0 (List.replicate (i.toNat) (.int .i64 0))) none)
def O1:=(Ai (fun (N:Nat) (i:Int) (b:LA) (d:Nat) (f e:Bool) (r0:Nat→LA→O R)=>(CC N r0 (fun c m r=>(Ih N r0 i b d f e N c m r)) i b d f e))).1
theorem UK (i b d f e r0):(@O1 R N i b d f e r0)=(CC N r0 (fun c m r=>(Ih N r0 i b d f e N c m r)) i b d f e):=by rw[O1,(Ai _).2]
def aB:Hints:={ H:=(hS hL (hS hL (hS (hS hL (hS (hP [0,1,5,6] hL) hL)) (hS (hS hL (hS (hP [1,5,7] (hS hL (hS (hS hL (hS hL (hS (hP [1,5,7,23,24,25] hL) hL))) hL))) hL)) hL)))),nils:=[(4,1)],modes:=[(2,1)] }
def EZ (F:KF R):=Ki Tryz.f232 aB [] [] N F
def D7 (F:KF R):Nat→LA→O R:=(fun ah ai=>F (.own 300000 0 ah) (hq [(bQ 1 ai)]))
def yu (b:LA) (d:Nat) (f e:Bool) (c:Nat) (s:Bool) (p g:Int) (l:LA):St:=⟨[(1,(.imm b d 2 f e)),(5,(.own 300000 0 c)),(7,(.bool s)),(23,(.imm b d 2 f e)),(24,(iv p)),(25,(iv g))],(hq [(bQ 1 l)])⟩
def yv (F:KF R) (Q1:St→O R):=EZ N F [1,1,1,0,1,0,0,1,0,1,1,0] [Q1]
def E_ (b:LA) (d:Nat) (f e:Bool) (c:Nat) (q:Bool) (o:LA):St:=⟨[(1,(.imm b d 2 f e)),(5,(.own 300000 0 c)),(7,(.bool q))],(hq [(bQ 1 o)])⟩
def aC (F:KF R):=EZ N F [1,1,1,0,1,0] []
def yw (i:Int) (b:LA) (d:Nat) (f e:Bool) (c:Nat) (m:Int) (r:LA):St:=⟨[(0,(iv i)),(1,(.imm b d 2 f e)),(5,(.own 300000 0 c)),(6,(iv m))],(hq [(bQ 1 r)])⟩
def yx (F:KF R):=EZ N F [1,1,0,1,0] []
theorem HX (Q1:St→O R) (F:KF R) (b:LA) (d:Nat) (f e:Bool) (c:Nat):∀ (n:Nat) (s:Bool) (p g:Int) (l:LA),Ak (yv N F Q1) n (yu b d f e c s p g l)=(Ig N (fun q o=>Q1 (E_ b d f e c q o)) (D7 F) b d f e c n s p g l)
 | 0,_,_,_,_=>by kernel_rfl
 | n+1,s,p,g,l=>Eq.trans (by kernel_rfl) (Bv (R5 N (fun q o=>Q1 (E_ b d f e c q o)) (D7 F) b d f e c · s p g l) (funext fun s=>funext fun p=>funext fun g=>funext fun l=>(HX Q1 F b d f e c n s p g l)):_)
theorem HY (F:KF R) (b:LA) (d:Nat) (f e:Bool) (c:Nat):∀ (n:Nat) (q:Bool) (o:LA),Ak (aC N F) n (E_ b d f e c q o)=(Do N (D7 F) b d f e c n q o)
 | 0,_,_=>by kernel_rfl
 | n+1,q,o=>have e0:=(funext fun q=>funext fun o=>(HY F b d f e c n q o))
  Eq.trans (by kernel_rfl) (PQ (R6 N (D7 F) b d f e c · · q o) e0 (funext fun s=>funext fun p=>funext fun g=>funext fun l=>(Ac ..).trans ((HX N (Ak (aC N F) n) F b d f e c N s p g l).trans (Bv (Ig N · (D7 F) b d f e c N s p g l) e0))):_)
theorem HZ (F:KF R) (i:Int) (b:LA) (d:Nat) (f e:Bool):∀ (n c:Nat) (m:Int) (r:LA),Ak (yx N F) n (yw i b d f e c m r)=(Ih N (D7 F) i b d f e n c m r)
 | 0,_,_,_=>by kernel_rfl
 | n+1,c,m,r=>Eq.trans (by kernel_rfl) (PQ (R7 N (D7 F) i b d f e · · c m r) (funext fun c=>funext fun m=>funext fun r=>(HZ F i b d f e n c m r)) (funext fun q=>funext fun o=>(Ac ..).trans (HY N F b d f e c N q o)):_)
theorem aD (i:Int) (b:LA) (d:Nat) (f e:Bool) (F:KF R):C7 [] aB N 232 [(iv i),(.imm b d 2 f e)] [] F=(O1 N i b d f e (D7 F)):=by
 rw[UK]
 exact Eq.trans (by kernel_rfl) (Bv (CC N (D7 F) · i b d f e) (funext fun c=>funext fun m=>funext fun r=>(Ac ..).trans (HZ N F i b d f e N c m r)):_)
def UL (a:LA) (h:Aj) (k:KF R):O R :=
 match a,h with
 | [(.int .i64 i),(.imm b d 2 f e)],[]=>(O1 N i b d f e (D7 k))
 | _,_=>none
theorem aE:An N 232 @UL:=by
 intro R Q a h k j;unfold UL;split;exact A3 (aD ..) (aD ..) trivial;exact A5
def yy:=A4 (aE N)
def yz:=C8 (aE N)
def Xx (N:Nat) (r0:Int→O R) (c:LA) (b:Nat) (d e:Bool) (k0:Int→Int→O R) (g f:Int):O R :=
 (cond (decide (f<((b:Nat):Int))) (cond (Ah f b) (At .i64 (c.drop ((f.toNat)*1)) fun i=>(cond (i==f) (k0 (wrap .i64 (g+1)) (wrap .i64 (f+1))) (k0 g (wrap .i64 (f+1))))) none) (r0 g))
def Ml (r0:Int→O R) (c:LA) (b:Nat) (d e:Bool):Nat→Int→Int→O R
 | 0,_,_=>none
 | n+1,g,f=>(Xx N r0 c b d e (Ml r0 c b d e n) g f)
def QL (N:Nat) (r0:Int→O R) (q0:Int→Int→O R) (c:LA) (b:Nat) (d e:Bool):O R :=
 (q0 0 0)
def Wi:=(Ai (fun (N:Nat) (c:LA) (b:Nat) (d e:Bool) (r0:Int→O R)=>(QL N r0 (fun g f=>(Ml N r0 c b d e N g f)) c b d e))).1
theorem g9 (c b d e r0):(@Wi R N c b d e r0)=(QL N r0 (fun g f=>(Ml N r0 c b d e N g f)) c b d e):=by rw[Wi,(Ai _).2]
def mI:Hints:={ H:=(hS hL (hS hL (hS (hS hL (hS (hP [0,3,4] hL) hL)) hL))) }
def Ajs (F:KF R):=Ki Tryz.f231 mI [] [] N F
def Ui (F:KF R):Int→O R:=(fun l=>F (iv l) [])
def Ajt (c:LA) (b:Nat) (d e:Bool) (g f:Int):St:=⟨[(0,(.imm c b 1 d e)),(3,(iv g)),(4,(iv f))],[]⟩
def Aju (F:KF R):=Ajs N F [1,1,0,1,0] []
theorem UM (F:KF R) (c:LA) (b:Nat) (d e:Bool):∀ (n:Nat) (g f:Int),Ak (Aju N F) n (Ajt c b d e g f)=(Ml N (Ui F) c b d e n g f)
 | 0,_,_=>by kernel_rfl
 | n+1,g,f=>Eq.trans (by kernel_rfl) (Bv (Xx N (Ui F) c b d e · g f) (funext fun g=>funext fun f=>(UM F c b d e n g f)):_)
theorem mJ (c:LA) (b:Nat) (d e:Bool) (F:KF R):C7 [] mI N 231 [(.imm c b 1 d e)] [] F=(Wi N c b d e (Ui F)):=by
 rw[g9]
 exact Eq.trans (by kernel_rfl) (Bv (QL N (Ui F) · c b d e) (funext fun g=>funext fun f=>(Ac ..).trans (UM N F c b d e N g f)):_)
def g_ (a:LA) (h:Aj) (k:KF R):O R :=
 match a,h with
 | [(.imm c b 1 d e)],[]=>(Wi N c b d e (Ui k))
 | _,_=>none
theorem mK:An N 231 @g_:=by
 intro R Q a h k j;unfold g_;split;exact A3 (mJ ..) (mJ ..) trivial;exact A5
def Ajv:=A4 (mK N)
def Ajw:=C8 (mK N)
def N6 (r0:Bool→O R) (d:Int) (b:LA) (c:Nat) (m e:Bool) (f:LA) (g:Nat) (o i:Bool) (k0:Nat→Int→LA→O R) (p:Nat) (l:Int) (q:LA):O R :=
 (cond (decide (l<((c:Nat):Int))) (HU N f g false i l (fun t=>(cond (!t) (cond (Ah l c) (cond (Nat.ble 2 ((b.drop ((l.toNat)*2)).length)) (cond ((!e)||(A0 ((b.drop ((l.toNat)*2)).take 2))) (cond ((Nat.beq (((b.drop ((l.toNat)*2)).take 2).length) 2)&&(Nat.ble 2 2)) (cond ((Nat.ble (p+1) 140737488355328)&&(Nat.ble ((p+1)*16) 140737488355328)) (k0 (p+1) (wrap .i64 (l+1)) ((q.take (p*2))++((setCells [(.int .i64 0),(.int .i64 0)] 0 ((b.drop ((l.toNat)*2)).take 2)).take 2))) none) none) none) none) none) (k0 p (wrap .i64 (l+1)) q)))) (O1 N d (q.take (p*2)) p false true (fun r u=>(Wi N (u.take (r*1)) r false true (fun v=>(O1 N d b c false e (fun s w=>(Wi N (w.take (s*1)) s false true (fun x=>(r0 (decide (v>x))))))))))))
def Fz (r0:Bool→O R) (d:Int) (b:LA) (c:Nat) (m e:Bool) (f:LA) (g:Nat) (o i:Bool):Nat→Nat→Int→LA→O R
 | 0,_,_,_=>none
 | n+1,p,l,q=>(N6 N r0 d b c m e f g o i (Fz r0 d b c m e f g o i n) p l q)
def Uj (N:Nat) (r0:Bool→O R) (q0:Nat→Int→LA→O R) (d:Int) (b:LA) (c:Nat) (m e:Bool) (f:LA) (g:Nat) (o i:Bool):O R :=
 (q0 0 0 [])
def Np:=(Ai (fun (N:Nat) (d:Int) (b:LA) (c:Nat) (m e:Bool) (f:LA) (g:Nat) (o i:Bool) (r0:Bool→O R)=>(Uj N r0 (fun p l q=>(Fz N r0 d b c m e f g o i N p l q)) d b c m e f g o i))).1
theorem H_ (d b c m e f g o i r0):(@Np R N d b c m e f g o i r0)=(Uj N r0 (fun p l q=>(Fz N r0 d b c m e f g o i N p l q)) d b c m e f g o i):=by rw[Np,(Ai _).2]
def MU:Hints:={ H:=(hS hL (hS hL (hS (hS hL (hS (hP [0,1,2,7,8] hL) hL)) hL))),nils:=[(7,2)] }
def UN:Gm:=[(169,jb N),(232,yy N),(231,Ajv N)]
def qG (F:KF R):=Ki Tryz.f170 MU (UN N) [] N F
def K5 (F:KF R):Bool→O R:=(fun y=>F (.bool y) [])
def qH (d:Int) (b:LA) (c:Nat) (m e:Bool) (f:LA) (g:Nat) (o i:Bool) (p:Nat) (l:Int) (q:LA):St:=⟨[(0,(iv d)),(1,(.imm b c 2 m e)),(2,(.imm f g 1 o i)),(7,(.own 300000 0 p)),(8,(iv l))],(hq [(bQ 2 q)])⟩
def qI (F:KF R):=qG N F [1,1,0,1,0] []
theorem AX (F:KF R) (d:Int) (b:LA) (c:Nat) (m e:Bool) (f:LA) (g:Nat) (o i:Bool):∀ (n p:Nat) (l:Int) (q:LA),Ak (qI N F) n (qH d b c m e f g o i p l q)=(Fz N (K5 F) d b c m e f g o i n p l q)
 | 0,_,_,_=>by kernel_rfl
 | n+1,p,l,q=>Eq.trans (by kernel_rfl) (Bv (N6 N (K5 F) d b c m e f g o i · p l q) (funext fun p=>funext fun l=>funext fun q=>(AX F d b c m e f g o i n p l q)):_)
theorem MV (d:Int) (b:LA) (c:Nat) (m e:Bool) (f:LA) (g:Nat) (o i:Bool) (F:KF R):C7 (UN N) MU N 170 [(iv d),(.imm b c 2 m e),(.imm f g 1 o i)] [] F=(Np N d b c m e f g o i (K5 F)):=by
 rw[H_]
 exact Eq.trans (by kernel_rfl) (Bv (Uj N (K5 F) · d b c m e f g o i) (funext fun p=>funext fun l=>funext fun q=>(Ac ..).trans (AX N F d b c m e f g o i N p l q)):_)
def H' (a:LA) (h:Aj) (k:KF R):O R :=
 match a,h with
 | [(.int .i64 d),(.imm b c 2 m e),(.imm f g 1 o i)],[]=>(Np N d b c m e f g o i (K5 k))
 | _,_=>none
theorem MW:An N 170 @H':=by
 intro R Q a h k j;unfold H';split;exact A3 (MV ..) (MV ..) ⟨jc N,yz N,Ajw N,trivial⟩;exact A5
def qJ:=A4 (MW N)
def qK:=C8 (MW N)
end
end Gx

namespace Gx.Cf
open Go Go.Proofs
section
variable {R:Type}
def Es (n N:Nat):Prop:=n<N∧n<4611686018427387904
theorem Bo {j:Nat} (h:j<4611686018427387904):IntKind.wrap .i64 ((j:Int)+1)=((j+1:Nat):Int):=by rw[wrap_i64 _ (by omega)];omega
theorem E' {l:List Int} {j:Nat} (h:j<l.length) {f:Int→O R}:At .i64 (List.drop ((Int.toNat (j:Int))*1) (Aq l)) f=f l[j]:=by
 rw[Int.toNat_natCast,Nat.mul_one,kX h]
theorem Hh {j n:Nat} (h:j<n):decide ((j:Int)<(n:Int))=true:=by simp;omega
theorem Iu {j n:Nat} (h:n≤j):decide ((j:Int)<(n:Int))=false:=by simp;omega
theorem B7 {α:Type} {l:List α} {j:Nat} (h:j<l.length):l.drop j=l[j]::l.drop (j+1):=List.drop_eq_getElem_cons h
theorem Cx {α:Type} {l:List α} {j:Nat} (h:l.length≤j):l.drop j=[]:=List.drop_eq_nil_of_le h
theorem MX {N:Nat} {lo hi:Int} {l:List Int} {t o:Bool} {K:Bool→O R} (hs:l.length<4611686018427387904):∀ (m j fuel:Nat),j+m=l.length→m<fuel →
  If N K lo hi (Aq l) l.length t o fuel (j:Int)=K ((l.drop j).all (Fb lo hi))
 | 0,j,fuel+1,d,_=>by
  rw[If];unfold R4
  rw[Iu (by omega),cf,Cx (by omega)];rfl
 | m+1,j,fuel+1,d,f=>by
  rw[If];unfold R4
  have h:j<l.length:=by omega
  rw[Hh h,ct,Ab h,ct,E' h,ct,E' h,Bo (by omega),MX hs m (j+1) fuel (by omega) (by omega),B7 h,List.all_cons]
  unfold Fb
  by_cases b:l[j]<lo
  ·have:¬ lo≤l[j]:=by omega
   simp[b,this]
  ·have:lo≤l[j]:=by omega
   by_cases c:l[j]>hi
   ·have:¬ l[j]≤hi:=by omega
    simp[b,c,this]
   ·have e:l[j]≤hi:=by omega
    simp[b,c,this,e]
theorem Hz {N:Nat} {lo hi:Int} {l:List Int} {n:Nat} {t o:Bool} {K:Bool→O R} (hn:n=l.length) (hs:Es l.length N):Ap N lo hi (Aq l) n t o K=K (l.all (Fb lo hi)):=by
 subst hn
 rw[TX];unfold CA
 have:=MX (R:=R) (N:=N) (lo:=lo) (hi:=hi) (t:=t) (o:=o) (K:=K) hs.2 l.length 0 N (by omega) hs.1
 simpa using this
theorem Ed {N:Nat} {lo hi a:Int} {t o:Bool} {K:Bool→O R} (hN:8≤N):Ap N lo hi [.int .i64 a] 1 t o K=K (Fb lo hi a):=by
 have:=Hz (R:=R) (N:=N) (lo:=lo) (hi:=hi) (l:=[a]) (t:=t) (o:=o) (K:=K) rfl ⟨by simp;omega,by simp⟩
 simpa[Aq] using this
theorem vC {N:Nat} {lo hi a b:Int} {t o:Bool} {K:Bool→O R} (hN:8≤N):Ap N lo hi [.int .i64 a,.int .i64 b] 2 t o K=K (Fb lo hi a&&Fb lo hi b):=by
 have:=Hz (R:=R) (N:=N) (lo:=lo) (hi:=hi) (l:=[a,b]) (t:=t) (o:=o) (K:=K) rfl ⟨by simp;omega,by simp⟩
 simpa[Aq] using this
def jd:List Int→Bool
 | a::b::r=>decide (a<b)&&jd (b::r)
 | _=>true
theorem DM (a b:Int) (r:List Int):jd (a::b::r)=(decide (a<b)&&jd (b::r)):=by rw[jd]
theorem QM (a:Int):jd [a]=true:=by rw[jd];intros;simp_all
theorem mL:jd []=true:=by rw[jd];intros;simp_all
theorem mM {j:Nat} (h:j+1<4611686018427387904):IntKind.wrap .i64 (((j+1:Nat):Int) - 1)=(j:Int):=by rw[wrap_i64 _ (by omega)];omega
theorem UO {N:Nat} {l:List Int} {t o:Bool} {K:Bool→O R} (hs:l.length<4611686018427387904):∀ (m j fuel:Nat),j+1+m=l.length→m<fuel →
  Hg N K (Aq l) l.length t o fuel ((j+1:Nat):Int)=K (jd (l.drop j))
 | 0,j,fuel+1,c,_=>by
  rw[Hg];unfold Oz
  rw[Iu (by omega),cf,B7 (by omega),Cx (by omega),QM]
 | m+1,j,fuel+1,c,d=>by
  rw[Hg];unfold Oz
  have h:j+1<l.length:=by omega
  have h':j<l.length:=by omega
  rw[Hh h,ct,Ab h,ct,E' h,mM (by omega),Ab h',ct,E' h',Bo (by omega),UO hs m (j+1) fuel (by omega) (by omega),B7 h',B7 h,DM]
  by_cases b:l[j+1]≤l[j]
  ·have:¬ l[j]<l[j+1]:=by omega
   simp[b,this]
  ·have:l[j]<l[j+1]:=by omega
   simp[b,this]
theorem Z7 {N:Nat} {l:List Int} {n:Nat} {t o:Bool} {K:Bool→O R} (hn:n=l.length) (hs:Es l.length N):O0 N (Aq l) n t o K=K (jd l):=by
 subst hn
 rw[Z'];unfold HS
 rcases l with _ | ⟨a,r⟩
 ·have hN:=hs.1
  rcases N with _ | N
  ·simp at hN
  ·dsimp only;rw[Hg];unfold Oz;simp[mL]
 ·have:=UO (R:=R) (N:=N) (t:=t) (o:=o) (K:=K) hs.2 r.length 0 N (by simp;omega) (by have:=hs.1;simp at this;omega)
  simpa using this
theorem mN {N:Nat} {v:Int} {l:List Int} {t o:Bool} {K:Bool→O R} (hs:l.length<4611686018427387904):∀ (m j fuel:Nat),j+m=l.length→m<fuel →
  Si N K (Aq l) l.length t o v fuel (j:Int)=K ((l.drop j).contains v)
 | 0,j,fuel+1,b,_=>by
  rw[Si];unfold HT
  rw[Iu (by omega),cf,Cx (by omega)];rfl
 | m+1,j,fuel+1,b,c=>by
  rw[Si];unfold HT
  have h:j<l.length:=by omega
  rw[Hh h,ct,Ab h,ct,E' h,Bo (by omega),mN hs m (j+1) fuel (by omega) (by omega),B7 h,List.contains_cons,BEq.comm]
  cases d:v==l[j]<;>simp
theorem QN {N:Nat} {v:Int} {l:List Int} {n:Nat} {t o:Bool} {K:Bool→O R} (hn:n=l.length) (hs:Es l.length N):HU N (Aq l) n t o v K=K (l.contains v):=by
 subst hn
 rw[sV];unfold mE
 have:=mN (R:=R) (N:=N) (v:=v) (t:=t) (o:=o) (K:=K) hs.2 l.length 0 N (by omega) hs.1
 simpa using this
end
end Gx.Cf

namespace Gx.Cf
open Go Go.Proofs
section
variable {R:Type}
def Bp:C1→Int
 | none=>0
 | some x=>x.2.1
theorem K6 {c:CaseD} {f:Int→O R}:At .i64 c.av f=f c.hours:=by simp[CaseD.av,A6]
theorem At1 {c:CaseD} {f:LA→Nat→O R}:Bw 1 (List.drop 1 c.av) f=f (Aq c.reserve.l) c.reserve.l.length:=by simp[CaseD.av,D6,Fa]
theorem Ii {c:CaseD} {f:LA→Nat→O R}:Bw 3 (List.drop 2 c.av) f=f (c.buses.l.flatMap BusD.av) c.buses.l.length:=by simp[CaseD.av,D6]
theorem Gf {c:CaseD} {f:LA→Nat→O R}:Bw 12 (List.drop 3 c.av) f=f (c.lines.l.flatMap LineD.av) c.lines.l.length:=by simp[CaseD.av,D6]
theorem Ft {c:CaseD} {f:LA→Nat→O R}:Bw 22 (List.drop 4 c.av) f=f (c.units.l.flatMap UnitD.av) c.units.l.length:=by simp[CaseD.av,D6]
theorem Wj {c:CaseD} {f:LA→Nat→O R}:Bw 9 (List.drop 5 c.av) f=f (c.stores.l.flatMap StoreD.av) c.stores.l.length:=by simp[CaseD.av,D6]
theorem QO {c:CaseD} {f:LA→Nat→O R}:Bw 5 (List.drop 6 c.av) f=f (c.ties.l.flatMap TieD.av) c.ties.l.length:=by simp[CaseD.av,D6]
theorem Xy {c:CaseD} {f:LA→Nat→O R}:Bw 4 (List.drop 7 c.av) f=f (c.outs.l.flatMap OutD.av) c.outs.l.length:=by simp[CaseD.av,D6]
def Di (p:C1):LA:=LO p 0 0
theorem Ae {N:Nat} {p:C1} {k i f e:Int} {ok:Bool} {K:LA→O R} (d:e≠0) :
  Aa N ok k i f e (Di p) K=K (Di (nd p ok (k,i,f) ⟨e,d⟩)):=by
 rw[Yv];unfold N3 Ko
 rcases p with _ | ⟨⟨a,b,l⟩,j,c⟩
 ·cases ok<;>simp[Di,LO,A6,nd,Bx,Cy]
 ·have:(j==0)=false:=by simpa using c
  simp[Di,LO,A6,nd,this]
def gc (h:Int) (l:List Int) (lo hi:Int) (w:Int×Int×Int) (p:C1):C1:=nd (nd p ((l.length:Int)==h) w ⟨4,by decide⟩) (l.all (Fb lo hi)) w ⟨3,by decide⟩
def aF (h:Int) (l:List Int) (w:Int×Int×Int) (p:C1):C1:=nd (nd p (l.all (Fb 0 (IntKind.wrap .i64 (h - 1)))) w ⟨3,by decide⟩) (jd l) w ⟨11,by decide⟩
theorem En {N:Nat} {c:CaseD} {p:C1} {k i f lo hi:Int} {l:List Int} {n:Nat} {t o o1:Bool} {K:LA→O R} (hn:n=l.length) (hs:Es l.length N) :
  Cu N c.av o1 (Aq l) n t o lo hi k i f (Di p) K=K (Di (gc c.hours l lo hi (k,i,f) p)):=by
 rw[Ua];unfold Qm
 rw[K6,Ae (by decide),Hz hn hs,Ae (by decide),hn];rfl
theorem Vp {N:Nat} {c:CaseD} {p:C1} {k i f:Int} {l:List Int} {n:Nat} {t o o1:Bool} {K:LA→O R} (hn:n=l.length) (hs:Es l.length N) :
  Hy N c.av o1 (Aq l) n t o k i f (Di p) K=K (Di (aF c.hours l (k,i,f) p)):=by
 rw[Y2];unfold Ud
 rw[K6,Hz hn hs,Ae (by decide),Z7 hn hs,Ae (by decide)];rfl
def UP (c:CaseD) (b:Int):Bool:=decide (0≤b)&&decide (b<(c.buses.l.length:Int))
theorem At2 (n:Nat) (b:Int) (h:n<4611686018427387904):Fb 0 (IntKind.wrap .i64 ((n:Int) - 1)) b=(decide (0≤b)&&decide (b<(n:Int))):=by
 rw[wrap_i64 _ (by omega),Fb]
 congr 1
 simp;omega
theorem Jo {N:Nat} {c:CaseD} {p:C1} {k i f b:Int} {o1:Bool} {K:LA→O R} (hN:8≤N) (d:c.buses.l.length<4611686018427387904) :
  Ec N c.av o1 b k i f (Di p) K=K (Di (nd p (UP c b) (k,i,f) ⟨12,by decide⟩)):=by
 rw[AO];unfold Wh
 rw[Ii,Ed hN,At2 _ _ d,Ae (by decide)];rfl
def I7 (f:FracD):Bool:=Fb 1 1048576 f.den&&Fb (-1048576) 1048576 f.num
theorem IA {N:Nat} {f:FracD} {o:Bool} {K:Bool→O R} (hN:8≤N):Jn N [.int .i64 f.num,.int .i64 f.den] o K=K (I7 f):=by
 rw[MO];unfold JZ
 simp only[List.drop_succ_cons,List.drop_zero,A6,Ed hN]
 unfold I7
 cases Fb 1 1048576 f.den<;>simp
def qL (c:UInt8):Bool:=decide (97≤c.toNat)&&decide (c.toNat≤122)
def A09 (c:UInt8):Bool:=qL c||(decide (48≤c.toNat)&&decide (c.toNat≤57))||decide (c.toNat=95)
def Mm (s:List UInt8):Bool:=decide (1≤s.length)&&(decide (s.length≤16)&&(!(s==[99,111,114,114,101,99,116,105,118,101])&&(qL (s.getD 0 0)&&s.all A09)))
theorem Ajx {s:List UInt8} {j:Nat} (h:j<s.length):List.getD s (Int.toNat (j:Int)) 0=s[j]:=by
 rw[Int.toNat_natCast,List.getD_eq_getElem?_getD,List.getElem?_eq_getElem h];rfl
theorem gd {N:Nat} {s:List UInt8} {K:Bool→O R} (hs:s.length<4611686018427387904):∀ (m j fuel:Nat),j+m=s.length→m<fuel →
  Oy N K s fuel (j:Int)=K ((decide (j≠0)||(decide (s.length=0)||qL (s.getD 0 0)))&&(s.drop j).all A09)
 | 0,j,fuel+1,i,_=>by
  rw[Oy];unfold CB
  rw[Iu (by omega),cf,Cx (by omega)]
  by_cases h:j=0
  ·have:s.length=0:=by omega
   simp[this]
  ·simp[h]
 | m+1,j,fuel+1,i,t=>by
  rw[Oy];unfold CB HQ
  dsimp only
  have h:j<s.length:=by omega
  rw[Hh h,ct,Ab h,ct,Bo (by omega),gd hs m (j+1) fuel (by omega) (by omega),B7 h,List.all_cons,Ajx h]
  have k:j=0→s.getD 0 0=s[j]:=fun e=>by
   have:=Ajx h;rw[←this,e];rfl
  unfold A09 qL
  by_cases b:j=0
  ·rw[k b]
   have c:decide (s.length=0)=false:=decide_eq_false (by omega)
   have e:((j:Int)==0)=true:=by simp;omega
   simp only[ct,b,ne_eq,not_true_eq_false,decide_false,Bool.false_or,c,Nat.zero_add,show decide (¬ (1=0))=true by decide,Bool.true_or,Bool.true_and]
   simp only[b] at *
   generalize s[0].toNat=v
   by_cases d:97≤v<;>by_cases f:v≤122<;>simp[d,f,show((97:Int)≤v)↔97≤v by omega,show((v:Int)≤122)↔v≤122 by omega]
  ·have e:((j:Int)==0)=false:=by simp;omega
   simp only[ct,e,b,ne_eq,not_false_eq_true,decide_true,Bool.true_or,Bool.true_and,show decide (¬ (j+1=0))=true by simp]
   generalize s[j].toNat=v
   generalize (s.drop (j+1)).all _=r
   by_cases d:97≤v<;>by_cases f:v≤122<;>by_cases l:48≤v<;>by_cases n:v≤57<;>by_cases q:v=95 <;>
    simp[d,f,l,n,show((97:Int)≤v)↔97≤v by omega,show((v:Int)≤122)↔v≤122 by omega,show((v:Int)<48)↔¬ 48≤v by omega,show((57:Int)<v)↔¬ v≤57 by omega,show((v:Int) != 95)=!decide (v=95) by (by_cases v=95<;>simp_all<;>omega),q]
theorem Acv {N:Nat} {s:List UInt8} {K:Bool→O R} (hN:64≤N):MN N s K=K (Mm s):=by
 rw[mB];unfold d_ HR QJ
 dsimp only
 unfold Mm
 by_cases b:1≤s.length
 ·by_cases c:s.length≤16
  ·have d:=gd (R:=R) (N:=N) (s:=s) (K:=K) (by omega) s.length 0 N (by omega) (by omega)
   simp only[List.drop_zero,Int.natCast_zero] at d
   rw[d]
   simp only[b,c,show(decide ((s.length:Int)<1))=false by simp;omega,show(decide ((s.length:Int)>16))=false by simp;omega,decide_true,cond_true,cond_false,beq_self_eq_true]
   have:s.length≠0:=by omega
   cases s==[99,111,114,114,101,99,116,105,118,101]<;>simp[this]
  ·simp[b,c,show((s.length:Int)<1)↔¬ 1≤s.length by omega,show((16:Int)<s.length)↔¬ s.length≤16 by omega]
 ·simp[b,show((s.length:Int)<1)↔¬ 1≤s.length by omega]
end
end Gx.Cf

namespace Gx.Cf
open Go Go.Proofs
section
variable {R:Type}
def Kj (names:List (List UInt8)) (k i:Int) (s:List UInt8) (p:C1):C1:=nd (nd p (Mm s) (k,i,0) ⟨9,by decide⟩) (names.all fun x=>!(x==s)) (k,i,0) ⟨10,by decide⟩
theorem K8 (a:BusD):a.av.length=3:=rfl
theorem Cb (a:LineD):a.av.length=12:=rfl
theorem Dg (a:UnitD):a.av.length=22:=rfl
theorem F0 (a:StoreD):a.av.length=9:=rfl
theorem La (a:TieD):a.av.length=5:=rfl
theorem Db (a:OutD):a.av.length=4:=rfl
end
end Gx.Cf

namespace Gx.Cf
open Go Go.Proofs
section
variable {R:Type}
structure Small (c:CaseD) (N:Nat):Prop where
 n64:64≤N
 res:Es c.reserve.l.length N
 bus:Es c.buses.l.length N
 lin:Es c.lines.l.length N
 uni:Es c.units.l.length N
 sto:Es c.stores.l.length N
 tie:Es c.ties.l.length N
 out:Es c.outs.l.length N
 dem:∀ b ∈ c.buses.l,Es b.demand.l.length N
 law:∀ b ∈ c.lines.l,Es b.away.l.length N
 seg:∀ b ∈ c.units.l,Es b.segs.l.length N
 uaw:∀ b ∈ c.units.l,Es b.away.l.length N
 tim:∀ b ∈ c.ties.l,Es b.imp.l.length N
 tex:∀ b ∈ c.ties.l,Es b.exp.l.length N
 tpr:∀ b ∈ c.ties.l,Es b.price.l.length N
 oli:∀ b ∈ c.outs.l,Es b.lines.l.length N
 omo:∀ b ∈ c.outs.l,Es b.moves.l.length N
 omb:∀ b ∈ c.outs.l,b.moves.l.length<8796093022208
 top:c.buses.l.length≤1000000∧c.lines.l.length≤1000000∧c.units.l.length≤1000000∧c.stores.l.length≤1000000∧c.ties.l.length≤1000000∧c.outs.l.length≤1000000
def Bj {α:Type} (f:Nat→α→C1→C1):List α→Nat→C1→C1
 | [],_,p=>p
 | a::r,j,p=>Bj f r (j+1) (f j a p)
theorem Bf {α:Type} {f:Nat→α→C1→C1} {x:(Int×Int×Int)×{ e:Int // e≠0 }} (b:∀ j a,f j a (some x)=some x):∀ (l:List α) (j:Nat),Bj f l j (some x)=some x
 | [],_=>rfl
 | a::r,j=>by rw[Bj,b];exact Bf b r (j+1)
abbrev e1:{ e:Int // e≠0 }:=⟨1,by decide⟩
abbrev e3:{ e:Int // e≠0 }:=⟨3,by decide⟩
abbrev e4:{ e:Int // e≠0 }:=⟨4,by decide⟩
abbrev e8:{ e:Int // e≠0 }:=⟨8,by decide⟩
abbrev Ays:{ e:Int // e≠0 }:=⟨11,by decide⟩
abbrev Ar2:{ e:Int // e≠0 }:=⟨12,by decide⟩
abbrev A6p:{ e:Int // e≠0 }:=⟨13,by decide⟩
abbrev A5t:{ e:Int // e≠0 }:=⟨16,by decide⟩
def aG (c:CaseD) (p:C1):C1 :=
 let p:=nd p (Fb 1 24 c.hours) (0,0,0) e3
 let p:=gc c.hours c.reserve.l 0 1048576 (0,0,1) p
 let p:=nd p (Fb 1 32 (c.buses.l.length:Int)) (0,0,2) e8
 let p:=nd p (decide ((c.lines.l.length:Int)≤64)) (0,0,3) e8
 let p:=nd p (decide ((c.units.l.length:Int)≤16)) (0,0,4) e8
 let p:=nd p (decide ((c.stores.l.length:Int)≤8)) (0,0,5) e8
 let p:=nd p (decide ((c.ties.l.length:Int)≤8)) (0,0,6) e8
 nd p (decide ((c.outs.l.length:Int)≤64)) (0,0,7) e8
def Acw (c:CaseD) (j:Nat) (b:BusD) (p:C1):C1 :=
 let p:=Kj ((c.buses.l.map (·.name)).take j) 1 j b.name p
 let p:=gc c.hours b.demand.l 0 1048576 (1,j,1) p
 nd p (Fb 0 1048576 b.shed) (1,j,2) e3
def MY (c:CaseD) (j:Nat) (x:LineD) (p:C1):C1 :=
 let p:=Kj ((c.lines.l.map (·.name)).take j) 2 j x.name p
 let p:=nd p (UP c x.fr) (2,j,1) Ar2
 let p:=nd p (UP c x.tl) (2,j,2) Ar2
 let p:=nd p (x.tl != x.fr) (2,j,2) e1
 let p:=nd p (I7 x.re&&decide (x.re.num>0)) (2,j,3) e3
 let p:=nd p (I7 x.smin&&decide (x.smin.num≤0)) (2,j,4) e3
 let p:=nd p (I7 x.smax&&decide (x.smax.num≥0)) (2,j,5) e3
 let p:=nd p (Fb 0 1048576 x.limit) (2,j,6) e3
 let p:=nd p (Fb x.limit 1048576 x.emer) (2,j,7) e3
 aF c.hours x.away.l (2,j,8) p
def Z8 (c:CaseD) (j:Nat) (x:StoreD) (p:C1):C1 :=
 let p:=Kj ((c.stores.l.map (·.name)).take j) 4 j x.name p
 let p:=nd p (UP c x.bus) (4,j,1) Ar2
 let p:=nd p (Fb 0 1048576 x.capacity) (4,j,2) e3
 let p:=nd p (Fb 0 x.capacity x.initial) (4,j,3) e3
 let p:=nd p (Fb 0 x.capacity x.final) (4,j,4) e3
 let p:=nd p (Fb 0 1048576 x.charge) (4,j,5) e3
 let p:=nd p (Fb 0 1048576 x.discharge) (4,j,6) e3
 nd p (I7 x.eff&&(decide (x.eff.num>0)&&decide (x.eff.num≤x.eff.den))) (4,j,7) e3
def Acx (c:CaseD) (j:Nat) (x:TieD) (p:C1):C1 :=
 let p:=Kj ((c.ties.l.map (·.name)).take j) 5 j x.name p
 let p:=nd p (UP c x.bus) (5,j,1) Ar2
 let p:=gc c.hours x.imp.l 0 1048576 (5,j,2) p
 let p:=gc c.hours x.exp.l 0 1048576 (5,j,3) p
 gc c.hours x.price.l (-1048576) 1048576 (5,j,4) p
end
end Gx.Cf

namespace Gx.Cf
open Go Go.Proofs
section
variable {R:Type}
theorem O2 (a:SegD):a.av.length=2:=rfl
theorem Eo (a:MoveD):a.av.length=3:=rfl
def sY (s:SegD):Bool:=Fb 1 1048576 s.width&&Fb (-1048576) 1048576 s.price
def WY (a:Int):List SegD→Int
 | []=>a
 | s::r=>WY (IntKind.wrap .i64 (a+s.width)) r
def aH:List SegD→Bool
 | a::b::r=>decide (b.price≥a.price)&&aH (b::r)
 | _=>true
theorem FA (a b:SegD) (r:List SegD):aH (a::b::r)=(decide (b.price≥a.price)&&aH (b::r)):=by rw[aH]
theorem mO (a:SegD):aH [a]=true:=by rw[aH];intros;simp_all
theorem zA:aH []=true:=by rw[aH];intros;simp_all
def Ajy (u:UnitD) (j:Nat) (p:C1):C1 :=
 let p:=nd p (decide ((u.segs.l.length:Int)≤8)) (3,j,4) e8
 let p:=nd p (u.segs.l.all sY) (3,j,4) e3
 let p:=nd p (aH u.segs.l) (3,j,4) Ays
 nd p (WY 0 u.segs.l==IntKind.wrap .i64 (u.max - u.min)) (3,j,4) e4
theorem KA {u:UnitD} {f:LA→Nat→O R}:Bw 2 (List.drop 4 u.av) f=f (u.segs.l.flatMap SegD.av) u.segs.l.length:=by simp[UnitD.av,D6]
theorem Awt {u:UnitD} {f:Int→O R}:At .i64 (List.drop 3 u.av) f=f u.max:=by simp[UnitD.av,A6]
theorem Awu {u:UnitD} {f:Int→O R}:At .i64 (List.drop 2 u.av) f=f u.min:=by simp[UnitD.av,A6]
theorem dx {l:List SegD} {j:Nat} (h:j<l.length) {f:Int→O R}:At .i64 (List.drop 1 (List.drop ((Int.toNat (j:Int))*2) (l.flatMap SegD.av))) f=f l[j].price:=by
 rw[Int.toNat_natCast,Ay O2 _ _ h];simp[SegD.av,A6]
theorem Ayt {l:List SegD} {j:Nat} (h:j<l.length) {f:Int→O R}:At .i64 (List.drop ((Int.toNat (j:Int))*2) (l.flatMap SegD.av)) f=f l[j].width:=by
 rw[Int.toNat_natCast,Ay O2 _ _ h];simp[SegD.av,A6]
def UQ (c:CaseD) (j:Nat) (u:UnitD) (p:C1):C1 :=
 let p:=Kj ((c.units.l.map (·.name)).take j) 3 j u.name p
 let p:=nd p (UP c u.bus) (3,j,1) Ar2
 let p:=nd p (Fb 0 1048576 u.min) (3,j,2) e3
 let p:=nd p (Fb u.min 1048576 u.max) (3,j,3) e3
 let p:=Ajy u j p
 let p:=nd p (Fb 0 1048576 u.noLoad) (3,j,5) e3
 let p:=nd p (Fb 0 1048576 u.rampUp) (3,j,6) e3
 let p:=nd p (Fb 0 1048576 u.rampDown) (3,j,7) e3
 let p:=nd p (Fb u.min u.max u.startRamp) (3,j,8) e3
 let p:=nd p (Fb u.min u.max u.stopRamp) (3,j,9) e3
 let p:=nd p (Fb 0 24 u.upTime) (3,j,10) e3
 let p:=nd p (Fb 0 24 u.downTime) (3,j,11) e3
 let p:=nd p (Fb 0 24 u.startTime) (3,j,12) e3
 let p:=nd p (Fb 0 1048576 u.hotCost) (3,j,13) e3
 let p:=nd p (Fb 0 1048576 u.coldCost) (3,j,14) e3
 let p:=nd p (Fb 0 24 u.hotHours) (3,j,15) e3
 let p:=nd p (Fb 0 1048576 u.reserve) (3,j,16) e3
 let p:=nd p (Fb 0 1048576 u.reservePrice) (3,j,17) e3
 let p:=aF c.hours u.away.l (3,j,18) p
 let p:=nd p (Fb 0 2 u.state) (3,j,19) Ar2
 let p:=nd p (u.state != 1||u.startTime != 0) (3,j,19) A5t
 let p:=nd p (Fb 1 48 u.hours) (3,j,20) e3
 let p:=nd p (u.state != 1||decide (u.hours≤u.startTime)) (3,j,20) e3
 cond (u.state==2) (nd p (Fb u.min u.max u.output) (3,j,21) e3) (nd p (Fb 0 0 u.output) (3,j,21) e3)
def Ao2 (c:CaseD) (m:MoveD):Bool:=decide (0≤m.unit)&&decide (m.unit<(c.units.l.length:Int))
def Acy (m:MoveD):Bool:=Fb 0 1048576 m.up&&Fb 0 1048576 m.down
def je (c:CaseD) (o:OutD) (j:Nat) (p:C1):C1 :=
 let p:=nd p ((o.moves.l.length:Int)==0||o.corr) (6,j,3) A5t
 let p:=nd p (decide ((o.moves.l.length:Int)≤16)) (6,j,3) e8
 let p:=nd p (o.moves.l.all (Ao2 c)) (6,j,3) Ar2
 let p:=nd p (jd (o.moves.l.map (·.unit))) (6,j,3) Ays
 nd p (o.moves.l.all Acy) (6,j,3) e3
theorem vd {u:OutD} {f:LA→Nat→O R}:Bw 3 (List.drop 3 u.av) f=f (u.moves.l.flatMap MoveD.av) u.moves.l.length:=by simp[OutD.av,D6]
theorem A1a {u:OutD} {f:Bool→O R}:XY (List.drop 2 u.av) f=f u.corr:=by simp[OutD.av,A05]
def jf (c:CaseD) (j:Nat) (x:OutD) (p:C1):C1 :=
 let p:=Kj ((c.outs.l.map (·.name)).take j) 6 j x.name p
 let p:=nd p ((x.lines.l.length:Int)==1||(x.lines.l.length:Int)==2) (6,j,1) e4
 let p:=nd p (x.lines.l.all fun n=>decide (0≤n)&&decide (n<(c.lines.l.length:Int))) (6,j,1) Ar2
 let p:=nd p (jd x.lines.l) (6,j,1) Ays
 je c x j p
theorem Nq {c:CaseD} {j:Nat} {x:OutD} {y:(Int×Int×Int)×{ e:Int // e≠0 }}:jf c j x (some y)=some y:=rfl
end
end Gx.Cf

namespace Gx.Cf
open Go Go.Proofs
section
variable {R:Type}
theorem mP {u:OutD} {f:LA→Nat→O R}:Bw 1 (List.drop 1 u.av) f=f (Aq u.lines.l) u.lines.l.length:=by simp[OutD.av,D6,Fa]
end
end Gx.Cf

namespace Gx.Cf
open Go Go.Proofs
section
variable {R:Type}
def Bg (l:List (List UInt8)):LA:=l.map fun s=>.str s
theorem Gg (l:List (List UInt8)):(Bg l).length=l.length:=by simp[Bg]
theorem zB {l:List (List UInt8)} {i:Nat} (h:i<l.length) {f:List UInt8→O R}:BT (List.drop i (Bg l)) f=f l[i]:=by
 rw[Bg,List.drop_eq_getElem_cons (by simpa using h)];simp[El]
theorem Co {c:CaseD}:List.take 8 c.av=c.av:=rfl
theorem F1 {c:CaseD}:Nat.ble 8 (List.length c.av)=true:=rfl
theorem MZ {N:Nat} {c:CaseD} {o:Bool} {K:Nat→LA→O R} (d:c.buses.l.length≤1000000):∀ (m j fuel:Nat),j+m=c.buses.l.length→m<fuel →
  L9 N K o c.av fuel j (j:Int) (Bg ((c.buses.l.take j).map (·.name)))=K c.buses.l.length (Bg (c.buses.l.map (·.name)))
 | 0,j,fuel+1,e,_=>by
  rw[L9];unfold Xq
  have b:j=c.buses.l.length:=by omega
  rw[Ii,Iu (by omega),cf,List.take_of_length_le (by omega),b]
 | m+1,j,fuel+1,e,q=>by
  rw[L9];unfold Xq
  have h:j<c.buses.l.length:=by omega
  have i:(Nat.ble (j+1) 140737488355328&&Nat.ble ((j+1)*16) 140737488355328)=true:=by rw[Bx,Bx];simp;omega
  have k:List.take (j*1) (Bg ((c.buses.l.take j).map (·.name)))++[.str c.buses.l[j].name]=Bg ((c.buses.l.take (j+1)).map (·.name)):=by
   rw[List.take_of_length_le (by simp[Gg];omega),List.take_succ_eq_append_getElem h,List.map_append];simp[Bg]
  have n:∀ f:List UInt8→O R,BT (List.drop (j*3) (List.flatMap BusD.av c.buses.l)) f=f c.buses.l[j].name:=fun f=>by rw[Ay K8 _ _ h];simp[BusD.av,El]
  rw[Ii,Hh h,ct,Ii,Ab h,ct,Int.toNat_natCast,n,i,ct,k,Bo (by omega),MZ d m (j+1) fuel (by omega) (by omega)]
theorem Ao3 {N:Nat} {c:CaseD} {o:Bool} {K:Nat→LA→O R} (hs:Small c N):Hx N c.av o 1 K=K (c.buses.l.map (·.name)).length (Bg (c.buses.l.map (·.name))):=by
 rw[Ke];unfold Mf
 have:=MZ (R:=R) (N:=N) (c:=c) (o:=o) (K:=K) hs.top.1 c.buses.l.length 0 N (by omega) hs.bus.1
 simpa[Bg] using this
theorem M_ {N:Nat} {c:CaseD} {o:Bool} {K:Nat→LA→O R} (d:c.lines.l.length≤1000000):∀ (m j fuel:Nat),j+m=c.lines.l.length→m<fuel →
  Ma N K o c.av fuel j (j:Int) (Bg ((c.lines.l.take j).map (·.name)))=K c.lines.l.length (Bg (c.lines.l.map (·.name)))
 | 0,j,fuel+1,e,_=>by
  rw[Ma];unfold Xr
  have b:j=c.lines.l.length:=by omega
  rw[Gf,Iu (by omega),cf,List.take_of_length_le (by omega),b]
 | m+1,j,fuel+1,e,q=>by
  rw[Ma];unfold Xr
  have h:j<c.lines.l.length:=by omega
  have i:(Nat.ble (j+1) 140737488355328&&Nat.ble ((j+1)*16) 140737488355328)=true:=by rw[Bx,Bx];simp;omega
  have k:List.take (j*1) (Bg ((c.lines.l.take j).map (·.name)))++[.str c.lines.l[j].name]=Bg ((c.lines.l.take (j+1)).map (·.name)):=by
   rw[List.take_of_length_le (by simp[Gg];omega),List.take_succ_eq_append_getElem h,List.map_append];simp[Bg]
  have n:∀ f:List UInt8→O R,BT (List.drop (j*12) (List.flatMap LineD.av c.lines.l)) f=f c.lines.l[j].name:=fun f=>by rw[Ay Cb _ _ h];simp[LineD.av,El]
  rw[Gf,Hh h,ct,Gf,Ab h,ct,Int.toNat_natCast,n,i,ct,k,Bo (by omega),M_ d m (j+1) fuel (by omega) (by omega)]
theorem sZ {N:Nat} {c:CaseD} {o:Bool} {K:Nat→LA→O R} (hs:Small c N):Hx N c.av o 2 K=K (c.lines.l.map (·.name)).length (Bg (c.lines.l.map (·.name))):=by
 rw[Ke];unfold Mf
 have:=M_ (R:=R) (N:=N) (c:=c) (o:=o) (K:=K) hs.top.2.1 c.lines.l.length 0 N (by omega) hs.lin.1
 simpa[Bg] using this
theorem M' {N:Nat} {c:CaseD} {o:Bool} {K:Nat→LA→O R} (d:c.units.l.length≤1000000):∀ (m j fuel:Nat),j+m=c.units.l.length→m<fuel →
  Mb N K o c.av fuel j (j:Int) (Bg ((c.units.l.take j).map (·.name)))=K c.units.l.length (Bg (c.units.l.map (·.name)))
 | 0,j,fuel+1,e,_=>by
  rw[Mb];unfold Xs
  have b:j=c.units.l.length:=by omega
  rw[Ft,Iu (by omega),cf,List.take_of_length_le (by omega),b]
 | m+1,j,fuel+1,e,q=>by
  rw[Mb];unfold Xs
  have h:j<c.units.l.length:=by omega
  have i:(Nat.ble (j+1) 140737488355328&&Nat.ble ((j+1)*16) 140737488355328)=true:=by rw[Bx,Bx];simp;omega
  have k:List.take (j*1) (Bg ((c.units.l.take j).map (·.name)))++[.str c.units.l[j].name]=Bg ((c.units.l.take (j+1)).map (·.name)):=by
   rw[List.take_of_length_le (by simp[Gg];omega),List.take_succ_eq_append_getElem h,List.map_append];simp[Bg]
  have n:∀ f:List UInt8→O R,BT (List.drop (j*22) (List.flatMap UnitD.av c.units.l)) f=f c.units.l[j].name:=fun f=>by rw[Ay Dg _ _ h];simp[UnitD.av,El]
  rw[Ft,Hh h,ct,Ft,Ab h,ct,Int.toNat_natCast,n,i,ct,k,Bo (by omega),M' d m (j+1) fuel (by omega) (by omega)]
theorem s4 {N:Nat} {c:CaseD} {o:Bool} {K:Nat→LA→O R} (hs:Small c N):Hx N c.av o 3 K=K (c.units.l.map (·.name)).length (Bg (c.units.l.map (·.name))):=by
 rw[Ke];unfold Mf
 have:=M' (R:=R) (N:=N) (c:=c) (o:=o) (K:=K) hs.top.2.2.1 c.units.l.length 0 N (by omega) hs.uni.1
 simpa[Bg] using this
theorem IB {N:Nat} {c:CaseD} {o:Bool} {K:Nat→LA→O R} (d:c.stores.l.length≤1000000):∀ (m j fuel:Nat),j+m=c.stores.l.length→m<fuel →
  Mc N K o c.av fuel j (j:Int) (Bg ((c.stores.l.take j).map (·.name)))=K c.stores.l.length (Bg (c.stores.l.map (·.name)))
 | 0,j,fuel+1,e,_=>by
  rw[Mc];unfold Xt
  have b:j=c.stores.l.length:=by omega
  rw[Wj,Iu (by omega),cf,List.take_of_length_le (by omega),b]
 | m+1,j,fuel+1,e,q=>by
  rw[Mc];unfold Xt
  have h:j<c.stores.l.length:=by omega
  have i:(Nat.ble (j+1) 140737488355328&&Nat.ble ((j+1)*16) 140737488355328)=true:=by rw[Bx,Bx];simp;omega
  have k:List.take (j*1) (Bg ((c.stores.l.take j).map (·.name)))++[.str c.stores.l[j].name]=Bg ((c.stores.l.take (j+1)).map (·.name)):=by
   rw[List.take_of_length_le (by simp[Gg];omega),List.take_succ_eq_append_getElem h,List.map_append];simp[Bg]
  have n:∀ f:List UInt8→O R,BT (List.drop (j*9) (List.flatMap StoreD.av c.stores.l)) f=f c.stores.l[j].name:=fun f=>by rw[Ay F0 _ _ h];simp[StoreD.av,El]
  rw[Wj,Hh h,ct,Wj,Ab h,ct,Int.toNat_natCast,n,i,ct,k,Bo (by omega),IB d m (j+1) fuel (by omega) (by omega)]
theorem mQ {N:Nat} {c:CaseD} {o:Bool} {K:Nat→LA→O R} (hs:Small c N):Hx N c.av o 4 K=K (c.stores.l.map (·.name)).length (Bg (c.stores.l.map (·.name))):=by
 rw[Ke];unfold Mf
 have:=IB (R:=R) (N:=N) (c:=c) (o:=o) (K:=K) hs.top.2.2.2.1 c.stores.l.length 0 N (by omega) hs.sto.1
 simpa[Bg] using this
theorem UR {N:Nat} {c:CaseD} {o:Bool} {K:Nat→LA→O R} (d:c.ties.l.length≤1000000):∀ (m j fuel:Nat),j+m=c.ties.l.length→m<fuel →
  Md N K o c.av fuel j (j:Int) (Bg ((c.ties.l.take j).map (·.name)))=K c.ties.l.length (Bg (c.ties.l.map (·.name)))
 | 0,j,fuel+1,e,_=>by
  rw[Md];unfold Xu
  have b:j=c.ties.l.length:=by omega
  rw[QO,Iu (by omega),cf,List.take_of_length_le (by omega),b]
 | m+1,j,fuel+1,e,q=>by
  rw[Md];unfold Xu
  have h:j<c.ties.l.length:=by omega
  have i:(Nat.ble (j+1) 140737488355328&&Nat.ble ((j+1)*16) 140737488355328)=true:=by rw[Bx,Bx];simp;omega
  have k:List.take (j*1) (Bg ((c.ties.l.take j).map (·.name)))++[.str c.ties.l[j].name]=Bg ((c.ties.l.take (j+1)).map (·.name)):=by
   rw[List.take_of_length_le (by simp[Gg];omega),List.take_succ_eq_append_getElem h,List.map_append];simp[Bg]
  have n:∀ f:List UInt8→O R,BT (List.drop (j*5) (List.flatMap TieD.av c.ties.l)) f=f c.ties.l[j].name:=fun f=>by rw[Ay La _ _ h];simp[TieD.av,El]
  rw[QO,Hh h,ct,QO,Ab h,ct,Int.toNat_natCast,n,i,ct,k,Bo (by omega),UR d m (j+1) fuel (by omega) (by omega)]
theorem zC {N:Nat} {c:CaseD} {o:Bool} {K:Nat→LA→O R} (hs:Small c N):Hx N c.av o 5 K=K (c.ties.l.map (·.name)).length (Bg (c.ties.l.map (·.name))):=by
 rw[Ke];unfold Mf
 have:=UR (R:=R) (N:=N) (c:=c) (o:=o) (K:=K) hs.top.2.2.2.2.1 c.ties.l.length 0 N (by omega) hs.tie.1
 simpa[Bg] using this
theorem US {N:Nat} {c:CaseD} {o:Bool} {K:Nat→LA→O R} (d:c.outs.l.length≤1000000):∀ (m j fuel:Nat),j+m=c.outs.l.length→m<fuel →
  Me N K o c.av fuel j (j:Int) (Bg ((c.outs.l.take j).map (·.name)))=K c.outs.l.length (Bg (c.outs.l.map (·.name)))
 | 0,j,fuel+1,e,_=>by
  rw[Me];unfold Xv
  have b:j=c.outs.l.length:=by omega
  rw[Xy,Iu (by omega),cf,List.take_of_length_le (by omega),b]
 | m+1,j,fuel+1,e,q=>by
  rw[Me];unfold Xv
  have h:j<c.outs.l.length:=by omega
  have i:(Nat.ble (j+1) 140737488355328&&Nat.ble ((j+1)*16) 140737488355328)=true:=by rw[Bx,Bx];simp;omega
  have k:List.take (j*1) (Bg ((c.outs.l.take j).map (·.name)))++[.str c.outs.l[j].name]=Bg ((c.outs.l.take (j+1)).map (·.name)):=by
   rw[List.take_of_length_le (by simp[Gg];omega),List.take_succ_eq_append_getElem h,List.map_append];simp[Bg]
  have n:∀ f:List UInt8→O R,BT (List.drop (j*4) (List.flatMap OutD.av c.outs.l)) f=f c.outs.l[j].name:=fun f=>by rw[Ay Db _ _ h];simp[OutD.av,El]
  rw[Xy,Hh h,ct,Xy,Ab h,ct,Int.toNat_natCast,n,i,ct,k,Bo (by omega),US d m (j+1) fuel (by omega) (by omega)]
theorem zD {N:Nat} {c:CaseD} {o:Bool} {K:Nat→LA→O R} (hs:Small c N):Hx N c.av o 6 K=K (c.outs.l.map (·.name)).length (Bg (c.outs.l.map (·.name))):=by
 rw[Ke];unfold Mf
 have:=US (R:=R) (N:=N) (c:=c) (o:=o) (K:=K) hs.top.2.2.2.2.2 c.outs.l.length 0 N (by omega) hs.out.1
 simpa[Bg] using this
theorem Vq {N:Nat} {L:List (List UInt8)} {k:Int} {n:Nat} {K:LA→O R} (hn:n<L.length) (hs:n<4611686018427387904):∀ (m j fuel:Nat) (p:C1),j+m=n→m<fuel →
  Dy N K k (n:Int) L.length (Bg L) fuel (j:Int) (Di p)=K (Di (nd p (((L.take n).drop j).all fun x=>!(x==L[n])) (k,n,0) ⟨10,by decide⟩))
 | 0,j,fuel+1,p,b,_=>by
  rw[Dy];unfold Jm
  rw[Iu (by omega),cf,Cx (l:=L.take n) (by simp;omega),List.all_nil,F7]
 | m+1,j,fuel+1,p,b,d=>by
  rw[Dy];unfold Jm
  have h:j<L.length:=by omega
  have c:j<(L.take n).length:=by simp;omega
  rw[Hh (by omega),ct,Ab h,ct,Int.toNat_natCast,Nat.zero_add,Nat.mul_one,zB h,Ab hn,ct,Int.toNat_natCast,Nat.zero_add,Nat.mul_one,zB hn,Ae (by decide),Bo (by omega),Vq hn hs m (j+1) fuel _ (by omega) (by omega),B7 c,List.all_cons,Qj]
  have e:(L.take n)[j]=L[j]:=by simp
  rw[e]
theorem D4 {N:Nat} {c:CaseD} {L:List (List UInt8)} {o:Bool} {p:C1} {k:Int} {n:Nat} {K:LA→O R} (hN:64≤N) (hL:∀ K:Nat→LA→O R,Hx N c.av o k K=K L.length (Bg L)) (hn:n<L.length) (hs:Es n N) :
  Ck N c.av o k (n:Int) (Di p) K=K (Di (Kj (L.take n) k n L[n] p)):=by
 rw[Y0];unfold N4
 rw[Co,F1,ct,hL,Ab hn,ct,Int.toNat_natCast,Nat.zero_add,Nat.mul_one,zB hn,Acv hN,Ae (by decide)]
 have:=Vq (R:=R) (N:=N) (L:=L) (k:=k) (n:=n) (K:=K) hn hs.2 n 0 N (nd p (Mm L[n]) (k,n,0) ⟨9,by decide⟩) (by omega) hs.1
 simpa[Kj] using this
theorem QP {N fuel:Nat} {c:CaseD} {o:Bool} {p:C1} {K:LA→O R} (hs:Small c N):Bn N K o c.av (fuel+6) 2 (Di p)=K (Di
  (nd (nd (nd (nd (nd p (decide ((c.lines.l.length:Int)≤64)) (0,0,3) e8) (decide ((c.units.l.length:Int)≤16)) (0,0,4) e8) (decide ((c.stores.l.length:Int)≤8)) (0,0,5) e8) (decide ((c.ties.l.length:Int)≤8)) (0,0,6) e8) (decide ((c.outs.l.length:Int)≤64)) (0,0,7) e8)):=by
 have most:∀ (k:Nat) (n:Int) (K:Int→O R),k<7→([0,32,64,16,8,8,64]:List Int)[k]?=some n→Q6 N (k:Int) K=K n:=by
  intro k n K b d
  rw[lz];unfold qA
  rw[Ab b,ct]
  have e:[(.int .i64 (0:Int)),(.int .i64 (32:Int)),(.int .i64 (64:Int)),(.int .i64 (16:Int)),(.int .i64 (8:Int)),(.int .i64 (8:Int)),(.int .i64 (64:Int))]=Aq [0,32,64,16,8,8,64]:=rfl
  rw[e,Int.toNat_natCast,Nat.zero_add,Nat.mul_one,kX (by simpa using b)]
  rw[List.getElem?_eq_getElem (by simpa using b)] at d
  simp only[Option.some.injEq] at d
  rw[d]
 have m2:∀ K:Int→O R,Q6 N 2 K=K 64:=fun K=>most 2 64 K (by omega) rfl
 have m3:∀ K:Int→O R,Q6 N 3 K=K 16:=fun K=>most 3 16 K (by omega) rfl
 have m4:∀ K:Int→O R,Q6 N 4 K=K 8:=fun K=>most 4 8 K (by omega) rfl
 have m5:∀ K:Int→O R,Q6 N 5 K=K 8:=fun K=>most 5 8 K (by omega) rfl
 have m6:∀ K:Int→O R,Q6 N 6 K=K 64:=fun K=>most 6 64 K (by omega) rfl
 have f:IntKind.wrap .i64 (2+1)=3:=rfl
 have w3:IntKind.wrap .i64 (3+1)=4:=rfl
 have i:IntKind.wrap .i64 (4+1)=5:=rfl
 have j:IntKind.wrap .i64 (5+1)=6:=rfl
 have m:IntKind.wrap .i64 (6+1)=7:=rfl
 rw[Bn];unfold Ch
 rw[show decide ((2:Int)≤6)=true from rfl,ct,F1,ct,Co,sZ hs,m2,Ae (by decide),f]
 rw[Bn];unfold Ch
 rw[show decide ((3:Int)≤6)=true from rfl,ct,F1,ct,Co,s4 hs,m3,Ae (by decide),w3]
 rw[Bn];unfold Ch
 rw[show decide ((4:Int)≤6)=true from rfl,ct,F1,ct,Co,mQ hs,m4,Ae (by decide),i]
 rw[Bn];unfold Ch
 rw[show decide ((5:Int)≤6)=true from rfl,ct,F1,ct,Co,zC hs,m5,Ae (by decide),j]
 rw[Bn];unfold Ch
 rw[show decide ((6:Int)≤6)=true from rfl,ct,F1,ct,Co,zD hs,m6,Ae (by decide),m]
 rw[Bn];unfold Ch
 rw[show decide ((7:Int)≤6)=false from rfl,cf]
 simp only[List.length_map]
theorem QQ {N:Nat} {c:CaseD} {o:Bool} {p:C1} {K:LA→O R} (hs:Small c N):Gp N c.av o (Di p) K=K (Di (aG c p)):=by
 have hN:=hs.n64
 rw[Vk];unfold Mg
 have:=fun p=>QP (fuel:=N - 6) (o:=o) (p:=p) (K:=K) hs
 rw[show N - 6+6=N by omega] at this
 simp only[K6,Ed (show 8≤N by omega),Ae (show(3:Int)≠0 by decide),Ae (show(8:Int)≠0 by decide),F1,ct,Co,At1,Ii,En rfl hs.res,this]
 rfl
end
end Gx.Cf

namespace Gx
open Go Go.Proofs
open IntKind (wrap)
set_option maxRecDepth 100000
noncomputable section
variable {R:Type} (N:Nat)
def Qn (r0:LA→O R) (b:Int) (c:Bool) (d e:LA) (m:LA):O R :=
 (At .i64 (e.drop 9) fun o=>(Ap N 0 1048576 [(.int .i64 o)] 1 false true (fun p=>(Aa N p 2 b 6 3 m (fun q=>(At .i64 (e.drop 9) fun r=>(At .i64 (e.drop 10) fun s=>(Ap N r 1048576 [(.int .i64 s)] 1 false true (fun t=>(Aa N t 2 b 7 3 q (fun u=>(cond (Nat.ble 8 (d.length)) (Bw 1 (e.drop 11) fun v w=>(Hy N (d.take 8) c v w false c 2 b 8 u (fun x=>(r0 x)))) none))))))))))))
def O3 (r0:LA→O R) (b:Int) (c:Bool) (d e:LA) (q2:LA→O R) (g:LA):O R :=
 (cond (Nat.ble 2 ((e.drop 7).length)) (cond ((!c)||(A0 ((e.drop 7).take 2))) (Jn N ((e.drop 7).take 2) false (fun y=>(cond (y==true) (At .i64 (e.drop 7) fun z=>(Aa N (cond true (decide (z≥0)) false) 2 b 5 3 g (fun aa=>(q2 aa)))) (Aa N false 2 b 5 3 g (fun ab=>(q2 ab)))))) none) none)
def Qo (r0:LA→O R) (b:Int) (c:Bool) (d e:LA) (g:LA):O R:=(O3 N r0 b c d e (fun m=>(Qn N r0 b c d e m)) g)
def O4 (r0:LA→O R) (b:Int) (c:Bool) (d:LA) (q1:LA→O R) (f e:LA):O R :=
 (cond (Nat.ble 2 ((e.drop 5).length)) (cond ((!c)||(A0 ((e.drop 5).take 2))) (Jn N ((e.drop 5).take 2) false (fun ac=>(cond (ac==true) (At .i64 (e.drop 5) fun ad=>(Aa N (cond true (decide (ad≤0)) false) 2 b 4 3 f (fun ae=>(q1 ae)))) (Aa N false 2 b 4 3 f (fun af=>(q1 af)))))) none) none)
def Kr (r0:LA→O R) (b:Int) (c:Bool) (d:LA) (f e:LA):O R:=(O4 N r0 b c d (fun g=>(Qo N r0 b c d e g)) f e)
def N7 (r0:LA→O R) (q0:LA→LA→O R) (d:LA) (c:Bool) (b:Int) (i:LA):O R :=
 (Bw 12 (d.drop 3) fun l ag=>(cond (Ah b ag) (cond (Nat.ble 12 ((l.drop ((b.toNat)*12)).length)) (cond ((Nat.beq 0 0)&&((Nat.beq (((l.drop ((b.toNat)*12)).take 12).length) 12)&&(Nat.beq 12 12))) (cond (Nat.ble 8 (d.length)) (Ck N (d.take 8) c 2 b i (fun ah=>(cond (Nat.ble 8 (d.length)) (At .i64 (((l.drop ((b.toNat)*12)).take 12).drop 1) fun ai=>(Ec N (d.take 8) c ai 2 b 1 ah (fun aj=>(cond (Nat.ble 8 (d.length)) (At .i64 (((l.drop ((b.toNat)*12)).take 12).drop 2) fun ak=>(Ec N (d.take 8) c ak 2 b 2 aj (fun al=>(At .i64 (((l.drop ((b.toNat)*12)).take 12).drop 1) fun am=>(At .i64 (((l.drop ((b.toNat)*12)).take 12).drop 2) fun an=>(Aa N (am != an) 2 b 2 1 al (fun n=>(cond (Nat.ble 2 ((((l.drop ((b.toNat)*12)).take 12).drop 3).length)) (cond ((!c)||(A0 ((((l.drop ((b.toNat)*12)).take 12).drop 3).take 2))) (Jn N ((((l.drop ((b.toNat)*12)).take 12).drop 3).take 2) false (fun ao=>(cond (ao==true) (At .i64 (((l.drop ((b.toNat)*12)).take 12).drop 3) fun ap=>(Aa N (cond true (decide (ap>0)) false) 2 b 3 3 n (fun aq=>(q0 aq ((l.drop ((b.toNat)*12)).take 12))))) (Aa N false 2 b 3 3 n (fun ar=>(q0 ar ((l.drop ((b.toNat)*12)).take 12))))))) none) none)))))))) none)))) none))) none) none) none) none))
def H1:=(Ai (fun (N:Nat) (d:LA) (c:Bool) (b:Int) (i:LA) (r0:LA→O R)=>(N7 N r0 (fun f e=>(Kr N r0 b c d f e)) d c b i))).1
theorem Y5 (d c b i r0):(@H1 R N d c b i r0)=(N7 N r0 (fun f e=>(Kr N r0 b c d f e)) d c b i):=by rw[H1,(Ai _).2]
def AY:Hints:={ H:=(hS hL (hS hL (hS hL (hS hL (hS hL (hS hL (hJ [0,2,4,6,7] hL (hJ [0,2,4,6,7] hL (hJ [0,2,4,6,7] hL hL))))))))) }
def FB:Gm:=[(159,Fd N),(225,Mh N),(161,Bs N),(226,UG N),(162,Dm N),(227,AT N)]
def Qp (F:KF R):=Ki Tryz.f163 AY (FB N) [100000] N F
def C6 (F:KF R):LA→O R:=(fun au=>F (.tup []) [(100000,(bQ 0 au))])
def ex (b:Int) (c:Bool) (d e m:LA):St:=⟨[(0,(.optr 100000 0)),(2,(iv b)),(4,(op 0)),(6,(op 1)),(7,(iv 2))],[(100000,(bQ 0 m)),(300000,(bP c 0 d)),(300001,(bP c 0 e))]⟩
def ey (F:KF R):=Qp N F [1,1,1,1,1,1,1,1,1] []
def ez (b:Int) (c:Bool) (d e g:LA):St:=⟨[(0,(.optr 100000 0)),(2,(iv b)),(4,(op 0)),(6,(op 1)),(7,(iv 2))],[(100000,(bQ 0 g)),(300000,(bP c 0 d)),(300001,(bP c 0 e))]⟩
def fA (F:KF R):=Qp N F [1,1,1,1,1,1,1,1] []
def fB (b:Int) (c:Bool) (d f e:LA):St:=⟨[(0,(.optr 100000 0)),(2,(iv b)),(4,(op 0)),(6,(op 1)),(7,(iv 2))],[(100000,(bQ 0 f)),(300000,(bP c 0 d)),(300001,(bP c 0 e))]⟩
def fC (F:KF R):=Qp N F [1,1,1,1,1,1,1] []
theorem QR (F:KF R) (b:Int) (c:Bool) (d e:LA):∀ (m:LA),B8 (ey N F) (ex b c d e m)=(Qn N (C6 F) b c d e m):=by
 intro m
 kernel_rfl
theorem QS (F:KF R) (b:Int) (c:Bool) (d e:LA):∀ (g:LA),B8 (fA N F) (ez b c d e g)=(Qo N (C6 F) b c d e g):=by
 intro g
 exact Eq.trans (by kernel_rfl) (Bv (O3 N (C6 F) b c d e · g) (funext fun m=>(A2 ..).trans (QR N F b c d e m)):_)
theorem QT (F:KF R) (b:Int) (c:Bool) (d:LA):∀ (f e:LA),B8 (fC N F) (fB b c d f e)=(Kr N (C6 F) b c d f e):=by
 intro f e
 exact Eq.trans (by kernel_rfl) (Bv (O4 N (C6 F) b c d · f e) (funext fun g=>(A2 ..).trans (QS N F b c d e g)):_)
theorem AZ (d:LA) (c:Bool) (b:Int) (i:LA) (F:KF R):C7 (FB N) AY N 163 [(.optr 100000 0),(.pagg d c),(iv b)] [(100000,(bQ 0 i))] F=(H1 N d c b i (C6 F)):=by
 rw[Y5]
 exact Eq.trans (by kernel_rfl) (Bv (N7 N (C6 F) · d c b i) (funext fun f=>funext fun e=>(A2 ..).trans (QT N F b c d f e)):_)
def Y6 (a:LA) (h:Aj) (k:KF R):O R :=
 match a,h with
 | [(.optr 100000 0),(.pagg d c),(.int .i64 b)],[(100000,⟨false,false,true,false,0,i,false,none⟩)]=>(H1 N d c b i (C6 k))
 | _,_=>none
theorem A_:An N 163 @Y6:=by
 intro R Q a h k j;unfold Y6;split;exact A3 (AZ ..) (AZ ..) ⟨Fe N,Mi N,Bt N,UH N,Dn N,AU N,trivial⟩;exact A5
def fD:=A4 (A_ N)
def fE:=C8 (A_ N)
def Ga (r0:LA→O R) (c:Int) (e:LA) (d:Bool) (b:LA) (k2:Int→Int→O R) (q p:Int):O R :=
 (Bw 2 (b.drop 4) fun ba s=>(cond ((decide (p<((s:Nat):Int)))==true) (At .i64 (e.drop 3) fun t=>(cond (cond true (t==0) false) (Bw 2 (b.drop 4) fun u v=>(cond (Ah p v) (At .i64 (u.drop ((p.toNat)*2)) fun w=>(k2 (wrap .i64 (q+w)) (wrap .i64 (p+1)))) none)) (At .i64 (e.drop 3) fun x=>(cond ((x != 0)==false) (At .i64 (b.drop 3) fun y=>(At .i64 (b.drop 2) fun z=>(Aa N (cond false true (q==(wrap .i64 (y - z)))) 3 c 4 4 e (fun aa=>(r0 aa))))) (Aa N true 3 c 4 4 e (fun ab=>(r0 ab))))))) (At .i64 (e.drop 3) fun ac=>(cond ((ac != 0)==false) (At .i64 (b.drop 3) fun ad=>(At .i64 (b.drop 2) fun ae=>(Aa N (cond false true (q==(wrap .i64 (ad - ae)))) 3 c 4 4 e (fun af=>(r0 af))))) (Aa N true 3 c 4 4 e (fun ag=>(r0 ag)))))))
def Dh (r0:LA→O R) (c:Int) (e:LA) (d:Bool) (b:LA):Nat→Int→Int→O R
 | 0,_,_=>none
 | n+1,q,p=>(Ga N r0 c e d b (Dh r0 c e d b n) q p)
def D8 (r0:LA→O R) (c:Int) (d:Bool) (b:LA) (k1:Int→LA→O R) (q2:Int→Int→O R) (i:Int) (e:LA):O R :=
 (Bw 2 (b.drop 4) fun bb ah=>(cond (decide (i<((ah:Nat):Int))) (Bw 2 (b.drop 4) fun ai aj=>(cond (Ah i aj) (At .i64 ((ai.drop ((i.toNat)*2)).drop 1) fun ak=>(Bw 2 (b.drop 4) fun al am=>(cond (Ah (wrap .i64 (i - 1)) am) (At .i64 ((al.drop (((wrap .i64 (i - 1)).toNat)*2)).drop 1) fun an=>(Aa N (decide (ak≥an)) 3 c 4 11 e (fun ao=>(k1 (wrap .i64 (i+1)) ao)))) none))) none)) (q2 0 0)))
def Cl (r0:LA→O R) (c:Int) (d:Bool) (b:LA):Nat→Int→LA→O R
 | 0,_,_=>none
 | n+1,i,e=>(D8 N r0 c d b (Cl r0 c d b n) (fun q p=>(Dh N r0 c e d b N q p)) i e)
def Gb (r0:LA→O R) (c:Int) (g:LA) (l:Nat) (d:Bool) (b:LA) (k0:Int→Int→LA→O R) (q1:Int→LA→O R) (m f:Int) (o:LA):O R :=
 (cond (decide (f<m)) (cond (Ah f l) (cond (Nat.ble 2 ((g.drop ((f.toNat)*2)).length)) (cond ((!d)||(A0 ((g.drop ((f.toNat)*2)).take 2))) (cond ((Nat.beq (((g.drop ((f.toNat)*2)).take 2).length) 2)&&((Nat.ble 2 2)&&(!false))) (At .i64 (setCells [(.int .i64 0),(.int .i64 0)] 0 ((g.drop ((f.toNat)*2)).take 2)) fun ap=>(Ap N 1 1048576 [(.int .i64 ap)] 1 false true (fun aq=>(cond (aq==true) (At .i64 ((setCells [(.int .i64 0),(.int .i64 0)] 0 ((g.drop ((f.toNat)*2)).take 2)).drop 1) fun ar=>(Ap N (-1048576) 1048576 [(.int .i64 ar)] 1 false true (fun au=>(Aa N (cond true au false) 3 c 4 3 o (fun av=>(k0 m (wrap .i64 (f+1)) av)))))) (Aa N false 3 c 4 3 o (fun aw=>(k0 m (wrap .i64 (f+1)) aw))))))) none) none) none) none) (q1 1 o))
def Cm (r0:LA→O R) (c:Int) (g:LA) (l:Nat) (d:Bool) (b:LA):Nat→Int→Int→LA→O R
 | 0,_,_,_=>none
 | n+1,m,f,o=>(Gb N r0 c g l d b (Cm r0 c g l d b n) (fun i e=>(Cl N r0 c d b N i e)) m f o)
def It (r0:LA→O R) (q0:LA→Nat→Int→Int→LA→O R) (b:LA) (d:Bool) (c:Int) (r:LA):O R :=
 (Bw 2 (b.drop 4) fun bc ax=>(Aa N (decide (((ax:Nat):Int)≤8)) 3 c 4 8 r (fun ay=>(Bw 2 (b.drop 4) fun g l=>(q0 g l ((l:Nat):Int) 0 ay)))))
def Dp:=(Ai (fun (N:Nat) (b:LA) (d:Bool) (c:Int) (r:LA) (r0:LA→O R)=>(It N r0 (fun g l m f o=>(Cm N r0 c g l d b N m f o)) b d c r))).1
theorem Rc (b d c r r0):(@Dp R N b d c r r0)=(It N r0 (fun g l m f o=>(Cm N r0 c g l d b N m f o)) b d c r):=by rw[Dp,(Ai _).2]
def Tc:Hints:={ H:=(hS hL (hS hL (hS hL (hS (hS hL (hS (hP [0,2,4,6,21,22,23] hL) hL)) (hS (hS hL (hS (hP [0,2,4,6,9] hL) hL)) (hS hL (hS (hS hL (hS (hP [0,2,4,6,10,11] hL) hL)) hL))))))) }
def Uk:Gm:=[(161,Bs N),(162,Dm N)]
def Lb (F:KF R):=Ki Tryz.f228 Tc (Uk N) [100000] N F
def Bq (F:KF R):LA→O R:=(fun az=>F (.tup []) [(100000,(bQ 0 az))])
def NA (c:Int) (e:LA) (d:Bool) (b:LA) (q p:Int):St:=⟨[(0,(.optr 100000 0)),(2,(iv c)),(4,(op 0)),(6,(iv 3)),(10,(iv q)),(11,(iv p))],[(100000,(bQ 0 e)),(300000,(bP d 0 b))]⟩
def NB (F:KF R):=Lb N F [1,1,1,1,1,1,0,1,0] []
def NC (c:Int) (d:Bool) (b:LA) (i:Int) (e:LA):St:=⟨[(0,(.optr 100000 0)),(2,(iv c)),(4,(op 0)),(6,(iv 3)),(9,(iv i))],[(100000,(bQ 0 e)),(300000,(bP d 0 b))]⟩
def ND (F:KF R):=Lb N F [1,1,1,1,0,1,0] []
def NE (c:Int) (g:LA) (l:Nat) (d:Bool) (b:LA) (m f:Int) (o:LA):St:=⟨[(0,(.optr 100000 0)),(2,(iv c)),(4,(op 0)),(6,(iv 3)),(21,(.imm g l 2 false d)),(22,(iv m)),(23,(iv f))],[(100000,(bQ 0 o)),(300000,(bP d 0 b))]⟩
def NF (F:KF R):=Lb N F [1,1,1,0,1,0] []
theorem O5 (F:KF R) (c:Int) (e:LA) (d:Bool) (b:LA):∀ (n:Nat) (q p:Int),Ak (NB N F) n (NA c e d b q p)=(Dh N (Bq F) c e d b n q p)
 | 0,_,_=>by kernel_rfl
 | n+1,q,p=>Eq.trans (by kernel_rfl) (Bv (Ga N (Bq F) c e d b · q p) (funext fun q=>funext fun p=>(O5 F c e d b n q p)):_)
theorem O6 (F:KF R) (c:Int) (d:Bool) (b:LA):∀ (n:Nat) (i:Int) (e:LA),Ak (ND N F) n (NC c d b i e)=(Cl N (Bq F) c d b n i e)
 | 0,_,_=>by kernel_rfl
 | n+1,i,e=>Eq.trans (by kernel_rfl) (PQ (D8 N (Bq F) c d b · · i e) (funext fun i=>funext fun e=>(O6 F c d b n i e)) (funext fun q=>funext fun p=>(Ac ..).trans (O5 N F c e d b N q p)):_)
theorem O7 (F:KF R) (c:Int) (g:LA) (l:Nat) (d:Bool) (b:LA):∀ (n:Nat) (m f:Int) (o:LA),Ak (NF N F) n (NE c g l d b m f o)=(Cm N (Bq F) c g l d b n m f o)
 | 0,_,_,_=>by kernel_rfl
 | n+1,m,f,o=>Eq.trans (by kernel_rfl) (PQ (Gb N (Bq F) c g l d b · · m f o) (funext fun m=>funext fun f=>funext fun o=>(O7 F c g l d b n m f o)) (funext fun i=>funext fun e=>(Ac ..).trans (O6 N F c d b N i e)):_)
theorem Td (b:LA) (d:Bool) (c:Int) (r:LA) (F:KF R):C7 (Uk N) Tc N 228 [(.optr 100000 0),(.pagg b d),(iv c)] [(100000,(bQ 0 r))] F=(Dp N b d c r (Bq F)):=by
 rw[Rc]
 exact Eq.trans (by kernel_rfl) (Bv (It N (Bq F) · b d c r) (funext fun g=>funext fun l=>funext fun m=>funext fun f=>funext fun o=>(Ac ..).trans (O7 N F c g l d b N m f o)):_)
def Rd (a:LA) (h:Aj) (k:KF R):O R :=
 match a,h with
 | [(.optr 100000 0),(.pagg b d),(.int .i64 c)],[(100000,⟨false,false,true,false,0,r,false,none⟩)]=>(Dp N b d c r (Bq k))
 | _,_=>none
theorem Te:An N 228 @Rd:=by
 intro R Q a h k j;unfold Rd;split;exact A3 (Td ..) (Td ..) ⟨Bt N,Dn N,trivial⟩;exact A5
def NG:=A4 (Te N)
def NH:=C8 (Te N)
def Qq (r0:LA→O R) (b:Int) (c:Bool) (d i:LA):O R :=
 (At .i64 (d.drop 19) fun o=>(cond (o==2) (At .i64 (d.drop 2) fun p=>(At .i64 (d.drop 3) fun q=>(At .i64 (d.drop 21) fun r=>(Ap N p q [(.int .i64 r)] 1 false true (fun s=>(Aa N s 3 b 21 3 i (fun t=>(r0 t)))))))) (At .i64 (d.drop 21) fun u=>(Aa N (u==0) 3 b 21 3 i (fun v=>(r0 v))))))
def O8 (r0:LA→O R) (b:Int) (c:Bool) (q1:LA→O R) (g d:LA):O R :=
 (At .i64 (d.drop 20) fun w=>(Ap N 1 48 [(.int .i64 w)] 1 false true (fun x=>(Aa N x 3 b 20 3 g (fun m=>(At .i64 (d.drop 19) fun y=>(cond ((y != 1)==false) (At .i64 (d.drop 20) fun z=>(At .i64 (d.drop 12) fun aa=>(Aa N (cond false true (decide (z≤aa))) 3 b 20 3 m (fun ab=>(q1 ab))))) (Aa N true 3 b 20 3 m (fun ac=>(q1 ac))))))))))
def Ks (r0:LA→O R) (b:Int) (c:Bool) (g d:LA):O R:=(O8 N r0 b c (fun i=>(Qq N r0 b c d i)) g d)
def N8 (r0:LA→O R) (q0:LA→LA→O R) (f:LA) (c:Bool) (b:Int) (l:LA):O R :=
 (Bw 22 (f.drop 4) fun e ad=>(cond (Ah b ad) (cond (Nat.ble 22 ((e.drop ((b.toNat)*22)).length)) (cond ((Nat.beq 0 0)&&((Nat.beq (((e.drop ((b.toNat)*22)).take 22).length) 22)&&(Nat.beq 22 22))) (cond (Nat.ble 8 (f.length)) (Ck N (f.take 8) c 3 b l (fun ae=>(cond (Nat.ble 8 (f.length)) (At .i64 (((e.drop ((b.toNat)*22)).take 22).drop 1) fun af=>(Ec N (f.take 8) c af 3 b 1 ae (fun ag=>(At .i64 (((e.drop ((b.toNat)*22)).take 22).drop 2) fun ah=>(Ap N 0 1048576 [(.int .i64 ah)] 1 false true (fun ai=>(Aa N ai 3 b 2 3 ag (fun aj=>(At .i64 (((e.drop ((b.toNat)*22)).take 22).drop 2) fun ak=>(At .i64 (((e.drop ((b.toNat)*22)).take 22).drop 3) fun al=>(Ap N ak 1048576 [(.int .i64 al)] 1 false true (fun am=>(Aa N am 3 b 3 3 aj (fun an=>(cond (Nat.ble 22 (((e.drop ((b.toNat)*22)).take 22).length)) (Dp N (((e.drop ((b.toNat)*22)).take 22).take 22) c b an (fun ao=>(At .i64 (((e.drop ((b.toNat)*22)).take 22).drop 5) fun ap=>(Ap N 0 1048576 [(.int .i64 ap)] 1 false true (fun aq=>(Aa N aq 3 b 5 3 ao (fun ar=>(At .i64 (((e.drop ((b.toNat)*22)).take 22).drop 6) fun au=>(Ap N 0 1048576 [(.int .i64 au)] 1 false true (fun av=>(Aa N av 3 b 6 3 ar (fun aw=>(At .i64 (((e.drop ((b.toNat)*22)).take 22).drop 7) fun ax=>(Ap N 0 1048576 [(.int .i64 ax)] 1 false true (fun ay=>(Aa N ay 3 b 7 3 aw (fun az=>(At .i64 (((e.drop ((b.toNat)*22)).take 22).drop 2) fun ba=>(At .i64 (((e.drop ((b.toNat)*22)).take 22).drop 3) fun bb=>(At .i64 (((e.drop ((b.toNat)*22)).take 22).drop 8) fun bc=>(Ap N ba bb [(.int .i64 bc)] 1 false true (fun bd=>(Aa N bd 3 b 8 3 az (fun be=>(At .i64 (((e.drop ((b.toNat)*22)).take 22).drop 2) fun bf=>(At .i64 (((e.drop ((b.toNat)*22)).take 22).drop 3) fun bg=>(At .i64 (((e.drop ((b.toNat)*22)).take 22).drop 9) fun bh=>(Ap N bf bg [(.int .i64 bh)] 1 false true (fun bi=>(Aa N bi 3 b 9 3 be (fun bj=>(At .i64 (((e.drop ((b.toNat)*22)).take 22).drop 10) fun bk=>(Ap N 0 24 [(.int .i64 bk)] 1 false true (fun bl=>(Aa N bl 3 b 10 3 bj (fun bm=>(At .i64 (((e.drop ((b.toNat)*22)).take 22).drop 11) fun bn=>(Ap N 0 24 [(.int .i64 bn)] 1 false true (fun bo=>(Aa N bo 3 b 11 3 bm (fun bp=>(At .i64 (((e.drop ((b.toNat)*22)).take 22).drop 12) fun bq=>(Ap N 0 24 [(.int .i64 bq)] 1 false true (fun br=>(Aa N br 3 b 12 3 bp (fun bs=>(At .i64 (((e.drop ((b.toNat)*22)).take 22).drop 13) fun bt=>(Ap N 0 1048576 [(.int .i64 bt)] 1 false true (fun bu=>(Aa N bu 3 b 13 3 bs (fun bv=>(At .i64 (((e.drop ((b.toNat)*22)).take 22).drop 14) fun bw=>(Ap N 0 1048576 [(.int .i64 bw)] 1 false true (fun bx=>(Aa N bx 3 b 14 3 bv (fun bz=>(At .i64 (((e.drop ((b.toNat)*22)).take 22).drop 15) fun ca=>(Ap N 0 24 [(.int .i64 ca)] 1 false true (fun cb=>(Aa N cb 3 b 15 3 bz (fun cc=>(At .i64 (((e.drop ((b.toNat)*22)).take 22).drop 16) fun cd=>(Ap N 0 1048576 [(.int .i64 cd)] 1 false true (fun ce=>(Aa N ce 3 b 16 3 cc (fun cf=>(At .i64 (((e.drop ((b.toNat)*22)).take 22).drop 17) fun cg=>(Ap N 0 1048576 [(.int .i64 cg)] 1 false true (fun ch=>(Aa N ch 3 b 17 3 cf (fun ci=>(cond (Nat.ble 8 (f.length)) (Bw 1 (((e.drop ((b.toNat)*22)).take 22).drop 18) fun cj ck=>(Hy N (f.take 8) c cj ck false c 3 b 18 ci (fun cl=>(At .i64 (((e.drop ((b.toNat)*22)).take 22).drop 19) fun cm=>(Ap N 0 2 [(.int .i64 cm)] 1 false true (fun cn=>(Aa N cn 3 b 19 12 cl (fun n=>(At .i64 (((e.drop ((b.toNat)*22)).take 22).drop 19) fun co=>(cond ((co != 1)==false) (At .i64 (((e.drop ((b.toNat)*22)).take 22).drop 12) fun cp=>(Aa N (cond false true (decide (cp>0))) 3 b 19 16 n (fun cq=>(q0 cq ((e.drop ((b.toNat)*22)).take 22))))) (Aa N true 3 b 19 16 n (fun cr=>(q0 cr ((e.drop ((b.toNat)*22)).take 22)))))))))))))) none)))))))))))))))))))))))))))))))))))))))))))))))))))))))))))))))))))))))) none))))))))))))))) none))) none) none) none) none))
def H2:=(Ai (fun (N:Nat) (f:LA) (c:Bool) (b:Int) (l:LA) (r0:LA→O R)=>(N8 N r0 (fun g d=>(Ks N r0 b c g d)) f c b l))).1
theorem Y7 (f c b l r0):(@H2 R N f c b l r0)=(N8 N r0 (fun g d=>(Ks N r0 b c g d)) f c b l):=by rw[H2,(Ai _).2]
def BA:Hints:={ H:=(hS hL (hS hL (hS hL (hS hL (hS hL (hS hL (hS hL (hS hL (hS hL (hS hL (hS hL (hS hL (hS hL (hS hL (hS hL (hS hL (hS hL (hS hL (hS hL (hS hL (hS hL (hS hL (hJ [0,2,6,7] hL (hS hL (hJ [0,2,6,7] hL hL))))))))))))))))))))))))) }
def FC:Gm:=[(159,Fd N),(225,Mh N),(162,Dm N),(161,Bs N),(228,NG N),(227,AT N)]
def BB (F:KF R):=Ki Tryz.f164 BA (FC N) [100000] N F
def Ff (F:KF R):LA→O R:=(fun cs=>F (.tup []) [(100000,(bQ 0 cs))])
def fF (b:Int) (c:Bool) (d i:LA):St:=⟨[(0,(.optr 100000 0)),(2,(iv b)),(6,(op 0)),(7,(iv 3))],[(100000,(bQ 0 i)),(300000,(bP c 0 d))]⟩
def fG (F:KF R):=BB N F [1,1,1,1,1,1,1,1,1,1,1,1,1,1,1,1,1,1,1,1,1,1,1,1,1] []
def fH (b:Int) (c:Bool) (g d:LA):St:=⟨[(0,(.optr 100000 0)),(2,(iv b)),(6,(op 0)),(7,(iv 3))],[(100000,(bQ 0 g)),(300000,(bP c 0 d))]⟩
def fI (F:KF R):=BB N F [1,1,1,1,1,1,1,1,1,1,1,1,1,1,1,1,1,1,1,1,1,1,1] []
theorem QU (F:KF R) (b:Int) (c:Bool) (d:LA):∀ (i:LA),B8 (fG N F) (fF b c d i)=(Qq N (Ff F) b c d i):=by
 intro i
 kernel_rfl
theorem QV (F:KF R) (b:Int) (c:Bool):∀ (g d:LA),B8 (fI N F) (fH b c g d)=(Ks N (Ff F) b c g d):=by
 intro g d
 exact Eq.trans (by kernel_rfl) (Bv (O8 N (Ff F) b c · g d) (funext fun i=>(A2 ..).trans (QU N F b c d i)):_)
theorem BC (f:LA) (c:Bool) (b:Int) (l:LA) (F:KF R):C7 (FC N) BA N 164 [(.optr 100000 0),(.pagg f c),(iv b)] [(100000,(bQ 0 l))] F=(H2 N f c b l (Ff F)):=by
 rw[Y7]
 exact Eq.trans (by kernel_rfl) (Bv (N8 N (Ff F) · f c b l) (funext fun g=>funext fun d=>(A2 ..).trans (QV N F b c g d)):_)
def Y8 (a:LA) (h:Aj) (k:KF R):O R :=
 match a,h with
 | [(.optr 100000 0),(.pagg f c),(.int .i64 b)],[(100000,⟨false,false,true,false,0,l,false,none⟩)]=>(H2 N f c b l (Ff k))
 | _,_=>none
theorem BD:An N 164 @Y8:=by
 intro R Q a h k j;unfold Y8;split;exact A3 (BC ..) (BC ..) ⟨Fe N,Mi N,Dn N,Bt N,NH N,AU N,trivial⟩;exact A5
def fJ:=A4 (BD N)
def fK:=C8 (BD N)
def Sj (d:LA) (e:Bool) (b:Int) (f:LA) (r0:LA→O R):O R :=
 (Bw 9 (d.drop 5) fun c i=>(cond (Ah b i) (cond (Nat.ble 9 ((c.drop ((b.toNat)*9)).length)) (cond ((Nat.beq 0 0)&&((Nat.beq (((c.drop ((b.toNat)*9)).take 9).length) 9)&&(Nat.beq 9 9))) (cond (Nat.ble 8 (d.length)) (Ck N (d.take 8) e 4 b f (fun l=>(cond (Nat.ble 8 (d.length)) (At .i64 (((c.drop ((b.toNat)*9)).take 9).drop 1) fun m=>(Ec N (d.take 8) e m 4 b 1 l (fun n=>(At .i64 (((c.drop ((b.toNat)*9)).take 9).drop 2) fun o=>(Ap N 0 1048576 [(.int .i64 o)] 1 false true (fun p=>(Aa N p 4 b 2 3 n (fun q=>(At .i64 (((c.drop ((b.toNat)*9)).take 9).drop 2) fun r=>(At .i64 (((c.drop ((b.toNat)*9)).take 9).drop 3) fun s=>(Ap N 0 r [(.int .i64 s)] 1 false true (fun t=>(Aa N t 4 b 3 3 q (fun u=>(At .i64 (((c.drop ((b.toNat)*9)).take 9).drop 2) fun v=>(At .i64 (((c.drop ((b.toNat)*9)).take 9).drop 4) fun w=>(Ap N 0 v [(.int .i64 w)] 1 false true (fun x=>(Aa N x 4 b 4 3 u (fun y=>(At .i64 (((c.drop ((b.toNat)*9)).take 9).drop 5) fun z=>(Ap N 0 1048576 [(.int .i64 z)] 1 false true (fun aa=>(Aa N aa 4 b 5 3 y (fun ab=>(At .i64 (((c.drop ((b.toNat)*9)).take 9).drop 6) fun ac=>(Ap N 0 1048576 [(.int .i64 ac)] 1 false true (fun ad=>(Aa N ad 4 b 6 3 ab (fun g=>(cond (Nat.ble 2 ((((c.drop ((b.toNat)*9)).take 9).drop 7).length)) (cond ((!e)||(A0 ((((c.drop ((b.toNat)*9)).take 9).drop 7).take 2))) (Jn N ((((c.drop ((b.toNat)*9)).take 9).drop 7).take 2) false (fun ae=>(cond (ae==true) (At .i64 (((c.drop ((b.toNat)*9)).take 9).drop 7) fun af=>(cond ((cond true (decide (af>0)) false)==true) (At .i64 (((c.drop ((b.toNat)*9)).take 9).drop 7) fun ag=>(At .i64 (((c.drop ((b.toNat)*9)).take 9).drop 8) fun ah=>(Aa N (cond true (decide (ag≤ah)) false) 4 b 7 3 g (fun ai=>(r0 ai))))) (Aa N false 4 b 7 3 g (fun aj=>(r0 aj))))) (Aa N false 4 b 7 3 g (fun ak=>(r0 ak)))))) none) none))))))))))))))))))))))))))))))) none))) none) none) none) none))
def Jp:=(Ai (@Sj R)).1
theorem Vr:@Jp R=@Sj R:=(Ai _).2
def fL:Gm:=[(159,Fd N),(225,Mh N),(162,Dm N),(161,Bs N),(226,UG N)]
def Y9 (F:KF R):LA→O R:=(fun al=>F (.tup []) [(100000,(bQ 0 al))])
theorem Za (d:LA) (e:Bool) (b:Int) (f:LA) (F:KF R):C7 (fL N) Dx N 165 [(.optr 100000 0),(.pagg d e),(iv b)] [(100000,(bQ 0 f))] F=(Jp N d e b f (Y9 F)):=by
 rw[Vr]
 kernel_rfl
def Vs (a:LA) (h:Aj) (k:KF R):O R :=
 match a,h with
 | [(.optr 100000 0),(.pagg d e),(.int .i64 b)],[(100000,⟨false,false,true,false,0,f,false,none⟩)]=>(Jp N d e b f (Y9 k))
 | _,_=>none
theorem Zb:An N 165 @Vs:=by
 intro R Q a h k j;unfold Vs;split;exact A3 (Za ..) (Za ..) ⟨Fe N,Mi N,Dn N,Bt N,UH N,trivial⟩;exact A5
def aI:=A4 (Zb N)
def aJ:=C8 (Zb N)
def Wk (c:LA) (d:Bool) (b:Int) (e:LA) (r0:LA→O R):O R :=
 (Bw 5 (c.drop 6) fun f g=>(cond (Ah b g) (cond (Nat.ble 5 ((f.drop ((b.toNat)*5)).length)) (cond ((Nat.beq 0 0)&&((Nat.beq (((f.drop ((b.toNat)*5)).take 5).length) 5)&&(Nat.beq 5 5))) (cond (Nat.ble 8 (c.length)) (Ck N (c.take 8) d 5 b e (fun i=>(cond (Nat.ble 8 (c.length)) (At .i64 (((f.drop ((b.toNat)*5)).take 5).drop 1) fun l=>(Ec N (c.take 8) d l 5 b 1 i (fun m=>(cond (Nat.ble 8 (c.length)) (Bw 1 (((f.drop ((b.toNat)*5)).take 5).drop 2) fun n o=>(Cu N (c.take 8) d n o false d 0 1048576 5 b 2 m (fun p=>(cond (Nat.ble 8 (c.length)) (Bw 1 (((f.drop ((b.toNat)*5)).take 5).drop 3) fun q r=>(Cu N (c.take 8) d q r false d 0 1048576 5 b 3 p (fun s=>(cond (Nat.ble 8 (c.length)) (Bw 1 (((f.drop ((b.toNat)*5)).take 5).drop 4) fun t u=>(Cu N (c.take 8) d t u false d (-1048576) 1048576 5 b 4 s (fun v=>(r0 v)))) none)))) none)))) none)))) none))) none) none) none) none))
def M7:=(Ai (@Wk R)).1
theorem BE:@M7 R=@Wk R:=(Ai _).2
def mR:Gm:=[(159,Fd N),(225,Mh N),(160,Nw N)]
def FD (F:KF R):LA→O R:=(fun w=>F (.tup []) [(100000,(bQ 0 w))])
theorem FE (c:LA) (d:Bool) (b:Int) (e:LA) (F:KF R):C7 (mR N) Dx N 166 [(.optr 100000 0),(.pagg c d),(iv b)] [(100000,(bQ 0 e))] F=(M7 N c d b e (FD F)):=by
 rw[BE]
 kernel_rfl
def BF (a:LA) (h:Aj) (k:KF R):O R :=
 match a,h with
 | [(.optr 100000 0),(.pagg c d),(.int .i64 b)],[(100000,⟨false,false,true,false,0,e,false,none⟩)]=>(M7 N c d b e (FD k))
 | _,_=>none
theorem FF:An N 166 @BF:=by
 intro R Q a h k j;unfold BF;split;exact A3 (FE ..) (FE ..) ⟨Fe N,Mi N,Nx N,trivial⟩;exact A5
def jg:=A4 (FF N)
def jh:=C8 (FF N)
end
end Gx

namespace Gx.Cf
open Go Go.Proofs
section
variable {R:Type}
theorem KB {p:C1} {f:Int→O R}:At .i64 (List.drop 3 (Di p)) f=f (Bp p):=by
 rcases p with _ | ⟨⟨a,b,c⟩,e,d⟩<;>simp[Di,LO,A6,Bp]
theorem Nz {N:Nat} {i:Int} {u:UnitD} {o:Bool} {p:C1} {K:LA→O R} (hs:u.segs.l.length<4611686018427387904):∀ (m j fuel:Nat) (a:Int),j+m=u.segs.l.length→m<fuel →
  Dh N K i (Di p) o u.av fuel a (j:Int)=K (Di (nd p (WY a (u.segs.l.drop j)==IntKind.wrap .i64 (u.max - u.min)) (3,i,4) e4))
 | 0,j,fuel+1,a,c,_=>by
  rw[Dh];unfold Ga
  simp only[KA,Awt,Awu,KB,Ae (show(4:Int)≠0 by decide)]
  rw[Iu (by omega),Cx (l:=u.segs.l) (by omega),WY,F7]
  rcases p with _ | ⟨x,e,b⟩
  ·simp[Bp]
  ·have:(e != 0)=true:=by simpa using b
   simp[Bp,this,nd]
 | m+1,j,fuel+1,a,c,k=>by
  rw[Dh];unfold Ga
  have h:j<u.segs.l.length:=by omega
  simp only[KA,Awt,Awu,KB,Ae (show(4:Int)≠0 by decide),Ayt h,Ab h]
  rw[Hh h,Bo (by omega),Nz hs m (j+1) fuel _ (by omega) (by omega),B7 h,WY,F7]
  rcases p with _ | ⟨x,e,b⟩
  ·simp[Bp]
  ·have d:(e != 0)=true:=by simpa using b
   have f:(e==0)=false:=by simpa using b
   simp[Bp,d,f,nd]
theorem Vt {N:Nat} {i:Int} {u:UnitD} {o:Bool} {K:LA→O R} (hs:Es u.segs.l.length N):∀ (m j fuel:Nat) (p:C1),j+1+m=u.segs.l.length→m<fuel →
  Cl N K i o u.av fuel ((j+1:Nat):Int) (Di p)=K (Di (nd (nd p (aH (u.segs.l.drop j)) (3,i,4) Ays) (WY 0 u.segs.l==IntKind.wrap .i64 (u.max - u.min)) (3,i,4) e4))
 | 0,j,fuel+1,p,b,_=>by
  rw[Cl];unfold D8
  rw[KA,Iu (by omega),cf,B7 (l:=u.segs.l) (j:=j) (by omega),Cx (l:=u.segs.l) (j:=j+1) (by omega),mO,F7]
  have:=Nz (R:=R) (N:=N) (i:=i) (u:=u) (o:=o) (p:=p) (K:=K) hs.2 u.segs.l.length 0 N 0 (by omega) hs.1
  simpa using this
 | m+1,j,fuel+1,p,b,d=>by
  rw[Cl];unfold D8
  have h:j+1<u.segs.l.length:=by omega
  have h':j<u.segs.l.length:=by omega
  have c:=hs.2
  simp only[KA]
  rw[Hh h,ct,Ab h,ct,dx h,mM (by omega),Ab h',ct,dx h',Bo (by omega),Ae (by decide),Vt hs m (j+1) fuel _ (by omega) (by omega),B7 h',B7 h,FA,Qj]
theorem Vu {N:Nat} {i:Int} {u:UnitD} {o:Bool} {K:LA→O R} (hN:8≤N) (hs:Es u.segs.l.length N):∀ (m j fuel:Nat) (p:C1),j+m=u.segs.l.length→m<fuel →
  Cm N K i (u.segs.l.flatMap SegD.av) u.segs.l.length o u.av fuel (u.segs.l.length:Int) (j:Int) (Di p) =
   K (Di (nd (nd (nd p ((u.segs.l.drop j).all sY) (3,i,4) e3) (aH u.segs.l) (3,i,4) Ays) (WY 0 u.segs.l==IntKind.wrap .i64 (u.max - u.min)) (3,i,4) e4))
 | 0,j,fuel+1,p,d,_=>by
  rw[Cm];unfold Gb
  rw[Iu (by omega),cf,Cx (l:=u.segs.l) (by omega),List.all_nil,F7]
  rcases c:u.segs.l with _ | ⟨b,r⟩
  ·rw[zA,F7]
   have l2:=Nz (R:=R) (N:=N) (i:=i) (u:=u) (o:=o) (p:=p) (K:=K) hs.2 u.segs.l.length 0 N 0 (by omega) hs.1
   rcases N with _ | N
   ·omega
   ·dsimp only
    rw[Cl];unfold D8
    rw[KA,c]
    simp only[List.length_nil,Int.natCast_zero]
    rw[show decide ((1:Int)<0)=false by decide,cf]
    rw[c] at l2
    simpa using l2
  ·have:=Vt (R:=R) (N:=N) (i:=i) (u:=u) (o:=o) (K:=K) hs r.length 0 N p (by rw[c];simp;omega) (by have:=hs.1;rw[c] at this;simp at this;omega)
   rw[c] at this
   simpa using this
 | m+1,j,fuel+1,p,d,n=>by
  rw[Cm];unfold Gb
  have h:j<u.segs.l.length:=by omega
  have e:=hs.2
  rw[Hh h,ct,Ab h,ct,Int.toNat_natCast,Ay O2 _ _ h,B7 h,List.all_cons,Bo (by omega)]
  have f:Nat.ble 2 (List.length (u.segs.l[j].av++List.flatMap SegD.av (List.drop (j+1) u.segs.l)))=true:=by rw[Bx,List.length_append,O2];simp
  have k:List.take 2 (u.segs.l[j].av++List.flatMap SegD.av (List.drop (j+1) u.segs.l))=u.segs.l[j].av:=List.take_left' (O2 _)
  rw[f,ct,k,O2]
  simp only[SegD.av,setCells,Cy,List.nil_append,List.append_nil,List.drop_nil,List.drop_succ_cons,List.drop_zero,List.take_zero,List.length_cons,List.length_nil,A6,Bx,GE,A0,Nat.reduceAdd,decide_true,Bool.and_true,Bool.or_true,Bool.not_false,cond_true,Nat.zero_add,Nat.le_refl,Ed hN,Ae (show(3:Int)≠0 by decide),Vu hN hs m (j+1) fuel _ (show j+1+m=_ by omega) (show m<fuel by omega)]
  unfold sY
  rw[Qj,Qj]
  cases Fb 1 1048576 u.segs.l[j].width<;>rfl
theorem GF {N:Nat} {p:C1} {j:Nat} {u:UnitD} {o:Bool} {K:LA→O R} (hN:8≤N) (hs:Es u.segs.l.length N) :
  Dp N u.av o (j:Int) (Di p) K=K (Di (Ajy u j p)):=by
 rw[Rc];unfold It
 simp only[KA,Ae (show(8:Int)≠0 by decide)]
 have:=Vu (R:=R) (N:=N) (i:=j) (u:=u) (o:=o) (K:=K) hN hs u.segs.l.length 0 N (nd p (decide ((u.segs.l.length:Int)≤8)) (3,j,4) e8) (by omega) hs.1
 simpa[Ajy] using this
theorem Zc {N:Nat} {i:Int} {l:List MoveD} {o:Bool} {K:LA→O R} (hN:8≤N) (hs:l.length<4611686018427387904):∀ (m j fuel:Nat) (p:C1),j+m=l.length→m<fuel →
  D2 N K i (l.flatMap MoveD.av) l.length o fuel (l.length:Int) (j:Int) (Di p)=K (Di (nd p ((l.drop j).all Acy) (6,i,3) e3))
 | 0,j,fuel+1,p,b,_=>by
  rw[D2];unfold G9
  rw[Iu (by omega),cf,Cx (by omega),List.all_nil,F7]
 | m+1,j,fuel+1,p,b,e=>by
  rw[D2];unfold G9
  have h:j<l.length:=by omega
  rw[Hh h,ct,Ab h,ct,Int.toNat_natCast,Ay Eo _ _ h,B7 h,List.all_cons,Bo (by omega)]
  have c:Nat.ble 3 (List.length (l[j].av++List.flatMap MoveD.av (List.drop (j+1) l)))=true:=by rw[Bx,List.length_append,Eo];simp
  have d:List.take 3 (l[j].av++List.flatMap MoveD.av (List.drop (j+1) l))=l[j].av:=List.take_left' (Eo _)
  rw[c,ct,d,Eo]
  simp only[MoveD.av,setCells,Cy,List.nil_append,List.append_nil,List.drop_nil,List.drop_succ_cons,List.drop_zero,List.take_zero,List.length_cons,List.length_nil,A6,Bx,GE,A0,Nat.reduceAdd,decide_true,Bool.and_true,Bool.or_true,Bool.not_false,cond_true,Nat.zero_add,Nat.le_refl,vC hN,Ae (show(3:Int)≠0 by decide),Zc hN hs m (j+1) fuel _ (show j+1+m=_ by omega) (show m<fuel by omega)]
  rw[Qj];rfl
theorem Zd {N:Nat} {c:CaseD} {i:Int} {u:OutD} {o:Bool} {p:C1} {K:LA→O R} (hN:8≤N) (b:c.units.l.length≤1000000) (hs:Es u.moves.l.length N) (d:u.moves.l.length<8796093022208):∀ (m j fuel:Nat),j+m=u.moves.l.length→m<fuel →
  D3 N K i (u.moves.l.flatMap MoveD.av) u.moves.l.length o (Di p) c.av u.av fuel j (u.moves.l.length:Int) (j:Int) (Aq ((u.moves.l.take j).map (·.unit))) =
   K (Di (nd (nd (nd p (u.moves.l.all (Ao2 c)) (6,i,3) Ar2) (jd (u.moves.l.map (·.unit))) (6,i,3) Ays) (u.moves.l.all Acy) (6,i,3) e3))
 | 0,j,fuel+1,f,_=>by
  rw[D3];unfold Ha
  have k:j=u.moves.l.length:=by omega
  rw[Iu (by omega),cf,Nat.mul_one,List.take_of_length_le (by simp[Ek];omega),List.take_of_length_le (show u.moves.l.length≤j by omega)]
  rw[Ft,Hz (by simp;omega) (by simpa using hs),Ae (by decide),Z7 (by simp;omega) (by simpa using hs),Ae (by decide),vd]
  have:=Zc (R:=R) (N:=N) (i:=i) (l:=u.moves.l) (o:=o) (K:=K) hN hs.2 u.moves.l.length 0 N (nd (nd p (u.moves.l.all (Ao2 c)) (6,i,3) Ar2) (jd (u.moves.l.map (·.unit))) (6,i,3) Ays) (by omega) hs.1
  have e:(u.moves.l.map (·.unit)).all (Fb 0 (IntKind.wrap .i64 ((c.units.l.length:Int) - 1)))=u.moves.l.all (Ao2 c):=by
   rw[List.all_map];congr 1;funext m;exact At2 _ _ (by omega)
  rw[e]
  simpa using this
 | m+1,j,fuel+1,f,v=>by
  rw[D3];unfold Ha
  have h:j<u.moves.l.length:=by omega
  have n:Nat.ble 3 (List.length (u.moves.l[j].av++List.flatMap MoveD.av (List.drop (j+1) u.moves.l)))=true:=by rw[Bx,List.length_append,Eo];simp
  have q:List.take 3 (u.moves.l[j].av++List.flatMap MoveD.av (List.drop (j+1) u.moves.l))=u.moves.l[j].av:=List.take_left' (Eo _)
  have s:(decide (j≤140737488355327)&&decide ((j+1)*8≤140737488355328))=true:=by simp;omega
  have t:List.take (j*1) (Aq ((u.moves.l.take j).map (·.unit)))++[.int .i64 u.moves.l[j].unit]=Aq ((u.moves.l.take (j+1)).map (·.unit)):=by
   rw[List.take_of_length_le (by simp[Ek];omega),List.take_succ_eq_append_getElem h,List.map_append,←X'];rfl
  rw[Hh h,ct,Ab h,ct,Int.toNat_natCast,Ay Eo _ _ h,Bo (by omega),n,ct,q,Eo]
  simp only[MoveD.av,setCells,Cy,List.nil_append,List.append_nil,List.drop_nil,List.drop_succ_cons,List.take_zero,List.length_cons,List.length_nil,A6,Bx,GE,A0,Nat.reduceAdd,Nat.reduceLeDiff,decide_true,Bool.and_true,Bool.or_true,Bool.not_false,cond_true,Nat.zero_add,Nat.le_refl,s,t,Zd hN b hs d m (j+1) fuel (show j+1+m=_ by omega) (show m<fuel by omega)]
theorem aK {N:Nat} {c:CaseD} {p:C1} {o:Bool} {j:Nat} {K:LA→O R} (hs:Small c N) (h:j<c.ties.l.length) :
  M7 N c.av o (j:Int) (Di p) K=K (Di (Acx c j c.ties.l[j] p)):=by
 have hN:=hs.n64
 have hN8:8≤N:=by omega
 have d:=hs.tie
 have s:=hs.top
 have f:c.ties.l[j] ∈ c.ties.l:=List.getElem_mem h
 have t:=hs.tim _ f;have i:=hs.tex _ f;have m:=hs.tpr _ f
 have e:=@D4 R N c (c.ties.l.map (·.name)) o (k:=5) (n:=j) (hN:=hN) (hL:=fun K=>zC hs) (hn:=by simpa using h) (hs:=⟨by have:=d.1;omega,by have:=d.2;omega⟩)
 have q:(c.ties.l.map (·.name))[j]'(by simpa using h)=c.ties.l[j].name:=by simp
 rw[q] at e
 rw[BE];unfold Wk 
 rw[QO,Ab h,ct,Int.toNat_natCast,Ay La _ _ h]
 generalize c.ties.l[j]=b at *
 have u:Nat.ble 5 (List.length (b.av++List.flatMap TieD.av (List.drop (j+1) c.ties.l)))=true:=by rw[Bx,List.length_append,La];simp
 have v:List.take 5 (b.av++List.flatMap TieD.av (List.drop (j+1) c.ties.l))=b.av:=List.take_left' (La b)
 rw[u,ct,v,La]
 simp only[Co,e,TieD.av,List.drop_succ_cons,List.drop_zero,A6,D6,Fa,Bx,GE,decide_true,Bool.and_true,cond_true]
 simp only[Jo hN8 (show c.buses.l.length<4611686018427387904 by omega),En rfl t,En rfl i,En rfl m]
 rfl
theorem QW {N:Nat} {c:CaseD} {p:C1} {o:Bool} {j:Nat} {K:LA→O R} (hs:Small c N) (h:j<c.stores.l.length) :
  Jp N c.av o (j:Int) (Di p) K=K (Di (Z8 c j c.stores.l[j] p)):=by
 have hN:=hs.n64
 have hN8:8≤N:=by omega
 have d:=hs.sto
 have i:=hs.top
 have s:c.stores.l[j] ∈ c.stores.l:=List.getElem_mem h
 skip
 have e:=@D4 R N c (c.stores.l.map (·.name)) o (k:=4) (n:=j) (hN:=hN) (hL:=fun K=>mQ hs) (hn:=by simpa using h) (hs:=⟨by have:=d.1;omega,by have:=d.2;omega⟩)
 have f:(c.stores.l.map (·.name))[j]'(by simpa using h)=c.stores.l[j].name:=by simp
 rw[f] at e
 rw[Vr];unfold Sj 
 rw[Wj,Ab h,ct,Int.toNat_natCast,Ay F0 _ _ h]
 generalize c.stores.l[j]=b at *
 have m:Nat.ble 9 (List.length (b.av++List.flatMap StoreD.av (List.drop (j+1) c.stores.l)))=true:=by rw[Bx,List.length_append,F0];simp
 have q:List.take 9 (b.av++List.flatMap StoreD.av (List.drop (j+1) c.stores.l))=b.av:=List.take_left' (F0 b)
 rw[m,ct,q,F0]
 simp only[Co,e,StoreD.av,List.drop_succ_cons,List.drop_zero,List.take_succ_cons,List.take_zero,List.length_cons,List.length_nil,A6,Bx,GE,A0,Nat.reduceAdd,decide_true,Bool.and_true,Bool.or_true,cond_true,Nat.zero_add,Nat.le_refl]
 simp only[Jo hN8 (show c.buses.l.length<4611686018427387904 by omega),Ed hN8,Ae (show(3:Int)≠0 by decide),IA hN8]
 unfold Z8;cases I7 b.eff<;>cases decide (b.eff.num>0)<;>rfl
theorem WZ {N:Nat} {c:CaseD} {p:C1} {o:Bool} {j:Nat} {K:LA→O R} (hs:Small c N) (h:j<c.lines.l.length) :
  H1 N c.av o (j:Int) (Di p) K=K (Di (MY c j c.lines.l[j] p)):=by
 have hN:=hs.n64
 have hN8:8≤N:=by omega
 have d:=hs.lin
 have i:=hs.top
 have m:c.lines.l[j] ∈ c.lines.l:=List.getElem_mem h
 have q:=hs.law _ m
 have e:=@D4 R N c (c.lines.l.map (·.name)) o (k:=2) (n:=j) (hN:=hN) (hL:=fun K=>sZ hs) (hn:=by simpa using h) (hs:=⟨by have:=d.1;omega,by have:=d.2;omega⟩)
 have f:(c.lines.l.map (·.name))[j]'(by simpa using h)=c.lines.l[j].name:=by simp
 rw[f] at e
 rw[Y5];unfold N7 Kr O4 Qo O3 Qn
 rw[Gf,Ab h,ct,Int.toNat_natCast,Ay Cb _ _ h]
 generalize c.lines.l[j]=b at *
 have s:Nat.ble 12 (List.length (b.av++List.flatMap LineD.av (List.drop (j+1) c.lines.l)))=true:=by rw[Bx,List.length_append,Cb];simp
 have t:List.take 12 (b.av++List.flatMap LineD.av (List.drop (j+1) c.lines.l))=b.av:=List.take_left' (Cb b)
 rw[s,ct,t,Cb]
 simp only[Co,e,LineD.av,List.drop_succ_cons,List.drop_zero,List.take_succ_cons,List.take_zero,List.length_cons,List.length_nil,A6,D6,Fa,Bx,GE,A0,Nat.reduceAdd,Nat.reduceLeDiff,decide_true,Bool.and_true,Bool.or_true,cond_true,Nat.zero_add]
 simp only[Jo hN8 (show c.buses.l.length<4611686018427387904 by omega),Ed hN8,Ae (show(1:Int)≠0 by decide),Ae (show(3:Int)≠0 by decide),IA hN8,Vp rfl q]
 unfold MY;rw[show(b.fr != b.tl)=(b.tl != b.fr) by simp[bne,BEq.comm (a:=b.fr)]];cases I7 b.re<;>cases I7 b.smin<;>cases I7 b.smax<;>rfl
end
end Gx.Cf

namespace Gx.Cf
open Go Go.Proofs
section
variable {R:Type}
def Awv (c:CaseD) (j:Nat) (u:UnitD) (p:C1):C1 :=
 let p:=Kj ((c.units.l.map (·.name)).take j) 3 j u.name p
 let p:=nd p (UP c u.bus) (3,j,1) Ar2
 let p:=nd p (Fb 0 1048576 u.min) (3,j,2) e3
 let p:=nd p (Fb u.min 1048576 u.max) (3,j,3) e3
 let p:=Ajy u j p
 let p:=nd p (Fb 0 1048576 u.noLoad) (3,j,5) e3
 let p:=nd p (Fb 0 1048576 u.rampUp) (3,j,6) e3
 let p:=nd p (Fb 0 1048576 u.rampDown) (3,j,7) e3
 let p:=nd p (Fb u.min u.max u.startRamp) (3,j,8) e3
 let p:=nd p (Fb u.min u.max u.stopRamp) (3,j,9) e3
 let p:=nd p (Fb 0 24 u.upTime) (3,j,10) e3
 nd p (Fb 0 24 u.downTime) (3,j,11) e3
def A1b (c:CaseD) (j:Nat) (u:UnitD) (p:C1):C1 :=
 let p:=nd p (Fb 0 24 u.startTime) (3,j,12) e3
 let p:=nd p (Fb 0 1048576 u.hotCost) (3,j,13) e3
 let p:=nd p (Fb 0 1048576 u.coldCost) (3,j,14) e3
 let p:=nd p (Fb 0 24 u.hotHours) (3,j,15) e3
 let p:=nd p (Fb 0 1048576 u.reserve) (3,j,16) e3
 let p:=nd p (Fb 0 1048576 u.reservePrice) (3,j,17) e3
 let p:=aF c.hours u.away.l (3,j,18) p
 let p:=nd p (Fb 0 2 u.state) (3,j,19) Ar2
 let p:=nd p (u.state != 1||decide (u.startTime>0)) (3,j,19) A5t
 let p:=nd p (Fb 1 48 u.hours) (3,j,20) e3
 let p:=nd p (u.state != 1||decide (u.hours≤u.startTime)) (3,j,20) e3
 cond (u.state==2) (nd p (Fb u.min u.max u.output) (3,j,21) e3) (nd p (u.output==0) (3,j,21) e3)
theorem A42 (n:Int):Fb 0 0 n=(n==0):=by
 unfold Fb
 by_cases h:n=0
 ·simp[h]
 ·have:(n==0)=false:=by simpa using h
  rw[this];simp;omega
theorem A2t {c:CaseD} {j:Nat} {u:UnitD} {p:C1}:A1b c j u (Awv c j u p)=UQ c j u p:=by
 show _=(let p:=nd (Awv c j u p) (Fb 0 24 u.startTime) (3,j,12) e3
  let p:=nd p (Fb 0 1048576 u.hotCost) (3,j,13) e3
  let p:=nd p (Fb 0 1048576 u.coldCost) (3,j,14) e3
  let p:=nd p (Fb 0 24 u.hotHours) (3,j,15) e3
  let p:=nd p (Fb 0 1048576 u.reserve) (3,j,16) e3
  let p:=nd p (Fb 0 1048576 u.reservePrice) (3,j,17) e3
  let p:=aF c.hours u.away.l (3,j,18) p
  let p:=nd p (Fb 0 2 u.state) (3,j,19) Ar2
  let p:=nd p (u.state != 1||u.startTime != 0) (3,j,19) A5t
  let p:=nd p (Fb 1 48 u.hours) (3,j,20) e3
  let p:=nd p (u.state != 1||decide (u.hours≤u.startTime)) (3,j,20) e3
  cond (u.state==2) (nd p (Fb u.min u.max u.output) (3,j,21) e3) (nd p (Fb 0 0 u.output) (3,j,21) e3))
 unfold A1b
 rw[A42]
 cases hq:nd (Awv c j u p) (Fb 0 24 u.startTime) (3,(j:Int),12) e3 with
 | some x=>simp only[PR,aF]
 | none =>
  have b:Fb 0 24 u.startTime=true:=by
   cases d:Fb 0 24 u.startTime with
   | true=>rfl
   | false =>
    rw[d] at hq
    cases e:Awv c j u p<;>rw[e] at hq<;>simp[nd] at hq
  have:decide (u.startTime>0)=(u.startTime != 0):=by
   unfold Fb at b
   simp at b
   by_cases h:u.startTime=0
   ·simp[h]
   ·have f:(u.startTime != 0)=true:=by simpa using h
    rw[f];simp;omega
  rw[this]
theorem W_ {N:Nat} {c:CaseD} {p:C1} {o:Bool} {j:Nat} {K:LA→O R} (hs:Small c N) (h:j<c.units.l.length) :
  H2 N c.av o (j:Int) (Di p) K=K (Di (UQ c j c.units.l[j] p)):=by
 have hN:=hs.n64
 have hN8:8≤N:=by omega
 have d:=hs.uni
 have q:=hs.top
 have s:c.units.l[j] ∈ c.units.l:=List.getElem_mem h
 have t:=hs.seg _ s;have f:=hs.uaw _ s
 have e:=@D4 R N c (c.units.l.map (·.name)) o (k:=3) (n:=j) (hN:=hN) (hL:=fun K=>s4 hs) (hn:=by simpa using h) (hs:=⟨by have:=d.1;omega,by have:=d.2;omega⟩)
 have i:(c.units.l.map (·.name))[j]'(by simpa using h)=c.units.l[j].name:=by simp
 rw[i] at e
 rw[Y7];unfold N8 Ks O8 Qq
 rw[Ft,Ab h,ct,Int.toNat_natCast,Ay Dg _ _ h]
 generalize c.units.l[j]=b at *
 have u:Nat.ble 22 (List.length (b.av++List.flatMap UnitD.av (List.drop (j+1) c.units.l)))=true:=by rw[Bx,List.length_append,Dg];simp
 have v:List.take 22 (b.av++List.flatMap UnitD.av (List.drop (j+1) c.units.l))=b.av:=List.take_left' (Dg b)
 rw[u,ct,v,Dg]
 have m:∀ (p:C1) (K:LA→O R),Dp N [.str b.name,.int .i64 b.bus,.int .i64 b.min,.int .i64 b.max,b.segs.av 2 SegD.av,.int .i64 b.noLoad,.int .i64 b.rampUp,.int .i64 b.rampDown,.int .i64 b.startRamp,.int .i64 b.stopRamp,.int .i64 b.upTime,.int .i64 b.downTime,.int .i64 b.startTime,.int .i64 b.hotCost,.int .i64 b.coldCost,.int .i64 b.hotHours,.int .i64 b.reserve,.int .i64 b.reservePrice,b.away.av 1 JV,.int .i64 b.state,.int .i64 b.hours,.int .i64 b.output] o j (Di p) K=K (Di (Ajy b j p)):=fun p K=>GF hN8 t
 simp only[Co,e,UnitD.av,List.drop_succ_cons,List.drop_zero,List.take_succ_cons,List.take_zero,A6,D6,Fa,Bx,GE,decide_true,Bool.and_true,cond_true,cond_false,Nat.le_refl]
 simp only[Jo hN8 (show c.buses.l.length<4611686018427387904 by omega),Ed hN8,Ae (show(3:Int)≠0 by decide),Ae (show(12:Int)≠0 by decide),Ae (show(16:Int)≠0 by decide),m,Vp rfl f]
 rw[←A2t]
 unfold A1b
 by_cases s1:b.state=1
 ·simp[s1];rfl
 ·have a4:(b.state != 1)=true:=by simpa using s1
  rw[a4]
  cases b.state==2<;>rfl
theorem NI {N:Nat} {c:CaseD} {p:C1} {o:Bool} {j:Nat} {K:LA→O R} (hs:Small c N) (h:j<c.outs.l.length) :
  Fx N c.av o (j:Int) (Di p) K=K (Di (jf c j c.outs.l[j] p)):=by
 have hN:=hs.n64
 have hN8:8≤N:=by omega
 have d:=hs.out
 have e:=hs.top
 have q:c.outs.l[j] ∈ c.outs.l:=List.getElem_mem h
 have v:=hs.oli _ q;have f:=hs.omo _ q;have s:=hs.omb _ q
 have m:=@D4 R N c (c.outs.l.map (·.name)) o (k:=6) (n:=j) (hN:=hN) (hL:=fun K=>zD hs) (hn:=by simpa using h) (hs:=⟨by have:=d.1;omega,by have:=d.2;omega⟩)
 have t:(c.outs.l.map (·.name))[j]'(by simpa using h)=c.outs.l[j].name:=by simp
 rw[t] at m
 rw[Ue];unfold Kq Is Mj
 rw[Xy,Ab h,ct,Int.toNat_natCast,Ay Db _ _ h]
 generalize c.outs.l[j]=b at *
 have x:Nat.ble 4 (List.length (b.av++List.flatMap OutD.av (List.drop (j+1) c.outs.l)))=true:=by rw[Bx,List.length_append,Db];simp
 have y:List.take 4 (b.av++List.flatMap OutD.av (List.drop (j+1) c.outs.l))=b.av:=List.take_left' (Db b)
 rw[x,ct,y,Db]
 have l1:=fun p=>Zd (R:=R) (N:=N) (c:=c) (i:=j) (u:=b) (o:=o) (p:=p) (K:=K) hN8 e.2.2.1 f s b.moves.l.length 0 N (by omega) f.1
 simp only[List.take_zero,List.map_nil,Int.natCast_zero,Aq] at l1
 simp only[GE,decide_true,Bool.and_true,cond_true,F1,Co,m,mP,vd,A1a,Ed hN8,Hz rfl v,Z7 rfl v,Gf,Ae (show(4:Int)≠0 by decide),Ae (show(8:Int)≠0 by decide),Ae (show(11:Int)≠0 by decide),Ae (show(12:Int)≠0 by decide),Ae (show(16:Int)≠0 by decide),l1]
 have a1:Fb 1 2 (b.lines.l.length:Int)=((b.lines.l.length:Int)==1||(b.lines.l.length:Int)==2):=by
  unfold Fb
  by_cases x1:b.lines.l.length=1
  ·simp[x1]
  ·by_cases x2:b.lines.l.length=2
   ·simp[x2]
   ·have y1:((b.lines.l.length:Int)==1)=false:=by simp;omega
    have y2:((b.lines.l.length:Int)==2)=false:=by simp;omega
    rw[y1,y2];simp;omega
 have a2:b.lines.l.all (Fb 0 (IntKind.wrap .i64 ((c.lines.l.length:Int) - 1)))=b.lines.l.all fun n=>decide (0≤n)&&decide (n<(c.lines.l.length:Int)):=by
  congr 1;funext n;exact At2 _ _ (by omega)
 rw[a1,a2]
 unfold jf je
 cases b.corr
 ·simp
 ·simp
end
end Gx.Cf

namespace Gx.Cf
inductive Conn (es:List (Nat×Nat)):Nat→Nat→Prop
 | refl (a:Nat):Conn es a a
 | fwd {u v b:Nat}:(u,v) ∈ es→Conn es v b→Conn es u b
 | bwd {u v b:Nat}:(u,v) ∈ es→Conn es u b→Conn es v b
theorem Conn.trans {es:List (Nat×Nat)} {a b c:Nat} (i:Conn es a b) (d:Conn es b c):Conn es a c:=by
 induction i with
 | refl=>exact d
 | fwd e _ f=>exact .fwd e (f d)
 | bwd e _ f=>exact .bwd e (f d)
theorem Conn.symm {es:List (Nat×Nat)} {a b:Nat} (h:Conn es a b):Conn es b a:=by
 induction h with
 | refl=>exact .refl _
 | fwd c _ d=>exact d.trans (.bwd c (.refl _))
 | bwd c _ d=>exact d.trans (.fwd c (.refl _))
theorem Conn.mono {es fs:List (Nat×Nat)} (hs:∀ e ∈ es,e ∈ fs) {a b:Nat} (h:Conn es a b):Conn fs a b:=by
 induction h with
 | refl=>exact .refl _
 | fwd c _ d=>exact .fwd (hs _ c) d
 | bwd c _ d=>exact .bwd (hs _ c) d
def Re (es:List (Nat×Nat)) (b:Nat):Prop:=∀ a,a<b→¬ Conn es a b
open Classical in
noncomputable def I3 (n:Nat) (es:List (Nat×Nat)):Nat:=((List.range n).filter fun b=>decide (Re es b)).length
theorem At3 {n:Nat} {es fs:List (Nat×Nat)} (h:∀ e ∈ es,e ∈ fs):I3 n fs≤I3 n es:=by
 unfold I3
 have:∀ (l:List Nat),(l.filter fun b=>@decide (Re fs b) (Classical.propDecidable _)).length≤(l.filter fun b=>@decide (Re es b) (Classical.propDecidable _)).length:=by
  intro l
  induction l with
  | nil=>simp
  | cons a r c =>
   rw[List.filter_cons,List.filter_cons]
   by_cases x:Re fs a
   ·have:Re es a:=fun b d f=>x b d (f.mono h)
    simp[x,this,c]
   ·by_cases y:Re es a<;>simp[x,y]<;>omega
 exact this _
def Fj (n:Nat):List Int:=(List.range n).map fun b:Nat=>(b:Int)
structure UfOk (n:Nat) (es:List (Nat×Nat)) (st:List Int×Int):Prop where
 len:st.1.length=n
 iff:∀ a b,a<n→b<n→(st.1.getD a 0=st.1.getD b 0↔Conn es a b)
 cnt:st.2=(I3 n es:Int)
theorem dy {n a:Nat} (h:a<n):(Fj n).getD a 0=(a:Int):=by
 rw[List.getD_eq_getElem?_getD,Fj,List.getElem?_map,List.getElem?_range h];rfl
structure LeastOk (n:Nat) (es:List (Nat×Nat)) (L:List Int):Prop where
 len:L.length=n
 low:∀ b,b<n→0≤L.getD b 0∧L.getD b 0≤b
 con:∀ b,b<n→Conn es (L.getD b 0).toNat b
def Aww (es:List (Nat×Nat)) (L:List Int):Prop:=∀ e ∈ es,L.getD e.1 0=L.getD e.2 0
def A2u (L:List Int):Nat:=((List.range L.length).filter fun b=>L.getD b 0==(b:Int)).length
theorem s5 {n:Nat} {es:List (Nat×Nat)} {L:List Int} (h:LeastOk n es L) (j:Aww es L) (k:∀ e ∈ es,e.1<n∧e.2<n):A2u L=I3 n es:=by
 unfold A2u I3
 rw[h.len]
 congr 1
 apply List.filter_congr
 intro b d
 have d:b<n:=by simpa using d
 have conn_eq:∀ a b,Conn es a b→L.getD a 0=L.getD b 0:=by
  intro a b f
  induction f with
  | refl=>rfl
  | fwd c _ i=>exact(j _ c).trans i
  | bwd c _ i=>exact(j _ c).symm.trans i
 have l:=h.low b d
 by_cases x:L.getD b 0=(b:Int)
 ·have:Re es b:=fun a m f=>by
   have e:=conn_eq a b f
   have:=(h.low a (by omega)).2
   omega
  have x':(L.getD b 0==(b:Int))=true:=by simpa using x
  rw[x'];simp[this]
 ·have x':(L.getD b 0==(b:Int))=false:=by simpa using x
  have:¬ Re es b:=fun c=>c (L.getD b 0).toNat (by omega) (h.con b d)
  rw[x'];simp[this]
end Gx.Cf

namespace Gx.Cf
open Go Go.Proofs
section
variable {R:Type}
theorem QX {l:List Int} {j:Nat} (h:j<l.length):l.getD j 0=l[j]:=by rw[List.getD_eq_getElem?_getD,List.getElem?_eq_getElem h];rfl
theorem Tf {x:Int} {n:Nat} (h0:0≤x) (b:x.toNat<n):Ah x n=true:=by simp[Ah];omega
theorem zE {l:List Int} {x:Int} (h:x.toNat<l.length) {f:Int→O R}:At .i64 (List.drop (0+((Int.toNat x)*1)) (Aq l)) f=f (l.getD x.toNat 0):=by
 rw[Nat.zero_add,Nat.mul_one,kX h,QX h]
theorem Ze (l:List Int) (j:Nat) (v:Int):List.set (Aq l) j (.int .i64 v)=Aq (l.set j v):=by simp[Aq,List.map_set]
theorem QY {l:List Int} {x:Nat} (h:x<l.length):((Nat.beq 1 1)&&((Nat.ble ((0+(x*1))+1) (List.length (Aq l)))&&(!false)))=true:=by
 rw[GE,Bx,Ek];simp;omega
def E6 (c:CaseD) (l:Int):Nat×Nat:=match c.lines.l[l.toNat]? with
 | some x=>(x.fr.toNat,x.tl.toNat)
 | none=>(0,0)
structure LnV (c:CaseD) (l:Int) (x:LineD):Prop where
 l0:0≤l
 lt:l.toNat<c.lines.l.length
 at':c.lines.l[l.toNat]?=some x
 f0:0≤x.fr
 f1:x.fr.toNat<c.buses.l.length
 t0:0≤x.tl
 t1:x.tl.toNat<c.buses.l.length
theorem dz {c:CaseD} {l:Int} {x:LineD} (h:LnV c l x):E6 c l=(x.fr.toNat,x.tl.toNat):=by unfold E6;rw[h.at']
theorem A1c {c:CaseD} {l:Int} {x:LineD} (h:LnV c l x) {f:Int→O R}:At .i64 (List.drop 1 (List.drop ((Int.toNat l)*12) (c.lines.l.flatMap LineD.av))) f=f x.fr:=by
 have e:c.lines.l[l.toNat]'h.lt=x:=by have:=h.at';rw[List.getElem?_eq_getElem h.lt] at this;simpa using this
 rw[Ay Cb _ _ h.lt,e];simp[LineD.av,A6]
theorem A1d {c:CaseD} {l:Int} {x:LineD} (h:LnV c l x) {f:Int→O R}:At .i64 (List.drop 2 (List.drop ((Int.toNat l)*12) (c.lines.l.flatMap LineD.av))) f=f x.tl:=by
 have e:c.lines.l[l.toNat]'h.lt=x:=by have:=h.at';rw[List.getElem?_eq_getElem h.lt] at this;simpa using this
 rw[Ay Cb _ _ h.lt,e];simp[LineD.av,A6]
theorem ji {L:List Int} {n j:Nat} (c:L.length=n) (h:j<n):((Fj n).take j++L.drop j).set j (j:Int)=(Fj n).take (j+1)++L.drop (j+1):=by
 have hi:(Fj n).length=n:=by simp[Fj]
 have e:(Fj n)[j]'(by omega)=(j:Int):=by simp[Fj]
 have b:j - ((Fj n).take j).length=0:=by simp[hi];omega
 rw[List.set_append_right _ _ (by simp;omega),b,List.take_succ_eq_append_getElem (by omega),B7 (l:=L) (by omega),e,List.set_cons_zero,List.append_assoc];rfl
end
end Gx.Cf

namespace Gx.Cf
open Go Go.Proofs
section
variable {R:Type}
def aL (h:Int):List LineD→Nat→List Int
 | [],_=>[]
 | x::r,j=>cond (x.away.l.contains h) (aL h r (j+1)) ((j:Int)::aL h r (j+1))
theorem FG (h:Int):∀ (l:List LineD) (j:Nat),(aL h l j).length≤l.length
 | [],_=>by simp[aL]
 | x::r,j=>by rw[aL];have:=FG h r (j+1);cases x.away.l.contains h<;>simp<;>omega
theorem Ao4 (h:Int):∀ (l:List LineD) (j:Nat) (a:Int),a ∈ aL h l j→(j:Int)≤a∧a<j+l.length
 | [],_,_,b=>by simp[aL] at b
 | x::r,j,a,b=>by
  rw[aL] at b
  have c:=Ao4 h r (j+1) a
  cases d:x.away.l.contains h<;>rw[d] at b<;>simp at b
  ·rcases b with rfl | b
   ·simp;omega
   ·have:=c b;simp at this ⊢;omega
  ·have:=c b;simp at this ⊢;omega
def A7 (c:CaseD) (h:Int):List Int:=aL h c.lines.l 0
theorem ve {A B:List Int} {n:Nat} (h:n=A.length):(List.take (n*1) (Aq A))++Aq B=Aq (A++B):=by
 rw[Nat.mul_one,List.take_of_length_le (by simp[Ek,h]),X']
theorem aM {N:Nat} {c:CaseD} {h:Int} {o:Bool} {K:Nat→LA→O R} (hs:Small c N):∀ (m j fuel:Nat) (A:List Int),j+m=c.lines.l.length→m<fuel→A.length≤j →
  Fy N K h o c.av fuel A.length (j:Int) (Aq A)=K (A++aL h (c.lines.l.drop j) j).length (Aq (A++aL h (c.lines.l.drop j) j))
 | 0,j,fuel+1,A,n,_,_=>by
  rw[Fy];unfold N5
  rw[Gf,Iu (by omega),cf,Cx (l:=c.lines.l) (by omega),aL,List.append_nil]
 | m+1,j,fuel+1,A,n,x,hA=>by
  rw[Fy];unfold N5
  have d:j<c.lines.l.length:=by omega
  have k:=hs.top.2.1
  have q:c.lines.l[j] ∈ c.lines.l:=List.getElem_mem d
  have s:=hs.law _ q
  simp only[Gf]
  rw[Hh d,ct,Ab d,ct,Int.toNat_natCast,Ay Cb _ _ d,B7 (l:=c.lines.l) d,aL]
  have e:=aM (N:=N) (c:=c) (h:=h) (o:=o) (K:=K) hs m (j+1) fuel (A++[(j:Int)]) (by omega) (by omega) (by simp;omega)
  have i:=aM (N:=N) (c:=c) (h:=h) (o:=o) (K:=K) hs m (j+1) fuel A (by omega) (by omega) (by omega)
  generalize c.lines.l[j]=b at *
  have t:(Nat.ble (A.length+1) 140737488355328&&Nat.ble ((A.length+1)*8) 140737488355328)=true:=by rw[Bx,Bx];simp;omega
  have u:∀ (r:LA) (f:LA→Nat→O R),Bw 1 (List.drop 11 (b.av++r)) f=f (Aq b.away.l) b.away.l.length:=fun r f=>by simp[LineD.av,D6,Fa]
  have v:List.take (A.length*1) (Aq A)++[.int .i64 (j:Int)]=Aq (A++[(j:Int)]):=ve (B:=[(j:Int)]) rfl
  rw[u,QN rfl s,t,ct,v,Bo (by omega)]
  cases b.away.l.contains h with
  | true=>simp only[Bool.not_true,cond_false,cond_true];exact i
  | false =>
   simp only[Bool.not_false,cond_true,cond_false]
   rw[List.length_append] at e
   simpa using e
theorem Ao5 {N:Nat} {c:CaseD} {h:Int} {o:Bool} {K:Nat→LA→O R} (hs:Small c N):No N c.av o h K=K (A7 c h).length (Aq (A7 c h)):=by
 rw[HV];unfold Ug
 have:=aM (R:=R) (N:=N) (c:=c) (h:=h) (o:=o) (K:=K) hs c.lines.l.length 0 N [] (by omega) hs.lin.1 (by simp)
 simpa[A7,Aq] using this
def B0 (e:Nat×Nat):LA:=[.int .i64 (e.1:Int),.int .i64 (e.2:Int)]
theorem Ul (e:Nat×Nat):(B0 e).length=2:=rfl
theorem eA (es:List (Nat×Nat)):(es.flatMap B0).length=es.length*2:=by
 induction es with
 | nil=>rfl
 | cons e r b=>rw[List.flatMap_cons,List.length_append,b,Ul];simp;omega
theorem zF {N:Nat} {c:CaseD} {o:Bool} {ls:List Int} {K:Nat→Nat→LA→LA→O R} (e:ls.length≤1000000) (d:∀ l ∈ ls,∃ x,LnV c l x):∀ (m j fuel:Nat),j+m=ls.length→m<fuel →
  Mk N K ls.length o c.av (Aq ls) fuel j (ls.length:Int) (j:Int) (((ls.take j).map (E6 c)).flatMap B0)=K ls.length ls.length ((ls.map (E6 c)).flatMap B0) (Aq ls)
 | 0,j,fuel+1,f,_=>by
  rw[Mk];unfold Xw
  have:j=ls.length:=by omega
  rw[Iu (by omega),cf,List.take_of_length_le (by omega),this]
 | m+1,j,fuel+1,f,n=>by
  rw[Mk];unfold Xw
  have h:j<ls.length:=by omega
  obtain⟨x,b⟩:=d ls[j] (List.getElem_mem h)
  have i:(Nat.ble (j+1) 140737488355328&&Nat.ble ((j+1)*16) 140737488355328)=true:=by rw[Bx,Bx];simp;omega
  have k:List.take (j*2) (((ls.take j).map (E6 c)).flatMap B0)++[.int .i64 x.fr,.int .i64 x.tl]=((ls.take (j+1)).map (E6 c)).flatMap B0:=by
   rw[List.take_of_length_le (by rw[eA];simp;omega),List.take_succ_eq_append_getElem h,List.map_append,List.flatMap_append]
   simp only[List.map_cons,List.map_nil,dz b,List.flatMap_cons,List.flatMap_nil,List.append_nil,B0]
   have:=b.f0;have:=b.t0
   rw[Int.toNat_of_nonneg b.f0,Int.toNat_of_nonneg b.t0]
  rw[Hh h,ct,Ab h,ct,zE (by simpa using h),Int.toNat_natCast,QX h]
  simp only[Gf,A1c b,A1d b]
  rw[Tf b.l0 b.lt,ct,ct,i,ct,k,Bo (by omega),zF e d m (j+1) fuel (by omega) (by omega)]
theorem At4 {N:Nat} {c:CaseD} {h:Int} {o:Bool} {K:Nat→Nat→LA→LA→O R} (hs:Small c N) (e:∀ l ∈ A7 c h,∃ x,LnV c l x) :
  DL N c.av o h K=K (A7 c h).length (A7 c h).length (((A7 c h).map (E6 c)).flatMap B0) (Aq (A7 c h)):=by
 rw[gZ];unfold QK
 have f:=FG h c.lines.l 0
 have b:=hs.top.2.1
 have d:=hs.lin.1
 have:=zF (R:=R) (N:=N) (c:=c) (o:=o) (ls:=A7 c h) (K:=K) (by unfold A7;omega) e (A7 c h).length 0 N (by omega) (by unfold A7;omega)
 rw[F1,ct,Co,Ao5 hs]
 simpa using this
def F2 (st:Bool×List Int) (e:Nat×Nat):Bool×List Int :=
 let m:=Lo (st.2.getD e.1 0) (st.2.getD e.2 0)
 ((st.1||(st.2.getD e.1 0 != m))||(st.2.getD e.2 0 != m),(st.2.set e.1 m).set e.2 m)
theorem s6 {N:Nat} {es:List (Nat×Nat)} {n:Nat} {t o:Bool} {K1:Bool→LA→O R} {K:Nat→LA→O R} (hs:es.length<4611686018427387904) (i:∀ e ∈ es,e.1<n∧e.2<n):∀ (m j fuel:Nat) (st:Bool×List Int),j+m=es.length→m<fuel→st.2.length=n →
  Ig N K1 K (es.flatMap B0) es.length t o n fuel st.1 (es.length:Int) (j:Int) (Aq st.2)=K1 ((es.drop j).foldl F2 st).1 (Aq ((es.drop j).foldl F2 st).2)
 | 0,j,fuel+1,st,k,_,_=>by
  rw[Ig];unfold R5
  rw[Iu (by omega),cf,Cx (l:=es) (by omega)];rfl
 | m+1,j,fuel+1,st,k,G,b=>by
  rw[Ig];unfold R5
  have h:j<es.length:=by omega
  obtain⟨c,d⟩:=i es[j] (List.getElem_mem h)
  have q:=s6 (N:=N) (es:=es) (n:=n) (t:=t) (o:=o) (K1:=K1) (K:=K) hs i m (j+1) fuel (F2 st es[j]) (by omega) (by omega) (by simp[F2,b])
  rw[Hh h,ct,Ab h,ct,Int.toNat_natCast,Ay Ul _ _ h,B7 (l:=es) h,List.foldl_cons,←q]
  generalize es[j]=e at *
  have s:Nat.ble 2 (List.length (B0 e++List.flatMap B0 (List.drop (j+1) es)))=true:=by rw[Bx,List.length_append,Ul];simp
  have u:List.take 2 (B0 e++List.flatMap B0 (List.drop (j+1) es))=B0 e:=List.take_left' (Ul e)
  rw[s,ct,u,Ul]
  have iu:Ah (e.1:Int) n=true:=Ab c
  have iv:Ah (e.2:Int) n=true:=Ab d
  have ru:∀ f:Int→O R,At .i64 (List.drop (0+((Int.toNat (e.1:Int))*1)) (Aq st.2)) f=f (st.2.getD e.1 0):=fun f=>by rw[zE (by rw[b];simpa using c)];rfl
  have rv:∀ f:Int→O R,At .i64 (List.drop (0+((Int.toNat (e.2:Int))*1)) (Aq st.2)) f=f (st.2.getD e.2 0):=fun f=>by rw[zE (by rw[b];simpa using d)];rfl
  have s1:=QY (l:=st.2) (x:=(Int.toNat (e.1:Int))) (by rw[b];simpa using c)
  have s2:∀ m:Int,((Nat.beq 1 1)&&((Nat.ble ((0+((Int.toNat (e.2:Int))*1))+1) (List.length (List.set (Aq st.2) (0+((Int.toNat (e.1:Int))*1)) (.int .i64 m))))&&(!false)))=true:=fun m=>by
   rw[Ze];exact QY (by simpa[b] using d)
  have v:∀ m:Int,List.set (List.set (Aq st.2) (0+((Int.toNat (e.1:Int))*1)) (.int .i64 m)) (0+((Int.toNat (e.2:Int))*1)) (.int .i64 m)=Aq ((st.2.set e.1 m).set e.2 m):=fun m=>by
   rw[Ze,Ze];simp
  have y:(!o||A0 (B0 e))=true:=by simp[B0,A0]
  have z:(Nat.beq 2 2&&(Nat.ble 2 2&&!false))=true:=rfl
  have A:setCells [(.int .i64 (0:Int)),(.int .i64 (0:Int))] 0 (B0 e)=B0 e:=rfl
  have C:∀ f:Int→O R,At .i64 (B0 e) f=f e.1:=fun f=>by simp[B0,A6]
  have D:∀ f:Int→O R,At .i64 (List.drop 1 (B0 e)) f=f e.2:=fun f=>by simp[B0,A6]
  simp only[y,z,A,C,D,ct,iu,iv,ru,rv,s1,s2,v,Bo (show j<4611686018427387904 by omega)]
  unfold F2
  cases st.1
  ·cases F:(st.2.getD e.1 0 != Lo (st.2.getD e.1 0) (st.2.getD e.2 0))<;>simp only[F,Bool.false_or,Bool.true_or,cond_true,cond_false,beq_self_eq_true,show(true==false)=false from rfl]
  ·simp only[Bool.true_or,cond_false,show(true==false)=false from rfl]
def jj (L:List Int):Nat:=(L.map Int.toNat).sum
theorem Awx {L:List Int} {x:Nat} {v:Int} (h:x<L.length):jj (L.set x v)+(L.getD x 0).toNat=jj L+v.toNat:=by
 unfold jj
 rw[QX h]
 induction L generalizing x with
 | nil=>simp at h
 | cons a r b =>
  cases x with
  | zero=>simp;omega
  | succ x=>have:=b (x:=x) (by simpa using h);simp at this ⊢;omega
theorem zG {L:List Int} {x y:Nat} {v:Int} (h:x<L.length):(L.set x v).getD y 0=if x=y then v else L.getD y 0:=by
 rw[List.getD_eq_getElem?_getD,List.getD_eq_getElem?_getD,List.getElem?_set]
 by_cases e:x=y
 ·subst e;simp[h]
 ·simp[e]
theorem A2v (a b:Int):Lo a b≤a∧Lo a b≤b∧(Lo a b=a∨Lo a b=b):=by
 unfold Lo
 by_cases h:b<a
 ·simp[h];omega
 ·simp[h];omega
theorem Ayu {n:Nat} {es:List (Nat×Nat)} {e:Nat×Nat} (t:e ∈ es) (j:e.1<n) (k:e.2<n) {b:Bool} {L:List Int} (h:LeastOk n es L) :
    LeastOk n es (F2 (b,L) e).2∧(((F2 (b,L) e).1=true∧jj (F2 (b,L) e).2<jj L)∨((F2 (b,L) e)=(b,L)∧L.getD e.1 0=L.getD e.2 0)):=by
  obtain⟨u,v⟩:=e
  simp only at j k
  obtain⟨m1,m2,m3⟩:=A2v (L.getD u 0) (L.getD v 0)
  have c:u<L.length:=by rw[h.len];exact j
  have f:v<L.length:=by rw[h.len];exact k
  have d:Conn es u v:=.fwd t (.refl _)
  have Am:∀ y,((L.set u (Lo (L.getD u 0) (L.getD v 0))).set v (Lo (L.getD u 0) (L.getD v 0))).getD y 0=if v=y then Lo (L.getD u 0) (L.getD v 0) else if u=y then Lo (L.getD u 0) (L.getD v 0) else L.getD y 0:=fun y=>by
    rw[zG (by simpa using f),zG c]
  have lu:=h.low u j
  have lv:=h.low v k
  refine⟨⟨by simp[F2,h.len],fun y s=>?_,fun y s=>?_⟩,?_⟩
  · simp only[F2,Am]
    split
    · rename_i e;subst e;omega
    · split
      · rename_i e;subst e;omega
      · exact h.low y s
  · simp only[F2,Am]
    have cm:Conn es (Lo (L.getD u 0) (L.getD v 0)).toNat u:=by
      rcases m3 with e | e<;>rw[e]
      · exact h.con u j
      · exact(h.con v k).trans d.symm
    split
    · rename_i e;subst e;exact cm.trans d
    · split
      · rename_i e;subst e;exact cm
      · exact h.con y s
  · by_cases e1:L.getD u 0=Lo (L.getD u 0) (L.getD v 0)<;>by_cases l:L.getD v 0=Lo (L.getD u 0) (L.getD v 0)
    · right
      have q:(L.set u (Lo (L.getD u 0) (L.getD v 0))).set v (Lo (L.getD u 0) (L.getD v 0))=L:=by
        have key:∀ m:Int,L.getD u 0=m→L.getD v 0=m→(L.set u m).set v m=L:=by
          intro m z A
          have a1:L.set u m=L:=by rw[←z,QX c,List.set_getElem_self]
          have a2:L.set v m=L:=by rw[←A,QX f,List.set_getElem_self]
          rw[a1,a2]
        exact key _ e1 l
      have x1:(L.getD u 0 != Lo (L.getD u 0) (L.getD v 0))=false:=by simpa using e1
      have x2:(L.getD v 0 != Lo (L.getD u 0) (L.getD v 0))=false:=by simpa using l
      refine⟨by simp only[F2,q,x1,x2,Bool.or_false],by rw[e1];exact l.symm⟩
    all_goals
      left
      have C:=Awx (v:=Lo (L.getD u 0) (L.getD v 0)) c
      have i:=Awx (L:=L.set u (Lo (L.getD u 0) (L.getD v 0))) (x:=v) (v:=Lo (L.getD u 0) (L.getD v 0)) (by simpa using f)
      rw[zG c] at i
      refine⟨?_,?_⟩
      · first
          | (have x2 : (L.getD v 0 != Lo (L.getD u 0) (L.getD v 0)) = true := by simpa using l
             simp only[F2,x2,Bool.or_true])
          | (have x1 : (L.getD u 0 != Lo (L.getD u 0) (L.getD v 0)) = true := by simpa using e1
             simp only[F2,x1,Bool.or_true,Bool.true_or])
      · simp only[F2]
        split at i
        · rename_i e;subst e;omega
        · omega
theorem Ajz {n:Nat} {es:List (Nat×Nat)} (d:∀ e ∈ es,e.1<n∧e.2<n):∀ (fs:List (Nat×Nat)) (b:Bool) (L:List Int),(∀ e ∈ fs,e ∈ es)→LeastOk n es L →
  LeastOk n es (fs.foldl F2 (b,L)).2∧(((fs.foldl F2 (b,L)).1=true∧(jj (fs.foldl F2 (b,L)).2<jj L∨(b=true∧jj (fs.foldl F2 (b,L)).2≤jj L)))∨((fs.foldl F2 (b,L))=(b,L)∧Aww fs L))
 | [],b,L,_,h=>⟨h,.inr ⟨rfl,fun e d=>by simp at d⟩⟩
 | e::r,b,L,k,h=>by
  have l:=k e (by simp)
  obtain⟨t,u⟩:=Ayu l (d e l).1 (d e l).2 (b:=b) h
  rw[List.foldl_cons]
  rcases u with⟨m,q⟩ | ⟨m,q⟩
  ·have v:F2 (b,L) e=(true,(F2 (b,L) e).2):=by rw[←m]
   rw[v]
   obtain⟨s,f⟩:=Ajz d r true (F2 (b,L) e).2 (fun x c=>k x (List.mem_cons_of_mem _ c)) t
   refine⟨s,.inl ?_⟩
   rcases f with⟨i,j⟩ | ⟨i,_⟩
   ·exact⟨i,.inl (by rcases j with j | ⟨_,j⟩<;>omega)⟩
   ·rw[i];exact⟨rfl,.inl q⟩
  ·rw[m]
   obtain⟨s,f⟩:=Ajz d r b L (fun x c=>k x (List.mem_cons_of_mem _ c)) h
   refine⟨s,?_⟩
   rcases f with f | ⟨i,j⟩
   ·exact .inl f
   ·refine .inr ⟨i,fun x c=>?_⟩
    rcases List.mem_cons.1 c with rfl | c
    ·exact q
    ·exact j x c
theorem s7 {N:Nat} {es:List (Nat×Nat)} {n:Nat} {t o:Bool} (hs:Es es.length N) (c:∀ e ∈ es,e.1<n∧e.2<n):∀ (s fuel:Nat) (L:List Int),LeastOk n es L→jj L≤s→s+2<fuel →
  ∃ L',LeastOk n es L'∧Aww es L'∧∀ K:Nat→LA→O R,Do N K (es.flatMap B0) es.length t o n fuel true (Aq L)=K n (Aq L')
 | s,fuel+1,L,h,hL,l=>by
  obtain⟨f,i⟩:=Ajz c es false L (fun _ j=>j) h
  have step:∀ K:Nat→LA→O R,Do N K (es.flatMap B0) es.length t o n (fuel+1) true (Aq L)=Do N K (es.flatMap B0) es.length t o n fuel (es.foldl F2 (false,L)).1 (Aq (es.foldl F2 (false,L)).2):=fun K=>by
   rw[Do];unfold R6
   have:=s6 (R:=R) (N:=N) (es:=es) (n:=n) (t:=t) (o:=o) (K1:=Do N K (es.flatMap B0) es.length t o n fuel) (K:=K) hs.2 c es.length 0 N (false,L) (by omega) hs.1 h.len
   simpa using this
  rcases i with⟨d,b⟩ | ⟨d,b⟩
  ·have k:jj (es.foldl F2 (false,L)).2<jj L:=by
    rcases b with b | ⟨b,_⟩
    ·exact b
    ·cases b
   obtain⟨L',a1,a2,a3⟩:=s7 hs c (s - 1) fuel _ f (by omega) (by omega)
   exact⟨L',a1,a2,fun K=>by rw[step,d];exact a3 K⟩
  ·refine⟨L,h,b,fun K=>?_⟩
   rw[step,d]
   rcases fuel with _ | fuel
   ·omega
   ·rw[Do];unfold R6;rfl
 termination_by s=>s
 decreasing_by omega
theorem s8 {N:Nat} {es:List (Nat×Nat)} {n:Nat} {t o:Bool} {K:Nat→LA→O R} (hn:n<4611686018427387904) (L:List Int) (hL:L.length=n):∀ (m j fuel:Nat),j+m=n→m<fuel →
  Ih N K (n:Int) (es.flatMap B0) es.length t o fuel n (j:Int) (Aq ((Fj n).take j++L.drop j))=Do N K (es.flatMap B0) es.length t o n N true (Aq (Fj n))
 | 0,j,fuel+1,c,_=>by
  rw[Ih];unfold R7
  rw[Iu (by omega),cf,Cx (by omega),List.append_nil,List.take_of_length_le (by simp[Fj];omega)]
 | m+1,j,fuel+1,c,d=>by
  rw[Ih];unfold R7
  have h:j<n:=by omega
  have b:((Fj n).take j++L.drop j).length=n:=by simp[Fj];omega
  rw[Hh h,ct,Ab h,ct,QY (by rw[b];simpa using h),ct,Int.toNat_natCast,Nat.zero_add,Nat.mul_one,Ze,ji hL h,Bo (by omega),s8 hn L hL m (j+1) fuel (by omega) (by omega)]
theorem At5 (n:Nat) (es:List (Nat×Nat)):LeastOk n es (Fj n):=by
 refine⟨by simp[Fj],fun b c=>?_,fun b c=>?_⟩
 ·rw[dy c];omega
 ·rw[dy c];exact .refl _
theorem A36 {L:List Int} {b:Nat}:(∀ x ∈ L,x.toNat≤b)→jj L≤L.length*b:=by
 unfold jj
 induction L with
 | nil=>intro _;simp
 | cons a r c =>
  intro h
  have e:=h a (by simp)
  have f:=c (fun x d=>h x (List.mem_cons_of_mem _ d))
  simp[Nat.add_mul];omega
theorem mS {N:Nat} {es:List (Nat×Nat)} {n:Nat} {t o:Bool} (hs:Es es.length N) (hn:n≤1000) (hN:n*n+1000<N) (f:∀ e ∈ es,e.1<n∧e.2<n) :
  ∃ L,LeastOk n es L∧Aww es L∧∀ (m:Nat) (K:Nat→LA→O R),m=es.length→O1 N (n:Int) (es.flatMap B0) m t o K=K n (Aq L):=by
 have c:jj (Fj n)≤n*n:=by
  have:=A36 (L:=Fj n) (b:=n) (by
   intro x d;simp[Fj] at d;obtain⟨a,q,rfl⟩:=d;simp;omega)
  simpa[Fj] using this
 obtain⟨L,i,j,k⟩:=s7 (R:=R) (N:=N) (es:=es) (n:=n) (t:=t) (o:=o) hs f (n*n) N (Fj n) (At5 n es) c (by omega)
 refine⟨L,i,j,fun m K l=>?_⟩
 subst l
 rw[UK];unfold CC
 have ok:(decide ((0:Int)≤(n:Int))&&(decide ((n:Int)≤(n:Int))&&(decide ((n:Int)≤(140737488355328:Int))&&decide (((n:Int)*((8:Nat):Int))≤(140737488355328:Int)))))=true:=by simp;omega
 have e:List.replicate n (AV.int .i64 (0:Int))=Aq (List.replicate n 0):=by simp[Aq]
 have:=s8 (R:=R) (N:=N) (es:=es) (n:=n) (t:=t) (o:=o) (K:=K) (by omega) (List.replicate n 0) (by simp) n 0 N (by omega) (by omega)
 rw[ok,ct,Int.toNat_natCast,e,←k K]
 simpa using this
theorem jk {N:Nat} {L:List Int} {t o:Bool} {K:Int→O R} (hs:L.length<1000000):∀ (m j fuel:Nat) (a:Nat),j+m=L.length→m<fuel→a≤j →
  Ml N K (Aq L) L.length t o fuel (a:Int) (j:Int)=K ((a+((List.range' j m).filter fun b=>L.getD b 0==(b:Int)).length:Nat):Int)
 | 0,j,fuel+1,a,c,_,_=>by
  rw[Ml];unfold Xx
  rw[Iu (by omega),cf];simp
 | m+1,j,fuel+1,a,c,d,e=>by
  rw[Ml];unfold Xx
  have h:j<L.length:=by omega
  rw[Hh h,ct,Ab h,ct,E' h,Bo (by omega),Bo (by omega),List.range'_succ,List.filter_cons,QX h]
  cases f:L[j]==(j:Int) with
  | true =>
   rw[ct,jk hs m (j+1) fuel (a+1) (by omega) (by omega) (by omega)]
   simp;congr 1;omega
  | false =>
   rw[cf,jk hs m (j+1) fuel a (by omega) (by omega) (by omega)]
   simp
theorem zH {N:Nat} {L:List Int} {n:Nat} {t o:Bool} {K:Int→O R} (hn:n=L.length) (hs:L.length<1000000) (hN:L.length<N):Wi N (Aq L) n t o K=K (A2u L:Int):=by
 subst hn
 rw[g9];unfold QL
 have:=jk (R:=R) (N:=N) (L:=L) (t:=t) (o:=o) (K:=K) hs L.length 0 N 0 (by omega) hN (by omega)
 simp only[Int.natCast_zero,Nat.zero_add] at this
 rw[A2u,List.range_eq_range']
 exact this
def mT (gone:List Int):List (Nat×Nat)→Nat→List (Nat×Nat)
 | [],_=>[]
 | e::r,j=>cond (gone.contains (j:Int)) (mT gone r (j+1)) (e::mT gone r (j+1))
theorem zI {N:Nat} {es:List (Nat×Nat)} {gone:List Int} {n:Nat} {t o t2 o2:Bool} {K:Bool→O R} (v:es.length≤1000) (hlN:es.length<N) (hn:n≤1000) (hN:n*n+1000<N) (b:∀ e ∈ es,e.1<n∧e.2<n) (i:Es gone.length N):∀ (m j fuel:Nat) (A:List (Nat×Nat)),j+m=es.length→m<fuel→A.length≤j→(∀ e ∈ A,e.1<n∧e.2<n) →
  Fz N K (n:Int) (es.flatMap B0) es.length t o (Aq gone) gone.length t2 o2 fuel A.length (j:Int) (A.flatMap B0)=K (decide ((I3 n (A++mT gone (es.drop j) j):Int)>(I3 n es:Int)))
 | 0,j,fuel+1,A,x,_,hA,hAe=>by
  rw[Fz];unfold N6
  obtain⟨L,a1,a2,a3⟩:=mS (R:=R) (N:=N) (es:=A) (n:=n) (t:=false) (o:=true) ⟨by omega,by omega⟩ hn hN hAe
  obtain⟨L',d,k,q⟩:=mS (R:=R) (N:=N) (es:=es) (n:=n) (t:=false) (o:=o) ⟨by omega,by omega⟩ hn hN b
  have l1:=a1.len;have l2:=d.len
  rw[Iu (by omega),cf,Cx (l:=es) (by omega),mT,List.append_nil,List.take_of_length_le (by rw[eA];exact Nat.le_refl _),a3 _ _ rfl,Nat.mul_one,List.take_of_length_le (by rw[Ek];omega),zH (by omega) (by omega) (by omega),q _ _ rfl,List.take_of_length_le (by rw[Ek];omega),zH (by omega) (by omega) (by omega),s5 a1 a2 hAe,s5 d k b]
 | m+1,j,fuel+1,A,x,D,hA,hAe=>by
  rw[Fz];unfold N6
  have h:j<es.length:=by omega
  have c:=zI (N:=N) (es:=es) (gone:=gone) (n:=n) (t:=t) (o:=o) (t2:=t2) (o2:=o2) (K:=K) v hlN hn hN b i m (j+1) fuel (A++[es[j]]) (by omega) (by omega) (by simp;omega) (by
   intro e s
   rcases List.mem_append.1 s with f | f
   ·exact hAe e f
   ·simp at f;subst f;exact b _ (List.getElem_mem h))
  have u:=zI (N:=N) (es:=es) (gone:=gone) (n:=n) (t:=t) (o:=o) (t2:=t2) (o2:=o2) (K:=K) v hlN hn hN b i m (j+1) fuel A (by omega) (by omega) (by omega) hAe
  rw[Hh h,ct,QN rfl i,Ab h,ct,Int.toNat_natCast,Ay Ul _ _ h,B7 (l:=es) h,mT]
  generalize es[j]=e at *
  have d:Nat.ble 2 (List.length (B0 e++List.flatMap B0 (List.drop (j+1) es)))=true:=by rw[Bx,List.length_append,Ul];simp
  have k:List.take 2 (B0 e++List.flatMap B0 (List.drop (j+1) es))=B0 e:=List.take_left' (Ul e)
  have q:(Nat.ble (A.length+1) 140737488355328&&Nat.ble ((A.length+1)*16) 140737488355328)=true:=by rw[Bx,Bx];simp;omega
  have y:(!o||A0 (B0 e))=true:=by simp[B0,A0]
  have z:List.take 2 (setCells [(.int .i64 (0:Int)),(.int .i64 (0:Int))] 0 (B0 e))=B0 e:=rfl
  have C:List.take (A.length*2) (A.flatMap B0)++B0 e=(A++[e]).flatMap B0:=by
   rw[List.take_of_length_le (by rw[eA];exact Nat.le_refl _)];simp
  rw[d,ct,k,y,ct,Ul,show(Nat.beq 2 2&&Nat.ble 2 2)=true from rfl,ct,q,ct,z,C,Bo (by omega)]
  cases gone.contains (j:Int) with
  | true=>simp only[Bool.not_true,cond_false,cond_true];exact u
  | false =>
   simp only[Bool.not_false,cond_true,cond_false]
   rw[List.length_append] at c
   simpa using c
theorem zJ {N:Nat} {es:List (Nat×Nat)} {gone:List Int} {n m m2:Nat} {t o t2 o2:Bool} {K:Bool→O R} (c:m=es.length) (b:m2=gone.length) (d:es.length≤1000) (hlN:es.length<N) (hn:n≤1000) (hN:n*n+1000<N) (f:∀ e ∈ es,e.1<n∧e.2<n) (i:Es gone.length N) :
  Np N (n:Int) (es.flatMap B0) m t o (Aq gone) m2 t2 o2 K=K (decide ((I3 n (mT gone es 0):Int)>(I3 n es:Int))):=by
 subst c b
 rw[H_];unfold Uj
 have:=zI (R:=R) (N:=N) (es:=es) (gone:=gone) (n:=n) (t:=t) (o:=o) (t2:=t2) (o2:=o2) (K:=K) d hlN hn hN f i es.length 0 N [] (by omega) hlN (by simp) (by simp)
 simpa using this
end
end Gx.Cf

namespace Gx.Cf
open Go Go.Proofs
section
variable {R:Type}
theorem Dv {p:C1} {ok:Bool} {w:Int×Int×Int} {e:{ e:Int // e≠0 }} (h:nd p ok w e=none):p=none∧ok=true:=by
 rcases p with _ | x
 ·cases ok
  ·simp[nd] at h
  ·exact⟨rfl,rfl⟩
 ·simp[nd] at h
theorem Sk {α:Type} {f:Nat→α→C1→C1} (c:∀ j a x,f j a (some x)=some x):∀ (l:List α) (j:Nat) (p:C1),Bj f l j p=none→p=none∧∀ i (h:i<l.length),f (j+i) l[i] none=none
 | [],j,p,h=>by rw[Bj] at h;exact⟨h,fun i hi=>by simp at hi⟩
 | a::r,j,p,h=>by
  rw[Bj] at h
  obtain⟨b,d⟩:=Sk c r (j+1) _ h
  have e:p=none:=by
   rcases p with _ | x
   ·rfl
   ·rw[c] at b;cases b
  subst e
  refine⟨rfl,fun i hi=>?_⟩
  cases i with
  | zero=>simpa using b
  | succ i=>have:=d i (by simpa using hi);rw[show j+1+i=j+(i+1) by omega] at this;simpa using this
theorem eC {c:CaseD} (j:Nat) (x:BusD) (y:(Int×Int×Int)×{ e:Int // e≠0 }):Acw c j x (some y)=some y:=rfl
theorem FH {c:CaseD} (j:Nat) (x:LineD) (y:(Int×Int×Int)×{ e:Int // e≠0 }):MY c j x (some y)=some y:=rfl
theorem O9 {c:CaseD} (j:Nat) (x:StoreD) (y:(Int×Int×Int)×{ e:Int // e≠0 }):Z8 c j x (some y)=some y:=rfl
theorem Tg {c:CaseD} (j:Nat) (x:TieD) (y:(Int×Int×Int)×{ e:Int // e≠0 }):Acx c j x (some y)=some y:=rfl
theorem Wl {c:CaseD} (j:Nat) (x:UnitD) (y:(Int×Int×Int)×{ e:Int // e≠0 }):UQ c j x (some y)=some y:=by
 show cond (x.state==2) _ _=_
 cases x.state==2<;>rfl
def KC (c:CaseD):C1 :=
 let p:=aG c none
 let p:=Bj (Acw c) c.buses.l 0 p
 let p:=Bj (MY c) c.lines.l 0 p
 let p:=Bj (UQ c) c.units.l 0 p
 let p:=Bj (Z8 c) c.stores.l 0 p
 let p:=Bj (Acx c) c.ties.l 0 p
 Bj (jf c) c.outs.l 0 p
noncomputable def A1e (c:CaseD) (h:Int) (o:OutD):Bool :=
 (I3 c.buses.l.length (((A7 c h).filter fun l=>!o.lines.l.contains l).map (E6 c)):Int)==(I3 c.buses.l.length ((A7 c h).map (E6 c)):Int)
noncomputable def Ao6 (c:CaseD) (h:Int) (j:Nat) (o:OutD) (p:C1):C1:=nd p (A1e c h o) (6,j,h) A6p
noncomputable def Mn (c:CaseD):Nat→Nat→C1→C1
 | 0,_,p=>p
 | m+1,j,p=>Mn c m (j+1) (Bj (Ao6 c j) c.outs.l 0 p)
theorem Ayv {c:CaseD} {h:Int} (j:Nat) (x:OutD) (y:(Int×Int×Int)×{ e:Int // e≠0 }):Ao6 c h j x (some y)=some y:=rfl
theorem s9 {c:CaseD} {y:(Int×Int×Int)×{ e:Int // e≠0 }}:∀ (m j:Nat),Mn c m j (some y)=some y
 | 0,_=>rfl
 | m+1,j=>by rw[Mn,Bf (fun j a=>Ayv j a y)];exact s9 m (j+1)
noncomputable def Dz (c:CaseD):C1:=match KC c with
 | some x=>some x
 | none=>Mn c c.hours.toNat 0 none
structure PreV (c:CaseD):Prop where
 hours:1≤c.hours∧c.hours≤24
 nb:c.buses.l.length≤32
 nl:c.lines.l.length≤64
 no:c.outs.l.length≤64
 line:∀ x ∈ c.lines.l,0≤x.fr∧x.fr.toNat<c.buses.l.length∧0≤x.tl∧x.tl.toNat<c.buses.l.length
 out:∀ x ∈ c.outs.l,x.lines.l.length≤2
theorem eD {c:CaseD} (h:KC c=none):PreV c:=by
 unfold KC at h
 obtain⟨n,o6⟩:=Sk (fun _ _ _=>Nq) _ _ _ h
 obtain⟨q,o5⟩:=Sk (fun j a x=>Tg j a x) _ _ _ n
 obtain⟨s,o4⟩:=Sk (fun j a x=>O9 j a x) _ _ _ q
 obtain⟨t,o3⟩:=Sk (fun j a x=>Wl j a x) _ _ _ s
 obtain⟨u,o2⟩:=Sk (fun j a x=>FH j a x) _ _ _ t
 obtain⟨l,o1⟩:=Sk (fun j a x=>eC j a x) _ _ _ u
 unfold aG at l
 obtain⟨v,y⟩:=Dv l
 obtain⟨z,_⟩:=Dv v
 obtain⟨A,_⟩:=Dv z
 obtain⟨C,_⟩:=Dv A
 obtain⟨w3,e⟩:=Dv C
 obtain⟨D,b⟩:=Dv w3
 obtain⟨F,_⟩:=Dv D
 obtain⟨w0,_⟩:=Dv F
 obtain⟨_,f⟩:=Dv w0
 unfold Fb at f b
 simp at f b e y
 refine⟨f,by omega,by omega,by omega,fun x k=>?_,fun x k=>?_⟩
 ·obtain⟨i,hi,rfl⟩:=List.getElem_of_mem k
  have:=o2 i hi
  unfold MY aF at this
  obtain⟨a,_⟩:=Dv this
  obtain⟨a,_⟩:=Dv a
  obtain⟨a,_⟩:=Dv a
  obtain⟨a,_⟩:=Dv a
  obtain⟨a,_⟩:=Dv a
  obtain⟨a,_⟩:=Dv a
  obtain⟨a,_⟩:=Dv a
  obtain⟨a,_⟩:=Dv a
  obtain⟨a,m⟩:=Dv a
  obtain⟨_,d⟩:=Dv a
  unfold UP at m d
  simp at m d
  omega
 ·obtain⟨i,hi,rfl⟩:=List.getElem_of_mem k
  have:=o6 i hi
  unfold jf je at this
  obtain⟨a,_⟩:=Dv this
  obtain⟨a,_⟩:=Dv a
  obtain⟨a,_⟩:=Dv a
  obtain⟨a,_⟩:=Dv a
  obtain⟨a,_⟩:=Dv a
  obtain⟨a,_⟩:=Dv a
  obtain⟨a,_⟩:=Dv a
  obtain⟨_,d⟩:=Dv a
  simp at d
  omega
theorem PreV.lnV {c:CaseD} (v:PreV c) {h:Int} {l:Int} (i:l ∈ A7 c h):∃ x,LnV c l x:=by
 have:=Ao4 h c.lines.l 0 l i
 have h0:0≤l:=by omega
 have f:l.toNat<c.lines.l.length:=by omega
 obtain⟨a,b,d,e⟩:=v.line _ (List.getElem_mem f)
 exact⟨c.lines.l[l.toNat],h0,f,List.getElem?_eq_getElem f,a,b,d,e⟩
def w3 (p:C1):LA:=match p with
 | none=>[.int .i64 0,.int .i64 0,.int .i64 0]
 | some ((a,b,f),_)=>[.int .i64 a,.int .i64 b,.int .i64 f]
end
end Gx.Cf

namespace Gx
open Go Go.Proofs
open IntKind (wrap)
set_option maxRecDepth 100000
noncomputable section
variable {R:Type} (N:Nat)
def Um (k0:Int→LA→O R) (r0:LA→Int→O R) (c:Bool) (b:LA) (w:Int) (al:LA):O R :=
 (cond (Nat.ble 8 (b.length)) (Ck N (b.take 8) c 1 w al (fun am=>(cond (Nat.ble 8 (b.length)) (Bw 3 (b.drop 2) fun an ao=>(cond (Ah w ao) (Bw 1 ((an.drop ((w.toNat)*3)).drop 1) fun ap aq=>(Cu N (b.take 8) c ap aq false c 0 1048576 1 w 1 am (fun ar=>(Bw 3 (b.drop 2) fun au av=>(cond (Ah w av) (At .i64 ((au.drop ((w.toNat)*3)).drop 2) fun aw=>(Ap N 0 1048576 [(.int .i64 aw)] 1 false true (fun ax=>(Aa N ax 1 w 2 3 ar (fun ay=>(k0 (wrap .i64 (w+1)) ay)))))) none))))) none)) none))) none)
def Un (k7:Int→LA→O R) (k9:Int→Int→LA→O R) (r0:LA→Int→O R) (e f:Nat) (c:Bool) (b g i:LA) (k10:Int→Int→Nat→Int→LA→LA→O R) (v p:Int) (m:Nat) (q:Int) (x y:LA):O R :=
 (cond (decide (q<((f:Nat):Int))) (Bw 4 (b.drop 7) fun az ba=>(cond (Ah p ba) (Bw 1 ((az.drop ((p.toNat)*4)).drop 1) fun bb bc=>(cond (Ah q f) (At .i64 (i.drop (0+((q.toNat)*1))) fun bd=>(HU N bb bc false c bd (fun be=>(cond be (cond ((Nat.ble (m+1) 140737488355328)&&(Nat.ble ((m+1)*8) 140737488355328)) (k10 v p (m+1) (wrap .i64 (q+1)) x ((y.take (m*1))++[(.int .i64 q)])) none) (k10 v p m (wrap .i64 (q+1)) x y))))) none)) none)) (Bw 3 (b.drop 2) fun ci bf=>(Np N ((bf:Nat):Int) (g.take (e*2)) e false true (y.take (m*1)) m false true (fun bg=>(Aa N (!bg) 6 p v 13 x (fun bh=>(k9 v (wrap .i64 (p+1)) bh)))))))
def Kf (k7:Int→LA→O R) (k9:Int→Int→LA→O R) (r0:LA→Int→O R) (e f:Nat) (c:Bool) (b g i:LA):Nat→Int→Int→Nat→Int→LA→LA→O R
 | 0,_,_,_,_,_,_=>none
 | n+1,v,p,m,q,x,y=>(Un N k7 k9 r0 e f c b g i (Kf k7 k9 r0 e f c b g i n) v p m q x y)
def Xz (N:Nat) (k7:Int→LA→O R) (r0:LA→Int→O R) (e f:Nat) (c:Bool) (b g i:LA) (k9:Int→Int→LA→O R) (q10:Int→Int→Nat→Int→LA→LA→O R) (r s:Int) (t:LA):O R :=
 (Bw 4 (b.drop 7) fun cj bi=>(cond (decide (s<((bi:Nat):Int))) (q10 r s 0 0 t []) (k7 (wrap .i64 (r+1)) t)))
def Jq (k7:Int→LA→O R) (r0:LA→Int→O R) (e f:Nat) (c:Bool) (b g i:LA):Nat→Int→Int→LA→O R
 | 0,_,_,_=>none
 | n+1,r,s,t=>(Xz N k7 r0 e f c b g i (Jq k7 r0 e f c b g i n) (fun v p m q x y=>(Kf N k7 (Jq k7 r0 e f c b g i n) r0 e f c b g i N v p m q x y)) r s t)
def KD (k7:Int→LA→O R) (r0:LA→Int→O R) (c:Bool) (b:LA) (q9:Nat→Nat→LA→LA→Int→Int→LA→O R) (aj:Int) (ak:LA):O R :=
 (cond (Nat.ble 8 (b.length)) (DL N (b.take 8) c aj (fun e f g i=>(q9 e f g i aj 0 ak))) none)
def CD (k7:Int→LA→O R) (r0:LA→Int→O R) (c:Bool) (b:LA) (aj:Int) (ak:LA):O R:=(KD N k7 r0 c b (fun e f g i r s t=>(Jq N k7 r0 e f c b g i N r s t)) aj ak)
def Rf (N:Nat) (r0:LA→Int→O R) (c:Bool) (b:LA) (k7:Int→LA→O R) (q8:Int→LA→O R) (l:Int) (d:LA):O R :=
 (At .i64 b fun bj=>(cond ((decide (l<bj))==true) (At .i64 (d.drop 3) fun bk=>(cond (cond true (bk==0) false) (q8 l d) (cond (Nat.ble 3 (d.length)) (At .i64 (d.drop 3) fun bl=>(cond ((Nat.beq ((d.take 3).length) 3)&&((Nat.ble 3 3)&&(!false))) (cond (Nat.ble 3 ((setCells [(.int .i64 0),(.int .i64 0),(.int .i64 0)] 0 (d.take 3)).length)) (r0 ((setCells [(.int .i64 0),(.int .i64 0),(.int .i64 0)] 0 (d.take 3)).take 3) bl) none) none)) none))) (cond (Nat.ble 3 (d.length)) (At .i64 (d.drop 3) fun bm=>(cond ((Nat.beq ((d.take 3).length) 3)&&((Nat.ble 3 3)&&(!false))) (cond (Nat.ble 3 ((setCells [(.int .i64 0),(.int .i64 0),(.int .i64 0)] 0 (d.take 3)).length)) (r0 ((setCells [(.int .i64 0),(.int .i64 0),(.int .i64 0)] 0 (d.take 3)).take 3) bm) none) none)) none)))
def Ee (r0:LA→Int→O R) (c:Bool) (b:LA):Nat→Int→LA→O R
 | 0,_,_=>none
 | n+1,l,d=>(Rf N r0 c b (Ee r0 c b n) (fun aj ak=>(CD N (Ee r0 c b n) r0 c b aj ak)) l d)
def X0 (r0:LA→Int→O R) (c:Bool) (b:LA) (k6:Int→LA→O R) (q7:Int→LA→O R) (ae:Int) (z:LA):O R :=
 (Bw 4 (b.drop 7) fun ck bn=>(cond ((decide (ae<((bn:Nat):Int)))==true) (At .i64 (z.drop 3) fun bo=>(cond (cond true (bo==0) false) (cond (Nat.ble 8 (b.length)) (Fx N (b.take 8) c ae z (fun bp=>(k6 (wrap .i64 (ae+1)) bp))) none) (q7 0 z))) (q7 0 z)))
def Mo (r0:LA→Int→O R) (c:Bool) (b:LA):Nat→Int→LA→O R
 | 0,_,_=>none
 | n+1,ae,z=>(X0 N r0 c b (Mo r0 c b n) (fun l d=>(Ee N r0 c b N l d)) ae z)
def X1 (r0:LA→Int→O R) (c:Bool) (b:LA) (k5:Int→LA→O R) (q6:Int→LA→O R) (af:Int) (aa:LA):O R :=
 (Bw 5 (b.drop 6) fun cl bq=>(cond ((decide (af<((bq:Nat):Int)))==true) (At .i64 (aa.drop 3) fun br=>(cond (cond true (br==0) false) (cond (Nat.ble 8 (b.length)) (M7 N (b.take 8) c af aa (fun bs=>(k5 (wrap .i64 (af+1)) bs))) none) (q6 0 aa))) (q6 0 aa)))
def Mp (r0:LA→Int→O R) (c:Bool) (b:LA):Nat→Int→LA→O R
 | 0,_,_=>none
 | n+1,af,aa=>(X1 N r0 c b (Mp r0 c b n) (fun ae z=>(Mo N r0 c b N ae z)) af aa)
def X2 (r0:LA→Int→O R) (c:Bool) (b:LA) (k4:Int→LA→O R) (q5:Int→LA→O R) (ag:Int) (ab:LA):O R :=
 (Bw 9 (b.drop 5) fun cm bt=>(cond ((decide (ag<((bt:Nat):Int)))==true) (At .i64 (ab.drop 3) fun bu=>(cond (cond true (bu==0) false) (cond (Nat.ble 8 (b.length)) (Jp N (b.take 8) c ag ab (fun bv=>(k4 (wrap .i64 (ag+1)) bv))) none) (q5 0 ab))) (q5 0 ab)))
def Mq (r0:LA→Int→O R) (c:Bool) (b:LA):Nat→Int→LA→O R
 | 0,_,_=>none
 | n+1,ag,ab=>(X2 N r0 c b (Mq r0 c b n) (fun af aa=>(Mp N r0 c b N af aa)) ag ab)
def X3 (r0:LA→Int→O R) (c:Bool) (b:LA) (k3:Int→LA→O R) (q4:Int→LA→O R) (ah:Int) (ac:LA):O R :=
 (Bw 22 (b.drop 4) fun cn bw=>(cond ((decide (ah<((bw:Nat):Int)))==true) (At .i64 (ac.drop 3) fun bx=>(cond (cond true (bx==0) false) (cond (Nat.ble 8 (b.length)) (H2 N (b.take 8) c ah ac (fun bz=>(k3 (wrap .i64 (ah+1)) bz))) none) (q4 0 ac))) (q4 0 ac)))
def Mr (r0:LA→Int→O R) (c:Bool) (b:LA):Nat→Int→LA→O R
 | 0,_,_=>none
 | n+1,ah,ac=>(X3 N r0 c b (Mr r0 c b n) (fun ag ab=>(Mq N r0 c b N ag ab)) ah ac)
def X4 (r0:LA→Int→O R) (c:Bool) (b:LA) (k2:Int→LA→O R) (q3:Int→LA→O R) (ai:Int) (ad:LA):O R :=
 (Bw 12 (b.drop 3) fun co ca=>(cond ((decide (ai<((ca:Nat):Int)))==true) (At .i64 (ad.drop 3) fun cb=>(cond (cond true (cb==0) false) (cond (Nat.ble 8 (b.length)) (H1 N (b.take 8) c ai ad (fun cc=>(k2 (wrap .i64 (ai+1)) cc))) none) (q3 0 ad))) (q3 0 ad)))
def Ms (r0:LA→Int→O R) (c:Bool) (b:LA):Nat→Int→LA→O R
 | 0,_,_=>none
 | n+1,ai,ad=>(X4 N r0 c b (Ms r0 c b n) (fun ah ac=>(Mr N r0 c b N ah ac)) ai ad)
def X5 (N:Nat) (r0:LA→Int→O R) (c:Bool) (b:LA) (k0:Int→LA→O R) (q1:Int→LA→O R) (q2:Int→LA→O R) (u:Int) (o:LA):O R :=
 (Bw 3 (b.drop 2) fun cp cd=>(cond ((decide (u<((cd:Nat):Int)))==true) (At .i64 (o.drop 3) fun ce=>(cond (cond true (ce==0) false) (q1 u o) (q2 0 o))) (q2 0 o)))
def Jr (r0:LA→Int→O R) (c:Bool) (b:LA):Nat→Int→LA→O R
 | 0,_,_=>none
 | n+1,u,o=>(X5 N r0 c b (Jr r0 c b n) (fun w al=>(Um N (Jr r0 c b n) r0 c b w al)) (fun ai ad=>(Ms N r0 c b N ai ad)) u o)
def QZ (r0:LA→Int→O R) (q0:Int→LA→O R) (b:LA) (c:Bool):O R :=
 (cond (Nat.ble 8 (b.length)) (Gp N (b.take 8) c [(.int .i64 0),(.int .i64 0),(.int .i64 0),(.int .i64 0)] (fun cf=>(q0 0 cf))) none)
def Wm:=(Ai (fun (N:Nat) (b:LA) (c:Bool) (r0:LA→Int→O R)=>(QZ N r0 (fun u o=>(Jr N r0 c b N u o)) b c))).1
theorem ge (b c r0):(@Wm R N b c r0)=(QZ N r0 (fun u o=>(Jr N r0 c b N u o)) b c):=by rw[Wm,(Ai _).2]
def mU:Hints:={ H:=(hS hL (hS hL (hS hL (hS (hS hL (hS (hP [1,2,4,5] (hJ [1,2,4,5] hL hL)) hL)) (hS (hS hL (hS (hP [1,2,4,6] hL) hL)) (hS (hS hL (hS (hP [1,2,4,7] hL) hL)) (hS (hS hL (hS (hP [1,2,4,8] hL) hL)) (hS (hS hL (hS (hP [1,2,4,9] hL) hL)) (hS (hS hL (hS (hP [1,2,4,10] hL) hL)) (hS (hS hL (hS (hP [1,2,4,11] (hJ [1,2,4,11] hL (hS (hS (hS hL (hS hL (hS (hP [1,2,4,11,12,13,14] (hS hL (hS (hS (hS hL (hS (hS hL (hS (hP [1,2,4,11,12,13,14,15,16] hL) hL)) hL)) hL) hL))) hL))) hL) hL))) hL)) hL)))))))))),nils:=[(15,1)],modes:=[(3,0),(0,0)] }
def s_:Gm:=[(158,ZX N),(159,Fd N),(160,Nw N),(162,Dm N),(161,Bs N),(163,fD N),(164,fJ N),(165,aI N),(166,jg N),(167,WW N),(168,Ajq N),(169,jb N),(170,qJ N)]
def E7 (F:KF R):=Ki Tryz.f103 mU (s_ N) [] N F
def Bb (F:KF R):LA→Int→O R:=(fun cg ch=>F (.tup [(.pagg cg false),(iv ch)]) [])
def Aj0 (c:Bool) (b:LA) (w:Int) (al:LA):St:=⟨[(1,(op 0)),(2,(op 1)),(4,(op 2)),(5,(iv w))],(hq [(bP c 0 b),(bQ 0 [(iv 0),(iv 0),(iv 0)]),(bQ 0 al)])⟩
def Aj1 (F:KF R) (Q0:St→O R):=E7 N F [1,1,1,0,1,0,0,1] [Q0]
def Acz (e f:Nat) (c:Bool) (b g i:LA) (v p:Int) (m:Nat) (q:Int) (x y:LA):St:=⟨[(1,(op 0)),(2,(op 1)),(4,(op 2)),(11,(iv v)),(12,(.own 300003 0 e)),(13,(.own 300004 0 f)),(14,(iv p)),(15,(.own 300005 0 m)),(16,(iv q))],(hq [(bP c 0 b),(bQ 0 [(iv 0),(iv 0),(iv 0)]),(bQ 0 x),(bQ 2 g),(bQ 1 i),(bQ 1 y)])⟩
def Ac0 (F:KF R) (Q7 Q9:St→O R):=E7 N F [1,1,1,1,1,1,1,1,1,0,1,0,0,1,0,0,1,1,0,0,1,0,0,1,0,1,0] [Q7,Q9]
def Q_ (e f:Nat) (c:Bool) (b g i:LA) (r s:Int) (t:LA):St:=⟨[(1,(op 0)),(2,(op 1)),(4,(op 2)),(11,(iv r)),(12,(.own 300003 0 e)),(13,(.own 300004 0 f)),(14,(iv s))],(hq [(bP c 0 b),(bQ 0 [(iv 0),(iv 0),(iv 0)]),(bQ 0 t),(bQ 2 g),(bQ 1 i)])⟩
def mV (F:KF R) (Q7:St→O R):=E7 N F [1,1,1,1,1,1,1,1,1,0,1,0,0,1,0,0,1,1,0] [Q7]
def Aj2 (c:Bool) (b:LA) (aj:Int) (ak:LA):St:=⟨[(1,(op 0)),(2,(op 1)),(4,(op 2)),(11,(iv aj))],(hq [(bP c 0 b),(bQ 0 [(iv 0),(iv 0),(iv 0)]),(bQ 0 ak)])⟩
def Aj3 (F:KF R) (Q7:St→O R):=E7 N F [1,1,1,1,1,1,1,1,1,0,1,0,0,1] [Q7]
def Js (c:Bool) (b:LA) (l:Int) (d:LA):St:=⟨[(1,(op 0)),(2,(op 1)),(4,(op 2)),(11,(iv l))],(hq [(bP c 0 b),(bQ 0 [(iv 0),(iv 0),(iv 0)]),(bQ 0 d)])⟩
def mW (F:KF R):=E7 N F [1,1,1,1,1,1,1,1,1,0,1,0] []
def Aj4 (c:Bool) (b:LA) (ae:Int) (z:LA):St:=⟨[(1,(op 0)),(2,(op 1)),(4,(op 2)),(10,(iv ae))],(hq [(bP c 0 b),(bQ 0 [(iv 0),(iv 0),(iv 0)]),(bQ 0 z)])⟩
def Aj5 (F:KF R):=E7 N F [1,1,1,1,1,1,1,1,0,1,0] []
def Aj6 (c:Bool) (b:LA) (af:Int) (aa:LA):St:=⟨[(1,(op 0)),(2,(op 1)),(4,(op 2)),(9,(iv af))],(hq [(bP c 0 b),(bQ 0 [(iv 0),(iv 0),(iv 0)]),(bQ 0 aa)])⟩
def Aj7 (F:KF R):=E7 N F [1,1,1,1,1,1,1,0,1,0] []
def Aj8 (c:Bool) (b:LA) (ag:Int) (ab:LA):St:=⟨[(1,(op 0)),(2,(op 1)),(4,(op 2)),(8,(iv ag))],(hq [(bP c 0 b),(bQ 0 [(iv 0),(iv 0),(iv 0)]),(bQ 0 ab)])⟩
def Aj9 (F:KF R):=E7 N F [1,1,1,1,1,1,0,1,0] []
def Aka (c:Bool) (b:LA) (ah:Int) (ac:LA):St:=⟨[(1,(op 0)),(2,(op 1)),(4,(op 2)),(7,(iv ah))],(hq [(bP c 0 b),(bQ 0 [(iv 0),(iv 0),(iv 0)]),(bQ 0 ac)])⟩
def Akb (F:KF R):=E7 N F [1,1,1,1,1,0,1,0] []
def Akc (c:Bool) (b:LA) (ai:Int) (ad:LA):St:=⟨[(1,(op 0)),(2,(op 1)),(4,(op 2)),(6,(iv ai))],(hq [(bP c 0 b),(bQ 0 [(iv 0),(iv 0),(iv 0)]),(bQ 0 ad)])⟩
def Akd (F:KF R):=E7 N F [1,1,1,1,0,1,0] []
def mX (c:Bool) (b:LA) (u:Int) (o:LA):St:=⟨[(1,(op 0)),(2,(op 1)),(4,(op 2)),(5,(iv u))],(hq [(bP c 0 b),(bQ 0 [(iv 0),(iv 0),(iv 0)]),(bQ 0 o)])⟩
def mY (F:KF R):=E7 N F [1,1,1,0,1,0] []
theorem vD (Q0:St→O R) (F:KF R) (c:Bool) (b:LA):∀ (w:Int) (al:LA),B8 (Aj1 N F Q0) (Aj0 c b w al)=(Um N (fun u o=>Q0 (mX c b u o)) (Bb F) c b w al):=by
 intro w al
 kernel_rfl
theorem NJ (Q7 Q9:St→O R) (F:KF R) (e f:Nat) (c:Bool) (b g i:LA):∀ (n:Nat) (v p:Int) (m:Nat) (q:Int) (x y:LA),Ak (Ac0 N F Q7 Q9) n (Acz e f c b g i v p m q x y)=(Kf N (fun l d=>Q7 (Js c b l d)) (fun r s t=>Q9 (Q_ e f c b g i r s t)) (Bb F) e f c b g i n v p m q x y)
 | 0,_,_,_,_,_,_=>by kernel_rfl
 | n+1,v,p,m,q,x,y=>Eq.trans (by kernel_rfl) (Bv (Un N (fun l d=>Q7 (Js c b l d)) (fun r s t=>Q9 (Q_ e f c b g i r s t)) (Bb F) e f c b g i · v p m q x y) (funext fun v=>funext fun p=>funext fun m=>funext fun q=>funext fun x=>funext fun y=>(NJ Q7 Q9 F e f c b g i n v p m q x y)):_)
theorem UT (Q7:St→O R) (F:KF R) (e f:Nat) (c:Bool) (b g i:LA):∀ (n:Nat) (r s:Int) (t:LA),Ak (mV N F Q7) n (Q_ e f c b g i r s t)=(Jq N (fun l d=>Q7 (Js c b l d)) (Bb F) e f c b g i n r s t)
 | 0,_,_,_=>by kernel_rfl
 | n+1,r,s,t=>have e0:=(funext fun r=>funext fun s=>funext fun t=>(UT Q7 F e f c b g i n r s t))
  Eq.trans (by kernel_rfl) (PQ (Xz N (fun l d=>Q7 (Js c b l d)) (Bb F) e f c b g i · · r s t) e0 (funext fun v=>funext fun p=>funext fun m=>funext fun q=>funext fun x=>funext fun y=>(Ac ..).trans ((NJ N Q7 (Ak (mV N F Q7) n) F e f c b g i N v p m q x y).trans (Bv (Kf N (fun l d=>Q7 (Js c b l d)) · (Bb F) e f c b g i N v p m q x y) e0))):_)
theorem vE (Q7:St→O R) (F:KF R) (c:Bool) (b:LA):∀ (aj:Int) (ak:LA),B8 (Aj3 N F Q7) (Aj2 c b aj ak)=(CD N (fun l d=>Q7 (Js c b l d)) (Bb F) c b aj ak):=by
 intro aj ak
 exact Eq.trans (by kernel_rfl) (Bv (KD N (fun l d=>Q7 (Js c b l d)) (Bb F) c b · aj ak) (funext fun e=>funext fun f=>funext fun g=>funext fun i=>funext fun r=>funext fun s=>funext fun t=>(Ac ..).trans (UT N Q7 F e f c b g i N r s t)):_)
theorem UU (F:KF R) (c:Bool) (b:LA):∀ (n:Nat) (l:Int) (d:LA),Ak (mW N F) n (Js c b l d)=(Ee N (Bb F) c b n l d)
 | 0,_,_=>by kernel_rfl
 | n+1,l,d=>have e0:=(funext fun l=>funext fun d=>(UU F c b n l d))
  Eq.trans (by kernel_rfl) (PQ (Rf N (Bb F) c b · · l d) e0 (funext fun aj=>funext fun ak=>(A2 ..).trans ((vE N (Ak (mW N F) n) F c b aj ak).trans (Bv (CD N · (Bb F) c b aj ak) e0))):_)
theorem UV (F:KF R) (c:Bool) (b:LA):∀ (n:Nat) (ae:Int) (z:LA),Ak (Aj5 N F) n (Aj4 c b ae z)=(Mo N (Bb F) c b n ae z)
 | 0,_,_=>by kernel_rfl
 | n+1,ae,z=>Eq.trans (by kernel_rfl) (PQ (X0 N (Bb F) c b · · ae z) (funext fun ae=>funext fun z=>(UV F c b n ae z)) (funext fun l=>funext fun d=>(Ac ..).trans (UU N F c b N l d)):_)
theorem UW (F:KF R) (c:Bool) (b:LA):∀ (n:Nat) (af:Int) (aa:LA),Ak (Aj7 N F) n (Aj6 c b af aa)=(Mp N (Bb F) c b n af aa)
 | 0,_,_=>by kernel_rfl
 | n+1,af,aa=>Eq.trans (by kernel_rfl) (PQ (X1 N (Bb F) c b · · af aa) (funext fun af=>funext fun aa=>(UW F c b n af aa)) (funext fun ae=>funext fun z=>(Ac ..).trans (UV N F c b N ae z)):_)
theorem UX (F:KF R) (c:Bool) (b:LA):∀ (n:Nat) (ag:Int) (ab:LA),Ak (Aj9 N F) n (Aj8 c b ag ab)=(Mq N (Bb F) c b n ag ab)
 | 0,_,_=>by kernel_rfl
 | n+1,ag,ab=>Eq.trans (by kernel_rfl) (PQ (X2 N (Bb F) c b · · ag ab) (funext fun ag=>funext fun ab=>(UX F c b n ag ab)) (funext fun af=>funext fun aa=>(Ac ..).trans (UW N F c b N af aa)):_)
theorem UY (F:KF R) (c:Bool) (b:LA):∀ (n:Nat) (ah:Int) (ac:LA),Ak (Akb N F) n (Aka c b ah ac)=(Mr N (Bb F) c b n ah ac)
 | 0,_,_=>by kernel_rfl
 | n+1,ah,ac=>Eq.trans (by kernel_rfl) (PQ (X3 N (Bb F) c b · · ah ac) (funext fun ah=>funext fun ac=>(UY F c b n ah ac)) (funext fun ag=>funext fun ab=>(Ac ..).trans (UX N F c b N ag ab)):_)
theorem UZ (F:KF R) (c:Bool) (b:LA):∀ (n:Nat) (ai:Int) (ad:LA),Ak (Akd N F) n (Akc c b ai ad)=(Ms N (Bb F) c b n ai ad)
 | 0,_,_=>by kernel_rfl
 | n+1,ai,ad=>Eq.trans (by kernel_rfl) (PQ (X4 N (Bb F) c b · · ai ad) (funext fun ai=>funext fun ad=>(UZ F c b n ai ad)) (funext fun ah=>funext fun ac=>(Ac ..).trans (UY N F c b N ah ac)):_)
theorem U_ (F:KF R) (c:Bool) (b:LA):∀ (n:Nat) (u:Int) (o:LA),Ak (mY N F) n (mX c b u o)=(Jr N (Bb F) c b n u o)
 | 0,_,_=>by kernel_rfl
 | n+1,u,o=>have e0:=(funext fun u=>funext fun o=>(U_ F c b n u o))
  Eq.trans (by kernel_rfl) (A5y (X5 N (Bb F) c b · · · u o) e0 (funext fun w=>funext fun al=>(A2 ..).trans ((vD N (Ak (mY N F) n) F c b w al).trans (Bv (Um N · (Bb F) c b w al) e0))) (funext fun ai=>funext fun ad=>(Ac ..).trans (UZ N F c b N ai ad)):_)
theorem mZ (b:LA) (c:Bool) (F:KF R):C7 (s_ N) mU N 103 [(.pagg b c)] [] F=(Wm N b c (Bb F)):=by
 rw[ge]
 exact Eq.trans (by kernel_rfl) (Bv (QZ N (Bb F) · b c) (funext fun u=>funext fun o=>(Ac ..).trans (U_ N F c b N u o)):_)
def gf (a:LA) (h:Aj) (k:KF R):O R :=
 match a,h with
 | [(.pagg b c)],[]=>(Wm N b c (Bb k))
 | _,_=>none
theorem m0:An N 103 @gf:=by
 intro R Q a h k j;unfold gf;split;exact A3 (mZ ..) (mZ ..) ⟨ZY N,Fe N,Nx N,Dn N,Bt N,fE N,fK N,aJ N,jh N,WX N,Ajr N,jc N,qK N,trivial⟩;exact A5
def m7:=A4 (m0 N)
def m8:=C8 (m0 N)
end
end Gx

namespace Gx.Cf
open Go Go.Proofs
section
variable {R:Type}
theorem A1f {N:Nat} {c:CaseD} {p:C1} {o:Bool} {j:Nat} {K:Int→LA→O R} {K2:LA→Int→O R} (hs:Small c N) (h:j<c.buses.l.length) :
  Um N K K2 o c.av (j:Int) (Di p)=K ((j+1:Nat):Int) (Di (Acw c j c.buses.l[j] p)):=by
 have hN:=hs.n64
 have hN8:8≤N:=by omega
 have d:=hs.bus
 have m:c.buses.l[j] ∈ c.buses.l:=List.getElem_mem h
 have q:=hs.dem _ m
 have e:=@D4 R N c (c.buses.l.map (·.name)) o (k:=1) (n:=j) (hN:=hN) (hL:=fun K=>Ao3 hs) (hn:=by simpa using h) (hs:=⟨by have:=d.1;omega,by have:=d.2;omega⟩)
 have i:(c.buses.l.map (·.name))[j]'(by simpa using h)=c.buses.l[j].name:=by simp
 rw[i] at e
 unfold Um
 simp only[F1,Co,ct,e,Ii]
 rw[Ab h,ct,Int.toNat_natCast,Ay K8 _ _ h]
 generalize c.buses.l[j]=b at *
 have s:∀ (r:LA) (f:LA→Nat→O R),Bw 1 (List.drop 1 (b.av++r)) f=f (Aq b.demand.l) b.demand.l.length:=fun r f=>by simp[BusD.av,D6,Fa]
 have t:∀ (r:LA) (f:Int→O R),At .i64 (List.drop 2 (b.av++r)) f=f b.shed:=fun r f=>by simp[BusD.av,A6]
 rw[s,En rfl q,ct,t,Ed hN8,Ae (by decide),Bo (by have:=d.2;omega)]
 rfl
theorem Ake {p:C1} {K:LA→Int→O R}:(cond (Nat.ble 3 (List.length (Di p))) (At .i64 (List.drop 3 (Di p)) fun x38=>(cond ((Nat.beq (List.length (List.take 3 (Di p))) 3)&&((Nat.ble 3 3)&&(!false))) (cond (Nat.ble 3 (List.length (setCells [(.int .i64 (0:Int)),(.int .i64 (0:Int)),(.int .i64 (0:Int))] 0 (List.take 3 (Di p))))) (K (List.take 3 (setCells [(.int .i64 (0:Int)),(.int .i64 (0:Int)),(.int .i64 (0:Int))] 0 (List.take 3 (Di p)))) x38) none) none)) none)=K (w3 p) (Bp p):=by
 rcases p with _ | ⟨⟨a,b,f⟩,e,c⟩<;>simp[Di,LO,w3,Bp,Bx,setCells,Cy,A6]
theorem sa {N:Nat} {c:CaseD} {o:Bool} {K:LA→Int→O R} (hs:Small c N):∀ (m j fuel:Nat) (p:C1),j+m=c.buses.l.length→m<fuel →
  Jr N K o c.av fuel (j:Int) (Di p)=Ms N K o c.av N 0 (Di (Bj (Acw c) (c.buses.l.drop j) j p))
 | 0,j,fuel+1,p,d,_=>by
  rw[Jr];unfold X5
  rw[Ii,Iu (by omega),Cx (l:=c.buses.l) (by omega),Bj];rfl
 | m+1,j,fuel+1,p,d,k=>by
  rw[Jr];unfold X5
  have h:j<c.buses.l.length:=by omega
  have b:=hs.bus
  rw[Ii,Hh h,KB,B7 (l:=c.buses.l) h,Bj]
  rcases p with _ | ⟨x,e,f⟩
  ·simp only[Bp,beq_self_eq_true,cond_true]
   rw[A1f hs h,sa hs m (j+1) fuel _ (by omega) (by omega)]
  ·have i:(e==0)=false:=by simpa using f
   simp only[Bp,i,beq_self_eq_true,cond_true,cond_false]
   rw[eC,Bf (fun _ _=>eC _ _ _)]
theorem sb {N:Nat} {c:CaseD} {o:Bool} {K:LA→Int→O R} (hs:Small c N):∀ (m j fuel:Nat) (p:C1),j+m=c.lines.l.length→m<fuel →
  Ms N K o c.av fuel (j:Int) (Di p)=Mr N K o c.av N 0 (Di (Bj (MY c) (c.lines.l.drop j) j p))
 | 0,j,fuel+1,p,d,_=>by
  rw[Ms];unfold X4
  rw[Gf,Iu (by omega),Cx (l:=c.lines.l) (by omega),Bj];rfl
 | m+1,j,fuel+1,p,d,k=>by
  rw[Ms];unfold X4
  have h:j<c.lines.l.length:=by omega
  have b:=hs.lin
  rw[Gf,Hh h,KB,B7 (l:=c.lines.l) h,Bj]
  rcases p with _ | ⟨x,e,f⟩
  ·simp only[Bp,beq_self_eq_true,cond_true]
   rw[F1,ct,Co,WZ hs h,Bo (by have:=b.2;omega),sb hs m (j+1) fuel _ (by omega) (by omega)]
  ·have i:(e==0)=false:=by simpa using f
   simp only[Bp,i,beq_self_eq_true,cond_true,cond_false]
   rw[FH,Bf (fun _ _=>FH _ _ _)]
theorem sc {N:Nat} {c:CaseD} {o:Bool} {K:LA→Int→O R} (hs:Small c N):∀ (m j fuel:Nat) (p:C1),j+m=c.units.l.length→m<fuel →
  Mr N K o c.av fuel (j:Int) (Di p)=Mq N K o c.av N 0 (Di (Bj (UQ c) (c.units.l.drop j) j p))
 | 0,j,fuel+1,p,d,_=>by
  rw[Mr];unfold X3
  rw[Ft,Iu (by omega),Cx (l:=c.units.l) (by omega),Bj];rfl
 | m+1,j,fuel+1,p,d,k=>by
  rw[Mr];unfold X3
  have h:j<c.units.l.length:=by omega
  have b:=hs.uni
  rw[Ft,Hh h,KB,B7 (l:=c.units.l) h,Bj]
  rcases p with _ | ⟨x,e,f⟩
  ·simp only[Bp,beq_self_eq_true,cond_true]
   rw[F1,ct,Co,W_ hs h,Bo (by have:=b.2;omega),sc hs m (j+1) fuel _ (by omega) (by omega)]
  ·have i:(e==0)=false:=by simpa using f
   simp only[Bp,i,beq_self_eq_true,cond_true,cond_false]
   rw[Wl,Bf (fun _ _=>Wl _ _ _)]
theorem sd {N:Nat} {c:CaseD} {o:Bool} {K:LA→Int→O R} (hs:Small c N):∀ (m j fuel:Nat) (p:C1),j+m=c.stores.l.length→m<fuel →
  Mq N K o c.av fuel (j:Int) (Di p)=Mp N K o c.av N 0 (Di (Bj (Z8 c) (c.stores.l.drop j) j p))
 | 0,j,fuel+1,p,d,_=>by
  rw[Mq];unfold X2
  rw[Wj,Iu (by omega),Cx (l:=c.stores.l) (by omega),Bj];rfl
 | m+1,j,fuel+1,p,d,k=>by
  rw[Mq];unfold X2
  have h:j<c.stores.l.length:=by omega
  have b:=hs.sto
  rw[Wj,Hh h,KB,B7 (l:=c.stores.l) h,Bj]
  rcases p with _ | ⟨x,e,f⟩
  ·simp only[Bp,beq_self_eq_true,cond_true]
   rw[F1,ct,Co,QW hs h,Bo (by have:=b.2;omega),sd hs m (j+1) fuel _ (by omega) (by omega)]
  ·have i:(e==0)=false:=by simpa using f
   simp only[Bp,i,beq_self_eq_true,cond_true,cond_false]
   rw[O9,Bf (fun _ _=>O9 _ _ _)]
theorem se {N:Nat} {c:CaseD} {o:Bool} {K:LA→Int→O R} (hs:Small c N):∀ (m j fuel:Nat) (p:C1),j+m=c.ties.l.length→m<fuel →
  Mp N K o c.av fuel (j:Int) (Di p)=Mo N K o c.av N 0 (Di (Bj (Acx c) (c.ties.l.drop j) j p))
 | 0,j,fuel+1,p,d,_=>by
  rw[Mp];unfold X1
  rw[QO,Iu (by omega),Cx (l:=c.ties.l) (by omega),Bj];rfl
 | m+1,j,fuel+1,p,d,k=>by
  rw[Mp];unfold X1
  have h:j<c.ties.l.length:=by omega
  have b:=hs.tie
  rw[QO,Hh h,KB,B7 (l:=c.ties.l) h,Bj]
  rcases p with _ | ⟨x,e,f⟩
  ·simp only[Bp,beq_self_eq_true,cond_true]
   rw[F1,ct,Co,aK hs h,Bo (by have:=b.2;omega),se hs m (j+1) fuel _ (by omega) (by omega)]
  ·have i:(e==0)=false:=by simpa using f
   simp only[Bp,i,beq_self_eq_true,cond_true,cond_false]
   rw[Tg,Bf (fun _ _=>Tg _ _ _)]
theorem sf {N:Nat} {c:CaseD} {o:Bool} {K:LA→Int→O R} (hs:Small c N):∀ (m j fuel:Nat) (p:C1),j+m=c.outs.l.length→m<fuel →
  Mo N K o c.av fuel (j:Int) (Di p)=Ee N K o c.av N 0 (Di (Bj (jf c) (c.outs.l.drop j) j p))
 | 0,j,fuel+1,p,d,_=>by
  rw[Mo];unfold X0
  rw[Xy,Iu (by omega),Cx (l:=c.outs.l) (by omega),Bj];rfl
 | m+1,j,fuel+1,p,d,k=>by
  rw[Mo];unfold X0
  have h:j<c.outs.l.length:=by omega
  have b:=hs.out
  rw[Xy,Hh h,KB,B7 (l:=c.outs.l) h,Bj]
  rcases p with _ | ⟨x,e,f⟩
  ·simp only[Bp,beq_self_eq_true,cond_true]
   rw[F1,ct,Co,NI hs h,Bo (by have:=b.2;omega),sf hs m (j+1) fuel _ (by omega) (by omega)]
  ·have i:(e==0)=false:=by simpa using f
   simp only[Bp,i,beq_self_eq_true,cond_true,cond_false]
   rw[Nq,Bf (fun _ _=>Nq)]
def FI (ol:List Int):List Int→Nat→List Int
 | [],_=>[]
 | a::r,j=>cond (ol.contains a) ((j:Int)::FI ol r (j+1)) (FI ol r (j+1))
theorem Ao7 (ol:List Int):∀ (l:List Int) (j:Nat) (x:Int),x ∈ FI ol l j→(j:Int)≤x
 | [],_,_,h=>by simp[FI] at h
 | a::r,j,x,h=>by
  rw[FI] at h
  have b:=Ao7 ol r (j+1) x
  cases c:ol.contains a<;>rw[c] at h<;>simp at h
  ·have:=b h;omega
  ·rcases h with rfl | h
   ·omega
   ·have:=b h;omega
theorem qM {f:Int→Nat×Nat} (ol:List Int):∀ (l:List Int) (j:Nat) (pre:List Int),(∀ x ∈ pre,x<(j:Int))→mT (pre++FI ol l j) (l.map f) j=((l.filter fun a=>!ol.contains a).map f)
 | [],_,_,_=>rfl
 | a::r,j,pre,e=>by
  rw[List.map_cons,mT,FI,List.filter_cons]
  have c:¬ (j:Int) ∈ pre:=fun h=>by have:=e _ h;omega
  cases k:ol.contains a with
  | true =>
   have i:(pre++cond true ((j:Int)::FI ol r (j+1)) (FI ol r (j+1))).contains (j:Int)=true:=by simp
   rw[i]
   have:=qM (f:=f) ol r (j+1) (pre++[(j:Int)]) (by
    intro x b
    rcases List.mem_append.1 b with d | d
    ·have:=e x d;omega
    ·simp at d;omega)
   simp only[cond_true,Bool.not_true,Bool.false_eq_true,if_false]
   rw[←this];simp
  | false =>
   have i:(pre++cond false ((j:Int)::FI ol r (j+1)) (FI ol r (j+1))).contains (j:Int)=false:=by
    simp only[cond_false]
    rw[List.contains_eq_mem]
    simp only[decide_eq_false_iff_not,List.mem_append,not_or]
    exact⟨c,fun d=>by have:=Ao7 ol r (j+1) _ d;omega⟩
   rw[i]
   have:=qM (f:=f) ol r (j+1) pre (by intro x b;have:=e x b;omega)
   simp only[cond_false,Bool.not_false,if_true,List.map_cons]
   rw[this]
theorem Q' {N:Nat} {c:CaseD} {o:Bool} {hr:Int} {j:Nat} {p:C1} {K7:Int→LA→O R} {K9:Int→Int→LA→O R} {K:LA→Int→O R} (hs:Small c N) (hN:4096≤N) (v:PreV c) (h:j<c.outs.l.length):∀ (m q fuel:Nat) (A:List Int),q+m=(A7 c hr).length→m<fuel→A.length≤q →
  A++FI c.outs.l[j].lines.l ((A7 c hr).drop q) q=FI c.outs.l[j].lines.l (A7 c hr) 0 →
  Kf N K7 K9 K (A7 c hr).length (A7 c hr).length o c.av (((A7 c hr).map (E6 c)).flatMap B0) (Aq (A7 c hr)) fuel hr (j:Int) A.length (q:Int) (Di p) (Aq A)=K9 hr ((j+1:Nat):Int) (Di (Ao6 c hr j c.outs.l[j] p))
 | 0,q,fuel+1,A,hq,_,hA,b=>by
  rw[Kf];unfold Un
  have C:=FG hr c.lines.l 0
  have D:=v.nl
  have i:=v.nb
  have k:=hs.out
  have L:c.buses.l.length*c.buses.l.length≤32*32:=Nat.mul_le_mul i i
  have n:(A7 c hr).length≤64:=by unfold A7;omega
  rw[Cx (l:=A7 c hr) (by omega),FI,List.append_nil] at b
  have u:∀ e ∈ (A7 c hr).map (E6 c),e.1<c.buses.l.length∧e.2<c.buses.l.length:=by
   intro e u
   simp only[List.mem_map] at u
   obtain⟨l,F,rfl⟩:=u
   obtain⟨x,d⟩:=v.lnV F
   rw[dz d];exact⟨d.f1,d.t1⟩
  rw[Iu (by omega),cf,Ii,List.take_of_length_le (by rw[eA];simp),Nat.mul_one,List.take_of_length_le (by rw[Ek];exact Nat.le_refl _),
   zJ (by simp) rfl (by simp;omega) (by simp;omega) (by omega) (by omega) u ⟨by omega,by omega⟩,Ae (by decide),Bo (by have:=k.2;omega)]
  have e1:mT A ((A7 c hr).map (E6 c)) 0=(((A7 c hr).filter fun a=>!c.outs.l[j].lines.l.contains a).map (E6 c)):=by
   rw[b]
   have:=qM (f:=E6 c) c.outs.l[j].lines.l (A7 c hr) 0 [] (by simp)
   simpa using this
  rw[e1]
  have G:I3 c.buses.l.length ((A7 c hr).map (E6 c))≤I3 c.buses.l.length (((A7 c hr).filter fun a=>!c.outs.l[j].lines.l.contains a).map (E6 c)):=At3 (by
   intro e s
   simp only[List.mem_map,List.mem_filter] at s ⊢
   obtain⟨l,⟨F,_⟩,rfl⟩:=s
   exact⟨l,F,rfl⟩)
  have M:(!decide ((I3 c.buses.l.length (((A7 c hr).filter fun a=>!c.outs.l[j].lines.l.contains a).map (E6 c)):Int)>(I3 c.buses.l.length ((A7 c hr).map (E6 c)):Int)))=A1e c hr c.outs.l[j]:=by
   unfold A1e
   generalize I3 c.buses.l.length ((A7 c hr).map (E6 c))=x at *
   generalize I3 c.buses.l.length (((A7 c hr).filter fun a=>!c.outs.l[j].lines.l.contains a).map (E6 c))=y at *
   by_cases I:x=y
   ·subst I;simp
   ·have a1:((y:Int)==(x:Int))=false:=by simp;omega
    rw[a1];simp;omega
  rw[M];rfl
 | m+1,q,fuel+1,A,hq,Y,hA,b=>by
  rw[Kf];unfold Un
  have t:q<(A7 c hr).length:=by omega
  have C:=FG hr c.lines.l 0
  have D:=v.nl
  have n:(A7 c hr).length≤64:=by unfold A7;omega
  have S:c.outs.l[j] ∈ c.outs.l:=List.getElem_mem h
  have T:=hs.oli _ S
  have U:∀ (f:LA→Nat→O R),Bw 1 (List.drop 1 (List.drop (j*4) (List.flatMap OutD.av c.outs.l))) f=f (Aq c.outs.l[j].lines.l) c.outs.l[j].lines.l.length:=fun f=>by rw[Ay Db _ _ h];simp[OutD.av,D6,Fa]
  have V:(Nat.ble (A.length+1) 140737488355328&&Nat.ble ((A.length+1)*8) 140737488355328)=true:=by rw[Bx,Bx];simp;omega
  have X:List.take (A.length*1) (Aq A)++[.int .i64 (q:Int)]=Aq (A++[(q:Int)]):=ve (B:=[(q:Int)]) rfl
  rw[Hh t,ct,Xy,Ab h,ct,Int.toNat_natCast,U,Ab t,ct,zE (by simpa using t),Int.toNat_natCast,QX t,QN rfl T,V,ct,X,Bo (by omega)]
  rw[B7 t,FI] at b
  cases d:c.outs.l[j].lines.l.contains (A7 c hr)[q] with
  | true =>
   rw[d] at b
   have z:=Q' (o:=o) (hr:=hr) (j:=j) (p:=p) (K7:=K7) (K9:=K9) (K:=K) hs hN v h m (q+1) fuel (A++[(q:Int)]) (by omega) (by omega) (by simp;omega) (by simpa using b)
   rw[List.length_append] at z
   simpa using z
  | false =>
   rw[d] at b
   have z:=Q' (o:=o) (hr:=hr) (j:=j) (p:=p) (K7:=K7) (K9:=K9) (K:=K) hs hN v h m (q+1) fuel A (by omega) (by omega) (by omega) (by simpa using b)
   simpa using z
theorem sh {N:Nat} {c:CaseD} {o:Bool} {hr:Int} {K7:Int→LA→O R} {K:LA→Int→O R} (hs:Small c N) (hN:4096≤N) (v:PreV c):∀ (m j fuel:Nat) (p:C1),j+m=c.outs.l.length→m<fuel →
  Jq N K7 K (A7 c hr).length (A7 c hr).length o c.av (((A7 c hr).map (E6 c)).flatMap B0) (Aq (A7 c hr)) fuel hr (j:Int) (Di p)=K7 (IntKind.wrap .i64 (hr+1)) (Di (Bj (Ao6 c hr) (c.outs.l.drop j) j p))
 | 0,j,fuel+1,p,b,_=>by
  rw[Jq];unfold Xz
  rw[Xy,Iu (by omega),cf,Cx (l:=c.outs.l) (by omega),Bj]
 | m+1,j,fuel+1,p,b,i=>by
  rw[Jq];unfold Xz
  have h:j<c.outs.l.length:=by omega
  have d:=FG hr c.lines.l 0
  have e:=v.nl
  have f:=sh (o:=o) (hr:=hr) (K7:=K7) (K:=K) hs hN v m (j+1) fuel (Ao6 c hr j c.outs.l[j] p) (by omega) (by omega)
  have l10:=Q' (R:=R) (N:=N) (c:=c) (o:=o) (hr:=hr) (j:=j) (p:=p) (K7:=K7) (K9:=Jq N K7 K (A7 c hr).length (A7 c hr).length o c.av (((A7 c hr).map (E6 c)).flatMap B0) (Aq (A7 c hr)) fuel) (K:=K) hs hN v h (A7 c hr).length 0 N [] (by omega) (by unfold A7;omega) (by simp) (by simp)
  rw[Xy,Hh h,ct,B7 (l:=c.outs.l) h,Bj,←f,←l10]
  rfl
theorem si {N H:Nat} {c:CaseD} {o:Bool} {K:LA→Int→O R} (hs:Small c N) (hN:4096≤N) (v:PreV c) (hH:c.hours=(H:Int)):∀ (m j fuel:Nat) (p:C1),j+m=H→m<fuel →
  Ee N K o c.av fuel (j:Int) (Di p)=K (w3 (Mn c m j p)) (Bp (Mn c m j p))
 | 0,j,fuel+1,p,b,_=>by
  rw[Ee];unfold Rf
  rw[K6,hH,Iu (by omega),Ake,Mn];rfl
 | m+1,j,fuel+1,p,b,k=>by
  rw[Ee];unfold Rf CD KD
  have n:=v.hours
  rw[K6,hH,Hh (by omega),KB,Ake]
  rcases p with _ | ⟨x,e,d⟩
  ·simp only[Bp,beq_self_eq_true,cond_true]
   have l9:=sh (R:=R) (N:=N) (c:=c) (o:=o) (hr:=(j:Int)) (K7:=Ee N K o c.av fuel) (K:=K) hs hN v c.outs.l.length 0 N none (by omega) hs.out.1
   rw[F1,ct,Co,At4 hs (fun l f=>v.lnV f)]
   simp only[List.drop_zero,Int.natCast_zero] at l9
   rw[l9,Bo (by omega),si hs hN v hH m (j+1) fuel _ (by omega) (by omega)];rfl
  ·have i:(e==0)=false:=by simpa using d
   simp only[Bp,i,beq_self_eq_true,cond_true,cond_false]
   rw[s9]
theorem Ao8 {N:Nat} {c:CaseD} {o:Bool} {y:(Int×Int×Int)×{ e:Int // e≠0 }} {K:LA→Int→O R} {fuel:Nat}:Ee N K o c.av (fuel+1) 0 (Di (some y))=K (w3 (some y)) (Bp (some y)):=by
 rw[Ee];unfold Rf
 rw[K6,KB,Ake]
 have b:(y.2.1==0)=false:=by simpa using y.2.2
 cases decide ((0:Int)<c.hours)<;>simp[Bp,b]
theorem aN {N:Nat} {c:CaseD} {o:Bool} {K:LA→Int→O R} (hs:Small c N) (hN:4096≤N):Wm N c.av o K=K (w3 (Dz c)) (Bp (Dz c)):=by
 rw[ge];unfold QZ
 have b:[(.int .i64 (0:Int)),(.int .i64 (0:Int)),(.int .i64 (0:Int)),(.int .i64 (0:Int))]=Di none:=rfl
 rw[F1,ct,Co,b,QQ hs]
 have l0:=fun p=>sa (R:=R) (N:=N) (c:=c) (o:=o) (K:=K) hs c.buses.l.length 0 N p (by omega) hs.bus.1
 have l2:=fun p=>sb (R:=R) (N:=N) (c:=c) (o:=o) (K:=K) hs c.lines.l.length 0 N p (by omega) hs.lin.1
 have l3:=fun p=>sc (R:=R) (N:=N) (c:=c) (o:=o) (K:=K) hs c.units.l.length 0 N p (by omega) hs.uni.1
 have l4:=fun p=>sd (R:=R) (N:=N) (c:=c) (o:=o) (K:=K) hs c.stores.l.length 0 N p (by omega) hs.sto.1
 have l5:=fun p=>se (R:=R) (N:=N) (c:=c) (o:=o) (K:=K) hs c.ties.l.length 0 N p (by omega) hs.tie.1
 have l6:=fun p=>sf (R:=R) (N:=N) (c:=c) (o:=o) (K:=K) hs c.outs.l.length 0 N p (by omega) hs.out.1
 simp only[List.drop_zero,Int.natCast_zero] at l0 l2 l3 l4 l5 l6
 try dsimp only
 rw[l0,l2,l3,l4,l5,l6]
 show Ee N K o c.av N 0 (Di (KC c))=_
 unfold Dz
 cases d:KC c with
 | some y =>
  rcases N with _ | N
  ·omega
  ·exact Ao8
 | none =>
  have v:=eD d
  have e:=v.hours
  have:=si (R:=R) (N:=N) (H:=c.hours.toNat) (c:=c) (o:=o) (K:=K) hs hN v (by omega) c.hours.toNat 0 N none (by omega) (by omega)
  simpa using this
end
end Gx.Cf

namespace Gx.Cf
open Go Go.Proofs
section
variable {R:Type}
theorem A37 (p:C1):(w3 p).length=3:=by rcases p with _ | ⟨⟨a,b,f⟩,e⟩<;>rfl
end
end Gx.Cf

namespace Gx.Cf
open Go Go.Proofs
section
variable {R:Type}
theorem Ao9 (v n:Int) (d:1≤n) (e:n≤4611686018427387904):(IntKind.wrap .u64 n==0)=false∧0≤IntKind.wrap .i64 (Int.tmod (IntKind.wrap .u64 v) (IntKind.wrap .u64 n))∧IntKind.wrap .i64 (Int.tmod (IntKind.wrap .u64 v) (IntKind.wrap .u64 n))<n:=by
 have hn:IntKind.wrap .u64 n=n:=IntWalk.u64_in _ (by omega)
 have b:0≤IntKind.wrap .u64 v:=by rw[IntKind.wrap_u64];omega
 rw[hn]
 have h0:0≤Int.tmod (IntKind.wrap .u64 v) n:=Int.tmod_nonneg _ b
 have c:Int.tmod (IntKind.wrap .u64 v) n<n:=Int.tmod_lt_of_pos _ (by omega)
 rw[wrap_i64 _ (by omega)]
 exact⟨by simp;omega,h0,c⟩
theorem nx {N:Nat} {l:List Int} {t o:Bool} (i:l.length≤9223372036854775807) (n:Int) (c:1≤n) (d:n≤4611686018427387904) (k:Nat) (e:k≤l.length) :
  ∃ (v:Int) (b:Nat),0≤v∧v<n∧b≤l.length∧∀ K:Int→Int→O R,Ad N n (Aq l) l.length t o (k:Int) K=K v (b:Int):=by
 by_cases h:k<l.length
 ·obtain⟨a1,a2,a3⟩:=Ao9 l[k] n c d
  refine⟨_,k+1,a2,a3,by omega,fun K=>?_⟩
  rw[We];unfold Xm
  have w0:IntKind.wrap .i64 ((k:Int)+1)=((k+1:Nat):Int):=by rw[wrap_i64 _ (by omega)];omega
  have f:IntKind.wrap .i64 (IntKind.wrap .i64 ((k:Int)+1) - 1)=(k:Int):=by rw[w0,wrap_i64 _ (by omega)];omega
  rw[f,w0,Ab h,ct,E' h,j9];unfold va
  rw[a1,cf,show decide ((k:Int)≥(l.length:Int))=false by simp;omega,cf]
 ·refine⟨0,k,by omega,by omega,e,fun K=>?_⟩
  rw[We];unfold Xm
  rw[show decide ((k:Int)≥(l.length:Int))=true by simp;omega,ct]
theorem zK {N m:Nat} {l:List Int} {t o:Bool} (e:l.length≤9223372036854775807) (n:Int) (f:1≤n) (i:n≤4611686018427387904) (s:m≤1000):∀ (r j fuel:Nat) (k:Nat) (A:List Int),j+r=m→r<fuel→k≤l.length→A.length=j →
  ∃ (B:List Int) (q:Nat),B.length=r∧(∀ x ∈ B,0≤x∧x<n)∧q≤l.length∧∀ K:Nat→Int→LA→O R,Fw N K (m:Int) n (Aq l) l.length t o fuel j (j:Int) (k:Int) (Aq A)=K m (q:Int) (Aq (A++B))
 | 0,j,fuel+1,k,A,u,_,b,hA=>by
  refine⟨[],k,rfl,by simp,b,fun K=>?_⟩
  rw[Fw];unfold N2
  have:j=m:=by omega
  subst this
  rw[Iu (Nat.le_refl _),cf,List.append_nil]
 | r+1,j,fuel+1,k,A,u,S,b,hA=>by
  obtain⟨v,y,v0,v1,c,z⟩:=nx (R:=R) (N:=N) (t:=t) (o:=o) e n f i k b
  obtain⟨B,C,D,F,G,I⟩:=zK e n f i s r (j+1) fuel y (A++[v]) (by omega) (by omega) c (by simp[hA])
  refine⟨v::B,C,by simp[D],?_,G,fun K=>?_⟩
  ·intro x d
   rcases List.mem_cons.1 d with rfl | d
   ·exact⟨v0,v1⟩
   ·exact F x d
  ·rw[Fw];unfold N2
   have L:(Nat.ble (j+1) 140737488355328&&Nat.ble ((j+1)*8) 140737488355328)=true:=by rw[Bx,Bx];simp;omega
   have M:List.take (j*1) (Aq A)++[.int .i64 v]=Aq (A++[v]):=ve (B:=[v]) hA.symm
   rw[Hh (by omega),ct,z,L,ct,M,Bo (by omega),I]
   simp
theorem FJ {N m:Nat} {l:List Int} {t o:Bool} (hN:1001≤N) (c:l.length≤9223372036854775807) (n:Int) (d:1≤n) (e:n≤4611686018427387904) (f:m≤1000) (k:Nat) (i:k≤l.length) :
  ∃ (B:List Int) (b:Nat),B.length=m∧(∀ x ∈ B,0≤x∧x<n)∧b≤l.length∧∀ K:Nat→Int→LA→O R,Eu N (m:Int) n (Aq l) l.length t o (k:Int) K=K m (b:Int) (Aq B):=by
 obtain⟨B,b,j,q,s,u⟩:=zK (R:=R) (N:=N) (t:=t) (o:=o) c n d e f m 0 N k [] (by omega) (by omega) i rfl
 refine⟨B,b,j,q,s,fun K=>?_⟩
 rw[HI];unfold T9
 simpa[Aq] using u K
theorem qN {N:Nat} {l:List Int} {t o:Bool} (d:l.length≤9223372036854775807) (H:Int) (n:1≤H) (z:H≤1000) (k:Nat) (q:k≤l.length) :
  ∃ (B:List Int) (e:Nat),B.length≤1∧(∀ x ∈ B,0≤x∧x<H)∧e≤l.length∧∀ K:Nat→Int→LA→O R,L6 N H (Aq l) l.length t o (k:Int) K=K B.length (e:Int) (Aq B):=by
 obtain⟨v,f,v0,v1,b,i⟩:=nx (R:=R) (N:=N) (t:=t) (o:=o) d 6 (by omega) (by omega) k q
 by_cases j:v=5
 ·obtain⟨u,s,u0,u1,c,y⟩:=nx (R:=R) (N:=N) (t:=t) (o:=o) d H n (by omega) f b
  refine⟨[u],s,by simp,by intro x m;simp at m;subst m;exact⟨u0,u1⟩,c,fun K=>?_⟩
  rw[Wf];unfold Xn
  rw[i,y,j];rfl
 ·refine⟨[],f,by simp,by simp,b,fun K=>?_⟩
  rw[Wf];unfold Xn
  have:(v==5)=false:=by simpa using j
  rw[i,this];rfl
def A54:List UInt8:=[48,49,50,51,52,53,54,55,56,57,97,98,99,100,101,102]
theorem Th {N:Nat} {c:UInt8} {i:Nat} (hi:i<16) {K:List UInt8→O R}:HK N [c] (i:Int) K=K [c,A54.getD i 0]:=by
 rw[sL];unfold yd
 have e1:Int.tmod (i:Int) 16=(i:Int):=Int.tmod_eq_of_lt (by omega) (by omega)
 rw[e1,Bo (by omega)]
 have c1:(decide ((0:Int)≤(i:Int))&&(decide ((i:Int)≤((i+1:Nat):Int))&&(decide (((i+1:Nat):Int)≤(16:Int))&&decide ((16:Int)≤(16:Int)))))=true:=by simp;omega
 rw[c1,ct]
 simp only[Int.toNat_natCast,Nat.add_sub_cancel_left]
 have:List.take 1 (List.drop i ([48,49,50,51,52,53,54,55,56,57,97,98,99,100,101,102]:List UInt8))=[A54.getD i 0]:=by
  rw[B7 (by simpa using hi)]
  simp[A54,hi]
 rw[this];rfl
end
end Gx.Cf

namespace Gx.Cf
open Go Go.Proofs
section
variable {R:Type}
theorem Pa {a:Int} (h:-9223372036854775808≤a∧a≤9223372036854775807):IntKind.wrap .i64 a=a:=wrap_i64 a h
theorem Fo {lo hi n:Int} (h:lo≤n∧n≤hi):Fb lo hi n=true:=by unfold Fb;simp;omega
structure LineG (i:Nat) (fr tx H:Int) (x:LineD):Prop where
 name:x.name=[108,A54.getD i 0]
 fr:x.fr=fr
 tx:x.tl=tx
 re:(I7 x.re&&decide (x.re.num>0))=true
 smin:(I7 x.smin&&decide (x.smin.num≤0))=true
 smax:(I7 x.smax&&decide (x.smax.num≥0))=true
 lim:Fb 0 1048576 x.limit=true
 em:Fb x.limit 1048576 x.emer=true
 aw:x.away.l.length≤1
 awr:∀ y ∈ x.away.l,0≤y∧y<H
theorem Agc {f:FracD} (h:1≤f.den∧f.den≤1048576∧-1048576≤f.num∧f.num≤1048576):I7 f=true:=by unfold I7;rw[Fo (by omega),Fo (by omega)];rfl
theorem Wn {B:List Int}:List.take (B.length*1) (Aq B)=B.flatMap JV:=by rw[Nat.mul_one,List.take_of_length_le (by rw[Ek];exact Nat.le_refl _),Fa]
theorem Agd {N:Nat} {l:List Int} {t o:Bool} (c:l.length≤9223372036854775807) {i:Nat} (hi:i<16) (fr tx:Int) {H:Int} (hH:1≤H∧H≤24) (k:Nat) (M:k≤l.length) :
  ∃ (x:LineD) (I:Nat),LineG i fr tx H x∧I≤l.length∧∀ K:LA→Int→O R,Qc N (i:Int) fr tx H (Aq l) l.length t o (k:Int) K=K x.av (I:Int):=by
 obtain⟨y2,ky2,y20,y21,m,n⟩:=nx (R:=R) (N:=N) (t:=t) (o:=o) c 4 (by omega) (by omega) k M
 obtain⟨y4,ky4,y40,y41,q,s⟩:=nx (R:=R) (N:=N) (t:=t) (o:=o) c 2 (by omega) (by omega) ky2 m
 obtain⟨y6,ky6,y60,y61,u,v⟩:=nx (R:=R) (N:=N) (t:=t) (o:=o) c 40 (by omega) (by omega) ky4 q
 obtain⟨y8,ky8,y80,y81,y,z⟩:=nx (R:=R) (N:=N) (t:=t) (o:=o) c 20 (by omega) (by omega) ky6 u
 obtain⟨y10,ky10,y100,y101,b,d⟩:=nx (R:=R) (N:=N) (t:=t) (o:=o) c 5 (by omega) (by omega) ky8 y
 by_cases L:y10=4
 ·have e4:(y10==4)=true:=by simpa using L
  obtain⟨y12,ky12,y120,y121,e,A⟩:=nx (R:=R) (N:=N) (t:=t) (o:=o) c 4 (by omega) (by omega) ky10 b
  obtain⟨y14,ky14,y140,y141,f,C⟩:=nx (R:=R) (N:=N) (t:=t) (o:=o) c 2 (by omega) (by omega) ky12 e
  obtain⟨y16,ky16,y160,y161,j,D⟩:=nx (R:=R) (N:=N) (t:=t) (o:=o) c 4 (by omega) (by omega) ky14 f
  obtain⟨B,kB,F,G,hkB,hB⟩:=qN (R:=R) (N:=N) (t:=t) (o:=o) c H hH.1 (by omega) ky16 j
  refine⟨⟨[108,A54.getD i 0],fr,tx,⟨1+y2,1+y4⟩,⟨0 - y12,1+y14⟩,⟨y16,1⟩,4+y6,4+y6+y8,.of B false false⟩,kB,⟨rfl,rfl,rfl,?_,?_,?_,Fo (by simp only;omega),Fo (by simp only;omega),F,G⟩,hkB,fun K=>?_⟩
  ·rw[Agc (by simp only;omega)];simp;omega
  ·rw[Agc (by simp only;omega)];simp;omega
  ·rw[Agc (by simp only;omega)];simp;omega
  ·rw[Wg];unfold Xo
   rw[Th hi,n,s,v,z,d,e4,ct,A,C,D,hB,Wn,Pa (a:=1+y2) (by omega),Pa (a:=1+y4) (by omega),Pa (a:=0 - y12) (by omega),Pa (a:=1+y14) (by omega),Pa (a:=4+y6) (by omega),Pa (a:=4+y6+y8) (by omega)]
   rfl
 ·have e4:(y10==4)=false:=by simpa using L
  obtain⟨B,kB,F,G,hkB,hB⟩:=qN (R:=R) (N:=N) (t:=t) (o:=o) c H hH.1 (by omega) ky10 b
  refine⟨⟨[108,A54.getD i 0],fr,tx,⟨1+y2,1+y4⟩,⟨0,1⟩,⟨0,1⟩,4+y6,4+y6+y8,.of B false false⟩,kB,⟨rfl,rfl,rfl,?_,?_,?_,Fo (by simp only;omega),Fo (by simp only;omega),F,G⟩,hkB,fun K=>?_⟩
  ·rw[Agc (by simp only;omega)];simp;omega
  ·rw[Agc (by simp only;omega)];simp
  ·rw[Agc (by simp only;omega)];simp
  ·rw[Wg];unfold Xo
   rw[Th hi,n,s,v,z,d,e4,cf,hB,Wn,Pa (a:=1+y2) (by omega),Pa (a:=1+y4) (by omega),Pa (a:=4+y6) (by omega),Pa (a:=4+y6+y8) (by omega)]
   rfl
structure UnitG (i:Nat) (nb H:Int) (u:UnitD):Prop where
 name:u.name=[117,A54.getD i 0]
 bus:0≤u.bus∧u.bus<nb
 min:Fb 0 1048576 u.min=true
 max:Fb u.min 1048576 u.max=true
 sl:1≤u.segs.l.length∧u.segs.l.length≤8
 sok:u.segs.l.all sY=true
 sord:aH u.segs.l=true
 ssum:(WY 0 u.segs.l==IntKind.wrap .i64 (u.max - u.min))=true
 noLoad:Fb 0 1048576 u.noLoad=true
 rampUp:Fb 0 1048576 u.rampUp=true
 rampDown:Fb 0 1048576 u.rampDown=true
 startRamp:Fb u.min u.max u.startRamp=true
 stopRamp:Fb u.min u.max u.stopRamp=true
 upTime:Fb 0 24 u.upTime=true
 downTime:Fb 0 24 u.downTime=true
 startTime:Fb 0 24 u.startTime=true
 hotCost:Fb 0 1048576 u.hotCost=true
 coldCost:Fb 0 1048576 u.coldCost=true
 hotHours:Fb 0 24 u.hotHours=true
 reserve:Fb 0 1048576 u.reserve=true
 reservePrice:Fb 0 1048576 u.reservePrice=true
 aw:u.away.l.length≤1
 awr:∀ y ∈ u.away.l,0≤y∧y<H
 state:Fb 0 2 u.state=true
 starting:(u.state != 1||u.startTime != 0)=true
 hours:Fb 1 48 u.hours=true
 started:(u.state != 1||decide (u.hours≤u.startTime))=true
 output:cond (u.state==2) (Fb u.min u.max u.output) (Fb 0 0 u.output)=true
theorem Age {s:SegD}:∀ {S:List SegD},aH S=true→(∀ x ∈ S,x.price≤s.price)→aH (S++[s])=true
 | [],_,_=>mO s
 | [a],_,h=>by
  rw[List.cons_append,List.nil_append,FA,mO]
  have:=h a (by simp);simp;omega
 | a::b::r,c,h=>by
  rw[FA] at c
  simp only[Bool.and_eq_true] at c
  rw[List.cons_append,List.cons_append,FA,c.1]
  have:=Age (S:=b::r) c.2 (fun x e=>h x (by rcases List.mem_cons.1 e with d | d<;>simp[d]))
  simpa using this
theorem Agf {s:SegD}:∀ {S:List SegD} {a:Int},WY a (S++[s])=IntKind.wrap .i64 (WY a S+s.width)
 | [],a=>rfl
 | x::r,a=>by rw[List.cons_append,WY,WY];exact Agf
theorem A2w (S:List SegD):(S.flatMap SegD.av).length=S.length*2:=by
 induction S with
 | nil=>rfl
 | cons e r b=>rw[List.flatMap_cons,List.length_append,b,O2];simp;omega
theorem qO {S:List SegD} {n:Nat} (h:n=S.length):List.take (n*2) (S.flatMap SegD.av)=S.flatMap SegD.av:=List.take_of_length_le (by rw[A2w,h];exact Nat.le_refl _)
theorem Agg {N:Nat} {l:List Int} {t o:Bool} (b:l.length≤9223372036854775807) {i:Nat} {nb H bus mn noLoad:Int} (hb:0≤bus∧bus<nb) (hmn:0≤mn∧mn<8) (hno:0≤noLoad∧noLoad<20) (hH:1≤H∧H≤24):∀ (n fuel:Nat) (p:Int) (k:Nat) (M:Int) (S:List SegD),n<fuel→k≤l.length→S.length+n≤2→1≤S.length+n→(∀ x ∈ S,x.price≤p∧sY x=true)→aH S=true→WY 0 S=M - mn→0≤M - mn→M - mn≤15*S.length→-10≤p→p≤20+10*S.length →
  ∃ (u:UnitD) (k':Nat),UnitG i nb H u∧k'≤l.length∧∀ K:LA→Int→O R,Fi N K H (Aq l) l.length t o [117,A54.getD i 0] bus mn noLoad fuel p (n:Int) (k:Int) M S.length (S.flatMap SegD.av)=K u.av (k':Int)
 | 0,fuel+1,p,k,M,S,_,hk,hS,hS1,hp,ho,hw,hM0,hM1,_,_=>by
  obtain⟨y16,ky16,y160,y161,j,V⟩:=nx (R:=R) (N:=N) (t:=t) (o:=o) b 20 (by omega) (by omega) k hk
  obtain⟨y18,ky18,y180,y181,m,X⟩:=nx (R:=R) (N:=N) (t:=t) (o:=o) b 20 (by omega) (by omega) ky16 j
  obtain⟨y20,ky20,y200,y201,q,Y⟩:=nx (R:=R) (N:=N) (t:=t) (o:=o) b (M - mn+1) (by omega) (by omega) ky18 m
  obtain⟨y22,ky22,y220,y221,s,hy22⟩:=nx (R:=R) (N:=N) (t:=t) (o:=o) b (M - mn+1) (by omega) (by omega) ky20 q
  obtain⟨y24,ky24,y240,y241,v,hy24⟩:=nx (R:=R) (N:=N) (t:=t) (o:=o) b 3 (by omega) (by omega) ky22 s
  obtain⟨y26,ky26,y260,y261,y,hy26⟩:=nx (R:=R) (N:=N) (t:=t) (o:=o) b 3 (by omega) (by omega) ky24 v
  obtain⟨y28,ky28,y280,y281,z,hy28⟩:=nx (R:=R) (N:=N) (t:=t) (o:=o) b 2 (by omega) (by omega) ky26 y
  obtain⟨y30,ky30,y300,y301,A,hy30⟩:=nx (R:=R) (N:=N) (t:=t) (o:=o) b 30 (by omega) (by omega) ky28 z
  obtain⟨y32,ky32,y320,y321,C,hy32⟩:=nx (R:=R) (N:=N) (t:=t) (o:=o) b 30 (by omega) (by omega) ky30 A
  obtain⟨y34,ky34,y340,y341,D,hy34⟩:=nx (R:=R) (N:=N) (t:=t) (o:=o) b 4 (by omega) (by omega) ky32 C
  obtain⟨y36,ky36,y360,y361,F,hy36⟩:=nx (R:=R) (N:=N) (t:=t) (o:=o) b 8 (by omega) (by omega) ky34 D
  obtain⟨y38,ky38,y380,y381,G,hy38⟩:=nx (R:=R) (N:=N) (t:=t) (o:=o) b 4 (by omega) (by omega) ky36 F
  obtain⟨B,kB,b1,b2,hkB,hB⟩:=qN (R:=R) (N:=N) (t:=t) (o:=o) b H hH.1 (by omega) ky38 G
  obtain⟨y43,ky43,y430,y431,I,hy43⟩:=nx (R:=R) (N:=N) (t:=t) (o:=o) b (2+y28) (by omega) (by omega) kB hkB
  obtain⟨y46,ky46,y460,y461,c,hy46⟩:=nx (R:=R) (N:=N) (t:=t) (o:=o) b 4 (by omega) (by omega) ky43 I
  have i43:Ah y43 3=true:=Tf y430 (by omega)
  obtain⟨x45,hx45,hst⟩:∃ x45:Int,(∀ f:Int→O R,At .i64 (List.drop (0+((Int.toNat y43)*1)) [(.int .i64 (0:Int)),(.int .i64 (2:Int)),(.int .i64 (1:Int))]) f=f x45)∧(x45=0∨x45=2∨(x45=1∧y28=1)):=by
   have e:[(.int .i64 (0:Int)),(.int .i64 (2:Int)),(.int .i64 (1:Int))]=Aq [0,2,1]:=rfl
   refine⟨([0,2,1]:List Int).getD y43.toNat 0,fun f=>by rw[e,zE (by simp;omega)],?_⟩
   have:y43=0∨y43=1∨y43=2:=by omega
   rcases this with rfl | rfl | rfl
   ·left;rfl
   ·right;left;rfl
   ·right;right;exact⟨rfl,by omega⟩
  have wM:IntKind.wrap .i64 (IntKind.wrap .i64 (M - mn)+1)=M - mn+1:=by rw[Pa (a:=M - mn) (by omega),Pa (by omega)]
  have head:∀ K:LA→Int→O R,Fi N K H (Aq l) l.length t o [117,A54.getD i 0] bus mn noLoad (fuel+1) p ((0:Nat):Int) (k:Int) M S.length (S.flatMap SegD.av) =
    M6 N K (Aq l) l.length t o (ky46:Int) [117,A54.getD i 0] bus mn M S.length noLoad y16 y18 y24 y26 y28 y30 y34 y36 y38 B.length x45 (S.flatMap SegD.av) (Aq B) (mn+y20) (mn+y22) (y30+y32) (cond (x45==1) 1 (1+y46)):=fun K=>by
   rw[Fi];unfold Qd
   rw[show decide (((0:Nat):Int)>0)=false from rfl,cf,wM,V,X,Y,hy22,hy24,hy26,hy28,hy30,hy32,hy34,hy36,hy38,hB,Pa (a:=2+y28) (by omega),hy43,i43,ct,hx45,hy46,Pa (a:=mn+y20) (by omega),Pa (a:=mn+y22) (by omega),Pa (a:=y30+y32) (by omega),Pa (a:=1+y46) (by omega)]
   cases x45==1<;>rfl
  have hhr:1≤(cond (x45==1) (1:Int) (1+y46))∧(cond (x45==1) (1:Int) (1+y46))≤4:=by cases x45==1<;>simp<;>omega
  have hst1:x45=1→cond (x45==1) (1:Int) (1+y46)=1:=by intro e;subst e;rfl
  have sall:S.all sY=true:=by rw[List.all_eq_true];exact fun x hx=>(hp x hx).2
  have ssum:(WY 0 S==IntKind.wrap .i64 (M - mn))=true:=by rw[Pa (a:=M - mn) (by omega),hw];simp
  have starting:(x45 != 1||y28 != 0)=true:=by
   rcases hst with h | h | ⟨h,h'⟩
   ·rw[h];rfl
   ·rw[h];rfl
   ·rw[h,h'];rfl
  have started:(x45 != 1||decide ((cond (x45==1) (1:Int) (1+y46))≤y28))=true:=by
   rcases hst with h | h | ⟨h,h'⟩
   ·rw[h];rfl
   ·rw[h];rfl
   ·rw[h,h'];rfl
  have stR:Fb 0 2 x45=true:=Fo (by omega)
  by_cases d:x45=2
  ·obtain⟨y48,ky48,y480,y481,L,hy48⟩:=nx (R:=R) (N:=N) (t:=t) (o:=o) b (M - mn+1) (by omega) (by omega) ky46 c
   refine⟨⟨[117,A54.getD i 0],bus,mn,M,.of S false false,noLoad,y16,y18,mn+y20,mn+y22,y24,y26,y28,y30,y30+y32,y34,y36,y38,.of B false false,x45,cond (x45==1) 1 (1+y46),mn+y48⟩,ky48,
    ⟨rfl,hb,Fo (by simp only;omega),Fo (by simp only;omega),by simp only[Sl.l];omega,sall,ho,ssum,Fo (by simp only;omega),Fo (by simp only;omega),Fo (by simp only;omega),Fo (by simp only;omega),Fo (by simp only;omega),Fo (by simp only;omega),Fo (by simp only;omega),Fo (by simp only;omega),Fo (by simp only;omega),Fo (by simp only;omega),Fo (by simp only;omega),Fo (by simp only;omega),Fo (by simp only;omega),b1,b2,stR,starting,Fo (by simp only;omega),started,?_⟩,L,fun K=>?_⟩
   ·have:(x45==2)=true:=by simpa using d
    simp only[this,cond_true];exact Fo (by omega)
   ·rw[head];unfold M6
    have:(x45==2)=true:=by simpa using d
    rw[this,ct,wM,hy48,Pa (a:=mn+y48) (by omega),qO rfl,Wn]
    rfl
  ·refine⟨⟨[117,A54.getD i 0],bus,mn,M,.of S false false,noLoad,y16,y18,mn+y20,mn+y22,y24,y26,y28,y30,y30+y32,y34,y36,y38,.of B false false,x45,cond (x45==1) 1 (1+y46),0⟩,ky46,
    ⟨rfl,hb,Fo (by simp only;omega),Fo (by simp only;omega),by simp only[Sl.l];omega,sall,ho,ssum,Fo (by simp only;omega),Fo (by simp only;omega),Fo (by simp only;omega),Fo (by simp only;omega),Fo (by simp only;omega),Fo (by simp only;omega),Fo (by simp only;omega),Fo (by simp only;omega),Fo (by simp only;omega),Fo (by simp only;omega),Fo (by simp only;omega),Fo (by simp only;omega),Fo (by simp only;omega),b1,b2,stR,starting,Fo (by simp only;omega),started,?_⟩,c,fun K=>?_⟩
   ·have:(x45==2)=false:=by simpa using d
    simp only[this,cond_false];exact Fo (by omega)
   ·rw[head];unfold M6
    have:(x45==2)=false:=by simpa using d
    rw[this,cf,qO rfl,Wn]
    rfl
 | n+1,fuel+1,p,k,M,S,hf,hk,hS,hS1,hp,ho,hw,hM0,hM1,hp0,hp1=>by
  obtain⟨y12,ky12,y120,y121,T,hy12⟩:=nx (R:=R) (N:=N) (t:=t) (o:=o) b 15 (by omega) (by omega) k hk
  obtain⟨y14,ky14,y140,y141,U,hy14⟩:=nx (R:=R) (N:=N) (t:=t) (o:=o) b 10 (by omega) (by omega) ky12 T
  obtain⟨u,k',g1,g2,g3⟩:=Agg (N:=N) (t:=t) (o:=o) (i:=i) (nb:=nb) (H:=H) (bus:=bus) (mn:=mn) (noLoad:=noLoad) b hb hmn hno hH n fuel (p+y14) ky14 (M+(1+y12)) (S++[(⟨1+y12,p⟩:SegD)]) (by omega) U (by simp;omega) (by simp;omega) (by
   intro x hx
   rcases List.mem_append.1 hx with h | h
   ·have:=hp x h;exact⟨by omega,this.2⟩
   ·simp at h;subst h
    refine⟨by simp only;omega,?_⟩
    unfold sY;rw[Fo (by simp only;omega),Fo (by simp only;omega)];rfl) (Age ho (fun x hx=>(hp x hx).1)) (by rw[Agf,hw,Pa (by simp only;omega)];simp only;omega) (by omega) (by simp;omega) (by omega) (by simp;omega)
  refine⟨u,k',g1,g2,fun K=>?_⟩
  rw[Fi];unfold Qd
  have c3:(Nat.ble (S.length+1) 140737488355328&&Nat.ble ((S.length+1)*16) 140737488355328)=true:=by rw[Bx,Bx];simp;omega
  have c5:List.take (S.length*2) (S.flatMap SegD.av)++[.int .i64 (1+y12),.int .i64 p]=(S++[(⟨1+y12,p⟩:SegD)]).flatMap SegD.av:=by rw[qO rfl];simp[SegD.av]
  have wn:IntKind.wrap .i64 (((n+1:Nat):Int) - 1)=(n:Int):=mM (by omega)
  rw[show decide (((n+1:Nat):Int)>0)=true from decide_eq_true (by omega),ct,hy12,c3,ct,hy14,Pa (a:=1+y12) (by omega),Pa (a:=p+y14) (by omega),wn,Pa (a:=M+(1+y12)) (by omega),c5]
  have:=g3 K
  rw[List.length_append] at this
  exact this
theorem Ayw {N:Nat} {l:List Int} {t o:Bool} (hN:8≤N) (c:l.length≤9223372036854775807) {i:Nat} (hi:i<16) {nb H:Int} (z:1≤nb∧nb≤1000) (hH:1≤H∧H≤24) (k:Nat) (A:k≤l.length) :
  ∃ (u:UnitD) (q:Nat),UnitG i nb H u∧q≤l.length∧∀ K:LA→Int→O R,Qe N (i:Int) nb H (Aq l) l.length t o (k:Int) K=K u.av (q:Int):=by
 obtain⟨y2,ky2,y20,y21,d,s⟩:=nx (R:=R) (N:=N) (t:=t) (o:=o) c nb (by omega) (by omega) k A
 obtain⟨y4,ky4,y40,y41,e,v⟩:=nx (R:=R) (N:=N) (t:=t) (o:=o) c 8 (by omega) (by omega) ky2 d
 obtain⟨y6,ky6,y60,y61,f,x⟩:=nx (R:=R) (N:=N) (t:=t) (o:=o) c 20 (by omega) (by omega) ky4 e
 obtain⟨y8,ky8,y80,y81,j,y⟩:=nx (R:=R) (N:=N) (t:=t) (o:=o) c 20 (by omega) (by omega) ky6 f
 obtain⟨y10,ky10,y100,y101,b,m⟩:=nx (R:=R) (N:=N) (t:=t) (o:=o) c 2 (by omega) (by omega) ky8 j
 obtain⟨n,hn⟩:∃ n:Nat,1+y10=(n:Int):=⟨(1+y10).toNat,by omega⟩
 obtain⟨u,q,C,D,F⟩:=Agg (R:=R) (N:=N) (l:=l) (t:=t) (o:=o) c (i:=i) (nb:=nb) (H:=H) (bus:=y2) (mn:=y4) (noLoad:=y6) ⟨y20,y21⟩ ⟨y40,y41⟩ ⟨y60,y61⟩ hH n N (y8 - 2) ky10 y4 [] (by omega) b (by simp;omega) (by simp;omega) (by simp) zA (by simp[WY]) (by omega) (by simp) (by omega) (by simp;omega)
 refine⟨u,q,C,D,fun K=>?_⟩
 rw[MK];unfold Xp
 rw[Th hi,s,v,x,y,m,Pa (a:=y8 - 2) (by omega),Pa (a:=1+y10) (by omega),hn]
 simpa using F K
structure OutG (i:Nat) (nl nu:Nat) (x:OutD):Prop where
 name:x.name=[111,A54.getD i 0]
 ll:x.lines.l.length=1∨x.lines.l.length=2
 lr:∀ y ∈ x.lines.l,0≤y∧y<(nl:Int)
 la:jd x.lines.l=true
 ml:x.moves.l.length≤nu
 mc:((x.moves.l.length:Int)==0||x.corr)=true
 mr:∀ m ∈ x.moves.l,0≤m.unit∧m.unit<(nu:Int)
 ma:jd (x.moves.l.map (·.unit))=true
 mi:x.moves.l.all Acy=true
theorem Apa {s:Int}:∀ {S:List Int},jd S=true→(∀ x ∈ S,x<s)→jd (S++[s])=true
 | [],_,_=>QM s
 | [a],_,h=>by
  rw[List.cons_append,List.nil_append,DM,QM]
  have:=h a (by simp);simp;omega
 | a::b::r,c,h=>by
  rw[DM] at c
  simp only[Bool.and_eq_true] at c
  rw[List.cons_append,List.cons_append,DM,c.1]
  have:=Apa (S:=b::r) c.2 (fun x e=>h x (by rcases List.mem_cons.1 e with d | d<;>simp[d]))
  simpa using this
theorem A1g (S:List MoveD):(S.flatMap MoveD.av).length=S.length*3:=by
 induction S with
 | nil=>rfl
 | cons e r b=>rw[List.flatMap_cons,List.length_append,b,Eo];simp;omega
theorem qP {N:Nat} {l:List Int} {t o:Bool} (q:l.length≤9223372036854775807) {i nl nu:Nat} (s:nu≤16) {B:List Int} (hB1:B.length=1∨B.length=2) (hB2:∀ y ∈ B,0≤y∧y<(nl:Int)) (hB3:jd B=true):∀ (m j fuel:Nat) (k:Nat) (S:List MoveD),j+m=nu→m<fuel→k≤l.length→S.length≤j→(∀ x ∈ S,0≤x.unit∧x.unit<(j:Int))→jd (S.map (·.unit))=true→S.all Acy=true →
  ∃ (x:OutD) (f:Nat),OutG i nl nu x∧f≤l.length∧∀ K:LA→Int→O R,E3 N K (nu:Int) (Aq l) l.length t o [111,A54.getD i 0] B.length (Aq B) fuel (j:Int) (k:Int) S.length (S.flatMap MoveD.av)=K x.av (f:Int)
 | 0,j,fuel+1,k,S,L,_,A,hS,hr,z,hi=>by
  have C:j=nu:=by omega
  subst C
  refine⟨⟨[111,A54.getD i 0],.of B false false,true,.of S false false⟩,k,⟨rfl,hB1,hB2,hB3,hS,by simp,hr,z,hi⟩,A,fun K=>?_⟩
  rw[E3];unfold Ic
  rw[Iu (Nat.le_refl _),cf,Wn,List.take_of_length_le (by rw[A1g];exact Nat.le_refl _)]
  rfl
 | m+1,j,fuel+1,k,S,L,V,A,hS,hr,z,hi=>by
  obtain⟨y10,ky10,y100,y101,b,c⟩:=nx (R:=R) (N:=N) (t:=t) (o:=o) q 2 (by omega) (by omega) k A
  by_cases I:y10=1
  ·obtain⟨y12,ky12,y120,y121,d,u⟩:=nx (R:=R) (N:=N) (t:=t) (o:=o) q 8 (by omega) (by omega) ky10 b
   obtain⟨y14,ky14,y140,y141,e,v⟩:=nx (R:=R) (N:=N) (t:=t) (o:=o) q 8 (by omega) (by omega) ky12 d
   obtain⟨x,f,D,F,G⟩:=qP (N:=N) (t:=t) (o:=o) (i:=i) (nl:=nl) (nu:=nu) q s hB1 hB2 hB3 m (j+1) fuel ky14 (S++[(⟨j,y12,y14⟩:MoveD)]) (by omega) (by omega) e (by simp;omega) (by
    intro x n
    rcases List.mem_append.1 n with h | h
    ·have:=hr x h;omega
    ·simp at h;subst h;simp only;omega) (by
    rw[List.map_append];exact Apa z (by
     intro x n
     simp only[List.mem_map] at n
     obtain⟨y,M,rfl⟩:=n
     exact(hr y M).2)) (by
    rw[List.all_append,hi]
    simp only[List.all_cons,List.all_nil,Bool.and_true,Bool.true_and]
    unfold Acy;rw[Fo (by simp only;omega),Fo (by simp only;omega)];rfl)
   refine⟨x,f,D,F,fun K=>?_⟩
   rw[E3];unfold Ic
   have e1:(y10==1)=true:=by simpa using I
   have T:(Nat.ble (S.length+1) 140737488355328&&Nat.ble ((S.length+1)*24) 140737488355328)=true:=by rw[Bx,Bx];simp;omega
   have U:List.take (S.length*3) (S.flatMap MoveD.av)++[.int .i64 (j:Int),.int .i64 y12,.int .i64 y14]=(S++[(⟨j,y12,y14⟩:MoveD)]).flatMap MoveD.av:=by
    rw[List.take_of_length_le (by rw[A1g];exact Nat.le_refl _)];simp[MoveD.av]
   rw[Hh (by omega),ct,c,e1,ct,u,v,T,ct,U,Bo (by omega)]
   have:=G K
   rw[List.length_append] at this
   exact this
  ·obtain⟨x,f,D,F,G⟩:=qP (N:=N) (t:=t) (o:=o) (i:=i) (nl:=nl) (nu:=nu) q s hB1 hB2 hB3 m (j+1) fuel ky10 S (by omega) (by omega) b (by omega) (by intro x n;have:=hr x n;omega) z hi
   refine⟨x,f,D,F,fun K=>?_⟩
   rw[E3];unfold Ic
   have e1:(y10==1)=false:=by simpa using I
   rw[Hh (by omega),ct,c,e1,cf,Bo (by omega),G]
theorem Agh {N:Nat} {l:List Int} {t o:Bool} (hN:64≤N) (f:l.length≤9223372036854775807) {i nl nu:Nat} (e:nu≤16) {B:List Int} (hB1:B.length=1∨B.length=2) (hB2:∀ y ∈ B,0≤y∧y<(nl:Int)) (hB3:jd B=true) (k:Nat) (m:k≤l.length) :
  ∃ (x:OutD) (d:Nat),OutG i nl nu x∧d≤l.length∧∀ K:LA→Int→O R,E4 N K (nu:Int) (Aq l) l.length t o [111,A54.getD i 0] (k:Int) B.length (Aq B)=K x.av (d:Int):=by
 obtain⟨y8,ky8,y80,y81,b,c⟩:=nx (R:=R) (N:=N) (t:=t) (o:=o) f 2 (by omega) (by omega) k m
 by_cases j:y8=1
 ·obtain⟨x,d,n,q,s⟩:=qP (R:=R) (N:=N) (t:=t) (o:=o) (i:=i) (nl:=nl) (nu:=nu) f e hB1 hB2 hB3 nu 0 N ky8 [] (by omega) (by omega) b (by simp) (by simp) mL rfl
  refine⟨x,d,n,q,fun K=>?_⟩
  unfold E4 L7
  have e1:(y8==1)=true:=by simpa using j
  rw[c,e1,ct]
  simpa using s K
 ·refine⟨⟨[111,A54.getD i 0],.of B false false,false,.of [] false false⟩,ky8,⟨rfl,hB1,hB2,hB3,by simp[Sl.l],by simp[Sl.l],by simp[Sl.l],mL,rfl⟩,b,fun K=>?_⟩
  unfold E4 L7
  have e1:(y8==1)=false:=by simpa using j
  rw[c,e1,cf,Wn]
  rfl
theorem Apb {N:Nat} {l:List Int} {t o:Bool} (hN:64≤N) (j:l.length≤9223372036854775807) {i nl nu:Nat} (hi:i<16) (I:1≤nl∧nl≤1000) (m:nu≤16) (k:Nat) (L:k≤l.length) :
  ∃ (x:OutD) (b:Nat),OutG i nl nu x∧b≤l.length∧∀ K:LA→Int→O R,K3 N (i:Int) (nl:Int) (nu:Int) (Aq l) l.length t o (k:Int) K=K x.av (b:Int):=by
 obtain⟨y2,ky2,y20,y21,n,e⟩:=nx (R:=R) (N:=N) (t:=t) (o:=o) j (nl:Int) (by omega) (by omega) k L
 obtain⟨y4,ky4,y40,y41,c,f⟩:=nx (R:=R) (N:=N) (t:=t) (o:=o) j (nl:Int) (by omega) (by omega) ky2 n
 have one:∀ A,A≤l.length→∃ (x:OutD) (b:Nat),OutG i nl nu x∧b≤l.length∧∀ K:LA→Int→O R,E4 N K (nu:Int) (Aq l) l.length t o [111,A54.getD i 0] (A:Int) 1 [.int .i64 y2]=K x.av (b:Int):=fun A C =>
  Agh (i:=i) (nl:=nl) hN j m (B:=[y2]) (.inl rfl) (by intro y q;simp at q;subst q;exact⟨y20,y21⟩) (QM _) A C
 by_cases D:y4>y2
 ·obtain⟨y6,ky6,y60,y61,d,s⟩:=nx (R:=R) (N:=N) (t:=t) (o:=o) j 3 (by omega) (by omega) ky4 c
  by_cases G:y6=2
  ·obtain⟨x,b,u,v,z⟩:=Agh (R:=R) (N:=N) (t:=t) (o:=o) (i:=i) (nl:=nl) (nu:=nu) hN j m (B:=[y2,y4]) (.inr rfl) (by intro y q;simp at q;rcases q with rfl | rfl<;>omega) (by rw[DM,QM];simp;omega) ky6 d
   refine⟨x,b,u,v,fun K=>?_⟩
   rw[L8];unfold Jf
   have e1:decide (y4>y2)=true:=by simpa using D
   have F:(y6==2)=true:=by simpa using G
   rw[Th hi,e,f,e1,s,F]
   simpa[Aq] using z K
  ·obtain⟨x,b,u,v,z⟩:=one ky6 d
   refine⟨x,b,u,v,fun K=>?_⟩
   rw[L8];unfold Jf
   have e1:decide (y4>y2)=true:=by simpa using D
   have F:(y6==2)=false:=by simpa using G
   rw[Th hi,e,f,e1,s,F]
   exact z K
 ·obtain⟨x,b,u,v,z⟩:=one ky4 c
  refine⟨x,b,u,v,fun K=>?_⟩
  rw[L8];unfold Jf
  have e1:decide (y4>y2)=false:=by simpa using D
  rw[Th hi,e,f,e1]
  exact z K
end
end Gx.Cf

namespace Gx
open Go Go.Proofs
open IntKind (wrap)
set_option maxRecDepth 100000
noncomputable section
variable {R:Type} (N:Nat)
def RA (k2:Int→Int→Nat→LA→O R) (r0:LA→O R) (m:Int) (b:LA) (c:Nat) (d:Bool) (f:Int) (g e:Nat) (l i:LA) (au av:Int) (an:Nat) (aw:LA):O R :=
 (Ad N m b c false d av (fun bc bq=>(Ad N (wrap .i64 (m - 1)) b c false d bq (fun br bs=>(cond (m==0) none (Qc N ((an:Nat):Int) bc (Int.tmod (wrap .i64 ((wrap .i64 (bc+1))+br)) m) f b c false d bs (fun bd bt=>(cond ((Nat.beq (bd.length) 12)&&(Nat.ble 12 12)) (cond ((Nat.ble (an+1) 140737488355328)&&(Nat.ble ((an+1)*120) 140737488355328)) (k2 (wrap .i64 (au - 1)) bt (an+1) ((aw.take (an*12))++((setCells [(.str ([]:List UInt8)),(.int .i64 0),(.int .i64 0),(.int .i64 0),(.int .i64 0),(.int .i64 0),(.int .i64 0),(.int .i64 0),(.int .i64 0),(.int .i64 0),(.int .i64 0),.nsl] 0 bd).take 12))) none) none))))))))
def RB (k7:Int→Int→Nat→LA→O R) (r0:LA→O R) (b:LA) (c:Nat) (d:Bool) (f:Int) (g e p o s u:Nat) (l i q r t v:LA) (ar ax:Int) (w:Nat) (ao:LA):O R :=
 (K3 N ((w:Nat):Int) ((p:Nat):Int) ((o:Nat):Int) b c false d ax (fun az be=>(cond ((Nat.beq 0 0)&&((Nat.beq (az.length) 4)&&(Nat.beq 4 4))) (cond ((Nat.ble (0+w) 140737488355328)&&(Nat.ble ((0+w)*72) 140737488355328)) (cond (Nat.ble 4 (az.length)) (cond ((Nat.beq ((az.take 4).length) 4)&&(Nat.ble 4 4)) (cond ((Nat.ble ((0+w)+1) 140737488355328)&&(Nat.ble (((0+w)+1)*72) 140737488355328)) (Wm N [(.int .i64 f),(.imm (l.take (g*1)) g 1 false true),(.imm (i.take (e*3)) e 3 false true),(.imm (q.take (p*12)) p 12 false true),(.imm (r.take (o*22)) o 22 false true),(.imm (t.take (s*9)) s 9 false true),(.imm (v.take (u*5)) u 5 false true),(.imm (List.take (((0+w)+1)*4) (((ao.take (w*4)).take ((0+w)*4))++((setCells [(.str ([]:List UInt8)),.nsl,(.bool false),.nsl] 0 (az.take 4)).take 4))) ((0+w)+1) 4 false true)] true (fun bu bv=>(cond ((Nat.beq (bu.length) 3)&&((Nat.ble 3 3)&&(!false))) (cond (bv==0) (k7 (wrap .i64 (ar - 1)) be ((0+w)+1) (((ao.take (w*4)).take ((0+w)*4))++((setCells [(.str ([]:List UInt8)),.nsl,(.bool false),.nsl] 0 (az.take 4)).take 4))) (k7 (wrap .i64 (ar - 1)) be w ao)) none))) none) none) none) none) none)))
def Zf (N:Nat) (r0:LA→O R) (b:LA) (c:Nat) (d:Bool) (f:Int) (g e p o s u:Nat) (l i q r t v:LA) (k7:Int→Int→Nat→LA→O R) (q8:Int→Int→Nat→LA→O R) (ae ai:Int) (x:Nat) (z:LA):O R :=
 (cond ((decide (ae>0))==true) (cond (cond true (decide (((p:Nat):Int)>0)) false) (q8 ae ai x z) (r0 [(.int .i64 f),(.imm (l.take (g*1)) g 1 false false),(.imm (i.take (e*3)) e 3 false false),(.imm (q.take (p*12)) p 12 false false),(.imm (r.take (o*22)) o 22 false false),(.imm (t.take (s*9)) s 9 false false),(.imm (v.take (u*5)) u 5 false false),(.imm (z.take (x*4)) x 4 false false)])) (r0 [(.int .i64 f),(.imm (l.take (g*1)) g 1 false false),(.imm (i.take (e*3)) e 3 false false),(.imm (q.take (p*12)) p 12 false false),(.imm (r.take (o*22)) o 22 false false),(.imm (t.take (s*9)) s 9 false false),(.imm (v.take (u*5)) u 5 false false),(.imm (z.take (x*4)) x 4 false false)]))
def Ij (r0:LA→O R) (b:LA) (c:Nat) (d:Bool) (f:Int) (g e p o s u:Nat) (l i q r t v:LA):Nat→Int→Int→Nat→LA→O R
 | 0,_,_,_,_=>none
 | n+1,ae,ai,x,z=>(Zf N r0 b c d f g e p o s u l i q r t v (Ij r0 b c d f g e p o s u l i q r t v n) (fun ar ax w ao=>(RB N (Ij r0 b c d f g e p o s u l i q r t v n) r0 b c d f g e p o s u l i q r t v ar ax w ao)) ae ai x z)
def aO (r0:LA→O R) (b:LA) (c:Nat) (d:Bool) (f:Int) (g e p o s:Nat) (l i q r t:LA) (q7:Int→Int→Nat→LA→O R) (ap:Int) (u:Nat) (v:LA):O R :=
 (Ad N 4 b c false d ap (fun bw bx=>(q7 bw bx 0 [])))
def RC (r0:LA→O R) (b:LA) (c:Nat) (d:Bool) (f:Int) (g e p o s:Nat) (l i q r t:LA) (ap:Int) (u:Nat) (v:LA):O R:=(aO N r0 b c d f g e p o s l i q r t (fun ae ai x z=>(Ij N r0 b c d f g e p o s u l i q r t v N ae ai x z)) ap u v)
def IC (r0:LA→O R) (m:Int) (b:LA) (c:Nat) (d:Bool) (f:Int) (g e p o:Nat) (l i q r:LA) (q6:Int→Nat→LA→O R) (aq:Int) (s:Nat) (t:LA):O R :=
 (Ad N 3 b c false d aq (fun bz bf=>(cond (bz==2) (Ad N m b c false d bf (fun ca cb=>(Eu N f 12 b c false d cb (fun bg cc cd=>(Eu N f 12 b c false d cc (fun bh ce cf=>(Eu N f 40 b c false d ce (fun bi cg ch=>(q6 cg 1 [(.str ([116,48]:List UInt8)),(.int .i64 ca),(.imm (cd.take (bg*1)) bg 1 false false),(.imm (cf.take (bh*1)) bh 1 false false),(.imm (ch.take (bi*1)) bi 1 false false)]))))))))) (q6 bf 0 []))))
def FK (r0:LA→O R) (m:Int) (b:LA) (c:Nat) (d:Bool) (f:Int) (g e p o:Nat) (l i q r:LA) (aq:Int) (s:Nat) (t:LA):O R:=(IC N r0 m b c d f g e p o l i q r (fun ap u v=>(RC N r0 b c d f g e p o s l i q r t ap u v)) aq s t)
def Zg (r0:LA→O R) (m:Int) (b:LA) (c:Nat) (d:Bool) (f:Int) (g e:Nat) (l i:LA) (k4:Int→Int→Nat→Nat→LA→LA→O R) (q5:Int→Nat→LA→O R) (aj ak:Int) (p o:Nat) (q r:LA):O R :=
 (cond (decide (aj>0)) (Qe N ((o:Nat):Int) m f b c false d ak (fun bj ci=>(cond ((Nat.beq (bj.length) 22)&&(Nat.ble 22 22)) (cond ((Nat.ble (o+1) 140737488355328)&&(Nat.ble ((o+1)*216) 140737488355328)) (k4 (wrap .i64 (aj - 1)) ci p (o+1) q ((r.take (o*22))++((setCells [(.str ([]:List UInt8)),(.int .i64 0),(.int .i64 0),(.int .i64 0),.nsl,(.int .i64 0),(.int .i64 0),(.int .i64 0),(.int .i64 0),(.int .i64 0),(.int .i64 0),(.int .i64 0),(.int .i64 0),(.int .i64 0),(.int .i64 0),(.int .i64 0),(.int .i64 0),(.int .i64 0),.nsl,(.int .i64 0),(.int .i64 0),(.int .i64 0)] 0 bj).take 22))) none) none))) (Ad N 3 b c false d ak (fun cj bk=>(cond (cj==2) (Ad N m b c false d bk (fun ck cl=>(Ad N 20 b c false d cl (fun bb cm=>(Ad N 8 b c false d cm (fun cn co=>(Ad N 8 b c false d co (fun cp cq=>(Ad N 4 b c false d cq (fun cr cs=>(Ad N (wrap .i64 (bb+1)) b c false d cs (fun ct cu=>(Ad N (wrap .i64 (bb+1)) b c false d cu (fun cv cw=>(q5 cw 1 [(.str ([115,48]:List UInt8)),(.int .i64 ck),(.int .i64 bb),(.int .i64 ct),(.int .i64 cv),(.int .i64 cn),(.int .i64 cp),(.int .i64 (wrap .i64 (1+cr))),(.int .i64 4)]))))))))))))))) (q5 bk 0 [])))))
def Pb (r0:LA→O R) (m:Int) (b:LA) (c:Nat) (d:Bool) (f:Int) (g e:Nat) (l i:LA):Nat→Int→Int→Nat→Nat→LA→LA→O R
 | 0,_,_,_,_,_,_=>none
 | n+1,aj,ak,p,o,q,r=>(Zg N r0 m b c d f g e l i (Pb r0 m b c d f g e l i n) (fun aq s t=>(FK N r0 m b c d f g e p o l i q r aq s t)) aj ak p o q r)
def Zh (r0:LA→O R) (m:Int) (b:LA) (c:Nat) (d:Bool) (f:Int) (g e:Nat) (l i:LA) (k2:Int→Int→Nat→LA→O R) (q3:Int→Int→Nat→LA→O R) (q4:Int→Int→Nat→Nat→LA→LA→O R) (af aa:Int) (ab:Nat) (ac:LA):O R :=
 (cond ((decide (af>0))==true) (cond (cond true (decide (m>1)) false) (q3 af aa ab ac) (Ad N 3 b c false d aa (fun cx cy=>(q4 (wrap .i64 (1+cx)) cy ab 0 ac [])))) (Ad N 3 b c false d aa (fun cz da=>(q4 (wrap .i64 (1+cz)) da ab 0 ac []))))
def Pc (r0:LA→O R) (m:Int) (b:LA) (c:Nat) (d:Bool) (f:Int) (g e:Nat) (l i:LA):Nat→Int→Int→Nat→LA→O R
 | 0,_,_,_,_=>none
 | n+1,af,aa,ab,ac=>(Zh N r0 m b c d f g e l i (Pc r0 m b c d f g e l i n) (fun au av an aw=>(RA N (Pc r0 m b c d f g e l i n) r0 m b c d f g e l i au av an aw)) (fun aj ak p o q r=>(Pb N r0 m b c d f g e l i N aj ak p o q r)) af aa ab ac)
def ID (r0:LA→O R) (b:LA) (c:Nat) (d:Bool) (f:Int) (g e:Nat) (l i:LA) (k1:Int→Int→Int→Nat→LA→O R) (q2:Int→Int→Nat→LA→O R) (m ag al:Int) (y:Nat) (am:LA):O R :=
 (cond (decide (ag<m)) (Ad N ag b c false d al (fun db dc=>(Qc N ((y:Nat):Int) db ag f b c false d dc (fun bl dd=>(cond ((Nat.beq (bl.length) 12)&&(Nat.ble 12 12)) (cond ((Nat.ble (y+1) 140737488355328)&&(Nat.ble ((y+1)*120) 140737488355328)) (k1 m (wrap .i64 (ag+1)) dd (y+1) ((am.take (y*12))++((setCells [(.str ([]:List UInt8)),(.int .i64 0),(.int .i64 0),(.int .i64 0),(.int .i64 0),(.int .i64 0),(.int .i64 0),(.int .i64 0),(.int .i64 0),(.int .i64 0),(.int .i64 0),.nsl] 0 bl).take 12))) none) none))))) (Ad N 5 b c false d al (fun de df=>(q2 de df y am))))
def Wo (r0:LA→O R) (b:LA) (c:Nat) (d:Bool) (f:Int) (g e:Nat) (l i:LA):Nat→Int→Int→Int→Nat→LA→O R
 | 0,_,_,_,_,_=>none
 | n+1,m,ag,al,y,am=>(ID N r0 b c d f g e l i (Wo r0 b c d f g e l i n) (fun af aa ab ac=>(Pc N r0 m b c d f g e l i N af aa ab ac)) m ag al y am)
def Zi (r0:LA→O R) (b:LA) (c:Nat) (d:Bool) (g:Nat) (l:LA) (k0:Int→Int→Int→Nat→LA→O R) (q1:Int→Int→Int→Nat→LA→O R) (ad ah f:Int) (e:Nat) (i:LA):O R :=
 (cond (decide (ad>0)) (HK N ([98]:List UInt8) ((e:Nat):Int) (fun bm=>(Eu N f 14 b c false d ah (fun ba dg bn=>(Ad N 2 b c false d dg (fun dh bo=>(cond (dh==1) (Ad N 200 b c false d bo (fun di dj=>(cond ((Nat.ble (e+1) 140737488355328)&&(Nat.ble ((e+1)*48) 140737488355328)) (k0 (wrap .i64 (ad - 1)) dj f (e+1) ((i.take (e*3))++[(.str bm),(.imm (bn.take (ba*1)) ba 1 false false),(.int .i64 (wrap .i64 (100+di)))])) none))) (cond ((Nat.ble (e+1) 140737488355328)&&(Nat.ble ((e+1)*48) 140737488355328)) (k0 (wrap .i64 (ad - 1)) bo f (e+1) ((i.take (e*3))++[(.str bm),(.imm (bn.take (ba*1)) ba 1 false false),(.int .i64 0)])) none)))))))) (q1 ((e:Nat):Int) 1 ah 0 []))
def Mt (r0:LA→O R) (b:LA) (c:Nat) (d:Bool) (g:Nat) (l:LA):Nat→Int→Int→Int→Nat→LA→O R
 | 0,_,_,_,_,_=>none
 | n+1,ad,ah,f,e,i=>(Zi N r0 b c d g l (Mt r0 b c d g l n) (fun m ag al y am=>(Wo N r0 b c d f g e l i N m ag al y am)) ad ah f e i)
def m9 (r0:LA→O R) (q0:Nat→LA→Int→Int→Int→Nat→LA→O R) (b:LA) (c:Nat) (ay d:Bool):O R :=
 (Aja N b c false d (Ad N 3 b c false d 0 (fun bp dk=>(Eu N (wrap .i64 (1+bp)) 5 b c false d dk (fun g dl l=>(Ad N 4 b c false d dl (fun dm dn=>(q0 g l (wrap .i64 (1+dm)) dn (wrap .i64 (1+bp)) 0 []))))))))
def RD:=(Ai (fun (N:Nat) (b:LA) (c:Nat) (ay d:Bool) (r0:LA→O R)=>(m9 N r0 (fun g l ad ah f e i=>(Mt N r0 b c d g l N ad ah f e i)) b c ay d))).1
theorem sj (b c ay d r0):(@RD R N b c ay d r0)=(m9 N r0 (fun g l ad ah f e i=>(Mt N r0 b c d g l N ad ah f e i)) b c ay d):=by rw[RD,(Ai _).2]
def zL:Hints:={ H:=(hS hL (hS hL (hS hL (hS hL (hS (hS hL (hS (hP [2,3,4,5] hL) hL)) (hS hL (hS (hS hL (hS (hP [2,3,4,7,8] hL) hL)) (hS (hS hL (hS (hP [2,3,4,7,9] (hJ [2,3,4,7,9] hL hL)) hL)) (hS (hS hL (hS (hP [2,3,4,7,11] hL) hL)) (hJ [2,3,4,7] hL (hJ [2,3,4] hL (hS (hS hL (hS (hP [2,3,4,13] (hJ [2,3,4,13] hL hL)) hL)) hL)))))))))))),modes:=[(3,0)],cob:=[23,44,192] }
def Agi:Gm:=[(96,Ayq N),(97,Jc N),(98,pw N),(99,QG N),(100,uu N),(101,vA N),(102,lm N),(103,m7 N)]
def Mu (F:KF R):=Ki Tryz.f42 zL (Agi N) [] N F
def B9 (F:KF R):LA→O R:=(fun dp=>F (.pagg dp false) [])
def At6 (m:Int) (b:LA) (c:Nat) (d:Bool) (f:Int) (g e:Nat) (l i:LA) (au av:Int) (an:Nat) (aw:LA):St:=⟨[(2,(op 0)),(3,(op 1)),(4,(op 2)),(7,(iv m)),(9,(iv au))],(hq [(bN 0 [(iv 0),.nsl,.nsl,.nsl,.nsl,.nsl,.nsl,.nsl]),(bN 0 [(.imm b c 1 false d),(iv av)]),(bN 0 [(iv f),(.own 300003 0 g),(.own 300004 0 e),(.own 300005 0 an),(.own 300006 0 0),(.own 300007 0 0),(.own 300008 0 0),(.own 300009 0 0)]),(bQ 1 l),(bQ 3 i),(bQ 12 aw),(bQ 22 []),(bQ 9 []),(bQ 5 []),(bQ 4 [])])⟩
def At7 (F:KF R) (Q2:St→O R):=Mu N F [1,1,1,1,1,1,1,0,1,0,0,1] [Q2]
def At8 (b:LA) (c:Nat) (d:Bool) (f:Int) (g e p o s u:Nat) (l i q r t v:LA) (ar ax:Int) (w:Nat) (ao:LA):St:=⟨[(2,(op 0)),(3,(op 1)),(4,(op 2)),(13,(iv ar))],(hq [(bN 0 [(iv 0),.nsl,.nsl,.nsl,.nsl,.nsl,.nsl,.nsl]),(bN 0 [(.imm b c 1 false d),(iv ax)]),(bN 0 [(iv f),(.own 300003 0 g),(.own 300004 0 e),(.own 300005 0 p),(.own 300006 0 o),(.own 300007 0 s),(.own 300008 0 u),(.own 300009 0 w)]),(bQ 1 l),(bQ 3 i),(bQ 12 q),(bQ 22 r),(bQ 9 t),(bQ 5 v),(bQ 4 ao)])⟩
def At9 (F:KF R) (Q7:St→O R):=Mu N F [1,1,1,1,1,1,1,1,1,1,1,0,1,0,0,1] [Q7]
def zM (b:LA) (c:Nat) (d:Bool) (f:Int) (g e p o s u:Nat) (l i q r t v:LA) (ae ai:Int) (x:Nat) (z:LA):St:=⟨[(2,(op 0)),(3,(op 1)),(4,(op 2)),(13,(iv ae))],(hq [(bN 0 [(iv 0),.nsl,.nsl,.nsl,.nsl,.nsl,.nsl,.nsl]),(bN 0 [(.imm b c 1 false d),(iv ai)]),(bN 0 [(iv f),(.own 300003 0 g),(.own 300004 0 e),(.own 300005 0 p),(.own 300006 0 o),(.own 300007 0 s),(.own 300008 0 u),(.own 300009 0 x)]),(bQ 1 l),(bQ 3 i),(bQ 12 q),(bQ 22 r),(bQ 9 t),(bQ 5 v),(bQ 4 z)])⟩
def zN (F:KF R):=Mu N F [1,1,1,1,1,1,1,1,1,1,1,0,1,0] []
def Aua (b:LA) (c:Nat) (d:Bool) (f:Int) (g e p o s:Nat) (l i q r t:LA) (ap:Int) (u:Nat) (v:LA):St:=⟨[(2,(op 0)),(3,(op 1)),(4,(op 2))],(hq [(bN 0 [(iv 0),.nsl,.nsl,.nsl,.nsl,.nsl,.nsl,.nsl]),(bN 0 [(.imm b c 1 false d),(iv ap)]),(bN 0 [(iv f),(.own 300003 0 g),(.own 300004 0 e),(.own 300005 0 p),(.own 300006 0 o),(.own 300007 0 s),(.own 300008 0 u),(.own 300009 0 0)]),(bQ 1 l),(bQ 3 i),(bQ 12 q),(bQ 22 r),(bQ 9 t),(bQ 5 v),(bQ 4 [])])⟩
def Aub (F:KF R):=Mu N F [1,1,1,1,1,1,1,1,1,1,1] []
def Auc (m:Int) (b:LA) (c:Nat) (d:Bool) (f:Int) (g e p o:Nat) (l i q r:LA) (aq:Int) (s:Nat) (t:LA):St:=⟨[(2,(op 0)),(3,(op 1)),(4,(op 2)),(7,(iv m))],(hq [(bN 0 [(iv 0),.nsl,.nsl,.nsl,.nsl,.nsl,.nsl,.nsl]),(bN 0 [(.imm b c 1 false d),(iv aq)]),(bN 0 [(iv f),(.own 300003 0 g),(.own 300004 0 e),(.own 300005 0 p),(.own 300006 0 o),(.own 300007 0 s),(.own 300008 0 0),(.own 300009 0 0)]),(bQ 1 l),(bQ 3 i),(bQ 12 q),(bQ 22 r),(bQ 9 t),(bQ 5 []),(bQ 4 [])])⟩
def Aud (F:KF R):=Mu N F [1,1,1,1,1,1,1,1,1,1] []
def Aue (m:Int) (b:LA) (c:Nat) (d:Bool) (f:Int) (g e:Nat) (l i:LA) (aj ak:Int) (p o:Nat) (q r:LA):St:=⟨[(2,(op 0)),(3,(op 1)),(4,(op 2)),(7,(iv m)),(11,(iv aj))],(hq [(bN 0 [(iv 0),.nsl,.nsl,.nsl,.nsl,.nsl,.nsl,.nsl]),(bN 0 [(.imm b c 1 false d),(iv ak)]),(bN 0 [(iv f),(.own 300003 0 g),(.own 300004 0 e),(.own 300005 0 p),(.own 300006 0 o),(.own 300007 0 0),(.own 300008 0 0),(.own 300009 0 0)]),(bQ 1 l),(bQ 3 i),(bQ 12 q),(bQ 22 r),(bQ 9 []),(bQ 5 []),(bQ 4 [])])⟩
def Auf (F:KF R):=Mu N F [1,1,1,1,1,1,1,1,0,1,0] []
def zO (m:Int) (b:LA) (c:Nat) (d:Bool) (f:Int) (g e:Nat) (l i:LA) (af aa:Int) (ab:Nat) (ac:LA):St:=⟨[(2,(op 0)),(3,(op 1)),(4,(op 2)),(7,(iv m)),(9,(iv af))],(hq [(bN 0 [(iv 0),.nsl,.nsl,.nsl,.nsl,.nsl,.nsl,.nsl]),(bN 0 [(.imm b c 1 false d),(iv aa)]),(bN 0 [(iv f),(.own 300003 0 g),(.own 300004 0 e),(.own 300005 0 ab),(.own 300006 0 0),(.own 300007 0 0),(.own 300008 0 0),(.own 300009 0 0)]),(bQ 1 l),(bQ 3 i),(bQ 12 ac),(bQ 22 []),(bQ 9 []),(bQ 5 []),(bQ 4 [])])⟩
def zP (F:KF R):=Mu N F [1,1,1,1,1,1,1,0,1,0] []
def Aug (b:LA) (c:Nat) (d:Bool) (f:Int) (g e:Nat) (l i:LA) (m ag al:Int) (y:Nat) (am:LA):St:=⟨[(2,(op 0)),(3,(op 1)),(4,(op 2)),(7,(iv m)),(8,(iv ag))],(hq [(bN 0 [(iv 0),.nsl,.nsl,.nsl,.nsl,.nsl,.nsl,.nsl]),(bN 0 [(.imm b c 1 false d),(iv al)]),(bN 0 [(iv f),(.own 300003 0 g),(.own 300004 0 e),(.own 300005 0 y),(.own 300006 0 0),(.own 300007 0 0),(.own 300008 0 0),(.own 300009 0 0)]),(bQ 1 l),(bQ 3 i),(bQ 12 am),(bQ 22 []),(bQ 9 []),(bQ 5 []),(bQ 4 [])])⟩
def Auh (F:KF R):=Mu N F [1,1,1,1,1,1,0,1,0] []
def Aui (b:LA) (c:Nat) (d:Bool) (g:Nat) (l:LA) (ad ah f:Int) (e:Nat) (i:LA):St:=⟨[(2,(op 0)),(3,(op 1)),(4,(op 2)),(5,(iv ad))],(hq [(bN 0 [(iv 0),.nsl,.nsl,.nsl,.nsl,.nsl,.nsl,.nsl]),(bN 0 [(.imm b c 1 false d),(iv ah)]),(bN 0 [(iv f),(.own 300003 0 g),(.own 300004 0 e),(.own 300005 0 0),(.own 300006 0 0),(.own 300007 0 0),(.own 300008 0 0),(.own 300009 0 0)]),(bQ 1 l),(bQ 3 i),(bQ 12 []),(bQ 22 []),(bQ 9 []),(bQ 5 []),(bQ 4 [])])⟩
def Auj (F:KF R):=Mu N F [1,1,1,1,0,1,0] []
theorem Ac1 (Q2:St→O R) (F:KF R) (m:Int) (b:LA) (c:Nat) (d:Bool) (f:Int) (g e:Nat) (l i:LA):∀ (au av:Int) (an:Nat) (aw:LA),B8 (At7 N F Q2) (At6 m b c d f g e l i au av an aw)=(RA N (fun af aa ab ac=>Q2 (zO m b c d f g e l i af aa ab ac)) (B9 F) m b c d f g e l i au av an aw):=by
 intro au av an aw
 kernel_rfl
theorem Ac2 (Q7:St→O R) (F:KF R) (b:LA) (c:Nat) (d:Bool) (f:Int) (g e p o s u:Nat) (l i q r t v:LA):∀ (ar ax:Int) (w:Nat) (ao:LA),B8 (At9 N F Q7) (At8 b c d f g e p o s u l i q r t v ar ax w ao)=(RB N (fun ae ai x z=>Q7 (zM b c d f g e p o s u l i q r t v ae ai x z)) (B9 F) b c d f g e p o s u l i q r t v ar ax w ao):=by
 intro ar ax w ao
 kernel_rfl
theorem gg (F:KF R) (b:LA) (c:Nat) (d:Bool) (f:Int) (g e p o s u:Nat) (l i q r t v:LA):∀ (n:Nat) (ae ai:Int) (x:Nat) (z:LA),Ak (zN N F) n (zM b c d f g e p o s u l i q r t v ae ai x z)=(Ij N (B9 F) b c d f g e p o s u l i q r t v n ae ai x z)
 | 0,_,_,_,_=>by kernel_rfl
 | n+1,ae,ai,x,z=>have e0:=(funext fun ae=>funext fun ai=>funext fun x=>funext fun z=>(gg F b c d f g e p o s u l i q r t v n ae ai x z))
  Eq.trans (by kernel_rfl) (PQ (Zf N (B9 F) b c d f g e p o s u l i q r t v · · ae ai x z) e0 (funext fun ar=>funext fun ax=>funext fun w=>funext fun ao=>(A2 ..).trans ((Ac2 N (Ak (zN N F) n) F b c d f g e p o s u l i q r t v ar ax w ao).trans (Bv (RB N · (B9 F) b c d f g e p o s u l i q r t v ar ax w ao) e0))):_)
theorem Ac3 (F:KF R) (b:LA) (c:Nat) (d:Bool) (f:Int) (g e p o s:Nat) (l i q r t:LA):∀ (ap:Int) (u:Nat) (v:LA),B8 (Aub N F) (Aua b c d f g e p o s l i q r t ap u v)=(RC N (B9 F) b c d f g e p o s l i q r t ap u v):=by
 intro ap u v
 exact Eq.trans (by kernel_rfl) (Bv (aO N (B9 F) b c d f g e p o s l i q r t · ap u v) (funext fun ae=>funext fun ai=>funext fun x=>funext fun z=>(Ac ..).trans (gg N F b c d f g e p o s u l i q r t v N ae ai x z)):_)
theorem Ac4 (F:KF R) (m:Int) (b:LA) (c:Nat) (d:Bool) (f:Int) (g e p o:Nat) (l i q r:LA):∀ (aq:Int) (s:Nat) (t:LA),B8 (Aud N F) (Auc m b c d f g e p o l i q r aq s t)=(FK N (B9 F) m b c d f g e p o l i q r aq s t):=by
 intro aq s t
 exact Eq.trans (by kernel_rfl) (Bv (IC N (B9 F) m b c d f g e p o l i q r · aq s t) (funext fun ap=>funext fun u=>funext fun v=>(A2 ..).trans (Ac3 N F b c d f g e p o s l i q r t ap u v)):_)
theorem gh (F:KF R) (m:Int) (b:LA) (c:Nat) (d:Bool) (f:Int) (g e:Nat) (l i:LA):∀ (n:Nat) (aj ak:Int) (p o:Nat) (q r:LA),Ak (Auf N F) n (Aue m b c d f g e l i aj ak p o q r)=(Pb N (B9 F) m b c d f g e l i n aj ak p o q r)
 | 0,_,_,_,_,_,_=>by kernel_rfl
 | n+1,aj,ak,p,o,q,r=>Eq.trans (by kernel_rfl) (PQ (Zg N (B9 F) m b c d f g e l i · · aj ak p o q r) (funext fun aj=>funext fun ak=>funext fun p=>funext fun o=>funext fun q=>funext fun r=>(gh F m b c d f g e l i n aj ak p o q r)) (funext fun aq=>funext fun s=>funext fun t=>(A2 ..).trans (Ac4 N F m b c d f g e p o l i q r aq s t)):_)
theorem gi (F:KF R) (m:Int) (b:LA) (c:Nat) (d:Bool) (f:Int) (g e:Nat) (l i:LA):∀ (n:Nat) (af aa:Int) (ab:Nat) (ac:LA),Ak (zP N F) n (zO m b c d f g e l i af aa ab ac)=(Pc N (B9 F) m b c d f g e l i n af aa ab ac)
 | 0,_,_,_,_=>by kernel_rfl
 | n+1,af,aa,ab,ac=>have e0:=(funext fun af=>funext fun aa=>funext fun ab=>funext fun ac=>(gi F m b c d f g e l i n af aa ab ac))
  Eq.trans (by kernel_rfl) (A5y (Zh N (B9 F) m b c d f g e l i · · · af aa ab ac) e0 (funext fun au=>funext fun av=>funext fun an=>funext fun aw=>(A2 ..).trans ((Ac1 N (Ak (zP N F) n) F m b c d f g e l i au av an aw).trans (Bv (RA N · (B9 F) m b c d f g e l i au av an aw) e0))) (funext fun aj=>funext fun ak=>funext fun p=>funext fun o=>funext fun q=>funext fun r=>(Ac ..).trans (gh N F m b c d f g e l i N aj ak p o q r)):_)
theorem gj (F:KF R) (b:LA) (c:Nat) (d:Bool) (f:Int) (g e:Nat) (l i:LA):∀ (n:Nat) (m ag al:Int) (y:Nat) (am:LA),Ak (Auh N F) n (Aug b c d f g e l i m ag al y am)=(Wo N (B9 F) b c d f g e l i n m ag al y am)
 | 0,_,_,_,_,_=>by kernel_rfl
 | n+1,m,ag,al,y,am=>Eq.trans (by kernel_rfl) (PQ (ID N (B9 F) b c d f g e l i · · m ag al y am) (funext fun m=>funext fun ag=>funext fun al=>funext fun y=>funext fun am=>(gj F b c d f g e l i n m ag al y am)) (funext fun af=>funext fun aa=>funext fun ab=>funext fun ac=>(Ac ..).trans (gi N F m b c d f g e l i N af aa ab ac)):_)
theorem gk (F:KF R) (b:LA) (c:Nat) (d:Bool) (g:Nat) (l:LA):∀ (n:Nat) (ad ah f:Int) (e:Nat) (i:LA),Ak (Auj N F) n (Aui b c d g l ad ah f e i)=(Mt N (B9 F) b c d g l n ad ah f e i)
 | 0,_,_,_,_,_=>by kernel_rfl
 | n+1,ad,ah,f,e,i=>Eq.trans (by kernel_rfl) (PQ (Zi N (B9 F) b c d g l · · ad ah f e i) (funext fun ad=>funext fun ah=>funext fun f=>funext fun e=>funext fun i=>(gk F b c d g l n ad ah f e i)) (funext fun m=>funext fun ag=>funext fun al=>funext fun y=>funext fun am=>(Ac ..).trans (gj N F b c d f g e l i N m ag al y am)):_)
theorem zQ (b:LA) (c:Nat) (ay d:Bool) (F:KF R):C7 (Agi N) zL N 42 [(.imm b c 1 ay d)] [] F=(RD N b c ay d (B9 F)):=by
 rw[sj]
 exact Eq.trans (by kernel_rfl) (Bv (m9 N (B9 F) · b c ay d) (funext fun g=>funext fun l=>funext fun ad=>funext fun ah=>funext fun f=>funext fun e=>funext fun i=>(Ac ..).trans (gk N F b c d g l N ad ah f e i)):_)
def sk (a:LA) (h:Aj) (k:KF R):O R :=
 match a,h with
 | [(.imm b c 1 ay d)],[]=>(RD N b c ay d (B9 k))
 | _,_=>none
theorem zR:An N 42 @sk:=by
 intro R Q a h k j;unfold sk;split;exact A3 (zQ ..) (zQ ..) ⟨Ayr N,Jd N,pz N,QH N,uv N,vB N,ln N,m8 N,trivial⟩;exact A5
def zS:=A4 (zR N)
def zT:=C8 (zR N)
def Auk (N:Nat) (d e:Int) (c:Bool) (b:LA) (r0:Bool→LA→O R):O R :=
 (At .i64 (b.drop 11) fun f=>(cond (f==0) (cond ((Nat.beq 3 3)&&((Nat.ble 11 (b.length))&&(!false))) (r0 (c||false) (Cy b 8 [(.int .i64 d),(.int .i64 e),(.int .i64 0)])) none) (r0 c b)))
def U':=(Ai (@Auk R)).1
theorem Agj:@U' R=@Auk R:=(Ai _).2
def Apc (F:KF R):Bool→LA→O R:=(fun g i=>F (.tup []) [(100000,(bP g 0 i))])
theorem Apd (d e:Int) (c:Bool) (b:LA) (F:KF R):C7 [] Dx N 233 [(.optr 100000 0),(iv d),(iv e)] [(100000,(bP c 0 b))] F=(U' N d e c b (Apc F)):=by
 rw[Agj]
 kernel_rfl
def Agk (a:LA) (h:Aj) (k:KF R):O R :=
 match a,h with
 | [(.optr 100000 0),(.int .i64 d),(.int .i64 e)],[(100000,⟨false,false,true,c,0,b,false,none⟩)]=>(U' N d e c b (Apc k))
 | _,_=>none
theorem Ape:An N 233 @Agk:=by
 intro R Q a h k j;unfold Agk;split;exact A3 (Apd ..) (Apd ..) trivial;exact A5
def Zj:=A4 (Ape N)
def Zk:=C8 (Ape N)
def zU (N:Nat) (e:Bool) (d f:Int) (c:Bool) (b:LA) (r0:Bool→LA→O R):O R :=
 (At .i64 (b.drop 11) fun g=>(cond ((g==0)==true) (cond (cond true (!e) false) (cond ((Nat.beq 1 1)&&((Nat.ble 11 (b.length))&&(!false))) (cond ((Nat.beq 1 1)&&((Nat.ble 12 ((b.set 10 (.int .i64 d)).length))&&(!false))) (r0 ((c||false)||false) ((b.set 10 (.int .i64 d)).set 11 (.int .i64 f))) none) none) (r0 c b)) (r0 c b)))
def A1:=(Ai (@zU R)).1
theorem sn:@A1 R=@zU R:=(Ai _).2
def zV (F:KF R):Bool→LA→O R:=(fun i l=>F (.tup []) [(100000,(bP i 0 l))])
theorem zW (e:Bool) (d f:Int) (c:Bool) (b:LA) (F:KF R):C7 [] Dx N 236 [(.optr 100000 0),(.bool e),(iv d),(iv f)] [(100000,(bP c 0 b))] F=(A1 N e d f c b (zV F)):=by
 rw[sn]
 kernel_rfl
def sp (a:LA) (h:Aj) (k:KF R):O R :=
 match a,h with
 | [(.optr 100000 0),(.bool e),(.int .i64 d),(.int .i64 f)],[(100000,⟨false,false,true,c,0,b,false,none⟩)]=>(A1 N e d f c b (zV k))
 | _,_=>none
theorem zX:An N 236 @sp:=by
 intro R Q a h k j;unfold sp;split;exact A3 (zW ..) (zW ..) trivial;exact A5
def C9:=A4 (zX N)
def Da:=C8 (zX N)
def jl (b c f g:Int) (d:Bool) (e:LA) (r0:Bool→LA→O R):O R :=
 (cond ((decide (c≥f))==true) (A1 N (cond true (decide (c≤g)) false) b 3 d e (fun i l=>(r0 i l))) (A1 N false b 3 d e (fun m n=>(r0 m n))))
def Bc:=(Ai (@jl R)).1
theorem gn:@Bc R=@jl R:=(Ai _).2
def Apf:Gm:=[(236,C9 N)]
def m_ (F:KF R):Bool→LA→O R:=(fun o p=>F (.tup []) [(100000,(bP o 0 p))])
theorem mb (b c f g:Int) (d:Bool) (e:LA) (F:KF R):C7 (Apf N) Dx N 234 [(.optr 100000 0),(iv b),(iv c),(iv f),(iv g)] [(100000,(bP d 0 e))] F=(Bc N b c f g d e (m_ F)):=by
 rw[gn]
 kernel_rfl
def gp (a:LA) (h:Aj) (k:KF R):O R :=
 match a,h with
 | [(.optr 100000 0),(.int .i64 b),(.int .i64 c),(.int .i64 f),(.int .i64 g)],[(100000,⟨false,false,true,d,0,e,false,none⟩)]=>(Bc N b c f g d e (m_ k))
 | _,_=>none
theorem md:An N 234 @gp:=by
 intro R Q a h k j;unfold gp;split;exact A3 (mb ..) (mb ..) ⟨Da N,trivial⟩;exact A5
def Hb:=A4 (md N)
def Hc:=C8 (md N)
def X6 (r0:Bool→LA→O R) (c d e:Int) (f:LA) (b:Nat) (g i:Bool) (k0:Int→Int→Bool→LA→O R) (p l:Int) (o:Bool) (m:LA):O R :=
 (cond (decide (l<p)) (cond (Ah l b) (At .i64 (f.drop ((l.toNat)*1)) fun s=>(At .i64 (m.drop 11) fun t=>(cond (t != 0) (r0 o m) (Bc N c s d e o m (fun u v=>(k0 p (wrap .i64 (l+1)) u v)))))) none) (r0 o m))
def Mv (r0:Bool→LA→O R) (c d e:Int) (f:LA) (b:Nat) (g i:Bool):Nat→Int→Int→Bool→LA→O R
 | 0,_,_,_,_=>none
 | n+1,p,l,o,m=>(X6 N r0 c d e f b g i (Mv r0 c d e f b g i n) p l o m)
def RE (r0:Bool→LA→O R) (q0:Int→Int→Bool→LA→O R) (c:Int) (f:LA) (b:Nat) (g i:Bool) (d e:Int) (r:Bool) (q:LA):O R :=
 (At .i64 q fun w=>(A1 N (((b:Nat):Int)==w) c 4 r q (fun x y=>(q0 ((b:Nat):Int) 0 x y))))
def Nr:=(Ai (fun (N:Nat) (c:Int) (f:LA) (b:Nat) (g i:Bool) (d e:Int) (r:Bool) (q:LA) (r0:Bool→LA→O R)=>(RE N r0 (fun p l o m=>(Mv N r0 c d e f b g i N p l o m)) c f b g i d e r q))).1
theorem gq (c f b g i d e r q r0):(@Nr R N c f b g i d e r q r0)=(RE N r0 (fun p l o m=>(Mv N r0 c d e f b g i N p l o m)) c f b g i d e r q):=by rw[Nr,(Ai _).2]
def mf:Hints:={ H:=(hS hL (hS hL (hS (hP [0,1,3,4,23,24,25] hL) hL))) }
def sr:Gm:=[(236,C9 N),(234,Hb N)]
def Akf (F:KF R):=Ki Tryz.f235 mf (sr N) [100000] N F
def Uo (F:KF R):Bool→LA→O R:=(fun z aa=>F (.tup []) [(100000,(bP z 0 aa))])
def Akg (c d e:Int) (f:LA) (b:Nat) (g i:Bool) (p l:Int) (o:Bool) (m:LA):St:=⟨[(0,(.optr 100000 0)),(1,(iv c)),(3,(iv d)),(4,(iv e)),(23,(.imm f b 1 g i)),(24,(iv p)),(25,(iv l))],[(100000,(bP o 0 m))]⟩
def Akh (F:KF R):=Akf N F [1,1,0] []
theorem VA (F:KF R) (c d e:Int) (f:LA) (b:Nat) (g i:Bool):∀ (n:Nat) (p l:Int) (o:Bool) (m:LA),Ak (Akh N F) n (Akg c d e f b g i p l o m)=(Mv N (Uo F) c d e f b g i n p l o m)
 | 0,_,_,_,_=>by kernel_rfl
 | n+1,p,l,o,m=>Eq.trans (by kernel_rfl) (Bv (X6 N (Uo F) c d e f b g i · p l o m) (funext fun p=>funext fun l=>funext fun o=>funext fun m=>(VA F c d e f b g i n p l o m)):_)
theorem mg (c:Int) (f:LA) (b:Nat) (g i:Bool) (d e:Int) (r:Bool) (q:LA) (F:KF R):C7 (sr N) mf N 235 [(.optr 100000 0),(iv c),(.imm f b 1 g i),(iv d),(iv e)] [(100000,(bP r 0 q))] F=(Nr N c f b g i d e r q (Uo F)):=by
 rw[gq]
 exact Eq.trans (by kernel_rfl) (Bv (RE N (Uo F) · c f b g i d e r q) (funext fun p=>funext fun l=>funext fun o=>funext fun m=>(Ac ..).trans (VA N F c d e f b g i N p l o m)):_)
def gr (a:LA) (h:Aj) (k:KF R):O R :=
 match a,h with
 | [(.optr 100000 0),(.int .i64 c),(.imm f b 1 g i),(.int .i64 d),(.int .i64 e)],[(100000,⟨false,false,true,r,0,q,false,none⟩)]=>(Nr N c f b g i d e r q (Uo k))
 | _,_=>none
theorem mh:An N 235 @gr:=by
 intro R Q a h k j;unfold gr;split;exact A3 (mg ..) (mg ..) ⟨Da N,Hc N,trivial⟩;exact A5
def RF:=A4 (mh N)
def RG:=C8 (mh N)
def IE (r0:Bool→LA→O R) (c:Bool) (b:LA):O R :=
 (Bw 12 (b.drop 3) fun ao r=>(A1 N (decide (((r:Nat):Int)≤64)) 3 8 c b (fun s g=>(Bw 22 (g.drop 4) fun ap t=>(A1 N (decide (((t:Nat):Int)≤16)) 4 8 s g (fun u i=>(Bw 9 (i.drop 5) fun aq v=>(A1 N (decide (((v:Nat):Int)≤8)) 5 8 u i (fun w l=>(Bw 5 (l.drop 6) fun ar x=>(A1 N (decide (((x:Nat):Int)≤8)) 6 8 w l (fun y m=>(Bw 4 (m.drop 7) fun au z=>(A1 N (decide (((z:Nat):Int)≤64)) 7 8 y m (fun aa ab=>(r0 aa ab))))))))))))))))
def eE (r0:Bool→LA→O R) (q0:Bool→LA→O R) (d:Bool) (e:LA):O R :=
 (U' N 0 0 d e (fun ac n=>(At .i64 n fun ad=>(Bc N 0 ad 1 24 ac n (fun o p=>(Bw 1 (p.drop 1) fun ae af=>(Nr N 1 ae af false o 0 1048576 o p (fun q f=>(Bw 3 (f.drop 2) fun av ag=>(cond ((decide (((ag:Nat):Int)≥1))==true) (Bw 3 (f.drop 2) fun aw ah=>(A1 N (cond true (decide (((ah:Nat):Int)≤32)) false) 2 8 q f (fun ai aj=>(q0 ai aj)))) (A1 N false 2 8 q f (fun ak al=>(q0 ak al)))))))))))))
def FL:=(Ai (fun (N:Nat) (d:Bool) (e:LA) (r0:Bool→LA→O R)=>(eE N r0 (fun c b=>(IE N r0 c b)) d e))).1
theorem mj (d e r0):(@FL R N d e r0)=(eE N r0 (fun c b=>(IE N r0 c b)) d e):=by rw[FL,(Ai _).2]
def su:Hints:={ H:=(hS hL (hS hL (hS hL (hJ [0] hL hL)))) }
def zY:Gm:=[(233,Zj N),(234,Hb N),(235,RF N),(236,C9 N)]
def Apg (F:KF R):=Ki Tryz.f171 su (zY N) [100000] N F
def IF (F:KF R):Bool→LA→O R:=(fun am an=>F (.tup []) [(100000,(bP am 0 an))])
def Aph (c:Bool) (b:LA):St:=⟨[(0,(.optr 100000 0))],[(100000,(bP c 0 b))]⟩
def Api (F:KF R):=Apg N F [1,1,1,1] []
theorem zZ (F:KF R):∀ (c:Bool) (b:LA),B8 (Api N F) (Aph c b)=(IE N (IF F) c b):=by
 intro c b
 kernel_rfl
theorem sv (d:Bool) (e:LA) (F:KF R):C7 (zY N) su N 171 [(.optr 100000 0)] [(100000,(bP d 0 e))] F=(FL N d e (IF F)):=by
 rw[mj]
 exact Eq.trans (by kernel_rfl) (Bv (eE N (IF F) · d e) (funext fun c=>funext fun b=>(A2 ..).trans (zZ N F c b)):_)
def mm (a:LA) (h:Aj) (k:KF R):O R :=
 match a,h with
 | [(.optr 100000 0)],[(100000,⟨false,false,true,d,0,e,false,none⟩)]=>(FL N d e (IF k))
 | _,_=>none
theorem sw:An N 171 @mm:=by
 intro R Q a h k j;unfold mm;split;exact A3 (sv ..) (sv ..) ⟨Zk N,Hc N,RG N,Da N,trivial⟩;exact A5
def Apj:=A4 (sw N)
def Apk:=C8 (sw N)
def IG (N:Nat) (r0:Bool→O R) (b:List UInt8) (k1:Int→Int→O R) (d c:Int):O R :=
 (cond (decide (c<d)) (cond (Ah c (b.length)) (cond ((decide (((UInt8.toNat (List.getD b (c.toNat) 0):Nat):Int)<97))==false) (cond ((cond false true (decide (((UInt8.toNat (List.getD b (c.toNat) 0):Nat):Int)>122)))==true) (cond ((decide (((UInt8.toNat (List.getD b (c.toNat) 0):Nat):Int)<48))==false) (cond ((cond true (cond false true (decide (((UInt8.toNat (List.getD b (c.toNat) 0):Nat):Int)>57))) false)==true) (cond (cond true (((UInt8.toNat (List.getD b (c.toNat) 0):Nat):Int) != 95) false) (r0 false) (k1 d (wrap .i64 (c+1)))) (k1 d (wrap .i64 (c+1)))) (cond (cond true (((UInt8.toNat (List.getD b (c.toNat) 0):Nat):Int) != 95) false) (r0 false) (k1 d (wrap .i64 (c+1))))) (k1 d (wrap .i64 (c+1)))) (cond ((decide (((UInt8.toNat (List.getD b (c.toNat) 0):Nat):Int)<48))==false) (cond ((cond true (cond false true (decide (((UInt8.toNat (List.getD b (c.toNat) 0):Nat):Int)>57))) false)==true) (cond (cond true (((UInt8.toNat (List.getD b (c.toNat) 0):Nat):Int) != 95) false) (r0 false) (k1 d (wrap .i64 (c+1)))) (k1 d (wrap .i64 (c+1)))) (cond (cond true (((UInt8.toNat (List.getD b (c.toNat) 0):Nat):Int) != 95) false) (r0 false) (k1 d (wrap .i64 (c+1)))))) none) (r0 true))
def Wp (r0:Bool→O R) (b:List UInt8):Nat→Int→Int→O R
 | 0,_,_=>none
 | n+1,d,c=>(IG N r0 b (Wp r0 b n) d c)
def aP (N:Nat) (r0:Bool→O R) (b:List UInt8) (q1:Int→Int→O R):O R :=
 (q1 (((b.length):Nat):Int) 0)
def RH (r0:Bool→O R) (b:List UInt8):O R:=(aP N r0 b (fun d c=>(Wp N r0 b N d c)))
def mo (N:Nat) (r0:Bool→O R) (q0:O R) (b:List UInt8):O R :=
 (cond ((decide ((((b.length):Nat):Int)<1))==false) (cond ((cond false true (decide ((((b.length):Nat):Int)>16)))==false) (cond ((cond false true (b==([99,111,114,114,101,99,116,105,118,101]:List UInt8)))==false) (cond (Ah 0 (b.length)) (cond ((cond false true (decide (((UInt8.toNat (List.getD b 0 0):Nat):Int)<97)))==false) (cond (Ah 0 (b.length)) (cond (cond false true (decide (((UInt8.toNat (List.getD b 0 0):Nat):Int)>122))) (r0 false) q0) none) (r0 false)) none) (r0 false)) (r0 false)) (r0 false))
def Up:=(Ai (fun (N:Nat) (b:List UInt8) (r0:Bool→O R)=>(mo N r0 (RH N r0 b) b))).1
theorem sx (b r0):(@Up R N b r0)=(mo N r0 (RH N r0 b) b):=by rw[Up,(Ai _).2]
def z1:Hints:={ H:=(hS hL (hJ [0] hL (hS (hS hL (hS (hP [0,28,29] hL) hL)) hL))) }
def z6 (F:KF R):=Ki Tryz.f284 z1 [] [] N F
def Sm (F:KF R):Bool→O R:=(fun e=>F (.bool e) [])
def Aul (b:List UInt8) (d c:Int):St:=⟨[(0,(.str b)),(28,(iv d)),(29,(iv c))],[]⟩
def Aum (F:KF R):=z6 N F [1,1,0,1,0] []
def Aun (b:List UInt8):St:=⟨[(0,(.str b))],[]⟩
def Auo (F:KF R):=z6 N F [1,1] []
theorem gt (F:KF R) (b:List UInt8):∀ (n:Nat) (d c:Int),Ak (Aum N F) n (Aul b d c)=(Wp N (Sm F) b n d c)
 | 0,_,_=>by kernel_rfl
 | n+1,d,c=>Eq.trans (by kernel_rfl) (Bv (IG N (Sm F) b · d c) (funext fun d=>funext fun c=>(gt F b n d c)):_)
theorem Ac5 (F:KF R) (b:List UInt8):B8 (Auo N F) (Aun b)=(RH N (Sm F) b):=by
 exact Eq.trans (by kernel_rfl) (Bv (aP N (Sm F) b ·) (funext fun d=>funext fun c=>(Ac ..).trans (gt N F b N d c)):_)
theorem z7 (b:List UInt8) (F:KF R):C7 [] z1 N 284 [(.str b)] [] F=(Up N b (Sm F)):=by
 rw[sx]
 exact Eq.trans (by kernel_rfl) (Bv (mo N (Sm F) · b) ((A2 ..).trans (Ac5 N F b)):_)
def sy (a:LA) (h:Aj) (k:KF R):O R :=
 match a,h with
 | [(.str b)],[]=>(Up N b (Sm k))
 | _,_=>none
theorem z8:An N 284 @sy:=by
 intro R Q a h k j;unfold sy;split;exact A3 (z7 ..) (z7 ..) trivial;exact A5
def Wq:=A4 (z8 N)
def Wr:=C8 (z8 N)
end
end Gx

namespace Gx.Cf
open Go Go.Proofs
section
variable {R:Type}
def z_ (f:Bool) (H:Nat) (res:List Int) (bs:List BusD) (ls:List LineD) (us:List UnitD) (ss:List StoreD) (ts:List TieD) (os:List OutD):CaseD :=
 ⟨(H:Int),.of res false f,.of bs false f,.of ls false f,.of us false f,.of ss false f,.of ts false f,.of os false f⟩
structure BusG (i H:Nat) (b:BusD):Prop where
 name:b.name=[98,A54.getD i 0]
 dl:b.demand.l.length=H
 dr:∀ x ∈ b.demand.l,0≤x∧x<14
 shed:0≤b.shed∧b.shed<300
structure StoreG (nb:Nat) (x:StoreD):Prop where
 name:x.name=[115,48]
 bus:0≤x.bus∧x.bus<(nb:Int)
 cap:0≤x.capacity∧x.capacity<20
 ini:0≤x.initial∧x.initial≤x.capacity
 fin:0≤x.final∧x.final≤x.capacity
 ch:0≤x.charge∧x.charge<8
 dis:0≤x.discharge∧x.discharge<8
 eff:1≤x.eff.num∧x.eff.num≤4∧x.eff.den=4
structure TieG (nb H:Nat) (x:TieD):Prop where
 name:x.name=[116,48]
 bus:0≤x.bus∧x.bus<(nb:Int)
 il:x.imp.l.length=H
 ir:∀ y ∈ x.imp.l,0≤y∧y<12
 el:x.exp.l.length=H
 er:∀ y ∈ x.exp.l,0≤y∧y<12
 pl:x.price.l.length=H
 pr:∀ y ∈ x.price.l,0≤y∧y<40
structure LineH (nb:Nat) (i:Nat) (H:Int) (x:LineD):Prop where
 g:LineG i x.fr x.tl H x
 fr:0≤x.fr∧x.fr<(nb:Int)
 tx:0≤x.tl∧x.tl<(nb:Int)
 ne:x.fr≠x.tl
structure BaseG (H:Nat) (res:List Int) (bs:List BusD) (ls:List LineD) (us:List UnitD) (ss:List StoreD) (ts:List TieD):Prop where
 h:1≤H∧H≤3
 rl:res.length=H
 rr:∀ x ∈ res,0≤x∧x<5
 bl:1≤bs.length∧bs.length≤4
 bg:∀ i (h:i<bs.length),BusG i H bs[i]
 ll:ls.length≤7
 lg:∀ i (h:i<ls.length),LineH bs.length i H ls[i]
 ul:1≤us.length∧us.length≤3
 ug:∀ i (h:i<us.length),UnitG i bs.length H us[i]
 sl:ss.length≤1
 sg:∀ x ∈ ss,StoreG bs.length x
 tl:ts.length≤1
 tg:∀ x ∈ ts,TieG bs.length H x
structure OutsG (nl nu:Nat) (os:List OutD):Prop where
 l:os.length≤3
 g:∀ i (h:i<os.length),OutG i nl nu os[i]
theorem Agl {N:Nat} (hN:4096≤N) {f:Bool} {H:Nat} {d:List Int} {bs:List BusD} {ls:List LineD} {us:List UnitD} {ss:List StoreD} {ts:List TieD} {os:List OutD} (b:BaseG H d bs ls us ss ts) (g:OutsG ls.length us.length os):Small (z_ f H d bs ls us ss ts os) N:=by
 have h:=b.h;have rl:=b.rl;have bl:=b.bl;have ll:=b.ll;have ul:=b.ul;have sl:=b.sl;have tl:=b.tl;have ol:=g.l
 have fit:∀ n:Nat,n≤100→Es n N:=fun n hn=>⟨by omega,by omega⟩
 refine⟨by omega,fit _ (by simp only[z_,Sl.l];omega),fit _ (by simp only[z_,Sl.l];omega),fit _ (by simp only[z_,Sl.l];omega),fit _ (by simp only[z_,Sl.l];omega),fit _ (by simp only[z_,Sl.l];omega),fit _ (by simp only[z_,Sl.l];omega),fit _ (by simp only[z_,Sl.l];omega),
  fun x c=>?_,fun x c=>?_,fun x c=>?_,fun x c=>?_,fun x c=>?_,fun x c=>?_,fun x c=>?_,fun x c=>?_,fun x c=>?_,fun x c=>?_,by simp only[z_,Sl.l];omega⟩
 all_goals simp only[z_,Sl.l] at c
 ·obtain⟨i,hi,rfl⟩:=List.getElem_of_mem c;have:=(b.bg i hi).dl;exact fit _ (by omega)
 ·obtain⟨i,hi,rfl⟩:=List.getElem_of_mem c;have:=(b.lg i hi).g.aw;exact fit _ (by omega)
 ·obtain⟨i,hi,rfl⟩:=List.getElem_of_mem c;have:=(b.ug i hi).sl;exact fit _ (by omega)
 ·obtain⟨i,hi,rfl⟩:=List.getElem_of_mem c;have:=(b.ug i hi).aw;exact fit _ (by omega)
 ·have:=(b.tg x c).il;exact fit _ (by omega)
 ·have:=(b.tg x c).el;exact fit _ (by omega)
 ·have:=(b.tg x c).pl;exact fit _ (by omega)
 ·obtain⟨i,hi,rfl⟩:=List.getElem_of_mem c;have:=(g.g i hi).ll;exact fit _ (by omega)
 ·obtain⟨i,hi,rfl⟩:=List.getElem_of_mem c;have:=(g.g i hi).ml;exact fit _ (by omega)
 ·obtain⟨i,hi,rfl⟩:=List.getElem_of_mem c;have:=(g.g i hi).ml;omega
theorem A1h {α:Type} {e:α→LA} {sz:Nat} (b:∀ a,(e a).length=sz) (l:List α):(l.flatMap e).length=l.length*sz:=by
 induction l with
 | nil=>simp
 | cons a r c=>rw[List.flatMap_cons,List.length_append,c,b,List.length_cons,Nat.add_mul];omega
theorem Cc {α:Type} {e:α→LA} {sz n:Nat} (b:∀ a,(e a).length=sz) (l:List α) (hn:n=l.length):List.take (n*sz) (l.flatMap e)=l.flatMap e:=List.take_of_length_le (by rw[A1h b,hn];exact Nat.le_refl _)
theorem Pd {B:List Int} {n:Nat} (h:n=B.length):List.take (n*1) (Aq B)=B.flatMap JV:=by rw[h];exact Wn
theorem aQ {α:Type} {P:Nat→α→Prop} {l:List α} {x:α} (h:∀ i (h:i<l.length),P i l[i]) (c:P l.length x):∀ i (h:i<(l++[x]).length),P i (l++[x])[i]:=by
 intro i hi
 by_cases b:i<l.length
 ·rw[List.getElem_append_left b];exact h i b
 ·have:i=l.length:=by simp at hi;omega
  subst this
  simpa using c
theorem Aup {p:C1} (h:(Bp p==0)=true):p=none:=by
 rcases p with _ | ⟨x,e,b⟩
 ·rfl
 ·simp[Bp] at h;exact absurd h b
theorem Aki {N:Nat} {l:List Int} {o:Bool} (hN:4096≤N) (s:l.length≤9223372036854775807) {H:Nat} {d:List Int} {bs:List BusD} {ls:List LineD} {us:List UnitD} {ss:List StoreD} {ts:List TieD} (b:BaseG H d bs ls us ss ts):∀ (n fuel k:Nat) (os:List OutD),n<fuel→k≤l.length→os.length+n≤3→OutsG ls.length us.length os→(os=[]∨Dz (z_ true H d bs ls us ss ts os)=none) →
  ∃ e,OutsG ls.length us.length e∧(e=[]∨Dz (z_ true H d bs ls us ss ts e)=none)∧∀ K:LA→O R,Ij N K (Aq l) l.length o (H:Int) d.length bs.length ls.length us.length ss.length ts.length (Aq d) (bs.flatMap BusD.av) (ls.flatMap LineD.av) (us.flatMap UnitD.av) (ss.flatMap StoreD.av) (ts.flatMap TieD.av) fuel (n:Int) (k:Int) os.length (os.flatMap OutD.av)=K (z_ false H d bs ls us ss ts e).av
 | 0,fuel+1,k,os,_,u,_,g,m=>by
  refine⟨os,g,m,fun K=>?_⟩
  rw[Ij];unfold Zf
  rw[show decide (((0:Nat):Int)>0)=false from rfl,Pd rfl,Cc K8 _ rfl,Cc Cb _ rfl,Cc Dg _ rfl,Cc F0 _ rfl,Cc La _ rfl,Cc Db _ rfl]
  rfl
 | n+1,fuel+1,k,os,I,u,hn,g,m=>by
  by_cases v:ls.length=0
  ·refine⟨os,g,m,fun K=>?_⟩
   rw[Ij];unfold Zf
   rw[show decide ((ls.length:Int)>0)=false from decide_eq_false (by omega),show decide (((n+1:Nat):Int)>0)=true from decide_eq_true (by omega),Pd rfl,Cc K8 _ rfl,Cc Cb _ rfl,Cc Dg _ rfl,Cc F0 _ rfl,Cc La _ rfl,Cc Db _ rfl]
   rfl
  ·have y:=b.ul;have z:=b.ll
   obtain⟨x,q,gx,j,A⟩:=Apb (R:=R) (N:=N) (t:=false) (o:=o) (by omega) s (i:=os.length) (nl:=ls.length) (nu:=us.length) (by omega) (by omega) (by omega) k u
   have g':OutsG ls.length us.length (os++[x]):=⟨by simp;omega,aQ g.g gx⟩
   have sm:=Agl (f:=true) hN b g'
   have wn:IntKind.wrap .i64 (((n+1:Nat):Int) - 1)=(n:Int):=mM (by omega)
   have step:∀ K:LA→O R,Ij N K (Aq l) l.length o (H:Int) d.length bs.length ls.length us.length ss.length ts.length (Aq d) (bs.flatMap BusD.av) (ls.flatMap LineD.av) (us.flatMap UnitD.av) (ss.flatMap StoreD.av) (ts.flatMap TieD.av) (fuel+1) ((n+1:Nat):Int) (k:Int) os.length (os.flatMap OutD.av) =
     cond (Bp (Dz (z_ true H d bs ls us ss ts (os++[x])))==0)
      (Ij N K (Aq l) l.length o (H:Int) d.length bs.length ls.length us.length ss.length ts.length (Aq d) (bs.flatMap BusD.av) (ls.flatMap LineD.av) (us.flatMap UnitD.av) (ss.flatMap StoreD.av) (ts.flatMap TieD.av) fuel (n:Int) (q:Int) (os++[x]).length ((os++[x]).flatMap OutD.av))
      (Ij N K (Aq l) l.length o (H:Int) d.length bs.length ls.length us.length ss.length ts.length (Aq d) (bs.flatMap BusD.av) (ls.flatMap LineD.av) (us.flatMap UnitD.av) (ss.flatMap StoreD.av) (ts.flatMap TieD.av) fuel (n:Int) (q:Int) os.length (os.flatMap OutD.av)):=fun K=>by
    rw[Ij];unfold Zf RB
    have c1:(Nat.ble (0+os.length) 140737488355328&&Nat.ble ((0+os.length)*72) 140737488355328)=true:=by rw[Bx,Bx];simp;omega
    have C:(Nat.ble ((0+os.length)+1) 140737488355328&&Nat.ble (((0+os.length)+1)*72) 140737488355328)=true:=by rw[Bx,Bx];simp;omega
    have D:List.take ((0+os.length)*4) (List.take (os.length*4) (os.flatMap OutD.av))++List.take 4 (setCells [(.str ([]:List UInt8)),.nsl,(.bool false),.nsl] 0 (List.take 4 x.av))=(os++[x]).flatMap OutD.av:=by
     rw[Nat.zero_add,Cc Db _ rfl,Cc Db _ rfl]
     simp only[List.flatMap_append,List.flatMap_cons,List.flatMap_nil,List.append_nil]
     rfl
    have F:List.take (((0+os.length)+1)*4) ((os++[x]).flatMap OutD.av)=(os++[x]).flatMap OutD.av:=Cc Db _ (by simp)
    have G:(0+os.length)+1=(os++[x]).length:=by simp
    rw[show decide ((ls.length:Int)>0)=true from decide_eq_true (by omega),show decide (((n+1:Nat):Int)>0)=true from decide_eq_true (by omega)]
    simp only[beq_self_eq_true,cond_true]
    rw[A,show((Nat.beq 0 0)&&((Nat.beq (List.length x.av) 4)&&(Nat.beq 4 4)))=true from rfl,ct,c1,ct,show Nat.ble 4 (List.length x.av)=true from rfl,ct,show((Nat.beq (List.length (List.take 4 x.av)) 4)&&(Nat.ble 4 4))=true from rfl,ct,C,ct,D,F,G,Pd rfl,Cc K8 _ rfl,Cc Cb _ rfl,Cc Dg _ rfl,Cc F0 _ rfl,Cc La _ rfl]
    refine Eq.trans (aN (R:=R) (N:=N) (c:=z_ true H d bs ls us ss ts (os++[x])) (o:=true) sm hN) ?_
    rw[A37,show((Nat.beq 3 3)&&((Nat.ble 3 3)&&(!false)))=true from rfl,ct,wn]
   cases hq:Bp (Dz (z_ true H d bs ls us ss ts (os++[x])))==0 with
   | true =>
    obtain⟨e,a1,a2,a3⟩:=Aki hN s b n fuel q (os++[x]) (by omega) j (by simp;omega) g' (.inr (Aup hq))
    exact⟨e,a1,a2,fun K=>by rw[step,hq,ct,a3]⟩
   | false =>
    obtain⟨e,a1,a2,a3⟩:=Aki hN s b n fuel q os (by omega) j (by omega) g m
    exact⟨e,a1,a2,fun K=>by rw[step,hq,cf,a3]⟩
end
end Gx.Cf
