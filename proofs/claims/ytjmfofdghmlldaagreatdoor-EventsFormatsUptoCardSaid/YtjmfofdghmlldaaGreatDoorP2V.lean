/- A part of the proof: what it holds is said by each theorem. -/
import Derived.Test.YtjmfofdghmlldaaGreatDoorP1V
set_option linter.unusedVariables false
set_option linter.defProp false
set_option linter.unusedSimpArgs false
namespace Gx
open Go Go.Proofs
open IntKind (wrap)
set_option maxRecDepth 100000
noncomputable section
variable {R:Type} (N:Nat)
def Dt (N:Nat) (b c:List UInt8) (r0:Bool→O R):O R :=
 (cond ((decide ((((b.length):Nat):Int)≥(((c.length):Nat):Int)))==true) (cond ((decide ((0:Int)≤(0:Int)))&&((decide (0≤(((c.length):Nat):Int)))&&((decide ((((c.length):Nat):Int)≤(((b.length):Nat):Int)))&&(decide ((((b.length):Nat):Int)≤(((b.length):Nat):Int)))))) (r0 (cond true ((List.take (c.length) b)==c) false)) none) (r0 false))
def D3:=(Ag (@Dt R)).1
theorem Eo:@D3 R=@Dt R:=(Ag _).2
def Jh (F:KF R):Bool→O R:=(fun d=>F (.bool d) [])
theorem Ji (b c:List UInt8) (F:KF R):Cw [] Cr N 270 [(.str b),(.str c)] [] F=(D3 N b c (Jh F)):=by
 rw[Eo]
 kernel_rfl
def Iv (a:LA) (h:Aj) (k:KF R):O R :=
 match a,h with
 | [(.str b),(.str c)],[]=>(D3 N b c (Jh k))
 | _,_=>none
theorem Jj:An N 270 @Iv:=by
 intro R Q a h k j;unfold Iv;split;exact A2 (Ji ..) (Ji ..) trivial;exact A4
def U5:=A3 (Jj N)
def U6:=Cz (Jj N)
def Du (b c:List UInt8) (r0:List UInt8→Bool→O R):O R :=
 (D3 N b c (fun d=>(cond (!d) (r0 b false) (cond ((decide (0≤(((c.length):Nat):Int)))&&((decide ((((c.length):Nat):Int)≤(((b.length):Nat):Int)))&&((decide ((((b.length):Nat):Int)≤(((b.length):Nat):Int)))&&(decide ((((b.length):Nat):Int)≤(((b.length):Nat):Int)))))) (r0 (List.take ((b.length) - (c.length)) (List.drop (c.length) b)) true) none))))
def D4:=(Ag (@Du R)).1
theorem Ep:@D4 R=@Du R:=(Ag _).2
def Vm:F2:=[(270,U5 N)]
def Jk (F:KF R):List UInt8→Bool→O R:=(fun e f=>F (.tup [(.str e),(.bool f)]) [])
theorem Jl (b c:List UInt8) (F:KF R):Cw (Vm N) Cr N 218 [(.str b),(.str c)] [] F=(D4 N b c (Jk F)):=by
 rw[Ep]
 kernel_rfl
def Iw (a:LA) (h:Aj) (k:KF R):O R :=
 match a,h with
 | [(.str b),(.str c)],[]=>(D4 N b c (Jk k))
 | _,_=>none
theorem Jm:An N 218 @Iw:=by
 intro R Q a h k j;unfold Iw;split;exact A2 (Jl ..) (Jl ..) ⟨U6 N,trivial⟩;exact A4
def U7:=A3 (Jm N)
def U8:=Cz (Jm N)
def Mv (b c:List UInt8) (r0:List UInt8→Bool→O R):O R :=
 (D4 N b c (fun d e=>(r0 d e)))
def Fb:=(Ag (@Mv R)).1
theorem Om:@Fb R=@Mv R:=(Ag _).2
def iH:F2:=[(218,U7 N)]
def Z9 (F:KF R):List UInt8→Bool→O R:=(fun f g=>F (.tup [(.str f),(.bool g)]) [])
theorem AA (b c:List UInt8) (F:KF R):Cw (iH N) Cr N 145 [(.str b),(.str c)] [] F=(Fb N b c (Z9 F)):=by
 rw[Om]
 kernel_rfl
def W0 (a:LA) (h:Aj) (k:KF R):O R :=
 match a,h with
 | [(.str b),(.str c)],[]=>(Fb N b c (Z9 k))
 | _,_=>none
theorem AB:An N 145 @W0:=by
 intro R Q a h k j;unfold W0;split;exact A2 (AA ..) (AA ..) ⟨U8 N,trivial⟩;exact A4
def AC:=A3 (AB N)
def AD:=Cz (AB N)
def Th (N:Nat) (r0:Bool→O R) (b:List UInt8) (k0:Int→O R) (c:Int):O R :=
 (cond (decide (c<(((b.length):Nat):Int))) (cond ((decide ((((OD b c).1:Nat):Int)<48))==false) (cond (cond false true (decide ((((OD b c).1:Nat):Int)>57))) (r0 false) (k0 (c+(((OD b c).2:Nat):Int)))) (r0 false)) (r0 (!(b==([]:List UInt8)))))
def Ix (r0:Bool→O R) (b:List UInt8):Nat→Int→O R
 | 0,_=>none
 | n+1,c=>(Th N r0 b (Ix r0 b n) c)
def EF (N:Nat) (r0:Bool→O R) (q0:Int→O R) (b:List UInt8):O R :=
 (q0 0)
def Um:=(Ag (fun (N:Nat) (b:List UInt8) (r0:Bool→O R)=>(EF N r0 (fun c=>(Ix N r0 b N c)) b))).1
theorem WS (b r0):(@Um R N b r0)=(EF N r0 (fun c=>(Ix N r0 b N c)) b):=by rw[Um,(Ag _).2]
def c_:Hints:={ H:=(hS hL (hS (hS hL (hS (hP [0,6] hL) hL)) hL)) }
def Acp (F:KF R):=Ju Tryz.f149 c_ [] [] N F
def Pp (F:KF R):Bool→O R:=(fun d=>F (.bool d) [])
def Acq (b:List UInt8) (c:Int):St:=⟨[(0,(.str b)),(6,(.omap 300000))],(hq [⟨false,false,true,false,1,[(.str b),(iv c)],true,none⟩])⟩
def Acr (F:KF R):=Acp N F [1,0,1,0] []
theorem J_ (F:KF R) (b:List UInt8):∀ (n:Nat) (c:Int),Ak (Acr N F) n (Acq b c)=(Ix N (Pp F) b n c)
 | 0,_=>by kernel_rfl
 | n+1,c=>Eq.trans (by kernel_rfl) (Bt (Th N (Pp F) b · c) (funext fun c=>(J_ F b n c)):_)
theorem dA (b:List UInt8) (F:KF R):Cw [] c_ N 149 [(.str b)] [] F=(Um N b (Pp F)):=by
 rw[WS]
 exact Eq.trans (by kernel_rfl) (Bt (EF N (Pp F) · b) (funext fun c=>(Ad ..).trans (J_ N F b N c)):_)
def WT (a:LA) (h:Aj) (k:KF R):O R :=
 match a,h with
 | [(.str b)],[]=>(Um N b (Pp k))
 | _,_=>none
theorem dB:An N 149 @WT:=by
 intro R Q a h k j;unfold WT;split;exact A2 (dA ..) (dA ..) trivial;exact A4
def Acs:=A3 (dB N)
def Acu:=Cz (dB N)
def dC (b:List UInt8) (r0:Bool→O R):O R :=
 (Um N b (fun c=>(cond (c==true) (cond ((b==([48]:List UInt8))==false) (cond (Ae 0 (b.length)) (r0 (cond true (cond false true (((UInt8.toNat (List.getD b 0 0):Nat):Int) != 48)) false)) none) (r0 true)) (r0 false))))
def HA:=(Ag (@dC R)).1
theorem dD:@HA R=@dC R:=(Ag _).2
def Aol:F2:=[(149,Acs N)]
def j5 (F:KF R):Bool→O R:=(fun d=>F (.bool d) [])
theorem j6 (b:List UInt8) (F:KF R):Cw (Aol N) Cr N 146 [(.str b)] [] F=(HA N b (j5 F)):=by
 rw[dD]
 kernel_rfl
def dE (a:LA) (h:Aj) (k:KF R):O R :=
 match a,h with
 | [(.str b)],[]=>(HA N b (j5 k))
 | _,_=>none
theorem j7:An N 146 @dE:=by
 intro R Q a h k j;unfold dE;split;exact A2 (j6 ..) (j6 ..) ⟨Acu N,trivial⟩;exact A4
def Ahl:=A3 (j7 N)
def Ahm:=Cz (j7 N)
def TN (b:List UInt8) (r0:Bool→O R):O R :=
 (Fb N b ([45]:List UInt8) (fun c d=>(HA N c (fun e=>(cond (e==true) (cond (d==true) (r0 (cond true (!(cond true (c==([48]:List UInt8)) false)) false)) (r0 true)) (r0 false))))))
def AE:=(Ag (@TN R)).1
theorem WU:@AE R=@TN R:=(Ag _).2
def Ahn:F2:=[(145,AC N),(146,Ahl N)]
def dF (F:KF R):Bool→O R:=(fun f=>F (.bool f) [])
theorem dG (b:List UInt8) (F:KF R):Cw (Ahn N) Cr N 78 [(.str b)] [] F=(AE N b (dF F)):=by
 rw[WU]
 kernel_rfl
def WV (a:LA) (h:Aj) (k:KF R):O R :=
 match a,h with
 | [(.str b)],[]=>(AE N b (dF k))
 | _,_=>none
theorem dH:An N 78 @WV:=by
 intro R Q a h k j;unfold WV;split;exact A2 (dG ..) (dG ..) ⟨AD N,Ahm N,trivial⟩;exact A4
def Acv:=A3 (dH N)
def Acw:=Cz (dH N)
def Vn (N:Nat) (r0:Bool→O R) (b:List UInt8) (k0:Int→Int→O R) (d c:Int):O R :=
 (cond (decide (c<(((b.length):Nat):Int))) (cond ((decide ((((OD b c).1:Nat):Int)≥48))==true) (cond (cond true (decide ((((OD b c).1:Nat):Int)≤57)) false) (k0 (wrap .i64 (d+1)) (c+(((OD b c).2:Nat):Int))) (k0 d (c+(((OD b c).2:Nat):Int)))) (k0 d (c+(((OD b c).2:Nat):Int)))) (r0 (decide (d>4096))))
def Ky (r0:Bool→O R) (b:List UInt8):Nat→Int→Int→O R
 | 0,_,_=>none
 | n+1,d,c=>(Vn N r0 b (Ky r0 b n) d c)
def KA (N:Nat) (r0:Bool→O R) (q0:Int→Int→O R) (b:List UInt8):O R :=
 (q0 0 0)
def Xy:=(Ag (fun (N:Nat) (b:List UInt8) (r0:Bool→O R)=>(KA N r0 (fun d c=>(Ky N r0 b N d c)) b))).1
theorem dI (b r0):(@Xy R N b r0)=(KA N r0 (fun d c=>(Ky N r0 b N d c)) b):=by rw[Xy,(Ag _).2]
def j8:Hints:={ H:=(hS hL (hS hL (hS (hS hL (hS (hP [3,7] hL) hL)) hL))) }
def Aho (F:KF R):=Ju Tryz.f79 j8 [] [] N F
def Sc (F:KF R):Bool→O R:=(fun e=>F (.bool e) [])
def Ahp (b:List UInt8) (d c:Int):St:=⟨[(3,(iv d)),(7,(.omap 300000))],(hq [⟨false,false,true,false,1,[(.str b),(iv c)],true,none⟩])⟩
def Ahq (F:KF R):=Aho N F [1,1,0,1,0] []
theorem PD (F:KF R) (b:List UInt8):∀ (n:Nat) (d c:Int),Ak (Ahq N F) n (Ahp b d c)=(Ky N (Sc F) b n d c)
 | 0,_,_=>by kernel_rfl
 | n+1,d,c=>Eq.trans (by kernel_rfl) (Bt (Vn N (Sc F) b · d c) (funext fun d=>funext fun c=>(PD F b n d c)):_)
theorem j9 (b:List UInt8) (F:KF R):Cw [] j8 N 79 [(.str b)] [] F=(Xy N b (Sc F)):=by
 rw[dI]
 exact Eq.trans (by kernel_rfl) (Bt (KA N (Sc F) · b) (funext fun d=>funext fun c=>(Ad ..).trans (PD N F b N d c)):_)
def dJ (a:LA) (h:Aj) (k:KF R):O R :=
 match a,h with
 | [(.str b)],[]=>(Xy N b (Sc k))
 | _,_=>none
theorem j_:An N 79 @dJ:=by
 intro R Q a h k j;unfold dJ;split;exact A2 (j9 ..) (j9 ..) trivial;exact A4
def Ahr:=A3 (j_ N)
def Ahs:=Cz (j_ N)
def Re (r0:Bool→Nat→LA→O R) (k0:Int→Bool→LA→Bool→Nat→LA→O R) (d:Int) (c:Bool) (b:LA) (f:Bool) (e:Nat) (g:LA):O R :=
 (cond (decide (d>0)) (cond ((Int.tmod d 2)==1) (cond (Nat.ble 2 (b.length)) (TF N [(.bool f),(.imm (g.take (e*1)) e 1 false true)] true (b.take 2) c (fun o p q=>(cond (decide (d>1)) (cond (Nat.ble 2 (b.length)) (cond (Nat.ble 2 (b.length)) (TF N (b.take 2) c (b.take 2) c (fun t r u=>(cond ((Nat.beq 2 2)&&((Nat.ble 2 (b.length))&&(!false))) (k0 (wrap .i64 (Int.tdiv d 2)) (c||false) (C4 b 0 [(.bool t),(.imm (u.take (r*1)) r 1 false false)]) o p q) none))) none) none) (k0 (wrap .i64 (Int.tdiv d 2)) c b o p q)))) none) (cond (decide (d>1)) (cond (Nat.ble 2 (b.length)) (cond (Nat.ble 2 (b.length)) (TF N (b.take 2) c (b.take 2) c (fun v s w=>(cond ((Nat.beq 2 2)&&((Nat.ble 2 (b.length))&&(!false))) (k0 (wrap .i64 (Int.tdiv d 2)) (c||false) (C4 b 0 [(.bool v),(.imm (w.take (s*1)) s 1 false false)]) f e g) none))) none) none) (k0 (wrap .i64 (Int.tdiv d 2)) c b f e g))) (r0 f e g))
def J5 (r0:Bool→Nat→LA→O R):Nat→Int→Bool→LA→Bool→Nat→LA→O R
 | 0,_,_,_,_,_,_=>none
 | n+1,d,c,b,f,e,g=>(Re N r0 (J5 r0 n) d c b f e g)
def gc (r0:Bool→Nat→LA→O R) (q0:Int→Bool→LA→Bool→Nat→LA→O R) (i:LA) (l:Bool) (m:Int):O R :=
 (Ms N 1 (fun x y z=>(q0 m l i x y z)))
def PE:=(Ag (fun (N:Nat) (i:LA) (l:Bool) (m:Int) (r0:Bool→Nat→LA→O R)=>(gc N r0 (fun d c b f e g=>(J5 N r0 N d c b f e g)) i l m))).1
theorem oW (i l m r0):(@PE R N i l m r0)=(gc N r0 (fun d c b f e g=>(J5 N r0 N d c b f e g)) i l m):=by rw[PE,(Ag _).2]
def vO:Hints:={ H:=(hS hL (hS hL (hS (hS (hP [1,2,4,5] hL) hL) hL))) }
def Acx:F2:=[(64,jF N),(68,Aku N)]
def Auf (F:KF R):=Ju Tryz.f69 vO (Acx N) [] N F
def AF (F:KF R):Bool→Nat→LA→O R:=(fun aa ab ac=>F (.agg [(.bool aa),(.own 300000 0 ab)]) (hq [(bQ 1 ac)]))
def Aug (d:Int) (c:Bool) (b:LA) (f:Bool) (e:Nat) (g:LA):St:=⟨[(1,(iv d)),(2,(op 0)),(4,(op 1)),(5,(op 2))],(hq [(bP c 0 b),(bN 0 [(.bool false),.nsl]),(bN 0 [(.bool f),(.own 300003 0 e)]),(bQ 1 g)])⟩
def Auh (F:KF R):=Auf N F [1,1,0,0] []
theorem dK (F:KF R):∀ (n:Nat) (d:Int) (c:Bool) (b:LA) (f:Bool) (e:Nat) (g:LA),Ak (Auh N F) n (Aug d c b f e g)=(J5 N (AF F) n d c b f e g)
 | 0,_,_,_,_,_,_=>by kernel_rfl
 | n+1,d,c,b,f,e,g=>Eq.trans (by kernel_rfl) (Bt (Re N (AF F) · d c b f e g) (funext fun d=>funext fun c=>funext fun b=>funext fun f=>funext fun e=>funext fun g=>(dK F n d c b f e g)):_)
theorem vP (i:LA) (l:Bool) (m:Int) (F:KF R):Cw (Acx N) vO N 69 [(.pagg i l),(iv m)] [] F=(PE N i l m (AF F)):=by
 rw[oW]
 exact Eq.trans (by kernel_rfl) (Bt (gc N (AF F) · i l m) (funext fun d=>funext fun c=>funext fun b=>funext fun f=>funext fun e=>funext fun g=>(Ad ..).trans (dK N F N d c b f e g)):_)
def oX (a:LA) (h:Aj) (k:KF R):O R :=
 match a,h with
 | [(.pagg i l),(.int .i64 m)],[]=>(PE N i l m (AF k))
 | _,_=>none
theorem vR:An N 69 @oX:=by
 intro R Q a h k j;unfold oX;split;exact A2 (vP ..) (vP ..) ⟨jG N,Akv N,trivial⟩;exact A4
def Aui:=A3 (vR N)
def Auj:=Cz (vR N)
def Vo (k0:List UInt8→Bool→Nat→LA→O R) (r0:LA→O R) (c d:Bool) (b:Nat) (e:LA) (m:List UInt8) (o:Int) (q:Bool) (p:Nat) (r:LA):O R :=
 (cond ((decide ((0:Int)≤(0:Int)))&&((decide (0≤o))&&((decide (o≤(((m.length):Nat):Int)))&&(decide ((((m.length):Nat):Int)≤(((m.length):Nat):Int)))))) (EE N (List.take (o.toNat) m) (fun x=>(TF N [(.bool q),(.imm (r.take (p*1)) p 1 false true)] true [(.bool d),(.imm (e.take (b*1)) b 1 false true)] true (fun y t z=>(Ms N x (fun aa u ab=>(Aa1 N [(.bool y),(.imm (z.take (t*1)) t 1 false true)] true [(.bool aa),(.imm (ab.take (u*1)) u 1 false true)] true (fun ac ad ae=>(cond ((decide (0≤o))&&((decide (o≤(((m.length):Nat):Int)))&&((decide ((((m.length):Nat):Int)≤(((m.length):Nat):Int)))&&(decide ((((m.length):Nat):Int)≤(((m.length):Nat):Int)))))) (k0 (List.take ((m.length) - (o.toNat)) (List.drop (o.toNat) m)) ac ad ae) none))))))))) none)
def MZ (r0:LA→O R) (c d:Bool) (b:Nat) (e:LA) (k0:List UInt8→Bool→Nat→LA→O R) (q1:List UInt8→Int→Bool→Nat→LA→O R) (g:List UInt8) (i:Bool) (f:Nat) (l:LA):O R :=
 (cond (!(g==([]:List UInt8))) (cond ((Int.tmod (((g.length):Nat):Int) 9)==0) (q1 g 9 i f l) (q1 g (Int.tmod (((g.length):Nat):Int) 9) i f l)) (cond c (Aaw N [(.bool i),(.imm (l.take (f*1)) f 1 false true)] true (fun af v ag=>(r0 [(.bool af),(.imm (ag.take (v*1)) v 1 false false)]))) (r0 [(.bool i),(.imm (l.take (f*1)) f 1 false false)])))
def J6 (r0:LA→O R) (c d:Bool) (b:Nat) (e:LA):Nat→List UInt8→Bool→Nat→LA→O R
 | 0,_,_,_,_=>none
 | n+1,g,i,f,l=>(MZ N r0 c d b e (J6 r0 c d b e n) (fun m o q p r=>(Vo N (J6 r0 c d b e n) r0 c d b e m o q p r)) g i f l)
def TO (r0:LA→O R) (q0:Bool→Bool→Nat→LA→List UInt8→Bool→Nat→LA→O R) (s:List UInt8):O R :=
 (Fb N s ([45]:List UInt8) (fun ah c=>(Ms N 0 (fun ai aj ak=>(Ms N 10 (fun al w am=>(PE N [(.bool al),(.imm (am.take (w*1)) w 1 false true)] true 9 (fun d b e=>(q0 c d b e ah ai aj ak)))))))))
def FT:=(Ag (fun (N:Nat) (s:List UInt8) (r0:LA→O R)=>(TO N r0 (fun c d b e g i f l=>(J6 N r0 c d b e N g i f l)) s))).1
theorem ja (s r0):(@FT R N s r0)=(TO N r0 (fun c d b e g i f l=>(J6 N r0 c d b e N g i f l)) s):=by rw[FT,(Ag _).2]
def oY:Hints:={ H:=(hS hL (hS hL (hS hL (hS hL (hS (hS (hP [0,2,3,4,5] (hS hL (hS (hS hL (hJ [0,2,3,4,5,6] hL hL)) hL))) hL) hL))))),modes:=[(3,0)] }
def vS:F2:=[(145,AC N),(64,jF N),(69,Aui N),(148,A39 N),(147,WR N),(68,Aku N),(144,A4m N)]
def oZ (F:KF R):=Ju Tryz.f80 oY (vS N) [] N F
def Mw (F:KF R):LA→O R:=(fun an=>F (.pagg an false) [])
def Aom (c d:Bool) (b:Nat) (e:LA) (m:List UInt8) (o:Int) (q:Bool) (p:Nat) (r:LA):St:=⟨[(0,(.str m)),(2,(op 0)),(3,(.bool c)),(4,(op 1)),(5,(op 2)),(6,(iv o))],(hq [(bN 0 [(.bool false),.nsl]),(bN 0 [(.bool q),(.own 300003 0 p)]),(bN 0 [(.bool d),(.own 300004 0 b)]),(bQ 1 r),(bQ 1 e)])⟩
def Aon (F:KF R) (Q0:St→O R):=oZ N F [1,1,1,1,0,0,0,1,0,1,1] [Q0]
def o7 (c d:Bool) (b:Nat) (e:LA) (g:List UInt8) (i:Bool) (f:Nat) (l:LA):St:=⟨[(0,(.str g)),(2,(op 0)),(3,(.bool c)),(4,(op 1)),(5,(op 2))],(hq [(bN 0 [(.bool false),.nsl]),(bN 0 [(.bool i),(.own 300003 0 f)]),(bN 0 [(.bool d),(.own 300004 0 b)]),(bQ 1 l),(bQ 1 e)])⟩
def o8 (F:KF R):=oZ N F [1,1,1,1,0,0] []
theorem yM (Q0:St→O R) (F:KF R) (c d:Bool) (b:Nat) (e:LA):∀ (m:List UInt8) (o:Int) (q:Bool) (p:Nat) (r:LA),B5 (Aon N F Q0) (Aom c d b e m o q p r)=(Vo N (fun g i f l=>Q0 (o7 c d b e g i f l)) (Mw F) c d b e m o q p r):=by
 intro m o q p r
 kernel_rfl
theorem WW (F:KF R) (c d:Bool) (b:Nat) (e:LA):∀ (n:Nat) (g:List UInt8) (i:Bool) (f:Nat) (l:LA),Ak (o8 N F) n (o7 c d b e g i f l)=(J6 N (Mw F) c d b e n g i f l)
 | 0,_,_,_,_=>by kernel_rfl
 | n+1,g,i,f,l=>have e0:=(funext fun g=>funext fun i=>funext fun f=>funext fun l=>(WW F c d b e n g i f l))
  Eq.trans (by kernel_rfl) (OQ (MZ N (Mw F) c d b e · · g i f l) e0 (funext fun m=>funext fun o=>funext fun q=>funext fun p=>funext fun r=>(A1 ..).trans ((yM N (Ak (o8 N F) n) F c d b e m o q p r).trans (Bt (Vo N · (Mw F) c d b e m o q p r) e0))):_)
theorem o_ (s:List UInt8) (F:KF R):Cw (vS N) oY N 80 [(.str s)] [] F=(FT N s (Mw F)):=by
 rw[ja]
 exact Eq.trans (by kernel_rfl) (Bt (TO N (Mw F) · s) (funext fun c=>funext fun d=>funext fun b=>funext fun e=>funext fun g=>funext fun i=>funext fun f=>funext fun l=>(Ad ..).trans (WW N F c d b e N g i f l)):_)
def jb (a:LA) (h:Aj) (k:KF R):O R :=
 match a,h with
 | [(.str s)],[]=>(FT N s (Mw k))
 | _,_=>none
theorem oa:An N 80 @jb:=by
 intro R Q a h k j;unfold jb;split;exact A2 (o_ ..) (o_ ..) ⟨AD N,jG N,Auj N,A4a N,strconv_Atoi_ok N,Akv N,A4n N,trivial⟩;exact A4
def Aoo:=A3 (oa N)
def Aop:=Cz (oa N)
def M_ (N:Nat) (r0:O R):O R :=
 r0
def EG:=(Ag (@M_ R)).1
theorem PF:@EG R=@M_ R:=(Ag _).2
def WX (F:KF R):O R:=F (.tup []) [(100000,⟨false,false,false,false,0,[(.optr 100000 0),.nsl],false,(some (168,2))⟩)]
theorem WY (F:KF R):Cw [] Cr N 191 [(.optr 100000 0)] [(100000,⟨false,false,false,false,0,[.nilptr,.nsl],false,(some (168,2))⟩)] F=(EG N (WX F)):=by
 rw[PF]
 kernel_rfl
def PG (a:LA) (h:Aj) (k:KF R):O R :=
 match a,h with
 | [(.optr 100000 0)],[(100000,⟨false,false,false,false,0,[.nilptr,.nsl],false,(some (168,2))⟩)]=>(EG N (WX k))
 | _,_=>none
theorem WZ:An N 191 @PG:=by
 intro R Q a h k j;unfold PG;split;exact A2 (WY ..) (WY ..) trivial;exact A4
def yN:=A3 (WZ N)
def yO:=Cz (WZ N)
def CE (b:List UInt8) (r0:Int→Nat→LA→O R):O R :=
 (EG N (cond ((Nat.ble (0+(b.length)) 140737488355328)&&(Nat.ble ((0+(b.length))*1) 140737488355328)) (r0 (((b.length):Nat):Int) (0+(b.length)) (Cb b)) none))
def Pq:=(Ag (@CE R)).1
theorem HB:@Pq R=@CE R:=(Ag _).2
def sp:F2:=[(191,yN N)]
def KB (F:KF R):Int→Nat→LA→O R:=(fun c d e=>F (.tup [(iv c),.undef]) [(100000,⟨false,false,false,false,0,[(.optr 100000 0),(.own 300000 0 d)],false,(some (168,2))⟩),(300000,⟨false,false,true,false,1,e,false,(some (5,0))⟩)])
theorem KC (b:List UInt8) (F:KF R):Cw (sp N) Cr N 113 [(.optr 100000 0),(.str b)] [(100000,⟨false,false,false,false,0,[.nilptr,.nsl],false,(some (168,2))⟩)] F=(Pq N b (KB F)):=by
 rw[HB]
 kernel_rfl
def Acy (N:Nat) (r0:O R):O R :=
 r0
def gd:=(Ag (@Acy R)).1
theorem jc:@gd R=@Acy R:=(Ag _).2
def oc (F:KF R):O R:=F (.str ([]:List UInt8)) [(100000,⟨false,false,false,false,0,[.nilptr,.nsl],false,(some (168,2))⟩)]
theorem od (F:KF R):Cw [] Cr N 116 [(.optr 100000 0)] [(100000,⟨false,false,false,false,0,[.nilptr,.nsl],false,(some (168,2))⟩)] F=(gd N (oc F)):=by
 rw[jc]
 kernel_rfl
def Xz (N b:Nat) (c:LA) (r0:O R):O R :=
 r0
def Ti:=(Ag (@Xz R)).1
theorem CQ:@Ti R=@Xz R:=(Ag _).2
def HC (b:Nat) (c:LA) (F:KF R):O R:=F (.tup []) [(100000,⟨false,false,false,false,0,[(.optr 100000 0),(.own 100001 0 b)],false,(some (168,2))⟩),(100001,⟨false,false,true,false,1,c,false,(some (5,0))⟩)]
theorem HD (b:Nat) (c:LA) (F:KF R):Cw [] Cr N 191 [(.optr 100000 0)] [(100000,⟨false,false,false,false,0,[(.optr 100000 0),(.own 100001 0 b)],false,(some (168,2))⟩),(100001,⟨false,false,true,false,1,c,false,(some (5,0))⟩)] F=(Ti N b c (HC b c F)):=by
 rw[CQ]
 kernel_rfl
def CS (a:LA) (h:Aj) (k:KF R):O R :=
 match a,h with
 | [(.optr 100000 0)],[(100000,⟨false,false,false,false,0,[(.optr 100000 0),(.own 100001 0 b)],false,(some (168,2))⟩),(100001,⟨false,false,true,false,1,c,false,(some (5,0))⟩)]=>(Ti N b c (HC b c k))
 | _,_=>none
theorem HE:An N 191 @CS:=by
 intro R Q a h k j;unfold CS;split;exact A2 (HD ..) (HD ..) trivial;exact A4
def mS:=A3 (HE N)
def mT:=Cz (HE N)
def Ty (b:List UInt8) (c:Nat) (d:LA) (r0:Int→Nat→LA→O R):O R :=
 (Ti N c d (cond ((Nat.ble (c+(b.length)) 140737488355328)&&(Nat.ble ((c+(b.length))*1) 140737488355328)) (r0 (((b.length):Nat):Int) (c+(b.length)) ((d.take (c*1))++(Cb b))) none))
def Bk:=(Ag (@Ty R)).1
theorem W1:@Bk R=@Ty R:=(Ag _).2
def iI:F2:=[(191,mS N)]
def AG (F:KF R):Int→Nat→LA→O R:=(fun e f g=>F (.tup [(iv e),.undef]) [(100000,⟨false,false,false,false,0,[(.optr 100000 0),(.own 300000 0 f)],false,(some (168,2))⟩),(300000,⟨false,false,true,false,1,g,false,(some (5,0))⟩)])
theorem AH (b:List UInt8) (c:Nat) (d:LA) (F:KF R):Cw (iI N) Cr N 113 [(.optr 100000 0),(.str b)] [(100000,⟨false,false,false,false,0,[(.optr 100000 0),(.own 100001 0 c)],false,(some (168,2))⟩),(100001,⟨false,false,true,false,1,d,false,(some (5,0))⟩)] F=(Bk N b c d (AG F)):=by
 rw[W1]
 kernel_rfl
end
end Gx

namespace Gx
open Go Go.Proofs
open IntKind (wrap)
set_option maxRecDepth 100000
noncomputable section
variable {R:Type} (N:Nat)
def M' (N b:Nat) (c:LA) (r0:List UInt8→O R):O R :=
 (cond (Nat.blt 0 b) (cond ((Nat.beq 5 5)&&((Nat.beq 1 1)&&(true&&((!false)&&((Nat.beq 0 0)&&((decide (0<((b:Nat):Int)))&&((decide (((b:Nat):Int)≤(((c.length):Nat):Int)))&&(decide (((b:Nat):Int)≤9223372036854775807))))))))) (Option.bind (Z2 (c.take b)) fun d=>(r0 d)) none) none)
def Vp:=(Ag (@M' R)).1
theorem PH:@Vp R=@M' R:=(Ag _).2
def W_ (F:KF R):List UInt8→O R:=(fun e=>F (.str e) [(100000,⟨false,false,false,false,0,[(.optr 100000 0),.undef],false,(some (168,2))⟩)])
theorem XA (b:Nat) (c:LA) (F:KF R):Cw [] Cr N 116 [(.optr 100000 0)] [(100000,⟨false,false,false,false,0,[(.optr 100000 0),(.own 100001 0 b)],false,(some (168,2))⟩),(100001,⟨false,false,true,false,1,c,false,(some (5,0))⟩)] F=(Vp N b c (W_ F)):=by
 rw[PH]
 kernel_rfl
def F3 (a:LA) (h:Aj) (k:KF R):O R :=
 match a,h with
 | [(.optr 100000 0),(.str aa)],[(100000,⟨false,false,false,false,0,[.nilptr,.nsl],false,(some (168,2))⟩)]=>(Pq N aa (KB k))
 | [(.optr 100000 0),(.str aa)],[(100000,⟨false,false,false,false,0,[(.optr 100000 0),(.own 100001 0 ab)],false,(some (168,2))⟩),(100001,⟨false,false,true,false,1,ac,false,(some (5,0))⟩)]=>(Bk N aa ab ac (AG k))
 | _,_=>none
theorem Ge:An N 113 @F3:=by
 intro R Q a h k j;unfold F3;split;exact A2 (KC ..) (KC ..) ⟨yO N,trivial⟩;exact A2 (AH ..) (AH ..) ⟨mT N,trivial⟩;exact A4
def Pf:=A3 (Ge N)
def Pg:=Cz (Ge N)
def Lp (a:LA) (h:Aj) (k:KF R):O R :=
 match a,h with
 | [(.optr 100000 0)],[(100000,⟨false,false,false,false,0,[.nilptr,.nsl],false,(some (168,2))⟩)]=>(gd N (oc k))
 | [(.optr 100000 0)],[(100000,⟨false,false,false,false,0,[(.optr 100000 0),(.own 100001 0 ab)],false,(some (168,2))⟩),(100001,⟨false,false,true,false,1,ac,false,(some (5,0))⟩)]=>(Vp N ab ac (W_ k))
 | _,_=>none
theorem Mh:An N 116 @Lp:=by
 intro R Q a h k j;unfold Lp;split;exact A2 (od ..) (od ..) trivial;exact A2 (XA ..) (XA ..) trivial;exact A4
def AI:=A3 (Mh N)
def AJ:=Cz (Mh N)
end
end Gx

namespace Gx
open Go Go.Proofs
open IntKind (wrap)
set_option maxRecDepth 100000
noncomputable section
variable {R:Type} (N:Nat)
def EH (b:List UInt8) (r0:LA→Int→O R):O R :=
 (AE N b (fun d=>(cond (!d) (r0 [(.bool false),.nsl] 2) (Xy N b (fun e=>(cond e (r0 [(.bool false),.nsl] 8) (FT N b (fun c=>(cond ((Nat.beq 0 0)&&((Nat.beq (c.length) 2)&&(Nat.beq 2 2))) (cond (Nat.ble 2 (c.length)) (r0 (c.take 2) 0) none) none)))))))))
def Un:=(Ag (@EH R)).1
theorem CF:@Un R=@EH R:=(Ag _).2
def Aht:F2:=[(78,Acv N),(79,Ahr N),(80,Aoo N)]
def dL (F:KF R):LA→Int→O R:=(fun f g=>F (.tup [(.pagg f false),(iv g)]) [])
theorem dM (b:List UInt8) (F:KF R):Cw (Aht N) Ba3 N 23 [(.str b)] [] F=(Un N b (dL F)):=by
 rw[CF]
 kernel_rfl
def XB (a:LA) (h:Aj) (k:KF R):O R :=
 match a,h with
 | [(.str b)],[]=>(Un N b (dL k))
 | _,_=>none
theorem dN:An N 23 @XB:=by
 intro R Q a h k j;unfold XB;split;exact A2 (dM ..) (dM ..) ⟨Acw N,Ahs N,Aop N,trivial⟩;exact A4
def Acz:=A3 (dN N)
def Ac0:=Cz (dN N)
end
end Gx

namespace Gx
open Go Go.Proofs
open IntKind (wrap)
set_option maxRecDepth 100000
noncomputable section
variable {R:Type} (N:Nat)
def zD (N:Nat) (b:LA) (c:Nat) (d e:Bool) (r0:O R):O R :=
 r0
def Ac1:=(Ag (@zD R)).1
theorem mU:@Ac1 R=@zD R:=(Ag _).2
def Alc (b:LA) (c:Nat) (d e:Bool) (F:KF R):O R:=F (op 0) (hq [(bN 0 [(.imm b c 1 d e),(iv 0)])])
theorem Ald (b:LA) (c:Nat) (d e:Bool) (F:KF R):Cw [] Cr N 96 [(.imm b c 1 d e)] [] F=(Ac1 N b c d e (Alc b c d e F)):=by
 rw[mU]
 kernel_rfl
def Ac2 (a:LA) (h:Aj) (k:KF R):O R :=
 match a,h with
 | [(.imm b c 1 d e)],[]=>(Ac1 N b c d e (Alc b c d e k))
 | _,_=>none
theorem Ale:An N 96 @Ac2:=by
 intro R Q a h k j;unfold Ac2;split;exact A2 (Ald ..) (Ald ..) trivial;exact A4
def Alf:=A3 (Ale N)
def Alg:=Cz (Ale N)
def zE (N:Nat) (c b:Int) (r0:Int→O R):O R :=
 (cond ((wrap .u64 b)==0) none (r0 (wrap .i64 (Int.tmod (wrap .u64 c) (wrap .u64 b)))))
def TP:=(Ag (@zE R)).1
theorem mV:@TP R=@zE R:=(Ag _).2
def Alh (F:KF R):Int→O R:=(fun d=>F (iv d) [])
theorem Ali (c b:Int) (F:KF R):Cw [] Cr N 43 [(iv c),(iv b)] [] F=(TP N c b (Alh F)):=by
 rw[mV]
 kernel_rfl
def Ac3 (a:LA) (h:Aj) (k:KF R):O R :=
 match a,h with
 | [(.int .i64 c),(.int .i64 b)],[]=>(TP N c b (Alh k))
 | _,_=>none
theorem Alj:An N 43 @Ac3:=by
 intro R Q a h k j;unfold Ac3;split;exact A2 (Ali ..) (Ali ..) trivial;exact A4
def Alk:=A3 (Alj N)
def All:=Cz (Alj N)
def Y5 (g:Int) (c:LA) (b:Nat) (e f:Bool) (d:Int) (r0:Int→Int→O R):O R :=
 (cond (decide (d≥((b:Nat):Int))) (r0 0 d) (cond (Ae (wrap .i64 ((wrap .i64 (d+1)) - 1)) b) (Ap .i64 (c.drop (((wrap .i64 ((wrap .i64 (d+1)) - 1)).toNat)*1)) fun i=>(TP N i g (fun l=>(r0 l (wrap .i64 (d+1)))))) none))
def Ac:=(Ag (@Y5 R)).1
theorem X0:@Ac R=@Y5 R:=(Ag _).2
def Ac4:F2:=[(43,Alk N)]
def XC (c:LA) (b:Nat) (e f:Bool) (F:KF R):Int→Int→O R:=(fun m n=>F (iv m) [(100000,(bN 0 [(.imm c b 1 e f),(iv n)]))])
theorem XD (g:Int) (c:LA) (b:Nat) (e f:Bool) (d:Int) (F:KF R):Cw (Ac4 N) Cr N 97 [(.optr 100000 0),(iv g)] [(100000,(bN 0 [(.imm c b 1 e f),(iv d)]))] F=(Ac N g c b e f d (XC c b e f F)):=by
 rw[X0]
 kernel_rfl
def PI (a:LA) (h:Aj) (k:KF R):O R :=
 match a,h with
 | [(.optr 100000 0),(.int .i64 g)],[(100000,⟨false,false,false,false,0,[(.imm c b 1 e f),(.int .i64 d)],false,none⟩)]=>(Ac N g c b e f d (XC c b e f k))
 | _,_=>none
theorem XE:An N 97 @PI:=by
 intro R Q a h k j;unfold PI;split;exact A2 (XD ..) (XD ..) ⟨All N,trivial⟩;exact A4
def G7:=A3 (XE N)
def G8:=Cz (XE N)
def Ox (r0:Nat→Int→LA→O R) (f g:Int) (b:LA) (c:Nat) (d e:Bool) (k0:Nat→Int→Int→LA→O R) (i:Nat) (l m:Int) (o:LA):O R :=
 (cond (decide (l<f)) (Ac N g b c d e m (fun q r=>(cond ((Nat.ble (i+1) 140737488355328)&&(Nat.ble ((i+1)*8) 140737488355328)) (k0 (i+1) (wrap .i64 (l+1)) r ((o.take (i*1))++[(.int .i64 q)])) none))) (r0 i m o))
def F6 (r0:Nat→Int→LA→O R) (f g:Int) (b:LA) (c:Nat) (d e:Bool):Nat→Nat→Int→Int→LA→O R
 | 0,_,_,_,_=>none
 | n+1,i,l,m,o=>(Ox N r0 f g b c d e (F6 r0 f g b c d e n) i l m o)
def Vq (N:Nat) (r0:Nat→Int→LA→O R) (q0:Nat→Int→Int→LA→O R) (f g:Int) (b:LA) (c:Nat) (d e:Bool) (p:Int):O R :=
 (q0 0 0 p [])
def E4:=(Ag (fun (N:Nat) (f g:Int) (b:LA) (c:Nat) (d e:Bool) (p:Int) (r0:Nat→Int→LA→O R)=>(Vq N r0 (fun i l m o=>(F6 N r0 f g b c d e N i l m o)) f g b c d e p))).1
theorem KD (f g b c d e p r0):(@E4 R N f g b c d e p r0)=(Vq N r0 (fun i l m o=>(F6 N r0 f g b c d e N i l m o)) f g b c d e p):=by rw[E4,(Ag _).2]
def PJ:Hints:={ H:=(hS hL (hS hL (hS (hS hL (hS (hP [0,1,2,7,8] hL) hL)) hL))),nils:=[(6,1),(7,1)],modes:=[(2,1)] }
def XF:F2:=[(97,G7 N)]
def sr (F:KF R):=Ju Tryz.f98 PJ (XF N) [100000] N F
def Lq (b:LA) (c:Nat) (d e:Bool) (F:KF R):Nat→Int→LA→O R:=(fun s t u=>F (.own 300000 0 s) [(100000,(bN 0 [(.imm b c 1 d e),(iv t)])),(300000,(bQ 1 u))])
def su (f g:Int) (b:LA) (c:Nat) (d e:Bool) (i:Nat) (l m:Int) (o:LA):St:=⟨[(0,(.optr 100000 0)),(1,(iv f)),(2,(iv g)),(7,(.own 300000 0 i)),(8,(iv l))],[(100000,(bN 0 [(.imm b c 1 d e),(iv m)])),(300000,(bQ 1 o))]⟩
def sv (F:KF R):=sr N F [1,1,0,1,0] []
theorem CT (F:KF R) (f g:Int) (b:LA) (c:Nat) (d e:Bool):∀ (n i:Nat) (l m:Int) (o:LA),Ak (sv N F) n (su f g b c d e i l m o)=(F6 N (Lq b c d e F) f g b c d e n i l m o)
 | 0,_,_,_,_=>by kernel_rfl
 | n+1,i,l,m,o=>Eq.trans (by kernel_rfl) (Bt (Ox N (Lq b c d e F) f g b c d e · i l m o) (funext fun i=>funext fun l=>funext fun m=>funext fun o=>(CT F f g b c d e n i l m o)):_)
theorem PK (f g:Int) (b:LA) (c:Nat) (d e:Bool) (p:Int) (F:KF R):Cw (XF N) PJ N 98 [(.optr 100000 0),(iv f),(iv g)] [(100000,(bN 0 [(.imm b c 1 d e),(iv p)]))] F=(E4 N f g b c d e p (Lq b c d e F)):=by
 rw[KD]
 exact Eq.trans (by kernel_rfl) (Bt (Vq N (Lq b c d e F) · f g b c d e p) (funext fun i=>funext fun l=>funext fun m=>funext fun o=>(Ad ..).trans (CT N F f g b c d e N i l m o)):_)
def KE (a:LA) (h:Aj) (k:KF R):O R :=
 match a,h with
 | [(.optr 100000 0),(.int .i64 f),(.int .i64 g)],[(100000,⟨false,false,false,false,0,[(.imm b c 1 d e),(.int .i64 p)],false,none⟩)]=>(E4 N f g b c d e p (Lq b c d e k))
 | _,_=>none
theorem PL:An N 98 @KE:=by
 intro R Q a h k j;unfold KE;split;exact A2 (PK ..) (PK ..) ⟨G8 N,trivial⟩;exact A4
def sw:=A3 (PL N)
def sx:=Cz (PL N)
def Ac5 (N:Nat) (c:List UInt8) (b:Int) (r0:List UInt8→O R):O R :=
 (cond ((decide (0≤(Int.tmod b 16)))&&((decide ((Int.tmod b 16)≤(wrap .i64 ((Int.tmod b 16)+1))))&&((decide ((wrap .i64 ((Int.tmod b 16)+1))≤16))&&(decide ((16:Int)≤(16:Int)))))) (cond (Nat.ble ((c.length)+(List.length (List.take (((wrap .i64 ((Int.tmod b 16)+1)).toNat) - ((Int.tmod b 16).toNat)) (List.drop ((Int.tmod b 16).toNat) ([48,49,50,51,52,53,54,55,56,57,97,98,99,100,101,102]:List UInt8))))) 140737488355328) (r0 (c++(List.take (((wrap .i64 ((Int.tmod b 16)+1)).toNat) - ((Int.tmod b 16).toNat)) (List.drop ((Int.tmod b 16).toNat) ([48,49,50,51,52,53,54,55,56,57,97,98,99,100,101,102]:List UInt8))))) none) none)
def KG:=(Ag (@Ac5 R)).1
theorem vT:@KG R=@Ac5 R:=(Ag _).2
def Ac6 (F:KF R):List UInt8→O R:=(fun d=>F (.str d) [])
theorem Ac7 (c:List UInt8) (b:Int) (F:KF R):Cw [] Cr N 99 [(.str c),(iv b)] [] F=(KG N c b (Ac6 F)):=by
 rw[vT]
 kernel_rfl
def vU (a:LA) (h:Aj) (k:KF R):O R :=
 match a,h with
 | [(.str c),(.int .i64 b)],[]=>(KG N c b (Ac6 k))
 | _,_=>none
theorem Ac8:An N 99 @vU:=by
 intro R Q a h k j;unfold vU;split;exact A2 (Ac7 ..) (Ac7 ..) trivial;exact A4
def TQ:=A3 (Ac8 N)
def TR:=Cz (Ac8 N)
def Y6 (f:Int) (b:LA) (c:Nat) (d e:Bool) (g:Int) (r0:Nat→Int→LA→O R):O R :=
 (Ac N 6 b c d e g (fun l i=>(cond (l==5) (Ac N f b c d e i (fun m n=>(r0 1 n [(.int .i64 m)]))) (r0 0 i []))))
def Mx:=(Ag (@Y6 R)).1
theorem X1:@Mx R=@Y6 R:=(Ag _).2
def yP:Hints:={ H:=hL,nils:=[(4,1)],modes:=[(2,1)] }
def Ac9:F2:=[(97,G7 N)]
def XG (b:LA) (c:Nat) (d e:Bool) (F:KF R):Nat→Int→LA→O R:=(fun o p q=>F (.own 300000 0 o) [(100000,(bN 0 [(.imm b c 1 d e),(iv p)])),(300000,(bQ 1 q))])
theorem XH (f:Int) (b:LA) (c:Nat) (d e:Bool) (g:Int) (F:KF R):Cw (Ac9 N) yP N 157 [(.optr 100000 0),(iv f)] [(100000,(bN 0 [(.imm b c 1 d e),(iv g)]))] F=(Mx N f b c d e g (XG b c d e F)):=by
 rw[X1]
 kernel_rfl
def PM (a:LA) (h:Aj) (k:KF R):O R :=
 match a,h with
 | [(.optr 100000 0),(.int .i64 f)],[(100000,⟨false,false,false,false,0,[(.imm b c 1 d e),(.int .i64 g)],false,none⟩)]=>(Mx N f b c d e g (XG b c d e k))
 | _,_=>none
theorem XI:An N 157 @PM:=by
 intro R Q a h k j;unfold PM;split;exact A2 (XH ..) (XH ..) ⟨G8 N,trivial⟩;exact A4
def XJ:=A3 (XI N)
def XK:=Cz (XI N)
def Y7 (l f g i:Int) (b:LA) (c:Nat) (d e:Bool) (m:Int) (r0:LA→Int→O R):O R :=
 (KG N ([108]:List UInt8) l (fun o=>(Ac N 4 b c d e m (fun p v=>(Ac N 2 b c d e v (fun q w=>(Ac N 40 b c d e w (fun n x=>(Ac N 20 b c d e x (fun r y=>(Ac N 5 b c d e y (fun z s=>(cond (z==4) (Ac N 4 b c d e s (fun aa ab=>(Ac N 2 b c d e ab (fun ac ad=>(Ac N 4 b c d e ad (fun ae af=>(Mx N i b c d e af (fun t ag ah=>(r0 [(.str o),(.int .i64 f),(.int .i64 g),(.int .i64 (wrap .i64 (1+p))),(.int .i64 (wrap .i64 (1+q))),(.int .i64 (wrap .i64 ((0:Int) - aa))),(.int .i64 (wrap .i64 (1+ac))),(.int .i64 ae),(.int .i64 1),(.int .i64 (wrap .i64 (4+n))),(.int .i64 (wrap .i64 ((wrap .i64 (4+n))+r))),(.imm (ah.take (t*1)) t 1 false false)] ag))))))))) (Mx N i b c d e s (fun u ai aj=>(r0 [(.str o),(.int .i64 f),(.int .i64 g),(.int .i64 (wrap .i64 (1+p))),(.int .i64 (wrap .i64 (1+q))),(.int .i64 0),(.int .i64 1),(.int .i64 0),(.int .i64 1),(.int .i64 (wrap .i64 (4+n))),(.int .i64 (wrap .i64 ((wrap .i64 (4+n))+r))),(.imm (aj.take (u*1)) u 1 false false)] ai))))))))))))))))
def Rf:=(Ag (@Y7 R)).1
theorem X2:@Rf R=@Y7 R:=(Ag _).2
def yQ:Hints:={ H:=hL,modes:=[(3,0)],cob:=[28] }
def Ada:F2:=[(99,TQ N),(97,G7 N),(157,XJ N)]
def XL (b:LA) (c:Nat) (d e:Bool) (F:KF R):LA→Int→O R:=(fun ak al=>F (.pagg ak false) [(100000,(bN 0 [(.imm b c 1 d e),(iv al)]))])
theorem XM (l f g i:Int) (b:LA) (c:Nat) (d e:Bool) (m:Int) (F:KF R):Cw (Ada N) yQ N 100 [(.optr 100000 0),(iv l),(iv f),(iv g),(iv i)] [(100000,(bN 0 [(.imm b c 1 d e),(iv m)]))] F=(Rf N l f g i b c d e m (XL b c d e F)):=by
 rw[X2]
 kernel_rfl
def PN (a:LA) (h:Aj) (k:KF R):O R :=
 match a,h with
 | [(.optr 100000 0),(.int .i64 l),(.int .i64 f),(.int .i64 g),(.int .i64 i)],[(100000,⟨false,false,false,false,0,[(.imm b c 1 d e),(.int .i64 m)],false,none⟩)]=>(Rf N l f g i b c d e m (XL b c d e k))
 | _,_=>none
theorem XN:An N 100 @PN:=by
 intro R Q a h k j;unfold PN;split;exact A2 (XM ..) (XM ..) ⟨TR N,G8 N,XK N,trivial⟩;exact A4
def yR:=A3 (XN N)
def yS:=Cz (XN N)
def Ny (r0:LA→Int→O R) (b:LA) (c:Nat) (d e:Bool) (y:Int) (l:List UInt8) (m f i:Int) (g:Nat) (o z aa ab ac x u ad ae af:Int) (v:Nat) (w:Int) (p ag:LA) (ah ai aj ak:Int):O R :=
 (cond (w==2) (Ac N (wrap .i64 ((wrap .i64 (i - f))+1)) b c d e y (fun av aw=>(r0 [(.str l),(.int .i64 m),(.int .i64 f),(.int .i64 i),(.imm (p.take (g*2)) g 2 false false),(.int .i64 o),(.int .i64 z),(.int .i64 aa),(.int .i64 ah),(.int .i64 ai),(.int .i64 ab),(.int .i64 ac),(.int .i64 x),(.int .i64 u),(.int .i64 aj),(.int .i64 ad),(.int .i64 ae),(.int .i64 af),(.imm (ag.take (v*1)) v 1 false false),(.int .i64 w),(.int .i64 ak),(.int .i64 (wrap .i64 (f+av)))] aw))) (r0 [(.str l),(.int .i64 m),(.int .i64 f),(.int .i64 i),(.imm (p.take (g*2)) g 2 false false),(.int .i64 o),(.int .i64 z),(.int .i64 aa),(.int .i64 ah),(.int .i64 ai),(.int .i64 ab),(.int .i64 ac),(.int .i64 x),(.int .i64 u),(.int .i64 aj),(.int .i64 ad),(.int .i64 ae),(.int .i64 af),(.imm (ag.take (v*1)) v 1 false false),(.int .i64 w),(.int .i64 ak),(.int .i64 0)] y))
def Rg (r0:LA→Int→O R) (q:Int) (b:LA) (c:Nat) (d e:Bool) (l:List UInt8) (m f o:Int) (k0:Int→Int→Int→Int→Nat→LA→O R) (q1:Int→Int→Int→Int→Int→Int→Int→Int→Int→Int→Nat→Int→LA→Int→Int→Int→Int→O R) (r s t i:Int) (g:Nat) (p:LA):O R :=
 (cond (decide (s>0)) (Ac N 15 b c d e t (fun ao ax=>(cond ((Nat.ble (g+1) 140737488355328)&&(Nat.ble ((g+1)*16) 140737488355328)) (Ac N 10 b c d e ax (fun ay az=>(k0 (wrap .i64 (r+ay)) (wrap .i64 (s - 1)) az (wrap .i64 (i+(wrap .i64 (1+ao)))) (g+1) ((p.take (g*2))++[(.int .i64 (wrap .i64 (1+ao))),(.int .i64 r)])))) none))) (Ac N 20 b c d e t (fun z ba=>(Ac N 20 b c d e ba (fun aa bb=>(Ac N (wrap .i64 ((wrap .i64 (i - f))+1)) b c d e bb (fun ap bc=>(Ac N (wrap .i64 ((wrap .i64 (i - f))+1)) b c d e bc (fun aq bd=>(Ac N 3 b c d e bd (fun ab be=>(Ac N 3 b c d e be (fun ac bf=>(Ac N 2 b c d e bf (fun x bg=>(Ac N 30 b c d e bg (fun u bh=>(Ac N 30 b c d e bh (fun ar bi=>(Ac N 4 b c d e bi (fun ad bj=>(Ac N 8 b c d e bj (fun ae bk=>(Ac N 4 b c d e bk (fun af bl=>(Mx N q b c d e bl (fun v bm ag=>(Ac N (wrap .i64 (2+x)) b c d e bm (fun au bn=>(cond (Ae au 3) (Ap .i64 (List.drop (0+((au.toNat)*1)) [(.int .i64 0),(.int .i64 2),(.int .i64 1)]) fun w=>(Ac N 4 b c d e bn (fun bo y=>(cond (w==1) (q1 y z aa ab ac x u ad ae af v w ag (wrap .i64 (f+ap)) (wrap .i64 (f+aq)) (wrap .i64 (u+ar)) 1) (q1 y z aa ab ac x u ad ae af v w ag (wrap .i64 (f+ap)) (wrap .i64 (f+aq)) (wrap .i64 (u+ar)) (wrap .i64 (1+bo))))))) none))))))))))))))))))))))))))))))
def Fs (r0:LA→Int→O R) (q:Int) (b:LA) (c:Nat) (d e:Bool) (l:List UInt8) (m f o:Int):Nat→Int→Int→Int→Int→Nat→LA→O R
 | 0,_,_,_,_,_,_=>none
 | n+1,r,s,t,i,g,p=>(Rg N r0 q b c d e l m f o (Fs r0 q b c d e l m f o n) (fun y z aa ab ac x u ad ae af v w ag ah ai aj ak=>(Ny N r0 b c d e y l m f i g o z aa ab ac x u ad ae af v w p ag ah ai aj ak)) r s t i g p)
def Y8 (r0:LA→Int→O R) (q0:List UInt8→Int→Int→Int→Int→Int→Int→Int→Nat→LA→O R) (al am q:Int) (b:LA) (c:Nat) (d e:Bool) (an:Int):O R :=
 (KG N ([117]:List UInt8) al (fun l=>(Ac N am b c d e an (fun m bp=>(Ac N 8 b c d e bp (fun f bq=>(Ac N 20 b c d e bq (fun o br=>(Ac N 20 b c d e br (fun bs bt=>(Ac N 2 b c d e bt (fun bu bv=>(q0 l m f o (wrap .i64 (bs - 2)) (wrap .i64 (1+bu)) bv f 0 [])))))))))))))
def Rh:=(Ag (fun (N:Nat) (al am q:Int) (b:LA) (c:Nat) (d e:Bool) (an:Int) (r0:LA→Int→O R)=>(Y8 N r0 (fun l m f o r s t i g p=>(Fs N r0 q b c d e l m f o N r s t i g p)) al am q b c d e an))).1
theorem PO (al am q b c d e an r0):(@Rh R N al am q b c d e an r0)=(Y8 N r0 (fun l m f o r s t i g p=>(Fs N r0 q b c d e l m f o N r s t i g p)) al am q b c d e an):=by rw[Rh,(Ag _).2]
def XO:Hints:={ H:=(hS hL (hS hL (hS hL (hS hL (hS (hS hL (hS (hP [0,3,8,9,10,11] hL) hL)) (hS hL (hS hL (hS hL (hS hL (hS hL (hS hL (hS hL (hS hL (hJ [0,8,9] hL hL)))))))))))))),modes:=[(3,0)],cob:=[22] }
def dO:F2:=[(99,TQ N),(97,G7 N),(157,XJ N)]
def XP (F:KF R):=Ju Tryz.f101 XO (dO N) [100000] N F
def Jx (b:LA) (c:Nat) (d e:Bool) (F:KF R):LA→Int→O R:=(fun bw bx=>F (.pagg bw false) [(100000,(bN 0 [(.imm b c 1 d e),(iv bx)]))])
def yT (b:LA) (c:Nat) (d e:Bool) (y:Int) (l:List UInt8) (m f i:Int) (g:Nat) (o z aa ab ac x u ad ae af:Int) (v:Nat) (w:Int) (p ag:LA) (ah ai aj ak:Int):St:=⟨[(0,(.optr 100000 0)),(8,(op 0)),(9,(op 1))],[(100000,(bN 0 [(.imm b c 1 d e),(iv y)])),(300000,(bN 0 [(.str ([]:List UInt8)),(iv 0),(iv 0),(iv 0),.nsl,(iv 0),(iv 0),(iv 0),(iv 0),(iv 0),(iv 0),(iv 0),(iv 0),(iv 0),(iv 0),(iv 0),(iv 0),(iv 0),.nsl,(iv 0),(iv 0),(iv 0)])),(300001,(bN 0 [(.str l),(iv m),(iv f),(iv i),(.own 300002 0 g),(iv o),(iv z),(iv aa),(iv ah),(iv ai),(iv ab),(iv ac),(iv x),(iv u),(iv aj),(iv ad),(iv ae),(iv af),(.own 300003 0 v),(iv w),(iv ak),(iv 0)])),(300002,(bQ 2 p)),(300003,(bQ 1 ag))]⟩
def yU (F:KF R):=XP N F [1,1,1,1,1,1,1,1,1,1,1,1,1,1] []
def yV (q:Int) (b:LA) (c:Nat) (d e:Bool) (l:List UInt8) (m f o r s t i:Int) (g:Nat) (p:LA):St:=⟨[(0,(.optr 100000 0)),(3,(iv q)),(8,(op 0)),(9,(op 1)),(10,(iv r)),(11,(iv s))],[(100000,(bN 0 [(.imm b c 1 d e),(iv t)])),(300000,(bN 0 [(.str ([]:List UInt8)),(iv 0),(iv 0),(iv 0),.nsl,(iv 0),(iv 0),(iv 0),(iv 0),(iv 0),(iv 0),(iv 0),(iv 0),(iv 0),(iv 0),(iv 0),(iv 0),(iv 0),.nsl,(iv 0),(iv 0),(iv 0)])),(300001,(bN 0 [(.str l),(iv m),(iv f),(iv i),(.own 300002 0 g),(iv o),(iv 0),(iv 0),(iv 0),(iv 0),(iv 0),(iv 0),(iv 0),(iv 0),(iv 0),(iv 0),(iv 0),(iv 0),(.own 300003 0 0),(iv 0),(iv 0),(iv 0)])),(300002,(bQ 2 p)),(300003,(bQ 1 []))]⟩
def yW (F:KF R):=XP N F [1,1,1,1,0,1,0] []
theorem mW (F:KF R) (b:LA) (c:Nat) (d e:Bool) (y:Int) (l:List UInt8) (m f i:Int) (g:Nat) (o z aa ab ac x u ad ae af:Int) (v:Nat) (w:Int) (p ag:LA):∀ (ah ai aj ak:Int),B5 (yU N F) (yT b c d e y l m f i g o z aa ab ac x u ad ae af v w p ag ah ai aj ak)=(Ny N (Jx b c d e F) b c d e y l m f i g o z aa ab ac x u ad ae af v w p ag ah ai aj ak):=by
 intro ah ai aj ak
 kernel_rfl
theorem HF (F:KF R) (q:Int) (b:LA) (c:Nat) (d e:Bool) (l:List UInt8) (m f o:Int):∀ (n:Nat) (r s t i:Int) (g:Nat) (p:LA),Ak (yW N F) n (yV q b c d e l m f o r s t i g p)=(Fs N (Jx b c d e F) q b c d e l m f o n r s t i g p)
 | 0,_,_,_,_,_,_=>by kernel_rfl
 | n+1,r,s,t,i,g,p=>Eq.trans (by kernel_rfl) (OQ (Rg N (Jx b c d e F) q b c d e l m f o · · r s t i g p) (funext fun r=>funext fun s=>funext fun t=>funext fun i=>funext fun g=>funext fun p=>(HF F q b c d e l m f o n r s t i g p)) (funext fun y=>funext fun z=>funext fun aa=>funext fun ab=>funext fun ac=>funext fun x=>funext fun u=>funext fun ad=>funext fun ae=>funext fun af=>funext fun v=>funext fun w=>funext fun ag=>funext fun ah=>funext fun ai=>funext fun aj=>funext fun ak=>(A1 ..).trans (mW N F b c d e y l m f i g o z aa ab ac x u ad ae af v w p ag ah ai aj ak)):_)
theorem XQ (al am q:Int) (b:LA) (c:Nat) (d e:Bool) (an:Int) (F:KF R):Cw (dO N) XO N 101 [(.optr 100000 0),(iv al),(iv am),(iv q)] [(100000,(bN 0 [(.imm b c 1 d e),(iv an)]))] F=(Rh N al am q b c d e an (Jx b c d e F)):=by
 rw[PO]
 exact Eq.trans (by kernel_rfl) (Bt (Y8 N (Jx b c d e F) · al am q b c d e an) (funext fun l=>funext fun m=>funext fun f=>funext fun o=>funext fun r=>funext fun s=>funext fun t=>funext fun i=>funext fun g=>funext fun p=>(Ad ..).trans (HF N F q b c d e l m f o N r s t i g p)):_)
def PP (a:LA) (h:Aj) (k:KF R):O R :=
 match a,h with
 | [(.optr 100000 0),(.int .i64 al),(.int .i64 am),(.int .i64 q)],[(100000,⟨false,false,false,false,0,[(.imm b c 1 d e),(.int .i64 an)],false,none⟩)]=>(Rh N al am q b c d e an (Jx b c d e k))
 | _,_=>none
theorem XR:An N 101 @PP:=by
 intro R Q a h k j;unfold PP;split;exact A2 (XQ ..) (XQ ..) ⟨TR N,G8 N,XK N,trivial⟩;exact A4
def yX:=A3 (XR N)
def yY:=Cz (XR N)
def Iy (r0:LA→Int→O R) (f:Int) (b:LA) (c:Nat) (d e:Bool) (g:List UInt8) (i:Nat) (l:LA) (k1:Int→Int→Nat→LA→O R) (o q:Int) (m:Nat) (p:LA):O R :=
 (cond (decide (o<f)) (Ac N 2 b c d e q (fun ab w=>(cond (ab==1) (Ac N 8 b c d e w (fun ac ad=>(Ac N 8 b c d e ad (fun ae af=>(cond ((Nat.ble (m+1) 140737488355328)&&(Nat.ble ((m+1)*24) 140737488355328)) (k1 (wrap .i64 (o+1)) af (m+1) ((p.take (m*3))++[(.int .i64 o),(.int .i64 ac),(.int .i64 ae)])) none))))) (k1 (wrap .i64 (o+1)) w m p)))) (r0 [(.str g),(.imm (l.take (i*1)) i 1 false false),(.bool true),(.imm (p.take (m*3)) m 3 false false)] q))
def Fc (r0:LA→Int→O R) (f:Int) (b:LA) (c:Nat) (d e:Bool) (g:List UInt8) (i:Nat) (l:LA):Nat→Int→Int→Nat→LA→O R
 | 0,_,_,_,_=>none
 | n+1,o,q,m,p=>(Iy N r0 f b c d e g i l (Fc r0 f b c d e g i l n) o q m p)
def My (r0:LA→Int→O R) (f:Int) (b:LA) (c:Nat) (d e:Bool) (g:List UInt8) (q1:Int→Int→Nat→LA→O R) (r:Int) (i:Nat) (l:LA):O R :=
 (Ac N 2 b c d e r (fun ag x=>(cond (ag==1) (q1 0 x 0 []) (r0 [(.str g),(.imm (l.take (i*1)) i 1 false false),(.bool false),(.imm [] 0 3 false false)] x))))
def Fd (r0:LA→Int→O R) (f:Int) (b:LA) (c:Nat) (d e:Bool) (g:List UInt8) (r:Int) (i:Nat) (l:LA):O R:=(My N r0 f b c d e g (fun o q m p=>(Fc N r0 f b c d e g i l N o q m p)) r i l)
def Jy (r0:LA→Int→O R) (q0:List UInt8→Int→Nat→LA→O R) (t s f:Int) (b:LA) (c:Nat) (d e:Bool) (u:Int):O R :=
 (KG N ([111]:List UInt8) t (fun g=>(Ac N s b c d e u (fun v ah=>(Ac N s b c d e ah (fun y z=>(cond ((decide (y>v))==true) (Ac N 3 b c d e z (fun ai aa=>(cond (cond true (ai==2) false) (q0 g aa 2 [(.int .i64 v),(.int .i64 y)]) (q0 g aa 1 [(.int .i64 v)])))) (q0 g z 1 [(.int .i64 v)]))))))))
def Lr:=(Ag (fun (N:Nat) (t s f:Int) (b:LA) (c:Nat) (d e:Bool) (u:Int) (r0:LA→Int→O R)=>(Jy N r0 (fun g r i l=>(Fd N r0 f b c d e g r i l)) t s f b c d e u))).1
theorem Mz (t s f b c d e u r0):(@Lr R N t s f b c d e u r0)=(Jy N r0 (fun g r i l=>(Fd N r0 f b c d e g r i l)) t s f b c d e u):=by rw[Lr,(Ag _).2]
def KH:Hints:={ H:=(hS hL (hS hL (hJ [0,3,8,9] hL (hS (hS hL (hS (hS hL (hS hL (hS (hP [0,3,8,9,11] hL) hL))) hL)) hL)))),modes:=[(3,0)],cob:=[18] }
def PQ:F2:=[(99,TQ N),(97,G7 N)]
def KI (F:KF R):=Ju Tryz.f102 KH (PQ N) [100000] N F
def Fe (b:LA) (c:Nat) (d e:Bool) (F:KF R):LA→Int→O R:=(fun aj ak=>F (.pagg aj false) [(100000,(bN 0 [(.imm b c 1 d e),(iv ak)]))])
def oe (f:Int) (b:LA) (c:Nat) (d e:Bool) (g:List UInt8) (i:Nat) (l:LA) (o q:Int) (m:Nat) (p:LA):St:=⟨[(0,(.optr 100000 0)),(3,(iv f)),(8,(op 0)),(9,(op 1)),(11,(iv o))],[(100000,(bN 0 [(.imm b c 1 d e),(iv q)])),(300000,(bN 0 [(.str ([]:List UInt8)),.nsl,(.bool false),.nsl])),(300001,(bN 0 [(.str g),(.own 300002 0 i),(.bool true),(.own 300003 0 m)])),(300002,(bQ 1 l)),(300003,(bQ 3 p))]⟩
def oh (F:KF R):=KI N F [1,1,1,0,1,0,1,1,0] []
def oq (f:Int) (b:LA) (c:Nat) (d e:Bool) (g:List UInt8) (r:Int) (i:Nat) (l:LA):St:=⟨[(0,(.optr 100000 0)),(3,(iv f)),(8,(op 0)),(9,(op 1))],[(100000,(bN 0 [(.imm b c 1 d e),(iv r)])),(300000,(bN 0 [(.str ([]:List UInt8)),.nsl,(.bool false),.nsl])),(300001,(bN 0 [(.str g),(.own 300002 0 i),(.bool false),(.own 300003 0 0)])),(300002,(bQ 1 l)),(300003,(bQ 3 []))]⟩
def ot (F:KF R):=KI N F [1,1,1] []
theorem AK (F:KF R) (f:Int) (b:LA) (c:Nat) (d e:Bool) (g:List UInt8) (i:Nat) (l:LA):∀ (n:Nat) (o q:Int) (m:Nat) (p:LA),Ak (oh N F) n (oe f b c d e g i l o q m p)=(Fc N (Fe b c d e F) f b c d e g i l n o q m p)
 | 0,_,_,_,_=>by kernel_rfl
 | n+1,o,q,m,p=>Eq.trans (by kernel_rfl) (Bt (Iy N (Fe b c d e F) f b c d e g i l · o q m p) (funext fun o=>funext fun q=>funext fun m=>funext fun p=>(AK F f b c d e g i l n o q m p)):_)
theorem dP (F:KF R) (f:Int) (b:LA) (c:Nat) (d e:Bool) (g:List UInt8):∀ (r:Int) (i:Nat) (l:LA),B5 (ot N F) (oq f b c d e g r i l)=(Fd N (Fe b c d e F) f b c d e g r i l):=by
 intro r i l
 exact Eq.trans (by kernel_rfl) (Bt (My N (Fe b c d e F) f b c d e g · r i l) (funext fun o=>funext fun q=>funext fun m=>funext fun p=>(Ad ..).trans (AK N F f b c d e g i l N o q m p)):_)
theorem KJ (t s f:Int) (b:LA) (c:Nat) (d e:Bool) (u:Int) (F:KF R):Cw (PQ N) KH N 102 [(.optr 100000 0),(iv t),(iv s),(iv f)] [(100000,(bN 0 [(.imm b c 1 d e),(iv u)]))] F=(Lr N t s f b c d e u (Fe b c d e F)):=by
 rw[Mz]
 exact Eq.trans (by kernel_rfl) (Bt (Jy N (Fe b c d e F) · t s f b c d e u) (funext fun g=>funext fun r=>funext fun i=>funext fun l=>(A1 ..).trans (dP N F f b c d e g r i l)):_)
def HG (a:LA) (h:Aj) (k:KF R):O R :=
 match a,h with
 | [(.optr 100000 0),(.int .i64 t),(.int .i64 s),(.int .i64 f)],[(100000,⟨false,false,false,false,0,[(.imm b c 1 d e),(.int .i64 u)],false,none⟩)]=>(Lr N t s f b c d e u (Fe b c d e k))
 | _,_=>none
theorem KK:An N 102 @HG:=by
 intro R Q a h k j;unfold HG;split;exact A2 (KJ ..) (KJ ..) ⟨TR N,G8 N,trivial⟩;exact A4
def ou:=A3 (KK N)
def ov:=Cz (KK N)
def Tj (N:Nat) (r0:Bool→O R) (d e:Int) (c:LA) (b:Nat) (f g:Bool) (k0:Int→O R) (i:Int):O R :=
 (cond (decide (i<((b:Nat):Int))) (cond (Ae i b) (Ap .i64 (c.drop ((i.toNat)*1)) fun l=>(cond ((decide (l<d))==false) (cond (Ae i b) (Ap .i64 (c.drop ((i.toNat)*1)) fun m=>(cond (cond false true (decide (m>e))) (r0 false) (k0 (wrap .i64 (i+1))))) none) (r0 false))) none) (r0 true))
def Iz (r0:Bool→O R) (d e:Int) (c:LA) (b:Nat) (f g:Bool):Nat→Int→O R
 | 0,_=>none
 | n+1,i=>(Tj N r0 d e c b f g (Iz r0 d e c b f g n) i)
def EI (N:Nat) (r0:Bool→O R) (q0:Int→O R) (d e:Int) (c:LA) (b:Nat) (f g:Bool):O R :=
 (q0 0)
def Ar:=(Ag (fun (N:Nat) (d e:Int) (c:LA) (b:Nat) (f g:Bool) (r0:Bool→O R)=>(EI N r0 (fun i=>(Iz N r0 d e c b f g N i)) d e c b f g))).1
theorem XS (d e c b f g r0):(@Ar R N d e c b f g r0)=(EI N r0 (fun i=>(Iz N r0 d e c b f g N i)) d e c b f g):=by rw[Ar,(Ag _).2]
def dQ:Hints:={ H:=(hS hL (hS (hS hL (hS (hP [0,1,2,7] hL) hL)) hL)) }
def Adb (F:KF R):=Ju Tryz.f162 dQ [] [] N F
def Pr (F:KF R):Bool→O R:=(fun o=>F (.bool o) [])
def Adc (d e:Int) (c:LA) (b:Nat) (f g:Bool) (i:Int):St:=⟨[(0,(iv d)),(1,(iv e)),(2,(.imm c b 1 f g)),(7,(iv i))],[]⟩
def Add (F:KF R):=Adb N F [1,0,1,0] []
theorem KL (F:KF R) (d e:Int) (c:LA) (b:Nat) (f g:Bool):∀ (n:Nat) (i:Int),Ak (Add N F) n (Adc d e c b f g i)=(Iz N (Pr F) d e c b f g n i)
 | 0,_=>by kernel_rfl
 | n+1,i=>Eq.trans (by kernel_rfl) (Bt (Tj N (Pr F) d e c b f g · i) (funext fun i=>(KL F d e c b f g n i)):_)
theorem dR (d e:Int) (c:LA) (b:Nat) (f g:Bool) (F:KF R):Cw [] dQ N 162 [(iv d),(iv e),(.imm c b 1 f g)] [] F=(Ar N d e c b f g (Pr F)):=by
 rw[XS]
 exact Eq.trans (by kernel_rfl) (Bt (EI N (Pr F) · d e c b f g) (funext fun i=>(Ad ..).trans (KL N F d e c b f g N i)):_)
def XT (a:LA) (h:Aj) (k:KF R):O R :=
 match a,h with
 | [(.int .i64 d),(.int .i64 e),(.imm c b 1 f g)],[]=>(Ar N d e c b f g (Pr k))
 | _,_=>none
theorem dS:An N 162 @XT:=by
 intro R Q a h k j;unfold XT;split;exact A2 (dR ..) (dR ..) trivial;exact A4
def Dw:=A3 (dS N)
def Dx:=Cz (dS N)
end
end Gx

namespace Gx
open Go Go.Proofs
open IntKind (wrap)
set_option maxRecDepth 100000
noncomputable section
variable {R:Type} (N:Nat)
def Le (N:Nat) (r0:LA→O R) (c d e f:Int) (b:LA) (g:Bool):O R :=
 (cond g (cond ((Nat.beq 3 3)&&((Nat.ble 3 (b.length))&&(!false))) (cond ((Nat.beq 1 1)&&((Nat.ble 4 ((C4 b 0 [(.int .i64 c),(.int .i64 d),(.int .i64 e)]).length))&&(!false))) (r0 ((C4 b 0 [(.int .i64 c),(.int .i64 d),(.int .i64 e)]).set 3 (.int .i64 f))) none) none) (r0 b))
def Oy (N:Nat) (r0:LA→O R) (q0:Bool→O R) (i:Bool) (c d e f:Int) (b:LA):O R :=
 (Ap .i64 (b.drop 3) fun l=>(cond ((l==0)==true) (q0 (cond true (!i) false)) (q0 false)))
def Aa:=(Ag (fun (N:Nat) (i:Bool) (c d e f:Int) (b:LA) (r0:LA→O R)=>(Oy N r0 (fun g=>(Le N r0 c d e f b g)) i c d e f b))).1
theorem AL (i c d e f b r0):(@Aa R N i c d e f b r0)=(Oy N r0 (fun g=>(Le N r0 c d e f b g)) i c d e f b):=by rw[Aa,(Ag _).2]
def CU:Hints:={ H:=(hJ [0,2,3,4,5,20] hL hL) }
def iJ (F:KF R):=Ju Tryz.f161 CU [] [100000] N F
def Lf (F:KF R):LA→O R:=(fun m=>F (.tup []) [(100000,(bQ 0 m))])
def iK (c d e f:Int) (b:LA) (g:Bool):St:=⟨[(0,(.optr 100000 0)),(2,(iv c)),(3,(iv d)),(4,(iv e)),(5,(iv f)),(20,(.bool g))],[(100000,(bQ 0 b))]⟩
def iL (F:KF R):=iJ N F [1] []
theorem TS (F:KF R) (c d e f:Int) (b:LA):∀ (g:Bool),B5 (iL N F) (iK c d e f b g)=(Le N (Lf F) c d e f b g):=by
 intro g
 kernel_rfl
theorem CV (i:Bool) (c d e f:Int) (b:LA) (F:KF R):Cw [] CU N 161 [(.optr 100000 0),(.bool i),(iv c),(iv d),(iv e),(iv f)] [(100000,(bQ 0 b))] F=(Aa N i c d e f b (Lf F)):=by
 rw[AL]
 exact Eq.trans (by kernel_rfl) (Bt (Oy N (Lf F) · i c d e f b) (funext fun g=>(A1 ..).trans (TS N F c d e f b g)):_)
def AM (a:LA) (h:Aj) (k:KF R):O R :=
 match a,h with
 | [(.optr 100000 0),(.bool i),(.int .i64 c),(.int .i64 d),(.int .i64 e),(.int .i64 f)],[(100000,⟨false,false,true,false,0,b,false,none⟩)]=>(Aa N i c d e f b (Lf k))
 | _,_=>none
theorem CW:An N 161 @AM:=by
 intro R Q a h k j;unfold AM;split;exact A2 (CV ..) (CV ..) trivial;exact A4
def Bx:=A3 (CW N)
def By:=Cz (CW N)
def Rs (f:LA) (o:Bool) (g:LA) (b:Nat) (p i:Bool) (l m c d e:Int) (n:LA) (r0:LA→O R):O R :=
 (Ap .i64 f fun q=>(Aa N (((b:Nat):Int)==q) c d e 4 n (fun r=>(Ar N l m g b false i (fun s=>(Aa N s c d e 3 r (fun t=>(r0 t))))))))
def C5:=(Ag (@Rs R)).1
theorem Vr:@C5 R=@Rs R:=(Ag _).2
def dT:F2:=[(161,Bx N),(162,Dw N)]
def W2 (F:KF R):LA→O R:=(fun u=>F (.tup []) [(100000,(bQ 0 u))])
theorem W3 (f:LA) (o:Bool) (g:LA) (b:Nat) (p i:Bool) (l m c d e:Int) (n:LA) (F:KF R):Cw (dT N) Cr N 160 [(.optr 100000 0),(.pagg f o),(.imm g b 1 p i),(iv l),(iv m),(iv c),(iv d),(iv e)] [(100000,(bQ 0 n))] F=(C5 N f o g b p i l m c d e n (W2 F)):=by
 rw[Vr]
 kernel_rfl
def Vs (a:LA) (h:Aj) (k:KF R):O R :=
 match a,h with
 | [(.optr 100000 0),(.pagg f o),(.imm g b 1 p i),(.int .i64 l),(.int .i64 m),(.int .i64 c),(.int .i64 d),(.int .i64 e)],[(100000,⟨false,false,true,false,0,n,false,none⟩)]=>(C5 N f o g b p i l m c d e n (W2 k))
 | _,_=>none
theorem W4:An N 160 @Vs:=by
 intro R Q a h k j;unfold Vs;split;exact A2 (W3 ..) (W3 ..) ⟨By N,Dx N,trivial⟩;exact A4
def On:=A3 (W4 N)
def Oo:=Cz (W4 N)
def Y9 (N:Nat) (r0:Nat→LA→O R) (c:Bool) (b:LA) (k0:Nat→Int→LA→O R) (d:Nat) (m:Int) (t:LA):O R :=
 (Br 3 (b.drop 2) fun bc aa=>(cond (decide (m<((aa:Nat):Int))) (Br 3 (b.drop 2) fun ab ac=>(cond (Ae m ac) (Ts (ab.drop ((m.toNat)*3)) fun ad=>(cond ((Nat.ble (d+1) 140737488355328)&&(Nat.ble ((d+1)*16) 140737488355328)) (k0 (d+1) (wrap .i64 (m+1)) ((t.take (d*1))++[(.str ad)])) none)) none)) (r0 d t)))
def M0 (r0:Nat→LA→O R) (c:Bool) (b:LA):Nat→Nat→Int→LA→O R
 | 0,_,_,_=>none
 | n+1,d,m,t=>(Y9 N r0 c b (M0 r0 c b n) d m t)
def Za (N:Nat) (r0:Nat→LA→O R) (c:Bool) (b:LA) (k1:Nat→Int→LA→O R) (e:Nat) (o:Int) (u:LA):O R :=
 (Br 12 (b.drop 3) fun bd ae=>(cond (decide (o<((ae:Nat):Int))) (Br 12 (b.drop 3) fun af ag=>(cond (Ae o ag) (Ts (af.drop ((o.toNat)*12)) fun ah=>(cond ((Nat.ble (e+1) 140737488355328)&&(Nat.ble ((e+1)*16) 140737488355328)) (k1 (e+1) (wrap .i64 (o+1)) ((u.take (e*1))++[(.str ah)])) none)) none)) (r0 e u)))
def M1 (r0:Nat→LA→O R) (c:Bool) (b:LA):Nat→Nat→Int→LA→O R
 | 0,_,_,_=>none
 | n+1,e,o,u=>(Za N r0 c b (M1 r0 c b n) e o u)
def Zb (N:Nat) (r0:Nat→LA→O R) (c:Bool) (b:LA) (k2:Nat→Int→LA→O R) (f:Nat) (p:Int) (v:LA):O R :=
 (Br 22 (b.drop 4) fun be ai=>(cond (decide (p<((ai:Nat):Int))) (Br 22 (b.drop 4) fun aj ak=>(cond (Ae p ak) (Ts (aj.drop ((p.toNat)*22)) fun al=>(cond ((Nat.ble (f+1) 140737488355328)&&(Nat.ble ((f+1)*16) 140737488355328)) (k2 (f+1) (wrap .i64 (p+1)) ((v.take (f*1))++[(.str al)])) none)) none)) (r0 f v)))
def M2 (r0:Nat→LA→O R) (c:Bool) (b:LA):Nat→Nat→Int→LA→O R
 | 0,_,_,_=>none
 | n+1,f,p,v=>(Zb N r0 c b (M2 r0 c b n) f p v)
def Zc (N:Nat) (r0:Nat→LA→O R) (c:Bool) (b:LA) (k3:Nat→Int→LA→O R) (g:Nat) (q:Int) (w:LA):O R :=
 (Br 9 (b.drop 5) fun bf am=>(cond (decide (q<((am:Nat):Int))) (Br 9 (b.drop 5) fun an ao=>(cond (Ae q ao) (Ts (an.drop ((q.toNat)*9)) fun ap=>(cond ((Nat.ble (g+1) 140737488355328)&&(Nat.ble ((g+1)*16) 140737488355328)) (k3 (g+1) (wrap .i64 (q+1)) ((w.take (g*1))++[(.str ap)])) none)) none)) (r0 g w)))
def M3 (r0:Nat→LA→O R) (c:Bool) (b:LA):Nat→Nat→Int→LA→O R
 | 0,_,_,_=>none
 | n+1,g,q,w=>(Zc N r0 c b (M3 r0 c b n) g q w)
def Zd (N:Nat) (r0:Nat→LA→O R) (c:Bool) (b:LA) (k4:Nat→Int→LA→O R) (i:Nat) (r:Int) (x:LA):O R :=
 (Br 5 (b.drop 6) fun bg aq=>(cond (decide (r<((aq:Nat):Int))) (Br 5 (b.drop 6) fun ar au=>(cond (Ae r au) (Ts (ar.drop ((r.toNat)*5)) fun av=>(cond ((Nat.ble (i+1) 140737488355328)&&(Nat.ble ((i+1)*16) 140737488355328)) (k4 (i+1) (wrap .i64 (r+1)) ((x.take (i*1))++[(.str av)])) none)) none)) (r0 i x)))
def M4 (r0:Nat→LA→O R) (c:Bool) (b:LA):Nat→Nat→Int→LA→O R
 | 0,_,_,_=>none
 | n+1,i,r,x=>(Zd N r0 c b (M4 r0 c b n) i r x)
def Ze (N:Nat) (r0:Nat→LA→O R) (c:Bool) (b:LA) (k5:Nat→Int→LA→O R) (l:Nat) (s:Int) (y:LA):O R :=
 (Br 4 (b.drop 7) fun bh aw=>(cond (decide (s<((aw:Nat):Int))) (Br 4 (b.drop 7) fun ax ay=>(cond (Ae s ay) (Ts (ax.drop ((s.toNat)*4)) fun az=>(cond ((Nat.ble (l+1) 140737488355328)&&(Nat.ble ((l+1)*16) 140737488355328)) (k5 (l+1) (wrap .i64 (s+1)) ((y.take (l*1))++[(.str az)])) none)) none)) (r0 l y)))
def M5 (r0:Nat→LA→O R) (c:Bool) (b:LA):Nat→Nat→Int→LA→O R
 | 0,_,_,_=>none
 | n+1,l,s,y=>(Ze N r0 c b (M5 r0 c b n) l s y)
def M6 (N:Nat) (r0:Nat→LA→O R) (q0:Nat→Int→LA→O R) (q1:Nat→Int→LA→O R) (q2:Nat→Int→LA→O R) (q3:Nat→Int→LA→O R) (q4:Nat→Int→LA→O R) (q5:Nat→Int→LA→O R) (b:LA) (c:Bool) (z:Int):O R :=
 (cond (z==1) (q0 0 0 []) (cond (z==2) (q1 0 0 []) (cond (z==3) (q2 0 0 []) (cond (z==4) (q3 0 0 []) (cond (z==5) (q4 0 0 []) (cond (z==6) (q5 0 0 []) (r0 0 [])))))))
def Ik:=(Ag (fun (N:Nat) (b:LA) (c:Bool) (z:Int) (r0:Nat→LA→O R)=>(M6 N r0 (fun d m t=>(M0 N r0 c b N d m t)) (fun e o u=>(M1 N r0 c b N e o u)) (fun f p v=>(M2 N r0 c b N f p v)) (fun g q w=>(M3 N r0 c b N g q w)) (fun i r x=>(M4 N r0 c b N i r x)) (fun l s y=>(M5 N r0 c b N l s y)) b c z))).1
theorem Kz (b c z r0):(@Ik R N b c z r0)=(M6 N r0 (fun d m t=>(M0 N r0 c b N d m t)) (fun e o u=>(M1 N r0 c b N e o u)) (fun f p v=>(M2 N r0 c b N f p v)) (fun g q w=>(M3 N r0 c b N g q w)) (fun i r x=>(M4 N r0 c b N i r x)) (fun l s y=>(M5 N r0 c b N l s y)) b c z):=by rw[Ik,(Ag _).2]
def ow:Hints:={ H:=(hS hL (hS hL (hS (hS hL (hS (hS hL (hS (hS hL (hS (hP [2,5,6] hL) hL)) (hS hL (hS (hS hL (hS (hP [2,5,7] hL) hL)) (hS hL (hS (hS hL (hS (hP [2,5,8] hL) hL)) (hS hL (hS (hS hL (hS (hP [2,5,9] hL) hL)) (hS hL (hS (hS hL (hS (hP [2,5,10] hL) hL)) (hS hL (hS (hS hL (hS (hP [2,5,11] hL) hL)) hL)))))))))))) hL)) hL))),nils:=[(4,1),(5,1)],modes:=[(2,1)] }
def Ri (F:KF R):=Ju Tryz.f222 ow [] [] N F
def C6 (F:KF R):Nat→LA→O R:=(fun ba bb=>F (.own 300000 0 ba) (hq [(bQ 1 bb)]))
def Aoq (c:Bool) (b:LA) (d:Nat) (m:Int) (t:LA):St:=⟨[(2,(op 0)),(5,(.own 300001 0 d)),(6,(iv m))],(hq [(bP c 0 b),(bQ 1 t)])⟩
def Aor (F:KF R):=Ri N F [1,1,0,1,0,1,0,1,0] []
def Aos (c:Bool) (b:LA) (e:Nat) (o:Int) (u:LA):St:=⟨[(2,(op 0)),(5,(.own 300001 0 e)),(7,(iv o))],(hq [(bP c 0 b),(bQ 1 u)])⟩
def Aot (F:KF R):=Ri N F [1,1,0,1,0,1,1,1,0,1,0] []
def Aou (c:Bool) (b:LA) (f:Nat) (p:Int) (v:LA):St:=⟨[(2,(op 0)),(5,(.own 300001 0 f)),(8,(iv p))],(hq [(bP c 0 b),(bQ 1 v)])⟩
def Aov (F:KF R):=Ri N F [1,1,0,1,0,1,1,1,1,1,0,1,0] []
def Aow (c:Bool) (b:LA) (g:Nat) (q:Int) (w:LA):St:=⟨[(2,(op 0)),(5,(.own 300001 0 g)),(9,(iv q))],(hq [(bP c 0 b),(bQ 1 w)])⟩
def Aox (F:KF R):=Ri N F [1,1,0,1,0,1,1,1,1,1,1,1,0,1,0] []
def Aoy (c:Bool) (b:LA) (i:Nat) (r:Int) (x:LA):St:=⟨[(2,(op 0)),(5,(.own 300001 0 i)),(10,(iv r))],(hq [(bP c 0 b),(bQ 1 x)])⟩
def Aoz (F:KF R):=Ri N F [1,1,0,1,0,1,1,1,1,1,1,1,1,1,0,1,0] []
def Ao0 (c:Bool) (b:LA) (l:Nat) (s:Int) (y:LA):St:=⟨[(2,(op 0)),(5,(.own 300001 0 l)),(11,(iv s))],(hq [(bP c 0 b),(bQ 1 y)])⟩
def Ao1 (F:KF R):=Ri N F [1,1,0,1,0,1,1,1,1,1,1,1,1,1,1,1,0,1,0] []
theorem XU (F:KF R) (c:Bool) (b:LA):∀ (n d:Nat) (m:Int) (t:LA),Ak (Aor N F) n (Aoq c b d m t)=(M0 N (C6 F) c b n d m t)
 | 0,_,_,_=>by kernel_rfl
 | n+1,d,m,t=>Eq.trans (by kernel_rfl) (Bt (Y9 N (C6 F) c b · d m t) (funext fun d=>funext fun m=>funext fun t=>(XU F c b n d m t)):_)
theorem XV (F:KF R) (c:Bool) (b:LA):∀ (n e:Nat) (o:Int) (u:LA),Ak (Aot N F) n (Aos c b e o u)=(M1 N (C6 F) c b n e o u)
 | 0,_,_,_=>by kernel_rfl
 | n+1,e,o,u=>Eq.trans (by kernel_rfl) (Bt (Za N (C6 F) c b · e o u) (funext fun e=>funext fun o=>funext fun u=>(XV F c b n e o u)):_)
theorem XW (F:KF R) (c:Bool) (b:LA):∀ (n f:Nat) (p:Int) (v:LA),Ak (Aov N F) n (Aou c b f p v)=(M2 N (C6 F) c b n f p v)
 | 0,_,_,_=>by kernel_rfl
 | n+1,f,p,v=>Eq.trans (by kernel_rfl) (Bt (Zb N (C6 F) c b · f p v) (funext fun f=>funext fun p=>funext fun v=>(XW F c b n f p v)):_)
theorem XX (F:KF R) (c:Bool) (b:LA):∀ (n g:Nat) (q:Int) (w:LA),Ak (Aox N F) n (Aow c b g q w)=(M3 N (C6 F) c b n g q w)
 | 0,_,_,_=>by kernel_rfl
 | n+1,g,q,w=>Eq.trans (by kernel_rfl) (Bt (Zc N (C6 F) c b · g q w) (funext fun g=>funext fun q=>funext fun w=>(XX F c b n g q w)):_)
theorem XY (F:KF R) (c:Bool) (b:LA):∀ (n i:Nat) (r:Int) (x:LA),Ak (Aoz N F) n (Aoy c b i r x)=(M4 N (C6 F) c b n i r x)
 | 0,_,_,_=>by kernel_rfl
 | n+1,i,r,x=>Eq.trans (by kernel_rfl) (Bt (Zd N (C6 F) c b · i r x) (funext fun i=>funext fun r=>funext fun x=>(XY F c b n i r x)):_)
theorem XZ (F:KF R) (c:Bool) (b:LA):∀ (n l:Nat) (s:Int) (y:LA),Ak (Ao1 N F) n (Ao0 c b l s y)=(M5 N (C6 F) c b n l s y)
 | 0,_,_,_=>by kernel_rfl
 | n+1,l,s,y=>Eq.trans (by kernel_rfl) (Bt (Ze N (C6 F) c b · l s y) (funext fun l=>funext fun s=>funext fun y=>(XZ F c b n l s y)):_)
theorem pA (b:LA) (c:Bool) (z:Int) (F:KF R):Cw [] ow N 222 [(.pagg b c),(iv z)] [] F=(Ik N b c z (C6 F)):=by
 rw[Kz]
 exact Eq.trans (by kernel_rfl) (Bcq (M6 N (C6 F) · · · · · · b c z) (funext fun d=>funext fun m=>funext fun t=>(Ad ..).trans (XU N F c b N d m t)) (funext fun e=>funext fun o=>funext fun u=>(Ad ..).trans (XV N F c b N e o u)) (funext fun f=>funext fun p=>funext fun v=>(Ad ..).trans (XW N F c b N f p v)) (funext fun g=>funext fun q=>funext fun w=>(Ad ..).trans (XX N F c b N g q w)) (funext fun i=>funext fun r=>funext fun x=>(Ad ..).trans (XY N F c b N i r x)) (funext fun l=>funext fun s=>funext fun y=>(Ad ..).trans (XZ N F c b N l s y)):_)
def jd (a:LA) (h:Aj) (k:KF R):O R :=
 match a,h with
 | [(.pagg b c),(.int .i64 z)],[]=>(Ik N b c z (C6 k))
 | _,_=>none
theorem pB:An N 222 @jd:=by
 intro R Q a h k j;unfold jd;split;exact A2 (pA ..) (pA ..) trivial;exact A4
def pC:=A3 (pB N)
def pD:=Cz (pB N)
def sy (N:Nat) (b:Int) (r0:Int→O R):O R :=
 (cond (Ae b 7) (Ap .i64 (List.drop (0+((b.toNat)*1)) [(.int .i64 0),(.int .i64 32),(.int .i64 64),(.int .i64 16),(.int .i64 8),(.int .i64 8),(.int .i64 64)]) fun c=>(r0 c)) none)
def Sd:=(Ag (@sy R)).1
theorem pE:@Sd R=@sy R:=(Ag _).2
def vV (F:KF R):Int→O R:=(fun d=>F (iv d) [])
theorem vW (b:Int) (F:KF R):Cw [] Cr N 223 [(iv b)] [] F=(Sd N b (vV F)):=by
 rw[pE]
 kernel_rfl
def pF (a:LA) (h:Aj) (k:KF R):O R :=
 match a,h with
 | [(.int .i64 b)],[]=>(Sd N b (vV k))
 | _,_=>none
theorem vX:An N 223 @pF:=by
 intro R Q a h k j;unfold pF;split;exact A2 (vW ..) (vW ..) trivial;exact A4
def Auk:=A3 (vX N)
def Aul:=Cz (vX N)
def Co (r0:LA→O R) (c:Bool) (b:LA) (k0:Int→LA→O R) (d:Int) (e:LA):O R :=
 (cond (decide (d≤6)) (cond (Nat.ble 8 (b.length)) (Ik N (b.take 8) c d (fun g x=>(Sd N d (fun i=>(Aa N (decide (((g:Nat):Int)≤i)) 0 0 (wrap .i64 (d+1)) 8 e (fun l=>(k0 (wrap .i64 (d+1)) l))))))) none) (r0 e))
def Bn (r0:LA→O R) (c:Bool) (b:LA):Nat→Int→LA→O R
 | 0,_,_=>none
 | n+1,d,e=>(Co N r0 c b (Bn r0 c b n) d e)
def M7 (r0:LA→O R) (q0:Int→LA→O R) (b:LA) (c:Bool) (f:LA):O R :=
 (Ap .i64 b fun m=>(Ar N 1 24 [(.int .i64 m)] 1 false true (fun o=>(Aa N o 0 0 0 3 f (fun p=>(cond (Nat.ble 8 (b.length)) (Br 1 (b.drop 1) fun q r=>(C5 N (b.take 8) c q r false c 0 1048576 0 0 1 p (fun s=>(Br 3 (b.drop 2) fun y t=>(Ar N 1 32 [(.int .i64 ((t:Nat):Int))] 1 false true (fun u=>(Aa N u 0 0 2 8 s (fun v=>(q0 2 v))))))))) none))))))
def G1:=(Ag (fun (N:Nat) (b:LA) (c:Bool) (f:LA) (r0:LA→O R)=>(M7 N r0 (fun d e=>(Bn N r0 c b N d e)) b c f))).1
theorem W5 (b c f r0):(@G1 R N b c f r0)=(M7 N r0 (fun d e=>(Bn N r0 c b N d e)) b c f):=by rw[G1,(Ag _).2]
def AN:Hints:={ H:=(hS hL (hS hL (hS hL (hS hL (hS hL (hS (hP [0,3,4] hL) hL)))))) }
def CX:F2:=[(162,Dw N),(161,Bx N),(160,On N),(222,pC N),(223,Auk N)]
def dU (F:KF R):=Ju Tryz.f158 AN (CX N) [100000] N F
def Gq (F:KF R):LA→O R:=(fun w=>F (.tup []) [(100000,(bQ 0 w))])
def dV (c:Bool) (b:LA) (d:Int) (e:LA):St:=⟨[(0,(.optr 100000 0)),(3,(op 0)),(4,(iv d))],[(100000,(bQ 0 e)),(300000,(bP c 0 b))]⟩
def dW (F:KF R):=dU N F [1,1,1,1,1,0] []
theorem Uo (F:KF R) (c:Bool) (b:LA):∀ (n:Nat) (d:Int) (e:LA),Ak (dW N F) n (dV c b d e)=(Bn N (Gq F) c b n d e)
 | 0,_,_=>by kernel_rfl
 | n+1,d,e=>Eq.trans (by kernel_rfl) (Bt (Co N (Gq F) c b · d e) (funext fun d=>funext fun e=>(Uo F c b n d e)):_)
theorem AO (b:LA) (c:Bool) (f:LA) (F:KF R):Cw (CX N) AN N 158 [(.optr 100000 0),(.pagg b c)] [(100000,(bQ 0 f))] F=(G1 N b c f (Gq F)):=by
 rw[W5]
 exact Eq.trans (by kernel_rfl) (Bt (M7 N (Gq F) · b c f) (funext fun d=>funext fun e=>(Ad ..).trans (Uo N F c b N d e)):_)
def W6 (a:LA) (h:Aj) (k:KF R):O R :=
 match a,h with
 | [(.optr 100000 0),(.pagg b c)],[(100000,⟨false,false,true,false,0,f,false,none⟩)]=>(G1 N b c f (Gq k))
 | _,_=>none
theorem AP:An N 158 @W6:=by
 intro R Q a h k j;unfold W6;split;exact A2 (AO ..) (AO ..) ⟨Dx N,By N,Oo N,pD N,Aul N,trivial⟩;exact A4
def dX:=A3 (AP N)
def dY:=Cz (AP N)
def KM (N:Nat) (k1:Int→O R) (r0:Bool→O R) (b:List UInt8) (d:Int) (e:Bool):O R :=
 (cond ((!e)==true) (cond ((d==0)==false) (cond (Ae d (b.length)) (cond ((((UInt8.toNat (List.getD b (d.toNat) 0):Nat):Int) != 95)==true) (cond (Ae d (b.length)) (cond ((decide (((UInt8.toNat (List.getD b (d.toNat) 0):Nat):Int)<48))==false) (cond (Ae d (b.length)) (cond (cond true (cond false true (cond true (cond false true (decide (((UInt8.toNat (List.getD b (d.toNat) 0):Nat):Int)>57))) false)) false) (r0 false) (k1 (wrap .i64 (d+1)))) none) (r0 false)) none) (k1 (wrap .i64 (d+1)))) none) (r0 false)) (k1 (wrap .i64 (d+1))))
def EJ (N:Nat) (r0:Bool→O R) (b:List UInt8) (k1:Int→O R) (q2:Int→Bool→O R) (c:Int):O R :=
 (cond (decide (c<(((b.length):Nat):Int))) (cond (Ae c (b.length)) (cond ((decide (((UInt8.toNat (List.getD b (c.toNat) 0):Nat):Int)≥97))==true) (cond (Ae c (b.length)) (q2 c (cond true (decide (((UInt8.toNat (List.getD b (c.toNat) 0):Nat):Int)≤122)) false)) none) (q2 c false)) none) (r0 true))
def Ps (r0:Bool→O R) (b:List UInt8):Nat→Int→O R
 | 0,_=>none
 | n+1,c=>(EJ N r0 b (Ps r0 b n) (fun d e=>(KM N (Ps r0 b n) r0 b d e)) c)
def TT (N:Nat) (r0:Bool→O R) (b:List UInt8) (q1:Int→O R):O R :=
 (q1 0)
def KN (r0:Bool→O R) (b:List UInt8):O R:=(TT N r0 b (fun c=>(Ps N r0 b N c)))
def ge (N:Nat) (r0:Bool→O R) (q0:O R) (b:List UInt8):O R :=
 (cond ((decide ((((b.length):Nat):Int)<1))==false) (cond ((cond false true (decide ((((b.length):Nat):Int)>16)))==false) (cond (cond false true (b==([99,111,114,114,101,99,116,105,118,101]:List UInt8))) (r0 false) q0) (r0 false)) (r0 false))
def PR:=(Ag (fun (N:Nat) (b:List UInt8) (r0:Bool→O R)=>(ge N r0 (KN N r0 b) b))).1
theorem pG (b r0):(@PR R N b r0)=(ge N r0 (KN N r0 b) b):=by rw[PR,(Ag _).2]
def vY:Hints:={ H:=(hS hL (hJ [0] hL (hS (hS hL (hS (hP [0,3] (hS hL (hS (hS (hJ [0,3,4] hL hL) hL) hL))) hL)) hL))) }
def dZ (F:KF R):=Ju Tryz.f224 vY [] [] N F
def J7 (F:KF R):Bool→O R:=(fun f=>F (.bool f) [])
def Aum (b:List UInt8) (d:Int) (e:Bool):St:=⟨[(0,(.str b)),(3,(iv d)),(4,(.bool e))],[]⟩
def Aun (F:KF R) (Q1:St→O R):=dZ N F [1,1,0,1,0,0,1,0,0,1] [Q1]
def vZ (b:List UInt8) (c:Int):St:=⟨[(0,(.str b)),(3,(iv c))],[]⟩
def v6 (F:KF R):=dZ N F [1,1,0,1,0] []
def Auo (b:List UInt8):St:=⟨[(0,(.str b))],[]⟩
def Aup (F:KF R):=dZ N F [1,1] []
theorem Ade (Q1:St→O R) (F:KF R) (b:List UInt8):∀ (d:Int) (e:Bool),B5 (Aun N F Q1) (Aum b d e)=(KM N (fun c=>Q1 (vZ b c)) (J7 F) b d e):=by
 intro d e
 kernel_rfl
theorem d5 (F:KF R) (b:List UInt8):∀ (n:Nat) (c:Int),Ak (v6 N F) n (vZ b c)=(Ps N (J7 F) b n c)
 | 0,_=>by kernel_rfl
 | n+1,c=>have e0:=(funext fun c=>(d5 F b n c))
  Eq.trans (by kernel_rfl) (OQ (EJ N (J7 F) b · · c) e0 (funext fun d=>funext fun e=>(A1 ..).trans ((Ade N (Ak (v6 N F) n) F b d e).trans (Bt (KM N · (J7 F) b d e) e0))):_)
theorem Adf (F:KF R) (b:List UInt8):B5 (Aup N F) (Auo b)=(KN N (J7 F) b):=by
 exact Eq.trans (by kernel_rfl) (Bt (TT N (J7 F) b ·) (funext fun c=>(Ad ..).trans (d5 N F b N c)):_)
theorem v7 (b:List UInt8) (F:KF R):Cw [] vY N 224 [(.str b)] [] F=(PR N b (J7 F)):=by
 rw[pG]
 exact Eq.trans (by kernel_rfl) (Bt (ge N (J7 F) · b) ((A1 ..).trans (Adf N F b)):_)
def pH (a:LA) (h:Aj) (k:KF R):O R :=
 match a,h with
 | [(.str b)],[]=>(PR N b (J7 k))
 | _,_=>none
theorem v8:An N 224 @pH:=by
 intro R Q a h k j;unfold pH;split;exact A2 (v7 ..) (v7 ..) trivial;exact A4
def Auq:=A3 (v8 N)
def Aur:=Cz (v8 N)
def J8 (r0:LA→O R) (c b:Int) (d:Nat) (e:LA) (k0:Int→LA→O R) (f:Int) (g:LA):O R :=
 (cond (decide (f<b)) (cond (Ae f d) (Ts (e.drop (0+((f.toNat)*1))) fun o=>(cond (Ae b d) (Ts (e.drop (0+((b.toNat)*1))) fun p=>(Aa N (!(o==p)) c b 0 10 g (fun q=>(k0 (wrap .i64 (f+1)) q)))) none)) none) (r0 g))
def D7 (r0:LA→O R) (c b:Int) (d:Nat) (e:LA):Nat→Int→LA→O R
 | 0,_,_=>none
 | n+1,f,g=>(J8 N r0 c b d e (D7 r0 c b d e n) f g)
def Oz (r0:LA→O R) (q0:Nat→LA→Int→LA→O R) (i:LA) (l:Bool) (c b:Int) (m:LA):O R :=
 (cond (Nat.ble 8 (i.length)) (Ik N (i.take 8) l c (fun d e=>(cond (Ae b d) (Ts (e.drop (0+((b.toNat)*1))) fun r=>(PR N r (fun s=>(Aa N s c b 0 9 m (fun t=>(q0 d e 0 t)))))) none))) none)
def Cs:=(Ag (fun (N:Nat) (i:LA) (l:Bool) (c b:Int) (m:LA) (r0:LA→O R)=>(Oz N r0 (fun d e f g=>(D7 N r0 c b d e N f g)) i l c b m))).1
theorem AQ (i l c b m r0):(@Cs R N i l c b m r0)=(Oz N r0 (fun d e f g=>(D7 N r0 c b d e N f g)) i l c b m):=by rw[Cs,(Ag _).2]
def CY:Hints:={ H:=(hS hL (hS hL (hS hL (hS hL (hS (hP [0,2,3,8,9] hL) hL))))) }
def HH:F2:=[(222,pC N),(224,Auq N),(161,Bx N)]
def iM (F:KF R):=Ju Tryz.f159 CY (HH N) [100000] N F
def Hh (F:KF R):LA→O R:=(fun u=>F (.tup []) [(100000,(bQ 0 u))])
def iN (c b:Int) (d:Nat) (e:LA) (f:Int) (g:LA):St:=⟨[(0,(.optr 100000 0)),(2,(iv c)),(3,(iv b)),(8,(.own 300000 0 d)),(9,(iv f))],[(100000,(bQ 0 g)),(300000,(bQ 1 e))]⟩
def iO (F:KF R):=iM N F [1,1,1,1,0] []
theorem Vt (F:KF R) (c b:Int) (d:Nat) (e:LA):∀ (n:Nat) (f:Int) (g:LA),Ak (iO N F) n (iN c b d e f g)=(D7 N (Hh F) c b d e n f g)
 | 0,_,_=>by kernel_rfl
 | n+1,f,g=>Eq.trans (by kernel_rfl) (Bt (J8 N (Hh F) c b d e · f g) (funext fun f=>funext fun g=>(Vt F c b d e n f g)):_)
theorem CZ (i:LA) (l:Bool) (c b:Int) (m:LA) (F:KF R):Cw (HH N) CY N 159 [(.optr 100000 0),(.pagg i l),(iv c),(iv b)] [(100000,(bQ 0 m))] F=(Cs N i l c b m (Hh F)):=by
 rw[AQ]
 exact Eq.trans (by kernel_rfl) (Bt (Oz N (Hh F) · i l c b m) (funext fun d=>funext fun e=>funext fun f=>funext fun g=>(Ad ..).trans (Vt N F c b d e N f g)):_)
def AR (a:LA) (h:Aj) (k:KF R):O R :=
 match a,h with
 | [(.optr 100000 0),(.pagg i l),(.int .i64 c),(.int .i64 b)],[(100000,⟨false,false,true,false,0,m,false,none⟩)]=>(Cs N i l c b m (Hh k))
 | _,_=>none
theorem C_:An N 159 @AR:=by
 intro R Q a h k j;unfold AR;split;exact A2 (CZ ..) (CZ ..) ⟨pD N,Aur N,By N,trivial⟩;exact A4
def Fo:=A3 (C_ N)
def Fp:=Cz (C_ N)
def X3 (b:LA) (i:Bool) (c d e f:Int) (g:LA) (r0:LA→O R):O R :=
 (Br 3 (b.drop 2) fun p l=>(Ar N 0 (wrap .i64 (((l:Nat):Int) - 1)) [(.int .i64 c)] 1 false true (fun m=>(Aa N m d e f 12 g (fun n=>(r0 n))))))
def Ek:=(Ag (@X3 R)).1
theorem C':@Ek R=@X3 R:=(Ag _).2
def pI:F2:=[(162,Dw N),(161,Bx N)]
def HI (F:KF R):LA→O R:=(fun o=>F (.tup []) [(100000,(bQ 0 o))])
theorem HJ (b:LA) (i:Bool) (c d e f:Int) (g:LA) (F:KF R):Cw (pI N) Cr N 225 [(.optr 100000 0),(.pagg b i),(iv c),(iv d),(iv e),(iv f)] [(100000,(bQ 0 g))] F=(Ek N b i c d e f g (HI F)):=by
 rw[C']
 kernel_rfl
def DA (a:LA) (h:Aj) (k:KF R):O R :=
 match a,h with
 | [(.optr 100000 0),(.pagg b i),(.int .i64 c),(.int .i64 d),(.int .i64 e),(.int .i64 f)],[(100000,⟨false,false,true,false,0,g,false,none⟩)]=>(Ek N b i c d e f g (HI k))
 | _,_=>none
theorem HK:An N 225 @DA:=by
 intro R Q a h k j;unfold DA;split;exact A2 (HJ ..) (HJ ..) ⟨Dx N,By N,trivial⟩;exact A4
def M8:=A3 (HK N)
def M9:=Cz (HK N)
def NA (b:LA) (c:Bool) (r0:Bool→O R):O R :=
 (Ap .i64 (b.drop 1) fun d=>(Ar N 1 1048576 [(.int .i64 d)] 1 false true (fun e=>(cond (e==true) (Ap .i64 b fun f=>(Ar N (-1048576) 1048576 [(.int .i64 f)] 1 false true (fun g=>(r0 (cond true g false))))) (r0 false)))))
def J9:=(Ag (@NA R)).1
theorem PS:@J9 R=@NA R:=(Ag _).2
def Adg:F2:=[(162,Dw N)]
def X_ (F:KF R):Bool→O R:=(fun i=>F (.bool i) [])
theorem X' (b:LA) (c:Bool) (F:KF R):Cw (Adg N) Cr N 226 [(.pagg b c)] [] F=(J9 N b c (X_ F)):=by
 rw[PS]
 kernel_rfl
def PT (a:LA) (h:Aj) (k:KF R):O R :=
 match a,h with
 | [(.pagg b c)],[]=>(J9 N b c (X_ k))
 | _,_=>none
theorem YA:An N 226 @PT:=by
 intro R Q a h k j;unfold PT;split;exact A2 (X' ..) (X' ..) ⟨Dx N,trivial⟩;exact A4
def YB:=A3 (YA N)
def YC:=Cz (YA N)
def Pt (N:Nat) (r0:Bool→O R) (c:LA) (b:Nat) (d e:Bool) (k0:Int→O R) (f:Int):O R :=
 (cond (decide (f<((b:Nat):Int))) (cond (Ae f b) (Ap .i64 (c.drop ((f.toNat)*1)) fun g=>(cond (Ae (wrap .i64 (f - 1)) b) (Ap .i64 (c.drop (((wrap .i64 (f - 1)).toNat)*1)) fun i=>(cond (decide (g≤i)) (r0 false) (k0 (wrap .i64 (f+1))))) none)) none) (r0 true))
def Hx (r0:Bool→O R) (c:LA) (b:Nat) (d e:Bool):Nat→Int→O R
 | 0,_=>none
 | n+1,f=>(Pt N r0 c b d e (Hx r0 c b d e n) f)
def KO (N:Nat) (r0:Bool→O R) (q0:Int→O R) (c:LA) (b:Nat) (d e:Bool):O R :=
 (q0 1)
def Pu:=(Ag (fun (N:Nat) (c:LA) (b:Nat) (d e:Bool) (r0:Bool→O R)=>(KO N r0 (fun f=>(Hx N r0 c b d e N f)) c b d e))).1
theorem d6 (c b d e r0):(@Pu R N c b d e r0)=(KO N r0 (fun f=>(Hx N r0 c b d e N f)) c b d e):=by rw[Pu,(Ag _).2]
def Ahu (F:KF R):=Ju Tryz.f229 A2u [] [] N F
def Se (F:KF R):Bool→O R:=(fun l=>F (.bool l) [])
def Ahv (c:LA) (b:Nat) (d e:Bool) (f:Int):St:=⟨[(0,(.imm c b 1 d e)),(3,(iv f))],[]⟩
def Ahw (F:KF R):=Ahu N F [1,0,1,0] []
theorem PU (F:KF R) (c:LA) (b:Nat) (d e:Bool):∀ (n:Nat) (f:Int),Ak (Ahw N F) n (Ahv c b d e f)=(Hx N (Se F) c b d e n f)
 | 0,_=>by kernel_rfl
 | n+1,f=>Eq.trans (by kernel_rfl) (Bt (Pt N (Se F) c b d e · f) (funext fun f=>(PU F c b d e n f)):_)
theorem je (c:LA) (b:Nat) (d e:Bool) (F:KF R):Cw [] A2u N 229 [(.imm c b 1 d e)] [] F=(Pu N c b d e (Se F)):=by
 rw[d6]
 exact Eq.trans (by kernel_rfl) (Bt (KO N (Se F) · c b d e) (funext fun f=>(Ad ..).trans (PU N F c b d e N f)):_)
def d7 (a:LA) (h:Aj) (k:KF R):O R :=
 match a,h with
 | [(.imm c b 1 d e)],[]=>(Pu N c b d e (Se k))
 | _,_=>none
theorem jf:An N 229 @d7:=by
 intro R Q a h k j;unfold d7;split;exact A2 (je ..) (je ..) trivial;exact A4
def jg:=A3 (jf N)
def jh:=Cz (jf N)
def Vu (i:LA) (m:Bool) (b:LA) (c:Nat) (n d:Bool) (e f g:Int) (l:LA) (r0:LA→O R):O R :=
 (Ap .i64 i fun o=>(Ar N 0 (wrap .i64 (o - 1)) b c false d (fun p=>(Aa N p e f g 3 l (fun q=>(Pu N b c false d (fun r=>(Aa N r e f g 11 q (fun s=>(r0 s))))))))))
def Il:=(Ag (@Vu R)).1
theorem AS:@Il R=@Vu R:=(Ag _).2
def mX:F2:=[(162,Dw N),(161,Bx N),(229,jg N)]
def DB (F:KF R):LA→O R:=(fun t=>F (.tup []) [(100000,(bQ 0 t))])
theorem DC (i:LA) (m:Bool) (b:LA) (c:Nat) (n d:Bool) (e f g:Int) (l:LA) (F:KF R):Cw (mX N) Cr N 227 [(.optr 100000 0),(.pagg i m),(.imm b c 1 n d),(iv e),(iv f),(iv g)] [(100000,(bQ 0 l))] F=(Il N i m b c n d e f g l (DB F)):=by
 rw[AS]
 kernel_rfl
def AT (a:LA) (h:Aj) (k:KF R):O R :=
 match a,h with
 | [(.optr 100000 0),(.pagg i m),(.imm b c 1 n d),(.int .i64 e),(.int .i64 f),(.int .i64 g)],[(100000,⟨false,false,true,false,0,l,false,none⟩)]=>(Il N i m b c n d e f g l (DB k))
 | _,_=>none
theorem DD:An N 227 @AT:=by
 intro R Q a h k j;unfold AT;split;exact A2 (DC ..) (DC ..) ⟨Dx N,By N,jh N,trivial⟩;exact A4
def DE:=A3 (DD N)
def DF:=Cz (DD N)
end
end Gx

namespace Gx
open Go Go.Proofs
open IntKind (wrap)
set_option maxRecDepth 100000
noncomputable section
variable {R:Type} (N:Nat)
def Ho (r0:LA→O R) (b:Int) (l:LA) (o:Nat) (c:Bool) (k2:Int→Int→LA→O R) (r f:Int) (s:LA):O R :=
 (cond (decide (f<r)) (cond (Ae f o) (cond (Nat.ble 3 ((l.drop ((f.toNat)*3)).length)) (cond ((!c)||(Az ((l.drop ((f.toNat)*3)).take 3))) (cond ((Nat.beq (((l.drop ((f.toNat)*3)).take 3).length) 3)&&((Nat.ble 3 3)&&(!false))) (Ap .i64 ((setCells [(.int .i64 0),(.int .i64 0),(.int .i64 0)] 0 ((l.drop ((f.toNat)*3)).take 3)).drop 1) fun z=>(Ap .i64 ((setCells [(.int .i64 0),(.int .i64 0),(.int .i64 0)] 0 ((l.drop ((f.toNat)*3)).take 3)).drop 2) fun aa=>(Ar N 0 1048576 [(.int .i64 z),(.int .i64 aa)] 2 false true (fun ab=>(Aa N ab 6 b 3 3 s (fun ac=>(k2 r (wrap .i64 (f+1)) ac))))))) none) none) none) none) (r0 s))
def D9 (r0:LA→O R) (b:Int) (l:LA) (o:Nat) (c:Bool):Nat→Int→Int→LA→O R
 | 0,_,_,_=>none
 | n+1,r,f,s=>(Ho N r0 b l o c (D9 r0 b l o c n) r f s)
def Hp (r0:LA→O R) (b:Int) (m:LA) (p:Nat) (c:Bool) (t d e:LA) (k1:Nat→Int→Int→LA→O R) (q2:LA→Nat→Int→Int→LA→O R) (g:Nat) (u i:Int) (q:LA):O R :=
 (cond (decide (i<u)) (cond (Ae i p) (cond (Nat.ble 3 ((m.drop ((i.toNat)*3)).length)) (cond ((!c)||(Az ((m.drop ((i.toNat)*3)).take 3))) (cond ((Nat.beq (((m.drop ((i.toNat)*3)).take 3).length) 3)&&((Nat.ble 3 3)&&(!false))) (Ap .i64 (setCells [(.int .i64 0),(.int .i64 0),(.int .i64 0)] 0 ((m.drop ((i.toNat)*3)).take 3)) fun ad=>(cond ((Nat.ble (g+1) 140737488355328)&&(Nat.ble ((g+1)*8) 140737488355328)) (k1 (g+1) u (wrap .i64 (i+1)) ((q.take (g*1))++[(.int .i64 ad)])) none)) none) none) none) none) (Br 22 (d.drop 4) fun be ae=>(Ar N 0 (wrap .i64 (((ae:Nat):Int) - 1)) (q.take (g*1)) g false true (fun af=>(Aa N af 6 b 3 12 t (fun ag=>(Pu N (q.take (g*1)) g false true (fun ah=>(Aa N ah 6 b 3 11 ag (fun ai=>(Br 3 (e.drop 3) fun l o=>(q2 l o ((o:Nat):Int) 0 ai))))))))))))
def Ea (r0:LA→O R) (b:Int) (m:LA) (p:Nat) (c:Bool) (t d e:LA):Nat→Nat→Int→Int→LA→O R
 | 0,_,_,_,_=>none
 | n+1,g,u,i,q=>(Hp N r0 b m p c t d e (Ea r0 b m p c t d e n) (fun l o r f s=>(D9 N r0 b l o c N r f s)) g u i q)
def Na (r0:LA→O R) (b:Int) (c:Bool) (d:LA) (q1:LA→Nat→LA→Nat→Int→Int→LA→O R) (v e:LA):O R :=
 (Br 3 (e.drop 3) fun bf aj=>(Aa N (decide (((aj:Nat):Int)≤16)) 6 b 3 8 v (fun t=>(Br 3 (e.drop 3) fun m p=>(q1 m p t 0 ((p:Nat):Int) 0 [])))))
def Jd (r0:LA→O R) (b:Int) (c:Bool) (d:LA) (v e:LA):O R:=(Na N r0 b c d (fun m p t g u i q=>(Ea N r0 b m p c t d e N g u i q)) v e)
def Lg (r0:LA→O R) (q0:LA→LA→O R) (d:LA) (c:Bool) (b:Int) (w:LA):O R :=
 (Br 4 (d.drop 7) fun x ak=>(cond (Ae b ak) (cond (Nat.ble 4 ((x.drop ((b.toNat)*4)).length)) (cond ((Nat.beq 0 0)&&((Nat.beq (((x.drop ((b.toNat)*4)).take 4).length) 4)&&(Nat.beq 4 4))) (cond (Nat.ble 8 (d.length)) (Cs N (d.take 8) c 6 b w (fun al=>(Br 1 (((x.drop ((b.toNat)*4)).take 4).drop 1) fun bg am=>(Ar N 1 2 [(.int .i64 ((am:Nat):Int))] 1 false true (fun an=>(Aa N an 6 b 1 4 al (fun ao=>(Br 12 (d.drop 3) fun bh ap=>(Br 1 (((x.drop ((b.toNat)*4)).take 4).drop 1) fun aq ar=>(Ar N 0 (wrap .i64 (((ap:Nat):Int) - 1)) aq ar false c (fun au=>(Aa N au 6 b 1 12 ao (fun av=>(Br 1 (((x.drop ((b.toNat)*4)).take 4).drop 1) fun aw ax=>(Pu N aw ax false c (fun ay=>(Aa N ay 6 b 1 11 av (fun y=>(bW (((x.drop ((b.toNat)*4)).take 4).drop 2) fun az=>(cond (az==false) (Br 3 (((x.drop ((b.toNat)*4)).take 4).drop 3) fun bi ba=>(Aa N (cond false true (((ba:Nat):Int)==0)) 6 b 3 16 y (fun bb=>(q0 bb ((x.drop ((b.toNat)*4)).take 4))))) (Aa N true 6 b 3 16 y (fun bc=>(q0 bc ((x.drop ((b.toNat)*4)).take 4)))))))))))))))))))))))) none) none) none) none))
def F7:=(Ag (fun (N:Nat) (d:LA) (c:Bool) (b:Int) (w:LA) (r0:LA→O R)=>(Lg N r0 (fun v e=>(Jd N r0 b c d v e)) d c b w))).1
theorem Vv (d c b w r0):(@F7 R N d c b w r0)=(Lg N r0 (fun v e=>(Jd N r0 b c d v e)) d c b w):=by rw[F7,(Ag _).2]
def W7:Hints:={ H:=(hS hL (hS hL (hS hL (hS hL (hS hL (hS hL (hJ [0,2,4,6,7] hL (hS hL (hS hL (hS (hS hL (hS (hP [0,2,4,6,7,8,71,72,73] hL) hL)) (hS hL (hS hL (hS hL (hS (hP [0,2,7,100,101,102] hL) hL)))))))))))))),nils:=[(8,1)] }
def AU:F2:=[(159,Fo N),(162,Dw N),(161,Bx N),(229,jg N)]
def Oq (F:KF R):=Ju Tryz.f167 W7 (AU N) [100000] N F
def B9 (F:KF R):LA→O R:=(fun bd=>F (.tup []) [(100000,(bQ 0 bd))])
def aP (b:Int) (l:LA) (o:Nat) (c:Bool) (r f:Int) (s:LA):St:=⟨[(0,(.optr 100000 0)),(2,(iv b)),(7,(iv 6)),(100,(.imm l o 3 false c)),(101,(iv r)),(102,(iv f))],[(100000,(bQ 0 s))]⟩
def aQ (F:KF R):=Oq N F [1,1,1,1,1,1,1,1,1,1,1,1,1,0] []
def aR (b:Int) (m:LA) (p:Nat) (c:Bool) (t d e:LA) (g:Nat) (u i:Int) (q:LA):St:=⟨[(0,(.optr 100000 0)),(2,(iv b)),(4,(op 0)),(6,(op 1)),(7,(iv 6)),(8,(.own 300002 0 g)),(71,(.imm m p 3 false c)),(72,(iv u)),(73,(iv i))],[(100000,(bQ 0 t)),(300000,(bP c 0 d)),(300001,(bP c 0 e)),(300002,(bQ 1 q))]⟩
def aS (F:KF R):=Oq N F [1,1,1,1,1,1,1,1,1,0,1,0] []
def aT (b:Int) (c:Bool) (d v e:LA):St:=⟨[(0,(.optr 100000 0)),(2,(iv b)),(4,(op 0)),(6,(op 1)),(7,(iv 6))],[(100000,(bQ 0 v)),(300000,(bP c 0 d)),(300001,(bP c 0 e))]⟩
def aU (F:KF R):=Oq N F [1,1,1,1,1,1,1] []
theorem Sf (F:KF R) (b:Int) (l:LA) (o:Nat) (c:Bool):∀ (n:Nat) (r f:Int) (s:LA),Ak (aQ N F) n (aP b l o c r f s)=(D9 N (B9 F) b l o c n r f s)
 | 0,_,_,_=>by kernel_rfl
 | n+1,r,f,s=>Eq.trans (by kernel_rfl) (Bt (Ho N (B9 F) b l o c · r f s) (funext fun r=>funext fun f=>funext fun s=>(Sf F b l o c n r f s)):_)
theorem Sg (F:KF R) (b:Int) (m:LA) (p:Nat) (c:Bool) (t d e:LA):∀ (n g:Nat) (u i:Int) (q:LA),Ak (aS N F) n (aR b m p c t d e g u i q)=(Ea N (B9 F) b m p c t d e n g u i q)
 | 0,_,_,_,_=>by kernel_rfl
 | n+1,g,u,i,q=>Eq.trans (by kernel_rfl) (OQ (Hp N (B9 F) b m p c t d e · · g u i q) (funext fun g=>funext fun u=>funext fun i=>funext fun q=>(Sg F b m p c t d e n g u i q)) (funext fun l=>funext fun o=>funext fun r=>funext fun f=>funext fun s=>(Ad ..).trans (Sf N F b l o c N r f s)):_)
theorem NB (F:KF R) (b:Int) (c:Bool) (d:LA):∀ (v e:LA),B5 (aU N F) (aT b c d v e)=(Jd N (B9 F) b c d v e):=by
 intro v e
 exact Eq.trans (by kernel_rfl) (Bt (Na N (B9 F) b c d · v e) (funext fun m=>funext fun p=>funext fun t=>funext fun g=>funext fun u=>funext fun i=>funext fun q=>(Ad ..).trans (Sg N F b m p c t d e N g u i q)):_)
theorem W8 (d:LA) (c:Bool) (b:Int) (w:LA) (F:KF R):Cw (AU N) W7 N 167 [(.optr 100000 0),(.pagg d c),(iv b)] [(100000,(bQ 0 w))] F=(F7 N d c b w (B9 F)):=by
 rw[Vv]
 exact Eq.trans (by kernel_rfl) (Bt (Lg N (B9 F) · d c b w) (funext fun v=>funext fun e=>(A1 ..).trans (NB N F b c d v e)):_)
def Vw (a:LA) (h:Aj) (k:KF R):O R :=
 match a,h with
 | [(.optr 100000 0),(.pagg d c),(.int .i64 b)],[(100000,⟨false,false,true,false,0,w,false,none⟩)]=>(F7 N d c b w (B9 k))
 | _,_=>none
theorem W9:An N 167 @Vw:=by
 intro R Q a h k j;unfold Vw;split;exact A2 (W8 ..) (W8 ..) ⟨Fp N,Dx N,By N,jh N,trivial⟩;exact A4
def aV:=A3 (W9 N)
def aW:=Cz (W9 N)
def KP (N:Nat) (r0:Bool→O R) (c:LA) (b:Nat) (e f:Bool) (d:Int) (k0:Int→O R) (g:Int):O R :=
 (cond (decide (g<((b:Nat):Int))) (cond (Ae g b) (Ap .i64 (c.drop ((g.toNat)*1)) fun i=>(cond (i==d) (r0 true) (k0 (wrap .i64 (g+1))))) none) (r0 false))
def Tz (r0:Bool→O R) (c:LA) (b:Nat) (e f:Bool) (d:Int):Nat→Int→O R
 | 0,_=>none
 | n+1,g=>(KP N r0 c b e f d (Tz r0 c b e f d n) g)
def pJ (N:Nat) (r0:Bool→O R) (q0:Int→O R) (c:LA) (b:Nat) (e f:Bool) (d:Int):O R :=
 (q0 0)
def KQ:=(Ag (fun (N:Nat) (c:LA) (b:Nat) (e f:Bool) (d:Int) (r0:Bool→O R)=>(pJ N r0 (fun g=>(Tz N r0 c b e f d N g)) c b e f d))).1
theorem v_ (c b e f d r0):(@KQ R N c b e f d r0)=(pJ N r0 (fun g=>(Tz N r0 c b e f d N g)) c b e f d):=by rw[KQ,(Ag _).2]
def Adh:Hints:={ H:=(hS hL (hS (hS hL (hS (hP [0,1,5] hL) hL)) hL)) }
def Azz (F:KF R):=Ju Tryz.f169 Adh [] [] N F
def HL (F:KF R):Bool→O R:=(fun l=>F (.bool l) [])
def Az0 (c:LA) (b:Nat) (e f:Bool) (d g:Int):St:=⟨[(0,(.imm c b 1 e f)),(1,(iv d)),(5,(iv g))],[]⟩
def Az1 (F:KF R):=Azz N F [1,0,1,0] []
theorem ji (F:KF R) (c:LA) (b:Nat) (e f:Bool) (d:Int):∀ (n:Nat) (g:Int),Ak (Az1 N F) n (Az0 c b e f d g)=(Tz N (HL F) c b e f d n g)
 | 0,_=>by kernel_rfl
 | n+1,g=>Eq.trans (by kernel_rfl) (Bt (KP N (HL F) c b e f d · g) (funext fun g=>(ji F c b e f d n g)):_)
theorem Adi (c:LA) (b:Nat) (e f:Bool) (d:Int) (F:KF R):Cw [] Adh N 169 [(.imm c b 1 e f),(iv d)] [] F=(KQ N c b e f d (HL F)):=by
 rw[v_]
 exact Eq.trans (by kernel_rfl) (Bt (pJ N (HL F) · c b e f d) (funext fun g=>(Ad ..).trans (ji N F c b e f d N g)):_)
def va (a:LA) (h:Aj) (k:KF R):O R :=
 match a,h with
 | [(.imm c b 1 e f),(.int .i64 d)],[]=>(KQ N c b e f d (HL k))
 | _,_=>none
theorem Adj:An N 169 @va:=by
 intro R Q a h k j;unfold va;split;exact A2 (Adi ..) (Adi ..) trivial;exact A4
def mY:=A3 (Adj N)
def mZ:=Cz (Adj N)
def O0 (r0:Nat→LA→O R) (c:Int) (d:Bool) (b:LA) (k0:Nat→Int→LA→O R) (e:Nat) (f:Int) (g:LA):O R :=
 (Br 12 (b.drop 3) fun t i=>(cond (decide (f<((i:Nat):Int))) (Br 12 (b.drop 3) fun l m=>(cond (Ae f m) (Br 1 ((l.drop ((f.toNat)*12)).drop 11) fun o p=>(KQ N o p false d c (fun q=>(cond (!q) (cond ((Nat.ble (e+1) 140737488355328)&&(Nat.ble ((e+1)*8) 140737488355328)) (k0 (e+1) (wrap .i64 (f+1)) ((g.take (e*1))++[(.int .i64 f)])) none) (k0 e (wrap .i64 (f+1)) g))))) none)) (r0 e g)))
def F8 (r0:Nat→LA→O R) (c:Int) (d:Bool) (b:LA):Nat→Nat→Int→LA→O R
 | 0,_,_,_=>none
 | n+1,e,f,g=>(O0 N r0 c d b (F8 r0 c d b n) e f g)
def Vx (N:Nat) (r0:Nat→LA→O R) (q0:Nat→Int→LA→O R) (b:LA) (d:Bool) (c:Int):O R :=
 (q0 0 0 [])
def Of:=(Ag (fun (N:Nat) (b:LA) (d:Bool) (c:Int) (r0:Nat→LA→O R)=>(Vx N r0 (fun e f g=>(F8 N r0 c d b N e f g)) b d c))).1
theorem KR (b d c r0):(@Of R N b d c r0)=(Vx N r0 (fun e f g=>(F8 N r0 c d b N e f g)) b d c):=by rw[Of,(Ag _).2]
def PV:Hints:={ H:=(hS hL (hS hL (hS (hS hL (hS (hP [1,2,5,6] hL) hL)) hL))),nils:=[(4,1),(5,1)],modes:=[(2,1)] }
def YD:F2:=[(169,mY N)]
def tA (F:KF R):=Ju Tryz.f230 PV (YD N) [] N F
def Ls (F:KF R):Nat→LA→O R:=(fun r s=>F (.own 300000 0 r) (hq [(bQ 1 s)]))
def tB (c:Int) (d:Bool) (b:LA) (e:Nat) (f:Int) (g:LA):St:=⟨[(1,(iv c)),(2,(op 0)),(5,(.own 300001 0 e)),(6,(iv f))],(hq [(bP d 0 b),(bQ 1 g)])⟩
def tC (F:KF R):=tA N F [1,1,0,1,0] []
theorem DG (F:KF R) (c:Int) (d:Bool) (b:LA):∀ (n e:Nat) (f:Int) (g:LA),Ak (tC N F) n (tB c d b e f g)=(F8 N (Ls F) c d b n e f g)
 | 0,_,_,_=>by kernel_rfl
 | n+1,e,f,g=>Eq.trans (by kernel_rfl) (Bt (O0 N (Ls F) c d b · e f g) (funext fun e=>funext fun f=>funext fun g=>(DG F c d b n e f g)):_)
theorem PW (b:LA) (d:Bool) (c:Int) (F:KF R):Cw (YD N) PV N 230 [(.pagg b d),(iv c)] [] F=(Of N b d c (Ls F)):=by
 rw[KR]
 exact Eq.trans (by kernel_rfl) (Bt (Vx N (Ls F) · b d c) (funext fun e=>funext fun f=>funext fun g=>(Ad ..).trans (DG N F c d b N e f g)):_)
def KS (a:LA) (h:Aj) (k:KF R):O R :=
 match a,h with
 | [(.pagg b d),(.int .i64 c)],[]=>(Of N b d c (Ls k))
 | _,_=>none
theorem PX:An N 230 @KS:=by
 intro R Q a h k j;unfold KS;split;exact A2 (PW ..) (PW ..) ⟨mZ N,trivial⟩;exact A4
def tD:=A3 (PX N)
def tE:=Cz (PX N)
def Zf (N:Nat) (r0:Nat→Nat→LA→LA→O R) (d:Nat) (c:Bool) (b g:LA) (k0:Nat→Int→Int→LA→O R) (e:Nat) (i f:Int) (l:LA):O R :=
 (cond (decide (f<i)) (cond (Ae f d) (Ap .i64 (g.drop (0+((f.toNat)*1))) fun o=>(Br 12 (b.drop 3) fun p q=>(cond (Ae o q) (Ap .i64 ((p.drop ((o.toNat)*12)).drop 1) fun r=>(Br 12 (b.drop 3) fun s t=>(cond (Ae o t) (Ap .i64 ((s.drop ((o.toNat)*12)).drop 2) fun u=>(cond ((Nat.ble (e+1) 140737488355328)&&(Nat.ble ((e+1)*16) 140737488355328)) (k0 (e+1) i (wrap .i64 (f+1)) ((l.take (e*2))++[(.int .i64 r),(.int .i64 u)])) none)) none))) none))) none) (r0 e d l g))
def Nb (r0:Nat→Nat→LA→LA→O R) (d:Nat) (c:Bool) (b g:LA):Nat→Nat→Int→Int→LA→O R
 | 0,_,_,_,_=>none
 | n+1,e,i,f,l=>(Zf N r0 d c b g (Nb r0 d c b g n) e i f l)
def TU (r0:Nat→Nat→LA→LA→O R) (q0:Nat→LA→Nat→Int→Int→LA→O R) (b:LA) (c:Bool) (m:Int):O R :=
 (cond (Nat.ble 8 (b.length)) (Of N (b.take 8) c m (fun d g=>(q0 d g 0 ((d:Nat):Int) 0 []))) none)
def FU:=(Ag (fun (N:Nat) (b:LA) (c:Bool) (m:Int) (r0:Nat→Nat→LA→LA→O R)=>(TU N r0 (fun d g e i f l=>(Nb N r0 d c b g N e i f l)) b c m))).1
theorem jj (b c m r0):(@FU R N b c m r0)=(TU N r0 (fun d g e i f l=>(Nb N r0 d c b g N e i f l)) b c m):=by rw[FU,(Ag _).2]
def pK:Hints:={ H:=(hS hL (hS hL (hS hL (hS (hS hL (hS (hP [2,6,7,13,14,15] hL) hL)) hL)))),nils:=[(4,2),(5,1),(7,2)],modes:=[(2,2),(2,1)] }
def vd:F2:=[(230,tD N)]
def Ao2 (F:KF R):=Ju Tryz.f168 pK (vd N) [] N F
def Vy (F:KF R):Nat→Nat→LA→LA→O R:=(fun v w x y=>F (.tup [(.own 300000 0 v),(.own 300001 0 w)]) (hq [(bQ 2 x),(bQ 1 y)]))
def Ao3 (d:Nat) (c:Bool) (b g:LA) (e:Nat) (i f:Int) (l:LA):St:=⟨[(2,(op 0)),(6,(.own 300001 0 d)),(7,(.own 300002 0 e)),(13,(.own 300001 0 d)),(14,(iv i)),(15,(iv f))],(hq [(bP c 0 b),(bQ 1 g),(bQ 2 l)])⟩
def Ao4 (F:KF R):=Ao2 N F [1,1,1,0,1,0] []
theorem YE (F:KF R) (d:Nat) (c:Bool) (b g:LA):∀ (n e:Nat) (i f:Int) (l:LA),Ak (Ao4 N F) n (Ao3 d c b g e i f l)=(Nb N (Vy F) d c b g n e i f l)
 | 0,_,_,_,_=>by kernel_rfl
 | n+1,e,i,f,l=>Eq.trans (by kernel_rfl) (Bt (Zf N (Vy F) d c b g · e i f l) (funext fun e=>funext fun i=>funext fun f=>funext fun l=>(YE F d c b g n e i f l)):_)
theorem pL (b:LA) (c:Bool) (m:Int) (F:KF R):Cw (vd N) pK N 168 [(.pagg b c),(iv m)] [] F=(FU N b c m (Vy F)):=by
 rw[jj]
 exact Eq.trans (by kernel_rfl) (Bt (TU N (Vy F) · b c m) (funext fun d=>funext fun g=>funext fun e=>funext fun i=>funext fun f=>funext fun l=>(Ad ..).trans (YE N F d c b g N e i f l)):_)
def jk (a:LA) (h:Aj) (k:KF R):O R :=
 match a,h with
 | [(.pagg b c),(.int .i64 m)],[]=>(FU N b c m (Vy k))
 | _,_=>none
theorem pM:An N 168 @jk:=by
 intro R Q a h k j;unfold jk;split;exact A2 (pL ..) (pL ..) ⟨tE N,trivial⟩;exact A4
def Ao5:=A3 (pM N)
def Ao6:=Cz (pM N)
def Tk (N:Nat) (k1:Bool→LA→O R) (r0:Nat→LA→O R) (b:LA) (d:Nat) (f e:Bool) (c:Nat) (k2:Bool→Int→Int→LA→O R) (s:Bool) (p g:Int) (l:LA):O R :=
 (cond (decide (g<p)) (cond (Ae g d) (cond (Nat.ble 2 ((b.drop ((g.toNat)*2)).length)) (cond ((!e)||(Az ((b.drop ((g.toNat)*2)).take 2))) (cond ((Nat.beq (((b.drop ((g.toNat)*2)).take 2).length) 2)&&((Nat.ble 2 2)&&(!false))) (Ap .i64 (setCells [(.int .i64 0),(.int .i64 0)] 0 ((b.drop ((g.toNat)*2)).take 2)) fun ab=>(cond (Ae ab c) (Ap .i64 (l.drop (0+((ab.toNat)*1))) fun t=>(Ap .i64 ((setCells [(.int .i64 0),(.int .i64 0)] 0 ((b.drop ((g.toNat)*2)).take 2)).drop 1) fun ac=>(cond (Ae ac c) (Ap .i64 (l.drop (0+((ac.toNat)*1))) fun u=>(cond (s==false) (Ap .i64 (setCells [(.int .i64 0),(.int .i64 0)] 0 ((b.drop ((g.toNat)*2)).take 2)) fun ad=>(cond (Ae ad c) (Ap .i64 (l.drop (0+((ad.toNat)*1))) fun af=>(cond ((cond false true (af != (Mc t u)))==false) (Ap .i64 ((setCells [(.int .i64 0),(.int .i64 0)] 0 ((b.drop ((g.toNat)*2)).take 2)).drop 1) fun ae=>(cond (Ae ae c) (Ap .i64 (l.drop (0+((ae.toNat)*1))) fun ag=>(Ap .i64 (setCells [(.int .i64 0),(.int .i64 0)] 0 ((b.drop ((g.toNat)*2)).take 2)) fun v=>(Ap .i64 ((setCells [(.int .i64 0),(.int .i64 0)] 0 ((b.drop ((g.toNat)*2)).take 2)).drop 1) fun y=>(cond (Ae v c) (cond ((Nat.beq 1 1)&&((Nat.ble ((0+((v.toNat)*1))+1) (l.length))&&(!false))) (cond (Ae y c) (cond ((Nat.beq 1 1)&&((Nat.ble ((0+((y.toNat)*1))+1) ((l.set (0+((v.toNat)*1)) (.int .i64 (Mc t u))).length))&&(!false))) (k2 (cond false true (ag != (Mc t u))) p (wrap .i64 (g+1)) ((l.set (0+((v.toNat)*1)) (.int .i64 (Mc t u))).set (0+((y.toNat)*1)) (.int .i64 (Mc t u)))) none) none) none) none)))) none)) (Ap .i64 (setCells [(.int .i64 0),(.int .i64 0)] 0 ((b.drop ((g.toNat)*2)).take 2)) fun w=>(Ap .i64 ((setCells [(.int .i64 0),(.int .i64 0)] 0 ((b.drop ((g.toNat)*2)).take 2)).drop 1) fun z=>(cond (Ae w c) (cond ((Nat.beq 1 1)&&((Nat.ble ((0+((w.toNat)*1))+1) (l.length))&&(!false))) (cond (Ae z c) (cond ((Nat.beq 1 1)&&((Nat.ble ((0+((z.toNat)*1))+1) ((l.set (0+((w.toNat)*1)) (.int .i64 (Mc t u))).length))&&(!false))) (k2 true p (wrap .i64 (g+1)) ((l.set (0+((w.toNat)*1)) (.int .i64 (Mc t u))).set (0+((z.toNat)*1)) (.int .i64 (Mc t u)))) none) none) none) none))))) none)) (Ap .i64 (setCells [(.int .i64 0),(.int .i64 0)] 0 ((b.drop ((g.toNat)*2)).take 2)) fun x=>(Ap .i64 ((setCells [(.int .i64 0),(.int .i64 0)] 0 ((b.drop ((g.toNat)*2)).take 2)).drop 1) fun aa=>(cond (Ae x c) (cond ((Nat.beq 1 1)&&((Nat.ble ((0+((x.toNat)*1))+1) (l.length))&&(!false))) (cond (Ae aa c) (cond ((Nat.beq 1 1)&&((Nat.ble ((0+((aa.toNat)*1))+1) ((l.set (0+((x.toNat)*1)) (.int .i64 (Mc t u))).length))&&(!false))) (k2 true p (wrap .i64 (g+1)) ((l.set (0+((x.toNat)*1)) (.int .i64 (Mc t u))).set (0+((aa.toNat)*1)) (.int .i64 (Mc t u)))) none) none) none) none))))) none))) none)) none) none) none) none) (k1 s l))
def I0 (k1:Bool→LA→O R) (r0:Nat→LA→O R) (b:LA) (d:Nat) (f e:Bool) (c:Nat):Nat→Bool→Int→Int→LA→O R
 | 0,_,_,_,_=>none
 | n+1,s,p,g,l=>(Tk N k1 r0 b d f e c (I0 k1 r0 b d f e c n) s p g l)
def Tl (N:Nat) (r0:Nat→LA→O R) (b:LA) (d:Nat) (f e:Bool) (c:Nat) (k1:Bool→LA→O R) (q2:Bool→Int→Int→LA→O R) (q:Bool) (o:LA):O R :=
 (cond q (q2 false ((d:Nat):Int) 0 o) (r0 c o))
def Dy (r0:Nat→LA→O R) (b:LA) (d:Nat) (f e:Bool) (c:Nat):Nat→Bool→LA→O R
 | 0,_,_=>none
 | n+1,q,o=>(Tl N r0 b d f e c (Dy r0 b d f e c n) (fun s p g l=>(I0 N (Dy r0 b d f e c n) r0 b d f e c N s p g l)) q o)
def Tm (N:Nat) (r0:Nat→LA→O R) (i:Int) (b:LA) (d:Nat) (f e:Bool) (k0:Nat→Int→LA→O R) (q1:Bool→LA→O R) (c:Nat) (m:Int) (r:LA):O R :=
 (cond (decide (m<i)) (cond (Ae m c) (cond ((Nat.beq 1 1)&&((Nat.ble ((0+((m.toNat)*1))+1) (r.length))&&(!false))) (k0 c (wrap .i64 (m+1)) (r.set (0+((m.toNat)*1)) (.int .i64 m))) none) none) (q1 true r))
def I3 (r0:Nat→LA→O R) (i:Int) (b:LA) (d:Nat) (f e:Bool):Nat→Nat→Int→LA→O R
 | 0,_,_,_=>none
 | n+1,c,m,r=>(Tm N r0 i b d f e (I3 r0 i b d f e n) (fun q o=>(Dy N r0 b d f e c N q o)) c m r)
def EK (N:Nat) (r0:Nat→LA→O R) (q0:Nat→Int→LA→O R) (i:Int) (b:LA) (d:Nat) (f e:Bool):O R :=
 (cond ((decide (0≤i))&&((decide (i≤i))&&((decide (i≤140737488355328))&&(decide ((i*((8:Nat):Int))≤140737488355328))))) (q0 (i.toNat) 0 (List.replicate (i.toNat) (.int .i64 0))) none)
def Pv:=(Ag (fun (N:Nat) (i:Int) (b:LA) (d:Nat) (f e:Bool) (r0:Nat→LA→O R)=>(EK N r0 (fun c m r=>(I3 N r0 i b d f e N c m r)) i b d f e))).1
theorem YF (i b d f e r0):(@Pv R N i b d f e r0)=(EK N r0 (fun c m r=>(I3 N r0 i b d f e N c m r)) i b d f e):=by rw[Pv,(Ag _).2]
def d8:Hints:={ H:=(hS hL (hS hL (hS (hS hL (hS (hP [0,1,5,6] hL) hL)) (hS (hS hL (hS (hP [1,5,7] (hS hL (hS (hS hL (hS hL (hS (hP [1,5,7,23,24,25] hL) hL))) hL))) hL)) hL)))),nils:=[(4,1)],modes:=[(2,1)] }
def HM (F:KF R):=Ju Tryz.f232 d8 [] [] N F
def Ee (F:KF R):Nat→LA→O R:=(fun ah ai=>F (.own 300000 0 ah) (hq [(bQ 1 ai)]))
def Adk (b:LA) (d:Nat) (f e:Bool) (c:Nat) (s:Bool) (p g:Int) (l:LA):St:=⟨[(1,(.imm b d 2 f e)),(5,(.own 300000 0 c)),(7,(.bool s)),(23,(.imm b d 2 f e)),(24,(iv p)),(25,(iv g))],(hq [(bQ 1 l)])⟩
def Adl (F:KF R) (Q1:St→O R):=HM N F [1,1,1,0,1,0,0,1,0,1,1,0] [Q1]
def HN (b:LA) (d:Nat) (f e:Bool) (c:Nat) (q:Bool) (o:LA):St:=⟨[(1,(.imm b d 2 f e)),(5,(.own 300000 0 c)),(7,(.bool q))],(hq [(bQ 1 o)])⟩
def d9 (F:KF R):=HM N F [1,1,1,0,1,0] []
def Adm (i:Int) (b:LA) (d:Nat) (f e:Bool) (c:Nat) (m:Int) (r:LA):St:=⟨[(0,(iv i)),(1,(.imm b d 2 f e)),(5,(.own 300000 0 c)),(6,(iv m))],(hq [(bQ 1 r)])⟩
def Adn (F:KF R):=HM N F [1,1,0,1,0] []
theorem KT (Q1:St→O R) (F:KF R) (b:LA) (d:Nat) (f e:Bool) (c:Nat):∀ (n:Nat) (s:Bool) (p g:Int) (l:LA),Ak (Adl N F Q1) n (Adk b d f e c s p g l)=(I0 N (fun q o=>Q1 (HN b d f e c q o)) (Ee F) b d f e c n s p g l)
 | 0,_,_,_,_=>by kernel_rfl
 | n+1,s,p,g,l=>Eq.trans (by kernel_rfl) (Bt (Tk N (fun q o=>Q1 (HN b d f e c q o)) (Ee F) b d f e c · s p g l) (funext fun s=>funext fun p=>funext fun g=>funext fun l=>(KT Q1 F b d f e c n s p g l)):_)
theorem KU (F:KF R) (b:LA) (d:Nat) (f e:Bool) (c:Nat):∀ (n:Nat) (q:Bool) (o:LA),Ak (d9 N F) n (HN b d f e c q o)=(Dy N (Ee F) b d f e c n q o)
 | 0,_,_=>by kernel_rfl
 | n+1,q,o=>have e0:=(funext fun q=>funext fun o=>(KU F b d f e c n q o))
  Eq.trans (by kernel_rfl) (OQ (Tl N (Ee F) b d f e c · · q o) e0 (funext fun s=>funext fun p=>funext fun g=>funext fun l=>(Ad ..).trans ((KT N (Ak (d9 N F) n) F b d f e c N s p g l).trans (Bt (I0 N · (Ee F) b d f e c N s p g l) e0))):_)
theorem KV (F:KF R) (i:Int) (b:LA) (d:Nat) (f e:Bool):∀ (n c:Nat) (m:Int) (r:LA),Ak (Adn N F) n (Adm i b d f e c m r)=(I3 N (Ee F) i b d f e n c m r)
 | 0,_,_,_=>by kernel_rfl
 | n+1,c,m,r=>Eq.trans (by kernel_rfl) (OQ (Tm N (Ee F) i b d f e · · c m r) (funext fun c=>funext fun m=>funext fun r=>(KV F i b d f e n c m r)) (funext fun q=>funext fun o=>(Ad ..).trans (KU N F b d f e c N q o)):_)
theorem d_ (i:Int) (b:LA) (d:Nat) (f e:Bool) (F:KF R):Cw [] d8 N 232 [(iv i),(.imm b d 2 f e)] [] F=(Pv N i b d f e (Ee F)):=by
 rw[YF]
 exact Eq.trans (by kernel_rfl) (Bt (EK N (Ee F) · i b d f e) (funext fun c=>funext fun m=>funext fun r=>(Ad ..).trans (KV N F i b d f e N c m r)):_)
def YG (a:LA) (h:Aj) (k:KF R):O R :=
 match a,h with
 | [(.int .i64 i),(.imm b d 2 f e)],[]=>(Pv N i b d f e (Ee k))
 | _,_=>none
theorem dx:An N 232 @YG:=by
 intro R Q a h k j;unfold YG;split;exact A2 (d_ ..) (d_ ..) trivial;exact A4
def Ado:=A3 (dx N)
def Adp:=Cz (dx N)
def Zg (N:Nat) (r0:Int→O R) (c:LA) (b:Nat) (d e:Bool) (k0:Int→Int→O R) (g f:Int):O R :=
 (cond (decide (f<((b:Nat):Int))) (cond (Ae f b) (Ap .i64 (c.drop ((f.toNat)*1)) fun i=>(cond (i==f) (k0 (wrap .i64 (g+1)) (wrap .i64 (f+1))) (k0 g (wrap .i64 (f+1))))) none) (r0 g))
def Nc (r0:Int→O R) (c:LA) (b:Nat) (d e:Bool):Nat→Int→Int→O R
 | 0,_,_=>none
 | n+1,g,f=>(Zg N r0 c b d e (Nc r0 c b d e n) g f)
def TV (N:Nat) (r0:Int→O R) (q0:Int→Int→O R) (c:LA) (b:Nat) (d e:Bool):O R :=
 (q0 0 0)
def X4:=(Ag (fun (N:Nat) (c:LA) (b:Nat) (d e:Bool) (r0:Int→O R)=>(TV N r0 (fun g f=>(Nc N r0 c b d e N g f)) c b d e))).1
theorem jl (c b d e r0):(@X4 R N c b d e r0)=(TV N r0 (fun g f=>(Nc N r0 c b d e N g f)) c b d e):=by rw[X4,(Ag _).2]
def pN:Hints:={ H:=(hS hL (hS hL (hS (hS hL (hS (hP [0,3,4] hL) hL)) hL))) }
def Ao7 (F:KF R):=Ju Tryz.f231 pN [] [] N F
def Vz (F:KF R):Int→O R:=(fun l=>F (iv l) [])
def Ao8 (c:LA) (b:Nat) (d e:Bool) (g f:Int):St:=⟨[(0,(.imm c b 1 d e)),(3,(iv g)),(4,(iv f))],[]⟩
def Ao9 (F:KF R):=Ao7 N F [1,1,0,1,0] []
theorem YH (F:KF R) (c:LA) (b:Nat) (d e:Bool):∀ (n:Nat) (g f:Int),Ak (Ao9 N F) n (Ao8 c b d e g f)=(Nc N (Vz F) c b d e n g f)
 | 0,_,_=>by kernel_rfl
 | n+1,g,f=>Eq.trans (by kernel_rfl) (Bt (Zg N (Vz F) c b d e · g f) (funext fun g=>funext fun f=>(YH F c b d e n g f)):_)
theorem pO (c:LA) (b:Nat) (d e:Bool) (F:KF R):Cw [] pN N 231 [(.imm c b 1 d e)] [] F=(X4 N c b d e (Vz F)):=by
 rw[jl]
 exact Eq.trans (by kernel_rfl) (Bt (TV N (Vz F) · c b d e) (funext fun g=>funext fun f=>(Ad ..).trans (YH N F c b d e N g f)):_)
def jm (a:LA) (h:Aj) (k:KF R):O R :=
 match a,h with
 | [(.imm c b 1 d e)],[]=>(X4 N c b d e (Vz k))
 | _,_=>none
theorem pP:An N 231 @jm:=by
 intro R Q a h k j;unfold jm;split;exact A2 (pO ..) (pO ..) trivial;exact A4
def Apa:=A3 (pP N)
def Apb:=Cz (pP N)
def O1 (r0:Bool→O R) (d:Int) (b:LA) (c:Nat) (m e:Bool) (f:LA) (g:Nat) (o i:Bool) (k0:Nat→Int→LA→O R) (p:Nat) (l:Int) (q:LA):O R :=
 (cond (decide (l<((c:Nat):Int))) (KQ N f g false i l (fun t=>(cond (!t) (cond (Ae l c) (cond (Nat.ble 2 ((b.drop ((l.toNat)*2)).length)) (cond ((!e)||(Az ((b.drop ((l.toNat)*2)).take 2))) (cond ((Nat.beq (((b.drop ((l.toNat)*2)).take 2).length) 2)&&(Nat.ble 2 2)) (cond ((Nat.ble (p+1) 140737488355328)&&(Nat.ble ((p+1)*16) 140737488355328)) (k0 (p+1) (wrap .i64 (l+1)) ((q.take (p*2))++((setCells [(.int .i64 0),(.int .i64 0)] 0 ((b.drop ((l.toNat)*2)).take 2)).take 2))) none) none) none) none) none) (k0 p (wrap .i64 (l+1)) q)))) (Pv N d (q.take (p*2)) p false true (fun r u=>(X4 N (u.take (r*1)) r false true (fun v=>(Pv N d b c false e (fun s w=>(X4 N (w.take (s*1)) s false true (fun x=>(r0 (decide (v>x))))))))))))
def F9 (r0:Bool→O R) (d:Int) (b:LA) (c:Nat) (m e:Bool) (f:LA) (g:Nat) (o i:Bool):Nat→Nat→Int→LA→O R
 | 0,_,_,_=>none
 | n+1,p,l,q=>(O1 N r0 d b c m e f g o i (F9 r0 d b c m e f g o i n) p l q)
def V0 (N:Nat) (r0:Bool→O R) (q0:Nat→Int→LA→O R) (d:Int) (b:LA) (c:Nat) (m e:Bool) (f:LA) (g:Nat) (o i:Bool):O R :=
 (q0 0 0 [])
def Og:=(Ag (fun (N:Nat) (d:Int) (b:LA) (c:Nat) (m e:Bool) (f:LA) (g:Nat) (o i:Bool) (r0:Bool→O R)=>(V0 N r0 (fun p l q=>(F9 N r0 d b c m e f g o i N p l q)) d b c m e f g o i))).1
theorem KW (d b c m e f g o i r0):(@Og R N d b c m e f g o i r0)=(V0 N r0 (fun p l q=>(F9 N r0 d b c m e f g o i N p l q)) d b c m e f g o i):=by rw[Og,(Ag _).2]
def PY:Hints:={ H:=(hS hL (hS hL (hS (hS hL (hS (hP [0,1,2,7,8] hL) hL)) hL))),nils:=[(7,2)] }
def YI:F2:=[(169,mY N),(232,Ado N),(231,Apa N)]
def tF (F:KF R):=Ju Tryz.f170 PY (YI N) [] N F
def Lt (F:KF R):Bool→O R:=(fun y=>F (.bool y) [])
def tG (d:Int) (b:LA) (c:Nat) (m e:Bool) (f:LA) (g:Nat) (o i:Bool) (p:Nat) (l:Int) (q:LA):St:=⟨[(0,(iv d)),(1,(.imm b c 2 m e)),(2,(.imm f g 1 o i)),(7,(.own 300000 0 p)),(8,(iv l))],(hq [(bQ 2 q)])⟩
def tH (F:KF R):=tF N F [1,1,0,1,0] []
theorem DH (F:KF R) (d:Int) (b:LA) (c:Nat) (m e:Bool) (f:LA) (g:Nat) (o i:Bool):∀ (n p:Nat) (l:Int) (q:LA),Ak (tH N F) n (tG d b c m e f g o i p l q)=(F9 N (Lt F) d b c m e f g o i n p l q)
 | 0,_,_,_=>by kernel_rfl
 | n+1,p,l,q=>Eq.trans (by kernel_rfl) (Bt (O1 N (Lt F) d b c m e f g o i · p l q) (funext fun p=>funext fun l=>funext fun q=>(DH F d b c m e f g o i n p l q)):_)
theorem PZ (d:Int) (b:LA) (c:Nat) (m e:Bool) (f:LA) (g:Nat) (o i:Bool) (F:KF R):Cw (YI N) PY N 170 [(iv d),(.imm b c 2 m e),(.imm f g 1 o i)] [] F=(Og N d b c m e f g o i (Lt F)):=by
 rw[KW]
 exact Eq.trans (by kernel_rfl) (Bt (V0 N (Lt F) · d b c m e f g o i) (funext fun p=>funext fun l=>funext fun q=>(Ad ..).trans (DH N F d b c m e f g o i N p l q)):_)
def KX (a:LA) (h:Aj) (k:KF R):O R :=
 match a,h with
 | [(.int .i64 d),(.imm b c 2 m e),(.imm f g 1 o i)],[]=>(Og N d b c m e f g o i (Lt k))
 | _,_=>none
theorem P_:An N 170 @KX:=by
 intro R Q a h k j;unfold KX;split;exact A2 (PZ ..) (PZ ..) ⟨mZ N,Adp N,Apb N,trivial⟩;exact A4
def tI:=A3 (P_ N)
def tJ:=Cz (P_ N)
end
end Gx

namespace Gx.Cf
open Go Go.Proofs
section
variable {R:Type}
def E2 (n N:Nat):Prop:=n<N∧n<4611686018427387904
theorem Bo {j:Nat} (h:j<4611686018427387904):IntKind.wrap .i64 ((j:Int)+1)=((j+1:Nat):Int):=by rw[wrap_i64 _ (by omega)];omega
theorem HO {l:List Int} {j:Nat} (h:j<l.length) {f:Int→O R}:Ap .i64 (List.drop ((Int.toNat (j:Int))*1) (Aq l)) f=f l[j]:=by
 rw[Int.toNat_natCast,Nat.mul_one,nY h]
theorem Hy {j n:Nat} (h:j<n):decide ((j:Int)<(n:Int))=true:=by simp;omega
theorem Jf {j n:Nat} (h:n≤j):decide ((j:Int)<(n:Int))=false:=by simp;omega
theorem Cd {α:Type} {l:List α} {j:Nat} (h:j<l.length):l.drop j=l[j]::l.drop (j+1):=List.drop_eq_getElem_cons h
theorem C9 {α:Type} {l:List α} {j:Nat} (h:l.length≤j):l.drop j=[]:=List.drop_eq_nil_of_le h
theorem P' {N:Nat} {lo hi:Int} {l:List Int} {t o:Bool} {K:Bool→O R} (hs:l.length<4611686018427387904):∀ (m j fuel:Nat),j+m=l.length→m<fuel →
  Iz N K lo hi (Aq l) l.length t o fuel (j:Int)=K ((l.drop j).all (Fm lo hi))
 | 0,j,fuel+1,d,_=>by
  rw[Iz];unfold Tj
  rw[Jf (by omega),cf,C9 (by omega)];rfl
 | m+1,j,fuel+1,d,f=>by
  rw[Iz];unfold Tj
  have h:j<l.length:=by omega
  rw[Hy h,ct,Ab h,ct,HO h,ct,HO h,Bo (by omega),P' hs m (j+1) fuel (by omega) (by omega),Cd h,List.all_cons]
  unfold Fm
  by_cases b:l[j]<lo
  ·have:¬ lo≤l[j]:=by omega
   simp[b,this]
  ·have:lo≤l[j]:=by omega
   by_cases c:l[j]>hi
   ·have:¬ l[j]≤hi:=by omega
    simp[b,c,this]
   ·have e:l[j]≤hi:=by omega
    simp[b,c,this,e]
theorem Im {N:Nat} {lo hi:Int} {l:List Int} {n:Nat} {t o:Bool} {K:Bool→O R} (hn:n=l.length) (hs:E2 l.length N):Ar N lo hi (Aq l) n t o K=K (l.all (Fm lo hi)):=by
 subst hn
 rw[XS];unfold EI
 have:=P' (R:=R) (N:=N) (lo:=lo) (hi:=hi) (t:=t) (o:=o) (K:=K) hs.2 l.length 0 N (by omega) hs.1
 simpa using this
theorem El {N:Nat} {lo hi a:Int} {t o:Bool} {K:Bool→O R} (hN:8≤N):Ar N lo hi [.int .i64 a] 1 t o K=K (Fm lo hi a):=by
 have:=Im (R:=R) (N:=N) (lo:=lo) (hi:=hi) (l:=[a]) (t:=t) (o:=o) (K:=K) rfl ⟨by simp;omega,by simp⟩
 simpa[Aq] using this
theorem yZ {N:Nat} {lo hi a b:Int} {t o:Bool} {K:Bool→O R} (hN:8≤N):Ar N lo hi [.int .i64 a,.int .i64 b] 2 t o K=K (Fm lo hi a&&Fm lo hi b):=by
 have:=Im (R:=R) (N:=N) (lo:=lo) (hi:=hi) (l:=[a,b]) (t:=t) (o:=o) (K:=K) rfl ⟨by simp;omega,by simp⟩
 simpa[Aq] using this
def pQ:List Int→Bool
 | a::b::r=>decide (a<b)&&pQ (b::r)
 | _=>true
theorem FV (a b:Int) (r:List Int):pQ (a::b::r)=(decide (a<b)&&pQ (b::r)):=by rw[pQ]
theorem gf (a:Int):pQ [a]=true:=by rw[pQ];intros;simp_all
theorem zF:pQ []=true:=by rw[pQ];intros;simp_all
theorem pR {j:Nat} (h:j+1<4611686018427387904):IntKind.wrap .i64 (((j+1:Nat):Int) - 1)=(j:Int):=by rw[wrap_i64 _ (by omega)];omega
theorem YJ {N:Nat} {l:List Int} {t o:Bool} {K:Bool→O R} (hs:l.length<4611686018427387904):∀ (m j fuel:Nat),j+1+m=l.length→m<fuel →
  Hx N K (Aq l) l.length t o fuel ((j+1:Nat):Int)=K (pQ (l.drop j))
 | 0,j,fuel+1,c,_=>by
  rw[Hx];unfold Pt
  rw[Jf (by omega),cf,Cd (by omega),C9 (by omega),gf]
 | m+1,j,fuel+1,c,d=>by
  rw[Hx];unfold Pt
  have h:j+1<l.length:=by omega
  have h':j<l.length:=by omega
  rw[Hy h,ct,Ab h,ct,HO h,pR (by omega),Ab h',ct,HO h',Bo (by omega),YJ hs m (j+1) fuel (by omega) (by omega),Cd h',Cd h,FV]
  by_cases b:l[j+1]≤l[j]
  ·have:¬ l[j]<l[j+1]:=by omega
   simp[b,this]
  ·have:l[j]<l[j+1]:=by omega
   simp[b,this]
theorem CG {N:Nat} {l:List Int} {n:Nat} {t o:Bool} {K:Bool→O R} (hn:n=l.length) (hs:E2 l.length N):Pu N (Aq l) n t o K=K (pQ l):=by
 subst hn
 rw[d6];unfold KO
 rcases l with _ | ⟨a,r⟩
 ·have hN:=hs.1
  rcases N with _ | N
  ·simp at hN
  ·dsimp only;rw[Hx];unfold Pt;simp[zF]
 ·have:=YJ (R:=R) (N:=N) (t:=t) (o:=o) (K:=K) hs.2 r.length 0 N (by simp;omega) (by have:=hs.1;simp at this;omega)
  simpa using this
theorem pS {N:Nat} {v:Int} {l:List Int} {t o:Bool} {K:Bool→O R} (hs:l.length<4611686018427387904):∀ (m j fuel:Nat),j+m=l.length→m<fuel →
  Tz N K (Aq l) l.length t o v fuel (j:Int)=K ((l.drop j).contains v)
 | 0,j,fuel+1,b,_=>by
  rw[Tz];unfold KP
  rw[Jf (by omega),cf,C9 (by omega)];rfl
 | m+1,j,fuel+1,b,c=>by
  rw[Tz];unfold KP
  have h:j<l.length:=by omega
  rw[Hy h,ct,Ab h,ct,HO h,Bo (by omega),pS hs m (j+1) fuel (by omega) (by omega),Cd h,List.contains_cons,BEq.comm]
  cases d:v==l[j]<;>simp
theorem TW {N:Nat} {v:Int} {l:List Int} {n:Nat} {t o:Bool} {K:Bool→O R} (hn:n=l.length) (hs:E2 l.length N):KQ N (Aq l) n t o v K=K (l.contains v):=by
 subst hn
 rw[v_];unfold pJ
 have:=pS (R:=R) (N:=N) (v:=v) (t:=t) (o:=o) (K:=K) hs.2 l.length 0 N (by omega) hs.1
 simpa using this
end
end Gx.Cf

namespace Gx.Cf
open Go Go.Proofs
section
variable {R:Type}
def Bp:Df→Int
 | none=>0
 | some x=>x.2.1
theorem Gr {c:CaseD} {f:Int→O R}:Ap .i64 c.av f=f c.hours:=by simp[CaseD.av,A6]
theorem Az2 {c:CaseD} {f:LA→Nat→O R}:Br 1 (List.drop 1 c.av) f=f (Aq c.reserve.l) c.reserve.l.length:=by simp[CaseD.av,Ed,Fl]
theorem Gs {c:CaseD} {f:LA→Nat→O R}:Br 3 (List.drop 2 c.av) f=f (c.buses.l.flatMap BusD.av) c.buses.l.length:=by simp[CaseD.av,Ed]
theorem Ef {c:CaseD} {f:LA→Nat→O R}:Br 12 (List.drop 3 c.av) f=f (c.lines.l.flatMap LineD.av) c.lines.l.length:=by simp[CaseD.av,Ed]
theorem C2 {c:CaseD} {f:LA→Nat→O R}:Br 22 (List.drop 4 c.av) f=f (c.units.l.flatMap UnitD.av) c.units.l.length:=by simp[CaseD.av,Ed]
theorem X5 {c:CaseD} {f:LA→Nat→O R}:Br 9 (List.drop 5 c.av) f=f (c.stores.l.flatMap StoreD.av) c.stores.l.length:=by simp[CaseD.av,Ed]
theorem TX {c:CaseD} {f:LA→Nat→O R}:Br 5 (List.drop 6 c.av) f=f (c.ties.l.flatMap TieD.av) c.ties.l.length:=by simp[CaseD.av,Ed]
theorem Zh {c:CaseD} {f:LA→Nat→O R}:Br 4 (List.drop 7 c.av) f=f (c.outs.l.flatMap OutD.av) c.outs.l.length:=by simp[CaseD.av,Ed]
def Ds (p:Df):LA:=OR p 0 0
theorem Af {N:Nat} {p:Df} {k i f e:Int} {ok:Bool} {K:LA→O R} (d:e≠0) :
  Aa N ok k i f e (Ds p) K=K (Ds (nd p ok (k,i,f) ⟨e,d⟩)):=by
 rw[AL];unfold Oy Le
 rcases p with _ | ⟨⟨a,b,l⟩,j,c⟩
 ·cases ok<;>simp[Ds,OR,A6,nd,Bs,C4]
 ·have:(j==0)=false:=by simpa using c
  simp[Ds,OR,A6,nd,this]
def ve (h:Int) (l:List Int) (lo hi:Int) (w:Int×Int×Int) (p:Df):Df:=nd (nd p ((l.length:Int)==h) w ⟨4,by decide⟩) (l.all (Fm lo hi)) w ⟨3,by decide⟩
def pT (h:Int) (l:List Int) (w:Int×Int×Int) (p:Df):Df:=nd (nd p (l.all (Fm 0 (IntKind.wrap .i64 (h - 1)))) w ⟨3,by decide⟩) (pQ l) w ⟨11,by decide⟩
theorem Ew {N:Nat} {c:CaseD} {p:Df} {k i f lo hi:Int} {l:List Int} {n:Nat} {t o o1:Bool} {K:LA→O R} (hn:n=l.length) (hs:E2 l.length N) :
  C5 N c.av o1 (Aq l) n t o lo hi k i f (Ds p) K=K (Ds (ve c.hours l lo hi (k,i,f) p)):=by
 rw[Vr];unfold Rs
 rw[Gr,Af (by decide),Im hn hs,Af (by decide),hn];rfl
theorem Xa {N:Nat} {c:CaseD} {p:Df} {k i f:Int} {l:List Int} {n:Nat} {t o o1:Bool} {K:LA→O R} (hn:n=l.length) (hs:E2 l.length N) :
  Il N c.av o1 (Aq l) n t o k i f (Ds p) K=K (Ds (pT c.hours l (k,i,f) p)):=by
 rw[AS];unfold Vu
 rw[Gr,Im hn hs,Af (by decide),CG hn hs,Af (by decide)];rfl
def jn (c:CaseD) (b:Int):Bool:=decide (0≤b)&&decide (b<(c.buses.l.length:Int))
theorem Az3 (n:Nat) (b:Int) (h:n<4611686018427387904):Fm 0 (IntKind.wrap .i64 ((n:Int) - 1)) b=(decide (0≤b)&&decide (b<(n:Int))):=by
 rw[wrap_i64 _ (by omega),Fm]
 congr 1
 simp;omega
theorem Ka {N:Nat} {c:CaseD} {p:Df} {k i f b:Int} {o1:Bool} {K:LA→O R} (hN:8≤N) (d:c.buses.l.length<4611686018427387904) :
  Ek N c.av o1 b k i f (Ds p) K=K (Ds (nd p (jn c b) (k,i,f) ⟨12,by decide⟩)):=by
 rw[C'];unfold X3
 rw[Gs,El hN,Az3 _ _ d,Af (by decide)];rfl
def K3 (f:FracD):Bool:=Fm 1 1048576 f.den&&Fm (-1048576) 1048576 f.num
theorem KY {N:Nat} {f:FracD} {o:Bool} {K:Bool→O R} (hN:8≤N):J9 N [.int .i64 f.num,.int .i64 f.den] o K=K (K3 f):=by
 rw[PS];unfold NA
 simp only[List.drop_succ_cons,List.drop_zero,A6,El hN]
 unfold K3
 cases Fm 1 1048576 f.den<;>simp
def tK (c:UInt8):Bool:=decide (97≤c.toNat)&&decide (c.toNat≤122)
def A64 (c:UInt8):Bool:=tK c||(decide (48≤c.toNat)&&decide (c.toNat≤57))||decide (c.toNat=95)
def Rt (s:List UInt8):Bool:=decide (1≤s.length)&&(decide (s.length≤16)&&(!(s==[99,111,114,114,101,99,116,105,118,101])&&(tK (s.getD 0 0)&&s.all A64)))
theorem Apc {s:List UInt8} {j:Nat} (h:j<s.length):List.getD s (Int.toNat (j:Int)) 0=s[j]:=by
 rw[Int.toNat_natCast,List.getD_eq_getElem?_getD,List.getElem?_eq_getElem h];rfl
theorem jo {N:Nat} {s:List UInt8} {K:Bool→O R} (hs:s.length<4611686018427387904):∀ (m j fuel:Nat),j+m=s.length→m<fuel →
  Ps N K s fuel (j:Int)=K ((decide (j≠0)||(decide (s.length=0)||tK (s.getD 0 0)))&&(s.drop j).all A64)
 | 0,j,fuel+1,i,_=>by
  rw[Ps];unfold EJ
  rw[Jf (by omega),cf,C9 (by omega)]
  by_cases h:j=0
  ·have:s.length=0:=by omega
   simp[this]
  ·simp[h]
 | m+1,j,fuel+1,i,t=>by
  rw[Ps];unfold EJ KM
  dsimp only
  have h:j<s.length:=by omega
  rw[Hy h,ct,Ab h,ct,Bo (by omega),jo hs m (j+1) fuel (by omega) (by omega),Cd h,List.all_cons,Apc h]
  have k:j=0→s.getD 0 0=s[j]:=fun e=>by
   have:=Apc h;rw[←this,e];rfl
  unfold A64 tK
  by_cases b:j=0
  ·rw[k b]
   have c:decide (s.length=0)=false:=decide_eq_false (by omega)
   have e:((j:Int)==0)=true:=by simp;omega
   simp only[ct,b,ne_eq,not_true_eq_false,decide_false,Bool.false_or,c,Nat.zero_add,show decide (¬ (1=0))=true by decide,Bool.true_or,Bool.true_and]
   simp only[b] at *
   generalize s[0].toNat=v
   by_cases d:97≤v<;>by_cases f:v≤122<;>simp[d,f,show((97:Int)≤v)↔97≤v by omega,show((v:Int)≤122)↔v≤122 by omega]
  ·have e:((j:Int)==0)=false:=by simp;omega
   simp only[ct,e,b,ne_eq,not_false_eq_true,decide_true,Bool.true_or,Bool.true_and,show decide (¬ (j+1=0))=true by simp]
   generalize s[j].toNat=v
   generalize (s.drop (j+1)).all _=r
   by_cases d:97≤v<;>by_cases f:v≤122<;>by_cases l:48≤v<;>by_cases n:v≤57<;>by_cases q:v=95 <;>
    simp[d,f,l,n,show((97:Int)≤v)↔97≤v by omega,show((v:Int)≤122)↔v≤122 by omega,show((v:Int)<48)↔¬ 48≤v by omega,show((57:Int)<v)↔¬ v≤57 by omega,show((v:Int) != 95)=!decide (v=95) by (by_cases v=95<;>simp_all<;>omega),q]
theorem Ahx {N:Nat} {s:List UInt8} {K:Bool→O R} (hN:64≤N):PR N s K=K (Rt s):=by
 rw[pG];unfold ge KN TT
 dsimp only
 unfold Rt
 by_cases b:1≤s.length
 ·by_cases c:s.length≤16
  ·have d:=jo (R:=R) (N:=N) (s:=s) (K:=K) (by omega) s.length 0 N (by omega) (by omega)
   simp only[List.drop_zero,Int.natCast_zero] at d
   rw[d]
   simp only[b,c,show(decide ((s.length:Int)<1))=false by simp;omega,show(decide ((s.length:Int)>16))=false by simp;omega,decide_true,cond_true,cond_false,beq_self_eq_true]
   have:s.length≠0:=by omega
   cases s==[99,111,114,114,101,99,116,105,118,101]<;>simp[this]
  ·simp[b,c,show((s.length:Int)<1)↔¬ 1≤s.length by omega,show((16:Int)<s.length)↔¬ s.length≤16 by omega]
 ·simp[b,show((s.length:Int)<1)↔¬ 1≤s.length by omega]
end
end Gx.Cf

namespace Gx.Cf
open Go Go.Proofs
section
variable {R:Type}
def Lu (names:List (List UInt8)) (k i:Int) (s:List UInt8) (p:Df):Df:=nd (nd p (Rt s) (k,i,0) ⟨9,by decide⟩) (names.all fun x=>!(x==s)) (k,i,0) ⟨10,by decide⟩
theorem Kb (a:BusD):a.av.length=3:=rfl
theorem Ce (a:LineD):a.av.length=12:=rfl
theorem Cg (a:UnitD):a.av.length=22:=rfl
theorem Ga (a:StoreD):a.av.length=9:=rfl
theorem Lv (a:TieD):a.av.length=5:=rfl
theorem Dk (a:OutD):a.av.length=4:=rfl
end
end Gx.Cf

namespace Gx.Cf
open Go Go.Proofs
section
variable {R:Type}
structure Small (c:CaseD) (N:Nat):Prop where
 n64:64≤N
 res:E2 c.reserve.l.length N
 bus:E2 c.buses.l.length N
 lin:E2 c.lines.l.length N
 uni:E2 c.units.l.length N
 sto:E2 c.stores.l.length N
 tie:E2 c.ties.l.length N
 out:E2 c.outs.l.length N
 dem:∀ b ∈ c.buses.l,E2 b.demand.l.length N
 law:∀ b ∈ c.lines.l,E2 b.away.l.length N
 seg:∀ b ∈ c.units.l,E2 b.segs.l.length N
 uaw:∀ b ∈ c.units.l,E2 b.away.l.length N
 tim:∀ b ∈ c.ties.l,E2 b.imp.l.length N
 tex:∀ b ∈ c.ties.l,E2 b.exp.l.length N
 tpr:∀ b ∈ c.ties.l,E2 b.price.l.length N
 oli:∀ b ∈ c.outs.l,E2 b.lines.l.length N
 omo:∀ b ∈ c.outs.l,E2 b.moves.l.length N
 omb:∀ b ∈ c.outs.l,b.moves.l.length<8796093022208
 top:c.buses.l.length≤1000000∧c.lines.l.length≤1000000∧c.units.l.length≤1000000∧c.stores.l.length≤1000000∧c.ties.l.length≤1000000∧c.outs.l.length≤1000000
def Bu {α:Type} (f:Nat→α→Df→Df):List α→Nat→Df→Df
 | [],_,p=>p
 | a::r,j,p=>Bu f r (j+1) (f j a p)
theorem Bf {α:Type} {f:Nat→α→Df→Df} {x:(Int×Int×Int)×{ e:Int // e≠0 }} (b:∀ j a,f j a (some x)=some x):∀ (l:List α) (j:Nat),Bu f l j (some x)=some x
 | [],_=>rfl
 | a::r,j=>by rw[Bu,b];exact Bf b r (j+1)
abbrev e1:{ e:Int // e≠0 }:=⟨1,by decide⟩
abbrev e3:{ e:Int // e≠0 }:=⟨3,by decide⟩
abbrev e4:{ e:Int // e≠0 }:=⟨4,by decide⟩
abbrev e8:{ e:Int // e≠0 }:=⟨8,by decide⟩
abbrev A4t:{ e:Int // e≠0 }:=⟨11,by decide⟩
abbrev Ax5:{ e:Int // e≠0 }:=⟨12,by decide⟩
abbrev Bcs:{ e:Int // e≠0 }:=⟨13,by decide⟩
abbrev Bbx:{ e:Int // e≠0 }:=⟨16,by decide⟩
def tL (c:CaseD) (p:Df):Df :=
 let p:=nd p (Fm 1 24 c.hours) (0,0,0) e3
 let p:=ve c.hours c.reserve.l 0 1048576 (0,0,1) p
 let p:=nd p (Fm 1 32 (c.buses.l.length:Int)) (0,0,2) e8
 let p:=nd p (decide ((c.lines.l.length:Int)≤64)) (0,0,3) e8
 let p:=nd p (decide ((c.units.l.length:Int)≤16)) (0,0,4) e8
 let p:=nd p (decide ((c.stores.l.length:Int)≤8)) (0,0,5) e8
 let p:=nd p (decide ((c.ties.l.length:Int)≤8)) (0,0,6) e8
 nd p (decide ((c.outs.l.length:Int)≤64)) (0,0,7) e8
def Adq (c:CaseD) (j:Nat) (b:BusD) (p:Df):Df :=
 let p:=Lu ((c.buses.l.map (·.name)).take j) 1 j b.name p
 let p:=ve c.hours b.demand.l 0 1048576 (1,j,1) p
 nd p (Fm 0 1048576 b.shed) (1,j,2) e3
def KZ (c:CaseD) (j:Nat) (x:LineD) (p:Df):Df :=
 let p:=Lu ((c.lines.l.map (·.name)).take j) 2 j x.name p
 let p:=nd p (jn c x.fr) (2,j,1) Ax5
 let p:=nd p (jn c x.tl) (2,j,2) Ax5
 let p:=nd p (x.tl != x.fr) (2,j,2) e1
 let p:=nd p (K3 x.re&&decide (x.re.num>0)) (2,j,3) e3
 let p:=nd p (K3 x.smin&&decide (x.smin.num≤0)) (2,j,4) e3
 let p:=nd p (K3 x.smax&&decide (x.smax.num≥0)) (2,j,5) e3
 let p:=nd p (Fm 0 1048576 x.limit) (2,j,6) e3
 let p:=nd p (Fm x.limit 1048576 x.emer) (2,j,7) e3
 pT c.hours x.away.l (2,j,8) p
def NC (c:CaseD) (j:Nat) (x:StoreD) (p:Df):Df :=
 let p:=Lu ((c.stores.l.map (·.name)).take j) 4 j x.name p
 let p:=nd p (jn c x.bus) (4,j,1) Ax5
 let p:=nd p (Fm 0 1048576 x.capacity) (4,j,2) e3
 let p:=nd p (Fm 0 x.capacity x.initial) (4,j,3) e3
 let p:=nd p (Fm 0 x.capacity x.final) (4,j,4) e3
 let p:=nd p (Fm 0 1048576 x.charge) (4,j,5) e3
 let p:=nd p (Fm 0 1048576 x.discharge) (4,j,6) e3
 nd p (K3 x.eff&&(decide (x.eff.num>0)&&decide (x.eff.num≤x.eff.den))) (4,j,7) e3
def Aus (c:CaseD) (j:Nat) (x:TieD) (p:Df):Df :=
 let p:=Lu ((c.ties.l.map (·.name)).take j) 5 j x.name p
 let p:=nd p (jn c x.bus) (5,j,1) Ax5
 let p:=ve c.hours x.imp.l 0 1048576 (5,j,2) p
 let p:=ve c.hours x.exp.l 0 1048576 (5,j,3) p
 ve c.hours x.price.l (-1048576) 1048576 (5,j,4) p
end
end Gx.Cf

namespace Gx
open Go Go.Proofs Go.RowKit Go.ChangeShapes
open Go.Proofs.YtjmfofdghmlldaaGreatDoor (Rows.uptoBulk Rows.uptoBulkAll)
structure OpensU (B:Nat) (P:Program) (t:TypeId) {α:Type} (e:α→List AV) (n:Nat):Prop where
 size:P.cellsOf t=n
 pos:0<n
 len:∀ a,(e a).length=n
 read:∀ {H:Type} (enc:TypeId×Value→H) (W:World) (fuel:Nat) (cs:List Value) (d:DataW H) (ps:List MemPlace),DataW.trod enc P W 0 (fun _=>true) true fuel t cs=some (d,ps)→Rows.uptoBulk d≤B →
  cs.length=n∧∃ a,RepCs (fun k=>k<W.heap.size) W (e a) (fun j=>cs[j]?) 0
theorem Opens.u {B:Nat} {P:Program} {t:TypeId} {α:Type} {e:α→LA} {n:Nat} (h:Opens P t e n):OpensU B P t e n:=⟨h.size,h.pos,h.len,fun enc W fuel cs d ps b _=>h.read enc W fuel cs d ps b⟩
theorem Adr {H:Type}:∀ {l:List (DataW H)} {i:Nat} {x:DataW H},l[i]?=some x→Rows.uptoBulk x≤Rows.uptoBulkAll l
 | a::r,0,x,h=>by simp at h;subst h;simp only[Rows.uptoBulkAll];omega
 | a::r,i+1,x,h=>by
  have:=Adr (l:=r) (i:=i) (x:=x) (by simpa using h)
  simp only[Rows.uptoBulkAll];omega
theorem Alm {H:Type} {k:Nat}:∀ {l:List (DataW H)},(∀ x ∈ l,k≤Rows.uptoBulk x)→l.length*k≤Rows.uptoBulkAll l
 | [],_=>by simp
 | a::r,h=>by
  have c:=h a (by simp)
  have d:=Alm (l:=r) fun x b=>h x (List.mem_cons_of_mem _ b)
  simp only[Rows.uptoBulkAll,List.length_cons,Nat.succ_mul];omega
def Apd (P:Program) (t:TypeId) (k:Nat):Prop:=∀ {H:Type} (enc:TypeId×Value→H) (W:World) (fuel:Nat) (cs:List Value) (d:DataW H) (ps:List MemPlace),DataW.trod enc P W 0 (fun _=>true) true fuel t cs=some (d,ps)→k≤Rows.uptoBulk d
theorem K_ {P:Program} {t:TypeId}:Apd P t 1:=fun _ _ _ _ d _ _=>A6y d
theorem Ads {P:Program} {t:TypeId} {fs:Array Field} (b:P.underlying t=some (.struct fs)) (e:1≤fs.size):Apd P t 2:=fun enc W fuel cs d ps h=>by
 obtain⟨xs,m,_,c,_,f,_⟩:=DataW.trod_struct b h
 obtain rfl:d=.agg (xs.map (·.1)):=(Prod.mk.inj c).1
 have:=A6z (xs.map (·.1))
 rw[List.length_map] at this
 simp only[Rows.uptoBulk];omega
theorem V1 {B k:Nat} {P:Program} {t L:TypeId} {α:Type} {e:α→LA} {n:Nat} (V:P.underlying t=some (.slice L)) (X:P.cellsOf t=1) (v:OpensU B P L e n) (Y:Apd P L k) :
  OpensU B P t (α:={ l:List α // l.length*k≤B }) (fun l=>[.imm (l.1.flatMap e) l.1.length n false false]) 1:=by
 refine⟨X,by omega,fun _=>rfl,fun enc W fuel cs d ps h hb=>?_⟩
 rcases DataW.trod_slice V h with⟨rfl,_⟩ | ⟨a,len,cap,VY,Jq,m,_,rfl,z,hb0,hlc,hcm,f,A,_⟩
 ·refine⟨rfl,⟨[],by simp⟩,?_⟩
  simp[RepCs,RepC]
 ·obtain rfl:d=.slice (VY.map (·.1)) (Jq.map (·.1)):=(Prod.mk.inj z).1
  simp only[Rows.uptoBulk] at hb
  rw[v.size] at A
  have each:∀ i:Nat,i<len→∃ x:α,∃ cs,W.cells? 0 (a.add (i*n)) n=some cs∧RepCs (fun k=>k<W.heap.size) W (e x) (fun j=>cs[j]?) 0:=by
   intro i hi
   have c:=A i hi
   have G:i<VY.length:=by omega
   rw[List.getElem?_eq_getElem G] at c
   cases b:W.cells? 0 (a.add (i*n)) n with
   | none=>rw[b] at c;simp at c
   | some cs =>
    rw[b] at c
    have hbi:=Adr (l:=VY.map (·.1)) (i:=i) (x:=VY[i].1) (by rw[List.getElem?_map,List.getElem?_eq_getElem G];rfl)
    obtain⟨_,x,z⟩:=v.read enc W m cs VY[i].1 VY[i].2 c (by omega)
    exact⟨x,cs,rfl,z⟩
  have M:len*k≤B:=by
   have:=Alm (k:=k) (l:=VY.map (·.1)) (fun x z=>by
    obtain⟨y,q,rfl⟩:=List.mem_map.1 z
    obtain⟨i,hi,rfl⟩:=List.getElem_of_mem q
    have c:=A i (by omega)
    rw[List.getElem?_eq_getElem hi] at c
    cases b:W.cells? 0 (a.add (i*n)) n with
    | none=>rw[b] at c;simp at c
    | some cs=>rw[b] at c;exact Y enc W m cs VY[i].1 VY[i].2 c)
   rw[List.length_map,f] at this
   omega
  refine⟨rfl,?_⟩
  have build:∀ m,m≤len→∃ l:List α,l.length=m∧∀ i x,l[i]?=some x→∃ cs,W.cells? 0 (a.add (i*n)) n=some cs∧RepCs (fun k=>k<W.heap.size) W (e x) (fun j=>cs[j]?) 0:=by
   intro m
   induction m with
   | zero=>intro _;exact⟨[],rfl,by simp⟩
   | succ m ih =>
    intro hm
    obtain⟨l,I,C⟩:=ih (by omega)
    obtain⟨x,cs,O,S⟩:=each m (by omega)
    refine⟨l++[x],by simp[I],fun i y q=>?_⟩
    rw[List.getElem?_append] at q
    split at q
    ·exact C i y q
    ·have:i=m:=by
      have:=(List.getElem?_eq_some_iff.1 q).1
      simp at this;omega
     subst this
     simp[I] at q;subst q
     exact⟨cs,O,S⟩
  obtain⟨l,I,C⟩:=build len (Nat.le_refl _)
  refine⟨⟨l,by rw[I];exact M⟩,?_⟩
  simp only[RepCs,RepC,and_true]
  refine⟨_,rfl,?_,some a,cap,by rw[I],by omega,by simp,?_⟩
  ·exact bY v.len l
  ·by_cases h0:l.length=0
   ·exact .inl h0
   ·right
    refine⟨a,rfl,?_,?_⟩
    ·obtain⟨x,cs,z,_⟩:=each 0 (by omega)
     have:=World.cells?_block z v.pos
     rwa [Uh] at this
    ·rw[B4]
     intro j x F
     rw[bX v.pos v.len] at F
     cases hq:l[j/n]? with
     | none=>rw[hq] at F;simp at F
     | some y =>
      rw[hq] at F
      simp at F
      obtain⟨cs,b,s⟩:=C (j/n) y hq
      rw[B4] at s
      obtain⟨u,K,T⟩:=s (j%n) x F
      refine⟨u,?_,T⟩
      obtain⟨_,f,D⟩:=World.cells?_some b
      have U:j%n<n:=Nat.mod_lt _ v.pos
      have:=D (j%n) U
      rw[Addr.add_add,show j/n*n+j%n=j by rw[Nat.mul_comm];exact Nat.div_add_mod j n] at this
      simp only[Nat.zero_add] at K ⊢
      rw[this];exact K
theorem OpensU.map {B:Nat} {P:Program} {t:TypeId} {α β:Type} {e:α→LA} {n:Nat} (h:OpensU B P t e n) (c:β→LA) (g:α→β) (f:∀ a,e a=c (g a)) (i:∀ b,(c b).length=n):OpensU B P t c n:=by
 refine⟨h.size,h.pos,i,fun enc W fuel cs d ps j k=>?_⟩
 obtain⟨l,a,m⟩:=h.read enc W fuel cs d ps j k
 exact⟨l,g a,by rw[←f];exact m⟩
structure OpensUF (B:Nat) (P:Program) (fs:List Field) (off:Nat) {α:Type} (e:α→List AV) (n:Nat):Prop where
 len:∀ a,(e a).length=n
 read:∀ {H:Type} (enc:TypeId×Value→H) (W:World) (fuel:Nat) (cs:List Value),(∀ (i:Nat) (f:Field),fs[i]?=some f→∃ d ps,DataW.trod enc P W 0 (fun _=>true) true fuel f.type ((cs.drop f.offset).take (P.cellsOf f.type))=some (d,ps)∧Rows.uptoBulk d≤B) →
  ∃ a,RepCs (fun k=>k<W.heap.size) W (e a) (fun j=>cs[j]?) off
theorem Hz {B:Nat} {P:Program} {off:Nat}:OpensUF B P [] off (α:=Unit) (fun _=>[]) 0:=⟨fun _=>rfl,fun _ _ _ _ _=>⟨(),by simp[RepCs]⟩⟩
theorem Ai {B:Nat} {P:Program} {f:Field} {fs:List Field} {off:Nat} {α β:Type} {e:α→LA} {n:Nat} {t:β→LA} {m:Nat} (z:f.offset=off) (c:OpensU B P f.type e n) (v:OpensUF B P fs (off+n) t m) :
  OpensUF B P (f::fs) off (α:=α×β) (fun p=>e p.1++t p.2) (n+m):=by
 refine⟨fun p=>by rw[List.length_append,c.len,v.len],fun enc W fuel cs h=>?_⟩
 obtain⟨d,ps,A,q⟩:=h 0 f rfl
 obtain⟨D,a,y⟩:=c.read enc W fuel _ _ _ A q
 obtain⟨b,q⟩:=v.read enc W fuel cs fun i g C=>h (i+1) g (by simpa using C)
 refine⟨(a,b),?_⟩
 rw[B4] at y q ⊢
 intro j x s
 by_cases l:j<n
 ·rw[List.getElem?_append_left (by rw[c.len];exact l)] at s
  obtain⟨u,k,hr⟩:=y j x s
  refine⟨u,?_,hr⟩
  simp only[Nat.zero_add] at k
  rw[c.size,List.getElem?_take_of_lt l,List.getElem?_drop,z] at k
  exact k
 ·rw[List.getElem?_append_right (by rw[c.len];omega),c.len] at s
  obtain⟨u,k,hr⟩:=q (j - n) x s
  refine⟨u,?_,hr⟩
  rw[show off+n+(j - n)=off+j by omega] at k
  exact k
theorem E5 {B:Nat} {P:Program} {t:TypeId} {fs:Array Field} {α:Type} {e:α→LA} {n:Nat} (m:P.underlying t=some (.struct fs)) (j:P.cellsOf t=n) (hn:0<n) (h:OpensUF B P fs.toList 0 e n):OpensU B P t e n:=by
 refine⟨j,hn,h.len,fun enc W fuel cs d ps q s=>?_⟩
 obtain⟨xs,g,_,u,v,b,y⟩:=DataW.trod_struct m q
 obtain rfl:d=.agg (xs.map (·.1)):=(Prod.mk.inj u).1
 simp only[Rows.uptoBulk] at s
 refine⟨by rw[v,j],?_⟩
 exact h.read enc W g cs fun i f hi=>by
  have k:fs[i]?=some f:=by simpa using hi
  have:=y i f k
  have c:i<xs.length:=by
   rw[b];exact(Array.getElem?_eq_some_iff.1 k).1
  rw[List.getElem?_eq_getElem c] at this
  have z:=Adr (l:=xs.map (·.1)) (i:=i) (x:=xs[i].1) (by rw[List.getElem?_map,List.getElem?_eq_getElem c];rfl)
  exact⟨xs[i].1,xs[i].2,this,by omega⟩
end Gx

namespace Gx
open Go Go.Proofs Go.RowKit Go.ChangeShapes
open Go.Proofs.YtjmfofdghmlldaaGreatDoor (Rows.uptoBulk Rows.uptoBulkAll)
open Cf
section
variable {B:Nat}
def A8s (B:Nat) (s:Sl Int):Prop:=∃ l:List Int,s=.of l false false∧l.length≤B
theorem Ex:OpensU B Tryz.prog 3 (α:=Int) (fun n=>[.int .i64 n]) 1 :=
 (N9 Tryz.underlying3 (by kernel_rfl)).u.map _ (fun n=>n.1) (fun _=>rfl) (fun _=>rfl)
theorem Aln:OpensU B Tryz.prog 9 (α:=List UInt8) (fun s=>[.str s]) 1 :=
 (An2 Tryz.underlying9 (by kernel_rfl)).u.map _ (fun n=>n.1) (fun _=>rfl) (fun _=>rfl)
theorem A99:OpensU B Tryz.prog 4 (α:=Bool) (fun b=>[.bool b]) 1:=(Ay1 Tryz.underlying4 (by kernel_rfl)).u
theorem m0:OpensU B Tryz.prog 33 (α:={ s:Sl Int // A8s B s }) (fun s=>[s.1.av 1 IS]) 1 :=
 (V1 (k:=1) Tryz.underlying33 (by kernel_rfl) Ex K_).map _ (fun l=>⟨.of l.1 false false,l.1,rfl,by have:=l.2;omega⟩) (fun _=>rfl) (fun _=>rfl)
theorem Ape:OpensU B Tryz.prog 125 (α:=FracD) (fun f=>[.int .i64 f.num,.int .i64 f.den]) 2 :=
 (E5 Tryz.underlying125 (by kernel_rfl) (by decide) (Ai rfl Ex (Ai rfl Ex Hz))).map _ (fun p=>⟨p.1,p.2.1⟩) (fun _=>rfl) (fun _=>rfl)
theorem Ba6:OpensU B Tryz.prog 139 (α:={ s:Sl SegD // ∃ l,s=.of l false false∧l.length≤B }) (fun s=>[s.1.av 2 SegD.av]) 1 :=
 (V1 (k:=1) Tryz.underlying139 (by kernel_rfl) ((E5 Tryz.underlying209 (by kernel_rfl) (by decide) (Ai rfl Ex (Ai rfl Ex Hz))).map SegD.av (fun p=>⟨p.1,p.2.1⟩) (fun _=>rfl) (fun _=>rfl)) K_).map _ (fun l=>⟨.of l.1 false false,l.1,rfl,by have:=l.2;omega⟩) (fun _=>rfl) (fun _=>rfl)
theorem A8t:OpensU B Tryz.prog 147 (α:={ s:Sl MoveD // ∃ l,s=.of l false false∧l.length≤B }) (fun s=>[s.1.av 3 MoveD.av]) 1 :=
 (V1 (k:=1) Tryz.underlying147 (by kernel_rfl) ((E5 Tryz.underlying211 (by kernel_rfl) (by decide) (Ai rfl Ex (Ai rfl Ex (Ai rfl Ex Hz)))).map MoveD.av (fun p=>⟨p.1,p.2.1,p.2.2.1⟩) (fun _=>rfl) (fun _=>rfl)) K_).map _ (fun l=>⟨.of l.1 false false,l.1,rfl,by have:=l.2;omega⟩) (fun _=>rfl) (fun _=>rfl)
def A9r (B:Nat) (b:BusD):Prop:=A8s B b.demand
theorem Ba7:OpensU B Tryz.prog 135 (α:={ b:BusD // A9r B b }) (fun b=>b.1.av) 3 :=
 (E5 Tryz.underlying135 (by kernel_rfl) (by decide) (Ai rfl Aln (Ai rfl m0 (Ai rfl Ex Hz)))).map _ (fun p=>⟨⟨p.1,p.2.1.1,p.2.2.1⟩,p.2.1.2⟩) (fun _=>rfl) (fun _=>rfl)
def A65 (B:Nat) (b:LineD):Prop:=A8s B b.away
theorem Baa:OpensU B Tryz.prog 137 (α:={ b:LineD // A65 B b }) (fun b=>b.1.av) 12 :=
 (E5 Tryz.underlying137 (by kernel_rfl) (by decide) (Ai rfl Aln (Ai rfl Ex (Ai rfl Ex (Ai rfl Ape (Ai rfl Ape (Ai rfl Ape (Ai rfl Ex (Ai rfl Ex (Ai rfl m0 Hz)))))))))).map _
  (fun p=>⟨⟨p.1,p.2.1,p.2.2.1,p.2.2.2.1,p.2.2.2.2.1,p.2.2.2.2.2.1,p.2.2.2.2.2.2.1,p.2.2.2.2.2.2.2.1,p.2.2.2.2.2.2.2.2.1.1⟩,p.2.2.2.2.2.2.2.2.1.2⟩) (fun _=>rfl) (fun _=>rfl)
structure OkUnit (B:Nat) (b:UnitD):Prop where
 segs:∃ l,b.segs=.of l false false∧l.length≤B
 away:A8s B b.away
theorem Bab:OpensU B Tryz.prog 141 (α:={ b:UnitD // OkUnit B b }) (fun b=>b.1.av) 22 :=
 (E5 Tryz.underlying141 (by kernel_rfl) (by decide) (Ai rfl Aln (Ai rfl Ex (Ai rfl Ex (Ai rfl Ex (Ai rfl Ba6 (Ai rfl Ex (Ai rfl Ex (Ai rfl Ex (Ai rfl Ex (Ai rfl Ex (Ai rfl Ex
  (Ai rfl Ex (Ai rfl Ex (Ai rfl Ex (Ai rfl Ex (Ai rfl Ex (Ai rfl Ex (Ai rfl Ex (Ai rfl m0 (Ai rfl Ex (Ai rfl Ex (Ai rfl Ex Hz))))))))))))))))))))))).map _
  (fun ⟨a,b,c,d,s,f,g,h,i,j,k,l,m,n,o,p,q,r,w,x,y,z,_⟩=>⟨⟨a,b,c,d,s.1,f,g,h,i,j,k,l,m,n,o,p,q,r,w.1,x,y,z⟩,s.2,w.2⟩) (fun _=>rfl) (fun _=>rfl)
theorem Bby:OpensU B Tryz.prog 144 (α:=StoreD) StoreD.av 9 :=
 (E5 Tryz.underlying144 (by kernel_rfl) (by decide) (Ai rfl Aln (Ai rfl Ex (Ai rfl Ex (Ai rfl Ex (Ai rfl Ex (Ai rfl Ex (Ai rfl Ex (Ai rfl Ape Hz))))))))).map _
  (fun ⟨a,b,c,d,e,f,g,h,_⟩=>⟨a,b,c,d,e,f,g,h⟩) (fun _=>rfl) (fun _=>rfl)
structure OkTie (B:Nat) (b:TieD):Prop where
 imp:A8s B b.imp
 exp:A8s B b.exp
 price:A8s B b.price
theorem Ba8:OpensU B Tryz.prog 146 (α:={ b:TieD // OkTie B b }) (fun b=>b.1.av) 5 :=
 (E5 Tryz.underlying146 (by kernel_rfl) (by decide) (Ai rfl Aln (Ai rfl Ex (Ai rfl m0 (Ai rfl m0 (Ai rfl m0 Hz)))))).map _
  (fun ⟨a,b,c,d,e,_⟩=>⟨⟨a,b,c.1,d.1,e.1⟩,c.2,d.2,e.2⟩) (fun _=>rfl) (fun _=>rfl)
structure OkOut (B:Nat) (b:OutD):Prop where
 lines:A8s B b.lines
 moves:∃ l,b.moves=.of l false false∧l.length≤B
theorem Ba9:OpensU B Tryz.prog 149 (α:={ b:OutD // OkOut B b }) (fun b=>b.1.av) 4 :=
 (E5 Tryz.underlying149 (by kernel_rfl) (by decide) (Ai rfl Aln (Ai rfl m0 (Ai rfl A99 (Ai rfl A8t Hz))))).map _
  (fun ⟨a,b,c,d,_⟩=>⟨⟨a,b.1,c,d.1⟩,b.2,d.2⟩) (fun _=>rfl) (fun _=>rfl)
structure OkL {α:Type} (B:Nat) (ok:α→Prop) (l:List α):Prop where
 len:l.length*2≤B
 each:∀ x ∈ l,ok x
theorem tM {t c:TypeId} {α:Type} {ok:α→Prop} {e:α→LA} {n:Nat} {fs:Array Field} (d:Tryz.prog.underlying t=some (.slice c)) (f:Tryz.prog.cellsOf t=1) (i:Tryz.prog.underlying c=some (.struct fs)) (j:1≤fs.size)
  (h:OpensU B Tryz.prog c (α:={ b:α // ok b }) (fun b=>e b.1) n):OpensU B Tryz.prog t (α:={ l:List α // OkL B ok l }) (fun l=>[.imm (l.1.flatMap e) l.1.length n false false]) 1 :=
 (V1 d f h (Ads i j)).map _ (fun l=>⟨l.1.map (·.1),by rw[List.length_map];exact l.2,fun x k=>by obtain⟨y,_,rfl⟩:=List.mem_map.1 k;exact y.2⟩)
  (fun l=>by show [AV.imm (l.1.flatMap fun b=>e b.1) l.1.length n false false]=[AV.imm ((l.1.map (·.1)).flatMap e) (l.1.map (·.1)).length n false false];rw[List.flatMap_map,List.length_map]) (fun _=>rfl)
structure OkCase (B:Nat) (res:List Int) (bs:List BusD) (ls:List LineD) (us:List UnitD) (ss:List StoreD) (ts:List TieD) (os:List OutD):Prop where
 res:res.length≤B
 bus:OkL B (A9r B) bs
 line:OkL B (A65 B) ls
 unit:OkL B (OkUnit B) us
 store:OkL B (fun _:StoreD=>True) ss
 tie:OkL B (OkTie B) ts
 out:OkL B (OkOut B) os
def A4u (H:Int) (res:List Int) (bs:List BusD) (ls:List LineD) (us:List UnitD) (ss:List StoreD) (ts:List TieD) (os:List OutD):CaseD:=⟨H,.of res false false,.of bs false false,.of ls false false,.of us false false,.of ss false false,.of ts false false,.of os false false⟩
theorem Bac:OpensU B Tryz.prog 70 (α:={ c:CaseD // ∃ H d bs ls us ss ts os,c=A4u H d bs ls us ss ts os∧OkCase B d bs ls us ss ts os }) (fun c=>c.1.av) 8 :=
 (E5 Tryz.underlying70 (by kernel_rfl) (by decide) (Ai rfl Ex (Ai rfl (V1 (k:=1) Tryz.underlying33 (by kernel_rfl) Ex K_) (Ai rfl (tM Tryz.underlying63 (by kernel_rfl) Tryz.underlying135 (by decide) Ba7)
  (Ai rfl (tM Tryz.underlying64 (by kernel_rfl) Tryz.underlying137 (by decide) Baa) (Ai rfl (tM Tryz.underlying65 (by kernel_rfl) Tryz.underlying141 (by decide) Bab) (Ai rfl (tM (ok:=fun _=>True) Tryz.underlying66 (by kernel_rfl) Tryz.underlying144 (by decide) (Bby.map _ (fun s=>⟨s,trivial⟩) (fun _=>rfl) (fun _=>rfl)))
   (Ai rfl (tM Tryz.underlying67 (by kernel_rfl) Tryz.underlying146 (by decide) Ba8) (Ai rfl (tM Tryz.underlying68 (by kernel_rfl) Tryz.underlying149 (by decide) Ba9) Hz))))))))).map _
  (fun ⟨h,r,b,l,u,s,t,o,_⟩=>⟨A4u h r.1 b.1 l.1 u.1 s.1 t.1 o.1,h,r.1,b.1,l.1,u.1,s.1,t.1,o.1,rfl,by have:=r.2;omega,b.2,l.2,u.2,s.2,t.2,o.2⟩) (fun _=>rfl) (fun _=>rfl)
theorem Aut {N:Nat} {h:Int} {f:List Int} {bs:List BusD} {ls:List LineD} {us:List UnitD} {ss:List StoreD} {ts:List TieD} {os:List OutD} (hN:1048576<N) (k:OkCase 1048576 f bs ls us ss ts os):Small (A4u h f bs ls us ss ts os) N:=by
 have fit:∀ n:Nat,n≤1048576→E2 n N:=fun n hn=>⟨by omega,by omega⟩
 have oi:∀ s:Sl Int,A8s 1048576 s→E2 s.l.length N:=fun s hs=>by obtain⟨l,rfl,d⟩:=hs;exact fit _ d
 have b:=k.bus.len;have l:=k.line.len;have u:=k.unit.len;have s:=k.store.len;have t:=k.tie.len;have o:=k.out.len
 refine⟨by omega,fit _ k.res,fit _ (by show bs.length≤_;omega),fit _ (by show ls.length≤_;omega),fit _ (by show us.length≤_;omega),fit _ (by show ss.length≤_;omega),fit _ (by show ts.length≤_;omega),fit _ (by show os.length≤_;omega),
  fun x c=>oi _ (k.bus.each x c),fun x c=>oi _ (k.line.each x c),fun x c=>?_,fun x c=>oi _ (k.unit.each x c).away,fun x c=>oi _ (k.tie.each x c).imp,fun x c=>oi _ (k.tie.each x c).exp,fun x c=>oi _ (k.tie.each x c).price,
  fun x c=>oi _ (k.out.each x c).lines,fun x c=>?_,fun x c=>?_,?_⟩
 ·obtain⟨l,e,d⟩:=(k.unit.each x c).segs;rw[e];exact fit _ d
 ·obtain⟨l,e,d⟩:=(k.out.each x c).moves;rw[e];exact fit _ d
 ·obtain⟨l,e,d⟩:=(k.out.each x c).moves;rw[e];exact Nat.lt_of_le_of_lt d (by decide)
 ·show bs.length≤1000000∧ls.length≤1000000∧us.length≤1000000∧ss.length≤1000000∧ts.length≤1000000∧os.length≤1000000
  omega
end
section
variable {W:World} {H:Type} {enc:TypeId×Value→H} {β:Cp} {h:Aj}
theorem Alo {v:Value} {d:DataW H} {p:List MemPlace} (e:∃ cs,v=.agg cs) (f:DataW.Trod enc Tryz.prog W 0 (fun _=>true) true 70 v d p) (i:Rows.uptoBulk d≤1048576) :
  ∃ (H:Int) (b:List Int) (bs:List BusD) (ls:List LineD) (us:List UnitD) (ss:List StoreD) (ts:List TieD) (os:List OutD),OkCase 1048576 b bs ls us ss ts os∧Rep (fun _ k=>k<W.heap.size) β h W (.agg (A4u H b bs ls us ss ts os).av) v:=by
 obtain⟨cs,rfl⟩:=e
 obtain⟨fuel,j⟩:=f
 obtain⟨l,⟨c,H,b,bs,ls,us,ss,ts,os,rfl,k⟩,hr⟩:=(Bac (B:=1048576)).read enc W fuel _ _ _ j i
 refine⟨H,b,bs,ls,us,ss,ts,os,k,A2r ?_⟩
 rw[Rep]
 exact⟨cs.toList,rfl,l,hr⟩
theorem Az4 {v:Value} {d:DataW H} {p:List MemPlace} (f:∃ cs,v=.agg cs) (i:DataW.Trod enc Tryz.prog W 0 (fun _=>true) true 78 v d p) :
  ∃ a b c e:Int,Rep (fun _ k=>k<W.heap.size) β h W (.agg [.int .i64 a,.int .i64 b,.int .i64 c,.int .i64 e]) v:=by
 obtain⟨cs,rfl⟩:=f
 obtain⟨⟨⟨a,j⟩,⟨b,l⟩,⟨c,m⟩,⟨e,n⟩,_⟩,hr⟩:=A6t (β:=β) (h:=h) (nX Tryz.underlying78 (by kernel_rfl) (by decide) (Md rfl (N9 Tryz.underlying3 (by kernel_rfl)) (Md rfl (N9 Tryz.underlying3 (by kernel_rfl)) (Md rfl (N9 Tryz.underlying3 (by kernel_rfl)) (Md rfl (N9 Tryz.underlying3 (by kernel_rfl)) Aan))))) i
 exact⟨a,b,c,e,A2r hr⟩
end
end Gx

namespace Gx.Cf
open Go Go.Proofs
section
variable {R:Type}
theorem Pw (a:SegD):a.av.length=2:=rfl
theorem Ey (a:MoveD):a.av.length=3:=rfl
def vf (s:SegD):Bool:=Fm 1 1048576 s.width&&Fm (-1048576) 1048576 s.price
def aX (a:Int):List SegD→Int
 | []=>a
 | s::r=>aX (IntKind.wrap .i64 (a+s.width)) r
def dy:List SegD→Bool
 | a::b::r=>decide (b.price≥a.price)&&dy (b::r)
 | _=>true
theorem HP (a b:SegD) (r:List SegD):dy (a::b::r)=(decide (b.price≥a.price)&&dy (b::r)):=by rw[dy]
theorem pU (a:SegD):dy [a]=true:=by rw[dy];intros;simp_all
theorem Adt:dy []=true:=by rw[dy];intros;simp_all
def Auu (u:UnitD) (j:Nat) (p:Df):Df :=
 let p:=nd p (decide ((u.segs.l.length:Int)≤8)) (3,j,4) e8
 let p:=nd p (u.segs.l.all vf) (3,j,4) e3
 let p:=nd p (dy u.segs.l) (3,j,4) A4t
 nd p (aX 0 u.segs.l==IntKind.wrap .i64 (u.max - u.min)) (3,j,4) e4
theorem ND {u:UnitD} {f:LA→Nat→O R}:Br 2 (List.drop 4 u.av) f=f (u.segs.l.flatMap SegD.av) u.segs.l.length:=by simp[UnitD.av,Ed]
theorem A2x {u:UnitD} {f:Int→O R}:Ap .i64 (List.drop 3 u.av) f=f u.max:=by simp[UnitD.av,A6]
theorem A2y {u:UnitD} {f:Int→O R}:Ap .i64 (List.drop 2 u.av) f=f u.min:=by simp[UnitD.av,A6]
theorem gg {l:List SegD} {j:Nat} (h:j<l.length) {f:Int→O R}:Ap .i64 (List.drop 1 (List.drop ((Int.toNat (j:Int))*2) (l.flatMap SegD.av))) f=f l[j].price:=by
 rw[Int.toNat_natCast,At Pw _ _ h];simp[SegD.av,A6]
theorem A4v {l:List SegD} {j:Nat} (h:j<l.length) {f:Int→O R}:Ap .i64 (List.drop ((Int.toNat (j:Int))*2) (l.flatMap SegD.av)) f=f l[j].width:=by
 rw[Int.toNat_natCast,At Pw _ _ h];simp[SegD.av,A6]
def QA (c:CaseD) (j:Nat) (u:UnitD) (p:Df):Df :=
 let p:=Lu ((c.units.l.map (·.name)).take j) 3 j u.name p
 let p:=nd p (jn c u.bus) (3,j,1) Ax5
 let p:=nd p (Fm 0 1048576 u.min) (3,j,2) e3
 let p:=nd p (Fm u.min 1048576 u.max) (3,j,3) e3
 let p:=Auu u j p
 let p:=nd p (Fm 0 1048576 u.noLoad) (3,j,5) e3
 let p:=nd p (Fm 0 1048576 u.rampUp) (3,j,6) e3
 let p:=nd p (Fm 0 1048576 u.rampDown) (3,j,7) e3
 let p:=nd p (Fm u.min u.max u.startRamp) (3,j,8) e3
 let p:=nd p (Fm u.min u.max u.stopRamp) (3,j,9) e3
 let p:=nd p (Fm 0 24 u.upTime) (3,j,10) e3
 let p:=nd p (Fm 0 24 u.downTime) (3,j,11) e3
 let p:=nd p (Fm 0 24 u.startTime) (3,j,12) e3
 let p:=nd p (Fm 0 1048576 u.hotCost) (3,j,13) e3
 let p:=nd p (Fm 0 1048576 u.coldCost) (3,j,14) e3
 let p:=nd p (Fm 0 24 u.hotHours) (3,j,15) e3
 let p:=nd p (Fm 0 1048576 u.reserve) (3,j,16) e3
 let p:=nd p (Fm 0 1048576 u.reservePrice) (3,j,17) e3
 let p:=pT c.hours u.away.l (3,j,18) p
 let p:=nd p (Fm 0 2 u.state) (3,j,19) Ax5
 let p:=nd p (u.state != 1||u.startTime != 0) (3,j,19) Bbx
 let p:=nd p (Fm 1 48 u.hours) (3,j,20) e3
 let p:=nd p (u.state != 1||decide (u.hours≤u.startTime)) (3,j,20) e3
 cond (u.state==2) (nd p (Fm u.min u.max u.output) (3,j,21) e3) (nd p (Fm 0 0 u.output) (3,j,21) e3)
def Az5 (c:CaseD) (m:MoveD):Bool:=decide (0≤m.unit)&&decide (m.unit<(c.units.l.length:Int))
def Apf (m:MoveD):Bool:=Fm 0 1048576 m.up&&Fm 0 1048576 m.down
def tN (c:CaseD) (o:OutD) (j:Nat) (p:Df):Df :=
 let p:=nd p ((o.moves.l.length:Int)==0||o.corr) (6,j,3) Bbx
 let p:=nd p (decide ((o.moves.l.length:Int)≤16)) (6,j,3) e8
 let p:=nd p (o.moves.l.all (Az5 c)) (6,j,3) Ax5
 let p:=nd p (pQ (o.moves.l.map (·.unit))) (6,j,3) A4t
 nd p (o.moves.l.all Apf) (6,j,3) e3
theorem zG {u:OutD} {f:LA→Nat→O R}:Br 3 (List.drop 3 u.av) f=f (u.moves.l.flatMap MoveD.av) u.moves.l.length:=by simp[OutD.av,Ed]
theorem A66 {u:OutD} {f:Bool→O R}:bW (List.drop 2 u.av) f=f u.corr:=by simp[OutD.av,A60]
def tO (c:CaseD) (j:Nat) (x:OutD) (p:Df):Df :=
 let p:=Lu ((c.outs.l.map (·.name)).take j) 6 j x.name p
 let p:=nd p ((x.lines.l.length:Int)==1||(x.lines.l.length:Int)==2) (6,j,1) e4
 let p:=nd p (x.lines.l.all fun n=>decide (0≤n)&&decide (n<(c.lines.l.length:Int))) (6,j,1) Ax5
 let p:=nd p (pQ x.lines.l) (6,j,1) A4t
 tN c x j p
theorem Lw {c:CaseD} {j:Nat} {x:OutD} {y:(Int×Int×Int)×{ e:Int // e≠0 }}:tO c j x (some y)=some y:=rfl
end
end Gx.Cf

namespace Gx.Cf
open Go Go.Proofs
section
variable {R:Type}
theorem pV {u:OutD} {f:LA→Nat→O R}:Br 1 (List.drop 1 u.av) f=f (Aq u.lines.l) u.lines.l.length:=by simp[OutD.av,Ed,Fl]
end
end Gx.Cf

namespace Gx.Cf
open Go Go.Proofs
section
variable {R:Type}
def Bg (l:List (List UInt8)):LA:=l.map fun s=>.str s
theorem Gt (l:List (List UInt8)):(Bg l).length=l.length:=by simp[Bg]
theorem Adu {l:List (List UInt8)} {i:Nat} (h:i<l.length) {f:List UInt8→O R}:Ts (List.drop i (Bg l)) f=f l[i]:=by
 rw[Bg,List.drop_eq_getElem_cons (by simpa using h)];simp[Eu]
theorem B6 {c:CaseD}:List.take 8 c.av=c.av:=rfl
theorem D8 {c:CaseD}:Nat.ble 8 (List.length c.av)=true:=rfl
theorem QB {N:Nat} {c:CaseD} {o:Bool} {K:Nat→LA→O R} (d:c.buses.l.length≤1000000):∀ (m j fuel:Nat),j+m=c.buses.l.length→m<fuel →
  M0 N K o c.av fuel j (j:Int) (Bg ((c.buses.l.take j).map (·.name)))=K c.buses.l.length (Bg (c.buses.l.map (·.name)))
 | 0,j,fuel+1,e,_=>by
  rw[M0];unfold Y9
  have b:j=c.buses.l.length:=by omega
  rw[Gs,Jf (by omega),cf,List.take_of_length_le (by omega),b]
 | m+1,j,fuel+1,e,q=>by
  rw[M0];unfold Y9
  have h:j<c.buses.l.length:=by omega
  have i:(Nat.ble (j+1) 140737488355328&&Nat.ble ((j+1)*16) 140737488355328)=true:=by rw[Bs,Bs];simp;omega
  have k:List.take (j*1) (Bg ((c.buses.l.take j).map (·.name)))++[.str c.buses.l[j].name]=Bg ((c.buses.l.take (j+1)).map (·.name)):=by
   rw[List.take_of_length_le (by simp[Gt];omega),List.take_succ_eq_append_getElem h,List.map_append];simp[Bg]
  have n:∀ f:List UInt8→O R,Ts (List.drop (j*3) (List.flatMap BusD.av c.buses.l)) f=f c.buses.l[j].name:=fun f=>by rw[At Kb _ _ h];simp[BusD.av,Eu]
  rw[Gs,Hy h,ct,Gs,Ab h,ct,Int.toNat_natCast,n,i,ct,k,Bo (by omega),QB d m (j+1) fuel (by omega) (by omega)]
theorem Auv {N:Nat} {c:CaseD} {o:Bool} {K:Nat→LA→O R} (hs:Small c N):Ik N c.av o 1 K=K (c.buses.l.map (·.name)).length (Bg (c.buses.l.map (·.name))):=by
 rw[Kz];unfold M6
 have:=QB (R:=R) (N:=N) (c:=c) (o:=o) (K:=K) hs.top.1 c.buses.l.length 0 N (by omega) hs.bus.1
 simpa[Bg] using this
theorem QC {N:Nat} {c:CaseD} {o:Bool} {K:Nat→LA→O R} (d:c.lines.l.length≤1000000):∀ (m j fuel:Nat),j+m=c.lines.l.length→m<fuel →
  M1 N K o c.av fuel j (j:Int) (Bg ((c.lines.l.take j).map (·.name)))=K c.lines.l.length (Bg (c.lines.l.map (·.name)))
 | 0,j,fuel+1,e,_=>by
  rw[M1];unfold Za
  have b:j=c.lines.l.length:=by omega
  rw[Ef,Jf (by omega),cf,List.take_of_length_le (by omega),b]
 | m+1,j,fuel+1,e,q=>by
  rw[M1];unfold Za
  have h:j<c.lines.l.length:=by omega
  have i:(Nat.ble (j+1) 140737488355328&&Nat.ble ((j+1)*16) 140737488355328)=true:=by rw[Bs,Bs];simp;omega
  have k:List.take (j*1) (Bg ((c.lines.l.take j).map (·.name)))++[.str c.lines.l[j].name]=Bg ((c.lines.l.take (j+1)).map (·.name)):=by
   rw[List.take_of_length_le (by simp[Gt];omega),List.take_succ_eq_append_getElem h,List.map_append];simp[Bg]
  have n:∀ f:List UInt8→O R,Ts (List.drop (j*12) (List.flatMap LineD.av c.lines.l)) f=f c.lines.l[j].name:=fun f=>by rw[At Ce _ _ h];simp[LineD.av,Eu]
  rw[Ef,Hy h,ct,Ef,Ab h,ct,Int.toNat_natCast,n,i,ct,k,Bo (by omega),QC d m (j+1) fuel (by omega) (by omega)]
theorem vg {N:Nat} {c:CaseD} {o:Bool} {K:Nat→LA→O R} (hs:Small c N):Ik N c.av o 2 K=K (c.lines.l.map (·.name)).length (Bg (c.lines.l.map (·.name))):=by
 rw[Kz];unfold M6
 have:=QC (R:=R) (N:=N) (c:=c) (o:=o) (K:=K) hs.top.2.1 c.lines.l.length 0 N (by omega) hs.lin.1
 simpa[Bg] using this
theorem QD {N:Nat} {c:CaseD} {o:Bool} {K:Nat→LA→O R} (d:c.units.l.length≤1000000):∀ (m j fuel:Nat),j+m=c.units.l.length→m<fuel →
  M2 N K o c.av fuel j (j:Int) (Bg ((c.units.l.take j).map (·.name)))=K c.units.l.length (Bg (c.units.l.map (·.name)))
 | 0,j,fuel+1,e,_=>by
  rw[M2];unfold Zb
  have b:j=c.units.l.length:=by omega
  rw[C2,Jf (by omega),cf,List.take_of_length_le (by omega),b]
 | m+1,j,fuel+1,e,q=>by
  rw[M2];unfold Zb
  have h:j<c.units.l.length:=by omega
  have i:(Nat.ble (j+1) 140737488355328&&Nat.ble ((j+1)*16) 140737488355328)=true:=by rw[Bs,Bs];simp;omega
  have k:List.take (j*1) (Bg ((c.units.l.take j).map (·.name)))++[.str c.units.l[j].name]=Bg ((c.units.l.take (j+1)).map (·.name)):=by
   rw[List.take_of_length_le (by simp[Gt];omega),List.take_succ_eq_append_getElem h,List.map_append];simp[Bg]
  have n:∀ f:List UInt8→O R,Ts (List.drop (j*22) (List.flatMap UnitD.av c.units.l)) f=f c.units.l[j].name:=fun f=>by rw[At Cg _ _ h];simp[UnitD.av,Eu]
  rw[C2,Hy h,ct,C2,Ab h,ct,Int.toNat_natCast,n,i,ct,k,Bo (by omega),QD d m (j+1) fuel (by omega) (by omega)]
theorem vh {N:Nat} {c:CaseD} {o:Bool} {K:Nat→LA→O R} (hs:Small c N):Ik N c.av o 3 K=K (c.units.l.map (·.name)).length (Bg (c.units.l.map (·.name))):=by
 rw[Kz];unfold M6
 have:=QD (R:=R) (N:=N) (c:=c) (o:=o) (K:=K) hs.top.2.2.1 c.units.l.length 0 N (by omega) hs.uni.1
 simpa[Bg] using this
theorem K' {N:Nat} {c:CaseD} {o:Bool} {K:Nat→LA→O R} (d:c.stores.l.length≤1000000):∀ (m j fuel:Nat),j+m=c.stores.l.length→m<fuel →
  M3 N K o c.av fuel j (j:Int) (Bg ((c.stores.l.take j).map (·.name)))=K c.stores.l.length (Bg (c.stores.l.map (·.name)))
 | 0,j,fuel+1,e,_=>by
  rw[M3];unfold Zc
  have b:j=c.stores.l.length:=by omega
  rw[X5,Jf (by omega),cf,List.take_of_length_le (by omega),b]
 | m+1,j,fuel+1,e,q=>by
  rw[M3];unfold Zc
  have h:j<c.stores.l.length:=by omega
  have i:(Nat.ble (j+1) 140737488355328&&Nat.ble ((j+1)*16) 140737488355328)=true:=by rw[Bs,Bs];simp;omega
  have k:List.take (j*1) (Bg ((c.stores.l.take j).map (·.name)))++[.str c.stores.l[j].name]=Bg ((c.stores.l.take (j+1)).map (·.name)):=by
   rw[List.take_of_length_le (by simp[Gt];omega),List.take_succ_eq_append_getElem h,List.map_append];simp[Bg]
  have n:∀ f:List UInt8→O R,Ts (List.drop (j*9) (List.flatMap StoreD.av c.stores.l)) f=f c.stores.l[j].name:=fun f=>by rw[At Ga _ _ h];simp[StoreD.av,Eu]
  rw[X5,Hy h,ct,X5,Ab h,ct,Int.toNat_natCast,n,i,ct,k,Bo (by omega),K' d m (j+1) fuel (by omega) (by omega)]
theorem pW {N:Nat} {c:CaseD} {o:Bool} {K:Nat→LA→O R} (hs:Small c N):Ik N c.av o 4 K=K (c.stores.l.map (·.name)).length (Bg (c.stores.l.map (·.name))):=by
 rw[Kz];unfold M6
 have:=K' (R:=R) (N:=N) (c:=c) (o:=o) (K:=K) hs.top.2.2.2.1 c.stores.l.length 0 N (by omega) hs.sto.1
 simpa[Bg] using this
theorem YK {N:Nat} {c:CaseD} {o:Bool} {K:Nat→LA→O R} (d:c.ties.l.length≤1000000):∀ (m j fuel:Nat),j+m=c.ties.l.length→m<fuel →
  M4 N K o c.av fuel j (j:Int) (Bg ((c.ties.l.take j).map (·.name)))=K c.ties.l.length (Bg (c.ties.l.map (·.name)))
 | 0,j,fuel+1,e,_=>by
  rw[M4];unfold Zd
  have b:j=c.ties.l.length:=by omega
  rw[TX,Jf (by omega),cf,List.take_of_length_le (by omega),b]
 | m+1,j,fuel+1,e,q=>by
  rw[M4];unfold Zd
  have h:j<c.ties.l.length:=by omega
  have i:(Nat.ble (j+1) 140737488355328&&Nat.ble ((j+1)*16) 140737488355328)=true:=by rw[Bs,Bs];simp;omega
  have k:List.take (j*1) (Bg ((c.ties.l.take j).map (·.name)))++[.str c.ties.l[j].name]=Bg ((c.ties.l.take (j+1)).map (·.name)):=by
   rw[List.take_of_length_le (by simp[Gt];omega),List.take_succ_eq_append_getElem h,List.map_append];simp[Bg]
  have n:∀ f:List UInt8→O R,Ts (List.drop (j*5) (List.flatMap TieD.av c.ties.l)) f=f c.ties.l[j].name:=fun f=>by rw[At Lv _ _ h];simp[TieD.av,Eu]
  rw[TX,Hy h,ct,TX,Ab h,ct,Int.toNat_natCast,n,i,ct,k,Bo (by omega),YK d m (j+1) fuel (by omega) (by omega)]
theorem Adv {N:Nat} {c:CaseD} {o:Bool} {K:Nat→LA→O R} (hs:Small c N):Ik N c.av o 5 K=K (c.ties.l.map (·.name)).length (Bg (c.ties.l.map (·.name))):=by
 rw[Kz];unfold M6
 have:=YK (R:=R) (N:=N) (c:=c) (o:=o) (K:=K) hs.top.2.2.2.2.1 c.ties.l.length 0 N (by omega) hs.tie.1
 simpa[Bg] using this
theorem YL {N:Nat} {c:CaseD} {o:Bool} {K:Nat→LA→O R} (d:c.outs.l.length≤1000000):∀ (m j fuel:Nat),j+m=c.outs.l.length→m<fuel →
  M5 N K o c.av fuel j (j:Int) (Bg ((c.outs.l.take j).map (·.name)))=K c.outs.l.length (Bg (c.outs.l.map (·.name)))
 | 0,j,fuel+1,e,_=>by
  rw[M5];unfold Ze
  have b:j=c.outs.l.length:=by omega
  rw[Zh,Jf (by omega),cf,List.take_of_length_le (by omega),b]
 | m+1,j,fuel+1,e,q=>by
  rw[M5];unfold Ze
  have h:j<c.outs.l.length:=by omega
  have i:(Nat.ble (j+1) 140737488355328&&Nat.ble ((j+1)*16) 140737488355328)=true:=by rw[Bs,Bs];simp;omega
  have k:List.take (j*1) (Bg ((c.outs.l.take j).map (·.name)))++[.str c.outs.l[j].name]=Bg ((c.outs.l.take (j+1)).map (·.name)):=by
   rw[List.take_of_length_le (by simp[Gt];omega),List.take_succ_eq_append_getElem h,List.map_append];simp[Bg]
  have n:∀ f:List UInt8→O R,Ts (List.drop (j*4) (List.flatMap OutD.av c.outs.l)) f=f c.outs.l[j].name:=fun f=>by rw[At Dk _ _ h];simp[OutD.av,Eu]
  rw[Zh,Hy h,ct,Zh,Ab h,ct,Int.toNat_natCast,n,i,ct,k,Bo (by omega),YL d m (j+1) fuel (by omega) (by omega)]
theorem Adw {N:Nat} {c:CaseD} {o:Bool} {K:Nat→LA→O R} (hs:Small c N):Ik N c.av o 6 K=K (c.outs.l.map (·.name)).length (Bg (c.outs.l.map (·.name))):=by
 rw[Kz];unfold M6
 have:=YL (R:=R) (N:=N) (c:=c) (o:=o) (K:=K) hs.top.2.2.2.2.2 c.outs.l.length 0 N (by omega) hs.out.1
 simpa[Bg] using this
theorem Xb {N:Nat} {L:List (List UInt8)} {k:Int} {n:Nat} {K:LA→O R} (hn:n<L.length) (hs:n<4611686018427387904):∀ (m j fuel:Nat) (p:Df),j+m=n→m<fuel →
  D7 N K k (n:Int) L.length (Bg L) fuel (j:Int) (Ds p)=K (Ds (nd p (((L.take n).drop j).all fun x=>!(x==L[n])) (k,n,0) ⟨10,by decide⟩))
 | 0,j,fuel+1,p,b,_=>by
  rw[D7];unfold J8
  rw[Jf (by omega),cf,C9 (l:=L.take n) (by simp;omega),List.all_nil,Gi]
 | m+1,j,fuel+1,p,b,d=>by
  rw[D7];unfold J8
  have h:j<L.length:=by omega
  have c:j<(L.take n).length:=by simp;omega
  rw[Hy (by omega),ct,Ab h,ct,Int.toNat_natCast,Nat.zero_add,Nat.mul_one,Adu h,Ab hn,ct,Int.toNat_natCast,Nat.zero_add,Nat.mul_one,Adu hn,Af (by decide),Bo (by omega),Xb hn hs m (j+1) fuel _ (by omega) (by omega),Cd c,List.all_cons,Rp]
  have e:(L.take n)[j]=L[j]:=by simp
  rw[e]
theorem Eb {N:Nat} {c:CaseD} {L:List (List UInt8)} {o:Bool} {p:Df} {k:Int} {n:Nat} {K:LA→O R} (hN:64≤N) (hL:∀ K:Nat→LA→O R,Ik N c.av o k K=K L.length (Bg L)) (hn:n<L.length) (hs:E2 n N) :
  Cs N c.av o k (n:Int) (Ds p) K=K (Ds (Lu (L.take n) k n L[n] p)):=by
 rw[AQ];unfold Oz
 rw[B6,D8,ct,hL,Ab hn,ct,Int.toNat_natCast,Nat.zero_add,Nat.mul_one,Adu hn,Ahx hN,Af (by decide)]
 have:=Xb (R:=R) (N:=N) (L:=L) (k:=k) (n:=n) (K:=K) hn hs.2 n 0 N (nd p (Rt L[n]) (k,n,0) ⟨9,by decide⟩) (by omega) hs.1
 simpa[Lu] using this
theorem TY {N fuel:Nat} {c:CaseD} {o:Bool} {p:Df} {K:LA→O R} (hs:Small c N):Bn N K o c.av (fuel+6) 2 (Ds p)=K (Ds
  (nd (nd (nd (nd (nd p (decide ((c.lines.l.length:Int)≤64)) (0,0,3) e8) (decide ((c.units.l.length:Int)≤16)) (0,0,4) e8) (decide ((c.stores.l.length:Int)≤8)) (0,0,5) e8) (decide ((c.ties.l.length:Int)≤8)) (0,0,6) e8) (decide ((c.outs.l.length:Int)≤64)) (0,0,7) e8)):=by
 have most:∀ (k:Nat) (n:Int) (K:Int→O R),k<7→([0,32,64,16,8,8,64]:List Int)[k]?=some n→Sd N (k:Int) K=K n:=by
  intro k n K b d
  rw[pE];unfold sy
  rw[Ab b,ct]
  have e:[(.int .i64 (0:Int)),(.int .i64 (32:Int)),(.int .i64 (64:Int)),(.int .i64 (16:Int)),(.int .i64 (8:Int)),(.int .i64 (8:Int)),(.int .i64 (64:Int))]=Aq [0,32,64,16,8,8,64]:=rfl
  rw[e,Int.toNat_natCast,Nat.zero_add,Nat.mul_one,nY (by simpa using b)]
  rw[List.getElem?_eq_getElem (by simpa using b)] at d
  simp only[Option.some.injEq] at d
  rw[d]
 have m2:∀ K:Int→O R,Sd N 2 K=K 64:=fun K=>most 2 64 K (by omega) rfl
 have m3:∀ K:Int→O R,Sd N 3 K=K 16:=fun K=>most 3 16 K (by omega) rfl
 have m4:∀ K:Int→O R,Sd N 4 K=K 8:=fun K=>most 4 8 K (by omega) rfl
 have m5:∀ K:Int→O R,Sd N 5 K=K 8:=fun K=>most 5 8 K (by omega) rfl
 have m6:∀ K:Int→O R,Sd N 6 K=K 64:=fun K=>most 6 64 K (by omega) rfl
 have f:IntKind.wrap .i64 (2+1)=3:=rfl
 have w3:IntKind.wrap .i64 (3+1)=4:=rfl
 have i:IntKind.wrap .i64 (4+1)=5:=rfl
 have j:IntKind.wrap .i64 (5+1)=6:=rfl
 have m:IntKind.wrap .i64 (6+1)=7:=rfl
 rw[Bn];unfold Co
 rw[show decide ((2:Int)≤6)=true from rfl,ct,D8,ct,B6,vg hs,m2,Af (by decide),f]
 rw[Bn];unfold Co
 rw[show decide ((3:Int)≤6)=true from rfl,ct,D8,ct,B6,vh hs,m3,Af (by decide),w3]
 rw[Bn];unfold Co
 rw[show decide ((4:Int)≤6)=true from rfl,ct,D8,ct,B6,pW hs,m4,Af (by decide),i]
 rw[Bn];unfold Co
 rw[show decide ((5:Int)≤6)=true from rfl,ct,D8,ct,B6,Adv hs,m5,Af (by decide),j]
 rw[Bn];unfold Co
 rw[show decide ((6:Int)≤6)=true from rfl,ct,D8,ct,B6,Adw hs,m6,Af (by decide),m]
 rw[Bn];unfold Co
 rw[show decide ((7:Int)≤6)=false from rfl,cf]
 simp only[List.length_map]
theorem TZ {N:Nat} {c:CaseD} {o:Bool} {p:Df} {K:LA→O R} (hs:Small c N):G1 N c.av o (Ds p) K=K (Ds (tL c p)):=by
 have hN:=hs.n64
 rw[W5];unfold M7
 have:=fun p=>TY (fuel:=N - 6) (o:=o) (p:=p) (K:=K) hs
 rw[show N - 6+6=N by omega] at this
 simp only[Gr,El (show 8≤N by omega),Af (show(3:Int)≠0 by decide),Af (show(8:Int)≠0 by decide),D8,ct,B6,Az2,Gs,Ew rfl hs.res,this]
 rfl
end
end Gx.Cf

namespace Gx
open Go Go.Proofs
open IntKind (wrap)
set_option maxRecDepth 100000
noncomputable section
variable {R:Type} (N:Nat)
def Ru (r0:LA→O R) (b:Int) (c:Bool) (d e:LA) (m:LA):O R :=
 (Ap .i64 (e.drop 9) fun o=>(Ar N 0 1048576 [(.int .i64 o)] 1 false true (fun p=>(Aa N p 2 b 6 3 m (fun q=>(Ap .i64 (e.drop 9) fun r=>(Ap .i64 (e.drop 10) fun s=>(Ar N r 1048576 [(.int .i64 s)] 1 false true (fun t=>(Aa N t 2 b 7 3 q (fun u=>(cond (Nat.ble 8 (d.length)) (Br 1 (e.drop 11) fun v w=>(Il N (d.take 8) c v w false c 2 b 8 u (fun x=>(r0 x)))) none))))))))))))
def Px (r0:LA→O R) (b:Int) (c:Bool) (d e:LA) (q2:LA→O R) (g:LA):O R :=
 (cond (Nat.ble 2 ((e.drop 7).length)) (cond ((!c)||(Az ((e.drop 7).take 2))) (J9 N ((e.drop 7).take 2) false (fun y=>(cond (y==true) (Ap .i64 (e.drop 7) fun z=>(Aa N (cond true (decide (z≥0)) false) 2 b 5 3 g (fun aa=>(q2 aa)))) (Aa N false 2 b 5 3 g (fun ab=>(q2 ab)))))) none) none)
def Rv (r0:LA→O R) (b:Int) (c:Bool) (d e:LA) (g:LA):O R:=(Px N r0 b c d e (fun m=>(Ru N r0 b c d e m)) g)
def Py (r0:LA→O R) (b:Int) (c:Bool) (d:LA) (q1:LA→O R) (f e:LA):O R :=
 (cond (Nat.ble 2 ((e.drop 5).length)) (cond ((!c)||(Az ((e.drop 5).take 2))) (J9 N ((e.drop 5).take 2) false (fun ac=>(cond (ac==true) (Ap .i64 (e.drop 5) fun ad=>(Aa N (cond true (decide (ad≤0)) false) 2 b 4 3 f (fun ae=>(q1 ae)))) (Aa N false 2 b 4 3 f (fun af=>(q1 af)))))) none) none)
def Lh (r0:LA→O R) (b:Int) (c:Bool) (d:LA) (f e:LA):O R:=(Py N r0 b c d (fun g=>(Rv N r0 b c d e g)) f e)
def O2 (r0:LA→O R) (q0:LA→LA→O R) (d:LA) (c:Bool) (b:Int) (i:LA):O R :=
 (Br 12 (d.drop 3) fun l ag=>(cond (Ae b ag) (cond (Nat.ble 12 ((l.drop ((b.toNat)*12)).length)) (cond ((Nat.beq 0 0)&&((Nat.beq (((l.drop ((b.toNat)*12)).take 12).length) 12)&&(Nat.beq 12 12))) (cond (Nat.ble 8 (d.length)) (Cs N (d.take 8) c 2 b i (fun ah=>(cond (Nat.ble 8 (d.length)) (Ap .i64 (((l.drop ((b.toNat)*12)).take 12).drop 1) fun ai=>(Ek N (d.take 8) c ai 2 b 1 ah (fun aj=>(cond (Nat.ble 8 (d.length)) (Ap .i64 (((l.drop ((b.toNat)*12)).take 12).drop 2) fun ak=>(Ek N (d.take 8) c ak 2 b 2 aj (fun al=>(Ap .i64 (((l.drop ((b.toNat)*12)).take 12).drop 1) fun am=>(Ap .i64 (((l.drop ((b.toNat)*12)).take 12).drop 2) fun an=>(Aa N (am != an) 2 b 2 1 al (fun n=>(cond (Nat.ble 2 ((((l.drop ((b.toNat)*12)).take 12).drop 3).length)) (cond ((!c)||(Az ((((l.drop ((b.toNat)*12)).take 12).drop 3).take 2))) (J9 N ((((l.drop ((b.toNat)*12)).take 12).drop 3).take 2) false (fun ao=>(cond (ao==true) (Ap .i64 (((l.drop ((b.toNat)*12)).take 12).drop 3) fun ap=>(Aa N (cond true (decide (ap>0)) false) 2 b 3 3 n (fun aq=>(q0 aq ((l.drop ((b.toNat)*12)).take 12))))) (Aa N false 2 b 3 3 n (fun ar=>(q0 ar ((l.drop ((b.toNat)*12)).take 12))))))) none) none)))))))) none)))) none))) none) none) none) none))
def In:=(Ag (fun (N:Nat) (d:LA) (c:Bool) (b:Int) (i:LA) (r0:LA→O R)=>(O2 N r0 (fun f e=>(Lh N r0 b c d f e)) d c b i))).1
theorem AW (d c b i r0):(@In R N d c b i r0)=(O2 N r0 (fun f e=>(Lh N r0 b c d f e)) d c b i):=by rw[In,(Ag _).2]
def DI:Hints:={ H:=(hS hL (hS hL (hS hL (hS hL (hS hL (hS hL (hJ [0,2,4,6,7] hL (hJ [0,2,4,6,7] hL (hJ [0,2,4,6,7] hL hL))))))))) }
def HQ:F2:=[(159,Fo N),(225,M8 N),(161,Bx N),(226,YB N),(162,Dw N),(227,DE N)]
def Rw (F:KF R):=Ju Tryz.f163 DI (HQ N) [100000] N F
def Dh (F:KF R):LA→O R:=(fun au=>F (.tup []) [(100000,(bQ 0 au))])
def iP (b:Int) (c:Bool) (d e m:LA):St:=⟨[(0,(.optr 100000 0)),(2,(iv b)),(4,(op 0)),(6,(op 1)),(7,(iv 2))],[(100000,(bQ 0 m)),(300000,(bP c 0 d)),(300001,(bP c 0 e))]⟩
def iQ (F:KF R):=Rw N F [1,1,1,1,1,1,1,1,1] []
def iR (b:Int) (c:Bool) (d e g:LA):St:=⟨[(0,(.optr 100000 0)),(2,(iv b)),(4,(op 0)),(6,(op 1)),(7,(iv 2))],[(100000,(bQ 0 g)),(300000,(bP c 0 d)),(300001,(bP c 0 e))]⟩
def iS (F:KF R):=Rw N F [1,1,1,1,1,1,1,1] []
def iT (b:Int) (c:Bool) (d f e:LA):St:=⟨[(0,(.optr 100000 0)),(2,(iv b)),(4,(op 0)),(6,(op 1)),(7,(iv 2))],[(100000,(bQ 0 f)),(300000,(bP c 0 d)),(300001,(bP c 0 e))]⟩
def iU (F:KF R):=Rw N F [1,1,1,1,1,1,1] []
theorem T_ (F:KF R) (b:Int) (c:Bool) (d e:LA):∀ (m:LA),B5 (iQ N F) (iP b c d e m)=(Ru N (Dh F) b c d e m):=by
 intro m
 kernel_rfl
theorem T' (F:KF R) (b:Int) (c:Bool) (d e:LA):∀ (g:LA),B5 (iS N F) (iR b c d e g)=(Rv N (Dh F) b c d e g):=by
 intro g
 exact Eq.trans (by kernel_rfl) (Bt (Px N (Dh F) b c d e · g) (funext fun m=>(A1 ..).trans (T_ N F b c d e m)):_)
theorem UA (F:KF R) (b:Int) (c:Bool) (d:LA):∀ (f e:LA),B5 (iU N F) (iT b c d f e)=(Lh N (Dh F) b c d f e):=by
 intro f e
 exact Eq.trans (by kernel_rfl) (Bt (Py N (Dh F) b c d · f e) (funext fun g=>(A1 ..).trans (T' N F b c d e g)):_)
theorem DJ (d:LA) (c:Bool) (b:Int) (i:LA) (F:KF R):Cw (HQ N) DI N 163 [(.optr 100000 0),(.pagg d c),(iv b)] [(100000,(bQ 0 i))] F=(In N d c b i (Dh F)):=by
 rw[AW]
 exact Eq.trans (by kernel_rfl) (Bt (O2 N (Dh F) · d c b i) (funext fun f=>funext fun e=>(A1 ..).trans (UA N F b c d f e)):_)
def AX (a:LA) (h:Aj) (k:KF R):O R :=
 match a,h with
 | [(.optr 100000 0),(.pagg d c),(.int .i64 b)],[(100000,⟨false,false,true,false,0,i,false,none⟩)]=>(In N d c b i (Dh k))
 | _,_=>none
theorem DK:An N 163 @AX:=by
 intro R Q a h k j;unfold AX;split;exact A2 (DJ ..) (DJ ..) ⟨Fp N,M9 N,By N,YC N,Dx N,DF N,trivial⟩;exact A4
def iV:=A3 (DK N)
def iW:=Cz (DK N)
def Gl (r0:LA→O R) (c:Int) (e:LA) (d:Bool) (b:LA) (k2:Int→Int→O R) (q p:Int):O R :=
 (Br 2 (b.drop 4) fun ba s=>(cond ((decide (p<((s:Nat):Int)))==true) (Ap .i64 (e.drop 3) fun t=>(cond (cond true (t==0) false) (Br 2 (b.drop 4) fun u v=>(cond (Ae p v) (Ap .i64 (u.drop ((p.toNat)*2)) fun w=>(k2 (wrap .i64 (q+w)) (wrap .i64 (p+1)))) none)) (Ap .i64 (e.drop 3) fun x=>(cond ((x != 0)==false) (Ap .i64 (b.drop 3) fun y=>(Ap .i64 (b.drop 2) fun z=>(Aa N (cond false true (q==(wrap .i64 (y - z)))) 3 c 4 4 e (fun aa=>(r0 aa))))) (Aa N true 3 c 4 4 e (fun ab=>(r0 ab))))))) (Ap .i64 (e.drop 3) fun ac=>(cond ((ac != 0)==false) (Ap .i64 (b.drop 3) fun ad=>(Ap .i64 (b.drop 2) fun ae=>(Aa N (cond false true (q==(wrap .i64 (ad - ae)))) 3 c 4 4 e (fun af=>(r0 af))))) (Aa N true 3 c 4 4 e (fun ag=>(r0 ag)))))))
def Dr (r0:LA→O R) (c:Int) (e:LA) (d:Bool) (b:LA):Nat→Int→Int→O R
 | 0,_,_=>none
 | n+1,q,p=>(Gl N r0 c e d b (Dr r0 c e d b n) q p)
def Eg (r0:LA→O R) (c:Int) (d:Bool) (b:LA) (k1:Int→LA→O R) (q2:Int→Int→O R) (i:Int) (e:LA):O R :=
 (Br 2 (b.drop 4) fun bb ah=>(cond (decide (i<((ah:Nat):Int))) (Br 2 (b.drop 4) fun ai aj=>(cond (Ae i aj) (Ap .i64 ((ai.drop ((i.toNat)*2)).drop 1) fun ak=>(Br 2 (b.drop 4) fun al am=>(cond (Ae (wrap .i64 (i - 1)) am) (Ap .i64 ((al.drop (((wrap .i64 (i - 1)).toNat)*2)).drop 1) fun an=>(Aa N (decide (ak≥an)) 3 c 4 11 e (fun ao=>(k1 (wrap .i64 (i+1)) ao)))) none))) none)) (q2 0 0)))
def Ct (r0:LA→O R) (c:Int) (d:Bool) (b:LA):Nat→Int→LA→O R
 | 0,_,_=>none
 | n+1,i,e=>(Eg N r0 c d b (Ct r0 c d b n) (fun q p=>(Dr N r0 c e d b N q p)) i e)
def Gm (r0:LA→O R) (c:Int) (g:LA) (l:Nat) (d:Bool) (b:LA) (k0:Int→Int→LA→O R) (q1:Int→LA→O R) (m f:Int) (o:LA):O R :=
 (cond (decide (f<m)) (cond (Ae f l) (cond (Nat.ble 2 ((g.drop ((f.toNat)*2)).length)) (cond ((!d)||(Az ((g.drop ((f.toNat)*2)).take 2))) (cond ((Nat.beq (((g.drop ((f.toNat)*2)).take 2).length) 2)&&((Nat.ble 2 2)&&(!false))) (Ap .i64 (setCells [(.int .i64 0),(.int .i64 0)] 0 ((g.drop ((f.toNat)*2)).take 2)) fun ap=>(Ar N 1 1048576 [(.int .i64 ap)] 1 false true (fun aq=>(cond (aq==true) (Ap .i64 ((setCells [(.int .i64 0),(.int .i64 0)] 0 ((g.drop ((f.toNat)*2)).take 2)).drop 1) fun ar=>(Ar N (-1048576) 1048576 [(.int .i64 ar)] 1 false true (fun au=>(Aa N (cond true au false) 3 c 4 3 o (fun av=>(k0 m (wrap .i64 (f+1)) av)))))) (Aa N false 3 c 4 3 o (fun aw=>(k0 m (wrap .i64 (f+1)) aw))))))) none) none) none) none) (q1 1 o))
def Cu (r0:LA→O R) (c:Int) (g:LA) (l:Nat) (d:Bool) (b:LA):Nat→Int→Int→LA→O R
 | 0,_,_,_=>none
 | n+1,m,f,o=>(Gm N r0 c g l d b (Cu r0 c g l d b n) (fun i e=>(Ct N r0 c d b N i e)) m f o)
def Je (r0:LA→O R) (q0:LA→Nat→Int→Int→LA→O R) (b:LA) (d:Bool) (c:Int) (r:LA):O R :=
 (Br 2 (b.drop 4) fun bc ax=>(Aa N (decide (((ax:Nat):Int)≤8)) 3 c 4 8 r (fun ay=>(Br 2 (b.drop 4) fun g l=>(q0 g l ((l:Nat):Int) 0 ay)))))
def Dz:=(Ag (fun (N:Nat) (b:LA) (d:Bool) (c:Int) (r:LA) (r0:LA→O R)=>(Je N r0 (fun g l m f o=>(Cu N r0 c g l d b N m f o)) b d c r))).1
theorem Sh (b d c r r0):(@Dz R N b d c r r0)=(Je N r0 (fun g l m f o=>(Cu N r0 c g l d b N m f o)) b d c r):=by rw[Dz,(Ag _).2]
def Up:Hints:={ H:=(hS hL (hS hL (hS hL (hS (hS hL (hS (hP [0,2,4,6,21,22,23] hL) hL)) (hS (hS hL (hS (hP [0,2,4,6,9] hL) hL)) (hS hL (hS (hS hL (hS (hP [0,2,4,6,10,11] hL) hL)) hL))))))) }
def V2:F2:=[(161,Bx N),(162,Dw N)]
def Lx (F:KF R):=Ju Tryz.f228 Up (V2 N) [100000] N F
def Bv (F:KF R):LA→O R:=(fun az=>F (.tup []) [(100000,(bQ 0 az))])
def QE (c:Int) (e:LA) (d:Bool) (b:LA) (q p:Int):St:=⟨[(0,(.optr 100000 0)),(2,(iv c)),(4,(op 0)),(6,(iv 3)),(10,(iv q)),(11,(iv p))],[(100000,(bQ 0 e)),(300000,(bP d 0 b))]⟩
def QF (F:KF R):=Lx N F [1,1,1,1,1,1,0,1,0] []
def QG (c:Int) (d:Bool) (b:LA) (i:Int) (e:LA):St:=⟨[(0,(.optr 100000 0)),(2,(iv c)),(4,(op 0)),(6,(iv 3)),(9,(iv i))],[(100000,(bQ 0 e)),(300000,(bP d 0 b))]⟩
def QH (F:KF R):=Lx N F [1,1,1,1,0,1,0] []
def QI (c:Int) (g:LA) (l:Nat) (d:Bool) (b:LA) (m f:Int) (o:LA):St:=⟨[(0,(.optr 100000 0)),(2,(iv c)),(4,(op 0)),(6,(iv 3)),(21,(.imm g l 2 false d)),(22,(iv m)),(23,(iv f))],[(100000,(bQ 0 o)),(300000,(bP d 0 b))]⟩
def QJ (F:KF R):=Lx N F [1,1,1,0,1,0] []
theorem Pz (F:KF R) (c:Int) (e:LA) (d:Bool) (b:LA):∀ (n:Nat) (q p:Int),Ak (QF N F) n (QE c e d b q p)=(Dr N (Bv F) c e d b n q p)
 | 0,_,_=>by kernel_rfl
 | n+1,q,p=>Eq.trans (by kernel_rfl) (Bt (Gl N (Bv F) c e d b · q p) (funext fun q=>funext fun p=>(Pz F c e d b n q p)):_)
theorem P0 (F:KF R) (c:Int) (d:Bool) (b:LA):∀ (n:Nat) (i:Int) (e:LA),Ak (QH N F) n (QG c d b i e)=(Ct N (Bv F) c d b n i e)
 | 0,_,_=>by kernel_rfl
 | n+1,i,e=>Eq.trans (by kernel_rfl) (OQ (Eg N (Bv F) c d b · · i e) (funext fun i=>funext fun e=>(P0 F c d b n i e)) (funext fun q=>funext fun p=>(Ad ..).trans (Pz N F c e d b N q p)):_)
theorem P1 (F:KF R) (c:Int) (g:LA) (l:Nat) (d:Bool) (b:LA):∀ (n:Nat) (m f:Int) (o:LA),Ak (QJ N F) n (QI c g l d b m f o)=(Cu N (Bv F) c g l d b n m f o)
 | 0,_,_,_=>by kernel_rfl
 | n+1,m,f,o=>Eq.trans (by kernel_rfl) (OQ (Gm N (Bv F) c g l d b · · m f o) (funext fun m=>funext fun f=>funext fun o=>(P1 F c g l d b n m f o)) (funext fun i=>funext fun e=>(Ad ..).trans (P0 N F c d b N i e)):_)
theorem Uq (b:LA) (d:Bool) (c:Int) (r:LA) (F:KF R):Cw (V2 N) Up N 228 [(.optr 100000 0),(.pagg b d),(iv c)] [(100000,(bQ 0 r))] F=(Dz N b d c r (Bv F)):=by
 rw[Sh]
 exact Eq.trans (by kernel_rfl) (Bt (Je N (Bv F) · b d c r) (funext fun g=>funext fun l=>funext fun m=>funext fun f=>funext fun o=>(Ad ..).trans (P1 N F c g l d b N m f o)):_)
def Si (a:LA) (h:Aj) (k:KF R):O R :=
 match a,h with
 | [(.optr 100000 0),(.pagg b d),(.int .i64 c)],[(100000,⟨false,false,true,false,0,r,false,none⟩)]=>(Dz N b d c r (Bv k))
 | _,_=>none
theorem Ur:An N 228 @Si:=by
 intro R Q a h k j;unfold Si;split;exact A2 (Uq ..) (Uq ..) ⟨By N,Dx N,trivial⟩;exact A4
def QK:=A3 (Ur N)
def QL:=Cz (Ur N)
def Rx (r0:LA→O R) (b:Int) (c:Bool) (d i:LA):O R :=
 (Ap .i64 (d.drop 19) fun o=>(cond (o==2) (Ap .i64 (d.drop 2) fun p=>(Ap .i64 (d.drop 3) fun q=>(Ap .i64 (d.drop 21) fun r=>(Ar N p q [(.int .i64 r)] 1 false true (fun s=>(Aa N s 3 b 21 3 i (fun t=>(r0 t)))))))) (Ap .i64 (d.drop 21) fun u=>(Aa N (u==0) 3 b 21 3 i (fun v=>(r0 v))))))
def P2 (r0:LA→O R) (b:Int) (c:Bool) (q1:LA→O R) (g d:LA):O R :=
 (Ap .i64 (d.drop 20) fun w=>(Ar N 1 48 [(.int .i64 w)] 1 false true (fun x=>(Aa N x 3 b 20 3 g (fun m=>(Ap .i64 (d.drop 19) fun y=>(cond ((y != 1)==false) (Ap .i64 (d.drop 20) fun z=>(Ap .i64 (d.drop 12) fun aa=>(Aa N (cond false true (decide (z≤aa))) 3 b 20 3 m (fun ab=>(q1 ab))))) (Aa N true 3 b 20 3 m (fun ac=>(q1 ac))))))))))
def Li (r0:LA→O R) (b:Int) (c:Bool) (g d:LA):O R:=(P2 N r0 b c (fun i=>(Rx N r0 b c d i)) g d)
def O3 (r0:LA→O R) (q0:LA→LA→O R) (f:LA) (c:Bool) (b:Int) (l:LA):O R :=
 (Br 22 (f.drop 4) fun e ad=>(cond (Ae b ad) (cond (Nat.ble 22 ((e.drop ((b.toNat)*22)).length)) (cond ((Nat.beq 0 0)&&((Nat.beq (((e.drop ((b.toNat)*22)).take 22).length) 22)&&(Nat.beq 22 22))) (cond (Nat.ble 8 (f.length)) (Cs N (f.take 8) c 3 b l (fun ae=>(cond (Nat.ble 8 (f.length)) (Ap .i64 (((e.drop ((b.toNat)*22)).take 22).drop 1) fun af=>(Ek N (f.take 8) c af 3 b 1 ae (fun ag=>(Ap .i64 (((e.drop ((b.toNat)*22)).take 22).drop 2) fun ah=>(Ar N 0 1048576 [(.int .i64 ah)] 1 false true (fun ai=>(Aa N ai 3 b 2 3 ag (fun aj=>(Ap .i64 (((e.drop ((b.toNat)*22)).take 22).drop 2) fun ak=>(Ap .i64 (((e.drop ((b.toNat)*22)).take 22).drop 3) fun al=>(Ar N ak 1048576 [(.int .i64 al)] 1 false true (fun am=>(Aa N am 3 b 3 3 aj (fun an=>(cond (Nat.ble 22 (((e.drop ((b.toNat)*22)).take 22).length)) (Dz N (((e.drop ((b.toNat)*22)).take 22).take 22) c b an (fun ao=>(Ap .i64 (((e.drop ((b.toNat)*22)).take 22).drop 5) fun ap=>(Ar N 0 1048576 [(.int .i64 ap)] 1 false true (fun aq=>(Aa N aq 3 b 5 3 ao (fun ar=>(Ap .i64 (((e.drop ((b.toNat)*22)).take 22).drop 6) fun au=>(Ar N 0 1048576 [(.int .i64 au)] 1 false true (fun av=>(Aa N av 3 b 6 3 ar (fun aw=>(Ap .i64 (((e.drop ((b.toNat)*22)).take 22).drop 7) fun ax=>(Ar N 0 1048576 [(.int .i64 ax)] 1 false true (fun ay=>(Aa N ay 3 b 7 3 aw (fun az=>(Ap .i64 (((e.drop ((b.toNat)*22)).take 22).drop 2) fun ba=>(Ap .i64 (((e.drop ((b.toNat)*22)).take 22).drop 3) fun bb=>(Ap .i64 (((e.drop ((b.toNat)*22)).take 22).drop 8) fun bc=>(Ar N ba bb [(.int .i64 bc)] 1 false true (fun bd=>(Aa N bd 3 b 8 3 az (fun be=>(Ap .i64 (((e.drop ((b.toNat)*22)).take 22).drop 2) fun bf=>(Ap .i64 (((e.drop ((b.toNat)*22)).take 22).drop 3) fun bg=>(Ap .i64 (((e.drop ((b.toNat)*22)).take 22).drop 9) fun bh=>(Ar N bf bg [(.int .i64 bh)] 1 false true (fun bi=>(Aa N bi 3 b 9 3 be (fun bj=>(Ap .i64 (((e.drop ((b.toNat)*22)).take 22).drop 10) fun bk=>(Ar N 0 24 [(.int .i64 bk)] 1 false true (fun bl=>(Aa N bl 3 b 10 3 bj (fun bm=>(Ap .i64 (((e.drop ((b.toNat)*22)).take 22).drop 11) fun bn=>(Ar N 0 24 [(.int .i64 bn)] 1 false true (fun bo=>(Aa N bo 3 b 11 3 bm (fun bp=>(Ap .i64 (((e.drop ((b.toNat)*22)).take 22).drop 12) fun bq=>(Ar N 0 24 [(.int .i64 bq)] 1 false true (fun br=>(Aa N br 3 b 12 3 bp (fun bs=>(Ap .i64 (((e.drop ((b.toNat)*22)).take 22).drop 13) fun bt=>(Ar N 0 1048576 [(.int .i64 bt)] 1 false true (fun bu=>(Aa N bu 3 b 13 3 bs (fun bv=>(Ap .i64 (((e.drop ((b.toNat)*22)).take 22).drop 14) fun bw=>(Ar N 0 1048576 [(.int .i64 bw)] 1 false true (fun bx=>(Aa N bx 3 b 14 3 bv (fun bz=>(Ap .i64 (((e.drop ((b.toNat)*22)).take 22).drop 15) fun ca=>(Ar N 0 24 [(.int .i64 ca)] 1 false true (fun cb=>(Aa N cb 3 b 15 3 bz (fun cc=>(Ap .i64 (((e.drop ((b.toNat)*22)).take 22).drop 16) fun cd=>(Ar N 0 1048576 [(.int .i64 cd)] 1 false true (fun ce=>(Aa N ce 3 b 16 3 cc (fun cf=>(Ap .i64 (((e.drop ((b.toNat)*22)).take 22).drop 17) fun cg=>(Ar N 0 1048576 [(.int .i64 cg)] 1 false true (fun ch=>(Aa N ch 3 b 17 3 cf (fun ci=>(cond (Nat.ble 8 (f.length)) (Br 1 (((e.drop ((b.toNat)*22)).take 22).drop 18) fun cj ck=>(Il N (f.take 8) c cj ck false c 3 b 18 ci (fun cl=>(Ap .i64 (((e.drop ((b.toNat)*22)).take 22).drop 19) fun cm=>(Ar N 0 2 [(.int .i64 cm)] 1 false true (fun cn=>(Aa N cn 3 b 19 12 cl (fun n=>(Ap .i64 (((e.drop ((b.toNat)*22)).take 22).drop 19) fun co=>(cond ((co != 1)==false) (Ap .i64 (((e.drop ((b.toNat)*22)).take 22).drop 12) fun cp=>(Aa N (cond false true (decide (cp>0))) 3 b 19 16 n (fun cq=>(q0 cq ((e.drop ((b.toNat)*22)).take 22))))) (Aa N true 3 b 19 16 n (fun cr=>(q0 cr ((e.drop ((b.toNat)*22)).take 22)))))))))))))) none)))))))))))))))))))))))))))))))))))))))))))))))))))))))))))))))))))))))) none))))))))))))))) none))) none) none) none) none))
def Io:=(Ag (fun (N:Nat) (f:LA) (c:Bool) (b:Int) (l:LA) (r0:LA→O R)=>(O3 N r0 (fun g d=>(Li N r0 b c g d)) f c b l))).1
theorem AY (f c b l r0):(@Io R N f c b l r0)=(O3 N r0 (fun g d=>(Li N r0 b c g d)) f c b l):=by rw[Io,(Ag _).2]
def DL:Hints:={ H:=(hS hL (hS hL (hS hL (hS hL (hS hL (hS hL (hS hL (hS hL (hS hL (hS hL (hS hL (hS hL (hS hL (hS hL (hS hL (hS hL (hS hL (hS hL (hS hL (hS hL (hS hL (hS hL (hJ [0,2,6,7] hL (hS hL (hJ [0,2,6,7] hL hL))))))))))))))))))))))))) }
def HR:F2:=[(159,Fo N),(225,M8 N),(162,Dw N),(161,Bx N),(228,QK N),(227,DE N)]
def DM (F:KF R):=Ju Tryz.f164 DL (HR N) [100000] N F
def Fq (F:KF R):LA→O R:=(fun cs=>F (.tup []) [(100000,(bQ 0 cs))])
def iX (b:Int) (c:Bool) (d i:LA):St:=⟨[(0,(.optr 100000 0)),(2,(iv b)),(6,(op 0)),(7,(iv 3))],[(100000,(bQ 0 i)),(300000,(bP c 0 d))]⟩
def iY (F:KF R):=DM N F [1,1,1,1,1,1,1,1,1,1,1,1,1,1,1,1,1,1,1,1,1,1,1,1,1] []
def iZ (b:Int) (c:Bool) (g d:LA):St:=⟨[(0,(.optr 100000 0)),(2,(iv b)),(6,(op 0)),(7,(iv 3))],[(100000,(bQ 0 g)),(300000,(bP c 0 d))]⟩
def i8 (F:KF R):=DM N F [1,1,1,1,1,1,1,1,1,1,1,1,1,1,1,1,1,1,1,1,1,1,1] []
theorem UB (F:KF R) (b:Int) (c:Bool) (d:LA):∀ (i:LA),B5 (iY N F) (iX b c d i)=(Rx N (Fq F) b c d i):=by
 intro i
 kernel_rfl
theorem UC (F:KF R) (b:Int) (c:Bool):∀ (g d:LA),B5 (i8 N F) (iZ b c g d)=(Li N (Fq F) b c g d):=by
 intro g d
 exact Eq.trans (by kernel_rfl) (Bt (P2 N (Fq F) b c · g d) (funext fun i=>(A1 ..).trans (UB N F b c d i)):_)
theorem DN (f:LA) (c:Bool) (b:Int) (l:LA) (F:KF R):Cw (HR N) DL N 164 [(.optr 100000 0),(.pagg f c),(iv b)] [(100000,(bQ 0 l))] F=(Io N f c b l (Fq F)):=by
 rw[AY]
 exact Eq.trans (by kernel_rfl) (Bt (O3 N (Fq F) · f c b l) (funext fun g=>funext fun d=>(A1 ..).trans (UC N F b c g d)):_)
def AZ (a:LA) (h:Aj) (k:KF R):O R :=
 match a,h with
 | [(.optr 100000 0),(.pagg f c),(.int .i64 b)],[(100000,⟨false,false,true,false,0,l,false,none⟩)]=>(Io N f c b l (Fq k))
 | _,_=>none
theorem DO:An N 164 @AZ:=by
 intro R Q a h k j;unfold AZ;split;exact A2 (DN ..) (DN ..) ⟨Fp N,M9 N,Dx N,By N,QL N,DF N,trivial⟩;exact A4
def i_:=A3 (DO N)
def ia:=Cz (DO N)
def T0 (d:LA) (e:Bool) (b:Int) (f:LA) (r0:LA→O R):O R :=
 (Br 9 (d.drop 5) fun c i=>(cond (Ae b i) (cond (Nat.ble 9 ((c.drop ((b.toNat)*9)).length)) (cond ((Nat.beq 0 0)&&((Nat.beq (((c.drop ((b.toNat)*9)).take 9).length) 9)&&(Nat.beq 9 9))) (cond (Nat.ble 8 (d.length)) (Cs N (d.take 8) e 4 b f (fun l=>(cond (Nat.ble 8 (d.length)) (Ap .i64 (((c.drop ((b.toNat)*9)).take 9).drop 1) fun m=>(Ek N (d.take 8) e m 4 b 1 l (fun n=>(Ap .i64 (((c.drop ((b.toNat)*9)).take 9).drop 2) fun o=>(Ar N 0 1048576 [(.int .i64 o)] 1 false true (fun p=>(Aa N p 4 b 2 3 n (fun q=>(Ap .i64 (((c.drop ((b.toNat)*9)).take 9).drop 2) fun r=>(Ap .i64 (((c.drop ((b.toNat)*9)).take 9).drop 3) fun s=>(Ar N 0 r [(.int .i64 s)] 1 false true (fun t=>(Aa N t 4 b 3 3 q (fun u=>(Ap .i64 (((c.drop ((b.toNat)*9)).take 9).drop 2) fun v=>(Ap .i64 (((c.drop ((b.toNat)*9)).take 9).drop 4) fun w=>(Ar N 0 v [(.int .i64 w)] 1 false true (fun x=>(Aa N x 4 b 4 3 u (fun y=>(Ap .i64 (((c.drop ((b.toNat)*9)).take 9).drop 5) fun z=>(Ar N 0 1048576 [(.int .i64 z)] 1 false true (fun aa=>(Aa N aa 4 b 5 3 y (fun ab=>(Ap .i64 (((c.drop ((b.toNat)*9)).take 9).drop 6) fun ac=>(Ar N 0 1048576 [(.int .i64 ac)] 1 false true (fun ad=>(Aa N ad 4 b 6 3 ab (fun g=>(cond (Nat.ble 2 ((((c.drop ((b.toNat)*9)).take 9).drop 7).length)) (cond ((!e)||(Az ((((c.drop ((b.toNat)*9)).take 9).drop 7).take 2))) (J9 N ((((c.drop ((b.toNat)*9)).take 9).drop 7).take 2) false (fun ae=>(cond (ae==true) (Ap .i64 (((c.drop ((b.toNat)*9)).take 9).drop 7) fun af=>(cond ((cond true (decide (af>0)) false)==true) (Ap .i64 (((c.drop ((b.toNat)*9)).take 9).drop 7) fun ag=>(Ap .i64 (((c.drop ((b.toNat)*9)).take 9).drop 8) fun ah=>(Aa N (cond true (decide (ag≤ah)) false) 4 b 7 3 g (fun ai=>(r0 ai))))) (Aa N false 4 b 7 3 g (fun aj=>(r0 aj))))) (Aa N false 4 b 7 3 g (fun ak=>(r0 ak)))))) none) none))))))))))))))))))))))))))))))) none))) none) none) none) none))
def Kc:=(Ag (@T0 R)).1
theorem Xc:@Kc R=@T0 R:=(Ag _).2
def ib:F2:=[(159,Fo N),(225,M8 N),(162,Dw N),(161,Bx N),(226,YB N)]
def A_ (F:KF R):LA→O R:=(fun al=>F (.tup []) [(100000,(bQ 0 al))])
theorem BA (d:LA) (e:Bool) (b:Int) (f:LA) (F:KF R):Cw (ib N) Cr N 165 [(.optr 100000 0),(.pagg d e),(iv b)] [(100000,(bQ 0 f))] F=(Kc N d e b f (A_ F)):=by
 rw[Xc]
 kernel_rfl
def Xd (a:LA) (h:Aj) (k:KF R):O R :=
 match a,h with
 | [(.optr 100000 0),(.pagg d e),(.int .i64 b)],[(100000,⟨false,false,true,false,0,f,false,none⟩)]=>(Kc N d e b f (A_ k))
 | _,_=>none
theorem BB:An N 165 @Xd:=by
 intro R Q a h k j;unfold Xd;split;exact A2 (BA ..) (BA ..) ⟨Fp N,M9 N,Dx N,By N,YC N,trivial⟩;exact A4
def dz:=A3 (BB N)
def eA:=Cz (BB N)
def X6 (c:LA) (d:Bool) (b:Int) (e:LA) (r0:LA→O R):O R :=
 (Br 5 (c.drop 6) fun f g=>(cond (Ae b g) (cond (Nat.ble 5 ((f.drop ((b.toNat)*5)).length)) (cond ((Nat.beq 0 0)&&((Nat.beq (((f.drop ((b.toNat)*5)).take 5).length) 5)&&(Nat.beq 5 5))) (cond (Nat.ble 8 (c.length)) (Cs N (c.take 8) d 5 b e (fun i=>(cond (Nat.ble 8 (c.length)) (Ap .i64 (((f.drop ((b.toNat)*5)).take 5).drop 1) fun l=>(Ek N (c.take 8) d l 5 b 1 i (fun m=>(cond (Nat.ble 8 (c.length)) (Br 1 (((f.drop ((b.toNat)*5)).take 5).drop 2) fun n o=>(C5 N (c.take 8) d n o false d 0 1048576 5 b 2 m (fun p=>(cond (Nat.ble 8 (c.length)) (Br 1 (((f.drop ((b.toNat)*5)).take 5).drop 3) fun q r=>(C5 N (c.take 8) d q r false d 0 1048576 5 b 3 p (fun s=>(cond (Nat.ble 8 (c.length)) (Br 1 (((f.drop ((b.toNat)*5)).take 5).drop 4) fun t u=>(C5 N (c.take 8) d t u false d (-1048576) 1048576 5 b 4 s (fun v=>(r0 v)))) none)))) none)))) none)))) none))) none) none) none) none))
def Nz:=(Ag (@X6 R)).1
theorem DP:@Nz R=@X6 R:=(Ag _).2
def pX:F2:=[(159,Fo N),(225,M8 N),(160,On N)]
def HS (F:KF R):LA→O R:=(fun w=>F (.tup []) [(100000,(bQ 0 w))])
theorem HT (c:LA) (d:Bool) (b:Int) (e:LA) (F:KF R):Cw (pX N) Cr N 166 [(.optr 100000 0),(.pagg c d),(iv b)] [(100000,(bQ 0 e))] F=(Nz N c d b e (HS F)):=by
 rw[DP]
 kernel_rfl
def DQ (a:LA) (h:Aj) (k:KF R):O R :=
 match a,h with
 | [(.optr 100000 0),(.pagg c d),(.int .i64 b)],[(100000,⟨false,false,true,false,0,e,false,none⟩)]=>(Nz N c d b e (HS k))
 | _,_=>none
theorem HU:An N 166 @DQ:=by
 intro R Q a h k j;unfold DQ;split;exact A2 (HT ..) (HT ..) ⟨Fp N,M9 N,Oo N,trivial⟩;exact A4
def m7:=A3 (HU N)
def m8:=Cz (HU N)
end
end Gx

namespace Gx.Cf
open Go Go.Proofs
section
variable {R:Type}
theorem NE {p:Df} {f:Int→O R}:Ap .i64 (List.drop 3 (Ds p)) f=f (Bp p):=by
 rcases p with _ | ⟨⟨a,b,c⟩,e,d⟩<;>simp[Ds,OR,A6,Bp]
theorem Ot {N:Nat} {i:Int} {u:UnitD} {o:Bool} {p:Df} {K:LA→O R} (hs:u.segs.l.length<4611686018427387904):∀ (m j fuel:Nat) (a:Int),j+m=u.segs.l.length→m<fuel →
  Dr N K i (Ds p) o u.av fuel a (j:Int)=K (Ds (nd p (aX a (u.segs.l.drop j)==IntKind.wrap .i64 (u.max - u.min)) (3,i,4) e4))
 | 0,j,fuel+1,a,c,_=>by
  rw[Dr];unfold Gl
  simp only[ND,A2x,A2y,NE,Af (show(4:Int)≠0 by decide)]
  rw[Jf (by omega),C9 (l:=u.segs.l) (by omega),aX,Gi]
  rcases p with _ | ⟨x,e,b⟩
  ·simp[Bp]
  ·have:(e != 0)=true:=by simpa using b
   simp[Bp,this,nd]
 | m+1,j,fuel+1,a,c,k=>by
  rw[Dr];unfold Gl
  have h:j<u.segs.l.length:=by omega
  simp only[ND,A2x,A2y,NE,Af (show(4:Int)≠0 by decide),A4v h,Ab h]
  rw[Hy h,Bo (by omega),Ot hs m (j+1) fuel _ (by omega) (by omega),Cd h,aX,Gi]
  rcases p with _ | ⟨x,e,b⟩
  ·simp[Bp]
  ·have d:(e != 0)=true:=by simpa using b
   have f:(e==0)=false:=by simpa using b
   simp[Bp,d,f,nd]
theorem Xe {N:Nat} {i:Int} {u:UnitD} {o:Bool} {K:LA→O R} (hs:E2 u.segs.l.length N):∀ (m j fuel:Nat) (p:Df),j+1+m=u.segs.l.length→m<fuel →
  Ct N K i o u.av fuel ((j+1:Nat):Int) (Ds p)=K (Ds (nd (nd p (dy (u.segs.l.drop j)) (3,i,4) A4t) (aX 0 u.segs.l==IntKind.wrap .i64 (u.max - u.min)) (3,i,4) e4))
 | 0,j,fuel+1,p,b,_=>by
  rw[Ct];unfold Eg
  rw[ND,Jf (by omega),cf,Cd (l:=u.segs.l) (j:=j) (by omega),C9 (l:=u.segs.l) (j:=j+1) (by omega),pU,Gi]
  have:=Ot (R:=R) (N:=N) (i:=i) (u:=u) (o:=o) (p:=p) (K:=K) hs.2 u.segs.l.length 0 N 0 (by omega) hs.1
  simpa using this
 | m+1,j,fuel+1,p,b,d=>by
  rw[Ct];unfold Eg
  have h:j+1<u.segs.l.length:=by omega
  have h':j<u.segs.l.length:=by omega
  have c:=hs.2
  simp only[ND]
  rw[Hy h,ct,Ab h,ct,gg h,pR (by omega),Ab h',ct,gg h',Bo (by omega),Af (by decide),Xe hs m (j+1) fuel _ (by omega) (by omega),Cd h',Cd h,HP,Rp]
theorem Xf {N:Nat} {i:Int} {u:UnitD} {o:Bool} {K:LA→O R} (hN:8≤N) (hs:E2 u.segs.l.length N):∀ (m j fuel:Nat) (p:Df),j+m=u.segs.l.length→m<fuel →
  Cu N K i (u.segs.l.flatMap SegD.av) u.segs.l.length o u.av fuel (u.segs.l.length:Int) (j:Int) (Ds p) =
   K (Ds (nd (nd (nd p ((u.segs.l.drop j).all vf) (3,i,4) e3) (dy u.segs.l) (3,i,4) A4t) (aX 0 u.segs.l==IntKind.wrap .i64 (u.max - u.min)) (3,i,4) e4))
 | 0,j,fuel+1,p,d,_=>by
  rw[Cu];unfold Gm
  rw[Jf (by omega),cf,C9 (l:=u.segs.l) (by omega),List.all_nil,Gi]
  rcases c:u.segs.l with _ | ⟨b,r⟩
  ·rw[Adt,Gi]
   have l2:=Ot (R:=R) (N:=N) (i:=i) (u:=u) (o:=o) (p:=p) (K:=K) hs.2 u.segs.l.length 0 N 0 (by omega) hs.1
   rcases N with _ | N
   ·omega
   ·dsimp only
    rw[Ct];unfold Eg
    rw[ND,c]
    simp only[List.length_nil,Int.natCast_zero]
    rw[show decide ((1:Int)<0)=false by decide,cf]
    rw[c] at l2
    simpa using l2
  ·have:=Xe (R:=R) (N:=N) (i:=i) (u:=u) (o:=o) (K:=K) hs r.length 0 N p (by rw[c];simp;omega) (by have:=hs.1;rw[c] at this;simp at this;omega)
   rw[c] at this
   simpa using this
 | m+1,j,fuel+1,p,d,n=>by
  rw[Cu];unfold Gm
  have h:j<u.segs.l.length:=by omega
  have e:=hs.2
  rw[Hy h,ct,Ab h,ct,Int.toNat_natCast,At Pw _ _ h,Cd h,List.all_cons,Bo (by omega)]
  have f:Nat.ble 2 (List.length (u.segs.l[j].av++List.flatMap SegD.av (List.drop (j+1) u.segs.l)))=true:=by rw[Bs,List.length_append,Pw];simp
  have k:List.take 2 (u.segs.l[j].av++List.flatMap SegD.av (List.drop (j+1) u.segs.l))=u.segs.l[j].av:=List.take_left' (Pw _)
  rw[f,ct,k,Pw]
  simp only[SegD.av,setCells,C4,List.nil_append,List.append_nil,List.drop_nil,List.drop_succ_cons,List.drop_zero,List.take_zero,List.length_cons,List.length_nil,A6,Bs,IT,Az,Nat.reduceAdd,decide_true,Bool.and_true,Bool.or_true,Bool.not_false,cond_true,Nat.zero_add,Nat.le_refl,El hN,Af (show(3:Int)≠0 by decide),Xf hN hs m (j+1) fuel _ (show j+1+m=_ by omega) (show m<fuel by omega)]
  unfold vf
  rw[Rp,Rp]
  cases Fm 1 1048576 u.segs.l[j].width<;>rfl
theorem IU {N:Nat} {p:Df} {j:Nat} {u:UnitD} {o:Bool} {K:LA→O R} (hN:8≤N) (hs:E2 u.segs.l.length N) :
  Dz N u.av o (j:Int) (Ds p) K=K (Ds (Auu u j p)):=by
 rw[Sh];unfold Je
 simp only[ND,Af (show(8:Int)≠0 by decide)]
 have:=Xf (R:=R) (N:=N) (i:=j) (u:=u) (o:=o) (K:=K) hN hs u.segs.l.length 0 N (nd p (decide ((u.segs.l.length:Int)≤8)) (3,j,4) e8) (by omega) hs.1
 simpa[Auu] using this
theorem BC {N:Nat} {i:Int} {l:List MoveD} {o:Bool} {K:LA→O R} (hN:8≤N) (hs:l.length<4611686018427387904):∀ (m j fuel:Nat) (p:Df),j+m=l.length→m<fuel →
  D9 N K i (l.flatMap MoveD.av) l.length o fuel (l.length:Int) (j:Int) (Ds p)=K (Ds (nd p ((l.drop j).all Apf) (6,i,3) e3))
 | 0,j,fuel+1,p,b,_=>by
  rw[D9];unfold Ho
  rw[Jf (by omega),cf,C9 (by omega),List.all_nil,Gi]
 | m+1,j,fuel+1,p,b,e=>by
  rw[D9];unfold Ho
  have h:j<l.length:=by omega
  rw[Hy h,ct,Ab h,ct,Int.toNat_natCast,At Ey _ _ h,Cd h,List.all_cons,Bo (by omega)]
  have c:Nat.ble 3 (List.length (l[j].av++List.flatMap MoveD.av (List.drop (j+1) l)))=true:=by rw[Bs,List.length_append,Ey];simp
  have d:List.take 3 (l[j].av++List.flatMap MoveD.av (List.drop (j+1) l))=l[j].av:=List.take_left' (Ey _)
  rw[c,ct,d,Ey]
  simp only[MoveD.av,setCells,C4,List.nil_append,List.append_nil,List.drop_nil,List.drop_succ_cons,List.drop_zero,List.take_zero,List.length_cons,List.length_nil,A6,Bs,IT,Az,Nat.reduceAdd,decide_true,Bool.and_true,Bool.or_true,Bool.not_false,cond_true,Nat.zero_add,Nat.le_refl,yZ hN,Af (show(3:Int)≠0 by decide),BC hN hs m (j+1) fuel _ (show j+1+m=_ by omega) (show m<fuel by omega)]
  rw[Rp];rfl
theorem BD {N:Nat} {c:CaseD} {i:Int} {u:OutD} {o:Bool} {p:Df} {K:LA→O R} (hN:8≤N) (b:c.units.l.length≤1000000) (hs:E2 u.moves.l.length N) (d:u.moves.l.length<8796093022208):∀ (m j fuel:Nat),j+m=u.moves.l.length→m<fuel →
  Ea N K i (u.moves.l.flatMap MoveD.av) u.moves.l.length o (Ds p) c.av u.av fuel j (u.moves.l.length:Int) (j:Int) (Aq ((u.moves.l.take j).map (·.unit))) =
   K (Ds (nd (nd (nd p (u.moves.l.all (Az5 c)) (6,i,3) Ax5) (pQ (u.moves.l.map (·.unit))) (6,i,3) A4t) (u.moves.l.all Apf) (6,i,3) e3))
 | 0,j,fuel+1,f,_=>by
  rw[Ea];unfold Hp
  have k:j=u.moves.l.length:=by omega
  rw[Jf (by omega),cf,Nat.mul_one,List.take_of_length_le (by simp[Et];omega),List.take_of_length_le (show u.moves.l.length≤j by omega)]
  rw[C2,Im (by simp;omega) (by simpa using hs),Af (by decide),CG (by simp;omega) (by simpa using hs),Af (by decide),zG]
  have:=BC (R:=R) (N:=N) (i:=i) (l:=u.moves.l) (o:=o) (K:=K) hN hs.2 u.moves.l.length 0 N (nd (nd p (u.moves.l.all (Az5 c)) (6,i,3) Ax5) (pQ (u.moves.l.map (·.unit))) (6,i,3) A4t) (by omega) hs.1
  have e:(u.moves.l.map (·.unit)).all (Fm 0 (IntKind.wrap .i64 ((c.units.l.length:Int) - 1)))=u.moves.l.all (Az5 c):=by
   rw[List.all_map];congr 1;funext m;exact Az3 _ _ (by omega)
  rw[e]
  simpa using this
 | m+1,j,fuel+1,f,v=>by
  rw[Ea];unfold Hp
  have h:j<u.moves.l.length:=by omega
  have n:Nat.ble 3 (List.length (u.moves.l[j].av++List.flatMap MoveD.av (List.drop (j+1) u.moves.l)))=true:=by rw[Bs,List.length_append,Ey];simp
  have q:List.take 3 (u.moves.l[j].av++List.flatMap MoveD.av (List.drop (j+1) u.moves.l))=u.moves.l[j].av:=List.take_left' (Ey _)
  have s:(decide (j≤140737488355327)&&decide ((j+1)*8≤140737488355328))=true:=by simp;omega
  have t:List.take (j*1) (Aq ((u.moves.l.take j).map (·.unit)))++[.int .i64 u.moves.l[j].unit]=Aq ((u.moves.l.take (j+1)).map (·.unit)):=by
   rw[List.take_of_length_le (by simp[Et];omega),List.take_succ_eq_append_getElem h,List.map_append,←bZ];rfl
  rw[Hy h,ct,Ab h,ct,Int.toNat_natCast,At Ey _ _ h,Bo (by omega),n,ct,q,Ey]
  simp only[MoveD.av,setCells,C4,List.nil_append,List.append_nil,List.drop_nil,List.drop_succ_cons,List.take_zero,List.length_cons,List.length_nil,A6,Bs,IT,Az,Nat.reduceAdd,Nat.reduceLeDiff,decide_true,Bool.and_true,Bool.or_true,Bool.not_false,cond_true,Nat.zero_add,Nat.le_refl,s,t,BD hN b hs d m (j+1) fuel (show j+1+m=_ by omega) (show m<fuel by omega)]
theorem eB {N:Nat} {c:CaseD} {p:Df} {o:Bool} {j:Nat} {K:LA→O R} (hs:Small c N) (h:j<c.ties.l.length) :
  Nz N c.av o (j:Int) (Ds p) K=K (Ds (Aus c j c.ties.l[j] p)):=by
 have hN:=hs.n64
 have hN8:8≤N:=by omega
 have d:=hs.tie
 have s:=hs.top
 have f:c.ties.l[j] ∈ c.ties.l:=List.getElem_mem h
 have t:=hs.tim _ f;have i:=hs.tex _ f;have m:=hs.tpr _ f
 have e:=@Eb R N c (c.ties.l.map (·.name)) o (k:=5) (n:=j) (hN:=hN) (hL:=fun K=>Adv hs) (hn:=by simpa using h) (hs:=⟨by have:=d.1;omega,by have:=d.2;omega⟩)
 have q:(c.ties.l.map (·.name))[j]'(by simpa using h)=c.ties.l[j].name:=by simp
 rw[q] at e
 rw[DP];unfold X6 
 rw[TX,Ab h,ct,Int.toNat_natCast,At Lv _ _ h]
 generalize c.ties.l[j]=b at *
 have u:Nat.ble 5 (List.length (b.av++List.flatMap TieD.av (List.drop (j+1) c.ties.l)))=true:=by rw[Bs,List.length_append,Lv];simp
 have v:List.take 5 (b.av++List.flatMap TieD.av (List.drop (j+1) c.ties.l))=b.av:=List.take_left' (Lv b)
 rw[u,ct,v,Lv]
 simp only[B6,e,TieD.av,List.drop_succ_cons,List.drop_zero,A6,Ed,Fl,Bs,IT,decide_true,Bool.and_true,cond_true]
 simp only[Ka hN8 (show c.buses.l.length<4611686018427387904 by omega),Ew rfl t,Ew rfl i,Ew rfl m]
 rfl
theorem UD {N:Nat} {c:CaseD} {p:Df} {o:Bool} {j:Nat} {K:LA→O R} (hs:Small c N) (h:j<c.stores.l.length) :
  Kc N c.av o (j:Int) (Ds p) K=K (Ds (NC c j c.stores.l[j] p)):=by
 have hN:=hs.n64
 have hN8:8≤N:=by omega
 have d:=hs.sto
 have i:=hs.top
 have s:c.stores.l[j] ∈ c.stores.l:=List.getElem_mem h
 skip
 have e:=@Eb R N c (c.stores.l.map (·.name)) o (k:=4) (n:=j) (hN:=hN) (hL:=fun K=>pW hs) (hn:=by simpa using h) (hs:=⟨by have:=d.1;omega,by have:=d.2;omega⟩)
 have f:(c.stores.l.map (·.name))[j]'(by simpa using h)=c.stores.l[j].name:=by simp
 rw[f] at e
 rw[Xc];unfold T0 
 rw[X5,Ab h,ct,Int.toNat_natCast,At Ga _ _ h]
 generalize c.stores.l[j]=b at *
 have m:Nat.ble 9 (List.length (b.av++List.flatMap StoreD.av (List.drop (j+1) c.stores.l)))=true:=by rw[Bs,List.length_append,Ga];simp
 have q:List.take 9 (b.av++List.flatMap StoreD.av (List.drop (j+1) c.stores.l))=b.av:=List.take_left' (Ga b)
 rw[m,ct,q,Ga]
 simp only[B6,e,StoreD.av,List.drop_succ_cons,List.drop_zero,List.take_succ_cons,List.take_zero,List.length_cons,List.length_nil,A6,Bs,IT,Az,Nat.reduceAdd,decide_true,Bool.and_true,Bool.or_true,cond_true,Nat.zero_add,Nat.le_refl]
 simp only[Ka hN8 (show c.buses.l.length<4611686018427387904 by omega),El hN8,Af (show(3:Int)≠0 by decide),KY hN8]
 unfold NC;cases K3 b.eff<;>cases decide (b.eff.num>0)<;>rfl
theorem aY {N:Nat} {c:CaseD} {p:Df} {o:Bool} {j:Nat} {K:LA→O R} (hs:Small c N) (h:j<c.lines.l.length) :
  In N c.av o (j:Int) (Ds p) K=K (Ds (KZ c j c.lines.l[j] p)):=by
 have hN:=hs.n64
 have hN8:8≤N:=by omega
 have d:=hs.lin
 have i:=hs.top
 have m:c.lines.l[j] ∈ c.lines.l:=List.getElem_mem h
 have q:=hs.law _ m
 have e:=@Eb R N c (c.lines.l.map (·.name)) o (k:=2) (n:=j) (hN:=hN) (hL:=fun K=>vg hs) (hn:=by simpa using h) (hs:=⟨by have:=d.1;omega,by have:=d.2;omega⟩)
 have f:(c.lines.l.map (·.name))[j]'(by simpa using h)=c.lines.l[j].name:=by simp
 rw[f] at e
 rw[AW];unfold O2 Lh Py Rv Px Ru
 rw[Ef,Ab h,ct,Int.toNat_natCast,At Ce _ _ h]
 generalize c.lines.l[j]=b at *
 have s:Nat.ble 12 (List.length (b.av++List.flatMap LineD.av (List.drop (j+1) c.lines.l)))=true:=by rw[Bs,List.length_append,Ce];simp
 have t:List.take 12 (b.av++List.flatMap LineD.av (List.drop (j+1) c.lines.l))=b.av:=List.take_left' (Ce b)
 rw[s,ct,t,Ce]
 simp only[B6,e,LineD.av,List.drop_succ_cons,List.drop_zero,List.take_succ_cons,List.take_zero,List.length_cons,List.length_nil,A6,Ed,Fl,Bs,IT,Az,Nat.reduceAdd,Nat.reduceLeDiff,decide_true,Bool.and_true,Bool.or_true,cond_true,Nat.zero_add]
 simp only[Ka hN8 (show c.buses.l.length<4611686018427387904 by omega),El hN8,Af (show(1:Int)≠0 by decide),Af (show(3:Int)≠0 by decide),KY hN8,Xa rfl q]
 unfold KZ;rw[show(b.fr != b.tl)=(b.tl != b.fr) by simp[bne,BEq.comm (a:=b.fr)]];cases K3 b.re<;>cases K3 b.smin<;>cases K3 b.smax<;>rfl
end
end Gx.Cf

namespace Gx.Cf
open Go Go.Proofs
section
variable {R:Type}
def A2z (c:CaseD) (j:Nat) (u:UnitD) (p:Df):Df :=
 let p:=Lu ((c.units.l.map (·.name)).take j) 3 j u.name p
 let p:=nd p (jn c u.bus) (3,j,1) Ax5
 let p:=nd p (Fm 0 1048576 u.min) (3,j,2) e3
 let p:=nd p (Fm u.min 1048576 u.max) (3,j,3) e3
 let p:=Auu u j p
 let p:=nd p (Fm 0 1048576 u.noLoad) (3,j,5) e3
 let p:=nd p (Fm 0 1048576 u.rampUp) (3,j,6) e3
 let p:=nd p (Fm 0 1048576 u.rampDown) (3,j,7) e3
 let p:=nd p (Fm u.min u.max u.startRamp) (3,j,8) e3
 let p:=nd p (Fm u.min u.max u.stopRamp) (3,j,9) e3
 let p:=nd p (Fm 0 24 u.upTime) (3,j,10) e3
 nd p (Fm 0 24 u.downTime) (3,j,11) e3
def A67 (c:CaseD) (j:Nat) (u:UnitD) (p:Df):Df :=
 let p:=nd p (Fm 0 24 u.startTime) (3,j,12) e3
 let p:=nd p (Fm 0 1048576 u.hotCost) (3,j,13) e3
 let p:=nd p (Fm 0 1048576 u.coldCost) (3,j,14) e3
 let p:=nd p (Fm 0 24 u.hotHours) (3,j,15) e3
 let p:=nd p (Fm 0 1048576 u.reserve) (3,j,16) e3
 let p:=nd p (Fm 0 1048576 u.reservePrice) (3,j,17) e3
 let p:=pT c.hours u.away.l (3,j,18) p
 let p:=nd p (Fm 0 2 u.state) (3,j,19) Ax5
 let p:=nd p (u.state != 1||decide (u.startTime>0)) (3,j,19) Bbx
 let p:=nd p (Fm 1 48 u.hours) (3,j,20) e3
 let p:=nd p (u.state != 1||decide (u.hours≤u.startTime)) (3,j,20) e3
 cond (u.state==2) (nd p (Fm u.min u.max u.output) (3,j,21) e3) (nd p (u.output==0) (3,j,21) e3)
theorem Bba (n:Int):Fm 0 0 n=(n==0):=by
 unfold Fm
 by_cases h:n=0
 ·simp[h]
 ·have:(n==0)=false:=by simpa using h
  rw[this];simp;omega
theorem A8u {c:CaseD} {j:Nat} {u:UnitD} {p:Df}:A67 c j u (A2z c j u p)=QA c j u p:=by
 show _=(let p:=nd (A2z c j u p) (Fm 0 24 u.startTime) (3,j,12) e3
  let p:=nd p (Fm 0 1048576 u.hotCost) (3,j,13) e3
  let p:=nd p (Fm 0 1048576 u.coldCost) (3,j,14) e3
  let p:=nd p (Fm 0 24 u.hotHours) (3,j,15) e3
  let p:=nd p (Fm 0 1048576 u.reserve) (3,j,16) e3
  let p:=nd p (Fm 0 1048576 u.reservePrice) (3,j,17) e3
  let p:=pT c.hours u.away.l (3,j,18) p
  let p:=nd p (Fm 0 2 u.state) (3,j,19) Ax5
  let p:=nd p (u.state != 1||u.startTime != 0) (3,j,19) Bbx
  let p:=nd p (Fm 1 48 u.hours) (3,j,20) e3
  let p:=nd p (u.state != 1||decide (u.hours≤u.startTime)) (3,j,20) e3
  cond (u.state==2) (nd p (Fm u.min u.max u.output) (3,j,21) e3) (nd p (Fm 0 0 u.output) (3,j,21) e3))
 unfold A67
 rw[Bba]
 cases hq:nd (A2z c j u p) (Fm 0 24 u.startTime) (3,(j:Int),12) e3 with
 | some x=>simp only[SZ,pT]
 | none =>
  have b:Fm 0 24 u.startTime=true:=by
   cases d:Fm 0 24 u.startTime with
   | true=>rfl
   | false =>
    rw[d] at hq
    cases e:A2z c j u p<;>rw[e] at hq<;>simp[nd] at hq
  have:decide (u.startTime>0)=(u.startTime != 0):=by
   unfold Fm at b
   simp at b
   by_cases h:u.startTime=0
   ·simp[h]
   ·have f:(u.startTime != 0)=true:=by simpa using h
    rw[f];simp;omega
  rw[this]
theorem aZ {N:Nat} {c:CaseD} {p:Df} {o:Bool} {j:Nat} {K:LA→O R} (hs:Small c N) (h:j<c.units.l.length) :
  Io N c.av o (j:Int) (Ds p) K=K (Ds (QA c j c.units.l[j] p)):=by
 have hN:=hs.n64
 have hN8:8≤N:=by omega
 have d:=hs.uni
 have q:=hs.top
 have s:c.units.l[j] ∈ c.units.l:=List.getElem_mem h
 have t:=hs.seg _ s;have f:=hs.uaw _ s
 have e:=@Eb R N c (c.units.l.map (·.name)) o (k:=3) (n:=j) (hN:=hN) (hL:=fun K=>vh hs) (hn:=by simpa using h) (hs:=⟨by have:=d.1;omega,by have:=d.2;omega⟩)
 have i:(c.units.l.map (·.name))[j]'(by simpa using h)=c.units.l[j].name:=by simp
 rw[i] at e
 rw[AY];unfold O3 Li P2 Rx
 rw[C2,Ab h,ct,Int.toNat_natCast,At Cg _ _ h]
 generalize c.units.l[j]=b at *
 have u:Nat.ble 22 (List.length (b.av++List.flatMap UnitD.av (List.drop (j+1) c.units.l)))=true:=by rw[Bs,List.length_append,Cg];simp
 have v:List.take 22 (b.av++List.flatMap UnitD.av (List.drop (j+1) c.units.l))=b.av:=List.take_left' (Cg b)
 rw[u,ct,v,Cg]
 have m:∀ (p:Df) (K:LA→O R),Dz N [.str b.name,.int .i64 b.bus,.int .i64 b.min,.int .i64 b.max,b.segs.av 2 SegD.av,.int .i64 b.noLoad,.int .i64 b.rampUp,.int .i64 b.rampDown,.int .i64 b.startRamp,.int .i64 b.stopRamp,.int .i64 b.upTime,.int .i64 b.downTime,.int .i64 b.startTime,.int .i64 b.hotCost,.int .i64 b.coldCost,.int .i64 b.hotHours,.int .i64 b.reserve,.int .i64 b.reservePrice,b.away.av 1 IS,.int .i64 b.state,.int .i64 b.hours,.int .i64 b.output] o j (Ds p) K=K (Ds (Auu b j p)):=fun p K=>IU hN8 t
 simp only[B6,e,UnitD.av,List.drop_succ_cons,List.drop_zero,List.take_succ_cons,List.take_zero,A6,Ed,Fl,Bs,IT,decide_true,Bool.and_true,cond_true,cond_false,Nat.le_refl]
 simp only[Ka hN8 (show c.buses.l.length<4611686018427387904 by omega),El hN8,Af (show(3:Int)≠0 by decide),Af (show(12:Int)≠0 by decide),Af (show(16:Int)≠0 by decide),m,Xa rfl f]
 rw[←A8u]
 unfold A67
 by_cases s1:b.state=1
 ·simp[s1];rfl
 ·have a4:(b.state != 1)=true:=by simpa using s1
  rw[a4]
  cases b.state==2<;>rfl
theorem QM {N:Nat} {c:CaseD} {p:Df} {o:Bool} {j:Nat} {K:LA→O R} (hs:Small c N) (h:j<c.outs.l.length) :
  F7 N c.av o (j:Int) (Ds p) K=K (Ds (tO c j c.outs.l[j] p)):=by
 have hN:=hs.n64
 have hN8:8≤N:=by omega
 have d:=hs.out
 have e:=hs.top
 have q:c.outs.l[j] ∈ c.outs.l:=List.getElem_mem h
 have v:=hs.oli _ q;have f:=hs.omo _ q;have s:=hs.omb _ q
 have m:=@Eb R N c (c.outs.l.map (·.name)) o (k:=6) (n:=j) (hN:=hN) (hL:=fun K=>Adw hs) (hn:=by simpa using h) (hs:=⟨by have:=d.1;omega,by have:=d.2;omega⟩)
 have t:(c.outs.l.map (·.name))[j]'(by simpa using h)=c.outs.l[j].name:=by simp
 rw[t] at m
 rw[Vv];unfold Lg Jd Na
 rw[Zh,Ab h,ct,Int.toNat_natCast,At Dk _ _ h]
 generalize c.outs.l[j]=b at *
 have x:Nat.ble 4 (List.length (b.av++List.flatMap OutD.av (List.drop (j+1) c.outs.l)))=true:=by rw[Bs,List.length_append,Dk];simp
 have y:List.take 4 (b.av++List.flatMap OutD.av (List.drop (j+1) c.outs.l))=b.av:=List.take_left' (Dk b)
 rw[x,ct,y,Dk]
 have l1:=fun p=>BD (R:=R) (N:=N) (c:=c) (i:=j) (u:=b) (o:=o) (p:=p) (K:=K) hN8 e.2.2.1 f s b.moves.l.length 0 N (by omega) f.1
 simp only[List.take_zero,List.map_nil,Int.natCast_zero,Aq] at l1
 simp only[IT,decide_true,Bool.and_true,cond_true,D8,B6,m,pV,zG,A66,El hN8,Im rfl v,CG rfl v,Ef,Af (show(4:Int)≠0 by decide),Af (show(8:Int)≠0 by decide),Af (show(11:Int)≠0 by decide),Af (show(12:Int)≠0 by decide),Af (show(16:Int)≠0 by decide),l1]
 have a1:Fm 1 2 (b.lines.l.length:Int)=((b.lines.l.length:Int)==1||(b.lines.l.length:Int)==2):=by
  unfold Fm
  by_cases x1:b.lines.l.length=1
  ·simp[x1]
  ·by_cases x2:b.lines.l.length=2
   ·simp[x2]
   ·have y1:((b.lines.l.length:Int)==1)=false:=by simp;omega
    have y2:((b.lines.l.length:Int)==2)=false:=by simp;omega
    rw[y1,y2];simp;omega
 have a2:b.lines.l.all (Fm 0 (IntKind.wrap .i64 ((c.lines.l.length:Int) - 1)))=b.lines.l.all fun n=>decide (0≤n)&&decide (n<(c.lines.l.length:Int)):=by
  congr 1;funext n;exact Az3 _ _ (by omega)
 rw[a1,a2]
 unfold tO tN
 cases b.corr
 ·simp
 ·simp
end
end Gx.Cf

namespace Gx.Cf
inductive Conn (es:List (Nat×Nat)):Nat→Nat→Prop
 | refl (a:Nat):Conn es a a
 | fwd {u v b:Nat}:(u,v) ∈ es→Conn es v b→Conn es u b
 | bwd {u v b:Nat}:(u,v) ∈ es→Conn es u b→Conn es v b
theorem Conn.trans {es:List (Nat×Nat)} {a b c:Nat} (i:Conn es a b) (d:Conn es b c):Conn es a c:=by
 induction i with
 | refl=>exact d
 | fwd e _ f=>exact .fwd e (f d)
 | bwd e _ f=>exact .bwd e (f d)
theorem Conn.symm {es:List (Nat×Nat)} {a b:Nat} (h:Conn es a b):Conn es b a:=by
 induction h with
 | refl=>exact .refl _
 | fwd c _ d=>exact d.trans (.bwd c (.refl _))
 | bwd c _ d=>exact d.trans (.fwd c (.refl _))
theorem Conn.mono {es fs:List (Nat×Nat)} (hs:∀ e ∈ es,e ∈ fs) {a b:Nat} (h:Conn es a b):Conn fs a b:=by
 induction h with
 | refl=>exact .refl _
 | fwd c _ d=>exact .fwd (hs _ c) d
 | bwd c _ d=>exact .bwd (hs _ c) d
def Sj (es:List (Nat×Nat)) (b:Nat):Prop:=∀ a,a<b→¬ Conn es a b
open Classical in
noncomputable def Jn (n:Nat) (es:List (Nat×Nat)):Nat:=((List.range n).filter fun b=>decide (Sj es b)).length
theorem Az6 {n:Nat} {es fs:List (Nat×Nat)} (h:∀ e ∈ es,e ∈ fs):Jn n fs≤Jn n es:=by
 unfold Jn
 have:∀ (l:List Nat),(l.filter fun b=>@decide (Sj fs b) (Classical.propDecidable _)).length≤(l.filter fun b=>@decide (Sj es b) (Classical.propDecidable _)).length:=by
  intro l
  induction l with
  | nil=>simp
  | cons a r c =>
   rw[List.filter_cons,List.filter_cons]
   by_cases x:Sj fs a
   ·have:Sj es a:=fun b d f=>x b d (f.mono h)
    simp[x,this,c]
   ·by_cases y:Sj es a<;>simp[x,y]<;>omega
 exact this _
def Ft (n:Nat):List Int:=(List.range n).map fun b:Nat=>(b:Int)
structure UfOk (n:Nat) (es:List (Nat×Nat)) (st:List Int×Int):Prop where
 len:st.1.length=n
 iff:∀ a b,a<n→b<n→(st.1.getD a 0=st.1.getD b 0↔Conn es a b)
 cnt:st.2=(Jn n es:Int)
theorem gh {n a:Nat} (h:a<n):(Ft n).getD a 0=(a:Int):=by
 rw[List.getD_eq_getElem?_getD,Ft,List.getElem?_map,List.getElem?_range h];rfl
structure LeastOk (n:Nat) (es:List (Nat×Nat)) (L:List Int):Prop where
 len:L.length=n
 low:∀ b,b<n→0≤L.getD b 0∧L.getD b 0≤b
 con:∀ b,b<n→Conn es (L.getD b 0).toNat b
def A20 (es:List (Nat×Nat)) (L:List Int):Prop:=∀ e ∈ es,L.getD e.1 0=L.getD e.2 0
def A8v (L:List Int):Nat:=((List.range L.length).filter fun b=>L.getD b 0==(b:Int)).length
theorem vj {n:Nat} {es:List (Nat×Nat)} {L:List Int} (h:LeastOk n es L) (j:A20 es L) (k:∀ e ∈ es,e.1<n∧e.2<n):A8v L=Jn n es:=by
 unfold A8v Jn
 rw[h.len]
 congr 1
 apply List.filter_congr
 intro b d
 have d:b<n:=by simpa using d
 have conn_eq:∀ a b,Conn es a b→L.getD a 0=L.getD b 0:=by
  intro a b f
  induction f with
  | refl=>rfl
  | fwd c _ i=>exact(j _ c).trans i
  | bwd c _ i=>exact(j _ c).symm.trans i
 have l:=h.low b d
 by_cases x:L.getD b 0=(b:Int)
 ·have:Sj es b:=fun a m f=>by
   have e:=conn_eq a b f
   have:=(h.low a (by omega)).2
   omega
  have x':(L.getD b 0==(b:Int))=true:=by simpa using x
  rw[x'];simp[this]
 ·have x':(L.getD b 0==(b:Int))=false:=by simpa using x
  have:¬ Sj es b:=fun c=>c (L.getD b 0).toNat (by omega) (h.con b d)
  rw[x'];simp[this]
end Gx.Cf

namespace Gx.Cf
open Go Go.Proofs
section
variable {R:Type}
theorem UE {l:List Int} {j:Nat} (h:j<l.length):l.getD j 0=l[j]:=by rw[List.getD_eq_getElem?_getD,List.getElem?_eq_getElem h];rfl
theorem Us {x:Int} {n:Nat} (h0:0≤x) (b:x.toNat<n):Ae x n=true:=by simp[Ae];omega
theorem Adx {l:List Int} {x:Int} (h:x.toNat<l.length) {f:Int→O R}:Ap .i64 (List.drop (0+((Int.toNat x)*1)) (Aq l)) f=f (l.getD x.toNat 0):=by
 rw[Nat.zero_add,Nat.mul_one,nY h,UE h]
theorem BE (l:List Int) (j:Nat) (v:Int):List.set (Aq l) j (.int .i64 v)=Aq (l.set j v):=by simp[Aq,List.map_set]
theorem UF {l:List Int} {x:Nat} (h:x<l.length):((Nat.beq 1 1)&&((Nat.ble ((0+(x*1))+1) (List.length (Aq l)))&&(!false)))=true:=by
 rw[IT,Bs,Et];simp;omega
def Ff (c:CaseD) (l:Int):Nat×Nat:=match c.lines.l[l.toNat]? with
 | some x=>(x.fr.toNat,x.tl.toNat)
 | none=>(0,0)
structure LnV (c:CaseD) (l:Int) (x:LineD):Prop where
 l0:0≤l
 lt:l.toNat<c.lines.l.length
 at':c.lines.l[l.toNat]?=some x
 f0:0≤x.fr
 f1:x.fr.toNat<c.buses.l.length
 t0:0≤x.tl
 t1:x.tl.toNat<c.buses.l.length
theorem gi {c:CaseD} {l:Int} {x:LineD} (h:LnV c l x):Ff c l=(x.fr.toNat,x.tl.toNat):=by unfold Ff;rw[h.at']
theorem A68 {c:CaseD} {l:Int} {x:LineD} (h:LnV c l x) {f:Int→O R}:Ap .i64 (List.drop 1 (List.drop ((Int.toNat l)*12) (c.lines.l.flatMap LineD.av))) f=f x.fr:=by
 have e:c.lines.l[l.toNat]'h.lt=x:=by have:=h.at';rw[List.getElem?_eq_getElem h.lt] at this;simpa using this
 rw[At Ce _ _ h.lt,e];simp[LineD.av,A6]
theorem A69 {c:CaseD} {l:Int} {x:LineD} (h:LnV c l x) {f:Int→O R}:Ap .i64 (List.drop 2 (List.drop ((Int.toNat l)*12) (c.lines.l.flatMap LineD.av))) f=f x.tl:=by
 have e:c.lines.l[l.toNat]'h.lt=x:=by have:=h.at';rw[List.getElem?_eq_getElem h.lt] at this;simpa using this
 rw[At Ce _ _ h.lt,e];simp[LineD.av,A6]
theorem m9 {L:List Int} {n j:Nat} (c:L.length=n) (h:j<n):((Ft n).take j++L.drop j).set j (j:Int)=(Ft n).take (j+1)++L.drop (j+1):=by
 have hi:(Ft n).length=n:=by simp[Ft]
 have e:(Ft n)[j]'(by omega)=(j:Int):=by simp[Ft]
 have b:j - ((Ft n).take j).length=0:=by simp[hi];omega
 rw[List.set_append_right _ _ (by simp;omega),b,List.take_succ_eq_append_getElem (by omega),Cd (l:=L) (by omega),e,List.set_cons_zero,List.append_assoc];rfl
end
end Gx.Cf

namespace Gx.Cf
open Go Go.Proofs
section
variable {R:Type}
def eC (h:Int):List LineD→Nat→List Int
 | [],_=>[]
 | x::r,j=>cond (x.away.l.contains h) (eC h r (j+1)) ((j:Int)::eC h r (j+1))
theorem HV (h:Int):∀ (l:List LineD) (j:Nat),(eC h l j).length≤l.length
 | [],_=>by simp[eC]
 | x::r,j=>by rw[eC];have:=HV h r (j+1);cases x.away.l.contains h<;>simp<;>omega
theorem Auw (h:Int):∀ (l:List LineD) (j:Nat) (a:Int),a ∈ eC h l j→(j:Int)≤a∧a<j+l.length
 | [],_,_,b=>by simp[eC] at b
 | x::r,j,a,b=>by
  rw[eC] at b
  have c:=Auw h r (j+1) a
  cases d:x.away.l.contains h<;>rw[d] at b<;>simp at b
  ·rcases b with rfl | b
   ·simp;omega
   ·have:=c b;simp at this ⊢;omega
  ·have:=c b;simp at this ⊢;omega
def A7 (c:CaseD) (h:Int):List Int:=eC h c.lines.l 0
theorem zH {A B:List Int} {n:Nat} (h:n=A.length):(List.take (n*1) (Aq A))++Aq B=Aq (A++B):=by
 rw[Nat.mul_one,List.take_of_length_le (by simp[Et,h]),bZ]
theorem eD {N:Nat} {c:CaseD} {h:Int} {o:Bool} {K:Nat→LA→O R} (hs:Small c N):∀ (m j fuel:Nat) (A:List Int),j+m=c.lines.l.length→m<fuel→A.length≤j →
  F8 N K h o c.av fuel A.length (j:Int) (Aq A)=K (A++eC h (c.lines.l.drop j) j).length (Aq (A++eC h (c.lines.l.drop j) j))
 | 0,j,fuel+1,A,n,_,_=>by
  rw[F8];unfold O0
  rw[Ef,Jf (by omega),cf,C9 (l:=c.lines.l) (by omega),eC,List.append_nil]
 | m+1,j,fuel+1,A,n,x,hA=>by
  rw[F8];unfold O0
  have d:j<c.lines.l.length:=by omega
  have k:=hs.top.2.1
  have q:c.lines.l[j] ∈ c.lines.l:=List.getElem_mem d
  have s:=hs.law _ q
  simp only[Ef]
  rw[Hy d,ct,Ab d,ct,Int.toNat_natCast,At Ce _ _ d,Cd (l:=c.lines.l) d,eC]
  have e:=eD (N:=N) (c:=c) (h:=h) (o:=o) (K:=K) hs m (j+1) fuel (A++[(j:Int)]) (by omega) (by omega) (by simp;omega)
  have i:=eD (N:=N) (c:=c) (h:=h) (o:=o) (K:=K) hs m (j+1) fuel A (by omega) (by omega) (by omega)
  generalize c.lines.l[j]=b at *
  have t:(Nat.ble (A.length+1) 140737488355328&&Nat.ble ((A.length+1)*8) 140737488355328)=true:=by rw[Bs,Bs];simp;omega
  have u:∀ (r:LA) (f:LA→Nat→O R),Br 1 (List.drop 11 (b.av++r)) f=f (Aq b.away.l) b.away.l.length:=fun r f=>by simp[LineD.av,Ed,Fl]
  have v:List.take (A.length*1) (Aq A)++[.int .i64 (j:Int)]=Aq (A++[(j:Int)]):=zH (B:=[(j:Int)]) rfl
  rw[u,TW rfl s,t,ct,v,Bo (by omega)]
  cases b.away.l.contains h with
  | true=>simp only[Bool.not_true,cond_false,cond_true];exact i
  | false =>
   simp only[Bool.not_false,cond_true,cond_false]
   rw[List.length_append] at e
   simpa using e
theorem Aux {N:Nat} {c:CaseD} {h:Int} {o:Bool} {K:Nat→LA→O R} (hs:Small c N):Of N c.av o h K=K (A7 c h).length (Aq (A7 c h)):=by
 rw[KR];unfold Vx
 have:=eD (R:=R) (N:=N) (c:=c) (h:=h) (o:=o) (K:=K) hs c.lines.l.length 0 N [] (by omega) hs.lin.1 (by simp)
 simpa[A7,Aq] using this
def B7 (e:Nat×Nat):LA:=[.int .i64 (e.1:Int),.int .i64 (e.2:Int)]
theorem V3 (e:Nat×Nat):(B7 e).length=2:=rfl
theorem gj (es:List (Nat×Nat)):(es.flatMap B7).length=es.length*2:=by
 induction es with
 | nil=>rfl
 | cons e r b=>rw[List.flatMap_cons,List.length_append,b,V3];simp;omega
theorem Ady {N:Nat} {c:CaseD} {o:Bool} {ls:List Int} {K:Nat→Nat→LA→LA→O R} (e:ls.length≤1000000) (d:∀ l ∈ ls,∃ x,LnV c l x):∀ (m j fuel:Nat),j+m=ls.length→m<fuel →
  Nb N K ls.length o c.av (Aq ls) fuel j (ls.length:Int) (j:Int) (((ls.take j).map (Ff c)).flatMap B7)=K ls.length ls.length ((ls.map (Ff c)).flatMap B7) (Aq ls)
 | 0,j,fuel+1,f,_=>by
  rw[Nb];unfold Zf
  have:j=ls.length:=by omega
  rw[Jf (by omega),cf,List.take_of_length_le (by omega),this]
 | m+1,j,fuel+1,f,n=>by
  rw[Nb];unfold Zf
  have h:j<ls.length:=by omega
  obtain⟨x,b⟩:=d ls[j] (List.getElem_mem h)
  have i:(Nat.ble (j+1) 140737488355328&&Nat.ble ((j+1)*16) 140737488355328)=true:=by rw[Bs,Bs];simp;omega
  have k:List.take (j*2) (((ls.take j).map (Ff c)).flatMap B7)++[.int .i64 x.fr,.int .i64 x.tl]=((ls.take (j+1)).map (Ff c)).flatMap B7:=by
   rw[List.take_of_length_le (by rw[gj];simp;omega),List.take_succ_eq_append_getElem h,List.map_append,List.flatMap_append]
   simp only[List.map_cons,List.map_nil,gi b,List.flatMap_cons,List.flatMap_nil,List.append_nil,B7]
   have:=b.f0;have:=b.t0
   rw[Int.toNat_of_nonneg b.f0,Int.toNat_of_nonneg b.t0]
  rw[Hy h,ct,Ab h,ct,Adx (by simpa using h),Int.toNat_natCast,UE h]
  simp only[Ef,A68 b,A69 b]
  rw[Us b.l0 b.lt,ct,ct,i,ct,k,Bo (by omega),Ady e d m (j+1) fuel (by omega) (by omega)]
theorem Az7 {N:Nat} {c:CaseD} {h:Int} {o:Bool} {K:Nat→Nat→LA→LA→O R} (hs:Small c N) (e:∀ l ∈ A7 c h,∃ x,LnV c l x) :
  FU N c.av o h K=K (A7 c h).length (A7 c h).length (((A7 c h).map (Ff c)).flatMap B7) (Aq (A7 c h)):=by
 rw[jj];unfold TU
 have f:=HV h c.lines.l 0
 have b:=hs.top.2.1
 have d:=hs.lin.1
 have:=Ady (R:=R) (N:=N) (c:=c) (o:=o) (ls:=A7 c h) (K:=K) (by unfold A7;omega) e (A7 c h).length 0 N (by omega) (by unfold A7;omega)
 rw[D8,ct,B6,Aux hs]
 simpa using this
def Gb (st:Bool×List Int) (e:Nat×Nat):Bool×List Int :=
 let m:=Mc (st.2.getD e.1 0) (st.2.getD e.2 0)
 ((st.1||(st.2.getD e.1 0 != m))||(st.2.getD e.2 0 != m),(st.2.set e.1 m).set e.2 m)
theorem vq {N:Nat} {es:List (Nat×Nat)} {n:Nat} {t o:Bool} {K1:Bool→LA→O R} {K:Nat→LA→O R} (hs:es.length<4611686018427387904) (i:∀ e ∈ es,e.1<n∧e.2<n):∀ (m j fuel:Nat) (st:Bool×List Int),j+m=es.length→m<fuel→st.2.length=n →
  I0 N K1 K (es.flatMap B7) es.length t o n fuel st.1 (es.length:Int) (j:Int) (Aq st.2)=K1 ((es.drop j).foldl Gb st).1 (Aq ((es.drop j).foldl Gb st).2)
 | 0,j,fuel+1,st,k,_,_=>by
  rw[I0];unfold Tk
  rw[Jf (by omega),cf,C9 (l:=es) (by omega)];rfl
 | m+1,j,fuel+1,st,k,G,b=>by
  rw[I0];unfold Tk
  have h:j<es.length:=by omega
  obtain⟨c,d⟩:=i es[j] (List.getElem_mem h)
  have q:=vq (N:=N) (es:=es) (n:=n) (t:=t) (o:=o) (K1:=K1) (K:=K) hs i m (j+1) fuel (Gb st es[j]) (by omega) (by omega) (by simp[Gb,b])
  rw[Hy h,ct,Ab h,ct,Int.toNat_natCast,At V3 _ _ h,Cd (l:=es) h,List.foldl_cons,←q]
  generalize es[j]=e at *
  have s:Nat.ble 2 (List.length (B7 e++List.flatMap B7 (List.drop (j+1) es)))=true:=by rw[Bs,List.length_append,V3];simp
  have u:List.take 2 (B7 e++List.flatMap B7 (List.drop (j+1) es))=B7 e:=List.take_left' (V3 e)
  rw[s,ct,u,V3]
  have iu:Ae (e.1:Int) n=true:=Ab c
  have iv:Ae (e.2:Int) n=true:=Ab d
  have ru:∀ f:Int→O R,Ap .i64 (List.drop (0+((Int.toNat (e.1:Int))*1)) (Aq st.2)) f=f (st.2.getD e.1 0):=fun f=>by rw[Adx (by rw[b];simpa using c)];rfl
  have rv:∀ f:Int→O R,Ap .i64 (List.drop (0+((Int.toNat (e.2:Int))*1)) (Aq st.2)) f=f (st.2.getD e.2 0):=fun f=>by rw[Adx (by rw[b];simpa using d)];rfl
  have s1:=UF (l:=st.2) (x:=(Int.toNat (e.1:Int))) (by rw[b];simpa using c)
  have s2:∀ m:Int,((Nat.beq 1 1)&&((Nat.ble ((0+((Int.toNat (e.2:Int))*1))+1) (List.length (List.set (Aq st.2) (0+((Int.toNat (e.1:Int))*1)) (.int .i64 m))))&&(!false)))=true:=fun m=>by
   rw[BE];exact UF (by simpa[b] using d)
  have v:∀ m:Int,List.set (List.set (Aq st.2) (0+((Int.toNat (e.1:Int))*1)) (.int .i64 m)) (0+((Int.toNat (e.2:Int))*1)) (.int .i64 m)=Aq ((st.2.set e.1 m).set e.2 m):=fun m=>by
   rw[BE,BE];simp
  have y:(!o||Az (B7 e))=true:=by simp[B7,Az]
  have z:(Nat.beq 2 2&&(Nat.ble 2 2&&!false))=true:=rfl
  have A:setCells [(.int .i64 (0:Int)),(.int .i64 (0:Int))] 0 (B7 e)=B7 e:=rfl
  have C:∀ f:Int→O R,Ap .i64 (B7 e) f=f e.1:=fun f=>by simp[B7,A6]
  have D:∀ f:Int→O R,Ap .i64 (List.drop 1 (B7 e)) f=f e.2:=fun f=>by simp[B7,A6]
  simp only[y,z,A,C,D,ct,iu,iv,ru,rv,s1,s2,v,Bo (show j<4611686018427387904 by omega)]
  unfold Gb
  cases st.1
  ·cases F:(st.2.getD e.1 0 != Mc (st.2.getD e.1 0) (st.2.getD e.2 0))<;>simp only[F,Bool.false_or,Bool.true_or,cond_true,cond_false,beq_self_eq_true,show(true==false)=false from rfl]
  ·simp only[Bool.true_or,cond_false,show(true==false)=false from rfl]
def m_ (L:List Int):Nat:=(L.map Int.toNat).sum
theorem A21 {L:List Int} {x:Nat} {v:Int} (h:x<L.length):m_ (L.set x v)+(L.getD x 0).toNat=m_ L+v.toNat:=by
 unfold m_
 rw[UE h]
 induction L generalizing x with
 | nil=>simp at h
 | cons a r b =>
  cases x with
  | zero=>simp;omega
  | succ x=>have:=b (x:=x) (by simpa using h);simp at this ⊢;omega
theorem Adz {L:List Int} {x y:Nat} {v:Int} (h:x<L.length):(L.set x v).getD y 0=if x=y then v else L.getD y 0:=by
 rw[List.getD_eq_getElem?_getD,List.getD_eq_getElem?_getD,List.getElem?_set]
 by_cases e:x=y
 ·subst e;simp[h]
 ·simp[e]
theorem A8w (a b:Int):Mc a b≤a∧Mc a b≤b∧(Mc a b=a∨Mc a b=b):=by
 unfold Mc
 by_cases h:b<a
 ·simp[h];omega
 ·simp[h];omega
theorem A4w {n:Nat} {es:List (Nat×Nat)} {e:Nat×Nat} (t:e ∈ es) (j:e.1<n) (k:e.2<n) {b:Bool} {L:List Int} (h:LeastOk n es L) :
    LeastOk n es (Gb (b,L) e).2∧(((Gb (b,L) e).1=true∧m_ (Gb (b,L) e).2<m_ L)∨((Gb (b,L) e)=(b,L)∧L.getD e.1 0=L.getD e.2 0)):=by
  obtain⟨u,v⟩:=e
  simp only at j k
  obtain⟨m1,m2,m3⟩:=A8w (L.getD u 0) (L.getD v 0)
  have c:u<L.length:=by rw[h.len];exact j
  have f:v<L.length:=by rw[h.len];exact k
  have d:Conn es u v:=.fwd t (.refl _)
  have Am:∀ y,((L.set u (Mc (L.getD u 0) (L.getD v 0))).set v (Mc (L.getD u 0) (L.getD v 0))).getD y 0=if v=y then Mc (L.getD u 0) (L.getD v 0) else if u=y then Mc (L.getD u 0) (L.getD v 0) else L.getD y 0:=fun y=>by
    rw[Adz (by simpa using f),Adz c]
  have lu:=h.low u j
  have lv:=h.low v k
  refine⟨⟨by simp[Gb,h.len],fun y s=>?_,fun y s=>?_⟩,?_⟩
  · simp only[Gb,Am]
    split
    · rename_i e;subst e;omega
    · split
      · rename_i e;subst e;omega
      · exact h.low y s
  · simp only[Gb,Am]
    have cm:Conn es (Mc (L.getD u 0) (L.getD v 0)).toNat u:=by
      rcases m3 with e | e<;>rw[e]
      · exact h.con u j
      · exact(h.con v k).trans d.symm
    split
    · rename_i e;subst e;exact cm.trans d
    · split
      · rename_i e;subst e;exact cm
      · exact h.con y s
  · by_cases e1:L.getD u 0=Mc (L.getD u 0) (L.getD v 0)<;>by_cases l:L.getD v 0=Mc (L.getD u 0) (L.getD v 0)
    · right
      have q:(L.set u (Mc (L.getD u 0) (L.getD v 0))).set v (Mc (L.getD u 0) (L.getD v 0))=L:=by
        have key:∀ m:Int,L.getD u 0=m→L.getD v 0=m→(L.set u m).set v m=L:=by
          intro m z A
          have a1:L.set u m=L:=by rw[←z,UE c,List.set_getElem_self]
          have a2:L.set v m=L:=by rw[←A,UE f,List.set_getElem_self]
          rw[a1,a2]
        exact key _ e1 l
      have x1:(L.getD u 0 != Mc (L.getD u 0) (L.getD v 0))=false:=by simpa using e1
      have x2:(L.getD v 0 != Mc (L.getD u 0) (L.getD v 0))=false:=by simpa using l
      refine⟨by simp only[Gb,q,x1,x2,Bool.or_false],by rw[e1];exact l.symm⟩
    all_goals
      left
      have C:=A21 (v:=Mc (L.getD u 0) (L.getD v 0)) c
      have i:=A21 (L:=L.set u (Mc (L.getD u 0) (L.getD v 0))) (x:=v) (v:=Mc (L.getD u 0) (L.getD v 0)) (by simpa using f)
      rw[Adz c] at i
      refine⟨?_,?_⟩
      · first
          | (have x2 : (L.getD v 0 != Mc (L.getD u 0) (L.getD v 0)) = true := by simpa using l
             simp only[Gb,x2,Bool.or_true])
          | (have x1 : (L.getD u 0 != Mc (L.getD u 0) (L.getD v 0)) = true := by simpa using e1
             simp only[Gb,x1,Bool.or_true,Bool.true_or])
      · simp only[Gb]
        split at i
        · rename_i e;subst e;omega
        · omega
theorem Apg {n:Nat} {es:List (Nat×Nat)} (d:∀ e ∈ es,e.1<n∧e.2<n):∀ (fs:List (Nat×Nat)) (b:Bool) (L:List Int),(∀ e ∈ fs,e ∈ es)→LeastOk n es L →
  LeastOk n es (fs.foldl Gb (b,L)).2∧(((fs.foldl Gb (b,L)).1=true∧(m_ (fs.foldl Gb (b,L)).2<m_ L∨(b=true∧m_ (fs.foldl Gb (b,L)).2≤m_ L)))∨((fs.foldl Gb (b,L))=(b,L)∧A20 fs L))
 | [],b,L,_,h=>⟨h,.inr ⟨rfl,fun e d=>by simp at d⟩⟩
 | e::r,b,L,k,h=>by
  have l:=k e (by simp)
  obtain⟨t,u⟩:=A4w l (d e l).1 (d e l).2 (b:=b) h
  rw[List.foldl_cons]
  rcases u with⟨m,q⟩ | ⟨m,q⟩
  ·have v:Gb (b,L) e=(true,(Gb (b,L) e).2):=by rw[←m]
   rw[v]
   obtain⟨s,f⟩:=Apg d r true (Gb (b,L) e).2 (fun x c=>k x (List.mem_cons_of_mem _ c)) t
   refine⟨s,.inl ?_⟩
   rcases f with⟨i,j⟩ | ⟨i,_⟩
   ·exact⟨i,.inl (by rcases j with j | ⟨_,j⟩<;>omega)⟩
   ·rw[i];exact⟨rfl,.inl q⟩
  ·rw[m]
   obtain⟨s,f⟩:=Apg d r b L (fun x c=>k x (List.mem_cons_of_mem _ c)) h
   refine⟨s,?_⟩
   rcases f with f | ⟨i,j⟩
   ·exact .inl f
   ·refine .inr ⟨i,fun x c=>?_⟩
    rcases List.mem_cons.1 c with rfl | c
    ·exact q
    ·exact j x c
theorem vr {N:Nat} {es:List (Nat×Nat)} {n:Nat} {t o:Bool} (hs:E2 es.length N) (c:∀ e ∈ es,e.1<n∧e.2<n):∀ (s fuel:Nat) (L:List Int),LeastOk n es L→m_ L≤s→s+2<fuel →
  ∃ L',LeastOk n es L'∧A20 es L'∧∀ K:Nat→LA→O R,Dy N K (es.flatMap B7) es.length t o n fuel true (Aq L)=K n (Aq L')
 | s,fuel+1,L,h,hL,l=>by
  obtain⟨f,i⟩:=Apg c es false L (fun _ j=>j) h
  have step:∀ K:Nat→LA→O R,Dy N K (es.flatMap B7) es.length t o n (fuel+1) true (Aq L)=Dy N K (es.flatMap B7) es.length t o n fuel (es.foldl Gb (false,L)).1 (Aq (es.foldl Gb (false,L)).2):=fun K=>by
   rw[Dy];unfold Tl
   have:=vq (R:=R) (N:=N) (es:=es) (n:=n) (t:=t) (o:=o) (K1:=Dy N K (es.flatMap B7) es.length t o n fuel) (K:=K) hs.2 c es.length 0 N (false,L) (by omega) hs.1 h.len
   simpa using this
  rcases i with⟨d,b⟩ | ⟨d,b⟩
  ·have k:m_ (es.foldl Gb (false,L)).2<m_ L:=by
    rcases b with b | ⟨b,_⟩
    ·exact b
    ·cases b
   obtain⟨L',a1,a2,a3⟩:=vr hs c (s - 1) fuel _ f (by omega) (by omega)
   exact⟨L',a1,a2,fun K=>by rw[step,d];exact a3 K⟩
  ·refine⟨L,h,b,fun K=>?_⟩
   rw[step,d]
   rcases fuel with _ | fuel
   ·omega
   ·rw[Dy];unfold Tl;rfl
 termination_by s=>s
 decreasing_by omega
theorem vt {N:Nat} {es:List (Nat×Nat)} {n:Nat} {t o:Bool} {K:Nat→LA→O R} (hn:n<4611686018427387904) (L:List Int) (hL:L.length=n):∀ (m j fuel:Nat),j+m=n→m<fuel →
  I3 N K (n:Int) (es.flatMap B7) es.length t o fuel n (j:Int) (Aq ((Ft n).take j++L.drop j))=Dy N K (es.flatMap B7) es.length t o n N true (Aq (Ft n))
 | 0,j,fuel+1,c,_=>by
  rw[I3];unfold Tm
  rw[Jf (by omega),cf,C9 (by omega),List.append_nil,List.take_of_length_le (by simp[Ft];omega)]
 | m+1,j,fuel+1,c,d=>by
  rw[I3];unfold Tm
  have h:j<n:=by omega
  have b:((Ft n).take j++L.drop j).length=n:=by simp[Ft];omega
  rw[Hy h,ct,Ab h,ct,UF (by rw[b];simpa using h),ct,Int.toNat_natCast,Nat.zero_add,Nat.mul_one,BE,m9 hL h,Bo (by omega),vt hn L hL m (j+1) fuel (by omega) (by omega)]
theorem Az8 (n:Nat) (es:List (Nat×Nat)):LeastOk n es (Ft n):=by
 refine⟨by simp[Ft],fun b c=>?_,fun b c=>?_⟩
 ·rw[gh c];omega
 ·rw[gh c];exact .refl _
theorem Bad {L:List Int} {b:Nat}:(∀ x ∈ L,x.toNat≤b)→m_ L≤L.length*b:=by
 unfold m_
 induction L with
 | nil=>intro _;simp
 | cons a r c =>
  intro h
  have e:=h a (by simp)
  have f:=c (fun x d=>h x (List.mem_cons_of_mem _ d))
  simp[Nat.add_mul];omega
theorem pY {N:Nat} {es:List (Nat×Nat)} {n:Nat} {t o:Bool} (hs:E2 es.length N) (hn:n≤1000) (hN:n*n+1000<N) (f:∀ e ∈ es,e.1<n∧e.2<n) :
  ∃ L,LeastOk n es L∧A20 es L∧∀ (m:Nat) (K:Nat→LA→O R),m=es.length→Pv N (n:Int) (es.flatMap B7) m t o K=K n (Aq L):=by
 have c:m_ (Ft n)≤n*n:=by
  have:=Bad (L:=Ft n) (b:=n) (by
   intro x d;simp[Ft] at d;obtain⟨a,q,rfl⟩:=d;simp;omega)
  simpa[Ft] using this
 obtain⟨L,i,j,k⟩:=vr (R:=R) (N:=N) (es:=es) (n:=n) (t:=t) (o:=o) hs f (n*n) N (Ft n) (Az8 n es) c (by omega)
 refine⟨L,i,j,fun m K l=>?_⟩
 subst l
 rw[YF];unfold EK
 have ok:(decide ((0:Int)≤(n:Int))&&(decide ((n:Int)≤(n:Int))&&(decide ((n:Int)≤(140737488355328:Int))&&decide (((n:Int)*((8:Nat):Int))≤(140737488355328:Int)))))=true:=by simp;omega
 have e:List.replicate n (AV.int .i64 (0:Int))=Aq (List.replicate n 0):=by simp[Aq]
 have:=vt (R:=R) (N:=N) (es:=es) (n:=n) (t:=t) (o:=o) (K:=K) (by omega) (List.replicate n 0) (by simp) n 0 N (by omega) (by omega)
 rw[ok,ct,Int.toNat_natCast,e,←k K]
 simpa using this
theorem mb {N:Nat} {L:List Int} {t o:Bool} {K:Int→O R} (hs:L.length<1000000):∀ (m j fuel:Nat) (a:Nat),j+m=L.length→m<fuel→a≤j →
  Nc N K (Aq L) L.length t o fuel (a:Int) (j:Int)=K ((a+((List.range' j m).filter fun b=>L.getD b 0==(b:Int)).length:Nat):Int)
 | 0,j,fuel+1,a,c,_,_=>by
  rw[Nc];unfold Zg
  rw[Jf (by omega),cf];simp
 | m+1,j,fuel+1,a,c,d,e=>by
  rw[Nc];unfold Zg
  have h:j<L.length:=by omega
  rw[Hy h,ct,Ab h,ct,HO h,Bo (by omega),Bo (by omega),List.range'_succ,List.filter_cons,UE h]
  cases f:L[j]==(j:Int) with
  | true =>
   rw[ct,mb hs m (j+1) fuel (a+1) (by omega) (by omega) (by omega)]
   simp;congr 1;omega
  | false =>
   rw[cf,mb hs m (j+1) fuel a (by omega) (by omega) (by omega)]
   simp
theorem Ad0 {N:Nat} {L:List Int} {n:Nat} {t o:Bool} {K:Int→O R} (hn:n=L.length) (hs:L.length<1000000) (hN:L.length<N):X4 N (Aq L) n t o K=K (A8v L:Int):=by
 subst hn
 rw[jl];unfold TV
 have:=mb (R:=R) (N:=N) (L:=L) (t:=t) (o:=o) (K:=K) hs L.length 0 N 0 (by omega) hN (by omega)
 simp only[Int.natCast_zero,Nat.zero_add] at this
 rw[A8v,List.range_eq_range']
 exact this
def pZ (gone:List Int):List (Nat×Nat)→Nat→List (Nat×Nat)
 | [],_=>[]
 | e::r,j=>cond (gone.contains (j:Int)) (pZ gone r (j+1)) (e::pZ gone r (j+1))
theorem Ad1 {N:Nat} {es:List (Nat×Nat)} {gone:List Int} {n:Nat} {t o t2 o2:Bool} {K:Bool→O R} (v:es.length≤1000) (hlN:es.length<N) (hn:n≤1000) (hN:n*n+1000<N) (b:∀ e ∈ es,e.1<n∧e.2<n) (i:E2 gone.length N):∀ (m j fuel:Nat) (A:List (Nat×Nat)),j+m=es.length→m<fuel→A.length≤j→(∀ e ∈ A,e.1<n∧e.2<n) →
  F9 N K (n:Int) (es.flatMap B7) es.length t o (Aq gone) gone.length t2 o2 fuel A.length (j:Int) (A.flatMap B7)=K (decide ((Jn n (A++pZ gone (es.drop j) j):Int)>(Jn n es:Int)))
 | 0,j,fuel+1,A,x,_,hA,hAe=>by
  rw[F9];unfold O1
  obtain⟨L,a1,a2,a3⟩:=pY (R:=R) (N:=N) (es:=A) (n:=n) (t:=false) (o:=true) ⟨by omega,by omega⟩ hn hN hAe
  obtain⟨L',d,k,q⟩:=pY (R:=R) (N:=N) (es:=es) (n:=n) (t:=false) (o:=o) ⟨by omega,by omega⟩ hn hN b
  have l1:=a1.len;have l2:=d.len
  rw[Jf (by omega),cf,C9 (l:=es) (by omega),pZ,List.append_nil,List.take_of_length_le (by rw[gj];exact Nat.le_refl _),a3 _ _ rfl,Nat.mul_one,List.take_of_length_le (by rw[Et];omega),Ad0 (by omega) (by omega) (by omega),q _ _ rfl,List.take_of_length_le (by rw[Et];omega),Ad0 (by omega) (by omega) (by omega),vj a1 a2 hAe,vj d k b]
 | m+1,j,fuel+1,A,x,D,hA,hAe=>by
  rw[F9];unfold O1
  have h:j<es.length:=by omega
  have c:=Ad1 (N:=N) (es:=es) (gone:=gone) (n:=n) (t:=t) (o:=o) (t2:=t2) (o2:=o2) (K:=K) v hlN hn hN b i m (j+1) fuel (A++[es[j]]) (by omega) (by omega) (by simp;omega) (by
   intro e s
   rcases List.mem_append.1 s with f | f
   ·exact hAe e f
   ·simp at f;subst f;exact b _ (List.getElem_mem h))
  have u:=Ad1 (N:=N) (es:=es) (gone:=gone) (n:=n) (t:=t) (o:=o) (t2:=t2) (o2:=o2) (K:=K) v hlN hn hN b i m (j+1) fuel A (by omega) (by omega) (by omega) hAe
  rw[Hy h,ct,TW rfl i,Ab h,ct,Int.toNat_natCast,At V3 _ _ h,Cd (l:=es) h,pZ]
  generalize es[j]=e at *
  have d:Nat.ble 2 (List.length (B7 e++List.flatMap B7 (List.drop (j+1) es)))=true:=by rw[Bs,List.length_append,V3];simp
  have k:List.take 2 (B7 e++List.flatMap B7 (List.drop (j+1) es))=B7 e:=List.take_left' (V3 e)
  have q:(Nat.ble (A.length+1) 140737488355328&&Nat.ble ((A.length+1)*16) 140737488355328)=true:=by rw[Bs,Bs];simp;omega
  have y:(!o||Az (B7 e))=true:=by simp[B7,Az]
  have z:List.take 2 (setCells [(.int .i64 (0:Int)),(.int .i64 (0:Int))] 0 (B7 e))=B7 e:=rfl
  have C:List.take (A.length*2) (A.flatMap B7)++B7 e=(A++[e]).flatMap B7:=by
   rw[List.take_of_length_le (by rw[gj];exact Nat.le_refl _)];simp
  rw[d,ct,k,y,ct,V3,show(Nat.beq 2 2&&Nat.ble 2 2)=true from rfl,ct,q,ct,z,C,Bo (by omega)]
  cases gone.contains (j:Int) with
  | true=>simp only[Bool.not_true,cond_false,cond_true];exact u
  | false =>
   simp only[Bool.not_false,cond_true,cond_false]
   rw[List.length_append] at c
   simpa using c
theorem Ad2 {N:Nat} {es:List (Nat×Nat)} {gone:List Int} {n m m2:Nat} {t o t2 o2:Bool} {K:Bool→O R} (c:m=es.length) (b:m2=gone.length) (d:es.length≤1000) (hlN:es.length<N) (hn:n≤1000) (hN:n*n+1000<N) (f:∀ e ∈ es,e.1<n∧e.2<n) (i:E2 gone.length N) :
  Og N (n:Int) (es.flatMap B7) m t o (Aq gone) m2 t2 o2 K=K (decide ((Jn n (pZ gone es 0):Int)>(Jn n es:Int))):=by
 subst c b
 rw[KW];unfold V0
 have:=Ad1 (R:=R) (N:=N) (es:=es) (gone:=gone) (n:=n) (t:=t) (o:=o) (t2:=t2) (o2:=o2) (K:=K) d hlN hn hN f i es.length 0 N [] (by omega) hlN (by simp) (by simp)
 simpa using this
end
end Gx.Cf

namespace Gx.Cf
open Go Go.Proofs
section
variable {R:Type}
theorem Dl {p:Df} {ok:Bool} {w:Int×Int×Int} {e:{ e:Int // e≠0 }} (h:nd p ok w e=none):p=none∧ok=true:=by
 rcases p with _ | x
 ·cases ok
  ·simp[nd] at h
  ·exact⟨rfl,rfl⟩
 ·simp[nd] at h
theorem Gc {α:Type} {f:Nat→α→Df→Df} (c:∀ j a x,f j a (some x)=some x):∀ (l:List α) (j:Nat) (p:Df),Bu f l j p=none→p=none∧∀ i (h:i<l.length),f (j+i) l[i] none=none
 | [],j,p,h=>by rw[Bu] at h;exact⟨h,fun i hi=>by simp at hi⟩
 | a::r,j,p,h=>by
  rw[Bu] at h
  obtain⟨b,d⟩:=Gc c r (j+1) _ h
  have e:p=none:=by
   rcases p with _ | x
   ·rfl
   ·rw[c] at b;cases b
  subst e
  refine⟨rfl,fun i hi=>?_⟩
  cases i with
  | zero=>simpa using b
  | succ i=>have:=d i (by simpa using hi);rw[show j+1+i=j+(i+1) by omega] at this;simpa using this
theorem FW {c:CaseD} (j:Nat) (x:BusD) (y:(Int×Int×Int)×{ e:Int // e≠0 }):Adq c j x (some y)=some y:=rfl
theorem T1 {c:CaseD} (j:Nat) (x:LineD) (y:(Int×Int×Int)×{ e:Int // e≠0 }):KZ c j x (some y)=some y:=rfl
theorem Mi {c:CaseD} (j:Nat) (x:StoreD) (y:(Int×Int×Int)×{ e:Int // e≠0 }):NC c j x (some y)=some y:=rfl
theorem Rj {c:CaseD} (j:Nat) (x:TieD) (y:(Int×Int×Int)×{ e:Int // e≠0 }):Aus c j x (some y)=some y:=rfl
theorem P3 {c:CaseD} (j:Nat) (x:UnitD) (y:(Int×Int×Int)×{ e:Int // e≠0 }):QA c j x (some y)=some y:=by
 show cond (x.state==2) _ _=_
 cases x.state==2<;>rfl
def a6 (c:CaseD):Df :=
 let p:=tL c none
 let p:=Bu (Adq c) c.buses.l 0 p
 let p:=Bu (KZ c) c.lines.l 0 p
 let p:=Bu (QA c) c.units.l 0 p
 let p:=Bu (NC c) c.stores.l 0 p
 let p:=Bu (Aus c) c.ties.l 0 p
 Bu (tO c) c.outs.l 0 p
noncomputable def A7a (c:CaseD) (h:Int) (o:OutD):Bool :=
 (Jn c.buses.l.length (((A7 c h).filter fun l=>!o.lines.l.contains l).map (Ff c)):Int)==(Jn c.buses.l.length ((A7 c h).map (Ff c)):Int)
noncomputable def Auy (c:CaseD) (h:Int) (j:Nat) (o:OutD) (p:Df):Df:=nd p (A7a c h o) (6,j,h) Bcs
noncomputable def T2 (c:CaseD):Nat→Nat→Df→Df
 | 0,_,p=>p
 | m+1,j,p=>T2 c m (j+1) (Bu (Auy c j) c.outs.l 0 p)
theorem A4x {c:CaseD} {h:Int} (j:Nat) (x:OutD) (y:(Int×Int×Int)×{ e:Int // e≠0 }):Auy c h j x (some y)=some y:=rfl
theorem vu {c:CaseD} {y:(Int×Int×Int)×{ e:Int // e≠0 }}:∀ (m j:Nat),T2 c m j (some y)=some y
 | 0,_=>rfl
 | m+1,j=>by rw[T2,Bf (fun j a=>A4x j a y)];exact vu m (j+1)
noncomputable def Cc (c:CaseD):Df:=match a6 c with
 | some x=>some x
 | none=>T2 c c.hours.toNat 0 none
structure PreV (c:CaseD):Prop where
 hours:1≤c.hours∧c.hours≤24
 nb:c.buses.l.length≤32
 nl:c.lines.l.length≤64
 no:c.outs.l.length≤64
 line:∀ x ∈ c.lines.l,0≤x.fr∧x.fr.toNat<c.buses.l.length∧0≤x.tl∧x.tl.toNat<c.buses.l.length
 out:∀ x ∈ c.outs.l,x.lines.l.length≤2
theorem gk {c:CaseD} (h:a6 c=none):PreV c:=by
 unfold a6 at h
 obtain⟨n,o6⟩:=Gc (fun _ _ _=>Lw) _ _ _ h
 obtain⟨q,o5⟩:=Gc (fun j a x=>Rj j a x) _ _ _ n
 obtain⟨s,o4⟩:=Gc (fun j a x=>Mi j a x) _ _ _ q
 obtain⟨t,o3⟩:=Gc (fun j a x=>P3 j a x) _ _ _ s
 obtain⟨u,o2⟩:=Gc (fun j a x=>T1 j a x) _ _ _ t
 obtain⟨l,o1⟩:=Gc (fun j a x=>FW j a x) _ _ _ u
 unfold tL at l
 obtain⟨v,y⟩:=Dl l
 obtain⟨z,_⟩:=Dl v
 obtain⟨A,_⟩:=Dl z
 obtain⟨C,_⟩:=Dl A
 obtain⟨w3,e⟩:=Dl C
 obtain⟨D,b⟩:=Dl w3
 obtain⟨F,_⟩:=Dl D
 obtain⟨w0,_⟩:=Dl F
 obtain⟨_,f⟩:=Dl w0
 unfold Fm at f b
 simp at f b e y
 refine⟨f,by omega,by omega,by omega,fun x k=>?_,fun x k=>?_⟩
 ·obtain⟨i,hi,rfl⟩:=List.getElem_of_mem k
  have:=o2 i hi
  unfold KZ pT at this
  obtain⟨a,_⟩:=Dl this
  obtain⟨a,_⟩:=Dl a
  obtain⟨a,_⟩:=Dl a
  obtain⟨a,_⟩:=Dl a
  obtain⟨a,_⟩:=Dl a
  obtain⟨a,_⟩:=Dl a
  obtain⟨a,_⟩:=Dl a
  obtain⟨a,_⟩:=Dl a
  obtain⟨a,m⟩:=Dl a
  obtain⟨_,d⟩:=Dl a
  unfold jn at m d
  simp at m d
  omega
 ·obtain⟨i,hi,rfl⟩:=List.getElem_of_mem k
  have:=o6 i hi
  unfold tO tN at this
  obtain⟨a,_⟩:=Dl this
  obtain⟨a,_⟩:=Dl a
  obtain⟨a,_⟩:=Dl a
  obtain⟨a,_⟩:=Dl a
  obtain⟨a,_⟩:=Dl a
  obtain⟨a,_⟩:=Dl a
  obtain⟨a,_⟩:=Dl a
  obtain⟨_,d⟩:=Dl a
  simp at d
  omega
theorem PreV.lnV {c:CaseD} (v:PreV c) {h:Int} {l:Int} (i:l ∈ A7 c h):∃ x,LnV c l x:=by
 have:=Auw h c.lines.l 0 l i
 have h0:0≤l:=by omega
 have f:l.toNat<c.lines.l.length:=by omega
 obtain⟨a,b,d,e⟩:=v.line _ (List.getElem_mem f)
 exact⟨c.lines.l[l.toNat],h0,f,List.getElem?_eq_getElem f,a,b,d,e⟩
def w3 (p:Df):LA:=match p with
 | none=>[.int .i64 0,.int .i64 0,.int .i64 0]
 | some ((a,b,f),_)=>[.int .i64 a,.int .i64 b,.int .i64 f]
end
end Gx.Cf

namespace Gx
open Go Go.Proofs
open IntKind (wrap)
set_option maxRecDepth 100000
noncomputable section
variable {R:Type} (N:Nat)
def V4 (k0:Int→LA→O R) (r0:LA→Int→O R) (c:Bool) (b:LA) (w:Int) (al:LA):O R :=
 (cond (Nat.ble 8 (b.length)) (Cs N (b.take 8) c 1 w al (fun am=>(cond (Nat.ble 8 (b.length)) (Br 3 (b.drop 2) fun an ao=>(cond (Ae w ao) (Br 1 ((an.drop ((w.toNat)*3)).drop 1) fun ap aq=>(C5 N (b.take 8) c ap aq false c 0 1048576 1 w 1 am (fun ar=>(Br 3 (b.drop 2) fun au av=>(cond (Ae w av) (Ap .i64 ((au.drop ((w.toNat)*3)).drop 2) fun aw=>(Ar N 0 1048576 [(.int .i64 aw)] 1 false true (fun ax=>(Aa N ax 1 w 2 3 ar (fun ay=>(k0 (wrap .i64 (w+1)) ay)))))) none))))) none)) none))) none)
def V5 (k7:Int→LA→O R) (k9:Int→Int→LA→O R) (r0:LA→Int→O R) (e f:Nat) (c:Bool) (b g i:LA) (k10:Int→Int→Nat→Int→LA→LA→O R) (v p:Int) (m:Nat) (q:Int) (x y:LA):O R :=
 (cond (decide (q<((f:Nat):Int))) (Br 4 (b.drop 7) fun az ba=>(cond (Ae p ba) (Br 1 ((az.drop ((p.toNat)*4)).drop 1) fun bb bc=>(cond (Ae q f) (Ap .i64 (i.drop (0+((q.toNat)*1))) fun bd=>(KQ N bb bc false c bd (fun be=>(cond be (cond ((Nat.ble (m+1) 140737488355328)&&(Nat.ble ((m+1)*8) 140737488355328)) (k10 v p (m+1) (wrap .i64 (q+1)) x ((y.take (m*1))++[(.int .i64 q)])) none) (k10 v p m (wrap .i64 (q+1)) x y))))) none)) none)) (Br 3 (b.drop 2) fun ci bf=>(Og N ((bf:Nat):Int) (g.take (e*2)) e false true (y.take (m*1)) m false true (fun bg=>(Aa N (!bg) 6 p v 13 x (fun bh=>(k9 v (wrap .i64 (p+1)) bh)))))))
def K4 (k7:Int→LA→O R) (k9:Int→Int→LA→O R) (r0:LA→Int→O R) (e f:Nat) (c:Bool) (b g i:LA):Nat→Int→Int→Nat→Int→LA→LA→O R
 | 0,_,_,_,_,_,_=>none
 | n+1,v,p,m,q,x,y=>(V5 N k7 k9 r0 e f c b g i (K4 k7 k9 r0 e f c b g i n) v p m q x y)
def Zi (N:Nat) (k7:Int→LA→O R) (r0:LA→Int→O R) (e f:Nat) (c:Bool) (b g i:LA) (k9:Int→Int→LA→O R) (q10:Int→Int→Nat→Int→LA→LA→O R) (r s:Int) (t:LA):O R :=
 (Br 4 (b.drop 7) fun cj bi=>(cond (decide (s<((bi:Nat):Int))) (q10 r s 0 0 t []) (k7 (wrap .i64 (r+1)) t)))
def Kd (k7:Int→LA→O R) (r0:LA→Int→O R) (e f:Nat) (c:Bool) (b g i:LA):Nat→Int→Int→LA→O R
 | 0,_,_,_=>none
 | n+1,r,s,t=>(Zi N k7 r0 e f c b g i (Kd k7 r0 e f c b g i n) (fun v p m q x y=>(K4 N k7 (Kd k7 r0 e f c b g i n) r0 e f c b g i N v p m q x y)) r s t)
def NF (k7:Int→LA→O R) (r0:LA→Int→O R) (c:Bool) (b:LA) (q9:Nat→Nat→LA→LA→Int→Int→LA→O R) (aj:Int) (ak:LA):O R :=
 (cond (Nat.ble 8 (b.length)) (FU N (b.take 8) c aj (fun e f g i=>(q9 e f g i aj 0 ak))) none)
def EL (k7:Int→LA→O R) (r0:LA→Int→O R) (c:Bool) (b:LA) (aj:Int) (ak:LA):O R:=(NF N k7 r0 c b (fun e f g i r s t=>(Kd N k7 r0 e f c b g i N r s t)) aj ak)
def Sk (N:Nat) (r0:LA→Int→O R) (c:Bool) (b:LA) (k7:Int→LA→O R) (q8:Int→LA→O R) (l:Int) (d:LA):O R :=
 (Ap .i64 b fun bj=>(cond ((decide (l<bj))==true) (Ap .i64 (d.drop 3) fun bk=>(cond (cond true (bk==0) false) (q8 l d) (cond (Nat.ble 3 (d.length)) (Ap .i64 (d.drop 3) fun bl=>(cond ((Nat.beq ((d.take 3).length) 3)&&((Nat.ble 3 3)&&(!false))) (cond (Nat.ble 3 ((setCells [(.int .i64 0),(.int .i64 0),(.int .i64 0)] 0 (d.take 3)).length)) (r0 ((setCells [(.int .i64 0),(.int .i64 0),(.int .i64 0)] 0 (d.take 3)).take 3) bl) none) none)) none))) (cond (Nat.ble 3 (d.length)) (Ap .i64 (d.drop 3) fun bm=>(cond ((Nat.beq ((d.take 3).length) 3)&&((Nat.ble 3 3)&&(!false))) (cond (Nat.ble 3 ((setCells [(.int .i64 0),(.int .i64 0),(.int .i64 0)] 0 (d.take 3)).length)) (r0 ((setCells [(.int .i64 0),(.int .i64 0),(.int .i64 0)] 0 (d.take 3)).take 3) bm) none) none)) none)))
def Em (r0:LA→Int→O R) (c:Bool) (b:LA):Nat→Int→LA→O R
 | 0,_,_=>none
 | n+1,l,d=>(Sk N r0 c b (Em r0 c b n) (fun aj ak=>(EL N (Em r0 c b n) r0 c b aj ak)) l d)
def Zj (r0:LA→Int→O R) (c:Bool) (b:LA) (k6:Int→LA→O R) (q7:Int→LA→O R) (ae:Int) (z:LA):O R :=
 (Br 4 (b.drop 7) fun ck bn=>(cond ((decide (ae<((bn:Nat):Int)))==true) (Ap .i64 (z.drop 3) fun bo=>(cond (cond true (bo==0) false) (cond (Nat.ble 8 (b.length)) (F7 N (b.take 8) c ae z (fun bp=>(k6 (wrap .i64 (ae+1)) bp))) none) (q7 0 z))) (q7 0 z)))
def Nd (r0:LA→Int→O R) (c:Bool) (b:LA):Nat→Int→LA→O R
 | 0,_,_=>none
 | n+1,ae,z=>(Zj N r0 c b (Nd r0 c b n) (fun l d=>(Em N r0 c b N l d)) ae z)
def Zk (r0:LA→Int→O R) (c:Bool) (b:LA) (k5:Int→LA→O R) (q6:Int→LA→O R) (af:Int) (aa:LA):O R :=
 (Br 5 (b.drop 6) fun cl bq=>(cond ((decide (af<((bq:Nat):Int)))==true) (Ap .i64 (aa.drop 3) fun br=>(cond (cond true (br==0) false) (cond (Nat.ble 8 (b.length)) (Nz N (b.take 8) c af aa (fun bs=>(k5 (wrap .i64 (af+1)) bs))) none) (q6 0 aa))) (q6 0 aa)))
def Nf (r0:LA→Int→O R) (c:Bool) (b:LA):Nat→Int→LA→O R
 | 0,_,_=>none
 | n+1,af,aa=>(Zk N r0 c b (Nf r0 c b n) (fun ae z=>(Nd N r0 c b N ae z)) af aa)
def Zl (r0:LA→Int→O R) (c:Bool) (b:LA) (k4:Int→LA→O R) (q5:Int→LA→O R) (ag:Int) (ab:LA):O R :=
 (Br 9 (b.drop 5) fun cm bt=>(cond ((decide (ag<((bt:Nat):Int)))==true) (Ap .i64 (ab.drop 3) fun bu=>(cond (cond true (bu==0) false) (cond (Nat.ble 8 (b.length)) (Kc N (b.take 8) c ag ab (fun bv=>(k4 (wrap .i64 (ag+1)) bv))) none) (q5 0 ab))) (q5 0 ab)))
def Ng (r0:LA→Int→O R) (c:Bool) (b:LA):Nat→Int→LA→O R
 | 0,_,_=>none
 | n+1,ag,ab=>(Zl N r0 c b (Ng r0 c b n) (fun af aa=>(Nf N r0 c b N af aa)) ag ab)
def Zm (r0:LA→Int→O R) (c:Bool) (b:LA) (k3:Int→LA→O R) (q4:Int→LA→O R) (ah:Int) (ac:LA):O R :=
 (Br 22 (b.drop 4) fun cn bw=>(cond ((decide (ah<((bw:Nat):Int)))==true) (Ap .i64 (ac.drop 3) fun bx=>(cond (cond true (bx==0) false) (cond (Nat.ble 8 (b.length)) (Io N (b.take 8) c ah ac (fun bz=>(k3 (wrap .i64 (ah+1)) bz))) none) (q4 0 ac))) (q4 0 ac)))
def Nh (r0:LA→Int→O R) (c:Bool) (b:LA):Nat→Int→LA→O R
 | 0,_,_=>none
 | n+1,ah,ac=>(Zm N r0 c b (Nh r0 c b n) (fun ag ab=>(Ng N r0 c b N ag ab)) ah ac)
def Zn (r0:LA→Int→O R) (c:Bool) (b:LA) (k2:Int→LA→O R) (q3:Int→LA→O R) (ai:Int) (ad:LA):O R :=
 (Br 12 (b.drop 3) fun co ca=>(cond ((decide (ai<((ca:Nat):Int)))==true) (Ap .i64 (ad.drop 3) fun cb=>(cond (cond true (cb==0) false) (cond (Nat.ble 8 (b.length)) (In N (b.take 8) c ai ad (fun cc=>(k2 (wrap .i64 (ai+1)) cc))) none) (q3 0 ad))) (q3 0 ad)))
def Ni (r0:LA→Int→O R) (c:Bool) (b:LA):Nat→Int→LA→O R
 | 0,_,_=>none
 | n+1,ai,ad=>(Zn N r0 c b (Ni r0 c b n) (fun ah ac=>(Nh N r0 c b N ah ac)) ai ad)
def Zo (N:Nat) (r0:LA→Int→O R) (c:Bool) (b:LA) (k0:Int→LA→O R) (q1:Int→LA→O R) (q2:Int→LA→O R) (u:Int) (o:LA):O R :=
 (Br 3 (b.drop 2) fun cp cd=>(cond ((decide (u<((cd:Nat):Int)))==true) (Ap .i64 (o.drop 3) fun ce=>(cond (cond true (ce==0) false) (q1 u o) (q2 0 o))) (q2 0 o)))
def Ke (r0:LA→Int→O R) (c:Bool) (b:LA):Nat→Int→LA→O R
 | 0,_,_=>none
 | n+1,u,o=>(Zo N r0 c b (Ke r0 c b n) (fun w al=>(V4 N (Ke r0 c b n) r0 c b w al)) (fun ai ad=>(Ni N r0 c b N ai ad)) u o)
def UG (r0:LA→Int→O R) (q0:Int→LA→O R) (b:LA) (c:Bool):O R :=
 (cond (Nat.ble 8 (b.length)) (G1 N (b.take 8) c [(.int .i64 0),(.int .i64 0),(.int .i64 0),(.int .i64 0)] (fun cf=>(q0 0 cf))) none)
def Ut:=(Ag (fun (N:Nat) (b:LA) (c:Bool) (r0:LA→Int→O R)=>(UG N r0 (fun u o=>(Ke N r0 c b N u o)) b c))).1
theorem jq (b c r0):(@Ut R N b c r0)=(UG N r0 (fun u o=>(Ke N r0 c b N u o)) b c):=by rw[Ut,(Ag _).2]
def p6:Hints:={ H:=(hS hL (hS hL (hS hL (hS (hS hL (hS (hP [1,2,4,5] (hJ [1,2,4,5] hL hL)) hL)) (hS (hS hL (hS (hP [1,2,4,6] hL) hL)) (hS (hS hL (hS (hP [1,2,4,7] hL) hL)) (hS (hS hL (hS (hP [1,2,4,8] hL) hL)) (hS (hS hL (hS (hP [1,2,4,9] hL) hL)) (hS (hS hL (hS (hP [1,2,4,10] hL) hL)) (hS (hS hL (hS (hP [1,2,4,11] (hJ [1,2,4,11] hL (hS (hS (hS hL (hS hL (hS (hP [1,2,4,11,12,13,14] (hS hL (hS (hS (hS hL (hS (hS hL (hS (hP [1,2,4,11,12,13,14,15,16] hL) hL)) hL)) hL) hL))) hL))) hL) hL))) hL)) hL)))))))))),nils:=[(15,1)],modes:=[(3,0),(0,0)] }
def vw:F2:=[(158,dX N),(159,Fo N),(160,On N),(162,Dw N),(161,Bx N),(163,iV N),(164,i_ N),(165,dz N),(166,m7 N),(167,aV N),(168,Ao5 N),(169,mY N),(170,tI N)]
def Fg (F:KF R):=Ju Tryz.f103 p6 (vw N) [] N F
def Bb (F:KF R):LA→Int→O R:=(fun cg ch=>F (.tup [(.pagg cg false),(iv ch)]) [])
def Aph (c:Bool) (b:LA) (w:Int) (al:LA):St:=⟨[(1,(op 0)),(2,(op 1)),(4,(op 2)),(5,(iv w))],(hq [(bP c 0 b),(bQ 0 [(iv 0),(iv 0),(iv 0)]),(bQ 0 al)])⟩
def Api (F:KF R) (Q0:St→O R):=Fg N F [1,1,1,0,1,0,0,1] [Q0]
def Ahy (e f:Nat) (c:Bool) (b g i:LA) (v p:Int) (m:Nat) (q:Int) (x y:LA):St:=⟨[(1,(op 0)),(2,(op 1)),(4,(op 2)),(11,(iv v)),(12,(.own 300003 0 e)),(13,(.own 300004 0 f)),(14,(iv p)),(15,(.own 300005 0 m)),(16,(iv q))],(hq [(bP c 0 b),(bQ 0 [(iv 0),(iv 0),(iv 0)]),(bQ 0 x),(bQ 2 g),(bQ 1 i),(bQ 1 y)])⟩
def Ahz (F:KF R) (Q7 Q9:St→O R):=Fg N F [1,1,1,1,1,1,1,1,1,0,1,0,0,1,0,0,1,1,0,0,1,0,0,1,0,1,0] [Q7,Q9]
def UH (e f:Nat) (c:Bool) (b g i:LA) (r s:Int) (t:LA):St:=⟨[(1,(op 0)),(2,(op 1)),(4,(op 2)),(11,(iv r)),(12,(.own 300003 0 e)),(13,(.own 300004 0 f)),(14,(iv s))],(hq [(bP c 0 b),(bQ 0 [(iv 0),(iv 0),(iv 0)]),(bQ 0 t),(bQ 2 g),(bQ 1 i)])⟩
def p7 (F:KF R) (Q7:St→O R):=Fg N F [1,1,1,1,1,1,1,1,1,0,1,0,0,1,0,0,1,1,0] [Q7]
def Apj (c:Bool) (b:LA) (aj:Int) (ak:LA):St:=⟨[(1,(op 0)),(2,(op 1)),(4,(op 2)),(11,(iv aj))],(hq [(bP c 0 b),(bQ 0 [(iv 0),(iv 0),(iv 0)]),(bQ 0 ak)])⟩
def Apk (F:KF R) (Q7:St→O R):=Fg N F [1,1,1,1,1,1,1,1,1,0,1,0,0,1] [Q7]
def Kf (c:Bool) (b:LA) (l:Int) (d:LA):St:=⟨[(1,(op 0)),(2,(op 1)),(4,(op 2)),(11,(iv l))],(hq [(bP c 0 b),(bQ 0 [(iv 0),(iv 0),(iv 0)]),(bQ 0 d)])⟩
def p8 (F:KF R):=Fg N F [1,1,1,1,1,1,1,1,1,0,1,0] []
def Apl (c:Bool) (b:LA) (ae:Int) (z:LA):St:=⟨[(1,(op 0)),(2,(op 1)),(4,(op 2)),(10,(iv ae))],(hq [(bP c 0 b),(bQ 0 [(iv 0),(iv 0),(iv 0)]),(bQ 0 z)])⟩
def Apm (F:KF R):=Fg N F [1,1,1,1,1,1,1,1,0,1,0] []
def Apn (c:Bool) (b:LA) (af:Int) (aa:LA):St:=⟨[(1,(op 0)),(2,(op 1)),(4,(op 2)),(9,(iv af))],(hq [(bP c 0 b),(bQ 0 [(iv 0),(iv 0),(iv 0)]),(bQ 0 aa)])⟩
def Apo (F:KF R):=Fg N F [1,1,1,1,1,1,1,0,1,0] []
def App (c:Bool) (b:LA) (ag:Int) (ab:LA):St:=⟨[(1,(op 0)),(2,(op 1)),(4,(op 2)),(8,(iv ag))],(hq [(bP c 0 b),(bQ 0 [(iv 0),(iv 0),(iv 0)]),(bQ 0 ab)])⟩
def Apq (F:KF R):=Fg N F [1,1,1,1,1,1,0,1,0] []
def Apr (c:Bool) (b:LA) (ah:Int) (ac:LA):St:=⟨[(1,(op 0)),(2,(op 1)),(4,(op 2)),(7,(iv ah))],(hq [(bP c 0 b),(bQ 0 [(iv 0),(iv 0),(iv 0)]),(bQ 0 ac)])⟩
def Aps (F:KF R):=Fg N F [1,1,1,1,1,0,1,0] []
def Apt (c:Bool) (b:LA) (ai:Int) (ad:LA):St:=⟨[(1,(op 0)),(2,(op 1)),(4,(op 2)),(6,(iv ai))],(hq [(bP c 0 b),(bQ 0 [(iv 0),(iv 0),(iv 0)]),(bQ 0 ad)])⟩
def Apu (F:KF R):=Fg N F [1,1,1,1,0,1,0] []
def p9 (c:Bool) (b:LA) (u:Int) (o:LA):St:=⟨[(1,(op 0)),(2,(op 1)),(4,(op 2)),(5,(iv u))],(hq [(bP c 0 b),(bQ 0 [(iv 0),(iv 0),(iv 0)]),(bQ 0 o)])⟩
def p_ (F:KF R):=Fg N F [1,1,1,0,1,0] []
theorem y5 (Q0:St→O R) (F:KF R) (c:Bool) (b:LA):∀ (w:Int) (al:LA),B5 (Api N F Q0) (Aph c b w al)=(V4 N (fun u o=>Q0 (p9 c b u o)) (Bb F) c b w al):=by
 intro w al
 kernel_rfl
theorem QN (Q7 Q9:St→O R) (F:KF R) (e f:Nat) (c:Bool) (b g i:LA):∀ (n:Nat) (v p:Int) (m:Nat) (q:Int) (x y:LA),Ak (Ahz N F Q7 Q9) n (Ahy e f c b g i v p m q x y)=(K4 N (fun l d=>Q7 (Kf c b l d)) (fun r s t=>Q9 (UH e f c b g i r s t)) (Bb F) e f c b g i n v p m q x y)
 | 0,_,_,_,_,_,_=>by kernel_rfl
 | n+1,v,p,m,q,x,y=>Eq.trans (by kernel_rfl) (Bt (V5 N (fun l d=>Q7 (Kf c b l d)) (fun r s t=>Q9 (UH e f c b g i r s t)) (Bb F) e f c b g i · v p m q x y) (funext fun v=>funext fun p=>funext fun m=>funext fun q=>funext fun x=>funext fun y=>(QN Q7 Q9 F e f c b g i n v p m q x y)):_)
theorem YM (Q7:St→O R) (F:KF R) (e f:Nat) (c:Bool) (b g i:LA):∀ (n:Nat) (r s:Int) (t:LA),Ak (p7 N F Q7) n (UH e f c b g i r s t)=(Kd N (fun l d=>Q7 (Kf c b l d)) (Bb F) e f c b g i n r s t)
 | 0,_,_,_=>by kernel_rfl
 | n+1,r,s,t=>have e0:=(funext fun r=>funext fun s=>funext fun t=>(YM Q7 F e f c b g i n r s t))
  Eq.trans (by kernel_rfl) (OQ (Zi N (fun l d=>Q7 (Kf c b l d)) (Bb F) e f c b g i · · r s t) e0 (funext fun v=>funext fun p=>funext fun m=>funext fun q=>funext fun x=>funext fun y=>(Ad ..).trans ((QN N Q7 (Ak (p7 N F Q7) n) F e f c b g i N v p m q x y).trans (Bt (K4 N (fun l d=>Q7 (Kf c b l d)) · (Bb F) e f c b g i N v p m q x y) e0))):_)
theorem y7 (Q7:St→O R) (F:KF R) (c:Bool) (b:LA):∀ (aj:Int) (ak:LA),B5 (Apk N F Q7) (Apj c b aj ak)=(EL N (fun l d=>Q7 (Kf c b l d)) (Bb F) c b aj ak):=by
 intro aj ak
 exact Eq.trans (by kernel_rfl) (Bt (NF N (fun l d=>Q7 (Kf c b l d)) (Bb F) c b · aj ak) (funext fun e=>funext fun f=>funext fun g=>funext fun i=>funext fun r=>funext fun s=>funext fun t=>(Ad ..).trans (YM N Q7 F e f c b g i N r s t)):_)
theorem YN (F:KF R) (c:Bool) (b:LA):∀ (n:Nat) (l:Int) (d:LA),Ak (p8 N F) n (Kf c b l d)=(Em N (Bb F) c b n l d)
 | 0,_,_=>by kernel_rfl
 | n+1,l,d=>have e0:=(funext fun l=>funext fun d=>(YN F c b n l d))
  Eq.trans (by kernel_rfl) (OQ (Sk N (Bb F) c b · · l d) e0 (funext fun aj=>funext fun ak=>(A1 ..).trans ((y7 N (Ak (p8 N F) n) F c b aj ak).trans (Bt (EL N · (Bb F) c b aj ak) e0))):_)
theorem YO (F:KF R) (c:Bool) (b:LA):∀ (n:Nat) (ae:Int) (z:LA),Ak (Apm N F) n (Apl c b ae z)=(Nd N (Bb F) c b n ae z)
 | 0,_,_=>by kernel_rfl
 | n+1,ae,z=>Eq.trans (by kernel_rfl) (OQ (Zj N (Bb F) c b · · ae z) (funext fun ae=>funext fun z=>(YO F c b n ae z)) (funext fun l=>funext fun d=>(Ad ..).trans (YN N F c b N l d)):_)
theorem YP (F:KF R) (c:Bool) (b:LA):∀ (n:Nat) (af:Int) (aa:LA),Ak (Apo N F) n (Apn c b af aa)=(Nf N (Bb F) c b n af aa)
 | 0,_,_=>by kernel_rfl
 | n+1,af,aa=>Eq.trans (by kernel_rfl) (OQ (Zk N (Bb F) c b · · af aa) (funext fun af=>funext fun aa=>(YP F c b n af aa)) (funext fun ae=>funext fun z=>(Ad ..).trans (YO N F c b N ae z)):_)
theorem YQ (F:KF R) (c:Bool) (b:LA):∀ (n:Nat) (ag:Int) (ab:LA),Ak (Apq N F) n (App c b ag ab)=(Ng N (Bb F) c b n ag ab)
 | 0,_,_=>by kernel_rfl
 | n+1,ag,ab=>Eq.trans (by kernel_rfl) (OQ (Zl N (Bb F) c b · · ag ab) (funext fun ag=>funext fun ab=>(YQ F c b n ag ab)) (funext fun af=>funext fun aa=>(Ad ..).trans (YP N F c b N af aa)):_)
theorem YR (F:KF R) (c:Bool) (b:LA):∀ (n:Nat) (ah:Int) (ac:LA),Ak (Aps N F) n (Apr c b ah ac)=(Nh N (Bb F) c b n ah ac)
 | 0,_,_=>by kernel_rfl
 | n+1,ah,ac=>Eq.trans (by kernel_rfl) (OQ (Zm N (Bb F) c b · · ah ac) (funext fun ah=>funext fun ac=>(YR F c b n ah ac)) (funext fun ag=>funext fun ab=>(Ad ..).trans (YQ N F c b N ag ab)):_)
theorem YS (F:KF R) (c:Bool) (b:LA):∀ (n:Nat) (ai:Int) (ad:LA),Ak (Apu N F) n (Apt c b ai ad)=(Ni N (Bb F) c b n ai ad)
 | 0,_,_=>by kernel_rfl
 | n+1,ai,ad=>Eq.trans (by kernel_rfl) (OQ (Zn N (Bb F) c b · · ai ad) (funext fun ai=>funext fun ad=>(YS F c b n ai ad)) (funext fun ah=>funext fun ac=>(Ad ..).trans (YR N F c b N ah ac)):_)
theorem YT (F:KF R) (c:Bool) (b:LA):∀ (n:Nat) (u:Int) (o:LA),Ak (p_ N F) n (p9 c b u o)=(Ke N (Bb F) c b n u o)
 | 0,_,_=>by kernel_rfl
 | n+1,u,o=>have e0:=(funext fun u=>funext fun o=>(YT F c b n u o))
  Eq.trans (by kernel_rfl) (Bbw (Zo N (Bb F) c b · · · u o) e0 (funext fun w=>funext fun al=>(A1 ..).trans ((y5 N (Ak (p_ N F) n) F c b w al).trans (Bt (V4 N · (Bb F) c b w al) e0))) (funext fun ai=>funext fun ad=>(Ad ..).trans (YS N F c b N ai ad)):_)
theorem pa (b:LA) (c:Bool) (F:KF R):Cw (vw N) p6 N 103 [(.pagg b c)] [] F=(Ut N b c (Bb F)):=by
 rw[jq]
 exact Eq.trans (by kernel_rfl) (Bt (UG N (Bb F) · b c) (funext fun u=>funext fun o=>(Ad ..).trans (YT N F c b N u o)):_)
def jr (a:LA) (h:Aj) (k:KF R):O R :=
 match a,h with
 | [(.pagg b c)],[]=>(Ut N b c (Bb k))
 | _,_=>none
theorem pb:An N 103 @jr:=by
 intro R Q a h k j;unfold jr;split;exact A2 (pa ..) (pa ..) ⟨dY N,Fp N,Oo N,Dx N,By N,iW N,ia N,eA N,m8 N,aW N,Ao6 N,mZ N,tJ N,trivial⟩;exact A4
def UI:=A3 (pb N)
def UJ:=Cz (pb N)
end
end Gx

namespace Gx.Cf
open Go Go.Proofs
section
variable {R:Type}
theorem A7b {N:Nat} {c:CaseD} {p:Df} {o:Bool} {j:Nat} {K:Int→LA→O R} {K2:LA→Int→O R} (hs:Small c N) (h:j<c.buses.l.length) :
  V4 N K K2 o c.av (j:Int) (Ds p)=K ((j+1:Nat):Int) (Ds (Adq c j c.buses.l[j] p)):=by
 have hN:=hs.n64
 have hN8:8≤N:=by omega
 have d:=hs.bus
 have m:c.buses.l[j] ∈ c.buses.l:=List.getElem_mem h
 have q:=hs.dem _ m
 have e:=@Eb R N c (c.buses.l.map (·.name)) o (k:=1) (n:=j) (hN:=hN) (hL:=fun K=>Auv hs) (hn:=by simpa using h) (hs:=⟨by have:=d.1;omega,by have:=d.2;omega⟩)
 have i:(c.buses.l.map (·.name))[j]'(by simpa using h)=c.buses.l[j].name:=by simp
 rw[i] at e
 unfold V4
 simp only[D8,B6,ct,e,Gs]
 rw[Ab h,ct,Int.toNat_natCast,At Kb _ _ h]
 generalize c.buses.l[j]=b at *
 have s:∀ (r:LA) (f:LA→Nat→O R),Br 1 (List.drop 1 (b.av++r)) f=f (Aq b.demand.l) b.demand.l.length:=fun r f=>by simp[BusD.av,Ed,Fl]
 have t:∀ (r:LA) (f:Int→O R),Ap .i64 (List.drop 2 (b.av++r)) f=f b.shed:=fun r f=>by simp[BusD.av,A6]
 rw[s,Ew rfl q,ct,t,El hN8,Af (by decide),Bo (by have:=d.2;omega)]
 rfl
theorem Apv {p:Df} {K:LA→Int→O R}:(cond (Nat.ble 3 (List.length (Ds p))) (Ap .i64 (List.drop 3 (Ds p)) fun x38=>(cond ((Nat.beq (List.length (List.take 3 (Ds p))) 3)&&((Nat.ble 3 3)&&(!false))) (cond (Nat.ble 3 (List.length (setCells [(.int .i64 (0:Int)),(.int .i64 (0:Int)),(.int .i64 (0:Int))] 0 (List.take 3 (Ds p))))) (K (List.take 3 (setCells [(.int .i64 (0:Int)),(.int .i64 (0:Int)),(.int .i64 (0:Int))] 0 (List.take 3 (Ds p)))) x38) none) none)) none)=K (w3 p) (Bp p):=by
 rcases p with _ | ⟨⟨a,b,f⟩,e,c⟩<;>simp[Ds,OR,w3,Bp,Bs,setCells,C4,A6]
theorem vz {N:Nat} {c:CaseD} {o:Bool} {K:LA→Int→O R} (hs:Small c N):∀ (m j fuel:Nat) (p:Df),j+m=c.buses.l.length→m<fuel →
  Ke N K o c.av fuel (j:Int) (Ds p)=Ni N K o c.av N 0 (Ds (Bu (Adq c) (c.buses.l.drop j) j p))
 | 0,j,fuel+1,p,d,_=>by
  rw[Ke];unfold Zo
  rw[Gs,Jf (by omega),C9 (l:=c.buses.l) (by omega),Bu];rfl
 | m+1,j,fuel+1,p,d,k=>by
  rw[Ke];unfold Zo
  have h:j<c.buses.l.length:=by omega
  have b:=hs.bus
  rw[Gs,Hy h,NE,Cd (l:=c.buses.l) h,Bu]
  rcases p with _ | ⟨x,e,f⟩
  ·simp only[Bp,beq_self_eq_true,cond_true]
   rw[A7b hs h,vz hs m (j+1) fuel _ (by omega) (by omega)]
  ·have i:(e==0)=false:=by simpa using f
   simp only[Bp,i,beq_self_eq_true,cond_true,cond_false]
   rw[FW,Bf (fun _ _=>FW _ _ _)]
theorem wB {N:Nat} {c:CaseD} {o:Bool} {K:LA→Int→O R} (hs:Small c N):∀ (m j fuel:Nat) (p:Df),j+m=c.lines.l.length→m<fuel →
  Ni N K o c.av fuel (j:Int) (Ds p)=Nh N K o c.av N 0 (Ds (Bu (KZ c) (c.lines.l.drop j) j p))
 | 0,j,fuel+1,p,d,_=>by
  rw[Ni];unfold Zn
  rw[Ef,Jf (by omega),C9 (l:=c.lines.l) (by omega),Bu];rfl
 | m+1,j,fuel+1,p,d,k=>by
  rw[Ni];unfold Zn
  have h:j<c.lines.l.length:=by omega
  have b:=hs.lin
  rw[Ef,Hy h,NE,Cd (l:=c.lines.l) h,Bu]
  rcases p with _ | ⟨x,e,f⟩
  ·simp only[Bp,beq_self_eq_true,cond_true]
   rw[D8,ct,B6,aY hs h,Bo (by have:=b.2;omega),wB hs m (j+1) fuel _ (by omega) (by omega)]
  ·have i:(e==0)=false:=by simpa using f
   simp only[Bp,i,beq_self_eq_true,cond_true,cond_false]
   rw[T1,Bf (fun _ _=>T1 _ _ _)]
theorem wC {N:Nat} {c:CaseD} {o:Bool} {K:LA→Int→O R} (hs:Small c N):∀ (m j fuel:Nat) (p:Df),j+m=c.units.l.length→m<fuel →
  Nh N K o c.av fuel (j:Int) (Ds p)=Ng N K o c.av N 0 (Ds (Bu (QA c) (c.units.l.drop j) j p))
 | 0,j,fuel+1,p,d,_=>by
  rw[Nh];unfold Zm
  rw[C2,Jf (by omega),C9 (l:=c.units.l) (by omega),Bu];rfl
 | m+1,j,fuel+1,p,d,k=>by
  rw[Nh];unfold Zm
  have h:j<c.units.l.length:=by omega
  have b:=hs.uni
  rw[C2,Hy h,NE,Cd (l:=c.units.l) h,Bu]
  rcases p with _ | ⟨x,e,f⟩
  ·simp only[Bp,beq_self_eq_true,cond_true]
   rw[D8,ct,B6,aZ hs h,Bo (by have:=b.2;omega),wC hs m (j+1) fuel _ (by omega) (by omega)]
  ·have i:(e==0)=false:=by simpa using f
   simp only[Bp,i,beq_self_eq_true,cond_true,cond_false]
   rw[P3,Bf (fun _ _=>P3 _ _ _)]
theorem wD {N:Nat} {c:CaseD} {o:Bool} {K:LA→Int→O R} (hs:Small c N):∀ (m j fuel:Nat) (p:Df),j+m=c.stores.l.length→m<fuel →
  Ng N K o c.av fuel (j:Int) (Ds p)=Nf N K o c.av N 0 (Ds (Bu (NC c) (c.stores.l.drop j) j p))
 | 0,j,fuel+1,p,d,_=>by
  rw[Ng];unfold Zl
  rw[X5,Jf (by omega),C9 (l:=c.stores.l) (by omega),Bu];rfl
 | m+1,j,fuel+1,p,d,k=>by
  rw[Ng];unfold Zl
  have h:j<c.stores.l.length:=by omega
  have b:=hs.sto
  rw[X5,Hy h,NE,Cd (l:=c.stores.l) h,Bu]
  rcases p with _ | ⟨x,e,f⟩
  ·simp only[Bp,beq_self_eq_true,cond_true]
   rw[D8,ct,B6,UD hs h,Bo (by have:=b.2;omega),wD hs m (j+1) fuel _ (by omega) (by omega)]
  ·have i:(e==0)=false:=by simpa using f
   simp only[Bp,i,beq_self_eq_true,cond_true,cond_false]
   rw[Mi,Bf (fun _ _=>Mi _ _ _)]
theorem wE {N:Nat} {c:CaseD} {o:Bool} {K:LA→Int→O R} (hs:Small c N):∀ (m j fuel:Nat) (p:Df),j+m=c.ties.l.length→m<fuel →
  Nf N K o c.av fuel (j:Int) (Ds p)=Nd N K o c.av N 0 (Ds (Bu (Aus c) (c.ties.l.drop j) j p))
 | 0,j,fuel+1,p,d,_=>by
  rw[Nf];unfold Zk
  rw[TX,Jf (by omega),C9 (l:=c.ties.l) (by omega),Bu];rfl
 | m+1,j,fuel+1,p,d,k=>by
  rw[Nf];unfold Zk
  have h:j<c.ties.l.length:=by omega
  have b:=hs.tie
  rw[TX,Hy h,NE,Cd (l:=c.ties.l) h,Bu]
  rcases p with _ | ⟨x,e,f⟩
  ·simp only[Bp,beq_self_eq_true,cond_true]
   rw[D8,ct,B6,eB hs h,Bo (by have:=b.2;omega),wE hs m (j+1) fuel _ (by omega) (by omega)]
  ·have i:(e==0)=false:=by simpa using f
   simp only[Bp,i,beq_self_eq_true,cond_true,cond_false]
   rw[Rj,Bf (fun _ _=>Rj _ _ _)]
theorem wF {N:Nat} {c:CaseD} {o:Bool} {K:LA→Int→O R} (hs:Small c N):∀ (m j fuel:Nat) (p:Df),j+m=c.outs.l.length→m<fuel →
  Nd N K o c.av fuel (j:Int) (Ds p)=Em N K o c.av N 0 (Ds (Bu (tO c) (c.outs.l.drop j) j p))
 | 0,j,fuel+1,p,d,_=>by
  rw[Nd];unfold Zj
  rw[Zh,Jf (by omega),C9 (l:=c.outs.l) (by omega),Bu];rfl
 | m+1,j,fuel+1,p,d,k=>by
  rw[Nd];unfold Zj
  have h:j<c.outs.l.length:=by omega
  have b:=hs.out
  rw[Zh,Hy h,NE,Cd (l:=c.outs.l) h,Bu]
  rcases p with _ | ⟨x,e,f⟩
  ·simp only[Bp,beq_self_eq_true,cond_true]
   rw[D8,ct,B6,QM hs h,Bo (by have:=b.2;omega),wF hs m (j+1) fuel _ (by omega) (by omega)]
  ·have i:(e==0)=false:=by simpa using f
   simp only[Bp,i,beq_self_eq_true,cond_true,cond_false]
   rw[Lw,Bf (fun _ _=>Lw)]
def HW (ol:List Int):List Int→Nat→List Int
 | [],_=>[]
 | a::r,j=>cond (ol.contains a) ((j:Int)::HW ol r (j+1)) (HW ol r (j+1))
theorem Auz (ol:List Int):∀ (l:List Int) (j:Nat) (x:Int),x ∈ HW ol l j→(j:Int)≤x
 | [],_,_,h=>by simp[HW] at h
 | a::r,j,x,h=>by
  rw[HW] at h
  have b:=Auz ol r (j+1) x
  cases c:ol.contains a<;>rw[c] at h<;>simp at h
  ·have:=b h;omega
  ·rcases h with rfl | h
   ·omega
   ·have:=b h;omega
theorem tP {f:Int→Nat×Nat} (ol:List Int):∀ (l:List Int) (j:Nat) (pre:List Int),(∀ x ∈ pre,x<(j:Int))→pZ (pre++HW ol l j) (l.map f) j=((l.filter fun a=>!ol.contains a).map f)
 | [],_,_,_=>rfl
 | a::r,j,pre,e=>by
  rw[List.map_cons,pZ,HW,List.filter_cons]
  have c:¬ (j:Int) ∈ pre:=fun h=>by have:=e _ h;omega
  cases k:ol.contains a with
  | true =>
   have i:(pre++cond true ((j:Int)::HW ol r (j+1)) (HW ol r (j+1))).contains (j:Int)=true:=by simp
   rw[i]
   have:=tP (f:=f) ol r (j+1) (pre++[(j:Int)]) (by
    intro x b
    rcases List.mem_append.1 b with d | d
    ·have:=e x d;omega
    ·simp at d;omega)
   simp only[cond_true,Bool.not_true,Bool.false_eq_true,if_false]
   rw[←this];simp
  | false =>
   have i:(pre++cond false ((j:Int)::HW ol r (j+1)) (HW ol r (j+1))).contains (j:Int)=false:=by
    simp only[cond_false]
    rw[List.contains_eq_mem]
    simp only[decide_eq_false_iff_not,List.mem_append,not_or]
    exact⟨c,fun d=>by have:=Auz ol r (j+1) _ d;omega⟩
   rw[i]
   have:=tP (f:=f) ol r (j+1) pre (by intro x b;have:=e x b;omega)
   simp only[cond_false,Bool.not_false,if_true,List.map_cons]
   rw[this]
theorem UK {N:Nat} {c:CaseD} {o:Bool} {hr:Int} {j:Nat} {p:Df} {K7:Int→LA→O R} {K9:Int→Int→LA→O R} {K:LA→Int→O R} (hs:Small c N) (hN:4096≤N) (v:PreV c) (h:j<c.outs.l.length):∀ (m q fuel:Nat) (A:List Int),q+m=(A7 c hr).length→m<fuel→A.length≤q →
  A++HW c.outs.l[j].lines.l ((A7 c hr).drop q) q=HW c.outs.l[j].lines.l (A7 c hr) 0 →
  K4 N K7 K9 K (A7 c hr).length (A7 c hr).length o c.av (((A7 c hr).map (Ff c)).flatMap B7) (Aq (A7 c hr)) fuel hr (j:Int) A.length (q:Int) (Ds p) (Aq A)=K9 hr ((j+1:Nat):Int) (Ds (Auy c hr j c.outs.l[j] p))
 | 0,q,fuel+1,A,hq,_,hA,b=>by
  rw[K4];unfold V5
  have C:=HV hr c.lines.l 0
  have D:=v.nl
  have i:=v.nb
  have k:=hs.out
  have L:c.buses.l.length*c.buses.l.length≤32*32:=Nat.mul_le_mul i i
  have n:(A7 c hr).length≤64:=by unfold A7;omega
  rw[C9 (l:=A7 c hr) (by omega),HW,List.append_nil] at b
  have u:∀ e ∈ (A7 c hr).map (Ff c),e.1<c.buses.l.length∧e.2<c.buses.l.length:=by
   intro e u
   simp only[List.mem_map] at u
   obtain⟨l,F,rfl⟩:=u
   obtain⟨x,d⟩:=v.lnV F
   rw[gi d];exact⟨d.f1,d.t1⟩
  rw[Jf (by omega),cf,Gs,List.take_of_length_le (by rw[gj];simp),Nat.mul_one,List.take_of_length_le (by rw[Et];exact Nat.le_refl _),
   Ad2 (by simp) rfl (by simp;omega) (by simp;omega) (by omega) (by omega) u ⟨by omega,by omega⟩,Af (by decide),Bo (by have:=k.2;omega)]
  have e1:pZ A ((A7 c hr).map (Ff c)) 0=(((A7 c hr).filter fun a=>!c.outs.l[j].lines.l.contains a).map (Ff c)):=by
   rw[b]
   have:=tP (f:=Ff c) c.outs.l[j].lines.l (A7 c hr) 0 [] (by simp)
   simpa using this
  rw[e1]
  have G:Jn c.buses.l.length ((A7 c hr).map (Ff c))≤Jn c.buses.l.length (((A7 c hr).filter fun a=>!c.outs.l[j].lines.l.contains a).map (Ff c)):=Az6 (by
   intro e s
   simp only[List.mem_map,List.mem_filter] at s ⊢
   obtain⟨l,⟨F,_⟩,rfl⟩:=s
   exact⟨l,F,rfl⟩)
  have M:(!decide ((Jn c.buses.l.length (((A7 c hr).filter fun a=>!c.outs.l[j].lines.l.contains a).map (Ff c)):Int)>(Jn c.buses.l.length ((A7 c hr).map (Ff c)):Int)))=A7a c hr c.outs.l[j]:=by
   unfold A7a
   generalize Jn c.buses.l.length ((A7 c hr).map (Ff c))=x at *
   generalize Jn c.buses.l.length (((A7 c hr).filter fun a=>!c.outs.l[j].lines.l.contains a).map (Ff c))=y at *
   by_cases I:x=y
   ·subst I;simp
   ·have a1:((y:Int)==(x:Int))=false:=by simp;omega
    rw[a1];simp;omega
  rw[M];rfl
 | m+1,q,fuel+1,A,hq,Y,hA,b=>by
  rw[K4];unfold V5
  have t:q<(A7 c hr).length:=by omega
  have C:=HV hr c.lines.l 0
  have D:=v.nl
  have n:(A7 c hr).length≤64:=by unfold A7;omega
  have S:c.outs.l[j] ∈ c.outs.l:=List.getElem_mem h
  have T:=hs.oli _ S
  have U:∀ (f:LA→Nat→O R),Br 1 (List.drop 1 (List.drop (j*4) (List.flatMap OutD.av c.outs.l))) f=f (Aq c.outs.l[j].lines.l) c.outs.l[j].lines.l.length:=fun f=>by rw[At Dk _ _ h];simp[OutD.av,Ed,Fl]
  have V:(Nat.ble (A.length+1) 140737488355328&&Nat.ble ((A.length+1)*8) 140737488355328)=true:=by rw[Bs,Bs];simp;omega
  have X:List.take (A.length*1) (Aq A)++[.int .i64 (q:Int)]=Aq (A++[(q:Int)]):=zH (B:=[(q:Int)]) rfl
  rw[Hy t,ct,Zh,Ab h,ct,Int.toNat_natCast,U,Ab t,ct,Adx (by simpa using t),Int.toNat_natCast,UE t,TW rfl T,V,ct,X,Bo (by omega)]
  rw[Cd t,HW] at b
  cases d:c.outs.l[j].lines.l.contains (A7 c hr)[q] with
  | true =>
   rw[d] at b
   have z:=UK (o:=o) (hr:=hr) (j:=j) (p:=p) (K7:=K7) (K9:=K9) (K:=K) hs hN v h m (q+1) fuel (A++[(q:Int)]) (by omega) (by omega) (by simp;omega) (by simpa using b)
   rw[List.length_append] at z
   simpa using z
  | false =>
   rw[d] at b
   have z:=UK (o:=o) (hr:=hr) (j:=j) (p:=p) (K7:=K7) (K9:=K9) (K:=K) hs hN v h m (q+1) fuel A (by omega) (by omega) (by omega) (by simpa using b)
   simpa using z
theorem wG {N:Nat} {c:CaseD} {o:Bool} {hr:Int} {K7:Int→LA→O R} {K:LA→Int→O R} (hs:Small c N) (hN:4096≤N) (v:PreV c):∀ (m j fuel:Nat) (p:Df),j+m=c.outs.l.length→m<fuel →
  Kd N K7 K (A7 c hr).length (A7 c hr).length o c.av (((A7 c hr).map (Ff c)).flatMap B7) (Aq (A7 c hr)) fuel hr (j:Int) (Ds p)=K7 (IntKind.wrap .i64 (hr+1)) (Ds (Bu (Auy c hr) (c.outs.l.drop j) j p))
 | 0,j,fuel+1,p,b,_=>by
  rw[Kd];unfold Zi
  rw[Zh,Jf (by omega),cf,C9 (l:=c.outs.l) (by omega),Bu]
 | m+1,j,fuel+1,p,b,i=>by
  rw[Kd];unfold Zi
  have h:j<c.outs.l.length:=by omega
  have d:=HV hr c.lines.l 0
  have e:=v.nl
  have f:=wG (o:=o) (hr:=hr) (K7:=K7) (K:=K) hs hN v m (j+1) fuel (Auy c hr j c.outs.l[j] p) (by omega) (by omega)
  have l10:=UK (R:=R) (N:=N) (c:=c) (o:=o) (hr:=hr) (j:=j) (p:=p) (K7:=K7) (K9:=Kd N K7 K (A7 c hr).length (A7 c hr).length o c.av (((A7 c hr).map (Ff c)).flatMap B7) (Aq (A7 c hr)) fuel) (K:=K) hs hN v h (A7 c hr).length 0 N [] (by omega) (by unfold A7;omega) (by simp) (by simp)
  rw[Zh,Hy h,ct,Cd (l:=c.outs.l) h,Bu,←f,←l10]
  rfl
theorem wH {N H:Nat} {c:CaseD} {o:Bool} {K:LA→Int→O R} (hs:Small c N) (hN:4096≤N) (v:PreV c) (hH:c.hours=(H:Int)):∀ (m j fuel:Nat) (p:Df),j+m=H→m<fuel →
  Em N K o c.av fuel (j:Int) (Ds p)=K (w3 (T2 c m j p)) (Bp (T2 c m j p))
 | 0,j,fuel+1,p,b,_=>by
  rw[Em];unfold Sk
  rw[Gr,hH,Jf (by omega),Apv,T2];rfl
 | m+1,j,fuel+1,p,b,k=>by
  rw[Em];unfold Sk EL NF
  have n:=v.hours
  rw[Gr,hH,Hy (by omega),NE,Apv]
  rcases p with _ | ⟨x,e,d⟩
  ·simp only[Bp,beq_self_eq_true,cond_true]
   have l9:=wG (R:=R) (N:=N) (c:=c) (o:=o) (hr:=(j:Int)) (K7:=Em N K o c.av fuel) (K:=K) hs hN v c.outs.l.length 0 N none (by omega) hs.out.1
   rw[D8,ct,B6,Az7 hs (fun l f=>v.lnV f)]
   simp only[List.drop_zero,Int.natCast_zero] at l9
   rw[l9,Bo (by omega),wH hs hN v hH m (j+1) fuel _ (by omega) (by omega)];rfl
  ·have i:(e==0)=false:=by simpa using d
   simp only[Bp,i,beq_self_eq_true,cond_true,cond_false]
   rw[vu]
theorem Au0 {N:Nat} {c:CaseD} {o:Bool} {y:(Int×Int×Int)×{ e:Int // e≠0 }} {K:LA→Int→O R} {fuel:Nat}:Em N K o c.av (fuel+1) 0 (Ds (some y))=K (w3 (some y)) (Bp (some y)):=by
 rw[Em];unfold Sk
 rw[Gr,NE,Apv]
 have b:(y.2.1==0)=false:=by simpa using y.2.2
 cases decide ((0:Int)<c.hours)<;>simp[Bp,b]
theorem HX {N:Nat} {c:CaseD} {o:Bool} {K:LA→Int→O R} (hs:Small c N) (hN:4096≤N):Ut N c.av o K=K (w3 (Cc c)) (Bp (Cc c)):=by
 rw[jq];unfold UG
 have b:[(.int .i64 (0:Int)),(.int .i64 (0:Int)),(.int .i64 (0:Int)),(.int .i64 (0:Int))]=Ds none:=rfl
 rw[D8,ct,B6,b,TZ hs]
 have l0:=fun p=>vz (R:=R) (N:=N) (c:=c) (o:=o) (K:=K) hs c.buses.l.length 0 N p (by omega) hs.bus.1
 have l2:=fun p=>wB (R:=R) (N:=N) (c:=c) (o:=o) (K:=K) hs c.lines.l.length 0 N p (by omega) hs.lin.1
 have l3:=fun p=>wC (R:=R) (N:=N) (c:=c) (o:=o) (K:=K) hs c.units.l.length 0 N p (by omega) hs.uni.1
 have l4:=fun p=>wD (R:=R) (N:=N) (c:=c) (o:=o) (K:=K) hs c.stores.l.length 0 N p (by omega) hs.sto.1
 have l5:=fun p=>wE (R:=R) (N:=N) (c:=c) (o:=o) (K:=K) hs c.ties.l.length 0 N p (by omega) hs.tie.1
 have l6:=fun p=>wF (R:=R) (N:=N) (c:=c) (o:=o) (K:=K) hs c.outs.l.length 0 N p (by omega) hs.out.1
 simp only[List.drop_zero,Int.natCast_zero] at l0 l2 l3 l4 l5 l6
 try dsimp only
 rw[l0,l2,l3,l4,l5,l6]
 show Em N K o c.av N 0 (Ds (a6 c))=_
 unfold Cc
 cases d:a6 c with
 | some y =>
  rcases N with _ | N
  ·omega
  ·exact Au0
 | none =>
  have v:=gk d
  have e:=v.hours
  have:=wH (R:=R) (N:=N) (H:=c.hours.toNat) (c:=c) (o:=o) (K:=K) hs hN v (by omega) c.hours.toNat 0 N none (by omega) (by omega)
  simpa using this
end
end Gx.Cf

namespace Gx.Cf
open Go Go.Proofs
section
variable {R:Type}
theorem Bae (p:Df):(w3 p).length=3:=by rcases p with _ | ⟨⟨a,b,f⟩,e⟩<;>rfl
end
end Gx.Cf

namespace Gx.Cf
open Go Go.Proofs
section
variable {R:Type}
theorem Au1 (v n:Int) (d:1≤n) (e:n≤4611686018427387904):(IntKind.wrap .u64 n==0)=false∧0≤IntKind.wrap .i64 (Int.tmod (IntKind.wrap .u64 v) (IntKind.wrap .u64 n))∧IntKind.wrap .i64 (Int.tmod (IntKind.wrap .u64 v) (IntKind.wrap .u64 n))<n:=by
 have hn:IntKind.wrap .u64 n=n:=IntWalk.u64_in _ (by omega)
 have b:0≤IntKind.wrap .u64 v:=by rw[IntKind.wrap_u64];omega
 rw[hn]
 have h0:0≤Int.tmod (IntKind.wrap .u64 v) n:=Int.tmod_nonneg _ b
 have c:Int.tmod (IntKind.wrap .u64 v) n<n:=Int.tmod_lt_of_pos _ (by omega)
 rw[wrap_i64 _ (by omega)]
 exact⟨by simp;omega,h0,c⟩
theorem nx {N:Nat} {l:List Int} {t o:Bool} (i:l.length≤9223372036854775807) (n:Int) (c:1≤n) (d:n≤4611686018427387904) (k:Nat) (e:k≤l.length) :
  ∃ (v:Int) (b:Nat),0≤v∧v<n∧b≤l.length∧∀ K:Int→Int→O R,Ac N n (Aq l) l.length t o (k:Int) K=K v (b:Int):=by
 by_cases h:k<l.length
 ·obtain⟨a1,a2,a3⟩:=Au1 l[k] n c d
  refine⟨_,k+1,a2,a3,by omega,fun K=>?_⟩
  rw[X0];unfold Y5
  have w0:IntKind.wrap .i64 ((k:Int)+1)=((k+1:Nat):Int):=by rw[wrap_i64 _ (by omega)];omega
  have f:IntKind.wrap .i64 (IntKind.wrap .i64 ((k:Int)+1) - 1)=(k:Int):=by rw[w0,wrap_i64 _ (by omega)];omega
  rw[f,w0,Ab h,ct,HO h,mV];unfold zE
  rw[a1,cf,show decide ((k:Int)≥(l.length:Int))=false by simp;omega,cf]
 ·refine⟨0,k,by omega,by omega,e,fun K=>?_⟩
  rw[X0];unfold Y5
  rw[show decide ((k:Int)≥(l.length:Int))=true by simp;omega,ct]
theorem Ad3 {N m:Nat} {l:List Int} {t o:Bool} (e:l.length≤9223372036854775807) (n:Int) (f:1≤n) (i:n≤4611686018427387904) (s:m≤1000):∀ (r j fuel:Nat) (k:Nat) (A:List Int),j+r=m→r<fuel→k≤l.length→A.length=j →
  ∃ (B:List Int) (q:Nat),B.length=r∧(∀ x ∈ B,0≤x∧x<n)∧q≤l.length∧∀ K:Nat→Int→LA→O R,F6 N K (m:Int) n (Aq l) l.length t o fuel j (j:Int) (k:Int) (Aq A)=K m (q:Int) (Aq (A++B))
 | 0,j,fuel+1,k,A,u,_,b,hA=>by
  refine⟨[],k,rfl,by simp,b,fun K=>?_⟩
  rw[F6];unfold Ox
  have:j=m:=by omega
  subst this
  rw[Jf (Nat.le_refl _),cf,List.append_nil]
 | r+1,j,fuel+1,k,A,u,S,b,hA=>by
  obtain⟨v,y,v0,v1,c,z⟩:=nx (R:=R) (N:=N) (t:=t) (o:=o) e n f i k b
  obtain⟨B,C,D,F,G,I⟩:=Ad3 e n f i s r (j+1) fuel y (A++[v]) (by omega) (by omega) c (by simp[hA])
  refine⟨v::B,C,by simp[D],?_,G,fun K=>?_⟩
  ·intro x d
   rcases List.mem_cons.1 d with rfl | d
   ·exact⟨v0,v1⟩
   ·exact F x d
  ·rw[F6];unfold Ox
   have L:(Nat.ble (j+1) 140737488355328&&Nat.ble ((j+1)*8) 140737488355328)=true:=by rw[Bs,Bs];simp;omega
   have M:List.take (j*1) (Aq A)++[.int .i64 v]=Aq (A++[v]):=zH (B:=[v]) hA.symm
   rw[Hy (by omega),ct,z,L,ct,M,Bo (by omega),I]
   simp
theorem HY {N m:Nat} {l:List Int} {t o:Bool} (hN:1001≤N) (c:l.length≤9223372036854775807) (n:Int) (d:1≤n) (e:n≤4611686018427387904) (f:m≤1000) (k:Nat) (i:k≤l.length) :
  ∃ (B:List Int) (b:Nat),B.length=m∧(∀ x ∈ B,0≤x∧x<n)∧b≤l.length∧∀ K:Nat→Int→LA→O R,E4 N (m:Int) n (Aq l) l.length t o (k:Int) K=K m (b:Int) (Aq B):=by
 obtain⟨B,b,j,q,s,u⟩:=Ad3 (R:=R) (N:=N) (t:=t) (o:=o) c n d e f m 0 N k [] (by omega) (by omega) i rfl
 refine⟨B,b,j,q,s,fun K=>?_⟩
 rw[KD];unfold Vq
 simpa[Aq] using u K
theorem tQ {N:Nat} {l:List Int} {t o:Bool} (d:l.length≤9223372036854775807) (H:Int) (n:1≤H) (z:H≤1000) (k:Nat) (q:k≤l.length) :
  ∃ (B:List Int) (e:Nat),B.length≤1∧(∀ x ∈ B,0≤x∧x<H)∧e≤l.length∧∀ K:Nat→Int→LA→O R,Mx N H (Aq l) l.length t o (k:Int) K=K B.length (e:Int) (Aq B):=by
 obtain⟨v,f,v0,v1,b,i⟩:=nx (R:=R) (N:=N) (t:=t) (o:=o) d 6 (by omega) (by omega) k q
 by_cases j:v=5
 ·obtain⟨u,s,u0,u1,c,y⟩:=nx (R:=R) (N:=N) (t:=t) (o:=o) d H n (by omega) f b
  refine⟨[u],s,by simp,by intro x m;simp at m;subst m;exact⟨u0,u1⟩,c,fun K=>?_⟩
  rw[X1];unfold Y6
  rw[i,y,j];rfl
 ·refine⟨[],f,by simp,by simp,b,fun K=>?_⟩
  rw[X1];unfold Y6
  have:(v==5)=false:=by simpa using j
  rw[i,this];rfl
def Bb7:List UInt8:=[48,49,50,51,52,53,54,55,56,57,97,98,99,100,101,102]
theorem Uu {N:Nat} {c:UInt8} {i:Nat} (hi:i<16) {K:List UInt8→O R}:KG N [c] (i:Int) K=K [c,Bb7.getD i 0]:=by
 rw[vT];unfold Ac5
 have e1:Int.tmod (i:Int) 16=(i:Int):=Int.tmod_eq_of_lt (by omega) (by omega)
 rw[e1,Bo (by omega)]
 have c1:(decide ((0:Int)≤(i:Int))&&(decide ((i:Int)≤((i+1:Nat):Int))&&(decide (((i+1:Nat):Int)≤(16:Int))&&decide ((16:Int)≤(16:Int)))))=true:=by simp;omega
 rw[c1,ct]
 simp only[Int.toNat_natCast,Nat.add_sub_cancel_left]
 have:List.take 1 (List.drop i ([48,49,50,51,52,53,54,55,56,57,97,98,99,100,101,102]:List UInt8))=[Bb7.getD i 0]:=by
  rw[Cd (by simpa using hi)]
  simp[Bb7,hi]
 rw[this];rfl
end
end Gx.Cf

namespace Gx.Cf
open Go Go.Proofs
section
variable {R:Type}
theorem Rk {a:Int} (h:-9223372036854775808≤a∧a≤9223372036854775807):IntKind.wrap .i64 a=a:=wrap_i64 a h
theorem Jr {lo hi n:Int} (h:lo≤n∧n≤hi):Fm lo hi n=true:=by unfold Fm;simp;omega
structure LineG (i:Nat) (fr tx H:Int) (x:LineD):Prop where
 name:x.name=[108,Bb7.getD i 0]
 fr:x.fr=fr
 tx:x.tl=tx
 re:(K3 x.re&&decide (x.re.num>0))=true
 smin:(K3 x.smin&&decide (x.smin.num≤0))=true
 smax:(K3 x.smax&&decide (x.smax.num≥0))=true
 lim:Fm 0 1048576 x.limit=true
 em:Fm x.limit 1048576 x.emer=true
 aw:x.away.l.length≤1
 awr:∀ y ∈ x.away.l,0≤y∧y<H
theorem Alp {f:FracD} (h:1≤f.den∧f.den≤1048576∧-1048576≤f.num∧f.num≤1048576):K3 f=true:=by unfold K3;rw[Jr (by omega),Jr (by omega)];rfl
theorem X7 {B:List Int}:List.take (B.length*1) (Aq B)=B.flatMap IS:=by rw[Nat.mul_one,List.take_of_length_le (by rw[Et];exact Nat.le_refl _),Fl]
theorem Alq {N:Nat} {l:List Int} {t o:Bool} (c:l.length≤9223372036854775807) {i:Nat} (hi:i<16) (fr tx:Int) {H:Int} (hH:1≤H∧H≤24) (k:Nat) (M:k≤l.length) :
  ∃ (x:LineD) (I:Nat),LineG i fr tx H x∧I≤l.length∧∀ K:LA→Int→O R,Rf N (i:Int) fr tx H (Aq l) l.length t o (k:Int) K=K x.av (I:Int):=by
 obtain⟨y2,ky2,y20,y21,m,n⟩:=nx (R:=R) (N:=N) (t:=t) (o:=o) c 4 (by omega) (by omega) k M
 obtain⟨y4,ky4,y40,y41,q,s⟩:=nx (R:=R) (N:=N) (t:=t) (o:=o) c 2 (by omega) (by omega) ky2 m
 obtain⟨y6,ky6,y60,y61,u,v⟩:=nx (R:=R) (N:=N) (t:=t) (o:=o) c 40 (by omega) (by omega) ky4 q
 obtain⟨y8,ky8,y80,y81,y,z⟩:=nx (R:=R) (N:=N) (t:=t) (o:=o) c 20 (by omega) (by omega) ky6 u
 obtain⟨y10,ky10,y100,y101,b,d⟩:=nx (R:=R) (N:=N) (t:=t) (o:=o) c 5 (by omega) (by omega) ky8 y
 by_cases L:y10=4
 ·have e4:(y10==4)=true:=by simpa using L
  obtain⟨y12,ky12,y120,y121,e,A⟩:=nx (R:=R) (N:=N) (t:=t) (o:=o) c 4 (by omega) (by omega) ky10 b
  obtain⟨y14,ky14,y140,y141,f,C⟩:=nx (R:=R) (N:=N) (t:=t) (o:=o) c 2 (by omega) (by omega) ky12 e
  obtain⟨y16,ky16,y160,y161,j,D⟩:=nx (R:=R) (N:=N) (t:=t) (o:=o) c 4 (by omega) (by omega) ky14 f
  obtain⟨B,kB,F,G,hkB,hB⟩:=tQ (R:=R) (N:=N) (t:=t) (o:=o) c H hH.1 (by omega) ky16 j
  refine⟨⟨[108,Bb7.getD i 0],fr,tx,⟨1+y2,1+y4⟩,⟨0 - y12,1+y14⟩,⟨y16,1⟩,4+y6,4+y6+y8,.of B false false⟩,kB,⟨rfl,rfl,rfl,?_,?_,?_,Jr (by simp only;omega),Jr (by simp only;omega),F,G⟩,hkB,fun K=>?_⟩
  ·rw[Alp (by simp only;omega)];simp;omega
  ·rw[Alp (by simp only;omega)];simp;omega
  ·rw[Alp (by simp only;omega)];simp;omega
  ·rw[X2];unfold Y7
   rw[Uu hi,n,s,v,z,d,e4,ct,A,C,D,hB,X7,Rk (a:=1+y2) (by omega),Rk (a:=1+y4) (by omega),Rk (a:=0 - y12) (by omega),Rk (a:=1+y14) (by omega),Rk (a:=4+y6) (by omega),Rk (a:=4+y6+y8) (by omega)]
   rfl
 ·have e4:(y10==4)=false:=by simpa using L
  obtain⟨B,kB,F,G,hkB,hB⟩:=tQ (R:=R) (N:=N) (t:=t) (o:=o) c H hH.1 (by omega) ky10 b
  refine⟨⟨[108,Bb7.getD i 0],fr,tx,⟨1+y2,1+y4⟩,⟨0,1⟩,⟨0,1⟩,4+y6,4+y6+y8,.of B false false⟩,kB,⟨rfl,rfl,rfl,?_,?_,?_,Jr (by simp only;omega),Jr (by simp only;omega),F,G⟩,hkB,fun K=>?_⟩
  ·rw[Alp (by simp only;omega)];simp;omega
  ·rw[Alp (by simp only;omega)];simp
  ·rw[Alp (by simp only;omega)];simp
  ·rw[X2];unfold Y7
   rw[Uu hi,n,s,v,z,d,e4,cf,hB,X7,Rk (a:=1+y2) (by omega),Rk (a:=1+y4) (by omega),Rk (a:=4+y6) (by omega),Rk (a:=4+y6+y8) (by omega)]
   rfl
structure UnitG (i:Nat) (nb H:Int) (u:UnitD):Prop where
 name:u.name=[117,Bb7.getD i 0]
 bus:0≤u.bus∧u.bus<nb
 min:Fm 0 1048576 u.min=true
 max:Fm u.min 1048576 u.max=true
 sl:1≤u.segs.l.length∧u.segs.l.length≤8
 sok:u.segs.l.all vf=true
 sord:dy u.segs.l=true
 ssum:(aX 0 u.segs.l==IntKind.wrap .i64 (u.max - u.min))=true
 noLoad:Fm 0 1048576 u.noLoad=true
 rampUp:Fm 0 1048576 u.rampUp=true
 rampDown:Fm 0 1048576 u.rampDown=true
 startRamp:Fm u.min u.max u.startRamp=true
 stopRamp:Fm u.min u.max u.stopRamp=true
 upTime:Fm 0 24 u.upTime=true
 downTime:Fm 0 24 u.downTime=true
 startTime:Fm 0 24 u.startTime=true
 hotCost:Fm 0 1048576 u.hotCost=true
 coldCost:Fm 0 1048576 u.coldCost=true
 hotHours:Fm 0 24 u.hotHours=true
 reserve:Fm 0 1048576 u.reserve=true
 reservePrice:Fm 0 1048576 u.reservePrice=true
 aw:u.away.l.length≤1
 awr:∀ y ∈ u.away.l,0≤y∧y<H
 state:Fm 0 2 u.state=true
 starting:(u.state != 1||u.startTime != 0)=true
 hours:Fm 1 48 u.hours=true
 started:(u.state != 1||decide (u.hours≤u.startTime))=true
 output:cond (u.state==2) (Fm u.min u.max u.output) (Fm 0 0 u.output)=true
theorem Alr {s:SegD}:∀ {S:List SegD},dy S=true→(∀ x ∈ S,x.price≤s.price)→dy (S++[s])=true
 | [],_,_=>pU s
 | [a],_,h=>by
  rw[List.cons_append,List.nil_append,HP,pU]
  have:=h a (by simp);simp;omega
 | a::b::r,c,h=>by
  rw[HP] at c
  simp only[Bool.and_eq_true] at c
  rw[List.cons_append,List.cons_append,HP,c.1]
  have:=Alr (S:=b::r) c.2 (fun x e=>h x (by rcases List.mem_cons.1 e with d | d<;>simp[d]))
  simpa using this
theorem Als {s:SegD}:∀ {S:List SegD} {a:Int},aX a (S++[s])=IntKind.wrap .i64 (aX a S+s.width)
 | [],a=>rfl
 | x::r,a=>by rw[List.cons_append,aX,aX];exact Als
theorem A8x (S:List SegD):(S.flatMap SegD.av).length=S.length*2:=by
 induction S with
 | nil=>rfl
 | cons e r b=>rw[List.flatMap_cons,List.length_append,b,Pw];simp;omega
theorem tR {S:List SegD} {n:Nat} (h:n=S.length):List.take (n*2) (S.flatMap SegD.av)=S.flatMap SegD.av:=List.take_of_length_le (by rw[A8x,h];exact Nat.le_refl _)
theorem Alt {N:Nat} {l:List Int} {t o:Bool} (b:l.length≤9223372036854775807) {i:Nat} {nb H bus mn noLoad:Int} (hb:0≤bus∧bus<nb) (hmn:0≤mn∧mn<8) (hno:0≤noLoad∧noLoad<20) (hH:1≤H∧H≤24):∀ (n fuel:Nat) (p:Int) (k:Nat) (M:Int) (S:List SegD),n<fuel→k≤l.length→S.length+n≤2→1≤S.length+n→(∀ x ∈ S,x.price≤p∧vf x=true)→dy S=true→aX 0 S=M - mn→0≤M - mn→M - mn≤15*S.length→-10≤p→p≤20+10*S.length →
  ∃ (u:UnitD) (k':Nat),UnitG i nb H u∧k'≤l.length∧∀ K:LA→Int→O R,Fs N K H (Aq l) l.length t o [117,Bb7.getD i 0] bus mn noLoad fuel p (n:Int) (k:Int) M S.length (S.flatMap SegD.av)=K u.av (k':Int)
 | 0,fuel+1,p,k,M,S,_,hk,hS,hS1,hp,ho,hw,hM0,hM1,_,_=>by
  obtain⟨y16,ky16,y160,y161,j,V⟩:=nx (R:=R) (N:=N) (t:=t) (o:=o) b 20 (by omega) (by omega) k hk
  obtain⟨y18,ky18,y180,y181,m,X⟩:=nx (R:=R) (N:=N) (t:=t) (o:=o) b 20 (by omega) (by omega) ky16 j
  obtain⟨y20,ky20,y200,y201,q,Y⟩:=nx (R:=R) (N:=N) (t:=t) (o:=o) b (M - mn+1) (by omega) (by omega) ky18 m
  obtain⟨y22,ky22,y220,y221,s,hy22⟩:=nx (R:=R) (N:=N) (t:=t) (o:=o) b (M - mn+1) (by omega) (by omega) ky20 q
  obtain⟨y24,ky24,y240,y241,v,hy24⟩:=nx (R:=R) (N:=N) (t:=t) (o:=o) b 3 (by omega) (by omega) ky22 s
  obtain⟨y26,ky26,y260,y261,y,hy26⟩:=nx (R:=R) (N:=N) (t:=t) (o:=o) b 3 (by omega) (by omega) ky24 v
  obtain⟨y28,ky28,y280,y281,z,hy28⟩:=nx (R:=R) (N:=N) (t:=t) (o:=o) b 2 (by omega) (by omega) ky26 y
  obtain⟨y30,ky30,y300,y301,A,hy30⟩:=nx (R:=R) (N:=N) (t:=t) (o:=o) b 30 (by omega) (by omega) ky28 z
  obtain⟨y32,ky32,y320,y321,C,hy32⟩:=nx (R:=R) (N:=N) (t:=t) (o:=o) b 30 (by omega) (by omega) ky30 A
  obtain⟨y34,ky34,y340,y341,D,hy34⟩:=nx (R:=R) (N:=N) (t:=t) (o:=o) b 4 (by omega) (by omega) ky32 C
  obtain⟨y36,ky36,y360,y361,F,hy36⟩:=nx (R:=R) (N:=N) (t:=t) (o:=o) b 8 (by omega) (by omega) ky34 D
  obtain⟨y38,ky38,y380,y381,G,hy38⟩:=nx (R:=R) (N:=N) (t:=t) (o:=o) b 4 (by omega) (by omega) ky36 F
  obtain⟨B,kB,b1,b2,hkB,hB⟩:=tQ (R:=R) (N:=N) (t:=t) (o:=o) b H hH.1 (by omega) ky38 G
  obtain⟨y43,ky43,y430,y431,I,hy43⟩:=nx (R:=R) (N:=N) (t:=t) (o:=o) b (2+y28) (by omega) (by omega) kB hkB
  obtain⟨y46,ky46,y460,y461,c,hy46⟩:=nx (R:=R) (N:=N) (t:=t) (o:=o) b 4 (by omega) (by omega) ky43 I
  have i43:Ae y43 3=true:=Us y430 (by omega)
  obtain⟨x45,hx45,hst⟩:∃ x45:Int,(∀ f:Int→O R,Ap .i64 (List.drop (0+((Int.toNat y43)*1)) [(.int .i64 (0:Int)),(.int .i64 (2:Int)),(.int .i64 (1:Int))]) f=f x45)∧(x45=0∨x45=2∨(x45=1∧y28=1)):=by
   have e:[(.int .i64 (0:Int)),(.int .i64 (2:Int)),(.int .i64 (1:Int))]=Aq [0,2,1]:=rfl
   refine⟨([0,2,1]:List Int).getD y43.toNat 0,fun f=>by rw[e,Adx (by simp;omega)],?_⟩
   have:y43=0∨y43=1∨y43=2:=by omega
   rcases this with rfl | rfl | rfl
   ·left;rfl
   ·right;left;rfl
   ·right;right;exact⟨rfl,by omega⟩
  have wM:IntKind.wrap .i64 (IntKind.wrap .i64 (M - mn)+1)=M - mn+1:=by rw[Rk (a:=M - mn) (by omega),Rk (by omega)]
  have head:∀ K:LA→Int→O R,Fs N K H (Aq l) l.length t o [117,Bb7.getD i 0] bus mn noLoad (fuel+1) p ((0:Nat):Int) (k:Int) M S.length (S.flatMap SegD.av) =
    Ny N K (Aq l) l.length t o (ky46:Int) [117,Bb7.getD i 0] bus mn M S.length noLoad y16 y18 y24 y26 y28 y30 y34 y36 y38 B.length x45 (S.flatMap SegD.av) (Aq B) (mn+y20) (mn+y22) (y30+y32) (cond (x45==1) 1 (1+y46)):=fun K=>by
   rw[Fs];unfold Rg
   rw[show decide (((0:Nat):Int)>0)=false from rfl,cf,wM,V,X,Y,hy22,hy24,hy26,hy28,hy30,hy32,hy34,hy36,hy38,hB,Rk (a:=2+y28) (by omega),hy43,i43,ct,hx45,hy46,Rk (a:=mn+y20) (by omega),Rk (a:=mn+y22) (by omega),Rk (a:=y30+y32) (by omega),Rk (a:=1+y46) (by omega)]
   cases x45==1<;>rfl
  have hhr:1≤(cond (x45==1) (1:Int) (1+y46))∧(cond (x45==1) (1:Int) (1+y46))≤4:=by cases x45==1<;>simp<;>omega
  have hst1:x45=1→cond (x45==1) (1:Int) (1+y46)=1:=by intro e;subst e;rfl
  have sall:S.all vf=true:=by rw[List.all_eq_true];exact fun x hx=>(hp x hx).2
  have ssum:(aX 0 S==IntKind.wrap .i64 (M - mn))=true:=by rw[Rk (a:=M - mn) (by omega),hw];simp
  have starting:(x45 != 1||y28 != 0)=true:=by
   rcases hst with h | h | ⟨h,h'⟩
   ·rw[h];rfl
   ·rw[h];rfl
   ·rw[h,h'];rfl
  have started:(x45 != 1||decide ((cond (x45==1) (1:Int) (1+y46))≤y28))=true:=by
   rcases hst with h | h | ⟨h,h'⟩
   ·rw[h];rfl
   ·rw[h];rfl
   ·rw[h,h'];rfl
  have stR:Fm 0 2 x45=true:=Jr (by omega)
  by_cases d:x45=2
  ·obtain⟨y48,ky48,y480,y481,L,hy48⟩:=nx (R:=R) (N:=N) (t:=t) (o:=o) b (M - mn+1) (by omega) (by omega) ky46 c
   refine⟨⟨[117,Bb7.getD i 0],bus,mn,M,.of S false false,noLoad,y16,y18,mn+y20,mn+y22,y24,y26,y28,y30,y30+y32,y34,y36,y38,.of B false false,x45,cond (x45==1) 1 (1+y46),mn+y48⟩,ky48,
    ⟨rfl,hb,Jr (by simp only;omega),Jr (by simp only;omega),by simp only[Sl.l];omega,sall,ho,ssum,Jr (by simp only;omega),Jr (by simp only;omega),Jr (by simp only;omega),Jr (by simp only;omega),Jr (by simp only;omega),Jr (by simp only;omega),Jr (by simp only;omega),Jr (by simp only;omega),Jr (by simp only;omega),Jr (by simp only;omega),Jr (by simp only;omega),Jr (by simp only;omega),Jr (by simp only;omega),b1,b2,stR,starting,Jr (by simp only;omega),started,?_⟩,L,fun K=>?_⟩
   ·have:(x45==2)=true:=by simpa using d
    simp only[this,cond_true];exact Jr (by omega)
   ·rw[head];unfold Ny
    have:(x45==2)=true:=by simpa using d
    rw[this,ct,wM,hy48,Rk (a:=mn+y48) (by omega),tR rfl,X7]
    rfl
  ·refine⟨⟨[117,Bb7.getD i 0],bus,mn,M,.of S false false,noLoad,y16,y18,mn+y20,mn+y22,y24,y26,y28,y30,y30+y32,y34,y36,y38,.of B false false,x45,cond (x45==1) 1 (1+y46),0⟩,ky46,
    ⟨rfl,hb,Jr (by simp only;omega),Jr (by simp only;omega),by simp only[Sl.l];omega,sall,ho,ssum,Jr (by simp only;omega),Jr (by simp only;omega),Jr (by simp only;omega),Jr (by simp only;omega),Jr (by simp only;omega),Jr (by simp only;omega),Jr (by simp only;omega),Jr (by simp only;omega),Jr (by simp only;omega),Jr (by simp only;omega),Jr (by simp only;omega),Jr (by simp only;omega),Jr (by simp only;omega),b1,b2,stR,starting,Jr (by simp only;omega),started,?_⟩,c,fun K=>?_⟩
   ·have:(x45==2)=false:=by simpa using d
    simp only[this,cond_false];exact Jr (by omega)
   ·rw[head];unfold Ny
    have:(x45==2)=false:=by simpa using d
    rw[this,cf,tR rfl,X7]
    rfl
 | n+1,fuel+1,p,k,M,S,hf,hk,hS,hS1,hp,ho,hw,hM0,hM1,hp0,hp1=>by
  obtain⟨y12,ky12,y120,y121,T,hy12⟩:=nx (R:=R) (N:=N) (t:=t) (o:=o) b 15 (by omega) (by omega) k hk
  obtain⟨y14,ky14,y140,y141,U,hy14⟩:=nx (R:=R) (N:=N) (t:=t) (o:=o) b 10 (by omega) (by omega) ky12 T
  obtain⟨u,k',g1,g2,g3⟩:=Alt (N:=N) (t:=t) (o:=o) (i:=i) (nb:=nb) (H:=H) (bus:=bus) (mn:=mn) (noLoad:=noLoad) b hb hmn hno hH n fuel (p+y14) ky14 (M+(1+y12)) (S++[(⟨1+y12,p⟩:SegD)]) (by omega) U (by simp;omega) (by simp;omega) (by
   intro x hx
   rcases List.mem_append.1 hx with h | h
   ·have:=hp x h;exact⟨by omega,this.2⟩
   ·simp at h;subst h
    refine⟨by simp only;omega,?_⟩
    unfold vf;rw[Jr (by simp only;omega),Jr (by simp only;omega)];rfl) (Alr ho (fun x hx=>(hp x hx).1)) (by rw[Als,hw,Rk (by simp only;omega)];simp only;omega) (by omega) (by simp;omega) (by omega) (by simp;omega)
  refine⟨u,k',g1,g2,fun K=>?_⟩
  rw[Fs];unfold Rg
  have c3:(Nat.ble (S.length+1) 140737488355328&&Nat.ble ((S.length+1)*16) 140737488355328)=true:=by rw[Bs,Bs];simp;omega
  have c5:List.take (S.length*2) (S.flatMap SegD.av)++[.int .i64 (1+y12),.int .i64 p]=(S++[(⟨1+y12,p⟩:SegD)]).flatMap SegD.av:=by rw[tR rfl];simp[SegD.av]
  have wn:IntKind.wrap .i64 (((n+1:Nat):Int) - 1)=(n:Int):=pR (by omega)
  rw[show decide (((n+1:Nat):Int)>0)=true from decide_eq_true (by omega),ct,hy12,c3,ct,hy14,Rk (a:=1+y12) (by omega),Rk (a:=p+y14) (by omega),wn,Rk (a:=M+(1+y12)) (by omega),c5]
  have:=g3 K
  rw[List.length_append] at this
  exact this
theorem A4y {N:Nat} {l:List Int} {t o:Bool} (hN:8≤N) (c:l.length≤9223372036854775807) {i:Nat} (hi:i<16) {nb H:Int} (z:1≤nb∧nb≤1000) (hH:1≤H∧H≤24) (k:Nat) (A:k≤l.length) :
  ∃ (u:UnitD) (q:Nat),UnitG i nb H u∧q≤l.length∧∀ K:LA→Int→O R,Rh N (i:Int) nb H (Aq l) l.length t o (k:Int) K=K u.av (q:Int):=by
 obtain⟨y2,ky2,y20,y21,d,s⟩:=nx (R:=R) (N:=N) (t:=t) (o:=o) c nb (by omega) (by omega) k A
 obtain⟨y4,ky4,y40,y41,e,v⟩:=nx (R:=R) (N:=N) (t:=t) (o:=o) c 8 (by omega) (by omega) ky2 d
 obtain⟨y6,ky6,y60,y61,f,x⟩:=nx (R:=R) (N:=N) (t:=t) (o:=o) c 20 (by omega) (by omega) ky4 e
 obtain⟨y8,ky8,y80,y81,j,y⟩:=nx (R:=R) (N:=N) (t:=t) (o:=o) c 20 (by omega) (by omega) ky6 f
 obtain⟨y10,ky10,y100,y101,b,m⟩:=nx (R:=R) (N:=N) (t:=t) (o:=o) c 2 (by omega) (by omega) ky8 j
 obtain⟨n,hn⟩:∃ n:Nat,1+y10=(n:Int):=⟨(1+y10).toNat,by omega⟩
 obtain⟨u,q,C,D,F⟩:=Alt (R:=R) (N:=N) (l:=l) (t:=t) (o:=o) c (i:=i) (nb:=nb) (H:=H) (bus:=y2) (mn:=y4) (noLoad:=y6) ⟨y20,y21⟩ ⟨y40,y41⟩ ⟨y60,y61⟩ hH n N (y8 - 2) ky10 y4 [] (by omega) b (by simp;omega) (by simp;omega) (by simp) Adt (by simp[aX]) (by omega) (by simp) (by omega) (by simp;omega)
 refine⟨u,q,C,D,fun K=>?_⟩
 rw[PO];unfold Y8
 rw[Uu hi,s,v,x,y,m,Rk (a:=y8 - 2) (by omega),Rk (a:=1+y10) (by omega),hn]
 simpa using F K
structure OutG (i:Nat) (nl nu:Nat) (x:OutD):Prop where
 name:x.name=[111,Bb7.getD i 0]
 ll:x.lines.l.length=1∨x.lines.l.length=2
 lr:∀ y ∈ x.lines.l,0≤y∧y<(nl:Int)
 la:pQ x.lines.l=true
 ml:x.moves.l.length≤nu
 mc:((x.moves.l.length:Int)==0||x.corr)=true
 mr:∀ m ∈ x.moves.l,0≤m.unit∧m.unit<(nu:Int)
 ma:pQ (x.moves.l.map (·.unit))=true
 mi:x.moves.l.all Apf=true
theorem Au2 {s:Int}:∀ {S:List Int},pQ S=true→(∀ x ∈ S,x<s)→pQ (S++[s])=true
 | [],_,_=>gf s
 | [a],_,h=>by
  rw[List.cons_append,List.nil_append,FV,gf]
  have:=h a (by simp);simp;omega
 | a::b::r,c,h=>by
  rw[FV] at c
  simp only[Bool.and_eq_true] at c
  rw[List.cons_append,List.cons_append,FV,c.1]
  have:=Au2 (S:=b::r) c.2 (fun x e=>h x (by rcases List.mem_cons.1 e with d | d<;>simp[d]))
  simpa using this
theorem A7c (S:List MoveD):(S.flatMap MoveD.av).length=S.length*3:=by
 induction S with
 | nil=>rfl
 | cons e r b=>rw[List.flatMap_cons,List.length_append,b,Ey];simp;omega
theorem tS {N:Nat} {l:List Int} {t o:Bool} (q:l.length≤9223372036854775807) {i nl nu:Nat} (s:nu≤16) {B:List Int} (hB1:B.length=1∨B.length=2) (hB2:∀ y ∈ B,0≤y∧y<(nl:Int)) (hB3:pQ B=true):∀ (m j fuel:Nat) (k:Nat) (S:List MoveD),j+m=nu→m<fuel→k≤l.length→S.length≤j→(∀ x ∈ S,0≤x.unit∧x.unit<(j:Int))→pQ (S.map (·.unit))=true→S.all Apf=true →
  ∃ (x:OutD) (f:Nat),OutG i nl nu x∧f≤l.length∧∀ K:LA→Int→O R,Fc N K (nu:Int) (Aq l) l.length t o [111,Bb7.getD i 0] B.length (Aq B) fuel (j:Int) (k:Int) S.length (S.flatMap MoveD.av)=K x.av (f:Int)
 | 0,j,fuel+1,k,S,L,_,A,hS,hr,z,hi=>by
  have C:j=nu:=by omega
  subst C
  refine⟨⟨[111,Bb7.getD i 0],.of B false false,true,.of S false false⟩,k,⟨rfl,hB1,hB2,hB3,hS,by simp,hr,z,hi⟩,A,fun K=>?_⟩
  rw[Fc];unfold Iy
  rw[Jf (Nat.le_refl _),cf,X7,List.take_of_length_le (by rw[A7c];exact Nat.le_refl _)]
  rfl
 | m+1,j,fuel+1,k,S,L,V,A,hS,hr,z,hi=>by
  obtain⟨y10,ky10,y100,y101,b,c⟩:=nx (R:=R) (N:=N) (t:=t) (o:=o) q 2 (by omega) (by omega) k A
  by_cases I:y10=1
  ·obtain⟨y12,ky12,y120,y121,d,u⟩:=nx (R:=R) (N:=N) (t:=t) (o:=o) q 8 (by omega) (by omega) ky10 b
   obtain⟨y14,ky14,y140,y141,e,v⟩:=nx (R:=R) (N:=N) (t:=t) (o:=o) q 8 (by omega) (by omega) ky12 d
   obtain⟨x,f,D,F,G⟩:=tS (N:=N) (t:=t) (o:=o) (i:=i) (nl:=nl) (nu:=nu) q s hB1 hB2 hB3 m (j+1) fuel ky14 (S++[(⟨j,y12,y14⟩:MoveD)]) (by omega) (by omega) e (by simp;omega) (by
    intro x n
    rcases List.mem_append.1 n with h | h
    ·have:=hr x h;omega
    ·simp at h;subst h;simp only;omega) (by
    rw[List.map_append];exact Au2 z (by
     intro x n
     simp only[List.mem_map] at n
     obtain⟨y,M,rfl⟩:=n
     exact(hr y M).2)) (by
    rw[List.all_append,hi]
    simp only[List.all_cons,List.all_nil,Bool.and_true,Bool.true_and]
    unfold Apf;rw[Jr (by simp only;omega),Jr (by simp only;omega)];rfl)
   refine⟨x,f,D,F,fun K=>?_⟩
   rw[Fc];unfold Iy
   have e1:(y10==1)=true:=by simpa using I
   have T:(Nat.ble (S.length+1) 140737488355328&&Nat.ble ((S.length+1)*24) 140737488355328)=true:=by rw[Bs,Bs];simp;omega
   have U:List.take (S.length*3) (S.flatMap MoveD.av)++[.int .i64 (j:Int),.int .i64 y12,.int .i64 y14]=(S++[(⟨j,y12,y14⟩:MoveD)]).flatMap MoveD.av:=by
    rw[List.take_of_length_le (by rw[A7c];exact Nat.le_refl _)];simp[MoveD.av]
   rw[Hy (by omega),ct,c,e1,ct,u,v,T,ct,U,Bo (by omega)]
   have:=G K
   rw[List.length_append] at this
   exact this
  ·obtain⟨x,f,D,F,G⟩:=tS (N:=N) (t:=t) (o:=o) (i:=i) (nl:=nl) (nu:=nu) q s hB1 hB2 hB3 m (j+1) fuel ky10 S (by omega) (by omega) b (by omega) (by intro x n;have:=hr x n;omega) z hi
   refine⟨x,f,D,F,fun K=>?_⟩
   rw[Fc];unfold Iy
   have e1:(y10==1)=false:=by simpa using I
   rw[Hy (by omega),ct,c,e1,cf,Bo (by omega),G]
theorem Alu {N:Nat} {l:List Int} {t o:Bool} (hN:64≤N) (f:l.length≤9223372036854775807) {i nl nu:Nat} (e:nu≤16) {B:List Int} (hB1:B.length=1∨B.length=2) (hB2:∀ y ∈ B,0≤y∧y<(nl:Int)) (hB3:pQ B=true) (k:Nat) (m:k≤l.length) :
  ∃ (x:OutD) (d:Nat),OutG i nl nu x∧d≤l.length∧∀ K:LA→Int→O R,Fd N K (nu:Int) (Aq l) l.length t o [111,Bb7.getD i 0] (k:Int) B.length (Aq B)=K x.av (d:Int):=by
 obtain⟨y8,ky8,y80,y81,b,c⟩:=nx (R:=R) (N:=N) (t:=t) (o:=o) f 2 (by omega) (by omega) k m
 by_cases j:y8=1
 ·obtain⟨x,d,n,q,s⟩:=tS (R:=R) (N:=N) (t:=t) (o:=o) (i:=i) (nl:=nl) (nu:=nu) f e hB1 hB2 hB3 nu 0 N ky8 [] (by omega) (by omega) b (by simp) (by simp) zF rfl
  refine⟨x,d,n,q,fun K=>?_⟩
  unfold Fd My
  have e1:(y8==1)=true:=by simpa using j
  rw[c,e1,ct]
  simpa using s K
 ·refine⟨⟨[111,Bb7.getD i 0],.of B false false,false,.of [] false false⟩,ky8,⟨rfl,hB1,hB2,hB3,by simp[Sl.l],by simp[Sl.l],by simp[Sl.l],zF,rfl⟩,b,fun K=>?_⟩
  unfold Fd My
  have e1:(y8==1)=false:=by simpa using j
  rw[c,e1,cf,X7]
  rfl
theorem Au3 {N:Nat} {l:List Int} {t o:Bool} (hN:64≤N) (j:l.length≤9223372036854775807) {i nl nu:Nat} (hi:i<16) (I:1≤nl∧nl≤1000) (m:nu≤16) (k:Nat) (L:k≤l.length) :
  ∃ (x:OutD) (b:Nat),OutG i nl nu x∧b≤l.length∧∀ K:LA→Int→O R,Lr N (i:Int) (nl:Int) (nu:Int) (Aq l) l.length t o (k:Int) K=K x.av (b:Int):=by
 obtain⟨y2,ky2,y20,y21,n,e⟩:=nx (R:=R) (N:=N) (t:=t) (o:=o) j (nl:Int) (by omega) (by omega) k L
 obtain⟨y4,ky4,y40,y41,c,f⟩:=nx (R:=R) (N:=N) (t:=t) (o:=o) j (nl:Int) (by omega) (by omega) ky2 n
 have one:∀ A,A≤l.length→∃ (x:OutD) (b:Nat),OutG i nl nu x∧b≤l.length∧∀ K:LA→Int→O R,Fd N K (nu:Int) (Aq l) l.length t o [111,Bb7.getD i 0] (A:Int) 1 [.int .i64 y2]=K x.av (b:Int):=fun A C =>
  Alu (i:=i) (nl:=nl) hN j m (B:=[y2]) (.inl rfl) (by intro y q;simp at q;subst q;exact⟨y20,y21⟩) (gf _) A C
 by_cases D:y4>y2
 ·obtain⟨y6,ky6,y60,y61,d,s⟩:=nx (R:=R) (N:=N) (t:=t) (o:=o) j 3 (by omega) (by omega) ky4 c
  by_cases G:y6=2
  ·obtain⟨x,b,u,v,z⟩:=Alu (R:=R) (N:=N) (t:=t) (o:=o) (i:=i) (nl:=nl) (nu:=nu) hN j m (B:=[y2,y4]) (.inr rfl) (by intro y q;simp at q;rcases q with rfl | rfl<;>omega) (by rw[FV,gf];simp;omega) ky6 d
   refine⟨x,b,u,v,fun K=>?_⟩
   rw[Mz];unfold Jy
   have e1:decide (y4>y2)=true:=by simpa using D
   have F:(y6==2)=true:=by simpa using G
   rw[Uu hi,e,f,e1,s,F]
   simpa[Aq] using z K
  ·obtain⟨x,b,u,v,z⟩:=one ky6 d
   refine⟨x,b,u,v,fun K=>?_⟩
   rw[Mz];unfold Jy
   have e1:decide (y4>y2)=true:=by simpa using D
   have F:(y6==2)=false:=by simpa using G
   rw[Uu hi,e,f,e1,s,F]
   exact z K
 ·obtain⟨x,b,u,v,z⟩:=one ky4 c
  refine⟨x,b,u,v,fun K=>?_⟩
  rw[Mz];unfold Jy
  have e1:decide (y4>y2)=false:=by simpa using D
  rw[Uu hi,e,f,e1]
  exact z K
end
end Gx.Cf
