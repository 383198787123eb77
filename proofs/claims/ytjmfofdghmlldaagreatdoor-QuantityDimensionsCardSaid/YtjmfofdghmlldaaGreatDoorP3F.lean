/- A part of the proof: what it holds is said by each theorem. -/
import Derived.Laws.RangeAny
import Derived.Laws.RangeString
import Derived.Lib.AtoiAllCases
import Derived.Lib.IndexMore
import Derived.Test.YtjmfofdghmlldaaGreatDoorP2F
set_option linter.unusedVariables false
set_option linter.defProp false
set_option linter.unusedSimpArgs false
namespace Gx
open Go Go.Proofs
open IntKind (wrap)
set_option maxRecDepth 100000
noncomputable section
variable {R:Type} (N:Nat)
def Bq (N:Nat) (b c:List UInt8) (r0:Bool→O R):O R :=
 (cond ((decide ((((b.length):Nat):Int)≥(((c.length):Nat):Int)))==true) (cond ((decide ((0:Int)≤(0:Int)))&&((decide (0≤(((c.length):Nat):Int)))&&((decide ((((c.length):Nat):Int)≤(((b.length):Nat):Int)))&&(decide ((((b.length):Nat):Int)≤(((b.length):Nat):Int)))))) (r0 (cond true ((List.take (c.length) b)==c) false)) none) (r0 false))
def Bx:=(Al (@Bq R)).1
theorem Cb:@Bx R=@Bq R:=(Al _).2
def D8 (F:KF R):Bool→O R:=(fun d=>F (.bool d) [])
theorem D9 (b c:List UInt8) (F:KF R):Dj [] H2 N 270 [(.str b),(.str c)] [] F=(Bx N b c (D8 F)):=by
 rw[Cb]
 kernel_rfl
def D3 (a:LA) (h:Ai) (k:KF R):O R :=
 match a,h with
 | [(.str b),(.str c)],[]=>(Bx N b c (D8 k))
 | _,_=>none
theorem Ea:Ao N 270 @D3:=by
 intro R Q a h k j;unfold D3;split;exact Ay (D9 ..) (D9 ..) trivial;exact A0
def Ji:=Az (Ea N)
def Jj:=Dh (Ea N)
def Br (b c:List UInt8) (r0:List UInt8→Bool→O R):O R :=
 (Bx N b c (fun d=>(cond (!d) (r0 b false) (cond ((decide (0≤(((c.length):Nat):Int)))&&((decide ((((c.length):Nat):Int)≤(((b.length):Nat):Int)))&&((decide ((((b.length):Nat):Int)≤(((b.length):Nat):Int)))&&(decide ((((b.length):Nat):Int)≤(((b.length):Nat):Int)))))) (r0 (List.take ((b.length) - (c.length)) (List.drop (c.length) b)) true) none))))
def By:=(Al (@Br R)).1
theorem Cc:@By R=@Br R:=(Al _).2
def Ka:Gn:=[(270,Ji N)]
def Eb (F:KF R):List UInt8→Bool→O R:=(fun e f=>F (.tup [(.str e),(.bool f)]) [])
theorem Ec (b c:List UInt8) (F:KF R):Dj (Ka N) H2 N 218 [(.str b),(.str c)] [] F=(By N b c (Eb F)):=by
 rw[Cc]
 kernel_rfl
def D4 (a:LA) (h:Ai) (k:KF R):O R :=
 match a,h with
 | [(.str b),(.str c)],[]=>(By N b c (Eb k))
 | _,_=>none
theorem Ed:Ao N 218 @D4:=by
 intro R Q a h k j;unfold D4;split;exact Ay (Ec ..) (Ec ..) ⟨Jj N,trivial⟩;exact A0
def Jk:=Az (Ed N)
def Jl:=Dh (Ed N)
def F0 (b c:List UInt8) (r0:List UInt8→Bool→O R):O R :=
 (By N b c (fun d e=>(r0 d e)))
def B4:=(Al (@F0 R)).1
theorem Gp:@B4 R=@F0 R:=(Al _).2
def AP:Gn:=[(218,Jk N)]
def Ma (F:KF R):List UInt8→Bool→O R:=(fun f g=>F (.tup [(.str f),(.bool g)]) [])
theorem Mb (b c:List UInt8) (F:KF R):Dj (AP N) H2 N 145 [(.str b),(.str c)] [] F=(B4 N b c (Ma F)):=by
 rw[Gp]
 kernel_rfl
def Km (a:LA) (h:Ai) (k:KF R):O R :=
 match a,h with
 | [(.str b),(.str c)],[]=>(B4 N b c (Ma k))
 | _,_=>none
theorem Mc:Ao N 145 @Km:=by
 intro R Q a h k j;unfold Km;split;exact Ay (Mb ..) (Mb ..) ⟨Jl N,trivial⟩;exact A0
def Hg:=Az (Mc N)
def Hh:=Dh (Mc N)
def Ip (N:Nat) (r0:Bool→O R) (b:List UInt8) (k0:Int→O R) (c:Int):O R :=
 (cond (decide (c<(((b.length):Nat):Int))) (cond ((decide ((((Rl b c).1:Nat):Int)<48))==false) (cond (cond false true (decide ((((Rl b c).1:Nat):Int)>57))) (r0 false) (k0 (c+(((Rl b c).2:Nat):Int)))) (r0 false)) (r0 (!(b==([]:List UInt8)))))
def D5 (r0:Bool→O R) (b:List UInt8):Nat→Int→O R
 | 0,_=>none
 | n+1,c=>(Ip N r0 b (D5 r0 b n) c)
def Nb (N:Nat) (r0:Bool→O R) (q0:Int→O R) (b:List UInt8):O R :=
 (q0 0)
def Fj:=(Al (fun (N:Nat) (b:List UInt8) (r0:Bool→O R)=>(Nb N r0 (fun c=>(D5 N r0 b N c)) b))).1
theorem V8 (b r0):(@Fj R N b r0)=(Nb N r0 (fun c=>(D5 N r0 b N c)) b):=by rw[Fj,(Al _).2]
def Yu:Hints:={ H:=(hS hL (hS (hS hL (hS (hP [0,6] hL) hL)) hL)) }
def aN (F:KF R):=Rh Tryz.f149 Yu [] [] N F
def Hi (F:KF R):Bool→O R:=(fun d=>F (.bool d) [])
def aO (b:List UInt8) (c:Int):St:=⟨[(0,(.str b)),(6,(.omap 300000))],(hq [⟨false,false,true,false,1,[(.str b),(iv c)],true,none⟩])⟩
def aP (F:KF R):=aN N F [1,0,1,0] []
theorem Qn (F:KF R) (b:List UInt8):∀ (n:Nat) (c:Int),Ax (aP N F) n (aO b c)=(D5 N (Hi F) b n c)
 | 0,_=>by kernel_rfl
 | n+1,c=>Eq.trans (by kernel_rfl) (Ee (Ip N (Hi F) b · c) (funext fun c=>(Qn F b n c)):_)
theorem Yv (b:List UInt8) (F:KF R):Dj [] Yu N 149 [(.str b)] [] F=(Fj N b (Hi F)):=by
 rw[V8]
 exact Eq.trans (by kernel_rfl) (Ee (Nb N (Hi F) · b) (funext fun c=>(Ar ..).trans (Qn N F b N c)):_)
def V9 (a:LA) (h:Ai) (k:KF R):O R :=
 match a,h with
 | [(.str b)],[]=>(Fj N b (Hi k))
 | _,_=>none
theorem Yw:Ao N 149 @V9:=by
 intro R Q a h k j;unfold V9;split;exact Ay (Yv ..) (Yv ..) trivial;exact A0
def Yx:=Az (Yw N)
def Yy:=Dh (Yw N)
def Yz (b:List UInt8) (r0:Bool→O R):O R :=
 (Fj N b (fun c=>(cond (c==true) (cond ((b==([48]:List UInt8))==false) (cond (Am 0 (b.length)) (r0 (cond true (cond false true (((UInt8.toNat (List.getD b 0 0):Nat):Int) != 48)) false)) none) (r0 true)) (r0 false))))
def Hj:=(Al (@Yz R)).1
theorem Y0:@Hj R=@Yz R:=(Al _).2
def gq:Gn:=[(149,Yx N)]
def DL (F:KF R):Bool→O R:=(fun d=>F (.bool d) [])
theorem DM (b:List UInt8) (F:KF R):Dj (gq N) H2 N 146 [(.str b)] [] F=(Hj N b (DL F)):=by
 rw[Y0]
 kernel_rfl
def Y1 (a:LA) (h:Ai) (k:KF R):O R :=
 match a,h with
 | [(.str b)],[]=>(Hj N b (DL k))
 | _,_=>none
theorem DN:Ao N 146 @Y1:=by
 intro R Q a h k j;unfold Y1;split;exact Ay (DM ..) (DM ..) ⟨Yy N,trivial⟩;exact A0
def DO:=Az (DN N)
def DP:=Dh (DN N)
def Ux (b:List UInt8) (r0:Bool→O R):O R :=
 (B4 N b ([45]:List UInt8) (fun c d=>(Hj N c (fun e=>(cond (e==true) (cond (d==true) (r0 (cond true (!(cond true (c==([48]:List UInt8)) false)) false)) (r0 true)) (r0 false))))))
def Jf:=(Al (@Ux R)).1
theorem Wa:@Jf R=@Ux R:=(Al _).2
def cv:Gn:=[(145,Hg N),(146,DO N)]
def Y2 (F:KF R):Bool→O R:=(fun f=>F (.bool f) [])
theorem Y3 (b:List UInt8) (F:KF R):Dj (cv N) H2 N 78 [(.str b)] [] F=(Jf N b (Y2 F)):=by
 rw[Wa]
 kernel_rfl
def Wb (a:LA) (h:Ai) (k:KF R):O R :=
 match a,h with
 | [(.str b)],[]=>(Jf N b (Y2 k))
 | _,_=>none
theorem Y4:Ao N 78 @Wb:=by
 intro R Q a h k j;unfold Wb;split;exact Ay (Y3 ..) (Y3 ..) ⟨Hh N,DP N,trivial⟩;exact A0
def aQ:=Az (Y4 N)
def aR:=Dh (Y4 N)
def Jg (r0:List UInt8→List UInt8→Bool→O R) (e:Bool) (d c b:List UInt8):O R :=
 (cond (Nat.ble ((d.length)+(c.length)) 140737488355328) (cond e (cond (Nat.ble (1+(List.length (d++c))) 140737488355328) (strings_Repeat N ([48]:List UInt8) (((c.length):Nat):Int) (fun i=>(cond (Nat.ble (1+(i.length)) 140737488355328) (r0 (([45]:List UInt8)++(d++c)) (([49]:List UInt8)++i) true) none))) none) (strings_Repeat N ([48]:List UInt8) (((c.length):Nat):Int) (fun l=>(cond (Nat.ble (1+(l.length)) 140737488355328) (r0 (d++c) (([49]:List UInt8)++l) true) none)))) none)
def Ta (r0:List UInt8→List UInt8→Bool→O R) (q0:Bool→List UInt8→List UInt8→O R) (b:List UInt8):O R :=
 (Jf N b (fun m=>(cond m (r0 b ([49]:List UInt8) true) (strings_Cut N b ([47]:List UInt8) (fun f g n=>(cond n (Jf N f (fun o=>(cond (o==true) (Hj N g (fun p=>(r0 f g (cond true p false)))) (r0 f g false)))) (B4 N b ([45]:List UInt8) (fun q e=>(strings_Cut N q ([46]:List UInt8) (fun d c w=>(Hj N d (fun r=>(cond ((!r)==false) (Fj N c (fun s=>(cond (cond false true (!s)) (r0 ([]:List UInt8) ([]:List UInt8) false) (q0 e d c)))) (r0 ([]:List UInt8) ([]:List UInt8) false))))))))))))))
def Md:=(Al (fun (N:Nat) (b:List UInt8) (r0:List UInt8→List UInt8→Bool→O R)=>(Ta N r0 (fun e d c=>(Jg N r0 e d c b)) b))).1
theorem Uy (b r0):(@Md R N b r0)=(Ta N r0 (fun e d c=>(Jg N r0 e d c b)) b):=by rw[Md,(Al _).2]
def RP:Hints:={ H:=(hS hL (hS hL (hS hL (hS hL (hS hL (hJ [6,7,8] hL hL)))))) }
def aS:Gn:=[(78,aQ N),(105,W9 N),(146,DO N),(145,Hg N),(149,Yx N),(124,Pn N)]
def kH (F:KF R):=Rh Tryz.f81 RP (aS N) [] N F
def Qo (F:KF R):List UInt8→List UInt8→Bool→O R:=(fun t u v=>F (.tup [(.str t),(.str u),(.bool v)]) [])
def kI (e:Bool) (d c b:List UInt8):St:=⟨[(6,(.bool e)),(7,(.str d)),(8,(.str c))],[]⟩
def kJ (F:KF R):=kH N F [1,1,1,1,1,1] []
theorem aT (F:KF R) (e:Bool) (d c b:List UInt8):C7 (kJ N F) (kI e d c b)=(Jg N (Qo F) e d c b):=by
 kernel_rfl
theorem RQ (b:List UInt8) (F:KF R):Dj (aS N) RP N 81 [(.str b)] [] F=(Md N b (Qo F)):=by
 rw[Uy]
 exact Eq.trans (by kernel_rfl) (Ee (Ta N (Qo F) · b) (funext fun e=>funext fun d=>funext fun c=>(A8 ..).trans (aT N F e d c b)):_)
def KG (a:LA) (h:Ai) (k:KF R):O R :=
 match a,h with
 | [(.str b)],[]=>(Md N b (Qo k))
 | _,_=>none
theorem RR:Ao N 81 @KG:=by
 intro R Q a h k j;unfold KG;split;exact Ay (RQ ..) (RQ ..) ⟨aR N,VP N,DP N,Hh N,Yy N,HC N,trivial⟩;exact A0
def kK:=Az (RR N)
def kL:=Dh (RR N)
def Kb (N:Nat) (r0:Bool→O R) (b:List UInt8) (k0:Int→Int→O R) (d c:Int):O R :=
 (cond (decide (c<(((b.length):Nat):Int))) (cond ((decide ((((Rl b c).1:Nat):Int)≥48))==true) (cond (cond true (decide ((((Rl b c).1:Nat):Int)≤57)) false) (k0 (wrap .i64 (d+1)) (c+(((Rl b c).2:Nat):Int))) (k0 d (c+(((Rl b c).2:Nat):Int)))) (k0 d (c+(((Rl b c).2:Nat):Int)))) (r0 (decide (d>4096))))
def Ez (r0:Bool→O R) (b:List UInt8):Nat→Int→Int→O R
 | 0,_,_=>none
 | n+1,d,c=>(Kb N r0 b (Ez r0 b n) d c)
def Qp (N:Nat) (r0:Bool→O R) (q0:Int→Int→O R) (b:List UInt8):O R :=
 (q0 0 0)
def Lh:=(Al (fun (N:Nat) (b:List UInt8) (r0:Bool→O R)=>(Qp N r0 (fun d c=>(Ez N r0 b N d c)) b))).1
theorem Y5 (b r0):(@Lh R N b r0)=(Qp N r0 (fun d c=>(Ez N r0 b N d c)) b):=by rw[Lh,(Al _).2]
def DQ:Hints:={ H:=(hS hL (hS hL (hS (hS hL (hS (hP [3,7] hL) hL)) hL))) }
def cx (F:KF R):=Rh Tryz.f79 DQ [] [] N F
def Ih (F:KF R):Bool→O R:=(fun e=>F (.bool e) [])
def cy (b:List UInt8) (d c:Int):St:=⟨[(3,(iv d)),(7,(.omap 300000))],(hq [⟨false,false,true,false,1,[(.str b),(iv c)],true,none⟩])⟩
def cz (F:KF R):=cx N F [1,1,0,1,0] []
theorem Tb (F:KF R) (b:List UInt8):∀ (n:Nat) (d c:Int),Ax (cz N F) n (cy b d c)=(Ez N (Ih F) b n d c)
 | 0,_,_=>by kernel_rfl
 | n+1,d,c=>Eq.trans (by kernel_rfl) (Ee (Kb N (Ih F) b · d c) (funext fun d=>funext fun c=>(Tb F b n d c)):_)
theorem DR (b:List UInt8) (F:KF R):Dj [] DQ N 79 [(.str b)] [] F=(Lh N b (Ih F)):=by
 rw[Y5]
 exact Eq.trans (by kernel_rfl) (Ee (Qp N (Ih F) · b) (funext fun d=>funext fun c=>(Ar ..).trans (Tb N F b N d c)):_)
def Y6 (a:LA) (h:Ai) (k:KF R):O R :=
 match a,h with
 | [(.str b)],[]=>(Lh N b (Ih k))
 | _,_=>none
theorem DS:Ao N 79 @Y6:=by
 intro R Q a h k j;unfold Y6;split;exact Ay (DR ..) (DR ..) trivial;exact A0
def dA:=Az (DS N)
def dB:=Dh (DS N)
def H0 (r0:Bool→Nat→LA→O R) (k0:Int→Bool→LA→Bool→Nat→LA→O R) (d:Int) (c:Bool) (b:LA) (f:Bool) (e:Nat) (g:LA):O R :=
 (cond (decide (d>0)) (cond ((Int.tmod d 2)==1) (cond (Nat.ble 2 (b.length)) (Q8 N [(.bool f),(.imm (g.take (e*1)) e 1 false true)] true (b.take 2) c (fun o p q=>(cond (decide (d>1)) (cond (Nat.ble 2 (b.length)) (cond (Nat.ble 2 (b.length)) (Q8 N (b.take 2) c (b.take 2) c (fun t r u=>(cond ((Nat.beq 2 2)&&((Nat.ble 2 (b.length))&&(!false))) (k0 (wrap .i64 (Int.tdiv d 2)) (c||false) (G4 b 0 [(.bool t),(.imm (u.take (r*1)) r 1 false false)]) o p q) none))) none) none) (k0 (wrap .i64 (Int.tdiv d 2)) c b o p q)))) none) (cond (decide (d>1)) (cond (Nat.ble 2 (b.length)) (cond (Nat.ble 2 (b.length)) (Q8 N (b.take 2) c (b.take 2) c (fun v s w=>(cond ((Nat.beq 2 2)&&((Nat.ble 2 (b.length))&&(!false))) (k0 (wrap .i64 (Int.tdiv d 2)) (c||false) (G4 b 0 [(.bool v),(.imm (w.take (s*1)) s 1 false false)]) f e g) none))) none) none) (k0 (wrap .i64 (Int.tdiv d 2)) c b f e g))) (r0 f e g))
def Eo (r0:Bool→Nat→LA→O R):Nat→Int→Bool→LA→Bool→Nat→LA→O R
 | 0,_,_,_,_,_,_=>none
 | n+1,d,c,b,f,e,g=>(H0 N r0 (Eo r0 n) d c b f e g)
def AJ (r0:Bool→Nat→LA→O R) (q0:Int→Bool→LA→Bool→Nat→LA→O R) (i:LA) (l:Bool) (m:Int):O R :=
 (B9 N 1 (fun x y z=>(q0 m l i x y z)))
def Tc:=(Al (fun (N:Nat) (i:LA) (l:Bool) (m:Int) (r0:Bool→Nat→LA→O R)=>(AJ N r0 (fun d c b f e g=>(Eo N r0 N d c b f e g)) i l m))).1
theorem KH (i l m r0):(@Tc R N i l m r0)=(AJ N r0 (fun d c b f e g=>(Eo N r0 N d c b f e g)) i l m):=by rw[Tc,(Al _).2]
def RS:Hints:={ H:=(hS hL (hS hL (hS (hS (hP [1,2,4,5] hL) hL) hL))) }
def aU:Gn:=[(64,Lr N),(68,ML N)]
def kM (F:KF R):=Rh Tryz.f69 RS (aU N) [] N F
def Me (F:KF R):Bool→Nat→LA→O R:=(fun aa ab ac=>F (.agg [(.bool aa),(.own 300000 0 ab)]) (hq [(bQ 1 ac)]))
def kN (d:Int) (c:Bool) (b:LA) (f:Bool) (e:Nat) (g:LA):St:=⟨[(1,(iv d)),(2,(op 0)),(4,(op 1)),(5,(op 2))],(hq [(bP c 0 b),(bN 0 [(.bool false),.nsl]),(bN 0 [(.bool f),(.own 300003 0 e)]),(bQ 1 g)])⟩
def kO (F:KF R):=kM N F [1,1,0,0] []
theorem Y7 (F:KF R):∀ (n:Nat) (d:Int) (c:Bool) (b:LA) (f:Bool) (e:Nat) (g:LA),Ax (kO N F) n (kN d c b f e g)=(Eo N (Me F) n d c b f e g)
 | 0,_,_,_,_,_,_=>by kernel_rfl
 | n+1,d,c,b,f,e,g=>Eq.trans (by kernel_rfl) (Ee (H0 N (Me F) · d c b f e g) (funext fun d=>funext fun c=>funext fun b=>funext fun f=>funext fun e=>funext fun g=>(Y7 F n d c b f e g)):_)
theorem RT (i:LA) (l:Bool) (m:Int) (F:KF R):Dj (aU N) RS N 69 [(.pagg i l),(iv m)] [] F=(Tc N i l m (Me F)):=by
 rw[KH]
 exact Eq.trans (by kernel_rfl) (Ee (AJ N (Me F) · i l m) (funext fun d=>funext fun c=>funext fun b=>funext fun f=>funext fun e=>funext fun g=>(Ar ..).trans (Y7 N F N d c b f e g)):_)
def KI (a:LA) (h:Ai) (k:KF R):O R :=
 match a,h with
 | [(.pagg i l),(.int .i64 m)],[]=>(Tc N i l m (Me k))
 | _,_=>none
theorem RU:Ao N 69 @KI:=by
 intro R Q a h k j;unfold KI;split;exact Ay (RT ..) (RT ..) ⟨Ls N,MM N,trivial⟩;exact A0
def kP:=Az (RU N)
def kQ:=Dh (RU N)
def Kc (k0:List UInt8→Bool→Nat→LA→O R) (r0:LA→O R) (c d:Bool) (b:Nat) (e:LA) (m:List UInt8) (o:Int) (q:Bool) (p:Nat) (r:LA):O R :=
 (cond ((decide ((0:Int)≤(0:Int)))&&((decide (0≤o))&&((decide (o≤(((m.length):Nat):Int)))&&(decide ((((m.length):Nat):Int)≤(((m.length):Nat):Int)))))) (M3 N (List.take (o.toNat) m) (fun x=>(Q8 N [(.bool q),(.imm (r.take (p*1)) p 1 false true)] true [(.bool d),(.imm (e.take (b*1)) b 1 false true)] true (fun y t z=>(B9 N x (fun aa u ab=>(WB N [(.bool y),(.imm (z.take (t*1)) t 1 false true)] true [(.bool aa),(.imm (ab.take (u*1)) u 1 false true)] true (fun ac ad ae=>(cond ((decide (0≤o))&&((decide (o≤(((m.length):Nat):Int)))&&((decide ((((m.length):Nat):Int)≤(((m.length):Nat):Int)))&&(decide ((((m.length):Nat):Int)≤(((m.length):Nat):Int)))))) (k0 (List.take ((m.length) - (o.toNat)) (List.drop (o.toNat) m)) ac ad ae) none))))))))) none)
def Rd (r0:LA→O R) (c d:Bool) (b:Nat) (e:LA) (k0:List UInt8→Bool→Nat→LA→O R) (q1:List UInt8→Int→Bool→Nat→LA→O R) (g:List UInt8) (i:Bool) (f:Nat) (l:LA):O R :=
 (cond (!(g==([]:List UInt8))) (cond ((Int.tmod (((g.length):Nat):Int) 9)==0) (q1 g 9 i f l) (q1 g (Int.tmod (((g.length):Nat):Int) 9) i f l)) (cond c (VY N [(.bool i),(.imm (l.take (f*1)) f 1 false true)] true (fun af v ag=>(r0 [(.bool af),(.imm (ag.take (v*1)) v 1 false false)]))) (r0 [(.bool i),(.imm (l.take (f*1)) f 1 false false)])))
def Ep (r0:LA→O R) (c d:Bool) (b:Nat) (e:LA):Nat→List UInt8→Bool→Nat→LA→O R
 | 0,_,_,_,_=>none
 | n+1,g,i,f,l=>(Rd N r0 c d b e (Ep r0 c d b e n) (fun m o q p r=>(Kc N (Ep r0 c d b e n) r0 c d b e m o q p r)) g i f l)
def Uz (r0:LA→O R) (q0:Bool→Bool→Nat→LA→List UInt8→Bool→Nat→LA→O R) (s:List UInt8):O R :=
 (B4 N s ([45]:List UInt8) (fun ah c=>(B9 N 0 (fun ai aj ak=>(B9 N 10 (fun al w am=>(Tc N [(.bool al),(.imm (am.take (w*1)) w 1 false true)] true 9 (fun d b e=>(q0 c d b e ah ai aj ak)))))))))
def Li:=(Al (fun (N:Nat) (s:List UInt8) (r0:LA→O R)=>(Uz N r0 (fun c d b e g i f l=>(Ep N r0 c d b e N g i f l)) s))).1
theorem DT (s r0):(@Li R N s r0)=(Uz N r0 (fun c d b e g i f l=>(Ep N r0 c d b e N g i f l)) s):=by rw[Li,(Al _).2]
def KJ:Hints:={ H:=(hS hL (hS hL (hS hL (hS hL (hS (hS (hP [0,2,3,4,5] (hS hL (hS (hS hL (hJ [0,2,3,4,5,6] hL hL)) hL))) hL) hL))))),modes:=[(3,0)] }
def RV:Gn:=[(145,Hg N),(64,Lr N),(69,kP N),(148,oR N),(147,Vj N),(68,ML N),(144,o5 N)]
def KK (F:KF R):=Rh Tryz.f80 KJ (RV N) [] N F
def F1 (F:KF R):LA→O R:=(fun an=>F (.pagg an false) [])
def gr (c d:Bool) (b:Nat) (e:LA) (m:List UInt8) (o:Int) (q:Bool) (p:Nat) (r:LA):St:=⟨[(0,(.str m)),(2,(op 0)),(3,(.bool c)),(4,(op 1)),(5,(op 2)),(6,(iv o))],(hq [(bN 0 [(.bool false),.nsl]),(bN 0 [(.bool q),(.own 300003 0 p)]),(bN 0 [(.bool d),(.own 300004 0 b)]),(bQ 1 r),(bQ 1 e)])⟩
def gt (F:KF R) (Q0:St→O R):=KK N F [1,1,1,1,0,0,0,1,0,1,1] [Q0]
def KL (c d:Bool) (b:Nat) (e:LA) (g:List UInt8) (i:Bool) (f:Nat) (l:LA):St:=⟨[(0,(.str g)),(2,(op 0)),(3,(.bool c)),(4,(op 1)),(5,(op 2))],(hq [(bN 0 [(.bool false),.nsl]),(bN 0 [(.bool i),(.own 300003 0 f)]),(bN 0 [(.bool d),(.own 300004 0 b)]),(bQ 1 l),(bQ 1 e)])⟩
def KM (F:KF R):=KK N F [1,1,1,1,0,0] []
theorem TI (Q0:St→O R) (F:KF R) (c d:Bool) (b:Nat) (e:LA):∀ (m:List UInt8) (o:Int) (q:Bool) (p:Nat) (r:LA),C7 (gt N F Q0) (gr c d b e m o q p r)=(Kc N (fun g i f l=>Q0 (KL c d b e g i f l)) (F1 F) c d b e m o q p r):=by
 intro m o q p r
 kernel_rfl
theorem Wc (F:KF R) (c d:Bool) (b:Nat) (e:LA):∀ (n:Nat) (g:List UInt8) (i:Bool) (f:Nat) (l:LA),Ax (KM N F) n (KL c d b e g i f l)=(Ep N (F1 F) c d b e n g i f l)
 | 0,_,_,_,_=>by kernel_rfl
 | n+1,g,i,f,l=>have e0:=(funext fun g=>funext fun i=>funext fun f=>funext fun l=>(Wc F c d b e n g i f l))
  Eq.trans (by kernel_rfl) (pt (Rd N (F1 F) c d b e · · g i f l) e0 (funext fun m=>funext fun o=>funext fun q=>funext fun p=>funext fun r=>(A8 ..).trans ((TI N (Ax (KM N F) n) F c d b e m o q p r).trans (Ee (Kc N · (F1 F) c d b e m o q p r) e0))):_)
theorem KN (s:List UInt8) (F:KF R):Dj (RV N) KJ N 80 [(.str s)] [] F=(Li N s (F1 F)):=by
 rw[DT]
 exact Eq.trans (by kernel_rfl) (Ee (Uz N (F1 F) · s) (funext fun c=>funext fun d=>funext fun b=>funext fun e=>funext fun g=>funext fun i=>funext fun f=>funext fun l=>(Ar ..).trans (Wc N F c d b e N g i f l)):_)
def DU (a:LA) (h:Ai) (k:KF R):O R :=
 match a,h with
 | [(.str s)],[]=>(Li N s (F1 k))
 | _,_=>none
theorem KO:Ao N 80 @DU:=by
 intro R Q a h k j;unfold DU;split;exact Ay (KN ..) (KN ..) ⟨Hh N,Ls N,kQ N,oS N,strconv_Atoi_ok N,MM N,o6 N,trivial⟩;exact A0
def gu:=Az (KO N)
def gv:=Dh (KO N)
def U0 (b:List UInt8) (r0:LA→Int→O R):O R :=
 (Md N b (fun d e f=>(cond (!f) (r0 [(.bool false),.nsl,.nsl] 2) (Lh N b (fun g=>(cond g (r0 [(.bool false),.nsl,.nsl] 8) (Li N d (fun i=>(Li N e (fun l=>(ND N i false l false (fun c m=>(cond ((Nat.beq 0 0)&&((Nat.beq (c.length) 3)&&(Nat.beq 3 3))) (cond (!m) (r0 [(.bool false),.nsl,.nsl] 5) (cond (Nat.ble 3 (c.length)) (cond ((Nat.beq 0 0)&&((Nat.beq ((c.take 3).length) 3)&&(Nat.beq 3 3))) (cond (Nat.ble 3 ((c.take 3).length)) (r0 ((c.take 3).take 3) 0) none) none) none)) none)))))))))))))
def Fk:=(Al (@U0 R)).1
theorem Wd:@Fk R=@U0 R:=(Al _).2
def dC:Gn:=[(81,kK N),(79,dA N),(80,gu N),(82,eQ N)]
def Y8 (F:KF R):LA→Int→O R:=(fun n o=>F (.tup [(.pagg n false),(iv o)]) [])
theorem Y9 (b:List UInt8) (F:KF R):Dj (dC N) qf N 24 [(.str b)] [] F=(Fk N b (Y8 F)):=by
 rw[Wd]
 kernel_rfl
def We (a:LA) (h:Ai) (k:KF R):O R :=
 match a,h with
 | [(.str b)],[]=>(Fk N b (Y8 k))
 | _,_=>none
theorem Za:Ao N 24 @We:=by
 intro R Q a h k j;unfold We;split;exact Ay (Y9 ..) (Y9 ..) ⟨kL N,dB N,gv N,eR N,trivial⟩;exact A0
def aV:=Az (Za N)
def aW:=Dh (Za N)
end
end Gx

namespace Gx
open Go Go.Proofs
section
variable {R:Type}
theorem Re {N:Nat} {b:List UInt8} {c:UInt8} {K:List UInt8→Bool→O R}:B4 N (c::b) [c] K=K b true:=by
 rw[Gp];unfold F0
 rw[Cc];unfold Br
 rw[Cb];unfold Bq
 have d:((decide ((((c::b).length:Nat):Int)≥((([c]:List UInt8).length:Nat):Int)))==true)=true:=by simp;omega
 have e:((decide ((0:Int)≤(0:Int)))&&((decide ((0:Int)≤((([c]:List UInt8).length:Nat):Int)))&&((decide (((([c]:List UInt8).length:Nat):Int)≤(((c::b).length:Nat):Int)))&&(decide ((((c::b).length:Nat):Int)≤(((c::b).length:Nat):Int))))))=true:=by simp;omega
 have f:((decide ((0:Int)≤((([c]:List UInt8).length:Nat):Int)))&&((decide (((([c]:List UInt8).length:Nat):Int)≤(((c::b).length:Nat):Int)))&&((decide ((((c::b).length:Nat):Int)≤(((c::b).length:Nat):Int)))&&(decide ((((c::b).length:Nat):Int)≤(((c::b).length:Nat):Int))))))=true:=by simp;omega
 rw[d,ct,e,ct,show cond true ((List.take ([c]:List UInt8).length (c::b))==[c]) false=true by simp]
 dsimp only
 rw[show(!true)=false by rfl,cf,f,ct]
 simp
theorem O6 {N:Nat} {b:List UInt8} {c:UInt8} {K:List UInt8→Bool→O R} (h:b.head?≠some c):B4 N b [c] K=K b false:=by
 rw[Gp];unfold F0
 rw[Cc];unfold Br
 rw[Cb];unfold Bq
 cases b with
 | nil=>rfl
 | cons d r =>
  have e:d≠c:=by simpa using h
  have f:((decide ((((d::r).length:Nat):Int)≥((([c]:List UInt8).length:Nat):Int)))==true)=true:=by simp;omega
  have i:((decide ((0:Int)≤(0:Int)))&&((decide ((0:Int)≤((([c]:List UInt8).length:Nat):Int)))&&((decide (((([c]:List UInt8).length:Nat):Int)≤(((d::r).length:Nat):Int)))&&(decide ((((d::r).length:Nat):Int)≤(((d::r).length:Nat):Int))))))=true:=by simp;omega
  rw[f,ct,i,ct,show cond true ((List.take ([c]:List UInt8).length (d::r))==[c]) false=false by simp[e]]
  rfl
theorem aX {s:List UInt8} {p:Nat} (h:p<s.length) (b:s[p].toNat<128):Rl s (p:Int)=(s[p].toNat,1):=by
 unfold Rl
 rw[Int.toNat_natCast]
 exact decode_ascii ⟨⟨s⟩⟩ p h b
theorem p9 {s:List UInt8} {p:Nat} (h:p<s.length) (b:128≤s[p].toNat):128≤(Rl s (p:Int)).1:=by
 unfold Rl
 rw[Int.toNat_natCast]
 exact(decode_high ⟨⟨s⟩⟩ p h b).1
theorem dD {N:Nat} {s:List UInt8} {K:Bool→O R} (d:s≠[]):∀ (m p b:Nat),p≤s.length→s.length - p=m→m<b→D5 N K s b (p:Int)=K ((s.drop p).all B3):=by
 intro m
 induction m with
 | zero =>
  intro p b e f i
  cases b with
  | zero=>omega
  | succ b =>
   rw[D5];unfold Ip
   rw[FG (by omega),cf,List.drop_eq_nil_of_le (by omega),show(!(s==([]:List UInt8)))=true by simp[d]]
   rfl
 | succ m j =>
  intro p b e f i
  cases b with
  | zero=>omega
  | succ b =>
   have c:p<s.length:=by omega
   rw[D5];unfold Ip
   rw[Wj c,ct,List.drop_eq_getElem_cons c,List.all_cons]
   by_cases k:s[p].toNat<128
   ·rw[aX c k]
    simp only
    by_cases l:s[p].toNat<48
    ·rw[show(decide (((s[p].toNat:Nat):Int)<48)==false)=false by simp;omega,cf]
     have:B3 s[p]=false:=by simp[B3];omega
     rw[this];rfl
    ·rw[show(decide (((s[p].toNat:Nat):Int)<48)==false)=true by simp;omega,ct]
     by_cases n:s[p].toNat>57
     ·rw[show cond false true (decide (((s[p].toNat:Nat):Int)>57))=true by simp;omega,ct]
      have:B3 s[p]=false:=by simp[B3];omega
      rw[this];rfl
     ·rw[show cond false true (decide (((s[p].toNat:Nat):Int)>57))=false by simp;omega,cf]
      have:B3 s[p]=true:=by simp[B3];omega
      rw[this,Bool.true_and,show((p:Int)+((1:Nat):Int))=((p+1:Nat):Int) by omega]
      exact j (p+1) b (by omega) (by omega) (by omega)
   ·have q:=p9 c (by omega)
    have:B3 s[p]=false:=by simp[B3];omega
    rw[this,show(decide ((((Rl s (p:Int)).1:Nat):Int)<48)==false)=true by simp;omega,ct,show cond false true (decide ((((Rl s (p:Int)).1:Nat):Int)>57))=true by simp;omega,ct]
    rfl
theorem DV {N:Nat} {s:List UInt8} {K:Bool→O R} (b:s.length<N):Fj N s K=K (cE s):=by
 rw[V8];unfold Nb
 cases s with
 | nil =>
  obtain⟨n,rfl⟩:∃ n,N=n+1:=⟨N - 1,by simp at b;omega⟩
  rfl
 | cons c r =>
  have:=dD (R:=R) (N:=N) (s:=c::r) (K:=K) (by simp) (c::r).length 0 N (by omega) (by omega) b
  refine Eq.trans this ?_
  congr 1
  simp[cE]
theorem U4 {N:Nat} {s:List UInt8} {K:Bool→O R} (i:s.length<N):Hj N s K=K (Ir s):=by
 rw[Y0];unfold Yz
 rw[DV i]
 by_cases b:cE s=true
 ·rw[b,show(true==true)=true by rfl,ct]
  unfold Ir
  rw[b,Bool.true_and]
  by_cases f:s=[48]
  ·subst f;rfl
  ·have j:(s==[48])=false:=by simpa using f
   rw[j,show(false==false)=true by rfl,ct,Bool.false_or]
   cases s with
   | nil=>simp[cE] at b
   | cons c r =>
    rw[show Am 0 (c::r).length=true by unfold Am;simp,ct]
    congr 1
    simp only[cond_true,cond_false,List.getD_cons_zero,List.head?_cons]
    by_cases d:c=48
    ·subst d;rfl
    ·have:(((c.toNat:Nat):Int) != 48)=true:=by
      rw[bne_iff_ne];intro e
      apply d;apply UInt8.toNat_inj.1
      have:c.toNat=48:=by omega
      rw[this];rfl
     rw[this]
     have k:((some c:Option UInt8) != some 48)=true:=by rw[bne_iff_ne];simpa using d
     rw[k]
 ·have b:cE s=false:=by simpa using b
  rw[b,show(false==true)=false by rfl,cf]
  unfold Ir
  rw[b];rfl
def gw (s:List UInt8):Bool:=match s with
 | 45::r=>Ir r&&!(r==[48])
 | s=>Ir s
theorem DW {N:Nat} {s:List UInt8} {K:Bool→O R} (b:s.length<N):Jf N s K=K (gw s):=by
 rw[Wa];unfold Ux
 by_cases h:s.head?=some 45
 ·obtain⟨r,rfl⟩:∃ r,s=45::r:=by
   cases s with
   | nil=>simp at h
   | cons c r=>simp at h;exact⟨r,by rw[h]⟩
  rw[Re,U4 (by simp at b;omega)]
  show _=K (Ir r&&!(r==[48]))
  cases Ir r
  ·rfl
  ·rw[Bool.true_and];cases r==[48]<;>rfl
 ·rw[O6 h,U4 b]
  have:gw s=Ir s:=by
   unfold gw
   split
   ·simp at h
   ·rfl
  rw[this]
  cases Ir s<;>rfl
def dE (s:List UInt8):Nat:=s.countP B3
theorem gx {N:Nat} {s:List UInt8} {K:Bool→O R} (i:∀ c ∈ s,c.toNat<128) (u:s.length≤1000000000000):∀ (m p d b:Nat),p≤s.length→s.length - p=m→m<b→d≤p→Ez N K s b (d:Int) (p:Int)=K (decide (4096<d+dE (s.drop p))):=by
 intro m
 induction m with
 | zero =>
  intro p d b j k l n
  cases b with
  | zero=>omega
  | succ b =>
   rw[Ez];unfold Kb
   rw[FG (by omega),cf,List.drop_eq_nil_of_le (by omega)]
   congr 1
   rw[decide_eq_decide];simp[dE];omega
 | succ m f =>
  intro p d b j k l n
  cases b with
  | zero=>omega
  | succ b =>
   have e:p<s.length:=by omega
   have q:s[p].toNat<128:=i _ (List.getElem_mem e)
   rw[Ez];unfold Kb
   rw[Wj e,ct,List.drop_eq_getElem_cons e,aX e q]
   simp only
   rw[show((p:Int)+((1:Nat):Int))=((p+1:Nat):Int) by omega]
   have t:dE (s[p]::s.drop (p+1))=dE (s.drop (p+1))+(if B3 s[p] then 1 else 0):=by unfold dE;rw[List.countP_cons]
   rw[t]
   by_cases v:48≤s[p].toNat
   ·rw[show(decide (((s[p].toNat:Nat):Int)≥48)==true)=true by simp;omega,ct]
    by_cases x:s[p].toNat≤57
    ·rw[show cond true (decide (((s[p].toNat:Nat):Int)≤57)) false=true by simp;omega,ct,wS (by omega),f (p+1) (d+1) b (by omega) (by omega) (by omega) (by omega)]
     have:B3 s[p]=true:=by simp[B3];omega
     rw[this,if_pos rfl]
     congr 1;rw[decide_eq_decide];omega
    ·rw[show cond true (decide (((s[p].toNat:Nat):Int)≤57)) false=false by simp;omega,cf,f (p+1) d b (by omega) (by omega) (by omega) (by omega)]
     have:B3 s[p]=false:=by simp[B3];omega
     rw[this];rfl
   ·rw[show(decide (((s[p].toNat:Nat):Int)≥48)==true)=false by simp;omega,cf,f (p+1) d b (by omega) (by omega) (by omega) (by omega)]
    have:B3 s[p]=false:=by simp[B3];omega
    rw[this];rfl
theorem gy {N:Nat} {s:List UInt8} {K:Bool→O R} (b:∀ c ∈ s,c.toNat<128) (d:s.length≤1000000000000) (e:s.length<N):Lh N s K=K (decide (4096<dE s)):=by
 rw[Y5];unfold Qp
 have:=gx (R:=R) (N:=N) (K:=K) b d s.length 0 0 N (by omega) (by omega) e (by omega)
 simpa using this
end
end Gx

namespace Gx
open Go Go.Proofs
section
variable {R:Type}
theorem rL (m:Nat):(Int.tmod (m:Int) 2==1)=decide (m%2=1):=by
 rw[show Int.tmod (m:Int) 2=((m%2:Nat):Int) by rfl]
 rw[Bool.eq_iff_iff];simp;omega
theorem rM {m:Nat} (h:m≤1000000000000):IntKind.wrap .i64 (Int.tdiv (m:Int) 2)=((m/2:Nat):Int):=by
 rw[show Int.tdiv (m:Int) 2=((m/2:Nat):Int) by rfl,i64 (by omega)]
theorem n7 (n:Bool) (s:LS) (x y:AV):G4 (En n s) 0 [x,y]=[x,y]:=rfl
theorem sY (s:LS):Av false s=(val s.l:Int):=rfl
theorem rN {N:Nat} {s1 s2:LS} {o1 o2:Bool} (b:Ae s1.l) (c:Ae s2.l) (d:fit (s1.l.length+s2.l.length) N):∃ S,Ae S∧val S=val s1.l*val s2.l∧∀ K:Bool→Nat→LA→O R,Q8 N (En false s1) o1 (En false s2) o2 K=K false (Af (val s1.l*val s2.l)).length (Aa S):=by
 obtain⟨S,a1,a2,a3⟩:=eo (R:=R) (N:=N) (n1:=false) (n2:=false) (o1:=o1) (o2:=o2) b c d
 rw[sY,sY,←Int.natCast_mul] at a2 a3
 rw[Int.natAbs_natCast] at a2 a3
 refine⟨S,a1,a2,fun K=>?_⟩
 rw[a3,decide_eq_false (by omega)]
theorem GA {P Q m j:Nat} (hP:1≤P) (hQ:1≤Q) (b:j≤m):P ^ j≤Q*P ^ m:=by
 have c:P ^ j≤P ^ m:=Nat.pow_le_pow_right hP b
 have d:1*P ^ m≤Q*P ^ m:=Nat.mul_le_mul_right _ hQ
 omega
theorem mi {N k:Nat} (F:fit (2*k+4) N):∀ (b m P Q:Nat) (c:Bool) (s:LS) (S:List Nat),m<b→m≤1000000000→1≤P→1≤Q→Q*P ^ m<4294967296 ^ k→Ae s.l→val s.l=P→s.l.length≤k+1→Ae S→val S=Q →
  ∃ S',Ae S'∧val S'=Q*P ^ m∧∀ K:Bool→Nat→LA→O R,Eo N K b (m:Int) c (En false s) false (Af Q).length (Aa S)=K false (Af (Q*P ^ m)).length (Aa S'):=by
 intro b
 induction b with
 | zero=>intro m P Q c s S h;omega
 | succ b x =>
  intro m P Q c s S M I hP hQ f v y z hS hSv
  rcases Nat.eq_zero_or_pos m with A | A
  ·subst A
   refine⟨S,hS,by simp[hSv],fun K=>?_⟩
   rw[Eo];unfold H0
   rw[show decide (((0:Nat):Int)>0)=false by decide,cf,Nat.pow_zero,Nat.mul_one]
  ·have lQ:(Af Q).length≤k:=C8 (Nat.lt_of_le_of_lt (Nat.le_mul_of_pos_right Q (Nat.pow_pos hP)) f)
   have hPm:P ^ 1≤Q*P ^ m:=GA hP hQ A
   obtain⟨S1,a1,a2,a3⟩:=rN (R:=R) (N:=N) (s1:=.of (Af Q) false true) (s2:=s) (o1:=true) (o2:=c) (Ab _) v (F.le (show(Af Q).length+s.l.length≤_ by omega))
   have vQ:val (LS.of (Af Q) false true).l=Q:=Ac Q
   rw[vQ,y] at a2 a3
   obtain⟨S2,G,B,C⟩:=rN (R:=R) (N:=N) (s1:=s) (s2:=s) (o1:=c) (o2:=c) v v (F.le (show s.l.length+s.l.length≤_ by omega))
   rw[y] at B C
   have sq:∀ n t:Nat,(P*P) ^ n=P ^ (2*n):=fun n t=>by rw[←Nat.pow_two,←Nat.pow_mul]
   have gt0:decide (((m:Nat):Int)>0)=true:=by simp;omega
   have cell:∀ (t:Nat) (u:List Nat),([.bool false,.imm (List.take ((Af t).length*1) (Aa u)) (Af t).length 1 false false]:LA)=[.bool false,.imm (List.take ((Af t).length*1) (Aa u)) (Af t).length 1 false false]:=fun _ _=>rfl
   by_cases d:m%2=1
   ·by_cases L:1<m
    ·have e:Q*P ^ m=(Q*P)*(P*P) ^ (m/2):=by
      rw[sq _ 0,Nat.mul_assoc,←Nat.pow_succ']
      congr 2;omega
     have l2:(Af (P*P)).length≤k:=C8 (Nat.lt_of_le_of_lt (by have:=GA (j:=2) hP hQ (show 2≤m by omega);rwa [Nat.pow_two] at this) f)
     obtain⟨S',c1,i,q⟩:=x (m/2) (P*P) (Q*P) (c||false) (.of (Af (P*P)) false false) S1 (by omega) (by omega) (Nat.mul_pos hP hP) (Nat.mul_pos hQ hP) (by rw[←e];exact f) (Ab _) (Ac _) (by show(Af (P*P)).length≤_;omega) a1 a2
     refine⟨S',c1,by rw[i,e],fun K=>?_⟩
     rw[Eo];unfold H0
     rw[gt0,ct,rL,decide_eq_true d,ct,TH,ct,iL,Bl hS hSv,n0,a3,show decide (((m:Nat):Int)>1)=true by simp;omega,ct,ct,ct,C,show((Nat.beq 2 2)&&(true&&(!false)))=true by rfl,ct,rM (by omega),n7,Bl G B,n0,q,e]
    ·have D:m=1:=by omega
     subst D
     obtain⟨S',c1,i,q⟩:=x 0 P (Q*P) c s S1 (by omega) (by omega) hP (Nat.mul_pos hQ hP) (by simpa using f) v y z a1 a2
     rw[Nat.pow_zero,Nat.mul_one] at i q
     refine⟨S',c1,by rw[i,Nat.pow_one],fun K=>?_⟩
     rw[Eo];unfold H0
     rw[gt0,ct,rL,decide_eq_true d,ct,TH,ct,iL,Bl hS hSv,n0,a3,show decide (((1:Nat):Int)>1)=false by decide,cf,rM (by omega),q,Nat.pow_one]
   ·have L:1<m:=by omega
    have e:Q*P ^ m=Q*(P*P) ^ (m/2):=by
     rw[sq _ 0];congr 2;omega
    have l2:(Af (P*P)).length≤k:=C8 (Nat.lt_of_le_of_lt (by have:=GA (j:=2) hP hQ (show 2≤m by omega);rwa [Nat.pow_two] at this) f)
    obtain⟨S',c1,i,q⟩:=x (m/2) (P*P) Q (c||false) (.of (Af (P*P)) false false) S (by omega) (by omega) (Nat.mul_pos hP hP) hQ (by rw[←e];exact f) (Ab _) (Ac _) (by show(Af (P*P)).length≤_;omega) hS hSv
    refine⟨S',c1,by rw[i,e],fun K=>?_⟩
    rw[Eo];unfold H0
    rw[gt0,ct,rL,decide_eq_false d,cf,show decide (((m:Nat):Int)>1)=true by simp;omega,ct,TH,ct,ct,iL,C,show((Nat.beq 2 2)&&(true&&(!false)))=true by rfl,ct,rM (by omega),n7,Bl G B,n0,q,e]
theorem ru:Af 10=[10]:=by rw[Pk (by omega)];simp[B6]
theorem rO (n:Nat):10 ^ n<4294967296 ^ (n+1):=by
 have b:10 ^ n≤4294967296 ^ n:=Nat.pow_le_pow_left (by omega) n
 have c:4294967296 ^ n<4294967296 ^ (n+1):=Nat.pow_lt_pow_right (by omega) (by omega)
 omega
theorem p_ {N n:Nat} (b:fit (2*n+6) N):∃ S,Ae S∧val S=10 ^ n∧∀ (K:Bool→Nat→LA→O R),(B9 N 10 fun g e i=>Tc N [(.bool g),(.imm (i.take (e*1)) e 1 false true)] true (n:Int) K)=K false (Af (10 ^ n)).length (Aa S):=by
 have q:=b.1;have s:=b.2
 obtain⟨S0,a1,a2,a3⟩:=Gm (R:=R) (N:=N) (v:=1) (by omega) (by omega)
 obtain⟨S1,f,j,m⟩:=Gm (R:=R) (N:=N) (v:=10) (by omega) (by omega)
 obtain⟨S',c1,c,d⟩:=mi (R:=R) (N:=N) (k:=n+1) (b.le (by omega)) N n 10 1 true (.of (Af 10) false true) S0 (by omega) (by omega) (by omega) (by omega) (by rw[Nat.one_mul];exact rO n) (Ab _) (Ac _) (by rw[ru];simp[LS.l]) a1 a2
 rw[Nat.one_mul] at c d
 refine⟨S',c1,c,fun K=>?_⟩
 rw[m,KH];unfold AJ
 rw[a3]
 refine Eq.trans ?_ (d K)
 rw[show(10:Int).natAbs=10 by rfl,show(1:Int).natAbs=1 by rfl] at *
 rw[Bl f j]
 rfl
theorem kR (k:Nat):Lib.repeatL [48] k=List.replicate k 48:=by
 induction k with
 | zero=>rfl
 | succ k b=>rw[Lib.repeatL,b];rfl
theorem n8 {N k:Nat} {K:List UInt8→O R} (h:k≤140737488355328):strings_Repeat N [48] (k:Int) K=K (List.replicate k 48):=by
 rw[Fq];unfold F6
 have:(decide ((0:Int)≤(k:Int))&&(decide ((k:Int)≤9223372036854775807)&&decide (((([48]:List UInt8).length:Nat):Int)*(k:Int)≤140737488355328)))=true:=by simp;omega
 rw[this,ct,Int.toNat_natCast,kR]
end
end Gx

namespace Gx
open Go Go.Proofs
section
variable {R:Type}
theorem uF:(Af (10 ^ 9)).length≤1:=C8 (by decide)
theorem O7 (v:Nat) (a b:Bool):Ae (LS.of (Af v) a b).l:=Ab v
theorem rP {N v:Nat} {o:Bool} {K:Int→O R} (b:fit ((Af v).length) N):T7 N (Ck (v:Int)) o K=K (v:Int).sign:=by
 rw[rK,F_ (O7 _ _ _) b,sY]
 simp only[LS.l]
 rw[Ac]
end
end Gx

namespace Gx
open Go Go.Proofs
section
variable {R:Type}
theorem TJ {a b:Nat} (h:a≤b):Nat.ble a b=true:=by simpa using h
end
end Gx

namespace Gx
open Go Go.Proofs
open IntKind (wrap)
set_option maxRecDepth 100000
noncomputable section
variable {R:Type} (N:Nat)
def n9 (N:Nat) (b:LA) (d:Bool) (c:LA) (e:Bool) (r0:LA→O R):O R :=
 (Bi .i64 b fun f=>(Bi .i64 c fun g=>(Bi .i64 (b.drop 1) fun i=>(Bi .i64 (c.drop 1) fun l=>(Bi .i64 (b.drop 2) fun m=>(Bi .i64 (c.drop 2) fun n=>(Bi .i64 (b.drop 3) fun o=>(Bi .i64 (c.drop 3) fun p=>(r0 [(.int .i64 (wrap .i64 (f+g))),(.int .i64 (wrap .i64 (i+l))),(.int .i64 (wrap .i64 (m+n))),(.int .i64 (wrap .i64 (o+p)))])))))))))
def O8:=(Al (@n9 R)).1
theorem aY:@O8 R=@n9 R:=(Al _).2
def fA (F:KF R):LA→O R:=(fun q=>F (.pagg q false) [])
theorem fB (b:LA) (d:Bool) (c:LA) (e:Bool) (F:KF R):Dj [] H3 N 34 [(.pagg b d),(.pagg c e)] [] F=(O8 N b d c e (fA F)):=by
 rw[aY]
 kernel_rfl
def aZ (a:LA) (h:Ai) (k:KF R):O R :=
 match a,h with
 | [(.pagg b d),(.pagg c e)],[]=>(O8 N b d c e (fA k))
 | _,_=>none
theorem fC:Ao N 34 @aZ:=by
 intro R Q a h k j;unfold aZ;split;exact Ay (fB ..) (fB ..) trivial;exact A0
def fD:=Az (fC N)
def fE:=Dh (fC N)
def kS (N:Nat) (b:LA) (d:Bool) (c:LA) (e:Bool) (r0:LA→O R):O R :=
 (Bi .i64 b fun f=>(Bi .i64 c fun g=>(Bi .i64 (b.drop 1) fun i=>(Bi .i64 (c.drop 1) fun l=>(Bi .i64 (b.drop 2) fun m=>(Bi .i64 (c.drop 2) fun n=>(Bi .i64 (b.drop 3) fun o=>(Bi .i64 (c.drop 3) fun p=>(r0 [(.int .i64 (wrap .i64 (f+g))),(.int .i64 (wrap .i64 (i+l))),(.int .i64 (wrap .i64 (m+n))),(.int .i64 (wrap .i64 (o+p)))])))))))))
def KP:=(Al (@kS R)).1
theorem RW:@KP R=@kS R:=(Al _).2
def a6 (F:KF R):LA→O R:=(fun q=>F (.pagg q false) [])
theorem a7 (b:LA) (d:Bool) (c:LA) (e:Bool) (F:KF R):Dj [] H3 N 35 [(.pagg b d),(.pagg c e)] [] F=(KP N b d c e (a6 F)):=by
 rw[RW]
 kernel_rfl
def RX (a:LA) (h:Ai) (k:KF R):O R :=
 match a,h with
 | [(.pagg b d),(.pagg c e)],[]=>(KP N b d c e (a6 k))
 | _,_=>none
theorem a8:Ao N 35 @RX:=by
 intro R Q a h k j;unfold RX;split;exact Ay (a7 ..) (a7 ..) trivial;exact A0
def mj:=Az (a8 N)
def ml:=Dh (a8 N)
def n_ (N:Nat) (b:LA) (d:Bool) (c:LA) (e:Bool) (r0:LA→O R):O R :=
 (Bi .i64 b fun f=>(Bi .i64 c fun g=>(Bi .i64 (b.drop 1) fun i=>(Bi .i64 (c.drop 1) fun l=>(Bi .i64 (b.drop 2) fun m=>(Bi .i64 (c.drop 2) fun n=>(Bi .i64 (b.drop 3) fun o=>(Bi .i64 (c.drop 3) fun p=>(r0 [(.int .i64 (wrap .i64 (f - g))),(.int .i64 (wrap .i64 (i - l))),(.int .i64 (wrap .i64 (m - n))),(.int .i64 (wrap .i64 (o - p)))])))))))))
def Zb:=(Al (@n_ R)).1
theorem a_:@Zb R=@n_ R:=(Al _).2
def fF (F:KF R):LA→O R:=(fun q=>F (.pagg q false) [])
theorem fG (b:LA) (d:Bool) (c:LA) (e:Bool) (F:KF R):Dj [] H3 N 36 [(.pagg b d),(.pagg c e)] [] F=(Zb N b d c e (fF F)):=by
 rw[a_]
 kernel_rfl
def bA (a:LA) (h:Ai) (k:KF R):O R :=
 match a,h with
 | [(.pagg b d),(.pagg c e)],[]=>(Zb N b d c e (fF k))
 | _,_=>none
theorem fH:Ao N 36 @bA:=by
 intro R Q a h k j;unfold bA;split;exact Ay (fG ..) (fG ..) trivial;exact A0
def fI:=Az (fH N)
def fJ:=Dh (fH N)
end
end Gx

namespace Gx
open Go Go.Proofs
section
variable {R:Type}
theorem kT:∀ (s:List UInt8) (b k:Nat),b<10 ^ k→s.length+k≤18→s.all B3=true→Lib.parseUint10 b s=.ok (b*10 ^ s.length+Ef s)
 | [],b,_,_,_,_=>by simp[Lib.parseUint10,Ef]
 | c::r,b,k,m,l,e=>by
  simp only[List.all_cons,Bool.and_eq_true] at e
  have j:=e.1
  simp[B3] at j
  simp only[List.length_cons] at l
  have d:10 ^ (k+1)≤10 ^ 18:=Nat.pow_le_pow_right (by omega) (by omega)
  rw[Nat.pow_succ] at d
  have f:b*10+(c.toNat - 48)<10 ^ k*10:=by omega
  have i:(10:Nat) ^ 18=1000000000000000000:=by decide
  rw[i] at d
  rw[Lib.parseUint10,if_pos j,if_neg (by omega),if_neg (by omega),kT r (b*10+(c.toNat - 48)) (k+1) (by rw[Nat.pow_succ];exact f) (by omega) e.2,de,List.length_cons,Nat.pow_succ,Nat.add_mul]
  congr 1
  rw[show b*10*10 ^ r.length=b*(10 ^ r.length*10) by rw[Nat.mul_assoc,Nat.mul_comm 10]]
  omega
theorem pa {N:Nat} {s:List UInt8} {K:Int→O R} (b:s.all B3=true) (d:s≠[]) (e:s.length≤18):M3 N s K=K (Ef s:Int):=by
 have f:=TN b
 have i:10 ^ s.length≤10 ^ 18:=Nat.pow_le_pow_right (by omega) e
 have j:(10:Nat) ^ 18=1000000000000000000:=by decide
 have key:Lib.atoiAll s=.ok (Ef s:Int):=by
  cases s with
  | nil=>exact absurd rfl d
  | cons c r =>
   have k:B3 c=true:=by simp only[List.all_cons,Bool.and_eq_true] at b;exact b.1
   simp[B3] at k
   rw[Lib.atoiAll_plain c r (by omega) (by omega),Lib.parseMag,if_neg d,kT (c::r) 0 0 (by decide) (by omega) b,Nat.zero_mul,Nat.zero_add,Lib.signless,if_neg (by omega)]
 rw[Ht];unfold H6
 rw[TJ (by omega),ct,key]
theorem rx (k:Nat):10 ^ k<4294967296 ^ (k+1):=rO k
theorem na {v k:Nat} (h:v<10 ^ k):(Af v).length≤k+1:=C8 (Nat.lt_trans h (rx k))
theorem RY {N:Nat} {c:Bool} {q:Nat} {S9:List Nat} {K:LA→O R} (X:Ae S9) (Y:val S9=10 ^ q) (hq:q=9):∀ (b j v:Nat) (g:List UInt8) (S:List Nat),g.length<b→g.all B3=true→v<10 ^ j→(v=0∨g.length%9=0)→fit (j+g.length+20) N→Ae S→val S=v →
  Ep N K c false (Af (10 ^ q)).length (Aa S9) b g false (Af v).length (Aa S)=K (Ck (if c then -((v*10 ^ g.length+Ef g:Nat):Int) else ((v*10 ^ g.length+Ef g:Nat):Int))):=by
 intro b
 induction b with
 | zero=>intro j v g S h;omega
 | succ b ih =>
  intro j v g S hl y A k i hS hSv
  have f1:=i.1;have f2:=i.2
  have B:(Af (10 ^ q)).length≤1:=by rw[hq];exact uF
  have hdv:=na A
  rw[Ep];unfold Rd
  cases m:g with
  | nil =>
   rw[show(!(([]:List UInt8)==[]))=false by rfl,cf]
   rw[show v*10 ^ ([]:List UInt8).length+Ef []=v by simp[Ef]]
   cases c
   ·rw[cf,Bl hS hSv,if_neg (by simp)]
    congr 1
   ·rw[ct,Bl hS hSv,n0,p8 (O7 _ _ _) (i.le (by show(Af v).length≤_;omega)),sY,show val (LS.of (Af v) false true).l=v from Ac v,Int.natAbs_natCast,sV,if_pos rfl]
    congr 1
    unfold Ck
    rw[Int.natAbs_neg,Int.natAbs_natCast];rfl
  | cons d r =>
   rw[←m]
   have n:g≠[]:=by rw[m];simp
   have G:=List.length_pos_iff.2 n
   rw[show(!(g==[]))=true by simp[n],ct]
   have step:∀ o:Nat,1≤o→o≤9→o≤g.length→(g.length - o)%9=0→(v=0∨o=q)→Kc N (Ep N K c false (Af (10 ^ q)).length (Aa S9) b) K c false (Af (10 ^ q)).length (Aa S9) g (o:Int) false (Af v).length (Aa S)=K (Ck (if c then -((v*10 ^ g.length+Ef g:Nat):Int) else ((v*10 ^ g.length+Ef g:Nat):Int))):=by
    intro o o1 o9 ol om oz
    have I:(g.take o).all B3=true:=by
     rw[List.all_eq_true] at y ⊢;exact fun x C=>y x (List.mem_of_mem_take C)
    have f:(g.take o).length=o:=by rw[List.length_take];omega
    have s:(g.drop o).length=g.length - o:=List.length_drop ..
    have t:=TN I
    rw[f] at t
    have z:10 ^ o≤10 ^ q:=Nat.pow_le_pow_right (by omega) (by omega)
    have e9:10 ^ q=1000000000:=by rw[hq]
    obtain⟨S1,a1,a2,a3⟩:=rN (R:=R) (N:=N) (s1:=.of (Af v) false true) (s2:=.of (Af (10 ^ q)) false true) (o1:=true) (o2:=true) (O7 _ _ _) (O7 _ _ _) (i.le (by have:=B;show(Af v).length+(Af (10 ^ q)).length≤_;omega))
    rw[show val (LS.of (Af v) false true).l=v from Ac v,show val (LS.of (Af (10 ^ q)) false true).l=10 ^ q from Ac _] at a2 a3
    obtain⟨S2,b1,L,M⟩:=Gm (R:=R) (N:=N) (v:=(Ef (g.take o):Int)) (by omega) (by omega)
    rw[Int.natAbs_natCast] at L M
    have hm:v*10 ^ q<10 ^ (j+q):=by rw[Nat.pow_add];exact Nat.mul_lt_mul_of_pos_right A (Nat.pow_pos (by omega))
    have hdm:=na hm
    have hdx:(Af (Ef (g.take o))).length≤1:=C8 (by omega)
    obtain⟨S3,c1,T,U⟩:=pU (R:=R) (N:=N) (n1:=false) (n2:=false) (s1:=.of (Af (v*10 ^ q)) false true) (s2:=.of (Af (Ef (g.take o))) false true) (o1:=true) (o2:=true) (O7 _ _ _) (O7 _ _ _) (i.le (by show(Af (v*10 ^ q)).length+(Af (Ef (g.take o))).length+1≤_;omega))
    rw[sY,sY,show val (LS.of (Af (v*10 ^ q)) false true).l=v*10 ^ q from Ac _,show val (LS.of (Af (Ef (g.take o))) false true).l=Ef (g.take o) from Ac _,Q7,Int.natAbs_natCast] at T U
    unfold Kc
    rw[show((decide ((0:Int)≤(0:Int)))&&((decide (0≤(o:Int)))&&((decide ((o:Int)≤(((g.length):Nat):Int)))&&(decide ((((g.length):Nat):Int)≤(((g.length):Nat):Int))))))=true by simp;omega,ct,Int.toNat_natCast]
    rw[pa I (by intro e;rw[e] at f;simp at f;omega) (by omega)]
    rw[Bl hS hSv,Bl X Y,n0,n0,a3,M,Bl a1 a2,Bl b1 L,n0,show decide (((Ef (g.take o):Nat):Int)<0)=false by simp,n0,U]
    rw[show decide (((v*10 ^ q+Ef (g.take o):Nat):Int)<0)=false by rw[decide_eq_false_iff_not];omega]
    rw[show((decide (0≤(o:Int)))&&((decide ((o:Int)≤(((g.length):Nat):Int)))&&((decide ((((g.length):Nat):Int)≤(((g.length):Nat):Int)))&&(decide ((((g.length):Nat):Int)≤(((g.length):Nat):Int))))))=true by simp;omega,ct]
    rw[List.take_of_length_le (l:=g.drop o) (by omega)]
    have D:v*10 ^ q+Ef (g.take o)<10 ^ (j+q):=by
     rcases oz with oz | oz
     ·subst oz;rw[Nat.zero_mul,Nat.zero_add]
      have:10 ^ q≤10 ^ (j+q):=Nat.pow_le_pow_right (by omega) (by omega)
      omega
     ·have:(v+1)*10 ^ q≤10 ^ j*10 ^ q:=Nat.mul_le_mul_right _ A
      rw[Nat.add_mul,Nat.one_mul] at this
      rw[Nat.pow_add];omega
    have F:v*10 ^ q+Ef (g.take o)<10 ^ (j+o):=by
     rcases oz with oz | oz
     ·subst oz;rw[Nat.zero_mul,Nat.zero_add]
      have:10 ^ o≤10 ^ (j+o):=Nat.pow_le_pow_right (by omega) (by omega)
      omega
     ·rw[show j+o=j+q by rw[oz]];exact D
    rw[ih (j+o) (v*10 ^ q+Ef (g.take o)) (g.drop o) S3 (by omega) (by rw[List.all_eq_true] at y ⊢;exact fun x C=>y x (List.mem_of_mem_drop C)) F (.inr (by rw[s];exact om)) (i.le (by omega)) c1 T]
    have e:(v*10 ^ q+Ef (g.take o))*10 ^ (g.drop o).length+Ef (g.drop o)=v*10 ^ g.length+Ef g:=by
     have V:=OZ (g.take o) (g.drop o)
     rw[List.take_append_drop] at V
     rw[V,Nat.add_mul,Nat.add_assoc]
     congr 1
     rcases oz with oz | oz
     ·subst oz;simp
     ·rw[Nat.mul_assoc,←Nat.pow_add,s];congr 2;omega
    rw[e]
   have u:Int.tmod ((g.length:Nat):Int) 9=((g.length%9:Nat):Int):=rfl
   rw[u]
   by_cases z:g.length%9=0
   ·rw[z,show((((0:Nat):Int))==0)=true by rfl,ct]
    exact step 9 (by omega) (by omega) (by omega) (by omega) (.inr hq.symm)
   ·rw[bX z,cf]
    exact step (g.length%9) (by omega) (by omega) (Nat.mod_le _ _) (by omega) (.inl (by rcases k with k | k;exact k;exact absurd k z))
def Kd (s:List UInt8):Int:=match s with
 | 45::r=>-((Ef r:Nat):Int)
 | s=>((Ef s:Nat):Int)
def Ke (s:List UInt8):Bool:=match s with
 | 45::r=>r.all B3
 | s=>s.all B3
theorem RZ {N:Nat} {s:List UInt8} {K:LA→O R} (d:Ke s=true) (b:fit (s.length+30) N):Li N s K=K (Ck (Kd s)):=by
 have j:=b.1;have m:=b.2
 obtain⟨S0,a1,a2,a3⟩:=Gm (R:=R) (N:=N) (v:=0) (by omega) (by omega)
 obtain⟨S,e,f,i⟩:=p_ (R:=R) (N:=N) (n:=9) (b.le (by omega))
 rw[DT];unfold Uz
 by_cases h:s.head?=some 45
 ·obtain⟨r,rfl⟩:∃ r,s=45::r:=by
   cases s with
   | nil=>simp at h
   | cons c r=>simp at h;exact⟨r,by rw[h]⟩
  rw[Re,a3]
  refine Eq.trans (i _) ?_
  have:=RY (R:=R) (N:=N) (c:=true) (K:=K) e f rfl N 0 0 r S0 (by rw[List.length_cons] at j;omega) d (by decide) (.inl rfl) (b.le (by rw[List.length_cons];omega)) a1 a2
  rw[Nat.zero_mul,Nat.zero_add] at this
  exact this
 ·have k:Kd s=((Ef s:Nat):Int):=by
   unfold Kd
   split
   ·simp at h
   ·rfl
  have l:s.all B3=true:=by
   rw[←d];unfold Ke
   split
   ·simp at h
   ·rfl
  rw[O6 h,a3]
  refine Eq.trans (i _) ?_
  have:=RY (R:=R) (N:=N) (c:=false) (K:=K) e f rfl N 0 0 s S0 (by omega) l (by decide) (.inl rfl) (b.le (by omega)) a1 a2
  rw[Nat.zero_mul,Nat.zero_add] at this
  rw[k]
  exact this
theorem NT {s:List UInt8} (h:Ir s=true):s.all B3=true:=by
 simp only[Ir,cE,Bool.and_eq_true] at h;exact h.1.1
theorem gz {s:List UInt8} (h:gw s=true):Ke s=true:=by
 by_cases b:s.head?=some 45
 ·obtain⟨r,rfl⟩:∃ r,s=45::r:=by
   cases s with
   | nil=>simp at b
   | cons c r=>simp at b;exact⟨r,by rw[b]⟩
  have h:(Ir r&&!(r==[48]))=true:=h
  simp only[Bool.and_eq_true] at h;exact NT h.1
 ·have d:gw s=Ir s:=by
   unfold gw;split
   ·simp at b
   ·rfl
  have e:Ke s=s.all B3:=by
   unfold Ke;split
   ·simp at b
   ·rfl
  rw[e];rw[d] at h;exact NT h
theorem fK {s:List UInt8} (h:s.all B3=true):∀ c ∈ s,c.toNat<128:=by
 intro c b
 have:=List.all_eq_true.1 h c b
 simp[B3] at this;omega
theorem rQ {s:List UInt8} (h:Ke s=true):∀ c ∈ s,c.toNat<128:=by
 unfold Ke at h
 split at h
 ·intro c b
  rcases List.mem_cons.1 b with rfl | b
  ·decide
  ·exact fK h c b
 ·exact fK h
end
end Gx

namespace Gx
open Go Go.Proofs
section
variable {R:Type}
theorem GB (c b:UInt8) (l:List UInt8):Lib.index (b::l) [c]=if c=b then 0 else if Lib.index l [c]=-1 then -1 else Lib.index l [c]+1:=by
 rw[Lib.index]
 have f:([c].isPrefixOf (b::l)=true)↔c=b:=by simp[List.isPrefixOf]
 by_cases h:c=b
 ·rw[if_pos (f.2 h),if_pos h]
 ·rw[if_neg (fun e=>h (f.1 e)),if_neg h]
  by_cases d:Lib.index l [c]=-1
  ·rw[d];rfl
  ·rw[if_neg (by simpa using d),if_neg d]
theorem kU (c:UInt8):∀ s:List UInt8,c ∉ s→Lib.index s [c]=-1
 | [],_=>rfl
 | b::l,h=>by
  rw[GB,if_neg (fun e=>h (by simp[e])),kU c l (fun e=>h (by simp[e])),if_pos rfl]
theorem kV (c:UInt8) (b:List UInt8):∀ a:List UInt8,c ∉ a→Lib.index (a++c::b) [c]=(a.length:Int)
 | [],_=>by rw[List.nil_append,GB,if_pos rfl];rfl
 | d::l,h=>by
  have:=kV c b l (fun e=>h (by simp[e]))
  rw[List.cons_append,GB,if_neg (fun e=>h (by simp[e])),this,if_neg (by omega),List.length_cons];omega
theorem sy {c:UInt8} {s:List UInt8} (h:c ∉ s):Lib.cut s [c]=(s,[],false):=by
 unfold Lib.cut;rw[kU c s h,if_neg (by omega)]
theorem tA {c:UInt8} {a b:List UInt8} (h:c ∉ a):Lib.cut (a++c::b) [c]=(a,b,true):=by
 unfold Lib.cut;rw[kV c b a h,if_pos (by omega),Int.toNat_natCast]
 rw[List.take_left,List.length_singleton,←List.drop_drop,List.drop_left];rfl
theorem tU {N:Nat} {s t:List UInt8} {K:List UInt8→List UInt8→Bool→O R} (h:s.length≤4294967280):strings_Cut N s t K=K (Lib.cut s t).1 (Lib.cut s t).2.1 (Lib.cut s t).2.2:=by
 rw[Il];unfold Jr;rw[TJ h,ct]
theorem KQ {c:UInt8} (h:B3 c=false) {s:List UInt8} (b:s.all B3=true):c ∉ s:=by
 intro d;rw[List.all_eq_true.1 b c d] at h;cases h
theorem tB {c:UInt8} (h:B3 c=false) (f:c≠45) {s:List UInt8} (b:Ke s=true):c ∉ s:=by
 unfold Ke at b
 split at b
 ·intro d
  rcases List.mem_cons.1 d with e | d
  ·exact f e
  ·exact KQ h b d
 ·exact KQ h b
theorem pb {N:Nat} {s:List UInt8} {K:List UInt8→List UInt8→Bool→O R} (b:gw s=true) (c:s.length<N):Md N s K=K s [49] true:=by
 rw[Uy];unfold Ta
 rw[DW c,b,ct]
theorem pd {N:Nat} {e:Bool} {d c:List UInt8} {K:List UInt8→List UInt8→Bool→O R} (k:Ir d=true) (l:cE c=true) (F:d.length+c.length≤1000000000) (G:d.length+c.length+10<N):Md N ((if e then [45] else [])++(d++46::c)) K=K ((if e then [45] else [])++(d++c)) (49::List.replicate c.length 48) true:=by
 have f:=NT k
 have m:c.all B3=true:=by simp only[cE,Bool.and_eq_true] at l;exact l.1
 have i:B3 46=false:=by decide
 have u:gw ((if e then [45] else [])++(d++46::c))=false:=by
  rw[←Bool.not_eq_true];intro v
  exact tB (c:=46) i (by decide) (gz v) (by simp)
 have n:(47:UInt8) ∉ ((if e then [45] else [])++(d++46::c)):=by
  have z:=KQ (c:=47) (by decide) f
  have A:=KQ (c:=47) (by decide) m
  cases e<;>simp[z,A]
 have B:((if e then [45] else [])++(d++46::c):List UInt8).length≤d.length+c.length+2:=by cases e<;>simp<;>omega
 have q:d≠[]:=by intro h;subst h;simp[Ir,cE] at k
 have fin:Jg N K e d c ((if e then [45] else [])++(d++46::c))=K ((if e then [45] else [])++(d++c)) (49::List.replicate c.length 48) true:=by
  unfold Jg
  rw[TJ (by omega),ct]
  cases e
  ·rw[cf,n8 (by omega),TJ (by rw[List.length_replicate];omega),ct];rfl
  ·rw[ct,TJ (by rw[List.length_append];omega),ct,n8 (by omega),TJ (by rw[List.length_replicate];omega),ct];rfl
 rw[Uy];unfold Ta
 rw[DW (by omega),u,cf,tU (by omega),sy n]
 dsimp only
 rw[cf]
 have go:∀ b:Bool,b=e→strings_Cut N (d++46::c) [46] (fun d' c' w=>Hj N d' fun r=>cond ((!r)==false) (Fj N c' fun s=>cond (cond false true (!s)) (K [] [] false) (Jg N K b d' c' ((if e then [45] else [])++(d++46::c)))) (K [] [] false))=K ((if e then [45] else [])++(d++c)) (49::List.replicate c.length 48) true:=by
  intro b C
  subst C
  have t:(d++46::c).length=d.length+(c.length+1):=by simp
  rw[tU (by omega),tA (KQ i f)]
  dsimp only
  rw[U4 (by omega),k,show((!true)==false)=true by rfl,ct,DV (by omega),l,show(cond false true (!true))=false by rfl,cf,fin]
 cases e
 ·have D:((if false=true then [45] else [])++(d++46::c):List UInt8).head?≠some 45:=by
   cases j:d with
   | nil=>exact absurd j q
   | cons x y =>
    rw[j] at f
    simp only[List.all_cons,Bool.and_eq_true] at f
    intro h
    simp at h
    rw[h] at f
    exact absurd f.1 (by decide)
  rw[O6 D]
  exact go false rfl
 ·exact(Re (b:=d++46::c) (c:=45)).trans (go true rfl)
theorem rR {N:Nat} {a:Int} {b:Nat} (n:0<b) (c:fit (4*((Af a.natAbs).length+(Af b).length)+10) N):∃ d:RatD,d.can (mkRat a b)∧∀ K:LA→Bool→O R,ND N (Ck a) false (Ck (b:Int)) false K=K d.av true:=by
 let x:RatD:=⟨decide (a<0),.of (Af a.natAbs) false false,.of (Af b) false false⟩
 have f:x.ok:=⟨Ab _,Ab _⟩
 have hq:x.q=mkRat a b:=by
  show mkRat (Av (decide (a<0)) (.of (Af a.natAbs) false false)) (val (Af b))=_
  rw[Uu,Ac]
 have s:x.m≤(Af a.natAbs).length+(Af b).length:=Nat.max_le.2 ⟨by show(Af a.natAbs).length≤_;omega,by show(Af b).length≤_;omega⟩
 obtain⟨d,e,i⟩:=aL (R:=R) (N:=N) (x:=x) (o:=(false||(false||false))) f (c.le (by omega))
 rw[hq] at e
 refine⟨d,e,fun K=>?_⟩
 rw[FW];unfold TQ
 rw[te,tg,sp,ct,te,tg,sp,ct]
 have j:([(.bool (decide ((b:Int)<0))),(.imm (Aa (Af (b:Int).natAbs)) (Af (b:Int).natAbs).length 1 false false)]:LA)=Ck (b:Int):=rfl
 rw[j,rP (c.le (by omega))]
 have k:((b:Int).sign==0)=false:=by
  rw[beq_eq_false_iff_ne];intro h;have:=Int.sign_eq_zero_iff_zero.1 h;omega
 rw[k,cf]
 have l:([(.bool (!(decide (a<0)==decide ((b:Int)<0)))),(.imm (Aa (Af a.natAbs)) (Af a.natAbs).length 1 false false),(.imm (Aa (Af (b:Int).natAbs)) (Af (b:Int).natAbs).length 1 false false)]:LA)=x.av:=by
  rw[show decide ((b:Int)<0)=false by rw[decide_eq_false_iff_not];omega,Int.natAbs_natCast,show(!(decide (a<0)==false))=decide (a<0) by cases decide (a<0)<;>rfl];rfl
 rw[l,i];rfl
theorem bB {N:Nat} {s n d:List UInt8} (l:∀ K:List UInt8→List UInt8→Bool→O R,Md N s K=K n d true) (q:Ke n=true) (m:d.all B3=true) (f:0<Ef d) (y:∀ c ∈ s,c.toNat<128) (i:fit (8*(s.length+n.length+d.length)+60) N) :
  ∃ x:RatD,x.can (mkRat (Kd n) (Ef d))∧∀ K:LA→Int→O R,Fk N s K=if 4096<dE s then K [(.bool false),.nsl,.nsl] 8 else K x.av 0:=by
 have A:=i.1;have B:=i.2
 have e:∀ t:List UInt8,Ke t=true→(Af (Kd t).natAbs).length≤t.length+1:=by
  intro t k
  unfold Ke at k
  unfold Kd
  split at k
  ·have:=na (TN k)
   rw[Int.natAbs_neg,Int.natAbs_natCast,List.length_cons];omega
  ·have:=na (TN k)
   rw[Int.natAbs_natCast];omega
 have j:d.head?≠some 45:=by
  cases d with
  | nil=>simp
  | cons c r =>
   intro h
   simp at h;subst h
   simp only[List.all_cons,Bool.and_eq_true] at m
   exact absurd m.1 (by decide)
 have u:Kd d=((Ef d:Nat):Int):=by
  unfold Kd;split
  ·simp at j
  ·rfl
 have v:Ke d=true:=by
  unfold Ke;split
  ·simp at j
  ·exact m
 have C:=e n q
 have z:=e d v
 rw[u,Int.natAbs_natCast] at z
 obtain⟨x,x1,x2⟩:=rR (R:=R) (N:=N) (a:=Kd n) (b:=Ef d) f (i.le (by omega))
 refine⟨x,x1,fun K=>?_⟩
 rw[Wd];unfold U0
 rw[l,show(!true)=false by rfl,cf,gy y (by omega) (by omega)]
 by_cases h:4096<dE s
 ·rw[decide_eq_true h,ct,if_pos h]
 ·rw[decide_eq_false h,cf,RZ q (i.le (by omega)),RZ v (i.le (by omega)),u,x2,if_neg h];rfl
end
end Gx

namespace Gx
open Go Go.Proofs
section
variable {R:Type}
theorem uR (v:Nat) (a b:Bool):val (LS.of (Af v) a b).l=v:=Ac v
theorem u5 (v:Nat) (a b:Bool):(LS.of (Af v) a b).l.length=(Af v).length:=rfl
end
end Gx

namespace Gx
open Go Go.Proofs
section
variable {R:Type}
theorem nc {N:Nat} (p:Nat) (b:p≤9223372036854775807) (hN:4≤N):∃ S,Ae S∧val S=p∧∀ K:Bool→Nat→LA→O R,B9 N (p:Int) K=K false (Af p).length (Aa S):=by
 obtain⟨S,a1,a2,a3⟩:=Gm (R:=R) (N:=N) (v:=(p:Int)) (by omega) hN
 rw[Int.natAbs_natCast] at a2 a3
 exact⟨S,a1,a2,fun K=>by rw[a3,decide_eq_false (by omega)]⟩
end
end Gx

namespace Gx
open Go Go.Proofs
section
variable {R:Type}
theorem tV (x:RatD):((Nat.beq 0 0)&&((Nat.beq (List.length x.av) 3)&&(Nat.beq 3 3)))=true:=rfl
theorem hG {b:Nat} {z:Int} (c:b≠0) (d:z.natAbs<4294967296) (h:b<4294967296):qm (mkRat z b)≤1:=sX z b 1 (by omega) (by omega) c
theorem tW {N:Nat} {d:RatD} {p:Rat} {w:Int} {o o':Bool} {K:Bool→O R} (h:d.can p):Ld N (En d.neg d.ns) o (Ck w) o' K=Ld N (Ck p.num) o (Ck w) o' K:=by
 rw[Rb];unfold Um
 simp only[Ki,Le,tT,h.1,h.2.1]
 rfl
theorem bC {N:Nat} {d:RatD} {p q:Rat} {o o':Bool} {K:Bool→O R} (h:d.can p) (b:fit (qm p) N):Du N d.av o (cq q) o' K=K (decide (p=q)):=by
 have hq:=sx (R:=R) (N:=N) (p:=p) (q:=q) (o:=o) (o':=o') (K:=K) b
 rw[←hq,Rc];unfold Uo
 rw[show Nat.ble 2 (List.length d.av)=true by rfl,ct,ey,ct,ey,ct,show List.take 2 d.av=En d.neg d.ns by rfl,NR,NR,tW h,TG,th,th,h.2.2]
 rfl
end
end Gx

namespace Gx
open Go Go.Proofs
open IntKind (wrap)
set_option maxRecDepth 100000
noncomputable section
variable {R:Type} (N:Nat)
def kW (N:Nat) (b:LA) (d:Bool) (c:LA) (e:Bool) (r0:LA→O R):O R :=
 (Bi .i64 b fun f=>(Bi .i64 c fun g=>(Bi .i64 (b.drop 1) fun i=>(Bi .i64 (c.drop 1) fun l=>(Bi .i64 (b.drop 2) fun m=>(Bi .i64 (c.drop 2) fun n=>(Bi .i64 (b.drop 3) fun o=>(Bi .i64 (c.drop 3) fun p=>(r0 [(.int .i64 (wrap .i64 (f - g))),(.int .i64 (wrap .i64 (i - l))),(.int .i64 (wrap .i64 (m - n))),(.int .i64 (wrap .i64 (o - p)))])))))))))
def KR:=(Al (@kW R)).1
theorem R_:@KR R=@kW R:=(Al _).2
def bD (F:KF R):LA→O R:=(fun q=>F (.pagg q false) [])
theorem bE (b:LA) (d:Bool) (c:LA) (e:Bool) (F:KF R):Dj [] H3 N 37 [(.pagg b d),(.pagg c e)] [] F=(KR N b d c e (bD F)):=by
 rw[R_]
 kernel_rfl
def SA (a:LA) (h:Ai) (k:KF R):O R :=
 match a,h with
 | [(.pagg b d),(.pagg c e)],[]=>(KR N b d c e (bD k))
 | _,_=>none
theorem bF:Ao N 37 @SA:=by
 intro R Q a h k j;unfold SA;split;exact Ay (bE ..) (bE ..) trivial;exact A0
def mm:=Az (bF N)
def mn:=Dh (bF N)
def Ii (N:Nat) (k0:List UInt8→Int→O R) (r0:List UInt8→O R) (c:LA) (b:Nat) (d e:Bool) (l:List UInt8) (i:Int):O R :=
 (cond (Am i b) (Bi .u8 (c.drop ((i.toNat)*1)) fun m=>(cond (Am i b) (Bi .u8 (c.drop ((i.toNat)*1)) fun o=>(cond ((decide (0≤(Int.tmod m 2)))&&((decide ((Int.tmod m 2)≤(wrap .u8 ((Int.tmod o 2)+1))))&&((decide ((wrap .u8 ((Int.tmod o 2)+1))≤2))&&(decide ((2:Int)≤(2:Int)))))) (cond (Am (wrap .i64 (i+1)) b) (Bi .u8 (c.drop (((wrap .i64 (i+1)).toNat)*1)) fun q=>(cond (Am (Int.tmod (wrap .i64 q) 12) 12) (tp (List.drop (0+(((Int.tmod (wrap .i64 q) 12).toNat)*1)) [(.str ([77,87]:List UInt8)),(.str ([104]:List UInt8)),(.str ([69,85,82]:List UInt8)),(.str ([71,87,104]:List UInt8)),(.str ([37]:List UInt8)),(.str ([109,105,110]:List UInt8)),(.str ([107,87]:List UInt8)),(.str ([112,117]:List UInt8)),(.str ([99,116]:List UInt8)),(.str ([109,114,97,100]:List UInt8)),(.str ([100]:List UInt8)),(.str ([107,69,85,82]:List UInt8))]) fun p=>(cond (Nat.ble ((List.length (List.take (((wrap .u8 ((Int.tmod o 2)+1)).toNat) - ((Int.tmod m 2).toNat)) (List.drop ((Int.tmod m 2).toNat) ([42,47]:List UInt8))))+(p.length)) 140737488355328) (cond (Nat.ble ((l.length)+(List.length ((List.take (((wrap .u8 ((Int.tmod o 2)+1)).toNat) - ((Int.tmod m 2).toNat)) (List.drop ((Int.tmod m 2).toNat) ([42,47]:List UInt8)))++p))) 140737488355328) (k0 (l++((List.take (((wrap .u8 ((Int.tmod o 2)+1)).toNat) - ((Int.tmod m 2).toNat)) (List.drop ((Int.tmod m 2).toNat) ([42,47]:List UInt8)))++p)) (wrap .i64 (i+2))) none) none)) none)) none) none)) none)) none)
def Hk (N:Nat) (r0:List UInt8→O R) (c:LA) (b:Nat) (d e:Bool) (k0:List UInt8→Int→O R) (q1:List UInt8→Int→O R) (f:List UInt8) (g:Int):O R :=
 (cond ((decide ((wrap .i64 (g+1))<((b:Nat):Int)))==true) (cond (cond true (decide (g<12)) false) (q1 f g) (r0 f)) (r0 f))
def Cx (r0:List UInt8→O R) (c:LA) (b:Nat) (d e:Bool):Nat→List UInt8→Int→O R
 | 0,_,_=>none
 | n+1,f,g=>(Hk N r0 c b d e (Cx r0 c b d e n) (fun l i=>(Ii N (Cx r0 c b d e n) r0 c b d e l i)) f g)
def Qq (N:Nat) (r0:List UInt8→O R) (q0:List UInt8→Int→O R) (c:LA) (b:Nat) (d e:Bool):O R :=
 (q0 ([77,87,104]:List UInt8) 0)
def I0:=(Al (fun (N:Nat) (c:LA) (b:Nat) (d e:Bool) (r0:List UInt8→O R)=>(Qq N r0 (fun f g=>(Cx N r0 c b d e N f g)) c b d e))).1
theorem Zc (c b d e r0):(@I0 R N c b d e r0)=(Qq N r0 (fun f g=>(Cx N r0 c b d e N f g)) c b d e):=by rw[I0,(Al _).2]
def DX:Hints:={ H:=(hS hL (hS hL (hS hL (hS (hS hL (hS (hP [0,3,4,5] (hJ [0,3,4,5] hL hL)) hL)) hL)))) }
def DY (F:KF R):=Rh Tryz.f38 DX [] [] N F
def E1 (F:KF R):List UInt8→O R:=(fun r=>F (.str r) [])
def dF (c:LA) (b:Nat) (d e:Bool) (l:List UInt8) (i:Int):St:=⟨[(0,(.imm c b 1 d e)),(3,(.own 300000 0 12)),(4,(.str l)),(5,(iv i))],(hq [(bQ 1 [(.str ([77,87]:List UInt8)),(.str ([104]:List UInt8)),(.str ([69,85,82]:List UInt8)),(.str ([71,87,104]:List UInt8)),(.str ([37]:List UInt8)),(.str ([109,105,110]:List UInt8)),(.str ([107,87]:List UInt8)),(.str ([112,117]:List UInt8)),(.str ([99,116]:List UInt8)),(.str ([109,114,97,100]:List UInt8)),(.str ([100]:List UInt8)),(.str ([107,69,85,82]:List UInt8))])])⟩
def dG (F:KF R) (Q0:St→O R):=DY N F [1,1,1,0,1,0,0,1] [Q0]
def DZ (c:LA) (b:Nat) (d e:Bool) (f:List UInt8) (g:Int):St:=⟨[(0,(.imm c b 1 d e)),(3,(.own 300000 0 12)),(4,(.str f)),(5,(iv g))],(hq [(bQ 1 [(.str ([77,87]:List UInt8)),(.str ([104]:List UInt8)),(.str ([69,85,82]:List UInt8)),(.str ([71,87,104]:List UInt8)),(.str ([37]:List UInt8)),(.str ([109,105,110]:List UInt8)),(.str ([107,87]:List UInt8)),(.str ([112,117]:List UInt8)),(.str ([99,116]:List UInt8)),(.str ([109,114,97,100]:List UInt8)),(.str ([100]:List UInt8)),(.str ([107,69,85,82]:List UInt8))])])⟩
def D_ (F:KF R):=DY N F [1,1,1,0,1,0] []
theorem NU (Q0:St→O R) (F:KF R) (c:LA) (b:Nat) (d e:Bool):∀ (l:List UInt8) (i:Int),C7 (dG N F Q0) (dF c b d e l i)=(Ii N (fun f g=>Q0 (DZ c b d e f g)) (E1 F) c b d e l i):=by
 intro l i
 kernel_rfl
theorem Td (F:KF R) (c:LA) (b:Nat) (d e:Bool):∀ (n:Nat) (f:List UInt8) (g:Int),Ax (D_ N F) n (DZ c b d e f g)=(Cx N (E1 F) c b d e n f g)
 | 0,_,_=>by kernel_rfl
 | n+1,f,g=>have e0:=(funext fun f=>funext fun g=>(Td F c b d e n f g))
  Eq.trans (by kernel_rfl) (pt (Hk N (E1 F) c b d e · · f g) e0 (funext fun l=>funext fun i=>(A8 ..).trans ((NU N (Ax (D_ N F) n) F c b d e l i).trans (Ee (Ii N · (E1 F) c b d e l i) e0))):_)
theorem EA (c:LA) (b:Nat) (d e:Bool) (F:KF R):Dj [] DX N 38 [(.imm c b 1 d e)] [] F=(I0 N c b d e (E1 F)):=by
 rw[Zc]
 exact Eq.trans (by kernel_rfl) (Ee (Qq N (E1 F) · c b d e) (funext fun f=>funext fun g=>(Ar ..).trans (Td N F c b d e N f g)):_)
def Zd (a:LA) (h:Ai) (k:KF R):O R :=
 match a,h with
 | [(.imm c b 1 d e)],[]=>(I0 N c b d e (E1 k))
 | _,_=>none
theorem EB:Ao N 38 @Zd:=by
 intro R Q a h k j;unfold Zd;split;exact Ay (EA ..) (EA ..) trivial;exact A0
def dH:=Az (EB N)
def dI:=Dh (EB N)
def Qr (N:Nat) (k0:Nat→Int→Bool→Bool→Int→LA→O R) (r0:Nat→Int→LA→O R) (b:List UInt8) (c:Int) (y:Nat) (z:Bool) (aa:LA):O R :=
 (cond ((decide (c<(((b.length):Nat):Int)))==true) (cond (Am c (b.length)) (k0 y (wrap .i64 (c+1)) (cond true (((UInt8.toNat (List.getD b (c.toNat) 0):Nat):Int)==47) false) z (wrap .i64 (c+1)) aa) none) (k0 y (wrap .i64 (c+1)) false z (wrap .i64 (c+1)) aa))
def U5 (N:Nat) (k0:Nat→Int→Bool→Bool→Int→LA→O R) (r0:Nat→Int→LA→O R) (b:List UInt8) (c:Int) (q3:Nat→Bool→LA→O R) (m:Nat) (t:Int) (w x:Bool) (u:LA):O R :=
 (cond (c==t) (r0 0 2 []) (cond (decide (((m:Nat):Int)<8)) (cond ((decide (0≤t))&&((decide (t≤c))&&((decide (c≤(((b.length):Nat):Int)))&&(decide ((((b.length):Nat):Int)≤(((b.length):Nat):Int)))))) (cond ((Nat.ble (m+1) 140737488355328)&&(Nat.ble ((m+1)*24) 140737488355328)) (q3 (m+1) x ((u.take (m*2))++[(.str (List.take ((c.toNat) - (t.toNat)) (List.drop (t.toNat) b))),(.bool w)])) none) none) (q3 m true u)))
def Mf (k0:Nat→Int→Bool→Bool→Int→LA→O R) (r0:Nat→Int→LA→O R) (b:List UInt8) (c:Int) (m:Nat) (t:Int) (w x:Bool) (u:LA):O R:=(U5 N k0 r0 b c (fun y z aa=>(Qr N k0 r0 b c y z aa)) m t w x u)
def U6 (N:Nat) (k0:Nat→Int→Bool→Bool→Int→LA→O R) (r0:Nat→Int→LA→O R) (b:List UInt8) (q2:Nat→Int→Bool→Bool→LA→O R) (o:Nat) (p:Int) (q r:Bool) (c:Int) (v:Bool) (s:LA):O R :=
 (cond v (cond (Am c (b.length)) (cond ((((UInt8.toNat (List.getD b (c.toNat) 0):Nat):Int) != 37)==true) (cond ((decide (((UInt8.toNat (List.getD b (c.toNat) 0):Nat):Int)<97))==false) (cond ((cond true (cond false true (decide (((UInt8.toNat (List.getD b (c.toNat) 0):Nat):Int)>122))) false)==true) (cond ((decide (((UInt8.toNat (List.getD b (c.toNat) 0):Nat):Int)<65))==false) (cond (cond true (cond false true (decide (((UInt8.toNat (List.getD b (c.toNat) 0):Nat):Int)>90))) false) (r0 0 2 []) (k0 o p q r (wrap .i64 (c+1)) s)) (r0 0 2 [])) (k0 o p q r (wrap .i64 (c+1)) s)) (cond ((decide (((UInt8.toNat (List.getD b (c.toNat) 0):Nat):Int)<65))==false) (cond (cond true (cond false true (decide (((UInt8.toNat (List.getD b (c.toNat) 0):Nat):Int)>90))) false) (r0 0 2 []) (k0 o p q r (wrap .i64 (c+1)) s)) (r0 0 2 []))) (k0 o p q r (wrap .i64 (c+1)) s)) none) (q2 o p q r s))
def Mg (k0:Nat→Int→Bool→Bool→Int→LA→O R) (r0:Nat→Int→LA→O R) (b:List UInt8) (o:Nat) (p:Int) (q r:Bool) (c:Int) (v:Bool) (s:LA):O R:=(U6 N k0 r0 b (fun m t w x u=>(Mf N k0 r0 b c m t w x u)) o p q r c v s)
def Kf (N:Nat) (r0:Nat→Int→LA→O R) (b:List UInt8) (k0:Nat→Int→Bool→Bool→Int→LA→O R) (q1:Nat→Int→Bool→Bool→Int→Bool→LA→O R) (e:Nat) (i:Int) (l f:Bool) (d:Int) (g:LA):O R :=
 (cond (decide (d≤(((b.length):Nat):Int))) (cond ((decide (d<(((b.length):Nat):Int)))==true) (cond (Am d (b.length)) (cond ((cond true (((UInt8.toNat (List.getD b (d.toNat) 0):Nat):Int) != 42) false)==true) (cond (Am d (b.length)) (q1 e i l f d (cond true (((UInt8.toNat (List.getD b (d.toNat) 0):Nat):Int) != 47) false) g) none) (q1 e i l f d false g)) none) (q1 e i l f d false g)) (cond f (r0 0 8 []) (r0 e 0 g)))
def A2 (r0:Nat→Int→LA→O R) (b:List UInt8):Nat→Nat→Int→Bool→Bool→Int→LA→O R
 | 0,_,_,_,_,_,_=>none
 | n+1,e,i,l,f,d,g=>(Kf N r0 b (A2 r0 b n) (fun o p q r c v s=>(Mg N (A2 r0 b n) r0 b o p q r c v s)) e i l f d g)
def AK (N:Nat) (r0:Nat→Int→LA→O R) (q0:Nat→Int→Bool→Bool→Int→LA→O R) (b:List UInt8):O R :=
 (q0 0 0 false false 0 [])
def Te:=(Al (fun (N:Nat) (b:List UInt8) (r0:Nat→Int→LA→O R)=>(AK N r0 (fun e i l f d g=>(A2 N r0 b N e i l f d g)) b))).1
theorem KS (b r0):(@Te R N b r0)=(AK N r0 (fun e i l f d g=>(A2 N r0 b N e i l f d g)) b):=by rw[Te,(Al _).2]
def SB:Hints:={ H:=(hS hL (hS hL (hS hL (hS (hS hL (hS (hP [0,4,5,6,7,8] (hS hL (hS (hS (hJ [0,4,5,6,7,8] (hJ [0,4,5,6,7,8,31] hL hL) (hS hL (hJ [0,4,7,8] hL hL))) hL) hL))) hL)) hL)))),nils:=[(2,2),(4,2)],modes:=[(2,2),(0,0)] }
def Qs (F:KF R):=Rh Tryz.f90 SB [] [] N F
def C3 (F:KF R):Nat→Int→LA→O R:=(fun ab ac ad=>F (.tup [(.own 300000 0 ab),(iv ac)]) (hq [(bQ 2 ad)]))
def kX (b:List UInt8) (c:Int) (y:Nat) (z:Bool) (aa:LA):St:=⟨[(0,(.str b)),(4,(.own 300000 0 y)),(7,(.bool z)),(8,(iv c))],(hq [(bQ 2 aa)])⟩
def kY (F:KF R) (Q0:St→O R):=Qs N F [1,1,1,0,1,0,0,1,0,0,1,1,1] [Q0]
def kZ (b:List UInt8) (c:Int) (m:Nat) (t:Int) (w x:Bool) (u:LA):St:=⟨[(0,(.str b)),(4,(.own 300000 0 m)),(5,(iv t)),(6,(.bool w)),(7,(.bool x)),(8,(iv c))],(hq [(bQ 2 u)])⟩
def k5 (F:KF R) (Q0:St→O R):=Qs N F [1,1,1,0,1,0,0,1,0,0,1] [Q0]
def k6 (b:List UInt8) (o:Nat) (p:Int) (q r:Bool) (c:Int) (v:Bool) (s:LA):St:=⟨[(0,(.str b)),(4,(.own 300000 0 o)),(5,(iv p)),(6,(.bool q)),(7,(.bool r)),(8,(iv c)),(31,(.bool v))],(hq [(bQ 2 s)])⟩
def k7 (F:KF R) (Q0:St→O R):=Qs N F [1,1,1,0,1,0,0,1,0,0,0,1] [Q0]
def Jh (b:List UInt8) (e:Nat) (i:Int) (l f:Bool) (d:Int) (g:LA):St:=⟨[(0,(.str b)),(4,(.own 300000 0 e)),(5,(iv i)),(6,(.bool l)),(7,(.bool f)),(8,(iv d))],(hq [(bQ 2 g)])⟩
def SC (F:KF R):=Qs N F [1,1,1,0,1,0] []
theorem bG (Q0:St→O R) (F:KF R) (b:List UInt8) (c:Int):∀ (y:Nat) (z:Bool) (aa:LA),C7 (kY N F Q0) (kX b c y z aa)=(Qr N (fun e i l f d g=>Q0 (Jh b e i l f d g)) (C3 F) b c y z aa):=by
 intro y z aa
 kernel_rfl
theorem bH (Q0:St→O R) (F:KF R) (b:List UInt8) (c:Int):∀ (m:Nat) (t:Int) (w x:Bool) (u:LA),C7 (k5 N F Q0) (kZ b c m t w x u)=(Mf N (fun e i l f d g=>Q0 (Jh b e i l f d g)) (C3 F) b c m t w x u):=by
 intro m t w x u
 exact Eq.trans (by kernel_rfl) (Ee (U5 N (fun e i l f d g=>Q0 (Jh b e i l f d g)) (C3 F) b c · m t w x u) (funext fun y=>funext fun z=>funext fun aa=>(A8 ..).trans (bG N Q0 F b c y z aa)):_)
theorem bI (Q0:St→O R) (F:KF R) (b:List UInt8):∀ (o:Nat) (p:Int) (q r:Bool) (c:Int) (v:Bool) (s:LA),C7 (k7 N F Q0) (k6 b o p q r c v s)=(Mg N (fun e i l f d g=>Q0 (Jh b e i l f d g)) (C3 F) b o p q r c v s):=by
 intro o p q r c v s
 exact Eq.trans (by kernel_rfl) (Ee (U6 N (fun e i l f d g=>Q0 (Jh b e i l f d g)) (C3 F) b · o p q r c v s) (funext fun m=>funext fun t=>funext fun w=>funext fun x=>funext fun u=>(A8 ..).trans (bH N Q0 F b c m t w x u)):_)
theorem Ze (F:KF R) (b:List UInt8):∀ (n e:Nat) (i:Int) (l f:Bool) (d:Int) (g:LA),Ax (SC N F) n (Jh b e i l f d g)=(A2 N (C3 F) b n e i l f d g)
 | 0,_,_,_,_,_,_=>by kernel_rfl
 | n+1,e,i,l,f,d,g=>have e0:=(funext fun e=>funext fun i=>funext fun l=>funext fun f=>funext fun d=>funext fun g=>(Ze F b n e i l f d g))
  Eq.trans (by kernel_rfl) (pt (Kf N (C3 F) b · · e i l f d g) e0 (funext fun o=>funext fun p=>funext fun q=>funext fun r=>funext fun c=>funext fun v=>funext fun s=>(A8 ..).trans ((bI N (Ax (SC N F) n) F b o p q r c v s).trans (Ee (Mg N · (C3 F) b o p q r c v s) e0))):_)
theorem SD (b:List UInt8) (F:KF R):Dj [] SB N 90 [(.str b)] [] F=(Te N b (C3 F)):=by
 rw[KS]
 exact Eq.trans (by kernel_rfl) (Ee (AK N (C3 F) · b) (funext fun e=>funext fun i=>funext fun l=>funext fun f=>funext fun d=>funext fun g=>(Ar ..).trans (Ze N F b N e i l f d g)):_)
def KT (a:LA) (h:Ai) (k:KF R):O R :=
 match a,h with
 | [(.str b)],[]=>(Te N b (C3 k))
 | _,_=>none
theorem SE:Ao N 90 @KT:=by
 intro R Q a h k j;unfold KT;split;exact Ay (SD ..) (SD ..) trivial;exact A0
def k8:=Az (SE N)
def k9:=Dh (SE N)
def GC (N:Nat) (b:List UInt8) (r0:LA→LA→Bool→O R):O R :=
 (cond (b==([107,87]:List UInt8)) (r0 [(.int .i64 1),(.int .i64 1000)] [(.int .i64 1),(.int .i64 0),(.int .i64 0),(.int .i64 0)] true) (cond (b==([77,87]:List UInt8)) (r0 [(.int .i64 1),(.int .i64 1)] [(.int .i64 1),(.int .i64 0),(.int .i64 0),(.int .i64 0)] true) (cond (b==([71,87]:List UInt8)) (r0 [(.int .i64 1000),(.int .i64 1)] [(.int .i64 1),(.int .i64 0),(.int .i64 0),(.int .i64 0)] true) (cond (b==([109,105,110]:List UInt8)) (r0 [(.int .i64 1),(.int .i64 60)] [(.int .i64 0),(.int .i64 1),(.int .i64 0),(.int .i64 0)] true) (cond (b==([104]:List UInt8)) (r0 [(.int .i64 1),(.int .i64 1)] [(.int .i64 0),(.int .i64 1),(.int .i64 0),(.int .i64 0)] true) (cond (b==([100]:List UInt8)) (r0 [(.int .i64 24),(.int .i64 1)] [(.int .i64 0),(.int .i64 1),(.int .i64 0),(.int .i64 0)] true) (cond (b==([107,87,104]:List UInt8)) (r0 [(.int .i64 1),(.int .i64 1000)] [(.int .i64 1),(.int .i64 1),(.int .i64 0),(.int .i64 0)] true) (cond (b==([77,87,104]:List UInt8)) (r0 [(.int .i64 1),(.int .i64 1)] [(.int .i64 1),(.int .i64 1),(.int .i64 0),(.int .i64 0)] true) (cond (b==([71,87,104]:List UInt8)) (r0 [(.int .i64 1000),(.int .i64 1)] [(.int .i64 1),(.int .i64 1),(.int .i64 0),(.int .i64 0)] true) (cond (b==([99,116]:List UInt8)) (r0 [(.int .i64 1),(.int .i64 100)] [(.int .i64 0),(.int .i64 0),(.int .i64 1),(.int .i64 0)] true) (cond (b==([69,85,82]:List UInt8)) (r0 [(.int .i64 1),(.int .i64 1)] [(.int .i64 0),(.int .i64 0),(.int .i64 1),(.int .i64 0)] true) (cond (b==([107,69,85,82]:List UInt8)) (r0 [(.int .i64 1000),(.int .i64 1)] [(.int .i64 0),(.int .i64 0),(.int .i64 1),(.int .i64 0)] true) (cond (b==([109,114,97,100]:List UInt8)) (r0 [(.int .i64 1),(.int .i64 1000)] [(.int .i64 0),(.int .i64 0),(.int .i64 0),(.int .i64 1)] true) (cond (b==([114,97,100]:List UInt8)) (r0 [(.int .i64 1),(.int .i64 1)] [(.int .i64 0),(.int .i64 0),(.int .i64 0),(.int .i64 1)] true) (cond (b==([37]:List UInt8)) (r0 [(.int .i64 1),(.int .i64 100)] [(.int .i64 0),(.int .i64 0),(.int .i64 0),(.int .i64 0)] true) (cond (b==([112,117]:List UInt8)) (r0 [(.int .i64 1),(.int .i64 1)] [(.int .i64 0),(.int .i64 0),(.int .i64 0),(.int .i64 0)] true) (r0 [(.int .i64 0),(.int .i64 0)] [(.int .i64 0),(.int .i64 0),(.int .i64 0),(.int .i64 0)] false)))))))))))))))))
def Tf:=(Al (@GC R)).1
theorem EC:@Tf R=@GC R:=(Al _).2
def KU (F:KF R):LA→LA→Bool→O R:=(fun c d e=>F (.tup [(.pagg c false),(.pagg d false),(.bool e)]) [])
theorem KV (b:List UInt8) (F:KF R):Dj [] sL N 92 [(.str b)] [] F=(Tf N b (KU F)):=by
 rw[EC]
 kernel_rfl
def ED (a:LA) (h:Ai) (k:KF R):O R :=
 match a,h with
 | [(.str b)],[]=>(Tf N b (KU k))
 | _,_=>none
theorem KW:Ao N 92 @ED:=by
 intro R Q a h k j;unfold ED;split;exact Ay (KV ..) (KV ..) trivial;exact A0
def hI:=Az (KW N)
def hZ:=Dh (KW N)
def Qt (r0:LA→LA→Int→O R) (f:Nat) (e:LA) (k0:Int→Int→LA→LA→O R) (g d:Int) (b c:LA):O R :=
 (cond (decide (d<g)) (cond (Am d f) (cond (Nat.ble 2 ((e.drop (0+((d.toNat)*2))).length)) (cond ((Nat.beq 0 0)&&((Nat.beq (((e.drop (0+((d.toNat)*2))).take 2).length) 2)&&(Nat.beq 2 2))) (tp ((e.drop (0+((d.toNat)*2))).take 2) fun w=>(Tf N w (fun l m x=>(cond ((Nat.beq (l.length) 2)&&((Nat.ble 2 2)&&(!false))) (cond ((Nat.beq (m.length) 4)&&((Nat.ble 4 4)&&(!false))) (cond (!x) (r0 [(.bool false),.nsl,.nsl] [(.int .i64 0),(.int .i64 0),(.int .i64 0),(.int .i64 0)] 12) (Pc (((e.drop (0+((d.toNat)*2))).take 2).drop 1) fun y=>(cond y (Bi .i64 ((setCells [(.int .i64 0),(.int .i64 0)] 0 l).drop 1) fun o=>(Bi .i64 (setCells [(.int .i64 0),(.int .i64 0)] 0 l) fun p=>(cond ((Nat.beq 1 1)&&((Nat.ble 1 ((setCells [(.int .i64 0),(.int .i64 0)] 0 l).length))&&(!false))) (cond ((Nat.beq 1 1)&&((Nat.ble 2 (((setCells [(.int .i64 0),(.int .i64 0)] 0 l).set 0 (.int .i64 o)).length))&&(!false))) (cond (Nat.ble 4 (c.length)) (cond (Nat.ble 4 ((setCells [(.int .i64 0),(.int .i64 0),(.int .i64 0),(.int .i64 0)] 0 m).length)) (Zb N (c.take 4) false ((setCells [(.int .i64 0),(.int .i64 0),(.int .i64 0),(.int .i64 0)] 0 m).take 4) false (fun q=>(cond ((Nat.beq (q.length) 4)&&((Nat.ble 4 (c.length))&&(!false))) (cond (Nat.ble 3 (b.length)) (cond (Nat.ble 2 ((((setCells [(.int .i64 0),(.int .i64 0)] 0 l).set 0 (.int .i64 o)).set 1 (.int .i64 p)).length)) (Je N ((((setCells [(.int .i64 0),(.int .i64 0)] 0 l).set 0 (.int .i64 o)).set 1 (.int .i64 p)).take 2) false (fun z=>(Uk N (b.take 3) false z false (fun r=>(cond ((Nat.beq (r.length) 3)&&((Nat.ble 3 (b.length))&&(!false))) (k0 g (wrap .i64 (d+1)) (setCells b 0 r) (setCells c 0 q)) none))))) none) none) none))) none) none) none) none))) (cond (Nat.ble 4 (c.length)) (cond (Nat.ble 4 ((setCells [(.int .i64 0),(.int .i64 0),(.int .i64 0),(.int .i64 0)] 0 m).length)) (O8 N (c.take 4) false ((setCells [(.int .i64 0),(.int .i64 0),(.int .i64 0),(.int .i64 0)] 0 m).take 4) false (fun s=>(cond ((Nat.beq (s.length) 4)&&((Nat.ble 4 (c.length))&&(!false))) (cond (Nat.ble 3 (b.length)) (cond (Nat.ble 2 ((setCells [(.int .i64 0),(.int .i64 0)] 0 l).length)) (Je N ((setCells [(.int .i64 0),(.int .i64 0)] 0 l).take 2) false (fun aa=>(Uk N (b.take 3) false aa false (fun t=>(cond ((Nat.beq (t.length) 3)&&((Nat.ble 3 (b.length))&&(!false))) (k0 g (wrap .i64 (d+1)) (setCells b 0 t) (setCells c 0 s)) none))))) none) none) none))) none) none)))) none) none)))) none) none) none) (cond (Nat.ble 3 (b.length)) (cond (Nat.ble 4 (c.length)) (cond ((Nat.beq 0 0)&&((Nat.beq ((b.take 3).length) 3)&&(Nat.beq 3 3))) (cond ((Nat.beq ((c.take 4).length) 4)&&((Nat.ble 4 4)&&(!false))) (cond (Nat.ble 3 ((b.take 3).length)) (cond (Nat.ble 4 ((setCells [(.int .i64 0),(.int .i64 0),(.int .i64 0),(.int .i64 0)] 0 (c.take 4)).length)) (r0 ((b.take 3).take 3) ((setCells [(.int .i64 0),(.int .i64 0),(.int .i64 0),(.int .i64 0)] 0 (c.take 4)).take 4) 0) none) none) none) none) none) none))
def I3 (r0:LA→LA→Int→O R) (f:Nat) (e:LA):Nat→Int→Int→LA→LA→O R
 | 0,_,_,_,_=>none
 | n+1,g,d,b,c=>(Qt N r0 f e (I3 r0 f e n) g d b c)
def Zf (r0:LA→LA→Int→O R) (q0:Nat→LA→Int→Int→LA→LA→O R) (i:List UInt8):O R :=
 (Te N i (fun f u e=>(cond (u != 0) (r0 [(.bool false),.nsl,.nsl] [(.int .i64 0),(.int .i64 0),(.int .i64 0),(.int .i64 0)] u) (Lg N 1 (fun v=>(cond ((Nat.beq 0 0)&&((Nat.beq (v.length) 3)&&(Nat.beq 3 3))) (q0 f e ((f:Nat):Int) 0 v [(.int .i64 0),(.int .i64 0),(.int .i64 0),(.int .i64 0)]) none))))))
def D7:=(Al (fun (N:Nat) (i:List UInt8) (r0:LA→LA→Int→O R)=>(Zf N r0 (fun f e g d b c=>(I3 N r0 f e N g d b c)) i))).1
theorem Zg (i r0):(@D7 R N i r0)=(Zf N r0 (fun f e g d b c=>(I3 N r0 f e N g d b c)) i):=by rw[D7,(Al _).2]
def bJ:Hints:={ H:=(hS hL (hS hL (hS hL (hS hL (hS (hS hL (hS (hP [2,3,7,8,26,27,28] hL) hL)) hL))))),modes:=[(3,0),(3,0),(0,0)] }
def fL:Gn:=[(90,k8 N),(91,DI N),(92,hI N),(36,fI N),(93,aB N),(76,NL N),(34,fD N)]
def mo (F:KF R):=Rh Tryz.f39 bJ (fL N) [] N F
def O9 (F:KF R):LA→LA→Int→O R:=(fun ab ac ad=>F (.tup [(.pagg ab false),(.pagg ac false),(iv ad)]) [])
def mq (f:Nat) (e:LA) (g d:Int) (b c:LA):St:=⟨[(2,(op 0)),(3,(op 1)),(7,(op 2)),(8,(op 3)),(26,(.own 300004 0 f)),(27,(iv g)),(28,(iv d))],(hq [(bN 0 [(.bool false),.nsl,.nsl]),(bQ 0 [(iv 0),(iv 0),(iv 0),(iv 0)]),(bQ 0 b),(bQ 0 c),(bQ 2 e)])⟩
def mr (F:KF R):=mo N F [1,1,1,1,0,1,0] []
theorem EE (F:KF R) (f:Nat) (e:LA):∀ (n:Nat) (g d:Int) (b c:LA),Ax (mr N F) n (mq f e g d b c)=(I3 N (O9 F) f e n g d b c)
 | 0,_,_,_,_=>by kernel_rfl
 | n+1,g,d,b,c=>Eq.trans (by kernel_rfl) (Ee (Qt N (O9 F) f e · g d b c) (funext fun g=>funext fun d=>funext fun b=>funext fun c=>(EE F f e n g d b c)):_)
theorem bK (i:List UInt8) (F:KF R):Dj (fL N) bJ N 39 [(.str i)] [] F=(D7 N i (O9 F)):=by
 rw[Zg]
 exact Eq.trans (by kernel_rfl) (Ee (Zf N (O9 F) · i) (funext fun f=>funext fun e=>funext fun g=>funext fun d=>funext fun b=>funext fun c=>(Ar ..).trans (EE N F f e N g d b c)):_)
def SF (a:LA) (h:Ai) (k:KF R):O R :=
 match a,h with
 | [(.str i)],[]=>(D7 N i (O9 k))
 | _,_=>none
theorem bL:Ao N 39 @SF:=by
 intro R Q a h k j;unfold SF;split;exact Ay (bK ..) (bK ..) ⟨k9 N,DJ N,hZ N,fJ N,aC N,NM N,fE N,trivial⟩;exact A0
def GD:=Az (bL N)
def GE:=Dh (bL N)
def Ij (N:Nat) (r0:Int→O R) (b:List UInt8) (k1:Int→O R) (d:Int):O R :=
 (cond ((decide (d>0))==true) (cond (Am (wrap .i64 (d - 1)) (b.length)) (cond (cond true (((UInt8.toNat (List.getD b ((wrap .i64 (d - 1)).toNat) 0):Nat):Int)==47) false) (k1 (wrap .i64 (d - 1))) (r0 d)) none) (r0 d))
def Dk (r0:Int→O R) (b:List UInt8):Nat→Int→O R
 | 0,_=>none
 | n+1,d=>(Ij N r0 b (Dk r0 b n) d)
def Rf (N:Nat) (r0:Int→O R) (b:List UInt8) (k0:Int→O R) (q1:Int→O R) (c:Int):O R :=
 (cond ((decide (c<(((b.length):Nat):Int)))==true) (cond (Am c (b.length)) (cond ((decide (((UInt8.toNat (List.getD b (c.toNat) 0):Nat):Int)≥48))==true) (cond (Am c (b.length)) (cond ((cond true (decide (((UInt8.toNat (List.getD b (c.toNat) 0):Nat):Int)≤57)) false)==false) (cond (Am c (b.length)) (cond ((cond false true (((UInt8.toNat (List.getD b (c.toNat) 0):Nat):Int)==45))==false) (cond (Am c (b.length)) (cond ((cond false true (((UInt8.toNat (List.getD b (c.toNat) 0):Nat):Int)==46))==false) (cond (Am c (b.length)) (cond (cond true (cond false true (((UInt8.toNat (List.getD b (c.toNat) 0):Nat):Int)==47)) false) (k0 (wrap .i64 (c+1))) (q1 c)) none) (k0 (wrap .i64 (c+1)))) none) (k0 (wrap .i64 (c+1)))) none) (k0 (wrap .i64 (c+1)))) none) (cond (Am c (b.length)) (cond ((cond false true (((UInt8.toNat (List.getD b (c.toNat) 0):Nat):Int)==45))==false) (cond (Am c (b.length)) (cond ((cond false true (((UInt8.toNat (List.getD b (c.toNat) 0):Nat):Int)==46))==false) (cond (Am c (b.length)) (cond (cond true (cond false true (((UInt8.toNat (List.getD b (c.toNat) 0):Nat):Int)==47)) false) (k0 (wrap .i64 (c+1))) (q1 c)) none) (k0 (wrap .i64 (c+1)))) none) (k0 (wrap .i64 (c+1)))) none)) none) (q1 c))
def Dl (r0:Int→O R) (b:List UInt8):Nat→Int→O R
 | 0,_=>none
 | n+1,c=>(Rf N r0 b (Dl r0 b n) (fun d=>(Dk N r0 b N d)) c)
def U7 (N:Nat) (r0:Int→O R) (q0:Int→O R) (b:List UInt8):O R :=
 (q0 0)
def Nt:=(Al (fun (N:Nat) (b:List UInt8) (r0:Int→O R)=>(U7 N r0 (fun c=>(Dl N r0 b N c)) b))).1
theorem EF (b r0):(@Nt R N b r0)=(U7 N r0 (fun c=>(Dl N r0 b N c)) b):=by rw[Nt,(Al _).2]
def KX:Hints:={ H:=(hS hL (hS hL (hS (hS (hP [0,3] hL) hL) (hS (hS (hP [0,3] hL) hL) hL)))) }
def KY (F:KF R):=Rh Tryz.f119 KX [] [] N F
def F2 (F:KF R):Int→O R:=(fun e=>F (iv e) [])
def h_ (b:List UInt8) (d:Int):St:=⟨[(0,(.str b)),(3,(iv d))],[]⟩
def iA (F:KF R):=KY N F [1,1,1,0,0] []
def iB (b:List UInt8) (c:Int):St:=⟨[(0,(.str b)),(3,(iv c))],[]⟩
def iC (F:KF R):=KY N F [1,1,0,0] []
theorem Wf (F:KF R) (b:List UInt8):∀ (n:Nat) (d:Int),Ax (iA N F) n (h_ b d)=(Dk N (F2 F) b n d)
 | 0,_=>by kernel_rfl
 | n+1,d=>Eq.trans (by kernel_rfl) (Ee (Ij N (F2 F) b · d) (funext fun d=>(Wf F b n d)):_)
theorem Wg (F:KF R) (b:List UInt8):∀ (n:Nat) (c:Int),Ax (iC N F) n (iB b c)=(Dl N (F2 F) b n c)
 | 0,_=>by kernel_rfl
 | n+1,c=>Eq.trans (by kernel_rfl) (pt (Rf N (F2 F) b · · c) (funext fun c=>(Wg F b n c)) (funext fun d=>(Ar ..).trans (Wf N F b N d)):_)
theorem KZ (b:List UInt8) (F:KF R):Dj [] KX N 119 [(.str b)] [] F=(Nt N b (F2 F)):=by
 rw[EF]
 exact Eq.trans (by kernel_rfl) (Ee (U7 N (F2 F) · b) (funext fun c=>(Ar ..).trans (Wg N F b N c)):_)
def EG (a:LA) (h:Ai) (k:KF R):O R :=
 match a,h with
 | [(.str b)],[]=>(Nt N b (F2 k))
 | _,_=>none
theorem K_:Ao N 119 @EG:=by
 intro R Q a h k j;unfold EG;split;exact Ay (KZ ..) (KZ ..) trivial;exact A0
def iD:=Az (K_ N)
def iE:=Dh (K_ N)
def Qu (r0:LA→LA→Int→O R) (d:LA) (e:List UInt8):O R :=
 (D7 N e (fun g f l=>(cond ((Nat.beq 0 0)&&((Nat.beq (g.length) 3)&&(Nat.beq 3 3))) (cond ((Nat.beq (f.length) 4)&&((Nat.ble 4 4)&&(!false))) (cond (l != 0) (r0 [(.bool false),.nsl,.nsl] [(.int .i64 0),(.int .i64 0),(.int .i64 0),(.int .i64 0)] l) (cond (Nat.ble 3 (d.length)) (cond (Nat.ble 3 (g.length)) (Uk N (d.take 3) false (g.take 3) false (fun i=>(cond (Nat.ble 4 ((setCells [(.int .i64 0),(.int .i64 0),(.int .i64 0),(.int .i64 0)] 0 f).length)) (cond ((Nat.beq 0 0)&&((Nat.beq (i.length) 3)&&(Nat.beq 3 3))) (cond ((Nat.beq (((setCells [(.int .i64 0),(.int .i64 0),(.int .i64 0),(.int .i64 0)] 0 f).take 4).length) 4)&&((Nat.ble 4 4)&&(!false))) (cond (Nat.ble 3 (i.length)) (cond (Nat.ble 4 ((setCells [(.int .i64 0),(.int .i64 0),(.int .i64 0),(.int .i64 0)] 0 ((setCells [(.int .i64 0),(.int .i64 0),(.int .i64 0),(.int .i64 0)] 0 f).take 4)).length)) (r0 (i.take 3) ((setCells [(.int .i64 0),(.int .i64 0),(.int .i64 0),(.int .i64 0)] 0 ((setCells [(.int .i64 0),(.int .i64 0),(.int .i64 0),(.int .i64 0)] 0 f).take 4)).take 4) 0) none) none) none) none) none))) none) none)) none) none)))
def AL (r0:LA→LA→Int→O R) (q0:LA→List UInt8→O R) (b:List UInt8):O R :=
 (Nt N b (fun c=>(cond ((decide ((0:Int)≤(0:Int)))&&((decide (0≤c))&&((decide (c≤(((b.length):Nat):Int)))&&(decide ((((b.length):Nat):Int)≤(((b.length):Nat):Int)))))) (Fk N (List.take (c.toNat) b) (fun d m=>(cond ((Nat.beq 0 0)&&((Nat.beq (d.length) 3)&&(Nat.beq 3 3))) (cond (m != 0) (r0 [(.bool false),.nsl,.nsl] [(.int .i64 0),(.int .i64 0),(.int .i64 0),(.int .i64 0)] m) (cond ((decide (0≤c))&&((decide (c≤(((b.length):Nat):Int)))&&((decide ((((b.length):Nat):Int)≤(((b.length):Nat):Int)))&&(decide ((((b.length):Nat):Int)≤(((b.length):Nat):Int)))))) (cond ((List.take ((b.length) - (c.toNat)) (List.drop (c.toNat) b))==([]:List UInt8)) (cond (Nat.ble 3 (d.length)) (cond ((Nat.beq 0 0)&&((Nat.beq ((d.take 3).length) 3)&&(Nat.beq 3 3))) (cond (Nat.ble 3 ((d.take 3).length)) (r0 ((d.take 3).take 3) [(.int .i64 0),(.int .i64 0),(.int .i64 0),(.int .i64 0)] 0) none) none) none) (cond ((List.take ((b.length) - (c.toNat)) (List.drop (c.toNat) b))==([32]:List UInt8)) (r0 [(.bool false),.nsl,.nsl] [(.int .i64 0),(.int .i64 0),(.int .i64 0),(.int .i64 0)] 2) (cond (Am 0 (List.length (List.take ((b.length) - (c.toNat)) (List.drop (c.toNat) b)))) (cond (((UInt8.toNat (List.getD (List.take ((b.length) - (c.toNat)) (List.drop (c.toNat) b)) 0 0):Nat):Int)==32) (cond ((decide ((0:Int)≤(1:Int)))&&((decide (1≤(((List.length (List.take ((b.length) - (c.toNat)) (List.drop (c.toNat) b))):Nat):Int)))&&((decide ((((List.length (List.take ((b.length) - (c.toNat)) (List.drop (c.toNat) b))):Nat):Int)≤(((List.length (List.take ((b.length) - (c.toNat)) (List.drop (c.toNat) b))):Nat):Int)))&&(decide ((((List.length (List.take ((b.length) - (c.toNat)) (List.drop (c.toNat) b))):Nat):Int)≤(((List.length (List.take ((b.length) - (c.toNat)) (List.drop (c.toNat) b))):Nat):Int)))))) (q0 d (List.take ((List.length (List.take ((b.length) - (c.toNat)) (List.drop (c.toNat) b))) - 1) (List.drop 1 (List.take ((b.length) - (c.toNat)) (List.drop (c.toNat) b))))) none) (q0 d (List.take ((b.length) - (c.toNat)) (List.drop (c.toNat) b)))) none))) none)) none))) none)))
def Kg:=(Al (fun (N:Nat) (b:List UInt8) (r0:LA→LA→Int→O R)=>(AL N r0 (fun d e=>(Qu N r0 d e)) b))).1
theorem K' (b r0):(@Kg R N b r0)=(AL N r0 (fun d e=>(Qu N r0 d e)) b):=by rw[Kg,(Al _).2]
def SG:Hints:={ H:=(hS hL (hS hL (hS hL (hS hL (hS hL (hS hL (hS hL (hJ [2,3,6,8] hL hL)))))))),modes:=[(3,0),(3,0),(0,0)] }
def bM:Gn:=[(119,iD N),(24,aV N),(39,GD N),(76,NL N)]
def k_ (F:KF R):=Rh Tryz.f56 SG (bM N) [] N F
def Qv (F:KF R):LA→LA→Int→O R:=(fun n o p=>F (.tup [(.pagg n false),(.pagg o false),(iv p)]) [])
def kc (d:LA) (e:List UInt8):St:=⟨[(2,(op 0)),(3,(op 1)),(6,(op 2)),(8,(.str e))],(hq [(bN 0 [(.bool false),.nsl,.nsl]),(bQ 0 [(iv 0),(iv 0),(iv 0),(iv 0)]),(bQ 0 d)])⟩
def ke (F:KF R):=k_ N F [1,1,1,1,1,1,1,1] []
theorem bO (F:KF R) (d:LA):∀ (e:List UInt8),C7 (ke N F) (kc d e)=(Qu N (Qv F) d e):=by
 intro e
 kernel_rfl
theorem SH (b:List UInt8) (F:KF R):Dj (bM N) SG N 56 [(.str b)] [] F=(Kg N b (Qv F)):=by
 rw[K']
 exact Eq.trans (by kernel_rfl) (Ee (AL N (Qv F) · b) (funext fun d=>funext fun e=>(A8 ..).trans (bO N F d e)):_)
def LB (a:LA) (h:Ai) (k:KF R):O R :=
 match a,h with
 | [(.str b)],[]=>(Kg N b (Qv k))
 | _,_=>none
theorem SI:Ao N 56 @LB:=by
 intro R Q a h k j;unfold LB;split;exact Ay (SH ..) (SH ..) ⟨iE N,aW N,GE N,NM N,trivial⟩;exact A0
def SK:=Az (SI N)
def SL:=Dh (SI N)
def iF (d e:List UInt8) (r0:LA→Int→O R):O R :=
 (Kg N d (fun g b l=>(cond ((Nat.beq 0 0)&&((Nat.beq (g.length) 3)&&(Nat.beq 3 3))) (cond ((Nat.beq (b.length) 4)&&((Nat.ble 4 4)&&(!false))) (cond (l != 0) (r0 [(.bool false),.nsl,.nsl] l) (D7 N e (fun i c m=>(cond ((Nat.beq 0 0)&&((Nat.beq (i.length) 3)&&(Nat.beq 3 3))) (cond ((Nat.beq (c.length) 4)&&((Nat.ble 4 4)&&(!false))) (cond (m != 0) (r0 [(.bool false),.nsl,.nsl] m) (cond (Nat.ble 4 ((setCells [(.int .i64 0),(.int .i64 0),(.int .i64 0),(.int .i64 0)] 0 b).length)) (cond (Nat.ble 4 ((setCells [(.int .i64 0),(.int .i64 0),(.int .i64 0),(.int .i64 0)] 0 c).length)) (cond ((Nat.ble 1 4)&&((Nat.beq (((setCells [(.int .i64 0),(.int .i64 0),(.int .i64 0),(.int .i64 0)] 0 b).take 4).length) 4)&&((Nat.beq (((setCells [(.int .i64 0),(.int .i64 0),(.int .i64 0),(.int .i64 0)] 0 c).take 4).length) 4)&&(true&&(!false))))) (Bi .i64 ((setCells [(.int .i64 0),(.int .i64 0),(.int .i64 0),(.int .i64 0)] 0 b).take 4) fun n=>(Bi .i64 ((setCells [(.int .i64 0),(.int .i64 0),(.int .i64 0),(.int .i64 0)] 0 c).take 4) fun o=>(Bi .i64 (((setCells [(.int .i64 0),(.int .i64 0),(.int .i64 0),(.int .i64 0)] 0 b).take 4).drop 1) fun p=>(Bi .i64 (((setCells [(.int .i64 0),(.int .i64 0),(.int .i64 0),(.int .i64 0)] 0 c).take 4).drop 1) fun q=>(Bi .i64 (((setCells [(.int .i64 0),(.int .i64 0),(.int .i64 0),(.int .i64 0)] 0 b).take 4).drop 2) fun r=>(Bi .i64 (((setCells [(.int .i64 0),(.int .i64 0),(.int .i64 0),(.int .i64 0)] 0 c).take 4).drop 2) fun s=>(Bi .i64 (((setCells [(.int .i64 0),(.int .i64 0),(.int .i64 0),(.int .i64 0)] 0 b).take 4).drop 3) fun t=>(Bi .i64 (((setCells [(.int .i64 0),(.int .i64 0),(.int .i64 0),(.int .i64 0)] 0 c).take 4).drop 3) fun u=>(cond (!((n==o)&&((p==q)&&((r==s)&&((t==u)&&true))))) (r0 [(.bool false),.nsl,.nsl] 15) (cond (Nat.ble 3 (g.length)) (cond (Nat.ble 3 (i.length)) (aH N (g.take 3) false (i.take 3) false (fun f v=>(cond ((Nat.beq 0 0)&&((Nat.beq (f.length) 3)&&(Nat.beq 3 3))) (cond (!v) (r0 [(.bool false),.nsl,.nsl] 5) (cond (Nat.ble 3 (f.length)) (cond ((Nat.beq 0 0)&&((Nat.beq ((f.take 3).length) 3)&&(Nat.beq 3 3))) (cond (Nat.ble 3 ((f.take 3).length)) (r0 ((f.take 3).take 3) 0) none) none) none)) none))) none) none)))))))))) none) none) none)) none) none)))) none) none)))
def LC:=(Al (@iF R)).1
theorem NV:@LC R=@iF R:=(Al _).2
def ry:Gn:=[(56,SK N),(39,GD N),(118,pW N)]
def kf (F:KF R):LA→Int→O R:=(fun w x=>F (.tup [(.pagg w false),(iv x)]) [])
theorem kg (d e:List UInt8) (F:KF R):Dj (ry N) qf N 57 [(.str d),(.str e)] [] F=(LC N d e (kf F)):=by
 rw[NV]
 kernel_rfl
def fM (a:LA) (h:Ai) (k:KF R):O R :=
 match a,h with
 | [(.str d),(.str e)],[]=>(LC N d e (kf k))
 | _,_=>none
theorem ki:Ao N 57 @fM:=by
 intro R Q a h k j;unfold fM;split;exact Ay (kg ..) (kg ..) ⟨SL N,GE N,pX N,trivial⟩;exact A0
def rS:=Az (ki N)
def rT:=Dh (ki N)
end
end Gx

namespace Gx
open Go Go.Proofs
section
variable {R:Type}
def tX (c:UInt8):Bool:=decide (c.toNat≠42)&&(decide (c.toNat≠47)&&(decide (c.toNat=37)||((decide (97≤c.toNat)&&decide (c.toNat≤122))||(decide (65≤c.toNat)&&decide (c.toNat≤90)))))
theorem Rg {d n:Nat} (h:d<n):Am (d:Int) n=true:=by unfold Am;simp;omega
theorem AM {pre post:List UInt8} {c:UInt8}:List.getD (pre++c::post) pre.length 0=c:=by simp
theorem cc (a:Bool):cond true a false=a:=by cases a<;>rfl
theorem uG (a:Bool):cond false true a=a:=by cases a<;>rfl
theorem ti (a:Bool):(a==true)=a:=by cases a<;>rfl
theorem mt {N n e:Nat} {b pre post:List UInt8} {c:UInt8} {i:Int} {l f:Bool} {g:LA} {K:Nat→Int→LA→O R} (k:b=pre++c::post) (m:tX c=true) (s:b.length≤1000000000) :
  A2 N K b (n+1) e i l f (pre.length:Int) g=A2 N K b n e i l f ((pre.length+1:Nat):Int) g:=by
 have d:pre.length<b.length:=by rw[k];simp
 have q:List.getD b ((pre.length:Int)).toNat 0=c:=by rw[Int.toNat_natCast,k];exact AM
 simp only[tX,Bool.and_eq_true,Bool.or_eq_true,decide_eq_true_eq] at m
 rw[A2];unfold Kf
 rw[q,show decide ((pre.length:Int)≤(((b.length):Nat):Int))=true by simp;omega,ct,Wj d,Rg d,ct,cc,cc,ti,ti,ct,ct]
 rw[show((((c.toNat):Nat):Int) != 42)=true by rw[bne_iff_ne];omega,ct,show((((c.toNat):Nat):Int) != 47)=true by rw[bne_iff_ne];omega]
 unfold Mg U6
 dsimp only
 rw[q,ct,Rg d,ct,wS (by omega),ti,cc,cc,uG,uG,ti]
 by_cases j:c.toNat=37
 ·rw[show((((c.toNat):Nat):Int) != 37)=false by rw[j];rfl,cf]
 ·rw[show((((c.toNat):Nat):Int) != 37)=true by rw[bne_iff_ne];omega,ct]
  rcases m.2.2 with h | h | h
  ·exact absurd h j
  ·rw[show(decide ((((c.toNat):Nat):Int)<97)==false)=true by simp;omega,ct,show decide ((((c.toNat):Nat):Int)>122)=false by simp;omega,cf]
  ·rw[show(decide ((((c.toNat):Nat):Int)<97)==false)=false by simp;omega,cf,show(decide ((((c.toNat):Nat):Int)<65)==false)=true by simp;omega,ct,show decide ((((c.toNat):Nat):Int)>90)=false by simp;omega,cf]
theorem Zh {N e:Nat} {b:List UInt8} {i:Int} {l f:Bool} {g:LA} {K:Nat→Int→LA→O R} (j:b.length≤1000000000):∀ (w pre post:List UInt8) (n:Nat),b=pre++(w++post)→w.all tX=true →
  A2 N K b (n+w.length) e i l f (pre.length:Int) g=A2 N K b n e i l f ((pre.length+w.length:Nat):Int) g
 | [],pre,post,n,_,_=>rfl
 | c::w,pre,post,n,k,d=>by
  simp only[List.all_cons,Bool.and_eq_true] at d
  have m:=Zh (N:=N) (e:=e) (i:=i) (l:=l) (f:=f) (g:=g) (K:=K) j w (pre++[c]) post n (by rw[k];simp) d.2
  rw[List.length_append,List.length_singleton] at m
  rw[List.length_cons,←Nat.add_assoc,mt (post:=w++post) (by rw[k];simp) d.1 j,m,Nat.add_assoc,Nat.add_comm 1]
def pc (P:List (Bool×List UInt8)):LA:=P.flatMap fun p=>[.str p.2,.bool p.1]
theorem rU (P:List (Bool×List UInt8)):(pc P).length=P.length*2:=by
 induction P with
 | nil=>rfl
 | cons p P b=>unfold pc at *;rw[List.flatMap_cons,List.length_append,b];simp;omega
theorem rz (P:List (Bool×List UInt8)):(pc P).take (P.length*2)=pc P:=List.take_of_length_le (by rw[rU];omega)
theorem tC (P:List (Bool×List UInt8)) (o:Bool) (w:List UInt8):pc P++[.str w,.bool o]=pc (P++[(o,w)]):=by unfold pc;rw[List.flatMap_append];rfl
def tl (U:List (Bool×List UInt8)):List UInt8:=U.flatMap fun p=>(if p.1 then 47 else 42)::p.2
def iG (U:List (Bool×List UInt8)):Prop:=∀ p ∈ U,p.2≠[]∧p.2.all tX=true
theorem rV {pre w post:List UInt8}:List.take (pre.length+w.length - pre.length) (List.drop pre.length (pre++(w++post)))=w:=by
 rw[List.drop_left,Nat.add_sub_cancel_left,List.take_left]
def nd:List UInt8→Bool
 | c::_=>c==47
 | []=>false
theorem kj {N n:Nat} {b pre w:List UInt8} {o f:Bool} {P:List (Bool×List UInt8)} {E6:List UInt8} {K:Nat→Int→LA→O R} (i:b=pre++(w++E6)) (s:w≠[]) (x:b.length≤1000000000) (j:E6=[]∨(∃ r,E6=42::r)∨∃ r,E6=47::r) (hP:P.length≤8) :
  A2 N K b (n+1) P.length (pre.length:Int) o f ((pre.length+w.length:Nat):Int) (pc P) =
   A2 N K b n (if P.length<8 then P++[(o,w)] else P).length ((pre.length+w.length+1:Nat):Int) (nd E6) (if P.length<8 then f else true) ((pre.length+w.length+1:Nat):Int) (pc (if P.length<8 then P++[(o,w)] else P)):=by
 have t:=List.length_pos_iff.2 s
 have d:b.length=pre.length+w.length+E6.length:=by rw[i];simp;omega
 have q:∀ (y:Nat) (z:Bool) (aa:LA),Qr N (A2 N K b n) K b ((pre.length+w.length:Nat):Int) y z aa=A2 N K b n y ((pre.length+w.length+1:Nat):Int) (nd E6) z ((pre.length+w.length+1:Nat):Int) aa:=by
  intro y z aa
  unfold Qr
  rw[wS (by omega)]
  cases E6 with
  | nil=>rw[FG (by simp at d;omega)];rfl
  | cons c r =>
   have e:pre.length+w.length<b.length:=by rw[d,List.length_cons];omega
   have k:List.getD b (((pre.length+w.length:Nat):Int)).toNat 0=c:=by
    rw[Int.toNat_natCast,i,←List.append_assoc,show pre.length+w.length=(pre++w).length by simp];exact AM
   rw[Wj e,show(true==true)=true by rfl,ct,Rg e,ct,k,cc]
   congr 1
   show _=(c==47)
   rw[Bool.eq_iff_iff];simp only[beq_iff_eq]
   constructor
   ·intro h;apply UInt8.toNat_inj.1;have:c.toNat=47:=by omega
    rw[this];rfl
   ·intro h;rw[h];rfl
 have m:Mf N (A2 N K b n) K b ((pre.length+w.length:Nat):Int) P.length (pre.length:Int) o f (pc P)=A2 N K b n (if P.length<8 then P++[(o,w)] else P).length ((pre.length+w.length+1:Nat):Int) (nd E6) (if P.length<8 then f else true) ((pre.length+w.length+1:Nat):Int) (pc (if P.length<8 then P++[(o,w)] else P)):=by
  unfold Mf U5
  dsimp only
  rw[show(((pre.length+w.length:Nat):Int)==(pre.length:Int))=false by rw[beq_eq_false_iff_ne];omega,cf]
  by_cases l:P.length<8
  ·rw[show decide (((P.length:Nat):Int)<8)=true by simp;omega,ct,if_pos l,if_pos l]
   rw[show((decide ((0:Int)≤(pre.length:Int)))&&((decide ((pre.length:Int)≤((pre.length+w.length:Nat):Int)))&&((decide (((pre.length+w.length:Nat):Int)≤(((b.length):Nat):Int)))&&(decide ((((b.length):Nat):Int)≤(((b.length):Nat):Int))))))=true by simp;omega,ct]
   rw[show((Nat.ble (P.length+1) 140737488355328)&&(Nat.ble ((P.length+1)*24) 140737488355328))=true by simp;omega,ct,q,rz,Int.toNat_natCast,Int.toNat_natCast,i,rV,tC,←i,List.length_append,List.length_singleton]
  ·rw[show decide (((P.length:Nat):Int)<8)=false by simp;omega,cf,q,if_neg l,if_neg l]
 rw[A2];unfold Kf
 rw[show decide (((pre.length+w.length:Nat):Int)≤(((b.length):Nat):Int))=true by simp;omega,ct]
 have fin:∀ v,v=false→Mg N (A2 N K b n) K b P.length (pre.length:Int) o f ((pre.length+w.length:Nat):Int) v (pc P)=Mf N (A2 N K b n) K b ((pre.length+w.length:Nat):Int) P.length (pre.length:Int) o f (pc P):=by
  intro v u;subst u;rfl
 rcases j with h | ⟨r,h⟩ | ⟨r,h⟩
 ·subst h
  rw[FG (by simp at d;omega),show(false==true)=false by rfl,cf]
  exact(fin false rfl).trans m
 all_goals
  subst h
  have e:pre.length+w.length<b.length:=by rw[d,List.length_cons];omega
  rw[Wj e,show(true==true)=true by rfl,ct,Rg e,ct]
 ·have k:List.getD b (((pre.length+w.length:Nat):Int)).toNat 0=42:=by
   rw[Int.toNat_natCast,i,←List.append_assoc,show pre.length+w.length=(pre++w).length by simp];exact AM
  rw[k]
  exact(fin false rfl).trans m
 ·have k:List.getD b (((pre.length+w.length:Nat):Int)).toNat 0=47:=by
   rw[Int.toNat_natCast,i,←List.append_assoc,show pre.length+w.length=(pre++w).length by simp];exact AM
  rw[k]
  exact(fin false rfl).trans m
end
end Gx

namespace Gx
open Go Go.Proofs
section
variable {R:Type}
theorem TT (o:Bool) (w:List UInt8) (U:List (Bool×List UInt8)):tl ((o,w)::U)=(if o then 47 else 42)::(w++tl U):=by unfold tl;rw[List.flatMap_cons];rfl
theorem mv {N:Nat} {b:List UInt8} {K:Nat→Int→LA→O R} (j:b.length≤1000000000):∀ (U:List (Bool×List UInt8)) (pre w:List UInt8) (o f:Bool) (P:List (Bool×List UInt8)) (n:Nat),b=pre++(w++tl U)→iG ((o,w)::U)→P.length≤8 →
  A2 N K b (n+(w++tl U).length+2) P.length (pre.length:Int) o f (pre.length:Int) (pc P)=cond (f||decide (8<(P++(o,w)::U).length)) (K 0 8 []) (K (P++(o,w)::U).length 0 (pc (P++(o,w)::U))):=by
 intro U
 induction U with
 | nil =>
  intro pre w o f P n c hU hP
  have i:=hU (o,w) (by simp)
  have q:tl []=[]:=rfl
  rw[q] at c ⊢
  rw[List.append_nil,show n+w.length+2=(n+2)+w.length by omega,Zh j w pre [] (n+2) c i.2,kj (E6:=[]) c i.1 j (.inl rfl) hP,A2]
  unfold Kf
  have m:b.length=pre.length+w.length:=by rw[c];simp
  rw[show decide (((pre.length+w.length+1:Nat):Int)≤(((b.length):Nat):Int))=false by simp;omega,cf]
  by_cases d:P.length<8
  ·rw[if_pos d,if_pos d,List.length_append,List.length_singleton,show decide (8<P.length+1)=false by simp;omega,Bool.or_false]
  ·rw[if_neg d,if_neg d,List.length_append,List.length_singleton,show decide (8<P.length+1)=true by simp;omega,Bool.or_true];rfl
 | cons p U s =>
  obtain⟨o2,e⟩:=p
  intro pre w o f P n c hU hP
  have i:=hU (o,w) (by simp)
  rw[TT] at c ⊢
  have t:nd ((if o2=true then 47 else 42)::(e++tl U))=o2:=by cases o2<;>rfl
  have k:b=(pre++w++[if o2=true then 47 else 42])++(e++tl U):=by rw[c];simp
  have l:((pre++w++[if o2=true then 47 else 42]):List UInt8).length=pre.length+w.length+1:=by simp;omega
  rw[show n+(w++(if o2=true then 47 else 42)::(e++tl U)).length+2=(n+(e++tl U).length+2+1)+w.length by rw[List.length_append,List.length_cons];omega]
  rw[Zh j w pre _ _ c i.2,kj (E6:=(if o2=true then 47 else 42)::(e++tl U)) c i.1 j (by cases o2;exact .inr (.inl ⟨_,rfl⟩);exact .inr (.inr ⟨_,rfl⟩)) hP,t]
  have key:=s (pre++w++[if o2=true then 47 else 42]) e o2 (if P.length<8 then f else true) (if P.length<8 then P++[(o,w)] else P) n k (fun x u=>hU x (List.mem_cons_of_mem _ u)) (by
   by_cases h:P.length<8
   ·rw[if_pos h,List.length_append,List.length_singleton];omega
   ·rw[if_neg h];exact hP)
  rw[l] at key
  rw[key]
  by_cases d:P.length<8
  ·rw[if_pos d,if_pos d,List.append_assoc];rfl
  ·rw[if_neg d,if_neg d]
   rw[show decide (8<(P++(o,w)::(o2,e)::U).length)=true by simp;omega,Bool.or_true];rfl
theorem ko {N:Nat} {w:List UInt8} {U:List (Bool×List UInt8)} {K:Nat→Int→LA→O R} (hU:iG ((false,w)::U)) (c:(w++tl U).length≤1000000000) (hN:(w++tl U).length+2≤N):Te N (w++tl U) K=cond (decide (8<U.length+1)) (K 0 8 []) (K (U.length+1) 0 (pc ((false,w)::U))):=by
 rw[KS];unfold AK
 have:=mv (R:=R) (N:=N) (b:=w++tl U) (K:=K) c U [] w false false [] (N - (w++tl U).length - 2) rfl hU (by simp)
 rw[show N - (w++tl U).length - 2+(w++tl U).length+2=N by omega] at this
 exact this
end
end Gx

namespace Gx
open Go Go.Proofs
section
variable {R:Type}
structure Sy where
 w:List UInt8
 n:Nat
 d:Nat
 a:Int
 b:Int
 c:Int
 e:Int
def SM:List Sy:=[⟨[77,87,104],1,1,1,1,0,0⟩,⟨[77,87],1,1,1,0,0,0⟩,⟨[104],1,1,0,1,0,0⟩,⟨[69,85,82],1,1,0,0,1,0⟩,⟨[71,87,104],1000,1,1,1,0,0⟩,⟨[37],1,100,0,0,0,0⟩,⟨[109,105,110],1,60,0,1,0,0⟩,⟨[107,87],1,1000,1,0,0,0⟩,⟨[112,117],1,1,0,0,0,0⟩,⟨[99,116],1,100,0,0,1,0⟩,⟨[109,114,97,100],1,1000,0,0,0,1⟩,⟨[100],24,1,0,1,0,0⟩,⟨[107,69,85,82],1000,1,0,0,1,0⟩]
def Sy.dims (s:Sy):LA:=[.int .i64 s.a,.int .i64 s.b,.int .i64 s.c,.int .i64 s.e]
theorem rW {N:Nat} {s:Sy} (b:s ∈ SM) {K:LA→LA→Bool→O R}:Tf N s.w K=K [.int .i64 (s.n:Int),.int .i64 (s.d:Int)] s.dims true:=by
 rw[EC];unfold GC
 simp only[SM,List.mem_cons,List.not_mem_nil,or_false] at b
 rcases b with rfl | rfl | rfl | rfl | rfl | rfl | rfl | rfl | rfl | rfl | rfl | rfl | rfl<;>rfl
theorem Bm {s:Sy} (f:s ∈ SM):s.w≠[]∧s.w.all tX=true∧s.w.length≤4∧1≤s.n∧s.n≤1000∧1≤s.d∧s.d≤1000∧(0≤s.a∧s.a≤1)∧(0≤s.b∧s.b≤1)∧(0≤s.c∧s.c≤1)∧(0≤s.e∧s.e≤1):=by
 simp only[SM,List.mem_cons,List.not_mem_nil,or_false] at f
 rcases f with rfl | rfl | rfl | rfl | rfl | rfl | rfl | rfl | rfl | rfl | rfl | rfl | rfl<;>decide
abbrev Un:=List (Bool×Sy)
def Mh (U:Un):Prop:=∀ p ∈ U,p.2 ∈ SM
def pv (p:Bool×Sy):Rat:=if p.1 then mkRat p.2.d p.2.n else mkRat p.2.n p.2.d
def Kh (U:Un):Rat:=U.foldl (fun q p=>q*pv p) 1
theorem pe (U:Un):∀ q:Rat,U.foldl (fun q p=>q*pv p) q=q*Kh U:=by
 unfold Kh
 induction U with
 | nil=>intro q;exact(Rat.mul_one q).symm
 | cons p U b=>intro q;rw[List.foldl_cons,List.foldl_cons,b,b (1*pv p),Rat.one_mul,Rat.mul_assoc]
theorem SN (U V:Un):Kh (U++V)=Kh U*Kh V:=by
 unfold Kh;rw[List.foldl_append];exact pe V _
def ds (f:Sy→Int) (U:Un):Int:=(U.map fun p=>if p.1 then -f p.2 else f p.2).sum
theorem El (f:Sy→Int) (U V:Un):ds f (U++V)=ds f U+ds f V:=by unfold ds;rw[List.map_append,List.sum_append]
theorem Gc {f:Sy→Int} {U:Un} (h:∀ p ∈ U,0≤f p.2∧f p.2≤1):-(U.length:Int)≤ds f U∧ds f U≤(U.length:Int):=by
 induction U with
 | nil=>simp[ds]
 | cons p U b =>
  have d:=b fun x c=>h x (List.mem_cons_of_mem _ c)
  have i:=h p (by simp)
  have e:ds f (p::U)=(if p.1 then -f p.2 else f p.2)+ds f U:=by unfold ds;rw[List.map_cons,List.sum_cons]
  rw[e,List.length_cons]
  split<;>omega
def uw (U:Un):List (Bool×List UInt8):=U.map fun p=>(p.1,p.2.w)
def Gz (U:Un):LA:=[.int .i64 (ds Sy.a U),.int .i64 (ds Sy.b U),.int .i64 (ds Sy.c U),.int .i64 (ds Sy.e U)]
theorem pf (A B:List (Bool×List UInt8)):pc (A++B)=pc A++pc B:=by unfold pc;rw[List.flatMap_append]
theorem dJ {N n d:Nat} (z:n≤1000) (A:1≤d) (f:d≤1000) (b:fit 100 N):∃ x:RatD,x.can (mkRat n d)∧∀ K:LA→O R,Je N [.int .i64 (n:Int),.int .i64 (d:Int)] false K=K x.av:=by
 have B:=b.1
 obtain⟨S1,a1,a2,a3⟩:=nc (R:=R) (N:=N) n (by omega) (by omega)
 obtain⟨S2,i,j,k⟩:=nc (R:=R) (N:=N) d (by omega) (by omega)
 have c:(Af n).length≤1:=C8 (by omega)
 have e:(Af d).length≤1:=C8 (by omega)
 let x:RatD:=⟨false,.of (Af n) false true,.of (Af d) false true⟩
 have s:x.ok:=⟨Ab _,Ab _⟩
 have hq:x.q=mkRat n d:=by
  show mkRat (Av false (.of (Af n) false true)) (val (Af d))=_
  rw[sY,uR,Ac]
 have C:x.m≤1:=Nat.max_le.2 ⟨c,e⟩
 obtain⟨y,y1,y2⟩:=aL (R:=R) (N:=N) (x:=x) (o:=(true||(true||false))) s (b.le (by omega))
 rw[hq] at y1
 refine⟨y,y1,fun K=>?_⟩
 rw[V6];unfold Us
 show B9 N (n:Int) _=_
 rw[a3]
 show B9 N (d:Int) _=_
 rw[k,Bl a1 a2,Bl i j,FW];unfold TQ
 rw[n0,n0,Ki,Le,show Nat.beq (List.length (En false (.of (Af n) false true))) 2=true by rfl,ct,Ki,Le,show Nat.beq (List.length (En false (.of (Af d) false true))) 2=true by rfl,ct]
 have t:([(.bool false),(.imm (Aa (LS.of (Af d) false true).l) (LS.of (Af d) false true).l.length 1 false true)]:LA)=En false (.of (Af d) false true):=rfl
 rw[t,F_ (O7 _ _ _) (b.le (by rw[u5];omega)),sY,uR]
 have u:((d:Int).sign==0)=false:=by
  rw[beq_eq_false_iff_ne];intro h;have:=Int.sign_eq_zero_iff_zero.1 h;omega
 rw[u,cf]
 have v:([(.bool (!(false==false))),(.imm (Aa (LS.of (Af n) false true).l) (LS.of (Af n) false true).l.length 1 false true),(.imm (Aa (LS.of (Af d) false true).l) (LS.of (Af d) false true).l.length 1 false true)]:LA)=x.av:=rfl
 rw[v]
 refine Eq.trans (y2 _) ?_
 rfl
end
end Gx

namespace Gx
open Go Go.Proofs
section
variable {R:Type}
theorem sZ {N:Nat} {a b c d e f c' d':Int} {K:LA→O R}:O8 N [.int .i64 a,.int .i64 b,.int .i64 c,.int .i64 d] false [.int .i64 e,.int .i64 f,.int .i64 c',.int .i64 d'] false K=K [.int .i64 (IntKind.wrap .i64 (a+e)),.int .i64 (IntKind.wrap .i64 (b+f)),.int .i64 (IntKind.wrap .i64 (c+c')),.int .i64 (IntKind.wrap .i64 (d+d'))]:=by
 rw[aY];rfl
theorem s5 {N:Nat} {a b c d e f c' d':Int} {K:LA→O R}:Zb N [.int .i64 a,.int .i64 b,.int .i64 c,.int .i64 d] false [.int .i64 e,.int .i64 f,.int .i64 c',.int .i64 d'] false K=K [.int .i64 (IntKind.wrap .i64 (a - e)),.int .i64 (IntKind.wrap .i64 (b - f)),.int .i64 (IntKind.wrap .i64 (c - c')),.int .i64 (IntKind.wrap .i64 (d - d'))]:=by
 rw[a_];rfl
theorem rX {P:Un} {p:Bool×Sy} {E6:Un} (h:Mh (P++p::E6)):Mh P∧p.2 ∈ SM:=⟨fun x b=>h x (by simp[b]),h p (by simp)⟩
theorem pg {N:Nat} {P:Un} {s:Sy} (hP:Mh P) (j:s ∈ SM) (k:P.length≤100) {K:LA→O R}:O8 N (Gz P) false s.dims false K=K (Gz (P++[(false,s)])):=by
 have h:=Bm j
 have ba:=Gc (f:=Sy.a) (U:=P) fun p d=>(Bm (hP p d)).2.2.2.2.2.2.2.1
 have bb:=Gc (f:=Sy.b) (U:=P) fun p d=>(Bm (hP p d)).2.2.2.2.2.2.2.2.1
 have bc:=Gc (f:=Sy.c) (U:=P) fun p d=>(Bm (hP p d)).2.2.2.2.2.2.2.2.2.1
 have be:=Gc (f:=Sy.e) (U:=P) fun p d=>(Bm (hP p d)).2.2.2.2.2.2.2.2.2.2
 have i:∀ f:Sy→Int,ds f [(false,s)]=f s:=fun f=>by simp[ds]
 refine sZ.trans ?_
 unfold Gz
 rw[El,El,El,El,i,i,i,i,i64 (by omega),i64 (by omega),i64 (by omega),i64 (by omega)]
theorem ph {N:Nat} {P:Un} {s:Sy} (hP:Mh P) (j:s ∈ SM) (k:P.length≤100) {K:LA→O R}:Zb N (Gz P) false s.dims false K=K (Gz (P++[(true,s)])):=by
 have h:=Bm j
 have ba:=Gc (f:=Sy.a) (U:=P) fun p d=>(Bm (hP p d)).2.2.2.2.2.2.2.1
 have bb:=Gc (f:=Sy.b) (U:=P) fun p d=>(Bm (hP p d)).2.2.2.2.2.2.2.2.1
 have bc:=Gc (f:=Sy.c) (U:=P) fun p d=>(Bm (hP p d)).2.2.2.2.2.2.2.2.2.1
 have be:=Gc (f:=Sy.e) (U:=P) fun p d=>(Bm (hP p d)).2.2.2.2.2.2.2.2.2.2
 have i:∀ f:Sy→Int,ds f [(true,s)]=-f s:=fun f=>by simp[ds]
 refine s5.trans ?_
 unfold Gz
 rw[El,El,El,El,i,i,i,i,i64 (by omega),i64 (by omega),i64 (by omega),i64 (by omega)];rfl
theorem iH {n d:Nat} (c:n≤1000) (e:1≤d) (b:d≤1000):qm (mkRat n d)≤1:=hG (by omega) (by omega) (by omega)
theorem NW (P:Un) (p:Bool×Sy):Kh (P++[p])=Kh P*pv p:=by rw[SN];unfold Kh;rw[List.foldl_cons,List.foldl_nil,Rat.one_mul]
theorem pi {N:Nat} {U:Un} (hU:Mh U) (C:U.length≤100) (l:fit 10000 N):∀ (E6 P:Un),P++E6=U→∀ (b:Nat) (d:RatD),E6.length<b→d.can (Kh P)→qm (Kh P)≤P.length+1 →
  ∃ x:RatD,x.can (Kh U)∧∀ K:LA→LA→Int→O R,I3 N K U.length (pc (uw U)) b (U.length:Int) (P.length:Int) d.av (Gz P)=K x.av (Gz U) 0:=by
 intro E6
 induction E6 with
 | nil =>
  intro P hP b d c i hq
  rw[List.append_nil] at hP
  subst hP
  cases b with
  | zero=>simp at c
  | succ b =>
   refine⟨d,i,fun K=>?_⟩
   rw[I3];unfold Qt
   rw[FG (Nat.le_refl _),cf];rfl
 | cons p E6 t =>
  intro P hP b d c i hq
  obtain⟨o,s⟩:=p
  cases b with
  | zero=>simp at c
  | succ b =>
   have f:=rX (by rw[hP];exact hU:Mh (P++(o,s)::E6))
   have j:s ∈ SM:=f.2
   have u:=Bm j
   have hPl:P.length+E6.length+1=U.length:=by rw[←hP];simp;omega
   have hE:List.drop (0+((P.length:Int)).toNat*2) (pc (uw U))=.str s.w::.bool o::pc (uw E6):=by
    rw[Int.toNat_natCast,Nat.zero_add,←hP]
    unfold uw
    rw[List.map_append,pf,show P.length*2=(pc (List.map (fun p:Bool×Sy=>(p.1,p.2.w)) P)).length by rw[rU,List.length_map],List.drop_left]
    rfl
   obtain⟨y,y1,y2⟩:=dJ (R:=R) (N:=N) (n:=if o then s.d else s.n) (d:=if o then s.n else s.d) (by split<;>omega) (by split<;>omega) (by split<;>omega) (l.le (by omega))
   have e:mkRat ((if o then s.d else s.n:Nat):Int) (if o then s.n else s.d)=pv (o,s):=by cases o<;>rfl
   have v:qm (pv (o,s))≤1:=by rw[←e];exact iH (by split<;>omega) (by split<;>omega) (by split<;>omega)
   rw[e] at y1
   have A:d.m=qm (Kh P):=i.m
   have B:y.m=qm (pv (o,s)):=y1.m
   obtain⟨z,z1,z2⟩:=NQ (R:=R) (N:=N) (x:=d) (y:=y) (o:=false) (o':=false) i.ok y1.ok (l.le (by omega))
   rw[i.q,y1.q,←NW] at z1
   have k:qm (Kh (P++[(o,s)]))≤(P++[(o,s)]).length+1:=by
    rw[NW,List.length_append,List.length_singleton]
    have:=mf (Kh P) (pv (o,s))
    omega
   obtain⟨x,x1,x2⟩:=t (P++[(o,s)]) (by rw[List.append_assoc];exact hP) b z (by simp at c;omega) z1 k
   refine⟨x,x1,fun K=>?_⟩
   rw[←x2 K,List.length_append,List.length_singleton,I3];unfold Qt
   rw[Wj (show P.length<U.length by omega),ct,Rg (show P.length<U.length by omega),ct,hE,wS (by omega)]
   refine(rW (N:=N) j).trans ?_
   cases o
   ·exact(pg (N:=N) f.1 j (by omega)).trans ((y2 _).trans (z2 _))
   ·exact(ph (N:=N) f.1 j (by omega)).trans ((y2 _).trans (z2 _))
end
end Gx

namespace Gx
open Go Go.Proofs
section
variable {R:Type}
theorem mw {l:List UInt8} {j:Nat} (h:j<l.length) {f:Int→O R}:Bi .u8 (List.drop (((j:Nat):Int).toNat*1) (Fp l)) f=f ((l[j].toNat:Nat):Int):=by
 rw[Nat.mul_one,Int.toNat_natCast]
 have e:List.drop j (Fp l)=.int .u8 ((l[j].toNat:Nat):Int)::Fp (List.drop (j+1) l):=by
  unfold Fp;rw[←List.map_drop,List.drop_eq_getElem_cons h];rfl
 rw[e];rfl
theorem pj {i:Nat} (h:i<12):∃ s ∈ SM,∀ f:List UInt8→O R,tp (List.drop (0+(((i:Nat):Int).toNat*1)) [(.str ([77,87]:List UInt8)),(.str ([104]:List UInt8)),(.str ([69,85,82]:List UInt8)),(.str ([71,87,104]:List UInt8)),(.str ([37]:List UInt8)),(.str ([109,105,110]:List UInt8)),(.str ([107,87]:List UInt8)),(.str ([112,117]:List UInt8)),(.str ([99,116]:List UInt8)),(.str ([109,114,97,100]:List UInt8)),(.str ([100]:List UInt8)),(.str ([107,69,85,82]:List UInt8))]) f=f s.w:=by
 have b:∀ (k:Nat) (c:k<SM.length),SM[k] ∈ SM:=fun k c=>List.getElem_mem c
 rcases i with _ | _ | _ | _ | _ | _ | _ | _ | _ | _ | _ | _ | i
 ·exact⟨_,b 1 (by decide),fun _=>rfl⟩
 ·exact⟨_,b 2 (by decide),fun _=>rfl⟩
 ·exact⟨_,b 3 (by decide),fun _=>rfl⟩
 ·exact⟨_,b 4 (by decide),fun _=>rfl⟩
 ·exact⟨_,b 5 (by decide),fun _=>rfl⟩
 ·exact⟨_,b 6 (by decide),fun _=>rfl⟩
 ·exact⟨_,b 7 (by decide),fun _=>rfl⟩
 ·exact⟨_,b 8 (by decide),fun _=>rfl⟩
 ·exact⟨_,b 9 (by decide),fun _=>rfl⟩
 ·exact⟨_,b 10 (by decide),fun _=>rfl⟩
 ·exact⟨_,b 11 (by decide),fun _=>rfl⟩
 ·exact⟨_,b 12 (by decide),fun _=>rfl⟩
 ·omega
theorem pk {N i:Nat} {l:List UInt8} {t:List UInt8} (h:i+1<l.length) (y:i<12) (z:t.length≤1000):∃ (o:Bool) (s:Sy),s ∈ SM∧∀ (d:List UInt8→Int→O R) (K:List UInt8→O R),Ii N d K (Fp l) l.length false false t (i:Int)=d (t++(if o then 47 else 42)::s.w) ((i+2:Nat):Int):=by
 have A:=(l[i+1]).toNat_lt
 obtain⟨s,m,q⟩:=pj (R:=R) (i:=(l[i+1]).toNat%12) (Nat.mod_lt _ (by omega))
 have u:=(Bm m).2.2.1
 refine⟨decide ((l[i]).toNat%2=1),s,m,fun d K=>?_⟩
 unfold Ii
 rw[Rg (show i<l.length by omega),ct,mw (show i<l.length by omega),ct,mw (show i<l.length by omega)]
 have v:IntKind.wrap .i64 ((i:Int)+1)=((i+1:Nat):Int):=wS (by omega)
 rw[v,Rg h,mw h]
 have f:IntKind.wrap .i64 (((l[i+1]).toNat:Nat):Int)=(((l[i+1]).toNat:Nat):Int):=i64 (by omega)
 rw[f,show Int.tmod ((((l[i+1]).toNat:Nat):Int)) 12=(((l[i+1]).toNat%12:Nat):Int) from rfl,Rg (show(l[i+1]).toNat%12<12 from Nat.mod_lt _ (by omega)),ct,ct]
 have n:Int.tmod ((l[i].toNat:Nat):Int) 2=(((l[i]).toNat%2:Nat):Int):=rfl
 have b:(l[i]).toNat%2=0∨(l[i]).toNat%2=1:=by omega
 have j:((decide (0≤(Int.tmod ((l[i].toNat:Nat):Int) 2)))&&((decide ((Int.tmod ((l[i].toNat:Nat):Int) 2)≤(IntKind.wrap .u8 ((Int.tmod ((l[i].toNat:Nat):Int) 2)+1))))&&((decide ((IntKind.wrap .u8 ((Int.tmod ((l[i].toNat:Nat):Int) 2)+1))≤2))&&(decide ((2:Int)≤(2:Int))))))=true:=by
  rw[n];rcases b with e | e<;>rw[e]<;>decide
 rw[j,ct]
 refine(q _).trans ?_
 rw[n]
 have k:IntKind.wrap .i64 ((i:Int)+2)=((i+2:Nat):Int):=by rw[i64 (by omega)];omega
 rw[k]
 have c:∀ x:UInt8,([x]++s.w:List UInt8)=x::s.w:=fun _=>rfl
 rcases b with e | e
 ·rw[e,show(List.take (((IntKind.wrap .u8 ((((0:Nat):Int))+1)).toNat) - ((((0:Nat):Int)).toNat)) (List.drop ((((0:Nat):Int)).toNat) ([42,47]:List UInt8)))=[42] by decide,c,TJ (by simp;omega),ct,TJ (by rw[List.length_cons];omega),ct];rfl
 ·rw[e,show(List.take (((IntKind.wrap .u8 ((((1:Nat):Int))+1)).toNat) - ((((1:Nat):Int)).toNat)) (List.drop ((((1:Nat):Int)).toNat) ([42,47]:List UInt8)))=[47] by decide,c,TJ (by simp;omega),ct,TJ (by rw[List.length_cons];omega),ct];rfl
end
end Gx

namespace Gx
open Go Go.Proofs
section
variable {R:Type}
def TU:Sy:=⟨[77,87,104],1,1,1,1,0,0⟩
theorem iI:TU ∈ SM:=by unfold SM TU;exact List.mem_cons_self
def Zi (U:Un):List UInt8:=TU.w++tl (uw U)
theorem fN (A B:List (Bool×List UInt8)):tl (A++B)=tl A++tl B:=by unfold tl;rw[List.flatMap_append]
theorem fO (A B:Un):uw (A++B)=uw A++uw B:=by unfold uw;rw[List.map_append]
theorem pm (U:Un) (o:Bool) (s:Sy):Zi (U++[(o,s)])=Zi U++(if o then 47 else 42)::s.w:=by
 unfold Zi
 rw[fO,fN,←List.append_assoc]
 congr 1
 show tl [(o,s.w)]=_
 rw[TT];simp[tl]
theorem mz {U:Un} (h:Mh U):(tl (uw U)).length≤5*U.length:=by
 induction U with
 | nil=>simp[uw,tl]
 | cons p U b =>
  have d:=b fun x c=>h x (List.mem_cons_of_mem _ c)
  have f:=(Bm (h p (by simp))).2.2.1
  have e:uw (p::U)=(p.1,p.2.w)::uw U:=rfl
  rw[e,TT,List.length_cons,List.length_append,List.length_cons];omega
theorem bR {U:Un} (h:Mh U):(Zi U).length≤5*U.length+3:=by
 have:=mz h
 unfold Zi;rw[List.length_append]
 have:TU.w.length=3:=rfl
 omega
theorem sA {N:Nat} {l:List UInt8}:∀ (b:Nat) (U:Un),Mh U→U.length≤6→7 - U.length<b→∃ V,Mh V∧V.length≤6∧∀ K:List UInt8→O R,Cx N K (Fp l) l.length false false b (Zi U) ((2*U.length:Nat):Int)=K (Zi V):=by
 intro b
 induction b with
 | zero=>intro U _ _ h;omega
 | succ b j =>
  intro U hU hU6 n
  have f:=bR hU
  by_cases d:2*U.length+1<l.length
  ·by_cases k:2*U.length<12
   ·obtain⟨o,s,m,e⟩:=pk (R:=R) (N:=N) (i:=2*U.length) (l:=l) (t:=Zi U) d k (by omega)
    rw[←pm,show 2*U.length+2=2*(U++[(o,s)]).length by rw[List.length_append,List.length_singleton];omega] at e
    obtain⟨V,v1,v2,v3⟩:=j (U++[(o,s)]) (fun x c=>by
     rcases List.mem_append.1 c with c | c
     ·exact hU x c
     ·rw[List.mem_singleton.1 c];exact m) (by rw[List.length_append,List.length_singleton];omega) (by rw[List.length_append,List.length_singleton];omega)
    refine⟨V,v1,v2,fun K=>?_⟩
    rw[Cx];unfold Hk
    rw[wS (by omega),Wj d,show(true==true)=true by rfl,ct,show cond true (decide (((2*U.length:Nat):Int)<12)) false=true by simp;omega,ct]
    exact(e _ _).trans (v3 K)
   ·refine⟨U,hU,hU6,fun K=>?_⟩
    rw[Cx];unfold Hk
    rw[wS (by omega),Wj d,show(true==true)=true by rfl,ct,show cond true (decide (((2*U.length:Nat):Int)<12)) false=false by simp;omega,cf]
  ·refine⟨U,hU,hU6,fun K=>?_⟩
   rw[Cx];unfold Hk
   rw[wS (by omega),FG (by omega),show(false==true)=false by rfl,cf]
theorem bS {N:Nat} {l:List UInt8} (hN:10≤N):∃ V,Mh V∧V.length≤6∧∀ K:List UInt8→O R,I0 N (Fp l) l.length false false K=K (Zi V):=by
 obtain⟨V,v1,v2,v3⟩:=sA (R:=R) (N:=N) (l:=l) N [] (fun _ h=>by cases h) (by simp) (by simp;omega)
 refine⟨V,v1,v2,fun K=>?_⟩
 rw[Zc];unfold Qq
 exact v3 K
theorem tY {U:Un} (h:Mh U) (o:Bool) {s:Sy} (c:s ∈ SM):iG ((o,s.w)::uw U):=by
 intro p b
 rcases List.mem_cons.1 b with rfl | b
 ·exact⟨(Bm c).1,(Bm c).2.1⟩
 ·obtain⟨x,d,rfl⟩:=List.mem_map.1 b
  exact⟨(Bm (h x d)).1,(Bm (h x d)).2.1⟩
theorem AN {N:Nat} {s0:Sy} {U:Un} (c:s0 ∈ SM) (hU:Mh U) (s:U.length≤50) (l:fit 10000 N):(8<U.length+1∧∀ K:LA→LA→Int→O R,D7 N (s0.w++tl (uw U)) K=K [(.bool false),.nsl,.nsl] [(.int .i64 0),(.int .i64 0),(.int .i64 0),(.int .i64 0)] 8)∨(U.length+1≤8∧∃ x:RatD,x.can (Kh ((false,s0)::U))∧∀ K:LA→LA→Int→O R,D7 N (s0.w++tl (uw U)) K=K x.av (Gz ((false,s0)::U)) 0):=by
 have t:=l.1
 have m:(s0.w++tl (uw U)).length≤5*U.length+4:=by
  have u:=mz hU
  have y:=(Bm c).2.2.1
  rw[List.length_append];omega
 have b:=fun K:Nat→Int→LA→O R=>ko (R:=R) (N:=N) (w:=s0.w) (U:=uw U) (K:=K) (tY hU false c) (by omega) (by omega)
 have e:(uw U).length=U.length:=by unfold uw;rw[List.length_map]
 rw[e] at b
 by_cases f:8<U.length+1
 ·left
  refine⟨f,fun K=>?_⟩
  rw[Zg];unfold Zf
  refine(b _).trans ?_
  rw[decide_eq_true f,ct];rfl
 ·right
  refine⟨by omega,?_⟩
  have i:Mh ((false,s0)::U):=fun x j=>by
   rcases List.mem_cons.1 j with rfl | j
   ·exact c
   ·exact hU x j
  obtain⟨d,n,q⟩:=cu (R:=R) (N:=N) (v:=1) (by omega) (by omega)
  have k:qm (Kh [])≤([]:Un).length+1:=by
   have:Kh []=((1:Int):Rat):=rfl
   rw[this,NS]
   have:(Af (1:Int).natAbs).length=1:=tR
   rw[this];exact Nat.le_refl _
  obtain⟨x,x1,x2⟩:=pi (R:=R) (N:=N) i (by rw[List.length_cons];omega) l ((false,s0)::U) [] rfl N d (by rw[List.length_cons];omega) n k
  refine⟨x,x1,fun K=>?_⟩
  rw[Zg];unfold Zf
  refine(b _).trans ?_
  rw[decide_eq_false f,cf,show((0:Int) != 0)=false by decide,cf,q,show((Nat.beq 0 0)&&((Nat.beq (d.av.length) 3)&&(Nat.beq 3 3)))=true by rfl,ct]
  exact x2 K
end
end Gx

namespace Gx
open Go Go.Proofs
section
variable {R:Type}
theorem GF {N:Nat} {U:Un} (hU:Mh U) (b:U.length≤50) (c:fit 10000 N):(8<U.length+1∧∀ K:LA→LA→Int→O R,D7 N (Zi U) K=K [(.bool false),.nsl,.nsl] [(.int .i64 0),(.int .i64 0),(.int .i64 0),(.int .i64 0)] 8)∨(U.length+1≤8∧∃ x:RatD,x.can (Kh ((false,TU)::U))∧∀ K:LA→LA→Int→O R,D7 N (Zi U) K=K x.av (Gz ((false,TU)::U)) 0):=AN iI hU b c
theorem iJ {U:Un} (h:Mh U):qm (Kh U)≤U.length+1:=by
 have gen:∀ (V P:Un),Mh V→qm (Kh P)≤P.length+1→qm (Kh (P++V))≤(P++V).length+1:=by
  intro V
  induction V with
  | nil=>intro P _ hP;rw[List.append_nil];exact hP
  | cons p V b =>
   intro P hV hP
   have e:=Bm (hV p (by simp))
   have hq:qm (pv p)≤1:=by
    unfold pv;split
    ·exact iH (by omega) (by omega) (by omega)
    ·exact iH (by omega) (by omega) (by omega)
   have:=b (P++[p]) (fun x c=>hV x (List.mem_cons_of_mem _ c)) (by
    rw[NW,List.length_append,List.length_singleton]
    have:=mf (Kh P) (pv p);omega)
   rw[List.append_assoc] at this;exact this
 have d:qm (Kh [])≤([]:Un).length+1:=by
  have:Kh []=((1:Int):Rat):=rfl
  rw[this,NS]
  have:(Af (1:Int).natAbs).length=1:=tR
  rw[this];exact Nat.le_refl _
 exact gen U [] h d
theorem tZ {y:RatD} {q:Rat} (h:y.can q) (k:q≠0):(⟨y.neg,y.ds,y.ns⟩:RatD).q=q⁻¹:=by
 have m:=q.den_pos
 have t:q.num≠0:=fun e=>k (Rat.num_eq_zero.1 e)
 have hdR:(q.den:Rat)≠0:=Rat.ne_of_gt (Rat.natCast_pos.2 m)
 have n:=rt q
 have s:(⟨y.neg,y.ds,y.ns⟩:RatD).q=mkRat (if q.num<0 then -(q.den:Int) else (q.den:Int)) q.num.natAbs:=by
  show mkRat (Av y.neg y.ds) (val y.ns.l)=_
  unfold Av
  rw[h.1,h.2.1,h.2.2,Ac,Ac]
  by_cases c:q.num<0
  ·rw[decide_eq_true c,if_pos c,if_pos rfl]
  ·rw[decide_eq_false c,if_neg c,if_neg (by simp)]
 have b:(q.num.natAbs:Rat)≠0:=Rat.ne_of_gt (Rat.natCast_pos.2 (by omega))
 have u:mkRat (if q.num<0 then -(q.den:Int) else (q.den:Int)) q.num.natAbs*q=1:=by
  rw[Rat.mkRat_eq_div]
  by_cases c:q.num<0
  ·rw[if_pos c]
   have f:(q.num.natAbs:Rat)=-(q.num:Rat):=by
    have i:(q.num.natAbs:Int)=-q.num:=by omega
    have d:((q.num.natAbs:Int):Rat)=((-q.num:Int):Rat):=by rw[i]
    rw[Rat.intCast_neg] at d
    exact d
   have j:((-(q.den:Int):Int):Rat)=-(q.den:Rat):=by rw[Rat.intCast_neg];rfl
   rw[j]
   rw[f] at b ⊢
   rw[Rat.div_def]
   have:=Rat.mul_inv_cancel _ b
   grind
  ·rw[if_neg c]
   have f:(q.num.natAbs:Rat)=(q.num:Rat):=by
    have i:(q.num.natAbs:Int)=q.num:=by omega
    have d:((q.num.natAbs:Int):Rat)=(q.num:Rat):=by rw[i]
    exact d
   have j:(((q.den:Int):Int):Rat)=(q.den:Rat):=rfl
   rw[j]
   rw[f] at b ⊢
   rw[Rat.div_def]
   have:=Rat.mul_inv_cancel _ b
   grind
 rw[s]
 have:=Rat.mul_inv_cancel q k
 grind
theorem pn {N:Nat} {x y:RatD} {p q:Rat} {o:Bool} (t:x.ok) (u:x.q=p) (b:y.can q) (k:q≠0) (n:fit (8*(x.m+y.m)+40) N):∃ d:RatD,d.can (p/q)∧∀ K:LA→Bool→O R,aH N x.av o y.av false K=K d.av true:=by
 let c:RatD:=⟨y.neg,.of y.ds.l false false,.of y.ns.l false false⟩
 have i:c.m=y.m:=by show max _ _=max _ _;exact Nat.max_comm _ _
 have j:c.q=q⁻¹:=tZ b k
 obtain⟨d,s,v⟩:=NQ (R:=R) (N:=N) (x:=x) (y:=c) (o:=o) (o':=(false||(false||false))) t ⟨b.ok.2,b.ok.1⟩ (by rw[i];exact n)
 rw[j,u,←Rat.div_def] at s
 refine⟨d,s,fun K=>?_⟩
 have z:(q.num.sign==0)=false:=by
  rw[beq_eq_false_iff_ne];intro e
  exact k (Rat.num_eq_zero.1 (Int.sign_eq_zero_iff_zero.1 e))
 rw[aI];unfold gk
 rw[Ut,ct,Kl,m9 b.ok (n.le (by omega)),b.q,z,cf,Ut,ct,Kl]
 show Pc y.av _=_
 have A:∀ f:Bool→O R,Pc y.av f=f y.neg:=fun f=>rfl
 rw[A,TG,rn]
 have e:([(.bool y.neg),(.imm (Aa y.ds.l) y.ds.l.length 1 false false),(.imm (Aa y.ns.l) y.ns.l.length 1 false false)]:LA)=c.av:=rfl
 rw[e,v];rfl
end
end Gx

namespace Gx
open Go Go.Proofs
section
variable {R:Type}
def kp (c:UInt8):Bool:=B3 c||(decide (c.toNat=45)||(decide (c.toNat=46)||decide (c.toNat=47)))
theorem tj {a:Nat} {k:Nat}:(((a:Nat):Int)==(k:Int))=decide (a=k):=by
 rw[Bool.eq_iff_iff];simp;omega
theorem fP {N n:Nat} {b pre post:List UInt8} {c:UInt8} {K:Int→O R} (j:b=pre++c::post) (q:b.length≤1000000000) :
  Dl N K b (n+1) (pre.length:Int)=cond (kp c) (Dl N K b n ((pre.length+1:Nat):Int)) (Dk N K b N (pre.length:Int)):=by
 have f:pre.length<b.length:=by rw[j];simp
 have k:List.getD b ((pre.length:Int)).toNat 0=c:=by rw[Int.toNat_natCast,j];exact AM
 rw[Dl];unfold Rf
 dsimp only
 rw[k,Wj f,Rg f,wS (by omega),show(true==true)=true by rfl]
 simp only[ct,cc,uG]
 rw[show((((c.toNat):Nat):Int)==45)=decide (c.toNat=45) from tj,show((((c.toNat):Nat):Int)==46)=decide (c.toNat=46) from tj,show((((c.toNat):Nat):Int)==47)=decide (c.toNat=47) from tj]
 by_cases d:c.toNat=45
 ·rw[show kp c=true by simp[kp,d],show(decide ((((c.toNat):Nat):Int)≥48)==true)=false by simp;omega,decide_eq_true d];rfl
 ·by_cases e:c.toNat=46
  ·rw[show kp c=true by simp[kp,e],show(decide ((((c.toNat):Nat):Int)≥48)==true)=false by simp;omega,decide_eq_false d,decide_eq_true e];rfl
  ·by_cases i:c.toNat=47
   ·rw[show kp c=true by simp[kp,i],show(decide ((((c.toNat):Nat):Int)≥48)==true)=false by simp;omega,decide_eq_false d,decide_eq_false e,decide_eq_true i];rfl
   ·rw[decide_eq_false d,decide_eq_false e,decide_eq_false i]
    by_cases l:48≤c.toNat
    ·by_cases m:c.toNat≤57
     ·rw[show kp c=true by simp[kp,B3];omega,show(decide ((((c.toNat):Nat):Int)≥48)==true)=true by simp;omega,show(decide ((((c.toNat):Nat):Int)≤57)==false)=false by simp;omega];rfl
     ·rw[show kp c=false by simp[kp,B3];omega,show(decide ((((c.toNat):Nat):Int)≥48)==true)=true by simp;omega,show(decide ((((c.toNat):Nat):Int)≤57)==false)=true by simp;omega];rfl
    ·rw[show kp c=false by simp[kp,B3];omega,show(decide ((((c.toNat):Nat):Int)≥48)==true)=false by simp;omega];rfl
theorem nf {N:Nat} {b:List UInt8} {K:Int→O R} (e:b.length≤1000000000):∀ (w pre post:List UInt8) (n:Nat),b=pre++(w++post)→w.all kp=true →
  Dl N K b (n+w.length) (pre.length:Int)=Dl N K b n ((pre.length+w.length:Nat):Int)
 | [],pre,post,n,_,_=>rfl
 | c::w,pre,post,n,f,d=>by
  simp only[List.all_cons,Bool.and_eq_true] at d
  have i:=nf (N:=N) (K:=K) e w (pre++[c]) post n (by rw[f];simp) d.2
  rw[List.length_append,List.length_singleton] at i
  rw[List.length_cons,←Nat.add_assoc,fP (c:=c) (post:=w++post) (by rw[f];simp) e,d.1,ct,i,Nat.add_assoc,Nat.add_comm 1]
theorem iK {N:Nat} {t post:List UInt8} {a:UInt8} {K:Int→O R} (q:t.all kp=true) (c:∃ r z,t=r++[z]∧z.toNat≠47) (s:kp a=false) (e:(t++a::post).length≤1000000000) (hN:t.length+5≤N):Nt N (t++a::post) K=K (t.length:Int):=by
 obtain⟨r,z,f,d⟩:=c
 have i:0<t.length:=by rw[f];simp
 rw[EF];unfold U7
 have k:=nf (R:=R) (N:=N) (b:=t++a::post) (K:=K) e t [] (a::post) (N - t.length) (by simp) q
 rw[show N - t.length+t.length=N by omega,List.length_nil,Nat.zero_add] at k
 refine k.trans ?_
 obtain⟨n,u⟩:∃ n,N - t.length=n+1:=⟨N - t.length - 1,by omega⟩
 rw[u,fP (pre:=t) (post:=post) rfl e,s,cf]
 obtain⟨m,v⟩:∃ m,N=m+1:=⟨N - 1,by omega⟩
 have un:Dk N K (t++a::post) N (t.length:Int)=Ij N K (t++a::post) (Dk N K (t++a::post) m) (t.length:Int):=by
  have gen:∀ j,Dk N K (t++a::post) (j+1) (t.length:Int)=Ij N K (t++a::post) (Dk N K (t++a::post) j) (t.length:Int):=fun j=>by rw[Dk]
  have:=gen m
  rw[←v] at this;exact this
 rw[un];unfold Ij
 have l:(t++a::post).length=t.length+(post.length+1):=by simp
 have x:IntKind.wrap .i64 ((t.length:Int) - 1)=((t.length - 1:Nat):Int):=by rw[i64 (by omega)];omega
 have y:List.getD (t++a::post) (((t.length - 1:Nat):Int)).toNat 0=z:=by
  rw[Int.toNat_natCast,f,List.append_assoc,show(r++[z]).length - 1=r.length by simp]
  exact AM
 rw[x,y,show(decide ((t.length:Int)>0)==true)=true by simp;omega,ct,Rg (by omega),ct,cc,show((((z.toNat):Nat):Int)==47)=decide (z.toNat=47) from tj,decide_eq_false d,cf]
theorem Zj {N:Nat} {t:List UInt8} {s0:Sy} {U:Un} {x:RatD} {q:Rat} (v:t.all kp=true) (b:∃ r z,t=r++[z]∧z.toNat≠47) (c:x.can q) (A:∀ K:LA→Int→O R,Fk N t K=K x.av 0) (f:s0 ∈ SM) (hU:Mh U) (hU8:U.length+1≤8) (D:t.length≤900000) (i:fit (8*qm q+1000000) N) :
  ∃ y:RatD,y.can (q*Kh ((false,s0)::U))∧∀ K:LA→LA→Int→O R,Kg N (t++32::(s0.w++tl (uw U))) K=K y.av (Gz ((false,s0)::U)) 0:=by
 have F:=i.1
 have B:(s0.w++tl (uw U)).length≤5*U.length+4:=by
  have G:=mz hU
  have I:=(Bm f).2.2.1
  rw[List.length_append];omega
 have u:0<s0.w.length:=List.length_pos_iff.2 (Bm f).1
 rcases AN (R:=R) (N:=N) f hU (by omega) (i.le (by omega)) with⟨L,_⟩ | ⟨_,g,j,C⟩
 ·omega
 have k:Mh ((false,s0)::U):=fun x c=>by
  rcases List.mem_cons.1 c with rfl | c
  ·exact f
  ·exact hU x c
 have n:=iJ k
 rw[List.length_cons] at n
 obtain⟨y,y1,y2⟩:=NQ (R:=R) (N:=N) (x:=x) (y:=g) (o:=false) (o':=false) c.ok j.ok (i.le (by rw[c.m,j.m];omega))
 rw[c.q,j.q] at y1
 refine⟨y,y1,fun K=>?_⟩
 have d:(t++32::(s0.w++tl (uw U))).length=t.length+((s0.w++tl (uw U)).length+1):=by rw[List.length_append,List.length_cons]
 have s:(s0.w++tl (uw U))≠[]:=by intro e;have:=congrArg List.length e;rw[List.length_append,List.length_nil] at this;omega
 rw[K'];unfold AL
 rw[iK v b (by decide) (by omega) (by omega)]
 rw[show((decide ((0:Int)≤(0:Int)))&&((decide (0≤(t.length:Int)))&&((decide ((t.length:Int)≤((((t++32::(s0.w++tl (uw U))).length):Nat):Int)))&&(decide (((((t++32::(s0.w++tl (uw U))).length):Nat):Int)≤((((t++32::(s0.w++tl (uw U))).length):Nat):Int))))))=true by simp;omega,ct]
 rw[Int.toNat_natCast,List.take_left,A,tV,ct,show((0:Int) != 0)=false by decide,cf]
 rw[show((decide (0≤(t.length:Int)))&&((decide ((t.length:Int)≤((((t++32::(s0.w++tl (uw U))).length):Nat):Int)))&&((decide (((((t++32::(s0.w++tl (uw U))).length):Nat):Int)≤((((t++32::(s0.w++tl (uw U))).length):Nat):Int)))&&(decide (((((t++32::(s0.w++tl (uw U))).length):Nat):Int)≤((((t++32::(s0.w++tl (uw U))).length):Nat):Int))))))=true by simp;omega,ct]
 rw[List.drop_left,List.take_of_length_le (l:=32::(s0.w++tl (uw U))) (by rw[d,List.length_cons];omega)]
 generalize s0.w++tl (uw U)=ut at *
 rw[show((32::ut:List UInt8)==[])=false by rfl,cf,show((32::ut:List UInt8)==[32])=false by rw[beq_eq_false_iff_ne];intro e;exact s (by simpa using e),cf]
 rw[show Am 0 (32::ut).length=true by unfold Am;simp,ct,show(((UInt8.toNat (List.getD (32::ut) 0 0):Nat):Int)==32)=true by rfl,ct]
 rw[show((decide ((0:Int)≤(1:Int)))&&((decide (1≤((((32::ut).length):Nat):Int)))&&((decide (((((32::ut).length):Nat):Int)≤((((32::ut).length):Nat):Int)))&&(decide (((((32::ut).length):Nat):Int)≤((((32::ut).length):Nat):Int))))))=true by simp;omega,ct]
 rw[show List.take ((32::ut).length - 1) (List.drop 1 (32::ut))=ut by simp]
 unfold Qu
 refine(C _).trans ?_
 rw[tV,ct]
 refine Eq.trans (y2 _) ?_
 rfl
end
end Gx

namespace Gx
open Go Go.Proofs
open IntKind (wrap)
set_option maxRecDepth 100000
noncomputable section
variable {R:Type} (N:Nat)
def U8 (r0:Bool→O R):O R :=
 (Kg N ([49,46,53,32,71,87,104]:List UInt8) (fun c b e=>(cond ((Nat.beq 0 0)&&((Nat.beq (c.length) 3)&&(Nat.beq 3 3))) (cond ((Nat.beq (b.length) 4)&&((Nat.ble 4 4)&&(!false))) (LC N ([57,48,32,109,105,110]:List UInt8) ([104]:List UInt8) (fun d f=>(cond ((Nat.beq 0 0)&&((Nat.beq (d.length) 3)&&(Nat.beq 3 3))) (LC N ([51,32,77,87]:List UInt8) ([77,87,104]:List UInt8) (fun g i=>(cond ((Nat.beq 0 0)&&((Nat.beq (g.length) 3)&&(Nat.beq 3 3))) (cond ((e==0)==true) (cond (Nat.ble 3 (c.length)) (Hf N 1500 (fun l=>(Du N (c.take 3) false l false (fun m=>(cond ((cond true m false)==true) (cond (Nat.ble 4 ((setCells [(.int .i64 0),(.int .i64 0),(.int .i64 0),(.int .i64 0)] 0 b).length)) (cond ((Nat.ble 1 4)&&((Nat.beq (((setCells [(.int .i64 0),(.int .i64 0),(.int .i64 0),(.int .i64 0)] 0 b).take 4).length) 4)&&((Nat.beq 4 4)&&(true&&(!false))))) (Bi .i64 ((setCells [(.int .i64 0),(.int .i64 0),(.int .i64 0),(.int .i64 0)] 0 b).take 4) fun n=>(Bi .i64 (((setCells [(.int .i64 0),(.int .i64 0),(.int .i64 0),(.int .i64 0)] 0 b).take 4).drop 1) fun o=>(Bi .i64 (((setCells [(.int .i64 0),(.int .i64 0),(.int .i64 0),(.int .i64 0)] 0 b).take 4).drop 2) fun p=>(Bi .i64 (((setCells [(.int .i64 0),(.int .i64 0),(.int .i64 0),(.int .i64 0)] 0 b).take 4).drop 3) fun q=>(cond ((cond true ((n==1)&&((o==1)&&((p==0)&&((q==0)&&true)))) false)==true) (cond ((cond true (f==0) false)==true) (cond (Nat.ble 3 (d.length)) (FY N 3 2 (fun r=>(Du N (d.take 3) false r false (fun s=>(cond ((cond true s false)==true) (r0 (cond true (i==15) false)) (r0 false)))))) none) (r0 false)) (r0 false)))))) none) none) (r0 false)))))) none) (r0 false)) none))) none))) none) none)))
def Dq:=(Al (@U8 R)).1
theorem Wh:@Dq R=@U8 R:=(Al _).2
def dK:Gn:=[(56,SK N),(57,rS N),(94,Z_ N),(27,J_ N),(59,pH N)]
def Zk (F:KF R):Bool→O R:=(fun t=>F (.bool t) [])
theorem Zl (F:KF R):Dj (dK N) H2 N 40 [] [] F=(Dq N (Zk F)):=by
 rw[Wh]
 kernel_rfl
def Wi (a:LA) (h:Ai) (k:KF R):O R :=
 match a,h with
 | [],[]=>(Dq N (Zk k))
 | _,_=>none
theorem Zm:Ao N 40 @Wi:=by
 intro R Q a h k j;unfold Wi;split;exact Ay (Zl ..) (Zl ..) ⟨SL N,rT N,Z' N,KA N,pI N,trivial⟩;exact A0
def bT:=Az (Zm N)
def bU:=Dh (Zm N)
def Ce (r0:Bool→O R) (v w x:LA) (y z u:LA):O R :=
 (Dq N (fun al=>(cond (al==true) (cond (Nat.ble 4 (u.length)) (cond (Nat.ble 4 (y.length)) (cond (Nat.ble 4 (z.length)) (O8 N (y.take 4) false (z.take 4) false (fun aa=>(cond ((Nat.ble 1 4)&&((Nat.beq ((u.take 4).length) 4)&&((Nat.beq (aa.length) 4)&&(true&&(!false))))) (Bi .i64 (u.take 4) fun am=>(Bi .i64 aa fun an=>(Bi .i64 ((u.take 4).drop 1) fun ao=>(Bi .i64 (aa.drop 1) fun ap=>(Bi .i64 ((u.take 4).drop 2) fun aq=>(Bi .i64 (aa.drop 2) fun ar=>(Bi .i64 ((u.take 4).drop 3) fun au=>(Bi .i64 (aa.drop 3) fun av=>(cond ((cond true ((am==an)&&((ao==ap)&&((aq==ar)&&((au==av)&&true)))) false)==true) (cond (Nat.ble 3 (x.length)) (cond (Nat.ble 3 (v.length)) (cond (Nat.ble 3 (w.length)) (AI N (v.take 3) false (w.take 3) false (fun aw=>(Du N (x.take 3) false aw false (fun ax=>(r0 (cond true ax false)))))) none) none) none) (r0 false)))))))))) none))) none) none) none) (r0 false))))
def Dc (r0:Bool→O R) (b:LA) (c:Nat) (i d:Bool) (e:LA) (f:Nat) (l g:Bool) (q1:LA→LA→LA→LA→LA→LA→O R):O R :=
 (I0 N b c false d (fun ag=>(I0 N e f false g (fun ah=>(D7 N ag (fun v ai ay=>(cond ((Nat.beq 0 0)&&((Nat.beq (v.length) 3)&&(Nat.beq 3 3))) (cond ((Nat.beq (ai.length) 4)&&((Nat.ble 4 4)&&(!false))) (D7 N ah (fun w aj az=>(cond ((Nat.beq 0 0)&&((Nat.beq (w.length) 3)&&(Nat.beq 3 3))) (cond ((Nat.beq (aj.length) 4)&&((Nat.ble 4 4)&&(!false))) (cond (Nat.ble ((ag.length)+1) 140737488355328) (cond (Nat.ble ((List.length (ag++([42]:List UInt8)))+(ah.length)) 140737488355328) (D7 N ((ag++([42]:List UInt8))++ah) (fun x ak ba=>(cond ((Nat.beq 0 0)&&((Nat.beq (x.length) 3)&&(Nat.beq 3 3))) (cond ((Nat.beq (ak.length) 4)&&((Nat.ble 4 4)&&(!false))) (cond ((ay != 0)==false) (cond ((cond false true (az != 0))==false) (cond (cond false true (ba != 0)) (Dq N (fun bb=>(r0 bb))) (q1 v w x (setCells [(.int .i64 0),(.int .i64 0),(.int .i64 0),(.int .i64 0)] 0 ai) (setCells [(.int .i64 0),(.int .i64 0),(.int .i64 0),(.int .i64 0)] 0 aj) (setCells [(.int .i64 0),(.int .i64 0),(.int .i64 0),(.int .i64 0)] 0 ak))) (Dq N (fun bc=>(r0 bc)))) (Dq N (fun bd=>(r0 bd)))) none) none))) none) none) none) none))) none) none)))))))
def Bp (r0:Bool→O R) (b:LA) (c:Nat) (i d:Bool) (e:LA) (f:Nat) (l g:Bool):O R:=(Dc N r0 b c i d e f l g (fun v w x y z u=>(Ce N r0 v w x y z u)))
def Co (r0:Bool→O R) (q0:O R) (m n o p q r s t:Int) (b:LA) (c:Nat) (i d:Bool) (e:LA) (f:Nat) (l g:Bool):O R :=
 (O8 N [(.int .i64 m),(.int .i64 n),(.int .i64 o),(.int .i64 p)] false [(.int .i64 q),(.int .i64 r),(.int .i64 s),(.int .i64 t)] false (fun ab=>(KP N [(.int .i64 m),(.int .i64 n),(.int .i64 o),(.int .i64 p)] false [(.int .i64 q),(.int .i64 r),(.int .i64 s),(.int .i64 t)] false (fun ac=>(cond ((Nat.ble 1 4)&&((Nat.beq (ab.length) 4)&&((Nat.beq (ac.length) 4)&&(true&&(!false))))) (Bi .i64 ab fun be=>(Bi .i64 ac fun bf=>(Bi .i64 (ab.drop 1) fun bg=>(Bi .i64 (ac.drop 1) fun bh=>(Bi .i64 (ab.drop 2) fun bi=>(Bi .i64 (ac.drop 2) fun bj=>(Bi .i64 (ab.drop 3) fun bk=>(Bi .i64 (ac.drop 3) fun bl=>(cond ((!((be==bf)&&((bg==bh)&&((bi==bj)&&((bk==bl)&&true)))))==false) (Zb N [(.int .i64 m),(.int .i64 n),(.int .i64 o),(.int .i64 p)] false [(.int .i64 q),(.int .i64 r),(.int .i64 s),(.int .i64 t)] false (fun ad=>(KR N [(.int .i64 m),(.int .i64 n),(.int .i64 o),(.int .i64 p)] false [(.int .i64 q),(.int .i64 r),(.int .i64 s),(.int .i64 t)] false (fun ae=>(cond ((Nat.ble 1 4)&&((Nat.beq (ad.length) 4)&&((Nat.beq (ae.length) 4)&&(true&&(!false))))) (Bi .i64 ad fun bm=>(Bi .i64 ae fun bn=>(Bi .i64 (ad.drop 1) fun bo=>(Bi .i64 (ae.drop 1) fun bp=>(Bi .i64 (ad.drop 2) fun bq=>(Bi .i64 (ae.drop 2) fun br=>(Bi .i64 (ad.drop 3) fun bs=>(Bi .i64 (ae.drop 3) fun bt=>(cond ((cond false true (!((bm==bn)&&((bo==bp)&&((bq==br)&&((bs==bt)&&true))))))==false) (O8 N [(.int .i64 m),(.int .i64 n),(.int .i64 o),(.int .i64 p)] false [(.int .i64 q),(.int .i64 r),(.int .i64 s),(.int .i64 t)] false (fun bu=>(Zb N bu false [(.int .i64 q),(.int .i64 r),(.int .i64 s),(.int .i64 t)] false (fun af=>(cond ((Nat.ble 1 4)&&((Nat.beq (af.length) 4)&&((Nat.beq 4 4)&&(true&&(!false))))) (Bi .i64 af fun bv=>(Bi .i64 (af.drop 1) fun bw=>(Bi .i64 (af.drop 2) fun bx=>(Bi .i64 (af.drop 3) fun bz=>(cond (cond false true (!((bv==m)&&((bw==n)&&((bx==o)&&((bz==p)&&true)))))) (r0 false) q0))))) none))))) (r0 false)))))))))) none))))) (r0 false)))))))))) none)))))
def B8:=(Al (fun (N:Nat) (m n o p q r s t:Int) (b:LA) (c:Nat) (i d:Bool) (e:LA) (f:Nat) (l g:Bool) (r0:Bool→O R)=>(Co N r0 (Bp N r0 b c i d e f l g) m n o p q r s t b c i d e f l g))).1
theorem Gd (m n o p q r s t b c i d e f l g r0):(@B8 R N m n o p q r s t b c i d e f l g r0)=(Co N r0 (Bp N r0 b c i d e f l g) m n o p q r s t b c i d e f l g):=by rw[B8,(Al _).2]
def G0:Hints:={ H:=(hS hL (hJ [2,3] hL (hS hL (hS hL (hS hL (hS hL (hJ [11,12,14,15,17,18] hL hL))))))) }
def Hl:Gn:=[(34,fD N),(35,mj N),(36,fI N),(37,mm N),(38,dH N),(39,GD N),(40,bT N),(41,mZ N),(27,J_ N)]
def G1 (F:KF R):=Rh Tryz.f8 G0 (Hl N) [] N F
def Bc (F:KF R):Bool→O R:=(fun ca=>F (.bool ca) [])
def Nc (v w x y z u:LA):St:=⟨[(11,(op 0)),(12,(op 1)),(14,(op 2)),(15,(op 3)),(17,(op 4)),(18,(op 5))],(hq [(bQ 0 v),(bQ 0 y),(bQ 0 w),(bQ 0 z),(bQ 0 x),(bQ 0 u)])⟩
def Nd (F:KF R):=G1 N F [1,1,1,1,1,1,1] []
def Nf (b:LA) (c:Nat) (i d:Bool) (e:LA) (f:Nat) (l g:Bool):St:=⟨[(2,(.imm b c 1 i d)),(3,(.imm e f 1 l g))],[]⟩
def Ng (F:KF R):=G1 N F [1,1] []
theorem Lj (F:KF R) (v w x:LA):∀ (y z u:LA),C7 (Nd N F) (Nc v w x y z u)=(Ce N (Bc F) v w x y z u):=by
 intro y z u
 kernel_rfl
theorem Lk (F:KF R) (b:LA) (c:Nat) (i d:Bool) (e:LA) (f:Nat) (l g:Bool):C7 (Ng N F) (Nf b c i d e f l g)=(Bp N (Bc F) b c i d e f l g):=by
 exact Eq.trans (by kernel_rfl) (Ee (Dc N (Bc F) b c i d e f l g ·) (funext fun v=>funext fun w=>funext fun x=>funext fun y=>funext fun z=>funext fun u=>(A8 ..).trans (Lj N F v w x y z u)):_)
theorem G2 (m n o p q r s t:Int) (b:LA) (c:Nat) (i d:Bool) (e:LA) (f:Nat) (l g:Bool) (F:KF R):Dj (Hl N) G0 N 8 [(.agg [(iv m),(iv n),(iv o),(iv p)]),(.agg [(iv q),(iv r),(iv s),(iv t)]),(.imm b c 1 i d),(.imm e f 1 l g)] [] F=(B8 N m n o p q r s t b c i d e f l g (Bc F)):=by
 rw[Gd]
 exact Eq.trans (by kernel_rfl) (Ee (Co N (Bc F) · m n o p q r s t b c i d e f l g) ((A8 ..).trans (Lk N F b c i d e f l g)):_)
def Ge (a:LA) (h:Ai) (k:KF R):O R :=
 match a,h with
 | [(.agg [(.int .i64 m),(.int .i64 n),(.int .i64 o),(.int .i64 p)]),(.agg [(.int .i64 q),(.int .i64 r),(.int .i64 s),(.int .i64 t)]),(.imm b c 1 i d),(.imm e f 1 l g)],[]=>(B8 N m n o p q r s t b c i d e f l g (Bc k))
 | _,_=>none
theorem G3:Ao N 8 @Ge:=by
 intro R Q a h k j;unfold Ge;split;exact Ay (G2 ..) (G2 ..) ⟨fE N,ml N,fJ N,mn N,dI N,GE N,bU N,m0 N,KA N,trivial⟩;exact A0
def Nh:=Az (G3 N)
def Ni:=Dh (G3 N)
end
end Gx

namespace Gx
open Go Go.Proofs
section
variable {R:Type}
def ng (A B:Un):Bool:=(ds Sy.a A==ds Sy.a B)&&((ds Sy.b A==ds Sy.b B)&&((ds Sy.c A==ds Sy.c B)&&((ds Sy.e A==ds Sy.e B)&&true)))
theorem rY {N:Nat} {d e:List UInt8} {y g:RatD} {p q:Rat} {A B:Un} (c:∀ K:LA→LA→Int→O R,Kg N d K=K y.av (Gz A) 0) (f:∀ K:LA→LA→Int→O R,D7 N e K=K g.av (Gz B) 0) (b:y.can p) (i:g.can q) (j:q≠0) (k:ng A B=true) (l:fit (8*(y.m+g.m)+40) N) :
  ∃ x:RatD,x.can (p/q)∧∀ K:LA→Int→O R,LC N d e K=K x.av 0:=by
 obtain⟨x,x1,x2⟩:=pn (R:=R) (N:=N) (x:=y) (y:=g) (p:=p) (q:=q) (o:=false) b.ok b.q i j l
 refine⟨x,x1,fun K=>?_⟩
 rw[NV];unfold iF
 refine(c _).trans ?_
 show D7 N e _=_
 refine(f _).trans ?_
 show cond (!(ng A B)) _ _=_
 rw[k]
 exact x2 _
theorem po {N:Nat} {d e:List UInt8} {y g:RatD} {A B:Un} (b:∀ K:LA→LA→Int→O R,Kg N d K=K y.av (Gz A) 0) (c:∀ K:LA→LA→Int→O R,D7 N e K=K g.av (Gz B) 0) (f:ng A B=false) (K:LA→Int→O R):LC N d e K=K [(.bool false),.nsl,.nsl] 15:=by
 rw[NV];unfold iF
 refine(b _).trans ?_
 show D7 N e _=_
 refine(c _).trans ?_
 show cond (!(ng A B)) _ _=_
 rw[f];rfl
theorem fQ {N:Nat} {t:List UInt8} (b:gw t=true) (e:dE t≤4096) (c:fit (8*(2*t.length+1)+60) N):∃ x:RatD,x.can (mkRat (Kd t) 1)∧∀ K:LA→Int→O R,Fk N t K=K x.av 0:=by
 have f:=c.1
 obtain⟨x,x1,x2⟩:=bB (R:=R) (N:=N) (s:=t) (n:=t) (d:=[49]) (fun K=>pb b (by omega)) (gz b) (by decide) (by decide) (rQ (gz b)) (c.le (by rw[List.length_singleton];omega))
 rw[show Ef [49]=1 by decide] at x1
 exact⟨x,x1,fun K=>by rw[x2,if_neg (by omega)]⟩
def uS:Sy:=⟨[71,87,104],1000,1,1,1,0,0⟩
def t6:Sy:=⟨[109,105,110],1,60,0,1,0,0⟩
def sh:Sy:=⟨[104],1,1,0,1,0,0⟩
def uT:Sy:=⟨[77,87],1,1,1,0,0,0⟩
theorem tD:uS ∈ SM:=List.getElem_mem (l:=SM) (n:=4) (by decide)
theorem sB:t6 ∈ SM:=List.getElem_mem (l:=SM) (n:=6) (by decide)
theorem t7:sh ∈ SM:=List.getElem_mem (l:=SM) (n:=2) (by decide)
theorem tE:uT ∈ SM:=List.getElem_mem (l:=SM) (n:=1) (by decide)
theorem bV:Mh []:=fun _ h=>by cases h
theorem bW (s:Sy):Kh [(false,s)]=mkRat s.n s.d:=by
 show 1*pv (false,s)=_
 rw[Rat.one_mul];rfl
theorem sC {N:Nat} {K:Bool→O R} (f:fit 2000000 N):Dq N K=K true:=by
 have G:=f.1
 obtain⟨x,x1,x2⟩:=bB (R:=R) (N:=N) (s:=[49,46,53]) (n:=[49,53]) (d:=[49,48]) (fun K=>pd (e:=false) (d:=[49]) (c:=[53]) (by decide) (by decide) (by decide) (by simp;omega)) (by decide) (by decide) (by decide) (by decide) (f.le (by decide))
 have l:∀ K:LA→Int→O R,Fk N [49,46,53] K=K x.av 0:=fun K=>by rw[x2,show dE [49,46,53]=2 by decide,if_neg (by omega)]
 have qx:mkRat (Kd [49,53]) (Ef [49,48])=mkRat 3 2:=by decide
 rw[qx] at x1
 have mx:qm (mkRat 3 2)≤1:=hG (by decide) (by decide) (by decide)
 obtain⟨y,y1,y2⟩:=Zj (R:=R) (N:=N) (t:=[49,46,53]) (s0:=uS) (U:=[]) (by decide) ⟨[49,46],53,rfl,by decide⟩ x1 l tD bV (by decide) (by decide) (f.le (Nat.le_trans (Nat.add_le_add_right (Nat.mul_le_mul_left 8 mx) _) (by decide)))
 rw[bW] at y1
 have v1:mkRat 3 2*mkRat uS.n uS.d=((1500:Int):Rat):=by rw[Rat.mkRat_mul_mkRat];decide
 rw[v1] at y1
 obtain⟨a,a1,a2⟩:=fQ (R:=R) (N:=N) (t:=[57,48]) (by decide) (by decide) (f.le (by decide))
 have ma:qm (mkRat (Kd [57,48]) 1)≤1:=hG (by decide) (by decide) (by decide)
 obtain⟨b,j,B⟩:=Zj (R:=R) (N:=N) (t:=[57,48]) (s0:=t6) (U:=[]) (by decide) ⟨[57],48,rfl,by decide⟩ a1 a2 sB bV (by decide) (by decide) (f.le (Nat.le_trans (Nat.add_le_add_right (Nat.mul_le_mul_left 8 ma) _) (by decide)))
 rw[bW] at j
 have v2:mkRat (Kd [57,48]) 1*mkRat t6.n t6.d=mkRat 3 2:=by rw[Rat.mkRat_mul_mkRat];decide
 rw[v2] at j
 rcases AN (R:=R) (N:=N) (s0:=sh) t7 bV (by decide) (f.le (by decide)) with⟨q,_⟩ | ⟨_,g,k,C⟩
 ·exact absurd q (by decide)
 rw[bW] at k
 have v3:mkRat sh.n sh.d=((1:Int):Rat):=by decide
 rw[v3] at k
 have mb:b.m≤1:=by rw[j.m];exact mx
 have mg:g.m≤1:=by rw[k.m,NS,show(Af (1:Int).natAbs).length=1 from tR];exact Nat.le_refl _
 obtain⟨c,c1,D⟩:=rY (R:=R) (N:=N) (d:=[57,48,32,109,105,110]) (e:=[104]) B C j k (by decide) (by decide) (f.le (by omega))
 have v4:mkRat 3 2/((1:Int):Rat)=mkRat 3 2:=by
  have:((1:Int):Rat)=1:=rfl
  rw[this];grind
 rw[v4] at c1
 obtain⟨u,u1,u2⟩:=fQ (R:=R) (N:=N) (t:=[51]) (by decide) (by decide) (f.le (by decide))
 have mu:qm (mkRat (Kd [51]) 1)≤1:=hG (by decide) (by decide) (by decide)
 obtain⟨w,I,F⟩:=Zj (R:=R) (N:=N) (t:=[51]) (s0:=uT) (U:=[]) (by decide) ⟨[],51,rfl,by decide⟩ u1 u2 tE bV (by decide) (by decide) (f.le (Nat.le_trans (Nat.add_le_add_right (Nat.mul_le_mul_left 8 mu) _) (by decide)))
 rcases AN (R:=R) (N:=N) (s0:=TU) iI bV (by decide) (f.le (by decide)) with⟨q,_⟩ | ⟨_,v,_,z⟩
 ·exact absurd q (by decide)
 have A:=po (R:=R) (N:=N) (d:=[51,32,77,87]) (e:=[77,87,104]) F z (by decide)
 have i:qm ((1500:Int):Rat)≤2:=sr (by decide)
 have eq1:∀ K:Bool→O R,Du N y.av false (cq ((1500:Int):Rat)) false K=K true:=fun K=>by
  rw[bC y1 (f.le (Nat.le_trans i (by decide))),decide_eq_true rfl]
 have eq2:∀ K:Bool→O R,Du N c.av false (cq (mkRat 3 2)) false K=K true:=fun K=>by
  rw[bC c1 (f.le (Nat.le_trans mx (by decide))),decide_eq_true rfl]
 have of1:∀ K:LA→O R,FY N 3 2 K=K (cq (mkRat 3 2)):=fun K=>rJ (by omega) (by omega) (by omega)
 have of2:∀ K:LA→O R,Hf N 1500 K=K (cq ((1500:Int):Rat)):=fun K=>aM (by omega) (by omega)
 rw[Wh];unfold U8
 refine(y2 _).trans ?_
 show LC N _ _ _=_
 refine(D _).trans ?_
 show LC N _ _ _=_
 refine(A _).trans ?_
 show Hf N 1500 _=_
 rw[of2]
 show Du N y.av false _ false _=_
 rw[eq1]
 show FY N 3 2 _=_
 rw[of1]
 show Du N c.av false _ false _=_
 rw[eq2];rfl
end
end Gx

namespace Gx
open Go Go.Proofs
section
variable {R:Type}
theorem t8 {N:Nat} {a b c d e f c' d':Int} {K:LA→O R}:KP N [.int .i64 a,.int .i64 b,.int .i64 c,.int .i64 d] false [.int .i64 e,.int .i64 f,.int .i64 c',.int .i64 d'] false K=K [.int .i64 (IntKind.wrap .i64 (a+e)),.int .i64 (IntKind.wrap .i64 (b+f)),.int .i64 (IntKind.wrap .i64 (c+c')),.int .i64 (IntKind.wrap .i64 (d+d'))]:=by
 rw[RW];rfl
theorem t_ {N:Nat} {a b c d e f c' d':Int} {K:LA→O R}:KR N [.int .i64 a,.int .i64 b,.int .i64 c,.int .i64 d] false [.int .i64 e,.int .i64 f,.int .i64 c',.int .i64 d'] false K=K [.int .i64 (IntKind.wrap .i64 (a - e)),.int .i64 (IntKind.wrap .i64 (b - f)),.int .i64 (IntKind.wrap .i64 (c - c')),.int .i64 (IntKind.wrap .i64 (d - d'))]:=by
 rw[R_];rfl
theorem nh {a b:Int} (c:-9223372036854775808≤a∧a≤9223372036854775807):IntKind.wrap .i64 (IntKind.wrap .i64 (a+b) - b)=a:=by
 rw[IntKind.wrap_i64,IntKind.wrap_i64];omega
theorem rZ (U V:Un):(Zi U++[42])++Zi V=Zi (U++(false,TU)::V):=by
 unfold Zi
 rw[fO,fN,show uw ((false,TU)::V)=(false,TU.w)::uw V from rfl,TT,List.append_assoc,List.append_assoc]
 rfl
theorem pp {N:Nat} {A B:Un} (hA:Mh A) (hB:Mh B) (i:A.length+B.length≤1000) {K:LA→O R}:O8 N (Gz A) false (Gz B) false K=K (Gz (A++B)):=by
 have f:∀ {P:Un} (hP:Mh P),(-(P.length:Int)≤ds Sy.a P∧ds Sy.a P≤P.length)∧(-(P.length:Int)≤ds Sy.b P∧ds Sy.b P≤P.length)∧(-(P.length:Int)≤ds Sy.c P∧ds Sy.c P≤P.length)∧(-(P.length:Int)≤ds Sy.e P∧ds Sy.e P≤P.length):=fun hP =>
  ⟨Gc fun p d=>(Bm (hP p d)).2.2.2.2.2.2.2.1,Gc fun p d=>(Bm (hP p d)).2.2.2.2.2.2.2.2.1,Gc fun p d=>(Bm (hP p d)).2.2.2.2.2.2.2.2.2.1,Gc fun p d=>(Bm (hP p d)).2.2.2.2.2.2.2.2.2.2⟩
 have fa:=f hA
 have fb:=f hB
 refine sZ.trans ?_
 unfold Gz
 rw[El,El,El,El,i64 (by omega),i64 (by omega),i64 (by omega),i64 (by omega)]
theorem pq {N:Nat} {m n o p q r s t:Int} {l1 l2:List UInt8} (C:-9223372036854775808≤m∧m≤9223372036854775807) (D:-9223372036854775808≤n∧n≤9223372036854775807) (F:-9223372036854775808≤o∧o≤9223372036854775807) (G:-9223372036854775808≤p∧p≤9223372036854775807) {K:Bool→O R} (v:fit 2000000 N) :
  B8 N m n o p q r s t (Fp l1) l1.length false false (Fp l2) l2.length false false K=K true:=by
 have T:=v.1
 have j:fit 10000 N:=v.le (by decide)
 have y:∀ K:Bool→O R,Dq N K=K true:=fun K=>sC v
 obtain⟨U,u1,u2,u3⟩:=bS (R:=R) (N:=N) (l:=l1) (by omega)
 obtain⟨V,v1,v2,v3⟩:=bS (R:=R) (N:=N) (l:=l2) (by omega)
 have hA:Mh ((false,TU)::U):=fun x f=>by
  rcases List.mem_cons.1 f with rfl | f
  ·exact iI
  ·exact u1 x f
 have hB:Mh ((false,TU)::V):=fun x f=>by
  rcases List.mem_cons.1 f with rfl | f
  ·exact iI
  ·exact v1 x f
 have hW:Mh (U++(false,TU)::V):=fun x f=>by
  rcases List.mem_append.1 f with f | f
  ·exact u1 x f
  ·exact hB x f
 have units:Bp N K (Fp l1) l1.length false false (Fp l2) l2.length false false=K true:=by
  have lu:=bR u1
  have lv:=bR v1
  rcases GF (R:=R) (N:=N) u1 (by omega) j with⟨I,_⟩ | ⟨_,a,a1,a2⟩
  ·omega
  rcases GF (R:=R) (N:=N) v1 (by omega) j with⟨I,_⟩ | ⟨_,b,z,L⟩
  ·omega
  unfold Bp Dc
  rw[u3,v3]
  refine(a2 _).trans ?_
  show D7 N (Zi V) _=_
  refine(L _).trans ?_
  show cond (Nat.ble ((Zi U).length+1) 140737488355328) _ _=_
  rw[TJ (by omega),ct,TJ (by rw[List.length_append,List.length_singleton];omega),ct,rZ]
  rcases GF (R:=R) (N:=N) hW (by rw[List.length_append,List.length_cons];omega) j with⟨_,A⟩ | ⟨_,c,c1,A⟩
  ·refine(A _).trans ?_
   show Dq N _=_
   rw[y]
  ·have hA2:=iJ hA
   have hB2:=iJ hB
   have i:((false,TU)::(U++(false,TU)::V):Un)=((false,TU)::U)++((false,TU)::V):=rfl
   rw[i,SN] at c1
   have hq:=mf (Kh ((false,TU)::U)) (Kh ((false,TU)::V))
   have M:((false,TU)::U:Un).length≤7:=by rw[List.length_cons];omega
   have S:((false,TU)::V:Un).length≤7:=by rw[List.length_cons];omega
   refine(A _).trans ?_
   show Ce N K a.av b.av c.av (Gz ((false,TU)::U)) (Gz ((false,TU)::V)) (Gz ((false,TU)::(U++(false,TU)::V)))=_
   unfold Ce
   rw[y]
   show O8 N (Gz ((false,TU)::U)) false (Gz ((false,TU)::V)) false _=_
   rw[pp hA hB (by omega),i]
   have B:∀ K:Bool→O R,AI N a.av false b.av false (fun aw=>Du N c.av false aw false K)=K true:=fun K=>by
    rw[mh a1.ok z.ok (v.le (by rw[a1.m,z.m];omega)),a1.q,z.q,bC c1 (v.le (by omega)),decide_eq_true rfl]
   have k:∀ P:Un,((ds Sy.a P==ds Sy.a P)&&((ds Sy.b P==ds Sy.b P)&&((ds Sy.c P==ds Sy.c P)&&((ds Sy.e P==ds Sy.e P)&&true))))=true:=fun P=>by simp
   show cond ((cond true ((ds Sy.a _==ds Sy.a _)&&((ds Sy.b _==ds Sy.b _)&&((ds Sy.c _==ds Sy.c _)&&((ds Sy.e _==ds Sy.e _)&&true)))) false)==true) _ _=_
   rw[k]
   exact B _
 have u:∀ a b c d:Int,((a==a)&&((b==b)&&((c==c)&&((d==d)&&true))))=true:=fun a b c d=>by simp
 rw[Gd];unfold Co
 rw[sZ,t8]
 show cond ((!((_==_)&&((_==_)&&((_==_)&&((_==_)&&true)))))==false) _ _=_
 rw[u,show((!true)==false)=true by rfl,ct,s5,t_]
 show cond ((cond false true (!((_==_)&&((_==_)&&((_==_)&&((_==_)&&true))))))==false) _ _=_
 rw[u,show((cond false true (!true))==false)=true by rfl,ct,sZ,s5,nh C,nh D,nh F,nh G]
 show cond (cond false true (!((m==m)&&((n==n)&&((o==o)&&((p==p)&&true)))))) _ _=_
 rw[u]
 exact units
end
end Gx
