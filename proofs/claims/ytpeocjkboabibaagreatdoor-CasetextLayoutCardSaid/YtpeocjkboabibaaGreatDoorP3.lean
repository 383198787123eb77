/- A part of the proof; each theorem says what it holds. -/
import Derived.Test.YtpeocjkboabibaaGreatDoorP2
set_option linter.unusedVariables false
set_option linter.defProp false
set_option linter.unusedSimpArgs false
open Nat (ble beq)
open List (take drop replicate)
open Go.IntKind (wrap)
namespace Gx
open Go Go.Proofs
set_option maxRecDepth 100000
noncomputable section
variable {R:Type} (N:Nat)
def Dk (a b:Lu) (r0:Lu→Bool→O R):O R :=
 (Gg N a b fun c=>cond (!c) (r0 a false) (cond ((decide (0≤(((b.length):Nat):Int)))&&((decide ((((b.length):Nat):Int)≤(((a.length):Nat):Int)))&&((decide ((((a.length):Nat):Int)≤(((a.length):Nat):Int)))&&(decide ((((a.length):Nat):Int)≤(((a.length):Nat):Int)))))) (r0 (take ((a.length) - (b.length)) (drop (b.length) a)) true) none))
def Gh:=(Ac (@Dk R)).1
theorem Em:@Gh R=@Dk R:=(Ac _).2
def V6:=Cp N 194 [V4 N] Ca (fun
 | [(.str a),(.str b)],[]=>some fun _ k=>Gh N a b (As3 k)
 | _,_=>none) fun _ _=>by split;intro R F;dsimp only;rw[Em];kernel_rfl;trivial
def Nr (a b:Lu) (r0:Lu→Bool→O R):O R :=
 (Gh N a b fun c d=>r0 c d)
def Fh:=(Ac (@Nr R)).1
theorem O1:@Fh R=@Nr R:=(Ac _).2
def Sd:=Cp N 162 [V6 N] Ca (fun
 | [(.str a),(.str b)],[]=>some fun _ k=>Fh N a b (As3 k)
 | _,_=>none) fun _ _=>by split;intro R F;dsimp only;rw[O1];kernel_rfl;trivial
def Tp (N:Nat) (r0:Bool→O R) (a:Lu) (k0:Int→O R) (b:Int):O R :=
 (cond (decide (b<(((a.length):Nat):Int))) (cond ((decide ((((BM a b).1:Nat):Int)<48))==false) (cond (cond false true (decide ((((BM a b).1:Nat):Int)>57))) (r0 false) (k0 (b+(((BM a b).2:Nat):Int)))) (r0 false)) (r0 (!(a==([]:Lu)))))
def Iy (r0:Bool→O R) (a:Lu):Nat→Int→O R
 | 0=>fun _=>none
 | n+1=>Tp N r0 a (Iy r0 a n)
def EA (N:Nat) (r0:Bool→O R) (q0:Int→O R) (a:Lu):O R :=
 (q0 0)
def Uo:=(Ac fun N a r0=>EA (R:=R) N r0 (Iy N r0 a N) a).1
theorem TK (a r0):(@Uo R N a r0)=(EA N r0 (Iy N r0 a N) a):=by rw[Uo,(Ac _).2]
def XI:Hints:={ H:=(hK 1 (hS (hK 1 (hS (hP [0,6] hL) hL)) hL)) }
def tH (F:KF R):=Mw Tryz.f195 XI [] [] N F
def tI (a:Lu) (K:St→O R):=fun b=>K ⟨[(0,(.str a)),(6,(.omap 300000))],(hq [⟨false,false,true,false,1,[(.str a),(iv b)],true,none⟩])⟩
theorem jL (F:KF R) (a):∀ n,tI a (Ap (tH N F (pz 324) []) n)=(Iy N (Bh F) a n):=Fs fun n e=>(Cs (Tp N (Bh F) a) e:_)
def eJ:=Cp N 195 [] XI (fun
 | [(.str a)],[]=>some fun _ k=>Uo N a (Bh k)
 | _,_=>none) fun _ _=>by split;intro R F;exact(Cs (EA N (Bh F) · _) ((lW ..).trans (jL ..)):_).trans (TK ..).symm;trivial
def XJ (a:Lu) (r0:Bool→O R):O R :=
 (Uo N a fun b=>cond (b==true) (cond ((a==([48]:Lu))==false) (cond (Ag 0 (a.length)) (r0 (cond true (cond false true (((UInt8.toNat (List.getD a 0 0):Nat):Int) != 48)) false)) none) (r0 true)) (r0 false))
def Ye:=(Ac (@XJ R)).1
theorem XK:@Ye R=@XJ R:=(Ac _).2
def jM:=Cp N 163 [eJ N] Ca (fun
 | [(.str a)],[]=>some fun _ k=>Ye N a (Bh k)
 | _,_=>none) fun _ _=>by split;intro R F;dsimp only;rw[XK];kernel_rfl;trivial
def RG (a:Lu) (r0:Bool→O R):O R :=
 (Fh N a ([45]:Lu) fun b c=>Ye N b fun d=>cond (d==true) (cond (c==true) (r0 (cond true (!(cond true (b==([48]:Lu)) false)) false)) (r0 true)) (r0 false))
def Up:=(Ac (@RG R)).1
theorem TL:@Up R=@RG R:=(Ac _).2
def eK:=Cp N 147 [Sd N,jM N] Ca (fun
 | [(.str a)],[]=>some fun _ k=>Up N a (Bh k)
 | _,_=>none) fun _ _=>by split;intro R F;dsimp only;rw[TL];kernel_rfl;trivial
def V7 (N:Nat) (r0:Bool→O R) (a:Lu) (k0:Int→Int→O R) (c b:Int):O R :=
 (cond (decide (b<(((a.length):Nat):Int))) (cond ((decide ((((BM a b).1:Nat):Int)≥48))==true) (cond (cond true (decide ((((BM a b).1:Nat):Int)≤57)) false) (k0 (wrap .i64 (c+1)) (b+(((BM a b).2:Nat):Int))) (k0 c (b+(((BM a b).2:Nat):Int)))) (k0 c (b+(((BM a b).2:Nat):Int)))) (r0 (decide (c>4096))))
def Lf (r0:Bool→O R) (a:Lu):Nat→Int→Int→O R
 | 0=>fun _ _=>none
 | n+1=>V7 N r0 a (Lf r0 a n)
def JV (N:Nat) (r0:Bool→O R) (q0:Int→Int→O R) (a:Lu):O R :=
 (q0 0 0)
def Yf:=(Ac fun N a r0=>JV (R:=R) N r0 (Lf N r0 a N) a).1
theorem XL (a r0):(@Yf R N a r0)=(JV N r0 (Lf N r0 a N) a):=by rw[Yf,(Ac _).2]
def eM:Hints:={ H:=(hK 2 (hS (hK 1 (hS (hP [3,7] hL) hL)) hL)) }
def v_ (F:KF R):=Mw Tryz.f148 eM [] [] N F
def va (a:Lu) (K:St→O R):=fun c b=>K ⟨[(3,(iv c)),(7,(.omap 300000))],(hq [⟨false,false,true,false,1,[(.str a),(iv b)],true,none⟩])⟩
theorem li (F:KF R) (a):∀ n,va a (Ap (v_ N F (pz 1348) []) n)=(Lf N (Bh F) a n):=Fs fun n e=>(Cs (V7 N (Bh F) a) e:_)
def jN:=Cp N 148 [] eM (fun
 | [(.str a)],[]=>some fun _ k=>Yf N a (Bh k)
 | _,_=>none) fun _ _=>by split;intro R F;exact(Cs (JV N (Bh F) · _) ((lW ..).trans (li ..)):_).trans (XL ..).symm;trivial
def Rp (r0:Bool→Nat→LA→O R) (k0:Int→Bool→LA→Bool→Nat→LA→O R) (c:Int) (b:Bool) (a:LA) (i:Bool) (h:Nat) (j:LA):O R :=
 (cond (decide (c>0)) (cond ((Int.tmod c 2)==1) (cond (ble 2 (a.length)) (WI N [(.bool i),(.imm (j.take (h*1)) h 1 false true)] true (a.take 2) b fun l m o=>cond (decide (c>1)) (cond (ble 2 (a.length)) (cond (ble 2 (a.length)) (WI N (a.take 2) b (a.take 2) b fun r p s=>cond ((beq 2 2)&&((ble 2 (a.length))&&(!false))) (k0 (wrap .i64 (Int.tdiv c 2)) (b||false) (Du a 0 [(.bool r),(.imm (s.take (p*1)) p 1 false false)]) l m o) none) none) none) (k0 (wrap .i64 (Int.tdiv c 2)) b a l m o)) none) (cond (decide (c>1)) (cond (ble 2 (a.length)) (cond (ble 2 (a.length)) (WI N (a.take 2) b (a.take 2) b fun t q u=>cond ((beq 2 2)&&((ble 2 (a.length))&&(!false))) (k0 (wrap .i64 (Int.tdiv c 2)) (b||false) (Du a 0 [(.bool t),(.imm (u.take (q*1)) q 1 false false)]) i h j) none) none) none) (k0 (wrap .i64 (Int.tdiv c 2)) b a i h j))) (r0 i h j))
def Kf (r0:Bool→Nat→LA→O R):Nat→Int→Bool→LA→Bool→Nat→LA→O R
 | 0=>fun _ _ _ _ _ _=>none
 | n+1=>Rp N r0 (Kf r0 n)
def aE (r0:Bool→Nat→LA→O R) (q0:Int→Bool→LA→Bool→Nat→LA→O R) (d:LA) (f:Bool) (g:Int):O R :=
 (M9 N 1 fun v w x=>q0 g f d v w x)
def XM:=(Ac fun N d f g r0=>aE (R:=R) N r0 (Kf N r0 N) d f g).1
theorem jO (d f g r0):(@XM R N d f g r0)=(aE N r0 (Kf N r0 N) d f g):=by rw[XM,(Ac _).2]
def oI:Hints:={ H:=(hK 2 (hS (hS (hP [1,2,4,5] hL) hL) hL)) }
def tJ:Wp:=[QE N,Acu N]
def Adq (F:KF R):=Mw Tryz.f165 oI (tJ N) [] N F
def Adr (K:St→O R):=fun c b a i h j=>K ⟨[(1,(iv c)),(2,(op 0)),(4,(op 1)),(5,(op 2))],(hq [(bP b 0 a),(bN 0 [(.bool false),.nsl]),(bN 0 [(.bool i),(.own 300003 0 h)]),(bQ 1 j)])⟩
theorem tK (F:KF R):∀ n,Adr (Ap (Adq N F (pz 336) []) n)=(Kf N (Acb F) n):=Fs fun n e=>(Cs (Rp N (Acb F)) e:_)
def Ag8:=Cp N 165 (tJ N) oI (fun
 | [(.pagg d f),(.int .i64 g)],[]=>some fun _ k=>XM N d f g (Acb k)
 | _,_=>none) fun _ _=>by split;intro R F;exact(Cs (aE N (Acb F) · _ _ _) ((lW ..).trans (tK ..)):_).trans (jO ..).symm;trivial
def V8 (k0:Lu→Bool→Nat→LA→O R) (r0:LA→O R) (b c:Bool) (a:Nat) (d:LA) (f:Lu) (g:Int) (p:Bool) (o:Nat) (q:LA):O R :=
 (cond ((decide ((0:Int)≤(0:Int)))&&((decide (0≤g))&&((decide (g≤(((f.length):Nat):Int)))&&(decide ((((f.length):Nat):Int)≤(((f.length):Nat):Int)))))) (DW N (take (g.toNat) f) fun v=>WI N [(.bool p),(.imm (q.take (o*1)) o 1 false true)] true [(.bool c),(.imm (d.take (a*1)) a 1 false true)] true fun w r x=>M9 N v fun y s z=>zN N [(.bool w),(.imm (x.take (r*1)) r 1 false true)] true [(.bool y),(.imm (z.take (s*1)) s 1 false true)] true fun aa ab ac=>cond ((decide (0≤g))&&((decide (g≤(((f.length):Nat):Int)))&&((decide ((((f.length):Nat):Int)≤(((f.length):Nat):Int)))&&(decide ((((f.length):Nat):Int)≤(((f.length):Nat):Int)))))) (k0 (take ((f.length) - (g.toNat)) (drop (g.toNat) f)) aa ab ac) none) none)
def LR (r0:LA→O R) (b c:Bool) (a:Nat) (d:LA) (k0:Lu→Bool→Nat→LA→O R) (q1:Lu→Int→Bool→Nat→LA→O R) (j:Lu) (l:Bool) (h:Nat) (m:LA):O R :=
 (cond (!(j==([]:Lu))) (cond ((Int.tmod (((j.length):Nat):Int) 9)==0) (q1 j 9 l h m) (q1 j (Int.tmod (((j.length):Nat):Int) 9) l h m)) (cond b (lG N [(.bool l),(.imm (m.take (h*1)) h 1 false true)] true fun ad t ae=>r0 [(.bool ad),(.imm (ae.take (t*1)) t 1 false false)]) (r0 [(.bool l),(.imm (m.take (h*1)) h 1 false false)])))
def Kg (r0:LA→O R) (b c:Bool) (a:Nat) (d:LA):Nat→Lu→Bool→Nat→LA→O R
 | 0=>fun _ _ _ _=>none
 | n+1=>LR N r0 b c a d (Kg r0 b c a d n) (V8 N (Kg r0 b c a d n) r0 b c a d)
def RH (r0:LA→O R) (q0:Bool→Bool→Nat→LA→Lu→Bool→Nat→LA→O R) (i:Lu):O R :=
 (Fh N i ([45]:Lu) fun af b=>M9 N 0 fun ag ah ai=>M9 N 10 fun aj u ak=>XM N [(.bool aj),(.imm (ak.take (u*1)) u 1 false true)] true 9 fun c a d=>q0 b c a d af ag ah ai)
def Yg:=(Ac fun N i r0=>RH (R:=R) N r0 (fun b c a d=>Kg N r0 b c a d N) i).1
theorem eN (i r0):(@Yg R N i r0)=(RH N r0 (fun b c a d=>Kg N r0 b c a d N) i):=by rw[Yg,(Ac _).2]
def jP:Hints:={ H:=(hK 4 (hS (hS (hP [0,2,3,4,5] (hK 1 (hS (hK 1 (hJ [0,2,3,4,5,6] hL hL)) hL))) hL) hL)),modes:=[(3,0)] }
def oJ:Wp:=[Sd N,QE N,Ag8 N,Acv N,sb N,Acu N,Aoh N]
def jQ (F:KF R):=Mw Tryz.f149 jP (oJ N) [] N F
def zt (b c:Bool) (a:Nat) (d:LA) (K:St→O R):=fun f g p o q=>K ⟨[(0,(.str f)),(2,(op 0)),(3,(.bool b)),(4,(op 1)),(5,(op 2)),(6,(iv g))],(hq [(bN 0 [(.bool false),.nsl]),(bN 0 [(.bool p),(.own 300003 0 o)]),(bN 0 [(.bool c),(.own 300004 0 a)]),(bQ 1 q),(bQ 1 d)])⟩
def jR (b c:Bool) (a:Nat) (d:LA) (K:St→O R):=fun j l h m=>K ⟨[(0,(.str j)),(2,(op 0)),(3,(.bool b)),(4,(op 1)),(5,(op 2))],(hq [(bN 0 [(.bool false),.nsl]),(bN 0 [(.bool l),(.own 300003 0 h)]),(bN 0 [(.bool c),(.own 300004 0 a)]),(bQ 1 m),(bQ 1 d)])⟩
theorem qL (Q0) (F:KF R) (b c a d):zt b c a d (Bq (jQ N F (pz 5587013) [Q0]))=(V8 N (jR b c a d Q0) (P6 F) b c a d):=by kernel_rfl
theorem qM (F:KF R) (b c a d):∀ n,jR b c a d (Ap (jQ N F (pz 5456) []) n)=(Kg N (P6 F) b c a d n):=Fs fun n e=>(BL (LR N (P6 F) b c a d) e ((jW ..).trans ((qL ..).trans (pK (V8 _ · _ _ _ _ _) e))):_)
def oK:=Cp N 149 (oJ N) jP (fun
 | [(.str i)],[]=>some fun _ k=>Yg N i (P6 k)
 | _,_=>none) fun _ _=>by split;intro R F;exact(Cs (RH N (P6 F) · _) (Af6 fun b c a d=>(lW ..).trans (qM ..)):_).trans (eN ..).symm;trivial
def RI (a:Lu) (r0:LA→Int→O R):O R :=
 (Up N a fun c=>cond (!c) (r0 [(.bool false),.nsl] 2) (Yf N a fun d=>cond d (r0 [(.bool false),.nsl] 8) (Yg N a fun b=>cond ((beq 0 0)&&((beq (b.length) 2)&&(beq 2 2))) (cond (ble 2 (b.length)) (r0 (b.take 2) 0) none) none)))
def JW:=(Ac (@RI R)).1
theorem TM:@JW R=@RI R:=(Ac _).2
def vd:=Cp N 136 [eK N,jN N,oK N] { H:=hL,modes:=[(3,0),(0,0)] } (fun
 | [(.str a)],[]=>some fun _ k=>JW N a (N7 k)
 | _,_=>none) fun _ _=>by split;intro R F;dsimp only;rw[TM];kernel_rfl;trivial
def EB (N:Nat) (r0:Int→Bool→O R) (g:LA) (f:Nat) (d:Bool) (c:LA) (k2:Int→Int→Int→O R) (j l h:Int):O R :=
 (cond (decide (h<l)) (cond (Ag h f) (Aw .u32 (g.drop ((h.toNat)*1)) fun o=>k2 (wrap .i64 o) l (wrap .i64 (h+1))) none) (OP c fun p=>cond p (r0 (wrap .i64 ((0:Int) - j)) true) (r0 j true)))
def Qp (r0:Int→Bool→O R) (g:LA) (f:Nat) (d:Bool) (c:LA):Nat→Int→Int→Int→O R
 | 0=>fun _ _ _=>none
 | n+1=>EB N r0 g f d c (Qp r0 g f d c n)
def RK (N:Nat) (r0:Int→Bool→O R) (q2:LA→Nat→Bool→LA→Int→Int→Int→O R) (d:Bool) (c:LA):O R :=
 (Bb 1 (c.drop 1) fun g f=>q2 g f d c 0 (f:Int) 0)
def JX (r0:Int→Bool→O R) (d:Bool) (c:LA):O R:=(RK N r0 (fun g f d c=>Qp N r0 g f d c N) d c)
def RL (r0:Int→Bool→O R) (b:Bool) (a:LA) (q1:Bool→LA→O R):O R :=
 (cond (ble 3 (a.length)) (aD N (a.take 3) b fun m=>cond ((beq (m.length) 3)&&((ble 3 (a.length))&&(!false))) (Bb 1 ((setCells a 0 m).drop 2) fun z q=>cond (((q:Int) != 1)==false) (Bb 1 ((setCells a 0 m).drop 2) fun r s=>cond (Ag 0 s) (Aw .u32 r fun t=>cond (cond false true (t != 1)) (r0 0 false) (q1 (b||false) (setCells a 0 m))) none) (r0 0 false)) none) none)
def JY (r0:Int→Bool→O R) (b:Bool) (a:LA):O R:=(RL N r0 b a (JX N r0))
def aF (r0:Int→Bool→O R) (q0:O R) (a:LA) (b:Bool):O R :=
 (QJ N 1073741824 fun i=>cond ((beq 0 0)&&((beq (i.length) 3)&&(beq 3 3))) (cond (ble 3 (a.length)) (cond (ble 3 (i.length)) (Yd N (a.take 3) b (i.take 3) false fun u=>cond ((decide (u>0))==false) (cond (ble 3 (a.length)) (cond (ble 3 (i.length)) (zp N (i.take 3) false fun v=>Yd N (a.take 3) b v false fun w=>cond (cond false true (decide (w<0))) (r0 0 false) q0) none) none) (r0 0 false)) none) none) none)
def GY:=(Ac fun N a b r0=>aF (R:=R) N r0 (JY N r0 b a) a b).1
theorem jS (a b r0):(@GY R N a b r0)=(aF N r0 (JY N r0 b a) a b):=by rw[GY,(Ac _).2]
def oL:Hints:={ H:=(hK 2 (hJ [1] hL (hK 1 (hJ [1] hL (hK 1 (hS (hK 1 (hS (hP [1,5,35,36,37] hL) hL)) hL)))))) }
def tL:Wp:=[zO N,zn N,Aoy N,lh N]
def XN (F:KF R):=Mw Tryz.f137 oL (tL N) [] N F
def Mr (F:KF R):Int→Bool→O R:=(fun x y=>F (.tup [(iv x),(.bool y)]) [])
def Ads (g:LA) (f:Nat) (d:Bool) (c:LA) (K:St→O R):=fun j l h=>K ⟨[(1,(op 0)),(5,(iv j)),(35,(.imm g f 1 false d)),(36,(iv l)),(37,(iv h))],(hq [(bP d 0 c)])⟩
def Adt (K:St→O R):=fun d c=>K ⟨[(1,(op 0))],(hq [(bP d 0 c)])⟩
def Adu (b:Bool) (a:LA) (K:St→O R):=K ⟨[(1,(op 0))],(hq [(bP b 0 a)])⟩
theorem tM (F:KF R) (g f d c):∀ n,Ads g f d c (Ap (XN N F (pz 349508) []) n)=(Qp N (Mr F) g f d c n):=Fs fun n e=>(Cs (EB N (Mr F) g f d c) e:_)
theorem tN (F:KF R):Adt (Bq (XN N F (pz 1365) []))=(JX N (Mr F)):=(Cs (RK N (Mr F)) (Af6 fun g f d c=>(lW ..).trans (tM ..)):_)
theorem tO (F:KF R) (b a):Adu b a (Bq (XN N F (pz 85) []))=(JY N (Mr F) b a):=(Cs (RL N (Mr F) b a) ((jW ..).trans (tN ..)):_)
def tP:=Cp N 137 (tL N) oL (fun
 | [(.pagg a b)],[]=>some fun _ k=>GY N a b (Mr k)
 | _,_=>none) fun _ _=>by split;intro R F;exact(Cs (aF N (Mr F) · _ _) ((jW ..).trans (tO ..)):_).trans (jS ..).symm;trivial
def tQ (b:Lu) (r0:Int→Bool→Int→O R):O R :=
 (JW N b fun a c=>cond ((beq 0 0)&&((beq (a.length) 2)&&(beq 2 2))) (cond (c==0) (cond (ble 2 (a.length)) (cond ((beq ((a.take 2).length) 2)&&(ble 2 3)) (cond ((beq 1 1)&&(ble 3 ((setCells [(.bool false),.nsl,.nsl] 0 (a.take 2)).length))) (GY N ((setCells [(.bool false),.nsl,.nsl] 0 (a.take 2)).set 2 (.imm [(.int .u32 1)] 1 1 false false)) false fun d e=>r0 d e 0) none) none) none) (cond (c==2) (r0 0 false c) (r0 0 false 0))) none)
def JZ:=(Ac (@tQ R)).1
theorem oM:@JZ R=@tQ R:=(Ac _).2
def Ag9 (F:KF R):Int→Bool→Int→O R:=(fun f g h=>F (.tup [(iv f),(.bool g),(iv h)]) [])
def xI:=Cp N 106 [vd N,tP N] { H:=hL,cob:=[4000020] } (fun
 | [(.str b)],[]=>some fun _ k=>JZ N b (Ag9 k)
 | _,_=>none) fun _ _=>by split;intro R F;dsimp only;rw[oM];kernel_rfl;trivial
def Yh (c d:Int) (s:RB) (r0:Int→Int→Int→O R):O R :=
 (Bt N s fun g h a b=>cond (!h) (r0 0 a b) (JZ N g fun e i f=>cond (f != 0) (Am N f { s with nx:=a,er:=b } (fun j=>r0 0 a j)) (cond ((!i)==false) (cond ((cond false true (decide (e<c)))==false) (cond (cond false true (decide (e>d))) (Am N 3 { s with nx:=a,er:=b } (fun l=>r0 0 a l)) (r0 e a b)) (Am N 3 { s with nx:=a,er:=b } (fun m=>r0 0 a m))) (Am N 3 { s with nx:=a,er:=b } (fun n=>r0 0 a n)))))
def Oh:=(Ac (@Yh R)).1
theorem CW:@Oh R=@Yh R:=(Ac _).2
def J_:=Cp N 58 [Bu N,xI N,Bl N] Ca (PI fun
 | [(.optr 100000 0),(.int .i64 c),(.int .i64 d)],s=>some fun _ k=>Oh N c d s (a_ s k)
 | _,_=>none) (TX fun _ s=>by split;intro R F;dsimp only;rw[CW];kernel_rfl;trivial)
def BV (b:Lu) (s:RB) (r0:Int→Int→O R):O R :=
 (Bt N s fun d e a c=>cond (e==true) (cond (cond true (!(d==b)) false) (Am N 2 { s with nx:=a,er:=c } (fun f=>r0 a f)) (r0 a c)) (r0 a c))
def Aj:=(Ac (@BV R)).1
theorem GZ:@Aj R=@BV R:=(Ac _).2
def jT (s:RB) (F:KF R):Int→Int→O R:=(fun g h=>F (.tup []) [(100000,(bN 0 [(.own 100001 0 s.nw),(iv g),(iv h),(iv s.th),(.own 100002 0 s.nR),(.own 100003 0 s.nB),(.own 100004 0 s.nL),(.own 100005 0 s.nU),(.own 100006 0 s.nS),(.own 100007 0 s.nT),(.own 100008 0 s.nO),(.bool s.bg),(.own 100009 0 s.zA),(.own 100010 0 s.zB),(.own 100011 0 s.zC),(.own 100012 0 s.zD),(.own 100013 0 s.zE),(.own 100014 0 s.zF),(.own 100015 0 s.zG)])),(100001,(bQ 1 s.cw)),(100002,(bQ 1 s.cR)),(100003,(bQ 3 s.cB)),(100004,(bQ 12 s.cL)),(100005,(bQ 22 s.cU)),(100006,(bQ 9 s.cS)),(100007,(bQ 5 s.cT)),(100008,(bQ 4 s.cO)),(100009,(bQ 1 s.yA)),(100010,(bQ 1 s.yB)),(100011,(bQ 1 s.yC)),(100012,(bQ 1 s.yD)),(100013,(bQ 1 s.yE)),(100014,(bQ 1 s.yF)),(100015,(bQ 1 s.yG))])
def Gi:=Cp N 59 [Bu N,Bl N] Ca (PI fun
 | [(.optr 100000 0),(.str b)],s=>some fun _ k=>Aj N b s (jT s k)
 | _,_=>none) (TX fun _ s=>by split;intro R F;dsimp only;rw[GZ];kernel_rfl;trivial)
def LU (N:Nat) (r0:Int→O R) (a:Lu) (k1:Int→O R) (c:Int):O R :=
 (cond ((decide (c>0))==true) (cond (Ag (wrap .i64 (c - 1)) (a.length)) (cond (cond true (((UInt8.toNat (List.getD a ((wrap .i64 (c - 1)).toNat) 0):Nat):Int)==47) false) (k1 (wrap .i64 (c - 1))) (r0 c)) none) (r0 c))
def Rq (r0:Int→O R) (a:Lu):Nat→Int→O R
 | 0=>fun _=>none
 | n+1=>LU N r0 a (Rq r0 a n)
def Zt (N:Nat) (r0:Int→O R) (a:Lu) (k0:Int→O R) (q1:Int→O R) (b:Int):O R :=
 (cond ((decide (b<(((a.length):Nat):Int)))==true) (cond (Ag b (a.length)) (cond ((decide (((UInt8.toNat (List.getD a (b.toNat) 0):Nat):Int)≥48))==true) (cond (Ag b (a.length)) (cond ((cond true (decide (((UInt8.toNat (List.getD a (b.toNat) 0):Nat):Int)≤57)) false)==false) (cond (Ag b (a.length)) (cond ((cond false true (((UInt8.toNat (List.getD a (b.toNat) 0):Nat):Int)==45))==false) (cond (Ag b (a.length)) (cond ((cond false true (((UInt8.toNat (List.getD a (b.toNat) 0):Nat):Int)==46))==false) (cond (Ag b (a.length)) (cond (cond true (cond false true (((UInt8.toNat (List.getD a (b.toNat) 0):Nat):Int)==47)) false) (k0 (wrap .i64 (b+1))) (q1 b)) none) (k0 (wrap .i64 (b+1)))) none) (k0 (wrap .i64 (b+1)))) none) (k0 (wrap .i64 (b+1)))) none) (cond (Ag b (a.length)) (cond ((cond false true (((UInt8.toNat (List.getD a (b.toNat) 0):Nat):Int)==45))==false) (cond (Ag b (a.length)) (cond ((cond false true (((UInt8.toNat (List.getD a (b.toNat) 0):Nat):Int)==46))==false) (cond (Ag b (a.length)) (cond (cond true (cond false true (((UInt8.toNat (List.getD a (b.toNat) 0):Nat):Int)==47)) false) (k0 (wrap .i64 (b+1))) (q1 b)) none) (k0 (wrap .i64 (b+1)))) none) (k0 (wrap .i64 (b+1)))) none)) none) (q1 b))
def G2 (r0:Int→O R) (a:Lu):Nat→Int→O R
 | 0=>fun _=>none
 | n+1=>Zt N r0 a (G2 r0 a n) (Rq N r0 a N)
def RM (N:Nat) (r0:Int→O R) (q0:Int→O R) (a:Lu):O R :=
 (q0 0)
def NN:=(Ac fun N a r0=>RM (R:=R) N r0 (G2 N r0 a N) a).1
theorem eO (a r0):(@NN R N a r0)=(RM N r0 (G2 N r0 a N) a):=by rw[NN,(Ac _).2]
def jU:Hints:={ H:=(hK 2 (hS (hS (hP [0,3] hL) hL) (hS (hS (hP [0,3] hL) hL) hL))) }
def jV (F:KF R):=Mw Tryz.f154 jU [] [] N F
def zu (a:Lu) (K:St→O R):=fun c=>K ⟨[(0,(.str a)),(3,(iv c))],[]⟩
def zw (a:Lu) (K:St→O R):=fun b=>K ⟨[(0,(.str a)),(3,(iv b))],[]⟩
theorem qN (F:KF R) (a):∀ n,zu a (Ap (jV N F (pz 1360) []) n)=(Rq N (Jc F) a n):=Fs fun n e=>(Cs (LU N (Jc F) a) e:_)
theorem qO (F:KF R) (a):∀ n,zw a (Ap (jV N F (pz 336) []) n)=(G2 N (Jc F) a n):=Fs fun n e=>(BL (Zt N (Jc F) a) e ((lW ..).trans (qN ..)):_)
def Adv:=Cp N 154 [] jU (fun
 | [(.str a)],[]=>some fun _ k=>NN N a (Jc k)
 | _,_=>none) fun _ _=>by split;intro R F;exact(Cs (RM N (Jc F) · _) ((lW ..).trans (qO ..)):_).trans (eO ..).symm;trivial
def XO (r0:Lu→Lu→Bool→O R) (d:Bool) (c a b:Lu):O R :=
 (cond (ble ((c.length)+(a.length)) 140737488355328) (cond d (cond (ble (1+(List.length (c++a))) 140737488355328) (strings_Repeat N ([48]:Lu) (((a.length):Nat):Int) fun g=>cond (ble (1+(g.length)) 140737488355328) (r0 (([45]:Lu)++(c++a)) (([49]:Lu)++g) true) none) none) (strings_Repeat N ([48]:Lu) (((a.length):Nat):Int) fun h=>cond (ble (1+(h.length)) 140737488355328) (r0 (c++a) (([49]:Lu)++h) true) none)) none)
def aG (r0:Lu→Lu→Bool→O R) (q0:Bool→Lu→Lu→O R) (b:Lu):O R :=
 (Up N b fun i=>cond i (r0 b ([49]:Lu) true) (strings_Cut N b ([47]:Lu) fun e f j=>cond j (Up N e fun l=>cond (l==true) (Ye N f fun m=>r0 e f (cond true m false)) (r0 e f false)) (Fh N b ([45]:Lu) fun n d=>strings_Cut N n ([46]:Lu) fun c a t=>Ye N c fun o=>cond ((!o)==false) (Uo N a fun p=>cond (cond false true (!p)) (r0 ([]:Lu) ([]:Lu) false) (q0 d c a)) (r0 ([]:Lu) ([]:Lu) false))))
def XP:=(Ac fun N b r0=>aG (R:=R) N r0 (fun d c a=>XO N r0 d c a b) b).1
theorem jX (b r0):(@XP R N b r0)=(aG N r0 (fun d c a=>XO N r0 d c a b) b):=by rw[XP,(Ac _).2]
def oN:Hints:={ H:=(hK 5 (hJ [6,7,8] hL hL)) }
def tR:Wp:=[eK N,LH N,jM N,Sd N,eJ N,lN N]
def Adw (F:KF R):=Mw Tryz.f178 oN (tR N) [] N F
def XQ (F:KF R):Lu→Lu→Bool→O R:=(fun q r s=>F (.tup [(.str q),(.str r),(.bool s)]) [])
def Adx (d:Bool) (c a b:Lu) (K:St→O R):=K ⟨[(6,(.bool d)),(7,(.str c)),(8,(.str a))],[]⟩
theorem tS (F:KF R) (d c a b):Adx d c a b (Bq (Adw N F (pz 5461) []))=(XO N (XQ F) d c a b):=by kernel_rfl
def Aha:=Cp N 178 (tR N) oN (fun
 | [(.str b)],[]=>some fun _ k=>XP N b (XQ k)
 | _,_=>none) fun _ _=>by split;intro R F;exact(Cs (aG N (XQ F) · _) (Aq6 fun d c a=>(jW ..).trans (tS ..)):_).trans (jX ..).symm;trivial
def RN (b:Lu) (r0:LA→Int→O R):O R :=
 (XP N b fun c d e=>cond (!e) (r0 [(.bool false),.nsl,.nsl] 2) (Yf N b fun f=>cond f (r0 [(.bool false),.nsl,.nsl] 8) (Yg N c fun g=>Yg N d fun h=>zr N g false h false fun a i=>cond ((beq 0 0)&&((beq (a.length) 3)&&(beq 3 3))) (cond (!i) (r0 [(.bool false),.nsl,.nsl] 5) (cond (ble 3 (a.length)) (cond ((beq 0 0)&&((beq ((a.take 3).length) 3)&&(beq 3 3))) (cond (ble 3 ((a.take 3).length)) (r0 ((a.take 3).take 3) 0) none) none) none)) none)))
def KA:=(Ac (@RN R)).1
theorem TN:@KA R=@RN R:=(Ac _).2
def ve:=Cp N 155 [Aha N,jN N,oK N,Aoz N] { H:=hL,modes:=[(3,0),(0,0)] } (fun
 | [(.str b)],[]=>some fun _ k=>KA N b (N7 k)
 | _,_=>none) fun _ _=>by split;intro R F;dsimp only;rw[TN];kernel_rfl;trivial
def XR (N:Nat) (r0:LA→LA→Int→O R) (c:LA) (d:Lu):O R :=
 none
def aH (r0:LA→LA→Int→O R) (q0:LA→Lu→O R) (a:Lu):O R :=
 (NN N a fun b=>cond ((decide ((0:Int)≤(0:Int)))&&((decide (0≤b))&&((decide (b≤(((a.length):Nat):Int)))&&(decide ((((a.length):Nat):Int)≤(((a.length):Nat):Int)))))) (KA N (take (b.toNat) a) fun c e=>cond ((beq 0 0)&&((beq (c.length) 3)&&(beq 3 3))) (cond (e != 0) (r0 [(.bool false),.nsl,.nsl] [(.int .i64 0),(.int .i64 0),(.int .i64 0),(.int .i64 0)] e) (cond ((decide (0≤b))&&((decide (b≤(((a.length):Nat):Int)))&&((decide ((((a.length):Nat):Int)≤(((a.length):Nat):Int)))&&(decide ((((a.length):Nat):Int)≤(((a.length):Nat):Int)))))) (cond ((take ((a.length) - (b.toNat)) (drop (b.toNat) a))==([]:Lu)) (cond (ble 3 (c.length)) (cond ((beq 0 0)&&((beq ((c.take 3).length) 3)&&(beq 3 3))) (cond (ble 3 ((c.take 3).length)) (r0 ((c.take 3).take 3) [(.int .i64 0),(.int .i64 0),(.int .i64 0),(.int .i64 0)] 0) none) none) none) (cond ((take ((a.length) - (b.toNat)) (drop (b.toNat) a))==([32]:Lu)) (r0 [(.bool false),.nsl,.nsl] [(.int .i64 0),(.int .i64 0),(.int .i64 0),(.int .i64 0)] 2) (cond (Ag 0 (List.length (take ((a.length) - (b.toNat)) (drop (b.toNat) a)))) (cond (((UInt8.toNat (List.getD (take ((a.length) - (b.toNat)) (drop (b.toNat) a)) 0 0):Nat):Int)==32) (cond ((decide ((0:Int)≤(1:Int)))&&((decide (1≤(((List.length (take ((a.length) - (b.toNat)) (drop (b.toNat) a))):Nat):Int)))&&((decide ((((List.length (take ((a.length) - (b.toNat)) (drop (b.toNat) a))):Nat):Int)≤(((List.length (take ((a.length) - (b.toNat)) (drop (b.toNat) a))):Nat):Int)))&&(decide ((((List.length (take ((a.length) - (b.toNat)) (drop (b.toNat) a))):Nat):Int)≤(((List.length (take ((a.length) - (b.toNat)) (drop (b.toNat) a))):Nat):Int)))))) (q0 c (take ((List.length (take ((a.length) - (b.toNat)) (drop (b.toNat) a))) - 1) (drop 1 (take ((a.length) - (b.toNat)) (drop (b.toNat) a))))) none) (q0 c (take ((a.length) - (b.toNat)) (drop (b.toNat) a)))) none))) none)) none) none)
def NO:=(Ac fun N a r0=>aH (R:=R) N r0 (fun c=>XR N r0 c) a).1
theorem jY (a r0):(@NO R N a r0)=(aH N r0 (fun c=>XR N r0 c) a):=by rw[NO,(Ac _).2]
def oO:Hints:={ H:=(hK 7 (hJ [2,3,6,8] hL hL)),modes:=[(3,0),(3,0),(0,0)] }
def tT:Wp:=[Adv N,ve N]
def Ady (F:KF R):=Mw Tryz.f138 oO (tT N) [] N F
def XS (F:KF R):LA→LA→Int→O R:=(fun f g h=>F (.tup [(.pagg f false),(.pagg g false),(iv h)]) [])
def Adz (c:LA) (K:St→O R):=fun d=>K ⟨[(2,(op 0)),(3,(op 1)),(6,(op 2)),(8,(.str d))],(hq [(bN 0 [(.bool false),.nsl,.nsl]),(bQ 0 [(iv 0),(iv 0),(iv 0),(iv 0)]),(bQ 0 c)])⟩
theorem tU (F:KF R) (c):Adz c (Bq (Ady N F (pz 87381) []))=(XR N (XS F) c):=by kernel_rfl
def Ahb:=Cp N 138 (tT N) oO (fun
 | [(.str a)],[]=>some fun _ k=>NO N a (XS k)
 | _,_=>none) fun _ _=>by split;intro R F;exact(Cs (aH N (XS F) · _) (Aqw fun c=>(jW ..).trans (tU ..)):_).trans (jY ..).symm;trivial
def Hw (r0:Int→Int→Int→O R) (s:RB) (a c:Int) (d:LA):O R :=
 (cond (ble 3 (d.length)) (GY N (d.take 3) false fun i j=>cond (!j) (Am N 3 { s with nx:=a,er:=c } (fun l=>r0 0 a l)) (r0 i a c)) none)
def Pk (r0:Int→Int→Int→O R) (q0:Int→Int→LA→O R) (b:LA) (f:Bool) (s:RB):O R :=
 (Bt N s fun g m a c=>cond (!m) (r0 0 a c) (NO N g fun d e h=>cond ((beq 0 0)&&((beq (d.length) 3)&&(beq 3 3))) (cond ((beq (e.length) 4)&&((ble 4 4)&&(!false))) (cond (h != 0) (Am N h { s with nx:=a,er:=c } (fun n=>r0 0 a n)) (cond (Ag (wrap .i64 ((((g.length):Nat):Int) - 1)) (g.length)) (cond ((decide (((UInt8.toNat (List.getD g ((wrap .i64 ((((g.length):Nat):Int) - 1)).toNat) 0):Nat):Int)<48))==false) (cond ((cond false true (decide (((UInt8.toNat (List.getD g ((wrap .i64 ((((g.length):Nat):Int) - 1)).toNat) 0):Nat):Int)>57)))==true) (cond (ble 4 ((setCells [(.int .i64 0),(.int .i64 0),(.int .i64 0),(.int .i64 0)] 0 e).length)) (cond (ble 4 (b.length)) (cond ((!f)||(A2 (b.take 4))) (cond ((ble 1 4)&&((beq (((setCells [(.int .i64 0),(.int .i64 0),(.int .i64 0),(.int .i64 0)] 0 e).take 4).length) 4)&&((beq ((b.take 4).length) 4)&&(true&&(!false))))) (Aw .i64 ((setCells [(.int .i64 0),(.int .i64 0),(.int .i64 0),(.int .i64 0)] 0 e).take 4) fun o=>Aw .i64 (b.take 4) fun p=>Aw .i64 (((setCells [(.int .i64 0),(.int .i64 0),(.int .i64 0),(.int .i64 0)] 0 e).take 4).drop 1) fun q=>Aw .i64 ((b.take 4).drop 1) fun r=>Aw .i64 (((setCells [(.int .i64 0),(.int .i64 0),(.int .i64 0),(.int .i64 0)] 0 e).take 4).drop 2) fun t=>Aw .i64 ((b.take 4).drop 2) fun u=>Aw .i64 (((setCells [(.int .i64 0),(.int .i64 0),(.int .i64 0),(.int .i64 0)] 0 e).take 4).drop 3) fun v=>Aw .i64 ((b.take 4).drop 3) fun w=>cond (cond true (!((o==p)&&((q==r)&&((t==u)&&((v==w)&&true))))) false) (Am N 15 { s with nx:=a,er:=c } (fun x=>r0 0 a x)) (q0 a c d)) none) none) none) none) (q0 a c d)) (cond (ble 4 ((setCells [(.int .i64 0),(.int .i64 0),(.int .i64 0),(.int .i64 0)] 0 e).length)) (cond (ble 4 (b.length)) (cond ((!f)||(A2 (b.take 4))) (cond ((ble 1 4)&&((beq (((setCells [(.int .i64 0),(.int .i64 0),(.int .i64 0),(.int .i64 0)] 0 e).take 4).length) 4)&&((beq ((b.take 4).length) 4)&&(true&&(!false))))) (Aw .i64 ((setCells [(.int .i64 0),(.int .i64 0),(.int .i64 0),(.int .i64 0)] 0 e).take 4) fun y=>Aw .i64 (b.take 4) fun z=>Aw .i64 (((setCells [(.int .i64 0),(.int .i64 0),(.int .i64 0),(.int .i64 0)] 0 e).take 4).drop 1) fun aa=>Aw .i64 ((b.take 4).drop 1) fun ab=>Aw .i64 (((setCells [(.int .i64 0),(.int .i64 0),(.int .i64 0),(.int .i64 0)] 0 e).take 4).drop 2) fun ac=>Aw .i64 ((b.take 4).drop 2) fun ad=>Aw .i64 (((setCells [(.int .i64 0),(.int .i64 0),(.int .i64 0),(.int .i64 0)] 0 e).take 4).drop 3) fun ae=>Aw .i64 ((b.take 4).drop 3) fun af=>cond (cond true (!((y==z)&&((aa==ab)&&((ac==ad)&&((ae==af)&&true))))) false) (Am N 15 { s with nx:=a,er:=c } (fun ag=>r0 0 a ag)) (q0 a c d)) none) none) none) none)) none)) none) none))
def C4:=(Ac fun N b f s r0=>Pk (R:=R) N r0 (fun a c d=>Hw N r0 s a c d) b f s).1
theorem AW (b f s r0):(@C4 R N b f s r0)=(Pk N r0 (fun a c d=>Hw N r0 s a c d) b f s):=by rw[C4,(Ac _).2]
def CX:Hints:={ H:=(hK 5 (hJ [0,7] hL hL)) }
def G_:Wp:=[Bu N,Ahb N,Bl N,tP N]
def cE (F:KF R):=Mw Tryz.f107 CX (G_ N) [100000,100001,100002,100003,100004,100005,100006,100007,100008,100009,100010,100011,100012,100013,100014,100015] N F
def cF (s:RB) (a c:Int) (d:LA) (K:St→O R):=K ⟨[(0,(.optr 100000 0)),(7,(op 0))],[(100000,(bN 0 [(.own 100001 0 s.nw),(iv a),(iv c),(iv s.th),(.own 100002 0 s.nR),(.own 100003 0 s.nB),(.own 100004 0 s.nL),(.own 100005 0 s.nU),(.own 100006 0 s.nS),(.own 100007 0 s.nT),(.own 100008 0 s.nO),(.bool s.bg),(.own 100009 0 s.zA),(.own 100010 0 s.zB),(.own 100011 0 s.zC),(.own 100012 0 s.zD),(.own 100013 0 s.zE),(.own 100014 0 s.zF),(.own 100015 0 s.zG)])),(100001,(bQ 1 s.cw)),(100002,(bQ 1 s.cR)),(100003,(bQ 3 s.cB)),(100004,(bQ 12 s.cL)),(100005,(bQ 22 s.cU)),(100006,(bQ 9 s.cS)),(100007,(bQ 5 s.cT)),(100008,(bQ 4 s.cO)),(100009,(bQ 1 s.yA)),(100010,(bQ 1 s.yB)),(100011,(bQ 1 s.yC)),(100012,(bQ 1 s.yD)),(100013,(bQ 1 s.yE)),(100014,(bQ 1 s.yF)),(100015,(bQ 1 s.yG)),(300000,(bQ 0 d))]⟩
theorem RO (F:KF R) (s a c d):cF s a c d (Bq (cE N F (pz 5461) []))=(Hw N (a_ s F) s a c d):=by kernel_rfl
def Gj:=Cp N 107 (G_ N) CX (PI fun
 | [(.optr 100000 0),(.pagg b f)],s=>some fun _ k=>C4 N b f s (a_ s k)
 | _,_=>none) (TX fun _ s=>by split;rename_i b f;intro R F;exact(Cs (Pk N (a_ s F) · b f s) (Aq6 fun a c d=>(jW ..).trans (RO ..)):_).trans (AW ..).symm;trivial)
def BW (s:RB) (r0:Int→Int→Int→O R):O R :=
 (C4 N [(.int .i64 1),(.int .i64 0),(.int .i64 0),(.int .i64 0)] false s fun a b c=>r0 a b c)
def A4:=(Ac (@BW R)).1
theorem G':@A4 R=@BW R:=(Ac _).2
def Mh:=Cp N 61 [Gj N] Ca (PI fun
 | [(.optr 100000 0)],s=>some fun _ k=>A4 N s (a_ s k)
 | _,_=>none) (TX fun _ s=>by split;intro R F;dsimp only;rw[G'];kernel_rfl;trivial)
def Kh (r0:Nat→Int→Int→LA→O R) (s:RB) (k0:Nat→Int→Int→Int→LA→O R) (a:Nat) (b c d:Int) (f:LA):O R :=
 (cond (decide (b<s.th)) (A4 N { s with nx:=c,er:=d } (fun g h i=>cond ((ble (a+1) 140737488355328)&&(ble ((a+1)*8) 140737488355328)) (k0 (a+1) (wrap .i64 (b+1)) h i ((f.take (a*1))++[(.int .i64 g)])) none)) (r0 a c d f))
def C7 (r0:Nat→Int→Int→LA→O R) (s:RB):Nat→Nat→Int→Int→Int→LA→O R
 | 0=>fun _ _ _ _ _=>none
 | n+1=>Kh N r0 s (C7 r0 s n)
def Pl (N:Nat) (r0:Nat→Int→Int→LA→O R) (q0:Nat→Int→Int→Int→LA→O R) (s:RB):O R :=
 (q0 0 0 s.nx s.er [])
def Cm:=(Ac fun N s r0=>Pl (R:=R) N r0 (C7 N r0 s N) s).1
theorem AX (s r0):(@Cm R N s r0)=(Pl N r0 (C7 N r0 s N) s):=by rw[Cm,(Ac _).2]
def CY:Hints:={ H:=(hK 2 (hS (hK 1 (hS (hP [1,5,10,11] hL) hL)) hL)),nils:=[(4,1),(5,1)],modes:=[(2,1)] }
def HA:Wp:=[Mh N]
def cG (F:KF R):=Mw Tryz.f60 CY (HA N) [100000,100001,100002,100003,100004,100005,100006,100007,100008,100009,100010,100011,100012,100013,100014,100015] N F
def cH (s:RB) (K:St→O R):=fun a b c d f=>K ⟨[(1,(.fn 1000061 [(.optr 100000 0)])),(5,(.own 300000 0 a)),(10,(iv s.th)),(11,(iv b))],[(100000,(bN 0 [(.own 100001 0 s.nw),(iv c),(iv d),(iv s.th),(.own 100002 0 s.nR),(.own 100003 0 s.nB),(.own 100004 0 s.nL),(.own 100005 0 s.nU),(.own 100006 0 s.nS),(.own 100007 0 s.nT),(.own 100008 0 s.nO),(.bool s.bg),(.own 100009 0 s.zA),(.own 100010 0 s.zB),(.own 100011 0 s.zC),(.own 100012 0 s.zD),(.own 100013 0 s.zE),(.own 100014 0 s.zF),(.own 100015 0 s.zG)])),(100001,(bQ 1 s.cw)),(100002,(bQ 1 s.cR)),(100003,(bQ 3 s.cB)),(100004,(bQ 12 s.cL)),(100005,(bQ 22 s.cU)),(100006,(bQ 9 s.cS)),(100007,(bQ 5 s.cT)),(100008,(bQ 4 s.cO)),(100009,(bQ 1 s.yA)),(100010,(bQ 1 s.yB)),(100011,(bQ 1 s.yC)),(100012,(bQ 1 s.yD)),(100013,(bQ 1 s.yE)),(100014,(bQ 1 s.yF)),(100015,(bQ 1 s.yG)),(300000,(bQ 1 f))]⟩
theorem RP (F:KF R) (s):∀ n,cH s (Ap (cG N F (pz 1348) []) n)=(C7 N (SQ s F) s n):=Fs fun n e=>(Cs (Kh N (SQ s F) s) e:_)
def T8:=Cp N 60 (HA N) CY (PI fun
 | [(.optr 100000 0),(.fn 1000061 [(.optr 100000 0)])],s=>some fun _ k=>Cm N s (SQ s k)
 | _,_=>none) (TX fun _ s=>by split;intro R F;exact(Cs (Pl N (SQ s F) · s) ((lW ..).trans (RP ..)):_).trans (AX ..).symm;trivial)
def LV (s:RB) (r0:Int→O R):O R :=
 (Fa N s fun a=>cond a (Am N 2 s fun b=>r0 b) (r0 s.er))
def Fi:=(Ac (@LV R)).1
theorem NP:@Fi R=@LV R:=(Ac _).2
def tV:=Cp N 68 [Of N,Bl N] Ca (PI fun
 | [(.optr 100000 0)],s=>some fun _ k=>Fi N s (As2 s k)
 | _,_=>none) (TX fun _ s=>by split;intro R F;dsimp only;rw[NP];kernel_rfl;trivial)
def KB (N:Nat) (r0:Bool→O R) (a:Lu) (k1:Int→Int→O R) (c b:Int):O R :=
 (cond (decide (b<c)) (cond (Ag b (a.length)) (cond ((decide (((UInt8.toNat (List.getD a (b.toNat) 0):Nat):Int)<97))==false) (cond ((cond false true (decide (((UInt8.toNat (List.getD a (b.toNat) 0):Nat):Int)>122)))==true) (cond ((decide (((UInt8.toNat (List.getD a (b.toNat) 0):Nat):Int)<48))==false) (cond ((cond true (cond false true (decide (((UInt8.toNat (List.getD a (b.toNat) 0):Nat):Int)>57))) false)==true) (cond (cond true (((UInt8.toNat (List.getD a (b.toNat) 0):Nat):Int) != 95) false) (r0 false) (k1 c (wrap .i64 (b+1)))) (k1 c (wrap .i64 (b+1)))) (cond (cond true (((UInt8.toNat (List.getD a (b.toNat) 0):Nat):Int) != 95) false) (r0 false) (k1 c (wrap .i64 (b+1))))) (k1 c (wrap .i64 (b+1)))) (cond ((decide (((UInt8.toNat (List.getD a (b.toNat) 0):Nat):Int)<48))==false) (cond ((cond true (cond false true (decide (((UInt8.toNat (List.getD a (b.toNat) 0):Nat):Int)>57))) false)==true) (cond (cond true (((UInt8.toNat (List.getD a (b.toNat) 0):Nat):Int) != 95) false) (r0 false) (k1 c (wrap .i64 (b+1)))) (k1 c (wrap .i64 (b+1)))) (cond (cond true (((UInt8.toNat (List.getD a (b.toNat) 0):Nat):Int) != 95) false) (r0 false) (k1 c (wrap .i64 (b+1)))))) none) (r0 true))
def Yi (r0:Bool→O R) (a:Lu):Nat→Int→Int→O R
 | 0=>fun _ _=>none
 | n+1=>KB N r0 a (Yi r0 a n)
def XT (N:Nat) (r0:Bool→O R) (a:Lu) (q1:Int→Int→O R):O R :=
 (q1 (((a.length):Nat):Int) 0)
def RQ (r0:Bool→O R) (a:Lu):O R:=(XT N r0 a (Yi N r0 a N))
def jZ (N:Nat) (r0:Bool→O R) (q0:O R) (a:Lu):O R :=
 (cond ((decide ((((a.length):Nat):Int)<1))==false) (cond ((cond false true (decide ((((a.length):Nat):Int)>16)))==false) (cond ((cond false true (a==([99,111,114,114,101,99,116,105,118,101]:Lu)))==false) (cond (Ag 0 (a.length)) (cond ((cond false true (decide (((UInt8.toNat (List.getD a 0 0):Nat):Int)<97)))==false) (cond (Ag 0 (a.length)) (cond (cond false true (decide (((UInt8.toNat (List.getD a 0 0):Nat):Int)>122))) (r0 false) q0) none) (r0 false)) none) (r0 false)) (r0 false)) (r0 false))
def Lv:=(Ac fun N a r0=>jZ (R:=R) N r0 (RQ N r0 a) a).1
theorem oP (a r0):(@Lv R N a r0)=(jZ N r0 (RQ N r0 a) a):=by rw[Lv,(Ac _).2]
def tW:Hints:={ H:=(hK 1 (hJ [0] hL (hS (hK 1 (hS (hP [0,28,29] hL) hL)) hL))) }
def tX (F:KF R):=Mw Tryz.f86 tW [] [] N F
def Ahc (a:Lu) (K:St→O R):=fun c b=>K ⟨[(0,(.str a)),(28,(iv c)),(29,(iv b))],[]⟩
def Ahd (a:Lu) (K:St→O R):=K ⟨[(0,(.str a))],[]⟩
theorem vf (F:KF R) (a):∀ n,Ahc a (Ap (tX N F (pz 1348) []) n)=(Yi N (Bh F) a n):=Fs fun n e=>(Cs (KB N (Bh F) a) e:_)
theorem vg (F:KF R) (a):Ahd a (Bq (tX N F (pz 21) []))=(RQ N (Bh F) a):=(Cs (XT N (Bh F) a) ((lW ..).trans (vf ..)):_)
def EL:=Cp N 86 [] tW (fun
 | [(.str a)],[]=>some fun _ k=>Lv N a (Bh k)
 | _,_=>none) fun _ _=>by split;intro R F;exact(Cs (jZ N (Bh F) · _) ((jW ..).trans (vg ..)):_).trans (oP ..).symm;trivial
def Bm (N:Nat) (r0:Int→O R) (b:LA) (a:Nat) (d f:Bool) (c:Lu) (k0:Int→Int→O R) (h g:Int):O R :=
 (cond (decide (g<h)) (cond (Ag g a) (Li (b.drop ((g.toNat)*1)) fun i=>cond (c==i) (r0 g) (k0 h (wrap .i64 (g+1)))) none) (r0 (-1)))
def Az (r0:Int→O R) (b:LA) (a:Nat) (d f:Bool) (c:Lu):Nat→Int→Int→O R
 | 0=>fun _ _=>none
 | n+1=>Bm N r0 b a d f c (Az r0 b a d f c n)
def Cz (N:Nat) (r0:Int→O R) (q0:Int→Int→O R) (b:LA) (a:Nat) (d f:Bool) (c:Lu):O R :=
 (q0 (a:Int) 0)
def A5:=(Ac fun N b a d f c r0=>Cz (R:=R) N r0 (Az N r0 b a d f c N) b a d f c).1
theorem Fz (b a d f c r0):(@A5 R N b a d f c r0)=(Cz N r0 (Az N r0 b a d f c N) b a d f c):=by rw[A5,(Ac _).2]
def Mi:Hints:={ H:=(hK 1 (hS (hK 1 (hS (hP [0,1,7,8] hL) hL)) hL)) }
def Yj (F:KF R):=Mw Tryz.f128 Mi [] [] N F
def Yk (b:LA) (a:Nat) (d f:Bool) (c:Lu) (K:St→O R):=fun h g=>K ⟨[(0,(.imm b a 1 d f)),(1,(.str c)),(7,(iv h)),(8,(iv g))],[]⟩
theorem Ux (F:KF R) (b a d f c):∀ n,Yk b a d f c (Ap (Yj N F (pz 324) []) n)=(Az N (Jc F) b a d f c n):=Fs fun n e=>(Cs (Bm N (Jc F) b a d f c) e:_)
def Dz:=Cp N 128 [] Mi (fun
 | [(.imm b a 1 d f),(.str c)],[]=>some fun _ k=>A5 N b a d f c (Jc k)
 | _,_=>none) fun _ _=>by split;intro R F;exact(Cs (Cz N (Jc F) · _ _ _ _ _) ((lW ..).trans (Ux ..)):_).trans (Fz ..).symm;trivial
def F0 (a:LA) (b:Nat) (e c:Bool) (d:Lu) (r0:Bool→O R):O R :=
 (A5 N a b false c d fun f=>r0 (decide (f≥0)))
def Ar:=(Ac (@F0 R)).1
theorem Iz:@Ar R=@F0 R:=(Ac _).2
def Br:=Cp N 87 [Dz N] Ca (fun
 | [(.imm a b 1 e c),(.str d)],[]=>some fun _ k=>Ar N a b e c d (Bh k)
 | _,_=>none) fun _ _=>by split;intro R F;dsimp only;rw[Iz];kernel_rfl;trivial
def Ad0 (N:Nat) (a:Int) (r0:Int→O R):O R :=
 (cond (a==1) (r0 32) (cond (a==2) (r0 64) (cond (a==3) (r0 16) (cond (a==4) (r0 8) (cond (a==5) (r0 8) (r0 64))))))
def KC:=(Ac (@Ad0 R)).1
theorem Qq:@KC R=@Ad0 R:=(Ac _).2
def EM:=Cp N 139 [] Ca (fun
 | [(.int .i64 a)],[]=>some fun _ k=>KC N a (Jc k)
 | _,_=>none) fun _ _=>by split;intro R F;dsimp only;rw[Qq];kernel_rfl;trivial
def BX (s:RB) (r0:Int→Int→O R) (r1:Lu→Int→Int→Nat→LA→O R):O R :=
 (Bt N s fun c d a b=>cond (!d) (r0 a b) (Lv N c fun e=>cond (!e) (Am N 9 { s with nx:=a,er:=b } (fun f=>r0 a f)) (Ar N (s.yB.take (s.zB*1)) s.zB false true c fun g=>cond g (Am N 10 { s with nx:=a,er:=b } (fun h=>r0 a h)) (KC N 1 fun i=>cond (decide ((s.zB:Int)≥i)) (Am N 8 { s with nx:=a,er:=b } (fun j=>r0 a j)) (cond ((ble (s.zB+1) 140737488355328)&&(ble ((s.zB+1)*16) 140737488355328)) (r1 c a b (s.zB+1) ((s.yB.take (s.zB*1))++[(.str c)])) none)))))
def V9:=(Ac (@BX R)).1
theorem HB:@V9 R=@BX R:=(Ac _).2
def j0 (s:RB) (F:KF R):Lu→Int→Int→Nat→LA→O R:=(fun l m n o p=>F (.str l) [(100000,(bN 0 [(.own 300000 0 s.nw),(iv m),(iv n),(iv s.th),(.own 300001 0 s.nR),(.own 300002 0 s.nB),(.own 300003 0 s.nL),(.own 300004 0 s.nU),(.own 300005 0 s.nS),(.own 300006 0 s.nT),(.own 300007 0 s.nO),(.bool s.bg),(.own 300008 0 s.zA),(.own 300014 0 o),(.own 300009 0 s.zC),(.own 300010 0 s.zD),(.own 300011 0 s.zE),(.own 300012 0 s.zF),(.own 300013 0 s.zG)])),(300000,(bQ 1 s.cw)),(300001,(bQ 1 s.cR)),(300002,(bQ 3 s.cB)),(300003,(bQ 12 s.cL)),(300004,(bQ 22 s.cU)),(300005,(bQ 9 s.cS)),(300006,(bQ 5 s.cT)),(300007,(bQ 4 s.cO)),(300008,(bQ 1 s.yA)),(300009,(bQ 1 s.yC)),(300010,(bQ 1 s.yD)),(300011,(bQ 1 s.yE)),(300012,(bQ 1 s.yF)),(300013,(bQ 1 s.yG)),(300014,(bQ 1 p))])
def lj:=Cp N 108 [Bu N,EL N,Bl N,Br N,EM N] r_ (PI fun
 | [(.optr 100000 0),(.int .i64 1)],s=>some fun _ k=>V9 N s (An1 s k) (j0 s k)
 | _,_=>none) (TX fun _ s=>by split;intro R F;dsimp only;rw[HB];kernel_rfl;trivial)
def BY (s:RB) (r0:Int→Int→Int→O R):O R :=
 (C4 N [(.int .i64 (-1)),(.int .i64 (-1)),(.int .i64 1),(.int .i64 0)] false s fun a b c=>r0 a b c)
def Ha:=(Ac (@BY R)).1
theorem HC:@Ha R=@BY R:=(Ac _).2
def Yl:=Cp N 109 [Gj N] Ca (PI fun
 | [(.optr 100000 0)],s=>some fun _ k=>Ha N s (a_ s k)
 | _,_=>none) (TX fun _ s=>by split;intro R F;dsimp only;rw[HC];kernel_rfl;trivial)
def HD (s:RB) (r0:Int→Int→Nat→Nat→LA→LA→O R):O R :=
 (V9 N s (fun e f=>Aj N ([100,101,109,97,110,100]:Lu) { s with nx:=e,er:=f } (fun g h=>Cm N { s with nx:=g,er:=h } (fun c i j l=>Aj N ([115,104,101,100]:Lu) { s with nx:=i,er:=j } (fun m n=>Ha N { s with nx:=m,er:=n } (fun o p q=>cond ((ble (s.nB+1) 140737488355328)&&(ble ((s.nB+1)*48) 140737488355328)) (r0 p q (s.nB+1) s.zB ((s.cB.take (s.nB*3))++[(.str ([]:Lu)),(.imm (l.take (c*1)) c 1 false false),(.int .i64 o)]) s.yB) none))))) fun r t u a b=>Aj N ([100,101,109,97,110,100]:Lu) { s with nx:=t,er:=u,zB:=a,yB:=b } (fun v w=>Cm N { s with nx:=v,er:=w,zB:=a,yB:=b } (fun d x y z=>Aj N ([115,104,101,100]:Lu) { s with nx:=x,er:=y,zB:=a,yB:=b } (fun aa ab=>Ha N { s with nx:=aa,er:=ab,zB:=a,yB:=b } (fun ac ad ae=>cond ((ble (s.nB+1) 140737488355328)&&(ble ((s.nB+1)*48) 140737488355328)) (r0 ad ae (s.nB+1) a ((s.cB.take (s.nB*3))++[(.str r),(.imm (z.take (d*1)) d 1 false false),(.int .i64 ac)]) b) none)))))
def Zu:=(Ac (@HD R)).1
theorem KD:@Zu R=@HD R:=(Ac _).2
def lk (s:RB) (F:KF R):Int→Int→Nat→Nat→LA→LA→O R:=(fun af ag ah ai aj ak=>F (.tup []) [(100000,(bN 0 [(.own 300000 0 s.nw),(iv af),(iv ag),(iv s.th),(.own 300001 0 s.nR),(.own 300002 0 ah),(.own 300003 0 s.nL),(.own 300004 0 s.nU),(.own 300005 0 s.nS),(.own 300006 0 s.nT),(.own 300007 0 s.nO),(.bool s.bg),(.own 300008 0 s.zA),(.own 300009 0 ai),(.own 300010 0 s.zC),(.own 300011 0 s.zD),(.own 300012 0 s.zE),(.own 300013 0 s.zF),(.own 300014 0 s.zG)])),(300000,(bQ 1 s.cw)),(300001,(bQ 1 s.cR)),(300002,(bQ 3 aj)),(300003,(bQ 12 s.cL)),(300004,(bQ 22 s.cU)),(300005,(bQ 9 s.cS)),(300006,(bQ 5 s.cT)),(300007,(bQ 4 s.cO)),(300008,(bQ 1 s.yA)),(300009,(bQ 1 ak)),(300010,(bQ 1 s.yC)),(300011,(bQ 1 s.yD)),(300012,(bQ 1 s.yE)),(300013,(bQ 1 s.yF)),(300014,(bQ 1 s.yG))])
def qP:=Cp N 62 [lj N,Gi N,T8 N,Yl N] Ai2 (PI fun
 | [(.optr 100000 0)],s=>some fun _ k=>Zu N s (lk s k)
 | _,_=>none) (TX fun _ s=>by split;intro R F;dsimp only;rw[KD];kernel_rfl;trivial)
def T9 (s:RB) (r0:Int→Int→O R) (r1:Lu→Int→Int→Nat→LA→O R):O R :=
 (Bt N s fun c d a b=>cond (!d) (r0 a b) (Lv N c fun e=>cond (!e) (Am N 9 { s with nx:=a,er:=b } (fun f=>r0 a f)) (Ar N (s.yC.take (s.zC*1)) s.zC false true c fun g=>cond g (Am N 10 { s with nx:=a,er:=b } (fun h=>r0 a h)) (KC N 2 fun i=>cond (decide ((s.zC:Int)≥i)) (Am N 8 { s with nx:=a,er:=b } (fun j=>r0 a j)) (cond ((ble (s.zC+1) 140737488355328)&&(ble ((s.zC+1)*16) 140737488355328)) (r1 c a b (s.zC+1) ((s.yC.take (s.zC*1))++[(.str c)])) none)))))
def Pm:=(Ac (@T9 R)).1
theorem W6:@Pm R=@T9 R:=(Ac _).2
def XU (s:RB) (F:KF R):Lu→Int→Int→Nat→LA→O R:=(fun l m n o p=>F (.str l) [(100000,(bN 0 [(.own 300000 0 s.nw),(iv m),(iv n),(iv s.th),(.own 300001 0 s.nR),(.own 300002 0 s.nB),(.own 300003 0 s.nL),(.own 300004 0 s.nU),(.own 300005 0 s.nS),(.own 300006 0 s.nT),(.own 300007 0 s.nO),(.bool s.bg),(.own 300008 0 s.zA),(.own 300009 0 s.zB),(.own 300014 0 o),(.own 300010 0 s.zD),(.own 300011 0 s.zE),(.own 300012 0 s.zF),(.own 300013 0 s.zG)])),(300000,(bQ 1 s.cw)),(300001,(bQ 1 s.cR)),(300002,(bQ 3 s.cB)),(300003,(bQ 12 s.cL)),(300004,(bQ 22 s.cU)),(300005,(bQ 9 s.cS)),(300006,(bQ 5 s.cT)),(300007,(bQ 4 s.cO)),(300008,(bQ 1 s.yA)),(300009,(bQ 1 s.yB)),(300010,(bQ 1 s.yD)),(300011,(bQ 1 s.yE)),(300012,(bQ 1 s.yF)),(300013,(bQ 1 s.yG)),(300014,(bQ 1 p))])
def cI:=Cp N 108 [Bu N,EL N,Bl N,Br N,EM N] r_ (PI fun
 | [(.optr 100000 0),(.int .i64 2)],s=>some fun _ k=>Pm N s (An1 s k) (XU s k)
 | _,_=>none) (TX fun _ s=>by split;intro R F;dsimp only;rw[W6];kernel_rfl;trivial)
def Ym (s:RB) (r0:Int→Int→Int→O R):O R :=
 (Bt N s fun d e a b=>cond (!e) (r0 0 a b) (A5 N (s.yB.take (s.zB*1)) s.zB false true d fun c=>cond (decide (c<0)) (Am N 12 { s with nx:=a,er:=b } (fun f=>r0 0 a f)) (r0 c a b)))
def B7:=(Ac (@Ym R)).1
theorem CZ:@B7 R=@Ym R:=(Ac _).2
def Pn:=Cp N 110 [Bu N,Dz N,Bl N] Ca (PI fun
 | [(.optr 100000 0),(.int .i64 1)],s=>some fun _ k=>B7 N s (a_ s k)
 | _,_=>none) (TX fun _ s=>by split;intro R F;dsimp only;rw[CZ];kernel_rfl;trivial)
def Ki (r0:LA→Int→Int→O R) (c:Int) (d:Bool) (e:Int) (f:Bool) (s:RB) (a b:Int):O R :=
 (cond ((!d)==false) (cond ((cond false true (!f))==false) (cond (cond false true (decide (e<1))) (Am N 3 { s with nx:=a,er:=b } (fun i=>r0 [(.int .i64 0),(.int .i64 0)] a i)) (r0 [(.int .i64 c),(.int .i64 e)] a b)) (Am N 3 { s with nx:=a,er:=b } (fun j=>r0 [(.int .i64 0),(.int .i64 0)] a j))) (Am N 3 { s with nx:=a,er:=b } (fun l=>r0 [(.int .i64 0),(.int .i64 0)] a l)))
def O2 (r0:LA→Int→Int→O R) (c:Int) (d:Bool) (s:RB) (a b:Int) (q1:Int→Bool→O R) (g:Lu):O R :=
 (JZ N g fun e f m=>cond ((m != 0)==false) (cond (Ag 0 (g.length)) (cond (cond false true (((UInt8.toNat (List.getD g 0 0):Nat):Int)==45)) (Am N 2 { s with nx:=a,er:=b } (fun n=>r0 [(.int .i64 0),(.int .i64 0)] a n)) (q1 e f)) none) (Am N 2 { s with nx:=a,er:=b } (fun o=>r0 [(.int .i64 0),(.int .i64 0)] a o)))
def Hb (r0:LA→Int→Int→O R) (c:Int) (d:Bool) (s:RB) (a b:Int) (g:Lu):O R:=(O2 N r0 c d s a b (fun e f=>Ki N r0 c d e f s a b) g)
def Ns (r0:LA→Int→Int→O R) (q0:Int→Bool→Int→Int→Lu→O R) (s:RB):O R :=
 (Bt N s fun p q a b=>cond (!q) (r0 [(.int .i64 0),(.int .i64 0)] a b) (strings_Cut N p ([47]:Lu) fun r t u=>JZ N r fun c d h=>cond (h != 0) (Am N h { s with nx:=a,er:=b } (fun v=>r0 [(.int .i64 0),(.int .i64 0)] a v)) (cond (!u) (q0 c d a b ([49]:Lu)) (q0 c d a b t))))
def Bw:=(Ac fun N s r0=>Ns (R:=R) N r0 (fun c d a b=>Hb N r0 c d s a b) s).1
theorem W7 (s r0):(@Bw R N s r0)=(Ns N r0 (fun c d a b=>Hb N r0 c d s a b) s):=by rw[Bw,(Ac _).2]
def AY:Hints:={ H:=(hK 6 (hJ [0,2,6,8,9] hL (hK 1 (hJ [0,2,8,9,11,12] hL hL)))),modes:=[(3,0)] }
def C_:Wp:=[Bu N,LH N,xI N,Bl N]
def AZ (F:KF R):=Mw Tryz.f111 AY (C_ N) [100000,100001,100002,100003,100004,100005,100006,100007,100008,100009,100010,100011,100012,100013,100014,100015] N F
def Hc (s:RB) (F:KF R):LA→Int→Int→O R:=(fun w x y=>F (.pagg w false) [(100000,(bN 0 [(.own 100001 0 s.nw),(iv x),(iv y),(iv s.th),(.own 100002 0 s.nR),(.own 100003 0 s.nB),(.own 100004 0 s.nL),(.own 100005 0 s.nU),(.own 100006 0 s.nS),(.own 100007 0 s.nT),(.own 100008 0 s.nO),(.bool s.bg),(.own 100009 0 s.zA),(.own 100010 0 s.zB),(.own 100011 0 s.zC),(.own 100012 0 s.zD),(.own 100013 0 s.zE),(.own 100014 0 s.zF),(.own 100015 0 s.zG)])),(100001,(bQ 1 s.cw)),(100002,(bQ 1 s.cR)),(100003,(bQ 3 s.cB)),(100004,(bQ 12 s.cL)),(100005,(bQ 22 s.cU)),(100006,(bQ 9 s.cS)),(100007,(bQ 5 s.cT)),(100008,(bQ 4 s.cO)),(100009,(bQ 1 s.yA)),(100010,(bQ 1 s.yB)),(100011,(bQ 1 s.yC)),(100012,(bQ 1 s.yD)),(100013,(bQ 1 s.yE)),(100014,(bQ 1 s.yF)),(100015,(bQ 1 s.yG))])
def XV (c:Int) (d:Bool) (e:Int) (f:Bool) (s:RB) (a b:Int) (K:St→O R):=K ⟨[(0,(.optr 100000 0)),(2,(op 0)),(8,(iv c)),(9,(.bool d)),(11,(iv e)),(12,(.bool f))],[(100000,(bN 0 [(.own 100001 0 s.nw),(iv a),(iv b),(iv s.th),(.own 100002 0 s.nR),(.own 100003 0 s.nB),(.own 100004 0 s.nL),(.own 100005 0 s.nU),(.own 100006 0 s.nS),(.own 100007 0 s.nT),(.own 100008 0 s.nO),(.bool s.bg),(.own 100009 0 s.zA),(.own 100010 0 s.zB),(.own 100011 0 s.zC),(.own 100012 0 s.zD),(.own 100013 0 s.zE),(.own 100014 0 s.zF),(.own 100015 0 s.zG)])),(100001,(bQ 1 s.cw)),(100002,(bQ 1 s.cR)),(100003,(bQ 3 s.cB)),(100004,(bQ 12 s.cL)),(100005,(bQ 22 s.cU)),(100006,(bQ 9 s.cS)),(100007,(bQ 5 s.cT)),(100008,(bQ 4 s.cO)),(100009,(bQ 1 s.yA)),(100010,(bQ 1 s.yB)),(100011,(bQ 1 s.yC)),(100012,(bQ 1 s.yD)),(100013,(bQ 1 s.yE)),(100014,(bQ 1 s.yF)),(100015,(bQ 1 s.yG)),(300000,(bQ 0 [(iv 0),(iv 0)]))]⟩
def XW (c:Int) (d:Bool) (s:RB) (a b:Int) (K:St→O R):=fun g=>K ⟨[(0,(.optr 100000 0)),(2,(op 0)),(6,(.str g)),(8,(iv c)),(9,(.bool d))],[(100000,(bN 0 [(.own 100001 0 s.nw),(iv a),(iv b),(iv s.th),(.own 100002 0 s.nR),(.own 100003 0 s.nB),(.own 100004 0 s.nL),(.own 100005 0 s.nU),(.own 100006 0 s.nS),(.own 100007 0 s.nT),(.own 100008 0 s.nO),(.bool s.bg),(.own 100009 0 s.zA),(.own 100010 0 s.zB),(.own 100011 0 s.zC),(.own 100012 0 s.zD),(.own 100013 0 s.zE),(.own 100014 0 s.zF),(.own 100015 0 s.zG)])),(100001,(bQ 1 s.cw)),(100002,(bQ 1 s.cR)),(100003,(bQ 3 s.cB)),(100004,(bQ 12 s.cL)),(100005,(bQ 22 s.cU)),(100006,(bQ 9 s.cS)),(100007,(bQ 5 s.cT)),(100008,(bQ 4 s.cO)),(100009,(bQ 1 s.yA)),(100010,(bQ 1 s.yB)),(100011,(bQ 1 s.yC)),(100012,(bQ 1 s.yD)),(100013,(bQ 1 s.yE)),(100014,(bQ 1 s.yF)),(100015,(bQ 1 s.yG)),(300000,(bQ 0 [(iv 0),(iv 0)]))]⟩
theorem NQ (F:KF R) (c d e f s a b):XV c d e f s a b (Bq (AZ N F (pz 349525) []))=(Ki N (Hc s F) c d e f s a b):=by kernel_rfl
theorem NR (F:KF R) (c d s a b):XW c d s a b (Bq (AZ N F (pz 21845) []))=(Hb N (Hc s F) c d s a b):=(Cs (O2 N (Hc s F) c d s a b) (VO fun e f=>(jW ..).trans (NQ ..)):_)
def C':=Cp N 111 (C_ N) AY (PI fun
 | [(.optr 100000 0)],s=>some fun _ k=>Bw N s (Hc s k)
 | _,_=>none) (TX fun _ s=>by split;intro R F;exact(Cs (Ns N (Hc s F) · s) (Af6 fun c d a b=>(jW ..).trans (NR ..)):_).trans (W7 ..).symm;trivial)
def Po (a:Lu) (s:RB) (r0:Bool→O R):O R :=
 (Fa N s fun b=>cond (b==true) (cond (Ag s.nx s.nw) (Li (s.cw.drop (0+((s.nx.toNat)*1))) fun c=>r0 (cond true (!(c==a)) false)) none) (r0 false))
def Gk:=(Ac (@Po R)).1
theorem Qr:@Gk R=@Po R:=(Ac _).2
def Ua:=Cp N 113 [Of N] Ca (PI fun
 | [(.optr 100000 0),(.str a)],s=>some fun _ k=>Gk N a s (An2 s k)
 | _,_=>none) (TX fun _ s=>by split;intro R F;dsimp only;rw[Qr];kernel_rfl;trivial)
def HE (s:RB) (r0:Int→Int→Int→O R):O R :=
 (Oh N (-1073741824) 1073741824 s fun a b c=>r0 a b c)
def Zv:=(Ac (@HE R)).1
theorem KE:@Zv R=@HE R:=(Ac _).2
def qQ:=Cp N 140 [J_ N] Ca (PI fun
 | [(.optr 100000 0)],s=>some fun _ k=>Zv N s (a_ s k)
 | _,_=>none) (TX fun _ s=>by split;intro R F;dsimp only;rw[KE];kernel_rfl;trivial)
def Nt (r0:Nat→Int→Int→LA→O R) (a:Lu) (s:RB) (k0:Nat→Int→Int→LA→O R) (b:Nat) (c d:Int) (f:LA):O R :=
 (Gk N a { s with nx:=c,er:=d } (fun g=>cond g (Zv N { s with nx:=c,er:=d } (fun h i j=>cond ((ble (b+1) 140737488355328)&&(ble ((b+1)*8) 140737488355328)) (k0 (b+1) i j ((f.take (b*1))++[(.int .i64 h)])) none)) (r0 b c d f)))
def Fj (r0:Nat→Int→Int→LA→O R) (a:Lu) (s:RB):Nat→Nat→Int→Int→LA→O R
 | 0=>fun _ _ _ _=>none
 | n+1=>Nt N r0 a s (Fj r0 a s n)
def Tq (N:Nat) (r0:Nat→Int→Int→LA→O R) (q0:Nat→Int→Int→LA→O R) (a:Lu) (s:RB):O R :=
 (q0 0 s.nx s.er [])
def I0:=(Ac fun N a s r0=>Tq (R:=R) N r0 (Fj N r0 a s N) a s).1
theorem HF (a s r0):(@I0 R N a s r0)=(Tq N r0 (Fj N r0 a s N) a s):=by rw[I0,(Ac _).2]
def KG:Hints:={ H:=(hK 2 (hS (hS (hP [0,1,5] hL) hL) hL)),nils:=[(4,1),(5,1)],modes:=[(2,1)] }
def NS:Wp:=[Ua N,qQ N]
def j1 (F:KF R):=Mw Tryz.f112 KG (NS N) [100000,100001,100002,100003,100004,100005,100006,100007,100008,100009,100010,100011,100012,100013,100014,100015] N F
def j2 (a:Lu) (s:RB) (K:St→O R):=fun b c d f=>K ⟨[(0,(.optr 100000 0)),(1,(.str a)),(5,(.own 300000 0 b))],[(100000,(bN 0 [(.own 100001 0 s.nw),(iv c),(iv d),(iv s.th),(.own 100002 0 s.nR),(.own 100003 0 s.nB),(.own 100004 0 s.nL),(.own 100005 0 s.nU),(.own 100006 0 s.nS),(.own 100007 0 s.nT),(.own 100008 0 s.nO),(.bool s.bg),(.own 100009 0 s.zA),(.own 100010 0 s.zB),(.own 100011 0 s.zC),(.own 100012 0 s.zD),(.own 100013 0 s.zE),(.own 100014 0 s.zF),(.own 100015 0 s.zG)])),(100001,(bQ 1 s.cw)),(100002,(bQ 1 s.cR)),(100003,(bQ 3 s.cB)),(100004,(bQ 12 s.cL)),(100005,(bQ 22 s.cU)),(100006,(bQ 9 s.cS)),(100007,(bQ 5 s.cT)),(100008,(bQ 4 s.cO)),(100009,(bQ 1 s.yA)),(100010,(bQ 1 s.yB)),(100011,(bQ 1 s.yC)),(100012,(bQ 1 s.yD)),(100013,(bQ 1 s.yE)),(100014,(bQ 1 s.yF)),(100015,(bQ 1 s.yG)),(300000,(bQ 1 f))]⟩
theorem XX (F:KF R) (a s):∀ n,j2 a s (Ap (j1 N F (pz 336) []) n)=(Fj N (SQ s F) a s n):=Fs fun n e=>(Cs (Nt N (SQ s F) a s) e:_)
def NT:=Cp N 112 (NS N) KG (PI fun
 | [(.optr 100000 0),(.str a)],s=>some fun _ k=>I0 N a s (SQ s k)
 | _,_=>none) (TX fun _ s=>by split;rename_i a;intro R F;exact(Cs (Tq N (SQ s F) · a s) ((lW ..).trans (XX ..)):_).trans (HF ..).symm;trivial)
def BZ (s:RB) (r0:Int→Int→Nat→Nat→LA→LA→O R):O R :=
 (Pm N s (fun x y=>B7 N { s with nx:=x,er:=y } (fun e z aa=>B7 N { s with nx:=z,er:=aa } (fun f ab ac=>Aj N ([120]:Lu) { s with nx:=ab,er:=ac } (fun ad ae=>Bw N { s with nx:=ad,er:=ae } (fun c af ag=>cond ((beq (c.length) 2)&&((ble 5 12)&&(!false))) (Aj N ([115,104,105,102,116]:Lu) { s with nx:=af,er:=ag } (fun ah ai=>Bw N { s with nx:=ah,er:=ai } (fun g aj ak=>cond ((beq (g.length) 2)&&((ble 7 ((setCells [(.str ([]:Lu)),(.int .i64 e),(.int .i64 f),(.int .i64 0),(.int .i64 0),(.int .i64 0),(.int .i64 0),(.int .i64 0),(.int .i64 0),(.int .i64 0),(.int .i64 0),.nsl] 3 c).length))&&(!false))) (Bw N { s with nx:=aj,er:=ak } (fun m al am=>cond ((beq (m.length) 2)&&((ble 9 ((setCells (setCells [(.str ([]:Lu)),(.int .i64 e),(.int .i64 f),(.int .i64 0),(.int .i64 0),(.int .i64 0),(.int .i64 0),(.int .i64 0),(.int .i64 0),(.int .i64 0),(.int .i64 0),.nsl] 3 c) 5 g).length))&&(!false))) (Aj N ([108,105,109,105,116]:Lu) { s with nx:=al,er:=am } (fun an ao=>A4 N { s with nx:=an,er:=ao } (fun q ap aq=>cond ((beq 1 1)&&((ble 10 ((setCells (setCells (setCells [(.str ([]:Lu)),(.int .i64 e),(.int .i64 f),(.int .i64 0),(.int .i64 0),(.int .i64 0),(.int .i64 0),(.int .i64 0),(.int .i64 0),(.int .i64 0),(.int .i64 0),.nsl] 3 c) 5 g) 7 m).length))&&(!false))) (A4 N { s with nx:=ap,er:=aq } (fun t ar au=>cond ((beq 1 1)&&((ble 11 (((setCells (setCells (setCells [(.str ([]:Lu)),(.int .i64 e),(.int .i64 f),(.int .i64 0),(.int .i64 0),(.int .i64 0),(.int .i64 0),(.int .i64 0),(.int .i64 0),(.int .i64 0),(.int .i64 0),.nsl] 3 c) 5 g) 7 m).set 9 (.int .i64 q)).length))&&(!false))) (Aj N ([97,119,97,121]:Lu) { s with nx:=ar,er:=au } (fun av aw=>I0 N ([]:Lu) { s with nx:=av,er:=aw } (fun o ax ay v=>cond ((beq 1 1)&&((ble 12 ((((setCells (setCells (setCells [(.str ([]:Lu)),(.int .i64 e),(.int .i64 f),(.int .i64 0),(.int .i64 0),(.int .i64 0),(.int .i64 0),(.int .i64 0),(.int .i64 0),(.int .i64 0),(.int .i64 0),.nsl] 3 c) 5 g) 7 m).set 9 (.int .i64 q)).set 10 (.int .i64 t)).length))&&(!false))) (cond (ble 12 (((((setCells (setCells (setCells [(.str ([]:Lu)),(.int .i64 e),(.int .i64 f),(.int .i64 0),(.int .i64 0),(.int .i64 0),(.int .i64 0),(.int .i64 0),(.int .i64 0),(.int .i64 0),(.int .i64 0),.nsl] 3 c) 5 g) 7 m).set 9 (.int .i64 q)).set 10 (.int .i64 t)).set 11 (.imm (v.take (o*1)) o 1 false false)).length)) (cond ((beq ((((((setCells (setCells (setCells [(.str ([]:Lu)),(.int .i64 e),(.int .i64 f),(.int .i64 0),(.int .i64 0),(.int .i64 0),(.int .i64 0),(.int .i64 0),(.int .i64 0),(.int .i64 0),(.int .i64 0),.nsl] 3 c) 5 g) 7 m).set 9 (.int .i64 q)).set 10 (.int .i64 t)).set 11 (.imm (v.take (o*1)) o 1 false false)).take 12).length) 12)&&(ble 12 12)) (cond ((ble (s.nL+1) 140737488355328)&&(ble ((s.nL+1)*120) 140737488355328)) (r0 ax ay (s.nL+1) s.zC ((s.cL.take (s.nL*12))++((setCells [(.str ([]:Lu)),(.int .i64 0),(.int .i64 0),(.int .i64 0),(.int .i64 0),(.int .i64 0),(.int .i64 0),(.int .i64 0),(.int .i64 0),(.int .i64 0),(.int .i64 0),.nsl] 0 (((((setCells (setCells (setCells [(.str ([]:Lu)),(.int .i64 e),(.int .i64 f),(.int .i64 0),(.int .i64 0),(.int .i64 0),(.int .i64 0),(.int .i64 0),(.int .i64 0),(.int .i64 0),(.int .i64 0),.nsl] 3 c) 5 g) 7 m).set 9 (.int .i64 q)).set 10 (.int .i64 t)).set 11 (.imm (v.take (o*1)) o 1 false false)).take 12)).take 12)) s.yC) none) none) none) none))) none)) none))) none)) none))) none))))) fun h az ba a b=>B7 N { s with nx:=az,er:=ba,zC:=a,yC:=b } (fun i bb bc=>B7 N { s with nx:=bb,er:=bc,zC:=a,yC:=b } (fun j bd be=>Aj N ([120]:Lu) { s with nx:=bd,er:=be,zC:=a,yC:=b } (fun bf bh=>Bw N { s with nx:=bf,er:=bh,zC:=a,yC:=b } (fun d bi bj=>cond ((beq (d.length) 2)&&((ble 5 12)&&(!false))) (Aj N ([115,104,105,102,116]:Lu) { s with nx:=bi,er:=bj,zC:=a,yC:=b } (fun bk bl=>Bw N { s with nx:=bk,er:=bl,zC:=a,yC:=b } (fun l bm bn=>cond ((beq (l.length) 2)&&((ble 7 ((setCells [(.str h),(.int .i64 i),(.int .i64 j),(.int .i64 0),(.int .i64 0),(.int .i64 0),(.int .i64 0),(.int .i64 0),(.int .i64 0),(.int .i64 0),(.int .i64 0),.nsl] 3 d).length))&&(!false))) (Bw N { s with nx:=bm,er:=bn,zC:=a,yC:=b } (fun n bo bp=>cond ((beq (n.length) 2)&&((ble 9 ((setCells (setCells [(.str h),(.int .i64 i),(.int .i64 j),(.int .i64 0),(.int .i64 0),(.int .i64 0),(.int .i64 0),(.int .i64 0),(.int .i64 0),(.int .i64 0),(.int .i64 0),.nsl] 3 d) 5 l).length))&&(!false))) (Aj N ([108,105,109,105,116]:Lu) { s with nx:=bo,er:=bp,zC:=a,yC:=b } (fun bq br=>A4 N { s with nx:=bq,er:=br,zC:=a,yC:=b } (fun r bs bt=>cond ((beq 1 1)&&((ble 10 ((setCells (setCells (setCells [(.str h),(.int .i64 i),(.int .i64 j),(.int .i64 0),(.int .i64 0),(.int .i64 0),(.int .i64 0),(.int .i64 0),(.int .i64 0),(.int .i64 0),(.int .i64 0),.nsl] 3 d) 5 l) 7 n).length))&&(!false))) (A4 N { s with nx:=bs,er:=bt,zC:=a,yC:=b } (fun u bu bv=>cond ((beq 1 1)&&((ble 11 (((setCells (setCells (setCells [(.str h),(.int .i64 i),(.int .i64 j),(.int .i64 0),(.int .i64 0),(.int .i64 0),(.int .i64 0),(.int .i64 0),(.int .i64 0),(.int .i64 0),(.int .i64 0),.nsl] 3 d) 5 l) 7 n).set 9 (.int .i64 r)).length))&&(!false))) (Aj N ([97,119,97,121]:Lu) { s with nx:=bu,er:=bv,zC:=a,yC:=b } (fun bw bx=>I0 N ([]:Lu) { s with nx:=bw,er:=bx,zC:=a,yC:=b } (fun p bz ca w=>cond ((beq 1 1)&&((ble 12 ((((setCells (setCells (setCells [(.str h),(.int .i64 i),(.int .i64 j),(.int .i64 0),(.int .i64 0),(.int .i64 0),(.int .i64 0),(.int .i64 0),(.int .i64 0),(.int .i64 0),(.int .i64 0),.nsl] 3 d) 5 l) 7 n).set 9 (.int .i64 r)).set 10 (.int .i64 u)).length))&&(!false))) (cond (ble 12 (((((setCells (setCells (setCells [(.str h),(.int .i64 i),(.int .i64 j),(.int .i64 0),(.int .i64 0),(.int .i64 0),(.int .i64 0),(.int .i64 0),(.int .i64 0),(.int .i64 0),(.int .i64 0),.nsl] 3 d) 5 l) 7 n).set 9 (.int .i64 r)).set 10 (.int .i64 u)).set 11 (.imm (w.take (p*1)) p 1 false false)).length)) (cond ((beq ((((((setCells (setCells (setCells [(.str h),(.int .i64 i),(.int .i64 j),(.int .i64 0),(.int .i64 0),(.int .i64 0),(.int .i64 0),(.int .i64 0),(.int .i64 0),(.int .i64 0),(.int .i64 0),.nsl] 3 d) 5 l) 7 n).set 9 (.int .i64 r)).set 10 (.int .i64 u)).set 11 (.imm (w.take (p*1)) p 1 false false)).take 12).length) 12)&&(ble 12 12)) (cond ((ble (s.nL+1) 140737488355328)&&(ble ((s.nL+1)*120) 140737488355328)) (r0 bz ca (s.nL+1) a ((s.cL.take (s.nL*12))++((setCells [(.str ([]:Lu)),(.int .i64 0),(.int .i64 0),(.int .i64 0),(.int .i64 0),(.int .i64 0),(.int .i64 0),(.int .i64 0),(.int .i64 0),(.int .i64 0),(.int .i64 0),.nsl] 0 (((((setCells (setCells (setCells [(.str h),(.int .i64 i),(.int .i64 j),(.int .i64 0),(.int .i64 0),(.int .i64 0),(.int .i64 0),(.int .i64 0),(.int .i64 0),(.int .i64 0),(.int .i64 0),.nsl] 3 d) 5 l) 7 n).set 9 (.int .i64 r)).set 10 (.int .i64 u)).set 11 (.imm (w.take (p*1)) p 1 false false)).take 12)).take 12)) b) none) none) none) none))) none)) none))) none)) none))) none)))))
def Wa:=(Ac (@BZ R)).1
theorem HG:@Wa R=@BZ R:=(Ac _).2
def j3 (s:RB) (F:KF R):Int→Int→Nat→Nat→LA→LA→O R:=(fun cb cc cd ce cf cg=>F (.tup []) [(100000,(bN 0 [(.own 300000 0 s.nw),(iv cb),(iv cc),(iv s.th),(.own 300001 0 s.nR),(.own 300002 0 s.nB),(.own 300003 0 cd),(.own 300004 0 s.nU),(.own 300005 0 s.nS),(.own 300006 0 s.nT),(.own 300007 0 s.nO),(.bool s.bg),(.own 300008 0 s.zA),(.own 300009 0 s.zB),(.own 300010 0 ce),(.own 300011 0 s.zD),(.own 300012 0 s.zE),(.own 300013 0 s.zF),(.own 300014 0 s.zG)])),(300000,(bQ 1 s.cw)),(300001,(bQ 1 s.cR)),(300002,(bQ 3 s.cB)),(300003,(bQ 12 cf)),(300004,(bQ 22 s.cU)),(300005,(bQ 9 s.cS)),(300006,(bQ 5 s.cT)),(300007,(bQ 4 s.cO)),(300008,(bQ 1 s.yA)),(300009,(bQ 1 s.yB)),(300010,(bQ 1 cg)),(300011,(bQ 1 s.yD)),(300012,(bQ 1 s.yE)),(300013,(bQ 1 s.yF)),(300014,(bQ 1 s.yG))])
def lp:=Cp N 63 [cI N,Pn N,Gi N,C' N,Mh N,NT N] Ai2 (PI fun
 | [(.optr 100000 0)],s=>some fun _ k=>Wa N s (j3 s k)
 | _,_=>none) (TX fun _ s=>by split;intro R F;dsimp only;rw[HG];kernel_rfl;trivial)
def Ub (s:RB) (r0:Int→Int→O R) (r1:Lu→Int→Int→Nat→LA→O R):O R :=
 (Bt N s fun c d a b=>cond (!d) (r0 a b) (Lv N c fun e=>cond (!e) (Am N 9 { s with nx:=a,er:=b } (fun f=>r0 a f)) (Ar N (s.yD.take (s.zD*1)) s.zD false true c fun g=>cond g (Am N 10 { s with nx:=a,er:=b } (fun h=>r0 a h)) (KC N 3 fun i=>cond (decide ((s.zD:Int)≥i)) (Am N 8 { s with nx:=a,er:=b } (fun j=>r0 a j)) (cond ((ble (s.zD+1) 140737488355328)&&(ble ((s.zD+1)*16) 140737488355328)) (r1 c a b (s.zD+1) ((s.yD.take (s.zD*1))++[(.str c)])) none)))))
def Pp:=(Ac (@Ub R)).1
theorem W8:@Pp R=@Ub R:=(Ac _).2
def XY (s:RB) (F:KF R):Lu→Int→Int→Nat→LA→O R:=(fun l m n o p=>F (.str l) [(100000,(bN 0 [(.own 300000 0 s.nw),(iv m),(iv n),(iv s.th),(.own 300001 0 s.nR),(.own 300002 0 s.nB),(.own 300003 0 s.nL),(.own 300004 0 s.nU),(.own 300005 0 s.nS),(.own 300006 0 s.nT),(.own 300007 0 s.nO),(.bool s.bg),(.own 300008 0 s.zA),(.own 300009 0 s.zB),(.own 300010 0 s.zC),(.own 300014 0 o),(.own 300011 0 s.zE),(.own 300012 0 s.zF),(.own 300013 0 s.zG)])),(300000,(bQ 1 s.cw)),(300001,(bQ 1 s.cR)),(300002,(bQ 3 s.cB)),(300003,(bQ 12 s.cL)),(300004,(bQ 22 s.cU)),(300005,(bQ 9 s.cS)),(300006,(bQ 5 s.cT)),(300007,(bQ 4 s.cO)),(300008,(bQ 1 s.yA)),(300009,(bQ 1 s.yB)),(300010,(bQ 1 s.yC)),(300011,(bQ 1 s.yE)),(300012,(bQ 1 s.yF)),(300013,(bQ 1 s.yG)),(300014,(bQ 1 p))])
def cJ:=Cp N 108 [Bu N,EL N,Bl N,Br N,EM N] r_ (PI fun
 | [(.optr 100000 0),(.int .i64 3)],s=>some fun _ k=>Pp N s (An1 s k) (XY s k)
 | _,_=>none) (TX fun _ s=>by split;intro R F;dsimp only;rw[W8];kernel_rfl;trivial)
def HH (s:RB) (r0:Int→Int→Int→O R):O R :=
 (C4 N [(.int .i64 0),(.int .i64 (-1)),(.int .i64 1),(.int .i64 0)] false s fun a b c=>r0 a b c)
def Zw:=(Ac (@HH R)).1
theorem KH:@Zw R=@HH R:=(Ac _).2
def qR:=Cp N 114 [Gj N] Ca (PI fun
 | [(.optr 100000 0)],s=>some fun _ k=>Zw N s (a_ s k)
 | _,_=>none) (TX fun _ s=>by split;intro R F;dsimp only;rw[KH];kernel_rfl;trivial)
def HI (s:RB) (r0:Int→Int→Int→O R):O R :=
 (C4 N [(.int .i64 0),(.int .i64 1),(.int .i64 0),(.int .i64 0)] false s fun a b c=>r0 a b c)
def Ic:=(Ac (@HI R)).1
theorem KI:@Ic R=@HI R:=(Ac _).2
def qS:=Cp N 115 [Gj N] Ca (PI fun
 | [(.optr 100000 0)],s=>some fun _ k=>Ic N s (a_ s k)
 | _,_=>none) (TX fun _ s=>by split;intro R F;dsimp only;rw[KI];kernel_rfl;trivial)
def B_ (s:RB) (r0:Int→Int→Int→O R):O R :=
 (C4 N [(.int .i64 0),(.int .i64 0),(.int .i64 1),(.int .i64 0)] false s fun a b c=>r0 a b c)
def Qs:=(Ac (@B_ R)).1
theorem HJ:@Qs R=@B_ R:=(Ac _).2
def lq:=Cp N 116 [Gj N] Ca (PI fun
 | [(.optr 100000 0)],s=>some fun _ k=>Qs N s (a_ s k)
 | _,_=>none) (TX fun _ s=>by split;intro R F;dsimp only;rw[HJ];kernel_rfl;trivial)
def Yn (s:RB) (r0:Int→Int→Int→O R):O R :=
 (Bt N s fun c e a b=>cond (c==([111,102,102]:Lu)) (r0 0 a b) (cond (c==([115,116,97,114,116,105,110,103]:Lu)) (r0 1 a b) (cond (c==([111,110]:Lu)) (r0 2 a b) (Am N 2 { s with nx:=a,er:=b } (fun d=>r0 0 a d)))))
def Tr:=(Ac (@Yn R)).1
theorem DA:@Tr R=@Yn R:=(Ac _).2
def j4:=Cp N 117 [Bu N,Bl N] Ca (PI fun
 | [(.optr 100000 0)],s=>some fun _ k=>Tr N s (a_ s k)
 | _,_=>none) (TX fun _ s=>by split;intro R F;dsimp only;rw[DA];kernel_rfl;trivial)
def Nu (r0:Int→Int→Nat→Nat→LA→LA→O R) (s:RB) (k0:Int→Int→Nat→Lu→Int→Int→Int→Nat→LA→LA→O R) (g h:Int) (a:Nat) (i:Lu) (j l m:Int) (c:Nat) (b o:LA):O R :=
 (Gk N ([110,111,108,111,97,100]:Lu) { s with nx:=g,er:=h,zD:=a,yD:=b } (fun q=>cond q (A4 N { s with nx:=g,er:=h,zD:=a,yD:=b } (fun r t u=>Ha N { s with nx:=t,er:=u,zD:=a,yD:=b } (fun v w x=>cond ((ble (c+1) 140737488355328)&&(ble ((c+1)*16) 140737488355328)) (k0 w x a i j l m (c+1) b ((o.take (c*2))++[(.int .i64 r),(.int .i64 v)])) none))) (Aj N ([110,111,108,111,97,100]:Lu) { s with nx:=g,er:=h,zD:=a,yD:=b } (fun y z=>Zw N { s with nx:=y,er:=z,zD:=a,yD:=b } (fun aa ab ac=>Aj N ([114,97,109,112]:Lu) { s with nx:=ab,er:=ac,zD:=a,yD:=b } (fun ad ae=>A4 N { s with nx:=ad,er:=ae,zD:=a,yD:=b } (fun af ag ah=>A4 N { s with nx:=ag,er:=ah,zD:=a,yD:=b } (fun ai aj ak=>Aj N ([115,116,97,114,116]:Lu) { s with nx:=aj,er:=ak,zD:=a,yD:=b } (fun al am=>A4 N { s with nx:=al,er:=am,zD:=a,yD:=b } (fun an ao ap=>Aj N ([115,116,111,112]:Lu) { s with nx:=ao,er:=ap,zD:=a,yD:=b } (fun aq ar=>A4 N { s with nx:=aq,er:=ar,zD:=a,yD:=b } (fun au av aw=>Aj N ([116,105,109,101,115]:Lu) { s with nx:=av,er:=aw,zD:=a,yD:=b } (fun ax ay=>Ic N { s with nx:=ax,er:=ay,zD:=a,yD:=b } (fun az ba bb=>Ic N { s with nx:=ba,er:=bb,zD:=a,yD:=b } (fun bc bd be=>Ic N { s with nx:=bd,er:=be,zD:=a,yD:=b } (fun bf bh bi=>Aj N ([99,111,115,116]:Lu) { s with nx:=bh,er:=bi,zD:=a,yD:=b } (fun bj bk=>Qs N { s with nx:=bj,er:=bk,zD:=a,yD:=b } (fun bl bm bn=>Qs N { s with nx:=bm,er:=bn,zD:=a,yD:=b } (fun bo bp bq=>Ic N { s with nx:=bp,er:=bq,zD:=a,yD:=b } (fun br bs bt=>Aj N ([114,101,115,101,114,118,101]:Lu) { s with nx:=bs,er:=bt,zD:=a,yD:=b } (fun bu bv=>A4 N { s with nx:=bu,er:=bv,zD:=a,yD:=b } (fun bw bx bz=>Ha N { s with nx:=bx,er:=bz,zD:=a,yD:=b } (fun ca cb cc=>Aj N ([97,119,97,121]:Lu) { s with nx:=cb,er:=cc,zD:=a,yD:=b } (fun cd ce=>I0 N ([115,116,97,116,101]:Lu) { s with nx:=cd,er:=ce,zD:=a,yD:=b } (fun p cf cg ch=>Aj N ([115,116,97,116,101]:Lu) { s with nx:=cf,er:=cg,zD:=a,yD:=b } (fun ci cj=>Tr N { s with nx:=ci,er:=cj,zD:=a,yD:=b } (fun ck cl cm=>Ic N { s with nx:=cl,er:=cm,zD:=a,yD:=b } (fun cn co cp=>A4 N { s with nx:=co,er:=cp,zD:=a,yD:=b } (fun cq cr cs=>cond ((ble (s.nU+1) 140737488355328)&&(ble ((s.nU+1)*216) 140737488355328)) (r0 cr cs (s.nU+1) a ((s.cU.take (s.nU*22))++[(.str i),(.int .i64 j),(.int .i64 l),(.int .i64 m),(.imm (o.take (c*2)) c 2 false false),(.int .i64 aa),(.int .i64 af),(.int .i64 ai),(.int .i64 an),(.int .i64 au),(.int .i64 az),(.int .i64 bc),(.int .i64 bf),(.int .i64 bl),(.int .i64 bo),(.int .i64 br),(.int .i64 bw),(.int .i64 ca),(.imm (ch.take (p*1)) p 1 false false),(.int .i64 ck),(.int .i64 cn),(.int .i64 cq)]) b) none)))))))))))))))))))))))))))))
def D0 (r0:Int→Int→Nat→Nat→LA→LA→O R) (s:RB):Nat→Int→Int→Nat→Lu→Int→Int→Int→Nat→LA→LA→O R
 | 0=>fun _ _ _ _ _ _ _ _ _ _=>none
 | n+1=>Nu N r0 s (D0 r0 s n)
def Ts (r0:Int→Int→Nat→Nat→LA→LA→O R) (q0:Int→Int→Nat→Lu→Int→Int→Int→Nat→LA→LA→O R) (s:RB):O R :=
 (Pp N s (fun ct cu=>B7 N { s with nx:=ct,er:=cu } (fun cv cx cy=>Aj N ([109,105,110]:Lu) { s with nx:=cx,er:=cy } (fun cz da=>A4 N { s with nx:=cz,er:=da } (fun db dc dd=>Aj N ([109,97,120]:Lu) { s with nx:=dc,er:=dd } (fun de df=>A4 N { s with nx:=de,er:=df } (fun dg dh di=>Aj N ([115,101,103,109,101,110,116,115]:Lu) { s with nx:=dh,er:=di } (fun dj dk=>q0 dj dk s.zD ([]:Lu) cv db dg 0 s.yD []))))))) fun dl dm dn d f=>B7 N { s with nx:=dm,er:=dn,zD:=d,yD:=f } (fun dp dq dr=>Aj N ([109,105,110]:Lu) { s with nx:=dq,er:=dr,zD:=d,yD:=f } (fun ds dt=>A4 N { s with nx:=ds,er:=dt,zD:=d,yD:=f } (fun du dv dw=>Aj N ([109,97,120]:Lu) { s with nx:=dv,er:=dw,zD:=d,yD:=f } (fun dx dy=>A4 N { s with nx:=dx,er:=dy,zD:=d,yD:=f } (fun dz ea eb=>Aj N ([115,101,103,109,101,110,116,115]:Lu) { s with nx:=ea,er:=eb,zD:=d,yD:=f } (fun ec ed=>q0 ec ed d dl dp du dz 0 f [])))))))
def Qt:=(Ac fun N s r0=>Ts (R:=R) N r0 (D0 N r0 s N) s).1
theorem HK (s r0):(@Qt R N s r0)=(Ts N r0 (D0 N r0 s N) s):=by rw[Qt,(Ac _).2]
def KJ:Hints:={ H:=(hK 8 (hS (hS (hP [0,2] hL) hL) hL)),free:=[100001,100002,100003,100004,100005,100006,100007,100008,100009,100010,100011,100012,100013,100014,100015,100016,100017],cob:=[1000002] }
def NU:Wp:=[cJ N,Pn N,Gi N,Mh N,Ua N,Yl N,qR N,qS N,lq N,NT N,j4 N]
def j5 (F:KF R):=Mw Tryz.f64 KJ (NU N) [100000,100001,100002,100003,100004,100005,100006,100007,100008,100009,100010,100011,100012,100013,100014,100015] N F
def Pq (s:RB) (F:KF R):Int→Int→Nat→Nat→LA→LA→O R:=(fun ee ef eg eh ei ej=>F (.tup []) [(100000,(bN 0 [(.own 300000 0 s.nw),(iv ee),(iv ef),(iv s.th),(.own 300001 0 s.nR),(.own 300002 0 s.nB),(.own 300003 0 s.nL),(.own 300004 0 eg),(.own 300005 0 s.nS),(.own 300006 0 s.nT),(.own 300007 0 s.nO),(.bool s.bg),(.own 300008 0 s.zA),(.own 300009 0 s.zB),(.own 300010 0 s.zC),(.own 300011 0 eh),(.own 300012 0 s.zE),(.own 300013 0 s.zF),(.own 300014 0 s.zG)])),(300000,(bQ 1 s.cw)),(300001,(bQ 1 s.cR)),(300002,(bQ 3 s.cB)),(300003,(bQ 12 s.cL)),(300004,(bQ 22 ei)),(300005,(bQ 9 s.cS)),(300006,(bQ 5 s.cT)),(300007,(bQ 4 s.cO)),(300008,(bQ 1 s.yA)),(300009,(bQ 1 s.yB)),(300010,(bQ 1 s.yC)),(300011,(bQ 1 ej)),(300012,(bQ 1 s.yE)),(300013,(bQ 1 s.yF)),(300014,(bQ 1 s.yG))])
def j6 (s:RB) (K:St→O R):=fun g h a i j l m c b o=>K ⟨[(0,(.optr 100000 0)),(2,(op 0))],[(100000,(bN 0 [(.own 300001 0 s.nw),(iv g),(iv h),(iv s.th),(.own 300002 0 s.nR),(.own 300003 0 s.nB),(.own 300004 0 s.nL),(.own 300005 0 s.nU),(.own 300006 0 s.nS),(.own 300007 0 s.nT),(.own 300008 0 s.nO),(.bool s.bg),(.own 300009 0 s.zA),(.own 300010 0 s.zB),(.own 300011 0 s.zC),(.own 300012 0 a),(.own 300013 0 s.zE),(.own 300014 0 s.zF),(.own 300015 0 s.zG)])),(300000,(bN 0 [(.str i),(iv j),(iv l),(iv m),(.own 300016 0 c),(iv 0),(iv 0),(iv 0),(iv 0),(iv 0),(iv 0),(iv 0),(iv 0),(iv 0),(iv 0),(iv 0),(iv 0),(iv 0),(.own 300017 0 0),(iv 0),(iv 0),(iv 0)])),(300001,(bQ 1 s.cw)),(300002,(bQ 1 s.cR)),(300003,(bQ 3 s.cB)),(300004,(bQ 12 s.cL)),(300005,(bQ 22 s.cU)),(300006,(bQ 9 s.cS)),(300007,(bQ 5 s.cT)),(300008,(bQ 4 s.cO)),(300009,(bQ 1 s.yA)),(300010,(bQ 1 s.yB)),(300011,(bQ 1 s.yC)),(300012,(bQ 1 b)),(300013,(bQ 1 s.yE)),(300014,(bQ 1 s.yF)),(300015,(bQ 1 s.yG)),(300016,(bQ 2 o)),(300017,(bQ 1 []))]⟩
theorem XZ (F:KF R) (s):∀ n,j6 s (Ap (j5 N F (pz 1398096) []) n)=(D0 N (Pq s F) s n):=Fs fun n e=>(Cs (Nu N (Pq s F) s) e:_)
def lw:=Cp N 64 (NU N) KJ (PI fun
 | [(.optr 100000 0)],s=>some fun _ k=>Qt N s (Pq s k)
 | _,_=>none) (TX fun _ s=>by split;intro R F;exact(Cs (Ts N (Pq s F) · s) ((lW ..).trans (XZ ..)):_).trans (HK ..).symm;trivial)
def Uc (s:RB) (r0:Int→Int→O R) (r1:Lu→Int→Int→Nat→LA→O R):O R :=
 (Bt N s fun c d a b=>cond (!d) (r0 a b) (Lv N c fun e=>cond (!e) (Am N 9 { s with nx:=a,er:=b } (fun f=>r0 a f)) (Ar N (s.yE.take (s.zE*1)) s.zE false true c fun g=>cond g (Am N 10 { s with nx:=a,er:=b } (fun h=>r0 a h)) (KC N 4 fun i=>cond (decide ((s.zE:Int)≥i)) (Am N 8 { s with nx:=a,er:=b } (fun j=>r0 a j)) (cond ((ble (s.zE+1) 140737488355328)&&(ble ((s.zE+1)*16) 140737488355328)) (r1 c a b (s.zE+1) ((s.yE.take (s.zE*1))++[(.str c)])) none)))))
def Pr:=(Ac (@Uc R)).1
theorem W9:@Pr R=@Uc R:=(Ac _).2
def X_ (s:RB) (F:KF R):Lu→Int→Int→Nat→LA→O R:=(fun l m n o p=>F (.str l) [(100000,(bN 0 [(.own 300000 0 s.nw),(iv m),(iv n),(iv s.th),(.own 300001 0 s.nR),(.own 300002 0 s.nB),(.own 300003 0 s.nL),(.own 300004 0 s.nU),(.own 300005 0 s.nS),(.own 300006 0 s.nT),(.own 300007 0 s.nO),(.bool s.bg),(.own 300008 0 s.zA),(.own 300009 0 s.zB),(.own 300010 0 s.zC),(.own 300011 0 s.zD),(.own 300014 0 o),(.own 300012 0 s.zF),(.own 300013 0 s.zG)])),(300000,(bQ 1 s.cw)),(300001,(bQ 1 s.cR)),(300002,(bQ 3 s.cB)),(300003,(bQ 12 s.cL)),(300004,(bQ 22 s.cU)),(300005,(bQ 9 s.cS)),(300006,(bQ 5 s.cT)),(300007,(bQ 4 s.cO)),(300008,(bQ 1 s.yA)),(300009,(bQ 1 s.yB)),(300010,(bQ 1 s.yC)),(300011,(bQ 1 s.yD)),(300012,(bQ 1 s.yF)),(300013,(bQ 1 s.yG)),(300014,(bQ 1 p))])
def cK:=Cp N 108 [Bu N,EL N,Bl N,Br N,EM N] r_ (PI fun
 | [(.optr 100000 0),(.int .i64 4)],s=>some fun _ k=>Pr N s (An1 s k) (X_ s k)
 | _,_=>none) (TX fun _ s=>by split;intro R F;dsimp only;rw[W9];kernel_rfl;trivial)
def Yo (s:RB) (r0:Int→Int→Int→O R):O R :=
 (C4 N [(.int .i64 1),(.int .i64 1),(.int .i64 0),(.int .i64 0)] false s fun a b c=>r0 a b c)
def Eg:=(Ac (@Yo R)).1
theorem DB:@Eg R=@Yo R:=(Ac _).2
def j7:=Cp N 118 [Gj N] Ca (PI fun
 | [(.optr 100000 0)],s=>some fun _ k=>Eg N s (a_ s k)
 | _,_=>none) (TX fun _ s=>by split;intro R F;dsimp only;rw[DB];kernel_rfl;trivial)
def Yp (s:RB) (r0:Int→Int→Nat→Nat→LA→LA→O R):O R :=
 (Pr N s (fun t u=>B7 N { s with nx:=t,er:=u } (fun e v w=>Aj N ([99,97,112,97,99,105,116,121]:Lu) { s with nx:=v,er:=w } (fun x y=>Eg N { s with nx:=x,er:=y } (fun f z aa=>Aj N ([108,101,118,101,108]:Lu) { s with nx:=z,er:=aa } (fun ab ac=>Eg N { s with nx:=ab,er:=ac } (fun g ad ae=>Eg N { s with nx:=ad,er:=ae } (fun h af ag=>Aj N ([114,97,116,101]:Lu) { s with nx:=af,er:=ag } (fun ah ai=>A4 N { s with nx:=ah,er:=ai } (fun i aj ak=>A4 N { s with nx:=aj,er:=ak } (fun j al am=>Aj N ([101,102,102,105,99,105,101,110,99,121]:Lu) { s with nx:=al,er:=am } (fun an ao=>Bw N { s with nx:=an,er:=ao } (fun c ap aq=>cond ((beq (c.length) 2)&&((ble 9 9)&&(!false))) (cond (ble 9 ((setCells [(.str ([]:Lu)),(.int .i64 e),(.int .i64 f),(.int .i64 g),(.int .i64 h),(.int .i64 i),(.int .i64 j),(.int .i64 0),(.int .i64 0)] 7 c).length)) (cond ((beq (((setCells [(.str ([]:Lu)),(.int .i64 e),(.int .i64 f),(.int .i64 g),(.int .i64 h),(.int .i64 i),(.int .i64 j),(.int .i64 0),(.int .i64 0)] 7 c).take 9).length) 9)&&(ble 9 9)) (cond ((ble (s.nS+1) 140737488355328)&&(ble ((s.nS+1)*80) 140737488355328)) (r0 ap aq (s.nS+1) s.zE ((s.cS.take (s.nS*9))++((setCells [(.str ([]:Lu)),(.int .i64 0),(.int .i64 0),(.int .i64 0),(.int .i64 0),(.int .i64 0),(.int .i64 0),(.int .i64 0),(.int .i64 0)] 0 ((setCells [(.str ([]:Lu)),(.int .i64 e),(.int .i64 f),(.int .i64 g),(.int .i64 h),(.int .i64 i),(.int .i64 j),(.int .i64 0),(.int .i64 0)] 7 c).take 9)).take 9)) s.yE) none) none) none) none)))))))))))) fun l ar au a b=>B7 N { s with nx:=ar,er:=au,zE:=a,yE:=b } (fun m av aw=>Aj N ([99,97,112,97,99,105,116,121]:Lu) { s with nx:=av,er:=aw,zE:=a,yE:=b } (fun ax ay=>Eg N { s with nx:=ax,er:=ay,zE:=a,yE:=b } (fun n az ba=>Aj N ([108,101,118,101,108]:Lu) { s with nx:=az,er:=ba,zE:=a,yE:=b } (fun bb bc=>Eg N { s with nx:=bb,er:=bc,zE:=a,yE:=b } (fun o bd be=>Eg N { s with nx:=bd,er:=be,zE:=a,yE:=b } (fun p bf bh=>Aj N ([114,97,116,101]:Lu) { s with nx:=bf,er:=bh,zE:=a,yE:=b } (fun bi bj=>A4 N { s with nx:=bi,er:=bj,zE:=a,yE:=b } (fun q bk bl=>A4 N { s with nx:=bk,er:=bl,zE:=a,yE:=b } (fun r bm bn=>Aj N ([101,102,102,105,99,105,101,110,99,121]:Lu) { s with nx:=bm,er:=bn,zE:=a,yE:=b } (fun bo bp=>Bw N { s with nx:=bo,er:=bp,zE:=a,yE:=b } (fun d bq br=>cond ((beq (d.length) 2)&&((ble 9 9)&&(!false))) (cond (ble 9 ((setCells [(.str l),(.int .i64 m),(.int .i64 n),(.int .i64 o),(.int .i64 p),(.int .i64 q),(.int .i64 r),(.int .i64 0),(.int .i64 0)] 7 d).length)) (cond ((beq (((setCells [(.str l),(.int .i64 m),(.int .i64 n),(.int .i64 o),(.int .i64 p),(.int .i64 q),(.int .i64 r),(.int .i64 0),(.int .i64 0)] 7 d).take 9).length) 9)&&(ble 9 9)) (cond ((ble (s.nS+1) 140737488355328)&&(ble ((s.nS+1)*80) 140737488355328)) (r0 bq br (s.nS+1) a ((s.cS.take (s.nS*9))++((setCells [(.str ([]:Lu)),(.int .i64 0),(.int .i64 0),(.int .i64 0),(.int .i64 0),(.int .i64 0),(.int .i64 0),(.int .i64 0),(.int .i64 0)] 0 ((setCells [(.str l),(.int .i64 m),(.int .i64 n),(.int .i64 o),(.int .i64 p),(.int .i64 q),(.int .i64 r),(.int .i64 0),(.int .i64 0)] 7 d).take 9)).take 9)) b) none) none) none) none))))))))))))
def Tt:=(Ac (@Yp R)).1
theorem DC:@Tt R=@Yp R:=(Ac _).2
def fc (s:RB) (F:KF R):Int→Int→Nat→Nat→LA→LA→O R:=(fun bs bt bu bv bw bx=>F (.tup []) [(100000,(bN 0 [(.own 300000 0 s.nw),(iv bs),(iv bt),(iv s.th),(.own 300001 0 s.nR),(.own 300002 0 s.nB),(.own 300003 0 s.nL),(.own 300004 0 s.nU),(.own 300005 0 bu),(.own 300006 0 s.nT),(.own 300007 0 s.nO),(.bool s.bg),(.own 300008 0 s.zA),(.own 300009 0 s.zB),(.own 300010 0 s.zC),(.own 300011 0 s.zD),(.own 300012 0 bv),(.own 300013 0 s.zF),(.own 300014 0 s.zG)])),(300000,(bQ 1 s.cw)),(300001,(bQ 1 s.cR)),(300002,(bQ 3 s.cB)),(300003,(bQ 12 s.cL)),(300004,(bQ 22 s.cU)),(300005,(bQ 9 bw)),(300006,(bQ 5 s.cT)),(300007,(bQ 4 s.cO)),(300008,(bQ 1 s.yA)),(300009,(bQ 1 s.yB)),(300010,(bQ 1 s.yC)),(300011,(bQ 1 s.yD)),(300012,(bQ 1 bx)),(300013,(bQ 1 s.yF)),(300014,(bQ 1 s.yG))])
def j8:=Cp N 65 [cK N,Pn N,Gi N,j7 N,Mh N,C' N] Ai2 (PI fun
 | [(.optr 100000 0)],s=>some fun _ k=>Tt N s (fc s k)
 | _,_=>none) (TX fun _ s=>by split;intro R F;dsimp only;rw[DC];kernel_rfl;trivial)
def Ud (s:RB) (r0:Int→Int→O R) (r1:Lu→Int→Int→Nat→LA→O R):O R :=
 (Bt N s fun c d a b=>cond (!d) (r0 a b) (Lv N c fun e=>cond (!e) (Am N 9 { s with nx:=a,er:=b } (fun f=>r0 a f)) (Ar N (s.yF.take (s.zF*1)) s.zF false true c fun g=>cond g (Am N 10 { s with nx:=a,er:=b } (fun h=>r0 a h)) (KC N 5 fun i=>cond (decide ((s.zF:Int)≥i)) (Am N 8 { s with nx:=a,er:=b } (fun j=>r0 a j)) (cond ((ble (s.zF+1) 140737488355328)&&(ble ((s.zF+1)*16) 140737488355328)) (r1 c a b (s.zF+1) ((s.yF.take (s.zF*1))++[(.str c)])) none)))))
def Ps:=(Ac (@Ud R)).1
theorem Xa:@Ps R=@Ud R:=(Ac _).2
def X' (s:RB) (F:KF R):Lu→Int→Int→Nat→LA→O R:=(fun l m n o p=>F (.str l) [(100000,(bN 0 [(.own 300000 0 s.nw),(iv m),(iv n),(iv s.th),(.own 300001 0 s.nR),(.own 300002 0 s.nB),(.own 300003 0 s.nL),(.own 300004 0 s.nU),(.own 300005 0 s.nS),(.own 300006 0 s.nT),(.own 300007 0 s.nO),(.bool s.bg),(.own 300008 0 s.zA),(.own 300009 0 s.zB),(.own 300010 0 s.zC),(.own 300011 0 s.zD),(.own 300012 0 s.zE),(.own 300014 0 o),(.own 300013 0 s.zG)])),(300000,(bQ 1 s.cw)),(300001,(bQ 1 s.cR)),(300002,(bQ 3 s.cB)),(300003,(bQ 12 s.cL)),(300004,(bQ 22 s.cU)),(300005,(bQ 9 s.cS)),(300006,(bQ 5 s.cT)),(300007,(bQ 4 s.cO)),(300008,(bQ 1 s.yA)),(300009,(bQ 1 s.yB)),(300010,(bQ 1 s.yC)),(300011,(bQ 1 s.yD)),(300012,(bQ 1 s.yE)),(300013,(bQ 1 s.yG)),(300014,(bQ 1 p))])
def cM:=Cp N 108 [Bu N,EL N,Bl N,Br N,EM N] r_ (PI fun
 | [(.optr 100000 0),(.int .i64 5)],s=>some fun _ k=>Ps N s (An1 s k) (X' s k)
 | _,_=>none) (TX fun _ s=>by split;intro R F;dsimp only;rw[Xa];kernel_rfl;trivial)
def Hk (r0:Nat→Int→Int→LA→O R) (s:RB) (k0:Nat→Int→Int→Int→LA→O R) (a:Nat) (b c d:Int) (f:LA):O R :=
 (cond (decide (b<s.th)) (Ha N { s with nx:=c,er:=d } (fun g h i=>cond ((ble (a+1) 140737488355328)&&(ble ((a+1)*8) 140737488355328)) (k0 (a+1) (wrap .i64 (b+1)) h i ((f.take (a*1))++[(.int .i64 g)])) none)) (r0 a c d f))
def B8 (r0:Nat→Int→Int→LA→O R) (s:RB):Nat→Nat→Int→Int→Int→LA→O R
 | 0=>fun _ _ _ _ _=>none
 | n+1=>Hk N r0 s (B8 r0 s n)
def Kj (N:Nat) (r0:Nat→Int→Int→LA→O R) (q0:Nat→Int→Int→Int→LA→O R) (s:RB):O R :=
 (q0 0 0 s.nx s.er [])
def Fq:=(Ac fun N s r0=>Kj (R:=R) N r0 (B8 N r0 s N) s).1
theorem Uq (s r0):(@Fq R N s r0)=(Kj N r0 (B8 N r0 s N) s):=by rw[Fq,(Ac _).2]
def Wb:Hints:={ H:=(hK 2 (hS (hK 1 (hS (hP [1,5,10,11] hL) hL)) hL)),nils:=[(4,1),(5,1)],modes:=[(2,1)] }
def Xb:Wp:=[Yl N]
def RR (F:KF R):=Mw Tryz.f60 Wb (Xb N) [100000,100001,100002,100003,100004,100005,100006,100007,100008,100009,100010,100011,100012,100013,100014,100015] N F
def RS (s:RB) (K:St→O R):=fun a b c d f=>K ⟨[(1,(.fn 1000109 [(.optr 100000 0)])),(5,(.own 300000 0 a)),(10,(iv s.th)),(11,(iv b))],[(100000,(bN 0 [(.own 100001 0 s.nw),(iv c),(iv d),(iv s.th),(.own 100002 0 s.nR),(.own 100003 0 s.nB),(.own 100004 0 s.nL),(.own 100005 0 s.nU),(.own 100006 0 s.nS),(.own 100007 0 s.nT),(.own 100008 0 s.nO),(.bool s.bg),(.own 100009 0 s.zA),(.own 100010 0 s.zB),(.own 100011 0 s.zC),(.own 100012 0 s.zD),(.own 100013 0 s.zE),(.own 100014 0 s.zF),(.own 100015 0 s.zG)])),(100001,(bQ 1 s.cw)),(100002,(bQ 1 s.cR)),(100003,(bQ 3 s.cB)),(100004,(bQ 12 s.cL)),(100005,(bQ 22 s.cU)),(100006,(bQ 9 s.cS)),(100007,(bQ 5 s.cT)),(100008,(bQ 4 s.cO)),(100009,(bQ 1 s.yA)),(100010,(bQ 1 s.yB)),(100011,(bQ 1 s.yC)),(100012,(bQ 1 s.yD)),(100013,(bQ 1 s.yE)),(100014,(bQ 1 s.yF)),(100015,(bQ 1 s.yG)),(300000,(bQ 1 f))]⟩
theorem H_ (F:KF R) (s):∀ n,RS s (Ap (RR N F (pz 1348) []) n)=(B8 N (SQ s F) s n):=Fs fun n e=>(Cs (Hk N (SQ s F) s) e:_)
def UI:=Cp N 60 (Xb N) Wb (PI fun
 | [(.optr 100000 0),(.fn 1000109 [(.optr 100000 0)])],s=>some fun _ k=>Fq N s (SQ s k)
 | _,_=>none) (TX fun _ s=>by split;intro R F;exact(Cs (Kj N (SQ s F) · s) ((lW ..).trans (H_ ..)):_).trans (Uq ..).symm;trivial)
def HL (s:RB) (r0:Int→Int→Nat→Nat→LA→LA→O R):O R :=
 (Ps N s (fun i j=>B7 N { s with nx:=i,er:=j } (fun l m n=>Aj N ([105,109,112,111,114,116]:Lu) { s with nx:=m,er:=n } (fun o p=>Cm N { s with nx:=o,er:=p } (fun c q r t=>Aj N ([101,120,112,111,114,116]:Lu) { s with nx:=q,er:=r } (fun u v=>Cm N { s with nx:=u,er:=v } (fun d w x y=>Aj N ([112,114,105,99,101]:Lu) { s with nx:=w,er:=x } (fun z aa=>Fq N { s with nx:=z,er:=aa } (fun e ab ac ad=>cond ((ble (s.nT+1) 140737488355328)&&(ble ((s.nT+1)*96) 140737488355328)) (r0 ab ac (s.nT+1) s.zF ((s.cT.take (s.nT*5))++[(.str ([]:Lu)),(.int .i64 l),(.imm (t.take (c*1)) c 1 false false),(.imm (y.take (d*1)) d 1 false false),(.imm (ad.take (e*1)) e 1 false false)]) s.yF) none)))))))) fun ae af ag a b=>B7 N { s with nx:=af,er:=ag,zF:=a,yF:=b } (fun ah ai aj=>Aj N ([105,109,112,111,114,116]:Lu) { s with nx:=ai,er:=aj,zF:=a,yF:=b } (fun ak al=>Cm N { s with nx:=ak,er:=al,zF:=a,yF:=b } (fun f am an ao=>Aj N ([101,120,112,111,114,116]:Lu) { s with nx:=am,er:=an,zF:=a,yF:=b } (fun ap aq=>Cm N { s with nx:=ap,er:=aq,zF:=a,yF:=b } (fun g ar au av=>Aj N ([112,114,105,99,101]:Lu) { s with nx:=ar,er:=au,zF:=a,yF:=b } (fun aw ax=>Fq N { s with nx:=aw,er:=ax,zF:=a,yF:=b } (fun h ay az ba=>cond ((ble (s.nT+1) 140737488355328)&&(ble ((s.nT+1)*96) 140737488355328)) (r0 ay az (s.nT+1) a ((s.cT.take (s.nT*5))++[(.str ae),(.int .i64 ah),(.imm (ao.take (f*1)) f 1 false false),(.imm (av.take (g*1)) g 1 false false),(.imm (ba.take (h*1)) h 1 false false)]) b) none))))))))
def Zx:=(Ac (@HL R)).1
theorem KK:@Zx R=@HL R:=(Ac _).2
def Nv:=Axz (T8 N) (UI N) (Eq.refl 60)
def lx (s:RB) (F:KF R):Int→Int→Nat→Nat→LA→LA→O R:=(fun bb bc bd be bf bh=>F (.tup []) [(100000,(bN 0 [(.own 300000 0 s.nw),(iv bb),(iv bc),(iv s.th),(.own 300001 0 s.nR),(.own 300002 0 s.nB),(.own 300003 0 s.nL),(.own 300004 0 s.nU),(.own 300005 0 s.nS),(.own 300006 0 bd),(.own 300007 0 s.nO),(.bool s.bg),(.own 300008 0 s.zA),(.own 300009 0 s.zB),(.own 300010 0 s.zC),(.own 300011 0 s.zD),(.own 300012 0 s.zE),(.own 300013 0 be),(.own 300014 0 s.zG)])),(300000,(bQ 1 s.cw)),(300001,(bQ 1 s.cR)),(300002,(bQ 3 s.cB)),(300003,(bQ 12 s.cL)),(300004,(bQ 22 s.cU)),(300005,(bQ 9 s.cS)),(300006,(bQ 5 bf)),(300007,(bQ 4 s.cO)),(300008,(bQ 1 s.yA)),(300009,(bQ 1 s.yB)),(300010,(bQ 1 s.yC)),(300011,(bQ 1 s.yD)),(300012,(bQ 1 s.yE)),(300013,(bQ 1 bh)),(300014,(bQ 1 s.yG))])
def qT:=Cp N 66 [cM N,Pn N,Gi N,Nv N] Ai2 (PI fun
 | [(.optr 100000 0)],s=>some fun _ k=>Zx N s (lx s k)
 | _,_=>none) (TX fun _ s=>by split;intro R F;dsimp only;rw[KK];kernel_rfl;trivial)
def Ue (s:RB) (r0:Lu→Int→Int→Nat→LA→O R):O R :=
 (Bt N s fun c d a b=>cond (!d) (r0 ([]:Lu) a b s.zG s.yG) (Lv N c fun e=>cond (!e) (Am N 9 { s with nx:=a,er:=b } (fun f=>r0 ([]:Lu) a f s.zG s.yG)) (Ar N (s.yG.take (s.zG*1)) s.zG false true c fun g=>cond g (Am N 10 { s with nx:=a,er:=b } (fun h=>r0 ([]:Lu) a h s.zG s.yG)) (KC N 6 fun i=>cond (decide ((s.zG:Int)≥i)) (Am N 8 { s with nx:=a,er:=b } (fun j=>r0 ([]:Lu) a j s.zG s.yG)) (cond ((ble (s.zG+1) 140737488355328)&&(ble ((s.zG+1)*16) 140737488355328)) (r0 c a b (s.zG+1) ((s.yG.take (s.zG*1))++[(.str c)])) none)))))
def Pu:=(Ac (@Ue R)).1
theorem Xc:@Pu R=@Ue R:=(Ac _).2
def YA (s:RB) (F:KF R):Lu→Int→Int→Nat→LA→O R:=(fun l m n o p=>F (.str l) [(100000,(bN 0 [(.own 300000 0 s.nw),(iv m),(iv n),(iv s.th),(.own 300001 0 s.nR),(.own 300002 0 s.nB),(.own 300003 0 s.nL),(.own 300004 0 s.nU),(.own 300005 0 s.nS),(.own 300006 0 s.nT),(.own 300007 0 s.nO),(.bool s.bg),(.own 300008 0 s.zA),(.own 300009 0 s.zB),(.own 300010 0 s.zC),(.own 300011 0 s.zD),(.own 300012 0 s.zE),(.own 300013 0 s.zF),(.own 300014 0 o)])),(300000,(bQ 1 s.cw)),(300001,(bQ 1 s.cR)),(300002,(bQ 3 s.cB)),(300003,(bQ 12 s.cL)),(300004,(bQ 22 s.cU)),(300005,(bQ 9 s.cS)),(300006,(bQ 5 s.cT)),(300007,(bQ 4 s.cO)),(300008,(bQ 1 s.yA)),(300009,(bQ 1 s.yB)),(300010,(bQ 1 s.yC)),(300011,(bQ 1 s.yD)),(300012,(bQ 1 s.yE)),(300013,(bQ 1 s.yF)),(300014,(bQ 1 p))])
def cN:=Cp N 108 [Bu N,EL N,Bl N,Br N,EM N] r_ (PI fun
 | [(.optr 100000 0),(.int .i64 6)],s=>some fun _ k=>Pu N s (YA s k)
 | _,_=>none) (TX fun _ s=>by split;intro R F;dsimp only;rw[Xc];kernel_rfl;trivial)
def Se (s:RB) (r0:Int→Int→Int→O R):O R :=
 (Bt N s fun d e a b=>cond (!e) (r0 0 a b) (A5 N (s.yC.take (s.zC*1)) s.zC false true d fun c=>cond (decide (c<0)) (Am N 12 { s with nx:=a,er:=b } (fun f=>r0 0 a f)) (r0 c a b)))
def Nw:=(Ac (@Se R)).1
theorem Wc:@Nw R=@Se R:=(Ac _).2
def YB:=Cp N 110 [Bu N,Dz N,Bl N] Ca (PI fun
 | [(.optr 100000 0),(.int .i64 2)],s=>some fun _ k=>Nw N s (a_ s k)
 | _,_=>none) (TX fun _ s=>by split;intro R F;dsimp only;rw[Wc];kernel_rfl;trivial)
def Sf (s:RB) (r0:Int→Int→Int→O R):O R :=
 (Bt N s fun d e a b=>cond (!e) (r0 0 a b) (A5 N (s.yD.take (s.zD*1)) s.zD false true d fun c=>cond (decide (c<0)) (Am N 12 { s with nx:=a,er:=b } (fun f=>r0 0 a f)) (r0 c a b)))
def Nx:=(Ac (@Sf R)).1
theorem Wd:@Nx R=@Sf R:=(Ac _).2
def YC:=Cp N 110 [Bu N,Dz N,Bl N] Ca (PI fun
 | [(.optr 100000 0),(.int .i64 3)],s=>some fun _ k=>Nx N s (a_ s k)
 | _,_=>none) (TX fun _ s=>by split;intro R F;dsimp only;rw[Wd];kernel_rfl;trivial)
def Kk (r0:Int→Int→Nat→Nat→LA→LA→O R) (s:RB) (a:Nat) (c:Lu) (d:Nat) (g:Bool) (b f:LA) (k2:Int→Int→Nat→LA→O R) (l m:Int) (h:Nat) (q:LA):O R :=
 (Fa N { s with nx:=l,er:=m,zG:=a,yG:=b } (fun r=>cond r (Nx N { s with nx:=l,er:=m,zG:=a,yG:=b } (fun t u v=>A4 N { s with nx:=u,er:=v,zG:=a,yG:=b } (fun w x y=>A4 N { s with nx:=x,er:=y,zG:=a,yG:=b } (fun z aa ab=>cond ((ble (h+1) 140737488355328)&&(ble ((h+1)*24) 140737488355328)) (k2 aa ab (h+1) ((q.take (h*3))++[(.int .i64 t),(.int .i64 w),(.int .i64 z)])) none)))) (cond ((ble (s.nO+1) 140737488355328)&&(ble ((s.nO+1)*72) 140737488355328)) (r0 l m (s.nO+1) a ((s.cO.take (s.nO*4))++[(.str c),(.imm (f.take (d*1)) d 1 false false),(.bool g),(.imm (q.take (h*3)) h 3 false false)]) b) none)))
def Fr (r0:Int→Int→Nat→Nat→LA→LA→O R) (s:RB) (a:Nat) (c:Lu) (d:Nat) (g:Bool) (b f:LA):Nat→Int→Int→Nat→LA→O R
 | 0=>fun _ _ _ _=>none
 | n+1=>Kk N r0 s a c d g b f (Fr r0 s a c d g b f n)
def A_ (N:Nat) (r0:Int→Int→Nat→Nat→LA→LA→O R) (s:RB) (a:Nat) (c:Lu) (d:Nat) (b f:LA) (q2:Bool→Int→Int→Nat→LA→O R) (o p:Int) (g:Bool):O R :=
 (q2 g o p 0 [])
def DD (r0:Int→Int→Nat→Nat→LA→LA→O R) (s:RB) (a:Nat) (c:Lu) (d:Nat) (b f:LA) (o p:Int) (g:Bool):O R:=(A_ N r0 s a c d b f (fun g=>Fr N r0 s a c d g b f N) o p g)
def Kl (r0:Int→Int→Nat→Nat→LA→LA→O R) (s:RB) (a:Nat) (c:Lu) (b:LA) (k0:Int→Int→Nat→LA→O R) (q1:Nat→LA→Int→Int→Bool→O R) (i j:Int) (d:Nat) (f:LA):O R :=
 (Gk N ([99,111,114,114,101,99,116,105,118,101]:Lu) { s with nx:=i,er:=j,zG:=a,yG:=b } (fun ac=>cond ac (Nw N { s with nx:=i,er:=j,zG:=a,yG:=b } (fun ad ae af=>cond ((ble (d+1) 140737488355328)&&(ble ((d+1)*8) 140737488355328)) (k0 ae af (d+1) ((f.take (d*1))++[(.int .i64 ad)])) none)) (Fa N { s with nx:=i,er:=j,zG:=a,yG:=b } (fun ag=>cond ag (Aj N ([99,111,114,114,101,99,116,105,118,101]:Lu) { s with nx:=i,er:=j,zG:=a,yG:=b } (fun ah ai=>q1 d f ah ai true)) (q1 d f i j false)))))
def Dy (r0:Int→Int→Nat→Nat→LA→LA→O R) (s:RB) (a:Nat) (c:Lu) (b:LA):Nat→Int→Int→Nat→LA→O R
 | 0=>fun _ _ _ _=>none
 | n+1=>Kl N r0 s a c b (Dy r0 s a c b n) (fun d f=>DD N r0 s a c d b f)
def Pv (r0:Int→Int→Nat→Nat→LA→LA→O R) (q0:Nat→Lu→LA→Int→Int→Nat→LA→O R) (s:RB):O R :=
 (Pu N s fun c aj ak a b=>Aj N ([108,105,110,101,115]:Lu) { s with nx:=aj,er:=ak,zG:=a,yG:=b } (fun al am=>q0 a c b al am 0 []))
def Mj:=(Ac fun N s r0=>Pv (R:=R) N r0 (fun a c b=>Dy N r0 s a c b N) s).1
theorem BA (s r0):(@Mj R N s r0)=(Pv N r0 (fun a c b=>Dy N r0 s a c b N) s):=by rw[Mj,(Ac _).2]
def DE:Hints:={ H:=(hK 3 (hS (hS (hP [0,2] hL) hL) (hJ [0,2] hL (hS (hS (hP [0,2] hL) hL) hL)))),free:=[100001,100002,100003,100004,100005,100006,100007,100008,100009,100010,100011,100012,100013,100014,100015,100016,100017],cob:=[1000002] }
def Mn:=Axz (YB N) (YC N) (Eq.refl 110)
def HM:Wp:=[cN N,Gi N,Ua N,Mn N,Of N,Mh N]
def Sg (F:KF R):=Mw Tryz.f67 DE (HM N) [100000,100001,100002,100003,100004,100005,100006,100007,100008,100009,100010,100011,100012,100013,100014,100015] N F
def C8 (s:RB) (F:KF R):Int→Int→Nat→Nat→LA→LA→O R:=(fun an ao ap aq ar au=>F (.tup []) [(100000,(bN 0 [(.own 300000 0 s.nw),(iv an),(iv ao),(iv s.th),(.own 300001 0 s.nR),(.own 300002 0 s.nB),(.own 300003 0 s.nL),(.own 300004 0 s.nU),(.own 300005 0 s.nS),(.own 300006 0 s.nT),(.own 300007 0 ap),(.bool s.bg),(.own 300008 0 s.zA),(.own 300009 0 s.zB),(.own 300010 0 s.zC),(.own 300011 0 s.zD),(.own 300012 0 s.zE),(.own 300013 0 s.zF),(.own 300014 0 aq)])),(300000,(bQ 1 s.cw)),(300001,(bQ 1 s.cR)),(300002,(bQ 3 s.cB)),(300003,(bQ 12 s.cL)),(300004,(bQ 22 s.cU)),(300005,(bQ 9 s.cS)),(300006,(bQ 5 s.cT)),(300007,(bQ 4 ar)),(300008,(bQ 1 s.yA)),(300009,(bQ 1 s.yB)),(300010,(bQ 1 s.yC)),(300011,(bQ 1 s.yD)),(300012,(bQ 1 s.yE)),(300013,(bQ 1 s.yF)),(300014,(bQ 1 au))])
def cP (s:RB) (a:Nat) (c:Lu) (d:Nat) (g:Bool) (b f:LA) (K:St→O R):=fun l m h q=>K ⟨[(0,(.optr 100000 0)),(2,(op 0))],[(100000,(bN 0 [(.own 300001 0 s.nw),(iv l),(iv m),(iv s.th),(.own 300002 0 s.nR),(.own 300003 0 s.nB),(.own 300004 0 s.nL),(.own 300005 0 s.nU),(.own 300006 0 s.nS),(.own 300007 0 s.nT),(.own 300008 0 s.nO),(.bool s.bg),(.own 300009 0 s.zA),(.own 300010 0 s.zB),(.own 300011 0 s.zC),(.own 300012 0 s.zD),(.own 300013 0 s.zE),(.own 300014 0 s.zF),(.own 300015 0 a)])),(300000,(bN 0 [(.str c),(.own 300016 0 d),(.bool g),(.own 300017 0 h)])),(300001,(bQ 1 s.cw)),(300002,(bQ 1 s.cR)),(300003,(bQ 3 s.cB)),(300004,(bQ 12 s.cL)),(300005,(bQ 22 s.cU)),(300006,(bQ 9 s.cS)),(300007,(bQ 5 s.cT)),(300008,(bQ 4 s.cO)),(300009,(bQ 1 s.yA)),(300010,(bQ 1 s.yB)),(300011,(bQ 1 s.yC)),(300012,(bQ 1 s.yD)),(300013,(bQ 1 s.yE)),(300014,(bQ 1 s.yF)),(300015,(bQ 1 b)),(300016,(bQ 1 f)),(300017,(bQ 3 q))]⟩
def cQ (s:RB) (a:Nat) (c:Lu) (d:Nat) (b f:LA) (K:St→O R):=fun o p g=>K ⟨[(0,(.optr 100000 0)),(2,(op 0))],[(100000,(bN 0 [(.own 300001 0 s.nw),(iv o),(iv p),(iv s.th),(.own 300002 0 s.nR),(.own 300003 0 s.nB),(.own 300004 0 s.nL),(.own 300005 0 s.nU),(.own 300006 0 s.nS),(.own 300007 0 s.nT),(.own 300008 0 s.nO),(.bool s.bg),(.own 300009 0 s.zA),(.own 300010 0 s.zB),(.own 300011 0 s.zC),(.own 300012 0 s.zD),(.own 300013 0 s.zE),(.own 300014 0 s.zF),(.own 300015 0 a)])),(300000,(bN 0 [(.str c),(.own 300016 0 d),(.bool g),(.own 300017 0 0)])),(300001,(bQ 1 s.cw)),(300002,(bQ 1 s.cR)),(300003,(bQ 3 s.cB)),(300004,(bQ 12 s.cL)),(300005,(bQ 22 s.cU)),(300006,(bQ 9 s.cS)),(300007,(bQ 5 s.cT)),(300008,(bQ 4 s.cO)),(300009,(bQ 1 s.yA)),(300010,(bQ 1 s.yB)),(300011,(bQ 1 s.yC)),(300012,(bQ 1 s.yD)),(300013,(bQ 1 s.yE)),(300014,(bQ 1 s.yF)),(300015,(bQ 1 b)),(300016,(bQ 1 f)),(300017,(bQ 3 []))]⟩
def cV (s:RB) (a:Nat) (c:Lu) (b:LA) (K:St→O R):=fun i j d f=>K ⟨[(0,(.optr 100000 0)),(2,(op 0))],[(100000,(bN 0 [(.own 300001 0 s.nw),(iv i),(iv j),(iv s.th),(.own 300002 0 s.nR),(.own 300003 0 s.nB),(.own 300004 0 s.nL),(.own 300005 0 s.nU),(.own 300006 0 s.nS),(.own 300007 0 s.nT),(.own 300008 0 s.nO),(.bool s.bg),(.own 300009 0 s.zA),(.own 300010 0 s.zB),(.own 300011 0 s.zC),(.own 300012 0 s.zD),(.own 300013 0 s.zE),(.own 300014 0 s.zF),(.own 300015 0 a)])),(300000,(bN 0 [(.str c),(.own 300016 0 d),(.bool false),(.own 300017 0 0)])),(300001,(bQ 1 s.cw)),(300002,(bQ 1 s.cR)),(300003,(bQ 3 s.cB)),(300004,(bQ 12 s.cL)),(300005,(bQ 22 s.cU)),(300006,(bQ 9 s.cS)),(300007,(bQ 5 s.cT)),(300008,(bQ 4 s.cO)),(300009,(bQ 1 s.yA)),(300010,(bQ 1 s.yB)),(300011,(bQ 1 s.yC)),(300012,(bQ 1 s.yD)),(300013,(bQ 1 s.yE)),(300014,(bQ 1 s.yF)),(300015,(bQ 1 b)),(300016,(bQ 1 f)),(300017,(bQ 3 []))]⟩
theorem RT (F:KF R) (s a c d g b f):∀ n,cP s a c d g b f (Ap (Sg N F (pz 21840) []) n)=(Fr N (C8 s F) s a c d g b f n):=Fs fun n e=>(Cs (Kk N (C8 s F) s a c d g b f) e:_)
theorem RU (F:KF R) (s a c d b f):cQ s a c d b f (Bq (Sg N F (pz 1365) []))=(DD N (C8 s F) s a c d b f):=(Cs (A_ N (C8 s F) s a c d b f) (Aqw fun g=>(lW ..).trans (RT ..)):_)
theorem RV (F:KF R) (s a c b):∀ n,cV s a c b (Ap (Sg N F (pz 1360) []) n)=(Dy N (C8 s F) s a c b n):=Fs fun n e=>(BL (Kl N (C8 s F) s a c b) e (VO fun d f=>(jW ..).trans (RU ..)):_)
def fe:=Cp N 67 (HM N) DE (PI fun
 | [(.optr 100000 0)],s=>some fun _ k=>Mj N s (C8 s k)
 | _,_=>none) (TX fun _ s=>by split;intro R F;exact(Cs (Pv N (C8 s F) · s) (Aq6 fun a c b=>(lW ..).trans (RV ..)):_).trans (BA ..).symm;trivial)
def B9 (s:RB) (r0:Int→Int→Nat→Nat→Nat→Nat→Nat→Nat→Nat→Nat→Nat→Nat→Nat→Nat→LA→LA→LA→LA→LA→LA→LA→LA→LA→LA→LA→LA→O R) (r1:Int→Int→Int→Nat→LA→O R):O R :=
 (Bt N s fun c cp a b=>cond ((c==([99,97,115,101]:Lu))==s.bg) (Am N 2 { s with nx:=a,er:=b } (fun ap=>r0 a ap s.nB s.nL s.nU s.nS s.nT s.nO s.zB s.zC s.zD s.zE s.zF s.zG s.cB s.cL s.cU s.cS s.cT s.cO s.yB s.yC s.yD s.yE s.yF s.yG)) (cond (c==([99,97,115,101]:Lu)) (Oh N 1 24 { s with nx:=a,er:=b,bg:=true } (fun d aq ar=>Aj N ([114,101,115,101,114,118,101]:Lu) { s with nx:=aq,er:=ar,th:=d,bg:=true } (fun au av=>Cm N { s with nx:=au,er:=av,th:=d,bg:=true } (fun g h aw i=>Fi N { s with nx:=h,er:=aw,th:=d,nR:=g,bg:=true,cR:=i } (fun ax=>r1 h ax d g i))))) (cond (c==([98,117,115]:Lu)) (Zu N { s with nx:=a,er:=b } (fun j ay l m n o=>Fi N { s with nx:=j,er:=ay,nB:=l,zB:=m,cB:=n,yB:=o } (fun az=>r0 j az l s.nL s.nU s.nS s.nT s.nO m s.zC s.zD s.zE s.zF s.zG n s.cL s.cU s.cS s.cT s.cO o s.yC s.yD s.yE s.yF s.yG))) (cond (c==([108,105,110,101]:Lu)) (Wa N { s with nx:=a,er:=b } (fun p ba q r t u=>Fi N { s with nx:=p,er:=ba,nL:=q,zC:=r,cL:=t,yC:=u } (fun bb=>r0 p bb s.nB q s.nU s.nS s.nT s.nO s.zB r s.zD s.zE s.zF s.zG s.cB t s.cU s.cS s.cT s.cO s.yB u s.yD s.yE s.yF s.yG))) (cond (c==([117,110,105,116]:Lu)) (Qt N { s with nx:=a,er:=b } (fun v bc w x y z=>Fi N { s with nx:=v,er:=bc,nU:=w,zD:=x,cU:=y,yD:=z } (fun bd=>r0 v bd s.nB s.nL w s.nS s.nT s.nO s.zB s.zC x s.zE s.zF s.zG s.cB s.cL y s.cS s.cT s.cO s.yB s.yC z s.yE s.yF s.yG))) (cond (c==([115,116,111,114,101]:Lu)) (Tt N { s with nx:=a,er:=b } (fun aa be ab ac ad ae=>Fi N { s with nx:=aa,er:=be,nS:=ab,zE:=ac,cS:=ad,yE:=ae } (fun bf=>r0 aa bf s.nB s.nL s.nU ab s.nT s.nO s.zB s.zC s.zD ac s.zF s.zG s.cB s.cL s.cU ad s.cT s.cO s.yB s.yC s.yD ae s.yF s.yG))) (cond (c==([116,105,101]:Lu)) (Zx N { s with nx:=a,er:=b } (fun af bh ag ah ai aj=>Fi N { s with nx:=af,er:=bh,nT:=ag,zF:=ah,cT:=ai,yF:=aj } (fun bi=>r0 af bi s.nB s.nL s.nU s.nS ag s.nO s.zB s.zC s.zD s.zE ah s.zG s.cB s.cL s.cU s.cS ai s.cO s.yB s.yC s.yD s.yE aj s.yG))) (cond (c==([111,117,116,97,103,101]:Lu)) (Mj N { s with nx:=a,er:=b } (fun ak bj al am an ao=>Fi N { s with nx:=ak,er:=bj,nO:=al,zG:=am,cO:=an,yG:=ao } (fun bk=>r0 ak bk s.nB s.nL s.nU s.nS s.nT al s.zB s.zC s.zD s.zE s.zF am s.cB s.cL s.cU s.cS s.cT an s.yB s.yC s.yD s.yE s.yF ao))) (Am N 2 { s with nx:=a,er:=b } (fun bl=>Fi N { s with nx:=a,er:=bl } (fun bm=>r0 a bm s.nB s.nL s.nU s.nS s.nT s.nO s.zB s.zC s.zD s.zE s.zF s.zG s.cB s.cL s.cU s.cS s.cT s.cO s.yB s.yC s.yD s.yE s.yF s.yG)))))))))))
def Bo:=(Ac (@B9 R)).1
theorem B6:@Bo R=@B9 R:=(Ac _).2
def RW (s:RB) (F:KF R):Int→Int→Nat→Nat→Nat→Nat→Nat→Nat→Nat→Nat→Nat→Nat→Nat→Nat→LA→LA→LA→LA→LA→LA→LA→LA→LA→LA→LA→LA→O R:=(fun e f bn bo bp bq br bs bt bu bv bw bx bz ca cb cc cd ce cf cg ch ci cj ck cl=>F (.tup []) [(100000,(bN 0 [(.own 300000 0 s.nw),(iv e),(iv f),(iv s.th),(.own 300001 0 s.nR),(.own 300002 0 bn),(.own 300003 0 bo),(.own 300004 0 bp),(.own 300005 0 bq),(.own 300006 0 br),(.own 300007 0 bs),(.bool s.bg),(.own 300008 0 s.zA),(.own 300009 0 bt),(.own 300010 0 bu),(.own 300011 0 bv),(.own 300012 0 bw),(.own 300013 0 bx),(.own 300014 0 bz)])),(300000,(bQ 1 s.cw)),(300001,(bQ 1 s.cR)),(300002,(bQ 3 ca)),(300003,(bQ 12 cb)),(300004,(bQ 22 cc)),(300005,(bQ 9 cd)),(300006,(bQ 5 ce)),(300007,(bQ 4 cf)),(300008,(bQ 1 s.yA)),(300009,(bQ 1 cg)),(300010,(bQ 1 ch)),(300011,(bQ 1 ci)),(300012,(bQ 1 cj)),(300013,(bQ 1 ck)),(300014,(bQ 1 cl))])
def RX (s:RB) (F:KF R):Int→Int→Int→Nat→LA→O R:=(fun e f cm cn co=>F (.tup []) [(100000,(bN 0 [(.own 300000 0 s.nw),(iv e),(iv f),(iv cm),(.own 300015 0 cn),(.own 300002 0 s.nB),(.own 300003 0 s.nL),(.own 300004 0 s.nU),(.own 300005 0 s.nS),(.own 300006 0 s.nT),(.own 300007 0 s.nO),(.bool true),(.own 300008 0 s.zA),(.own 300009 0 s.zB),(.own 300010 0 s.zC),(.own 300011 0 s.zD),(.own 300012 0 s.zE),(.own 300013 0 s.zF),(.own 300014 0 s.zG)])),(300000,(bQ 1 s.cw)),(300001,(bQ 1 s.cR)),(300002,(bQ 3 s.cB)),(300003,(bQ 12 s.cL)),(300004,(bQ 22 s.cU)),(300005,(bQ 9 s.cS)),(300006,(bQ 5 s.cT)),(300007,(bQ 4 s.cO)),(300008,(bQ 1 s.yA)),(300009,(bQ 1 s.yB)),(300010,(bQ 1 s.yC)),(300011,(bQ 1 s.yD)),(300012,(bQ 1 s.yE)),(300013,(bQ 1 s.yF)),(300014,(bQ 1 s.yG)),(300015,(bQ 1 co))])
def UJ:=Cp N 24 [Bu N,Bl N,J_ N,Gi N,T8 N,tV N,qP N,lp N,lw N,j8 N,qT N,fe N] r_ (PI fun
 | [(.optr 100000 0)],s=>some fun _ k=>Bo N s (RW s k) (RX s k)
 | _,_=>none) (TX fun _ s=>by split;intro R F;dsimp only;rw[B6];kernel_rfl;trivial)
def Rr (r0:LA→Int→Int→O R) (k0:Lu→Int→Bool→Nat→Int→Int→Int→Nat→Nat→Nat→Nat→Nat→Nat→Nat→Bool→Nat→Nat→Nat→Nat→Nat→Nat→LA→LA→LA→LA→LA→LA→LA→LA→LA→LA→LA→LA→LA→LA→O R) (aj:Lu) (u:Int) (ak:Bool) (ap:Nat) (aq ar j:Int) (a b c d f g h:Nat) (l:Bool) (v w x y z aa:Nat) (au m o p q r s t ab ac ad ae af ag:LA):O R :=
 (cond ak (strings_Cut N aj ([10]:Lu) fun bz al am=>jB N bz fun ah ai=>Fa N (RB.mk ah 0 0 j a b c d f g h l 0 v w x y z aa ai m o p q r s t [] ab ac ad ae af ag) fun ca=>cond (!ca) (k0 al (wrap .i64 (u+1)) am ah 0 0 j a b c d f g h l v w x y z aa ai m o p q r s t ab ac ad ae af ag) (Bo N (RB.mk ah 0 0 j a b c d f g h l 0 v w x y z aa ai m o p q r s t [] ab ac ad ae af ag) (fun av an aw ax ay az ba bb bc bd be bf bg bh bi bj bk bl bm bn bo bp bq br bs bt=>Ld N (RB.mk ah av an j a aw ax ay az ba bb l 0 bc bd be bf bg bh ai m bi bj bk bl bm bn [] bo bp bq br bs bt) fun cb=>cond (!cb) (r0 [(.int .i64 0),.nsl,.nsl,.nsl,.nsl,.nsl,.nsl,.nsl] (wrap .i64 (u+1)) an) (k0 al (wrap .i64 (u+1)) am ah av an j a aw ax ay az ba bb l bc bd be bf bg bh ai m bi bj bk bl bm bn bo bp bq br bs bt)) fun bu ao bv bw bx=>Ld N (RB.mk ah bu ao bv bw b c d f g h true 0 v w x y z aa ai bx o p q r s t [] ab ac ad ae af ag) fun cc=>cond (!cc) (r0 [(.int .i64 0),.nsl,.nsl,.nsl,.nsl,.nsl,.nsl,.nsl] (wrap .i64 (u+1)) ao) (k0 al (wrap .i64 (u+1)) am ah bu ao bv bw b c d f g h true v w x y z aa ai bx o p q r s t ab ac ad ae af ag))) (cond (!l) (r0 [(.int .i64 0),.nsl,.nsl,.nsl,.nsl,.nsl,.nsl,.nsl] 1 2) (r0 [(.int .i64 j),(.imm (m.take (a*1)) a 1 false false),(.imm (o.take (b*3)) b 3 false false),(.imm (p.take (c*12)) c 12 false false),(.imm (q.take (d*22)) d 22 false false),(.imm (r.take (f*9)) f 9 false false),(.imm (s.take (g*5)) g 5 false false),(.imm (t.take (h*4)) h 4 false false)] 0 0)))
def Km (r0:LA→Int→Int→O R):Nat→Lu→Int→Bool→Nat→Int→Int→Int→Nat→Nat→Nat→Nat→Nat→Nat→Nat→Bool→Nat→Nat→Nat→Nat→Nat→Nat→LA→LA→LA→LA→LA→LA→LA→LA→LA→LA→LA→LA→LA→LA→O R
 | 0=>fun _ _ _ _ _ _ _ _ _ _ _ _ _ _ _ _ _ _ _ _ _ _ _ _ _ _ _ _ _ _ _ _ _ _ _=>none
 | n+1=>Rr N r0 (Km r0 n)
def aI (N:Nat) (r0:LA→Int→Int→O R) (q0:Lu→Int→Bool→Nat→Int→Int→Int→Nat→Nat→Nat→Nat→Nat→Nat→Nat→Bool→Nat→Nat→Nat→Nat→Nat→Nat→LA→LA→LA→LA→LA→LA→LA→LA→LA→LA→LA→LA→LA→LA→O R) (i:Lu):O R :=
 (cond (decide ((((i.length):Nat):Int)>1048576)) (r0 [(.int .i64 0),.nsl,.nsl,.nsl,.nsl,.nsl,.nsl,.nsl] 0 8) (q0 i 0 true 0 0 0 0 0 0 0 0 0 0 0 false 0 0 0 0 0 0 [] [] [] [] [] [] [] [] [] [] [] [] [] []))
def NV:=(Ac fun N i r0=>aI (R:=R) N r0 (Km N r0 N) i).1
theorem j9 (i r0):(@NV R N i r0)=(aI N r0 (Km N r0 N) i):=by rw[NV,(Ac _).2]
def oQ:Hints:={ H:=(hK 4 (hS (hK 1 (hS (hP [0,2,5,6,7] hL) hL)) hL)),modes:=[(3,0),(0,0),(0,0)],cob:=[13] }
def tY:Wp:=[LH N,Ag5 N,Of N,UJ N,TI N]
def Ad1 (F:KF R):=Mw Tryz.f11 oQ (tY N) [] N F
def KL (F:KF R):LA→Int→Int→O R:=(fun cd ce cf=>F (.tup [(.pagg cd false),(iv ce),(iv cf)]) [])
def Ad2 (K:St→O R):=fun aj u ak ap aq ar j a b c d f g h l v w x y z aa au m o p q r s t ab ac ad ae af ag=>K ⟨[(0,(.str aj)),(2,(op 0)),(5,(op 1)),(6,(iv u)),(7,(.bool ak))],(hq [(bN 0 [(iv 0),.nsl,.nsl,.nsl,.nsl,.nsl,.nsl,.nsl]),(bN 0 [(.own 300002 0 ap),(iv aq),(iv ar),(iv j),(.own 300003 0 a),(.own 300004 0 b),(.own 300005 0 c),(.own 300006 0 d),(.own 300007 0 f),(.own 300008 0 g),(.own 300009 0 h),(.bool l),(.own 300010 0 0),(.own 300011 0 v),(.own 300012 0 w),(.own 300013 0 x),(.own 300014 0 y),(.own 300015 0 z),(.own 300016 0 aa)]),(bQ 1 au),(bQ 1 m),(bQ 3 o),(bQ 12 p),(bQ 22 q),(bQ 9 r),(bQ 5 s),(bQ 4 t),(bQ 1 []),(bQ 1 ab),(bQ 1 ac),(bQ 1 ad),(bQ 1 ae),(bQ 1 af),(bQ 1 ag)])⟩
theorem tZ (F:KF R):∀ n,Ad2 (Ap (Ad1 N F (pz 21828) []) n)=(Km N (KL F) n):=Fs fun n e=>(Cs (Rr N (KL F)) e:_)
def Ahe:=Cp N 11 (tY N) oQ (fun
 | [(.str i)],[]=>some fun _ k=>NV N i (KL k)
 | _,_=>none) fun _ _=>by split;intro R F;exact(Cs (aI N (KL F) · _) ((lW ..).trans (tZ ..)):_).trans (j9 ..).symm;trivial
def EC (N:Nat) (r0:Bool→O R) (c:LA) (a:Nat) (f g:Bool) (d:LA) (b:Nat) (h i:Bool) (k0:Int→O R) (j:Int):O R :=
 (cond (decide (j<(a:Int))) (cond (Ag j a) (Aw .i64 (c.drop ((j.toNat)*1)) fun l=>cond (Ag j b) (Aw .i64 (d.drop ((j.toNat)*1)) fun m=>cond (l != m) (r0 false) (k0 (wrap .i64 (j+1)))) none) none) (r0 true))
def Qu (r0:Bool→O R) (c:LA) (a:Nat) (f g:Bool) (d:LA) (b:Nat) (h i:Bool):Nat→Int→O R
 | 0=>fun _=>none
 | n+1=>EC N r0 c a f g d b h i (Qu r0 c a f g d b h i n)
def aJ (N:Nat) (r0:Bool→O R) (q0:Int→O R) (c:LA) (a:Nat) (f g:Bool) (d:LA) (b:Nat) (h i:Bool):O R :=
 (cond ((a:Int) != (b:Int)) (r0 false) (q0 0))
def Kn:=(Ac fun N c a f g d b h i r0=>aJ (R:=R) N r0 (Qu N r0 c a f g d b h i N) c a f g d b h i).1
theorem j_ (c a f g d b h i r0):(@Kn R N c a f g d b h i r0)=(aJ N r0 (Qu N r0 c a f g d b h i N) c a f g d b h i):=by rw[Kn,(Ac _).2]
def oR:Hints:={ H:=(hK 2 (hS (hK 1 (hS (hP [0,1,5] hL) hL)) hL)) }
def Ad3 (F:KF R):=Mw Tryz.f20 oR [] [] N F
def Ad4 (c:LA) (a:Nat) (f g:Bool) (d:LA) (b:Nat) (h i:Bool) (K:St→O R):=fun j=>K ⟨[(0,(.imm c a 1 f g)),(1,(.imm d b 1 h i)),(5,(iv j))],[]⟩
theorem t6 (F:KF R) (c a f g d b h i):∀ n,Ad4 c a f g d b h i (Ap (Ad3 N F (pz 1348) []) n)=(Qu N (Bh F) c a f g d b h i n):=Fs fun n e=>(Cs (EC N (Bh F) c a f g d b h i) e:_)
def Yq:=Cp N 20 [] oR (fun
 | [(.imm c a 1 f g),(.imm d b 1 h i)],[]=>some fun _ k=>Kn N c a f g d b h i (Bh k)
 | _,_=>none) fun _ _=>by split;intro R F;exact(Cs (aJ N (Bh F) · _ _ _ _ _ _ _ _) ((lW ..).trans (t6 ..)):_).trans (j_ ..).symm;trivial
def Rs (k0:Bool→Int→O R) (r0:Bool→O R) (c:LA) (a:Nat) (h f:Bool) (d:LA) (b:Nat) (i g:Bool) (j:Int):O R :=
 (cond (Ag j a) (Li (c.drop ((j.toNat)*3)) fun o=>cond (Ag j b) (Li (d.drop ((j.toNat)*3)) fun p=>cond ((o==p)==true) (cond (Ag j a) (Bb 1 ((c.drop ((j.toNat)*3)).drop 1) fun q r=>cond (Ag j b) (Bb 1 ((d.drop ((j.toNat)*3)).drop 1) fun s t=>Kn N q r false f s t false g fun u=>cond ((cond true u false)==true) (cond (Ag j a) (Aw .i64 ((c.drop ((j.toNat)*3)).drop 2) fun v=>cond (Ag j b) (Aw .i64 ((d.drop ((j.toNat)*3)).drop 2) fun w=>k0 (cond true (v==w) false) (wrap .i64 (j+1))) none) none) (k0 false (wrap .i64 (j+1)))) none) none) (k0 false (wrap .i64 (j+1)))) none) none)
def Pw (N:Nat) (r0:Bool→O R) (c:LA) (a:Nat) (h f:Bool) (d:LA) (b:Nat) (i g:Bool) (k0:Bool→Int→O R) (q1:Int→O R) (l:Bool) (m:Int):O R :=
 (cond ((decide (m<(a:Int)))==true) (cond (cond true l false) (q1 m) (r0 l)) (r0 l))
def Et (r0:Bool→O R) (c:LA) (a:Nat) (h f:Bool) (d:LA) (b:Nat) (i g:Bool):Nat→Bool→Int→O R
 | 0=>fun _ _=>none
 | n+1=>Pw N r0 c a h f d b i g (Et r0 c a h f d b i g n) (Rs N (Et r0 c a h f d b i g n) r0 c a h f d b i g)
def We (N:Nat) (r0:Bool→O R) (q0:Bool→Int→O R) (c:LA) (a:Nat) (h f:Bool) (d:LA) (b:Nat) (i g:Bool):O R :=
 (q0 ((a:Int)==(b:Int)) 0)
def S6:=(Ac fun N c a h f d b i g r0=>We (R:=R) N r0 (Et N r0 c a h f d b i g N) c a h f d b i g).1
theorem KM (c a h f d b i g r0):(@S6 R N c a h f d b i g r0)=(We N r0 (Et N r0 c a h f d b i g N) c a h f d b i g):=by rw[S6,(Ac _).2]
def TO:Wp:=[Yq N]
def NW (F:KF R):=Mw Tryz.f26 nX (TO N) [] N F
def ly (c:LA) (a:Nat) (h f:Bool) (d:LA) (b:Nat) (i g:Bool) (K:St→O R):=fun j=>K ⟨[(0,(.imm c a 3 h f)),(1,(.imm d b 3 i g)),(6,(iv j))],[]⟩
def NX (c:LA) (a:Nat) (h f:Bool) (d:LA) (b:Nat) (i g:Bool) (K:St→O R):=fun l m=>K ⟨[(0,(.imm c a 3 h f)),(1,(.imm d b 3 i g)),(5,(.bool l)),(6,(iv m))],[]⟩
theorem cW (Q0) (F:KF R) (c a h f d b i g):ly c a h f d b i g (Bq (NW N F (pz 21569) [Q0]))=(Rs N (NX c a h f d b i g Q0) (Bh F) c a h f d b i g):=by kernel_rfl
theorem cX (F:KF R) (c a h f d b i g):∀ n,NX c a h f d b i g (Ap (NW N F (pz 1348) []) n)=(Et N (Bh F) c a h f d b i g n):=Fs fun n e=>(BL (Pw N (Bh F) c a h f d b i g) e ((jW ..).trans ((cW ..).trans (pK (Rs _ · _ _ _ _ _ _ _ _ _) e))):_)
def qU:=Cp N 26 (TO N) nX (fun
 | [(.imm c a 3 h f),(.imm d b 3 i g)],[]=>some fun _ k=>S6 N c a h f d b i g (Bh k)
 | _,_=>none) fun _ _=>by split;intro R F;exact(Cs (We N (Bh F) · _ _ _ _ _ _ _ _) ((lW ..).trans (cX ..)):_).trans (KM ..).symm;trivial
def Rt (k0:Bool→Int→O R) (r0:Bool→O R) (b:LA) (g:Nat) (i d:Bool) (c:LA) (h:Nat) (j f:Bool) (a:Int):O R :=
 (cond (Ag a g) (cond (ble 12 ((b.drop ((a.toNat)*12)).length)) (cond (Ag a h) (cond (ble 12 ((c.drop ((a.toNat)*12)).length)) (cond ((beq 0 0)&&((beq (((b.drop ((a.toNat)*12)).take 12).length) 12)&&(beq 12 12))) (cond ((beq 0 0)&&((beq (((c.drop ((a.toNat)*12)).take 12).length) 12)&&(beq 12 12))) (Li ((b.drop ((a.toNat)*12)).take 12) fun o=>Li ((c.drop ((a.toNat)*12)).take 12) fun p=>cond ((o==p)==true) (Aw .i64 (((b.drop ((a.toNat)*12)).take 12).drop 1) fun q=>Aw .i64 (((c.drop ((a.toNat)*12)).take 12).drop 1) fun r=>cond ((cond true (q==r) false)==true) (Aw .i64 (((b.drop ((a.toNat)*12)).take 12).drop 2) fun s=>Aw .i64 (((c.drop ((a.toNat)*12)).take 12).drop 2) fun t=>cond ((cond true (s==t) false)==true) (cond (ble 2 ((((b.drop ((a.toNat)*12)).take 12).drop 3).length)) (cond ((!d)||(A2 ((((b.drop ((a.toNat)*12)).take 12).drop 3).take 2))) (cond (ble 2 ((((c.drop ((a.toNat)*12)).take 12).drop 3).length)) (cond ((!f)||(A2 ((((c.drop ((a.toNat)*12)).take 12).drop 3).take 2))) (cond ((ble 1 2)&&((beq (((((b.drop ((a.toNat)*12)).take 12).drop 3).take 2).length) 2)&&((beq (((((c.drop ((a.toNat)*12)).take 12).drop 3).take 2).length) 2)&&(true&&(!false))))) (Aw .i64 ((((b.drop ((a.toNat)*12)).take 12).drop 3).take 2) fun u=>Aw .i64 ((((c.drop ((a.toNat)*12)).take 12).drop 3).take 2) fun v=>Aw .i64 (((((b.drop ((a.toNat)*12)).take 12).drop 3).take 2).drop 1) fun w=>Aw .i64 (((((c.drop ((a.toNat)*12)).take 12).drop 3).take 2).drop 1) fun x=>cond ((cond true ((u==v)&&((w==x)&&true)) false)==true) (cond (ble 2 ((((b.drop ((a.toNat)*12)).take 12).drop 5).length)) (cond ((!d)||(A2 ((((b.drop ((a.toNat)*12)).take 12).drop 5).take 2))) (cond (ble 2 ((((c.drop ((a.toNat)*12)).take 12).drop 5).length)) (cond ((!f)||(A2 ((((c.drop ((a.toNat)*12)).take 12).drop 5).take 2))) (cond ((ble 1 2)&&((beq (((((b.drop ((a.toNat)*12)).take 12).drop 5).take 2).length) 2)&&((beq (((((c.drop ((a.toNat)*12)).take 12).drop 5).take 2).length) 2)&&(true&&(!false))))) (Aw .i64 ((((b.drop ((a.toNat)*12)).take 12).drop 5).take 2) fun y=>Aw .i64 ((((c.drop ((a.toNat)*12)).take 12).drop 5).take 2) fun z=>Aw .i64 (((((b.drop ((a.toNat)*12)).take 12).drop 5).take 2).drop 1) fun aa=>Aw .i64 (((((c.drop ((a.toNat)*12)).take 12).drop 5).take 2).drop 1) fun ab=>cond ((cond true ((y==z)&&((aa==ab)&&true)) false)==true) (cond (ble 2 ((((b.drop ((a.toNat)*12)).take 12).drop 7).length)) (cond ((!d)||(A2 ((((b.drop ((a.toNat)*12)).take 12).drop 7).take 2))) (cond (ble 2 ((((c.drop ((a.toNat)*12)).take 12).drop 7).length)) (cond ((!f)||(A2 ((((c.drop ((a.toNat)*12)).take 12).drop 7).take 2))) (cond ((ble 1 2)&&((beq (((((b.drop ((a.toNat)*12)).take 12).drop 7).take 2).length) 2)&&((beq (((((c.drop ((a.toNat)*12)).take 12).drop 7).take 2).length) 2)&&(true&&(!false))))) (Aw .i64 ((((b.drop ((a.toNat)*12)).take 12).drop 7).take 2) fun ac=>Aw .i64 ((((c.drop ((a.toNat)*12)).take 12).drop 7).take 2) fun ad=>Aw .i64 (((((b.drop ((a.toNat)*12)).take 12).drop 7).take 2).drop 1) fun ae=>Aw .i64 (((((c.drop ((a.toNat)*12)).take 12).drop 7).take 2).drop 1) fun af=>cond ((cond true ((ac==ad)&&((ae==af)&&true)) false)==true) (Aw .i64 (((b.drop ((a.toNat)*12)).take 12).drop 9) fun ag=>Aw .i64 (((c.drop ((a.toNat)*12)).take 12).drop 9) fun ah=>cond ((cond true (ag==ah) false)==true) (Aw .i64 (((b.drop ((a.toNat)*12)).take 12).drop 10) fun ai=>Aw .i64 (((c.drop ((a.toNat)*12)).take 12).drop 10) fun aj=>cond ((cond true (ai==aj) false)==true) (Bb 1 (((b.drop ((a.toNat)*12)).take 12).drop 11) fun ak al=>Bb 1 (((c.drop ((a.toNat)*12)).take 12).drop 11) fun am an=>Kn N ak al false d am an false f fun ao=>k0 (cond true ao false) (wrap .i64 (a+1))) (k0 false (wrap .i64 (a+1)))) (k0 false (wrap .i64 (a+1)))) (k0 false (wrap .i64 (a+1)))) none) none) none) none) none) (k0 false (wrap .i64 (a+1)))) none) none) none) none) none) (k0 false (wrap .i64 (a+1)))) none) none) none) none) none) (k0 false (wrap .i64 (a+1)))) (k0 false (wrap .i64 (a+1)))) (k0 false (wrap .i64 (a+1)))) none) none) none) none) none) none)
def Px (N:Nat) (r0:Bool→O R) (b:LA) (g:Nat) (i d:Bool) (c:LA) (h:Nat) (j f:Bool) (k0:Bool→Int→O R) (q1:Int→O R) (l:Bool) (m:Int):O R :=
 (cond ((decide (m<(g:Int)))==true) (cond (cond true l false) (q1 m) (r0 l)) (r0 l))
def Gl (r0:Bool→O R) (b:LA) (g:Nat) (i d:Bool) (c:LA) (h:Nat) (j f:Bool):Nat→Bool→Int→O R
 | 0=>fun _ _=>none
 | n+1=>Px N r0 b g i d c h j f (Gl r0 b g i d c h j f n) (Rt N (Gl r0 b g i d c h j f n) r0 b g i d c h j f)
def Wf (N:Nat) (r0:Bool→O R) (q0:Bool→Int→O R) (b:LA) (g:Nat) (i d:Bool) (c:LA) (h:Nat) (j f:Bool):O R :=
 (q0 ((g:Int)==(h:Int)) 0)
def S7:=(Ac fun N b g i d c h j f r0=>Wf (R:=R) N r0 (Gl N r0 b g i d c h j f N) b g i d c h j f).1
theorem KN (b g i d c h j f r0):(@S7 R N b g i d c h j f r0)=(Wf N r0 (Gl N r0 b g i d c h j f N) b g i d c h j f):=by rw[S7,(Ac _).2]
def TP:Wp:=[Yq N]
def NY (F:KF R):=Mw Tryz.f27 nX (TP N) [] N F
def lz (b:LA) (g:Nat) (i d:Bool) (c:LA) (h:Nat) (j f:Bool) (K:St→O R):=fun a=>K ⟨[(0,(.imm b g 12 i d)),(1,(.imm c h 12 j f)),(6,(iv a))],[]⟩
def NZ (b:LA) (g:Nat) (i d:Bool) (c:LA) (h:Nat) (j f:Bool) (K:St→O R):=fun l m=>K ⟨[(0,(.imm b g 12 i d)),(1,(.imm c h 12 j f)),(5,(.bool l)),(6,(iv m))],[]⟩
theorem cY (Q0) (F:KF R) (b g i d c h j f):lz b g i d c h j f (Bq (NY N F (pz 21569) [Q0]))=(Rt N (NZ b g i d c h j f Q0) (Bh F) b g i d c h j f):=by kernel_rfl
theorem cZ (F:KF R) (b g i d c h j f):∀ n,NZ b g i d c h j f (Ap (NY N F (pz 1348) []) n)=(Gl N (Bh F) b g i d c h j f n):=Fs fun n e=>(BL (Px N (Bh F) b g i d c h j f) e ((jW ..).trans ((cY ..).trans (pK (Rt _ · _ _ _ _ _ _ _ _ _) e))):_)
def qV:=Cp N 27 (TP N) nX (fun
 | [(.imm b g 12 i d),(.imm c h 12 j f)],[]=>some fun _ k=>S7 N b g i d c h j f (Bh k)
 | _,_=>none) fun _ _=>by split;intro R F;exact(Cs (Wf N (Bh F) · _ _ _ _ _ _ _ _) ((lW ..).trans (cZ ..)):_).trans (KN ..).symm;trivial
def ja (N:Nat) (a:LA) (b:Bool) (r0:LA→O R):O R :=
 (Aw .i64 (a.drop 1) fun c=>Aw .i64 (a.drop 2) fun d=>Aw .i64 (a.drop 3) fun e=>Aw .i64 (a.drop 5) fun f=>Aw .i64 (a.drop 6) fun g=>Aw .i64 (a.drop 7) fun h=>Aw .i64 (a.drop 8) fun i=>Aw .i64 (a.drop 9) fun j=>Aw .i64 (a.drop 10) fun l=>Aw .i64 (a.drop 11) fun m=>Aw .i64 (a.drop 12) fun n=>Aw .i64 (a.drop 13) fun o=>Aw .i64 (a.drop 14) fun p=>Aw .i64 (a.drop 15) fun q=>Aw .i64 (a.drop 16) fun r=>Aw .i64 (a.drop 17) fun s=>Aw .i64 (a.drop 19) fun t=>Aw .i64 (a.drop 20) fun u=>Aw .i64 (a.drop 21) fun v=>r0 [(.int .i64 c),(.int .i64 d),(.int .i64 e),(.int .i64 f),(.int .i64 g),(.int .i64 h),(.int .i64 i),(.int .i64 j),(.int .i64 l),(.int .i64 m),(.int .i64 n),(.int .i64 o),(.int .i64 p),(.int .i64 q),(.int .i64 r),(.int .i64 s),(.int .i64 t),(.int .i64 u),(.int .i64 v)])
def Qv:=(Ac (@ja R)).1
theorem TQ:@Qv R=@ja R:=(Ac _).2
def t7 (F:KF R):LA→O R:=(fun w=>F (.own 300000 0 19) (hq [(bQ 1 w)]))
def vh:=Cp N 69 [] Ab9 (fun
 | [(.pagg a b)],[]=>some fun _ k=>Qv N a b (t7 k)
 | _,_=>none) fun _ _=>by split;intro R F;dsimp only;rw[TQ];kernel_rfl;trivial
def Ru (N:Nat) (k0:Bool→Int→O R) (k3:Bool→Int→Int→O R) (r0:Bool→O R) (a:LA) (f:Nat) (h c:Bool) (b:LA) (g:Nat) (i d:Bool) (l m:LA) (y o:Int):O R :=
 (Bb 2 (l.drop 4) fun p z=>cond (Ag o z) (cond (ble 2 ((p.drop ((o.toNat)*2)).length)) (cond ((!c)||(A2 ((p.drop ((o.toNat)*2)).take 2))) (Bb 2 (m.drop 4) fun q aa=>cond (Ag o aa) (cond (ble 2 ((q.drop ((o.toNat)*2)).length)) (cond ((!d)||(A2 ((q.drop ((o.toNat)*2)).take 2))) (cond ((ble 1 2)&&((beq (((p.drop ((o.toNat)*2)).take 2).length) 2)&&((beq (((q.drop ((o.toNat)*2)).take 2).length) 2)&&(true&&(!false))))) (Aw .i64 ((p.drop ((o.toNat)*2)).take 2) fun ab=>Aw .i64 ((q.drop ((o.toNat)*2)).take 2) fun ac=>Aw .i64 (((p.drop ((o.toNat)*2)).take 2).drop 1) fun ad=>Aw .i64 (((q.drop ((o.toNat)*2)).take 2).drop 1) fun ae=>k3 ((ab==ac)&&((ad==ae)&&true)) y (wrap .i64 (o+1))) none) none) none) none) none) none) none)
def Py (N:Nat) (k0:Bool→Int→O R) (r0:Bool→O R) (a:LA) (f:Nat) (h c:Bool) (b:LA) (g:Nat) (i d:Bool) (l m:LA) (k3:Bool→Int→Int→O R) (q4:Int→Int→O R) (r:Bool) (s w:Int):O R :=
 (Bb 2 (l.drop 4) fun au af=>cond ((decide (w<(af:Int)))==true) (cond (cond true r false) (q4 s w) (k0 r (wrap .i64 (s+1)))) (k0 r (wrap .i64 (s+1))))
def Eu (k0:Bool→Int→O R) (r0:Bool→O R) (a:LA) (f:Nat) (h c:Bool) (b:LA) (g:Nat) (i d:Bool) (l m:LA):Nat→Bool→Int→Int→O R
 | 0=>fun _ _ _=>none
 | n+1=>Py N k0 r0 a f h c b g i d l m (Eu k0 r0 a f h c b g i d l m n) (Ru N k0 (Eu k0 r0 a f h c b g i d l m n) r0 a f h c b g i d l m)
def Wg (N:Nat) (k0:Bool→Int→O R) (r0:Bool→O R) (a:LA) (f:Nat) (h c:Bool) (b:LA) (g:Nat) (i d:Bool) (q3:LA→LA→Bool→Int→Int→O R) (t:Bool) (u:Int) (l m:LA):O R :=
 (q3 l m t u 0)
def Rv (k0:Bool→Int→O R) (r0:Bool→O R) (a:LA) (f:Nat) (h c:Bool) (b:LA) (g:Nat) (i d:Bool) (t:Bool) (u:Int) (l m:LA):O R:=(Wg N k0 r0 a f h c b g i d (fun l m=>Eu N k0 r0 a f h c b g i d l m N) t u l m)
def Wh (k0:Bool→Int→O R) (r0:Bool→O R) (a:LA) (f:Nat) (h c:Bool) (b:LA) (g:Nat) (i d:Bool) (q2:Bool→Int→LA→LA→O R) (j:Int):O R :=
 (cond (Ag j f) (cond (ble 22 ((a.drop ((j.toNat)*22)).length)) (cond (Ag j g) (cond (ble 22 ((b.drop ((j.toNat)*22)).length)) (cond ((beq 0 0)&&((beq (((a.drop ((j.toNat)*22)).take 22).length) 22)&&(beq 22 22))) (cond ((beq 0 0)&&((beq (((b.drop ((j.toNat)*22)).take 22).length) 22)&&(beq 22 22))) (Li ((a.drop ((j.toNat)*22)).take 22) fun ag=>Li ((b.drop ((j.toNat)*22)).take 22) fun ah=>cond ((ag==ah)==true) (cond (ble 22 (((a.drop ((j.toNat)*22)).take 22).length)) (Qv N (((a.drop ((j.toNat)*22)).take 22).take 22) c fun ai=>cond (ble 22 (((b.drop ((j.toNat)*22)).take 22).length)) (Qv N (((b.drop ((j.toNat)*22)).take 22).take 22) d fun aj=>Kn N (ai.take 19) 19 false true (aj.take 19) 19 false true fun ak=>cond ((cond true ak false)==true) (Bb 1 (((a.drop ((j.toNat)*22)).take 22).drop 18) fun al am=>Bb 1 (((b.drop ((j.toNat)*22)).take 22).drop 18) fun an ao=>Kn N al am false c an ao false d fun ap=>cond ((cond true ap false)==true) (Bb 2 (((a.drop ((j.toNat)*22)).take 22).drop 4) fun av aq=>Bb 2 (((b.drop ((j.toNat)*22)).take 22).drop 4) fun aw ar=>q2 (cond true ((aq:Int)==(ar:Int)) false) j ((a.drop ((j.toNat)*22)).take 22) ((b.drop ((j.toNat)*22)).take 22)) (q2 false j ((a.drop ((j.toNat)*22)).take 22) ((b.drop ((j.toNat)*22)).take 22))) (q2 false j ((a.drop ((j.toNat)*22)).take 22) ((b.drop ((j.toNat)*22)).take 22))) none) none) (q2 false j ((a.drop ((j.toNat)*22)).take 22) ((b.drop ((j.toNat)*22)).take 22))) none) none) none) none) none) none)
def Rw (k0:Bool→Int→O R) (r0:Bool→O R) (a:LA) (f:Nat) (h c:Bool) (b:LA) (g:Nat) (i d:Bool) (j:Int):O R:=(Wh N k0 r0 a f h c b g i d (Rv N k0 r0 a f h c b g i d) j)
def Pz (N:Nat) (r0:Bool→O R) (a:LA) (f:Nat) (h c:Bool) (b:LA) (g:Nat) (i d:Bool) (k0:Bool→Int→O R) (q1:Int→O R) (v:Bool) (x:Int):O R :=
 (cond ((decide (x<(f:Int)))==true) (cond (cond true v false) (q1 x) (r0 v)) (r0 v))
def Cn (r0:Bool→O R) (a:LA) (f:Nat) (h c:Bool) (b:LA) (g:Nat) (i d:Bool):Nat→Bool→Int→O R
 | 0=>fun _ _=>none
 | n+1=>Pz N r0 a f h c b g i d (Cn r0 a f h c b g i d n) (Rw N (Cn r0 a f h c b g i d n) r0 a f h c b g i d)
def Wi (N:Nat) (r0:Bool→O R) (q0:Bool→Int→O R) (a:LA) (f:Nat) (h c:Bool) (b:LA) (g:Nat) (i d:Bool):O R :=
 (q0 ((f:Int)==(g:Int)) 0)
def S8:=(Ac fun N a f h c b g i d r0=>Wi (R:=R) N r0 (Cn N r0 a f h c b g i d N) a f h c b g i d).1
theorem KO (a f h c b g i d r0):(@S8 R N a f h c b g i d r0)=(Wi N r0 (Cn N r0 a f h c b g i d N) a f h c b g i d):=by rw[S8,(Ac _).2]
def N_:Hints:={ H:=(hK 2 (hS (hK 1 (hS (hP [0,1,5,6] (hJ [0,1,6] hL (hS (hS (hK 1 (hJ [0,1,5,6,7,8] hL (hK 1 (hS (hP [0,1,5,6,7,8,9] (hJ [0,1,6,7,8,9] hL hL)) hL)))) hL) hL))) hL)) hL)) }
def TR:Wp:=[vh N,Yq N]
def Mk (F:KF R):=Mw Tryz.f28 N_ (TR N) [] N F
def mA (a:LA) (f:Nat) (h c:Bool) (b:LA) (g:Nat) (i d:Bool) (l m:LA) (K:St→O R):=fun y o=>K ⟨[(0,(.imm a f 22 h c)),(1,(.imm b g 22 i d)),(6,(iv y)),(7,(op 0)),(8,(op 1)),(9,(iv o))],(hq [(bP c 0 l),(bP d 0 m)])⟩
def N' (a:LA) (f:Nat) (h c:Bool) (b:LA) (g:Nat) (i d:Bool) (l m:LA) (K:St→O R):=fun r s w=>K ⟨[(0,(.imm a f 22 h c)),(1,(.imm b g 22 i d)),(5,(.bool r)),(6,(iv s)),(7,(op 0)),(8,(op 1)),(9,(iv w))],(hq [(bP c 0 l),(bP d 0 m)])⟩
def mB (a:LA) (f:Nat) (h c:Bool) (b:LA) (g:Nat) (i d:Bool) (K:St→O R):=fun t u l m=>K ⟨[(0,(.imm a f 22 h c)),(1,(.imm b g 22 i d)),(5,(.bool t)),(6,(iv u)),(7,(op 0)),(8,(op 1))],(hq [(bP c 0 l),(bP d 0 m)])⟩
def mC (a:LA) (f:Nat) (h c:Bool) (b:LA) (g:Nat) (i d:Bool) (K:St→O R):=fun j=>K ⟨[(0,(.imm a f 22 h c)),(1,(.imm b g 22 i d)),(6,(iv j))],[]⟩
def Ev (a:LA) (f:Nat) (h c:Bool) (b:LA) (g:Nat) (i d:Bool) (K:St→O R):=fun v x=>K ⟨[(0,(.imm a f 22 h c)),(1,(.imm b g 22 i d)),(5,(.bool v)),(6,(iv x))],[]⟩
theorem c_ (Q0 Q3) (F:KF R) (a f h c b g i d l m):mA a f h c b g i d l m (Bq (Mk N F (pz 1413547329) [Q0,Q3]))=(Ru N (Ev a f h c b g i d Q0) (N' a f h c b g i d l m Q3) (Bh F) a f h c b g i d l m):=by kernel_rfl
theorem dA (Q0) (F:KF R) (a f h c b g i d l m):∀ n,N' a f h c b g i d l m (Ap (Mk N F (pz 88346708) [Q0]) n)=(Eu N (Ev a f h c b g i d Q0) (Bh F) a f h c b g i d l m n):=Fs fun n e=>(BL (Py N (Ev a f h c b g i d Q0) (Bh F) a f h c b g i d l m) e ((jW ..).trans ((c_ ..).trans (pK (Ru _ _ · _ _ _ _ _ _ _ _ _ _ _) e))):_)
theorem dB (Q0) (F:KF R) (a f h c b g i d):mB a f h c b g i d (Bq (Mk N F (pz 5521669) [Q0]))=(Rv N (Ev a f h c b g i d Q0) (Bh F) a f h c b g i d):=(Cs (Wg N (Ev a f h c b g i d Q0) (Bh F) a f h c b g i d) (VO fun l m=>(lW ..).trans (dA ..)):_)
theorem dC (Q0) (F:KF R) (a f h c b g i d):mC a f h c b g i d (Bq (Mk N F (pz 21569) [Q0]))=(Rw N (Ev a f h c b g i d Q0) (Bh F) a f h c b g i d):=(Cs (Wh N (Ev a f h c b g i d Q0) (Bh F) a f h c b g i d) ((jW ..).trans (dB ..)):_)
theorem dD (F:KF R) (a f h c b g i d):∀ n,Ev a f h c b g i d (Ap (Mk N F (pz 1348) []) n)=(Cn N (Bh F) a f h c b g i d n):=Fs fun n e=>(BL (Pz N (Bh F) a f h c b g i d) e ((jW ..).trans ((dC ..).trans (pK (Rw _ · _ _ _ _ _ _ _ _ _) e))):_)
def qW:=Cp N 28 (TR N) N_ (fun
 | [(.imm a f 22 h c),(.imm b g 22 i d)],[]=>some fun _ k=>S8 N a f h c b g i d (Bh k)
 | _,_=>none) fun _ _=>by split;intro R F;exact(Cs (Wi N (Bh F) · _ _ _ _ _ _ _ _) ((lW ..).trans (dD ..)):_).trans (KO ..).symm;trivial
def P0 (N:Nat) (k0:Bool→Int→O R) (r0:Bool→O R) (a:LA) (c:Nat) (f g:Bool) (b:LA) (d:Nat) (h i:Bool) (j:Int):O R :=
 (cond (Ag j c) (cond (ble 9 ((a.drop ((j.toNat)*9)).length)) (cond (Ag j d) (cond (ble 9 ((b.drop ((j.toNat)*9)).length)) (cond ((ble 1 9)&&((beq (((a.drop ((j.toNat)*9)).take 9).length) 9)&&((beq (((b.drop ((j.toNat)*9)).take 9).length) 9)&&(true&&(!false))))) (Li ((a.drop ((j.toNat)*9)).take 9) fun o=>Li ((b.drop ((j.toNat)*9)).take 9) fun p=>Aw .i64 (((a.drop ((j.toNat)*9)).take 9).drop 1) fun q=>Aw .i64 (((b.drop ((j.toNat)*9)).take 9).drop 1) fun r=>Aw .i64 (((a.drop ((j.toNat)*9)).take 9).drop 2) fun s=>Aw .i64 (((b.drop ((j.toNat)*9)).take 9).drop 2) fun t=>Aw .i64 (((a.drop ((j.toNat)*9)).take 9).drop 3) fun u=>Aw .i64 (((b.drop ((j.toNat)*9)).take 9).drop 3) fun v=>Aw .i64 (((a.drop ((j.toNat)*9)).take 9).drop 4) fun w=>Aw .i64 (((b.drop ((j.toNat)*9)).take 9).drop 4) fun x=>Aw .i64 (((a.drop ((j.toNat)*9)).take 9).drop 5) fun y=>Aw .i64 (((b.drop ((j.toNat)*9)).take 9).drop 5) fun z=>Aw .i64 (((a.drop ((j.toNat)*9)).take 9).drop 6) fun aa=>Aw .i64 (((b.drop ((j.toNat)*9)).take 9).drop 6) fun ab=>Aw .i64 (((a.drop ((j.toNat)*9)).take 9).drop 7) fun ac=>Aw .i64 (((b.drop ((j.toNat)*9)).take 9).drop 7) fun ad=>Aw .i64 ((((a.drop ((j.toNat)*9)).take 9).drop 7).drop 1) fun ae=>Aw .i64 ((((b.drop ((j.toNat)*9)).take 9).drop 7).drop 1) fun af=>k0 ((o==p)&&((q==r)&&((s==t)&&((u==v)&&((w==x)&&((y==z)&&((aa==ab)&&(((ac==ad)&&((ae==af)&&true))&&true)))))))) (wrap .i64 (j+1))) none) none) none) none) none)
def Ny (N:Nat) (r0:Bool→O R) (a:LA) (c:Nat) (f g:Bool) (b:LA) (d:Nat) (h i:Bool) (k0:Bool→Int→O R) (q1:Int→O R) (l:Bool) (m:Int):O R :=
 (cond ((decide (m<(c:Int)))==true) (cond (cond true l false) (q1 m) (r0 l)) (r0 l))
def D1 (r0:Bool→O R) (a:LA) (c:Nat) (f g:Bool) (b:LA) (d:Nat) (h i:Bool):Nat→Bool→Int→O R
 | 0=>fun _ _=>none
 | n+1=>Ny N r0 a c f g b d h i (D1 r0 a c f g b d h i n) (P0 N (D1 r0 a c f g b d h i n) r0 a c f g b d h i)
def Tu (N:Nat) (r0:Bool→O R) (q0:Bool→Int→O R) (a:LA) (c:Nat) (f g:Bool) (b:LA) (d:Nat) (h i:Bool):O R :=
 (q0 ((c:Int)==(d:Int)) 0)
def Qw:=(Ac fun N a c f g b d h i r0=>Tu (R:=R) N r0 (D1 N r0 a c f g b d h i N) a c f g b d h i).1
theorem HN (a c f g b d h i r0):(@Qw R N a c f g b d h i r0)=(Tu N r0 (D1 N r0 a c f g b d h i N) a c f g b d h i):=by rw[Qw,(Ac _).2]
def KP (F:KF R):=Mw Tryz.f29 nX [] [] N F
def jb (a:LA) (c:Nat) (f g:Bool) (b:LA) (d:Nat) (h i:Bool) (K:St→O R):=fun j=>K ⟨[(0,(.imm a c 9 f g)),(1,(.imm b d 9 h i)),(6,(iv j))],[]⟩
def KQ (a:LA) (c:Nat) (f g:Bool) (b:LA) (d:Nat) (h i:Bool) (K:St→O R):=fun l m=>K ⟨[(0,(.imm a c 9 f g)),(1,(.imm b d 9 h i)),(5,(.bool l)),(6,(iv m))],[]⟩
theorem YD (Q0) (F:KF R) (a c f g b d h i):jb a c f g b d h i (Bq (KP N F (pz 21569) [Q0]))=(P0 N (KQ a c f g b d h i Q0) (Bh F) a c f g b d h i):=by kernel_rfl
theorem YE (F:KF R) (a c f g b d h i):∀ n,KQ a c f g b d h i (Ap (KP N F (pz 1348) []) n)=(D1 N (Bh F) a c f g b d h i n):=Fs fun n e=>(BL (Ny N (Bh F) a c f g b d h i) e ((jW ..).trans ((YD ..).trans (pK (P0 _ · _ _ _ _ _ _ _ _ _) e))):_)
def mD:=Cp N 29 [] nX (fun
 | [(.imm a c 9 f g),(.imm b d 9 h i)],[]=>some fun _ k=>Qw N a c f g b d h i (Bh k)
 | _,_=>none) fun _ _=>by split;intro R F;exact(Cs (Tu N (Bh F) · _ _ _ _ _ _ _ _) ((lW ..).trans (YE ..)):_).trans (HN ..).symm;trivial
def Tv (k0:Bool→Int→O R) (r0:Bool→O R) (a:LA) (c:Nat) (h d:Bool) (b:LA) (g:Nat) (i f:Bool) (j:Int):O R :=
 (cond (Ag j c) (cond (ble 5 ((a.drop ((j.toNat)*5)).length)) (cond (Ag j g) (cond (ble 5 ((b.drop ((j.toNat)*5)).length)) (cond ((beq 0 0)&&((beq (((a.drop ((j.toNat)*5)).take 5).length) 5)&&(beq 5 5))) (cond ((beq 0 0)&&((beq (((b.drop ((j.toNat)*5)).take 5).length) 5)&&(beq 5 5))) (Li ((a.drop ((j.toNat)*5)).take 5) fun o=>Li ((b.drop ((j.toNat)*5)).take 5) fun p=>cond ((o==p)==true) (Aw .i64 (((a.drop ((j.toNat)*5)).take 5).drop 1) fun q=>Aw .i64 (((b.drop ((j.toNat)*5)).take 5).drop 1) fun r=>cond ((cond true (q==r) false)==true) (Bb 1 (((a.drop ((j.toNat)*5)).take 5).drop 2) fun s t=>Bb 1 (((b.drop ((j.toNat)*5)).take 5).drop 2) fun u v=>Kn N s t false d u v false f fun w=>cond ((cond true w false)==true) (Bb 1 (((a.drop ((j.toNat)*5)).take 5).drop 3) fun x y=>Bb 1 (((b.drop ((j.toNat)*5)).take 5).drop 3) fun z aa=>Kn N x y false d z aa false f fun ab=>cond ((cond true ab false)==true) (Bb 1 (((a.drop ((j.toNat)*5)).take 5).drop 4) fun ac ad=>Bb 1 (((b.drop ((j.toNat)*5)).take 5).drop 4) fun ae af=>Kn N ac ad false d ae af false f fun ag=>k0 (cond true ag false) (wrap .i64 (j+1))) (k0 false (wrap .i64 (j+1)))) (k0 false (wrap .i64 (j+1)))) (k0 false (wrap .i64 (j+1)))) (k0 false (wrap .i64 (j+1)))) none) none) none) none) none) none)
def Rx (N:Nat) (r0:Bool→O R) (a:LA) (c:Nat) (h d:Bool) (b:LA) (g:Nat) (i f:Bool) (k0:Bool→Int→O R) (q1:Int→O R) (l:Bool) (m:Int):O R :=
 (cond ((decide (m<(c:Int)))==true) (cond (cond true l false) (q1 m) (r0 l)) (r0 l))
def Hr (r0:Bool→O R) (a:LA) (c:Nat) (h d:Bool) (b:LA) (g:Nat) (i f:Bool):Nat→Bool→Int→O R
 | 0=>fun _ _=>none
 | n+1=>Rx N r0 a c h d b g i f (Hr r0 a c h d b g i f n) (Tv N (Hr r0 a c h d b g i f n) r0 a c h d b g i f)
def Zy (N:Nat) (r0:Bool→O R) (q0:Bool→Int→O R) (a:LA) (c:Nat) (h d:Bool) (b:LA) (g:Nat) (i f:Bool):O R :=
 (q0 ((c:Int)==(g:Int)) 0)
def Wj:=(Ac fun N a c h d b g i f r0=>Zy (R:=R) N r0 (Hr N r0 a c h d b g i f N) a c h d b g i f).1
theorem OA (a c h d b g i f r0):(@Wj R N a c h d b g i f r0)=(Zy N r0 (Hr N r0 a c h d b g i f N) a c h d b g i f):=by rw[Wj,(Ac _).2]
def YF:Wp:=[Yq N]
def TS (F:KF R):=Mw Tryz.f30 nX (YF N) [] N F
def qX (a:LA) (c:Nat) (h d:Bool) (b:LA) (g:Nat) (i f:Bool) (K:St→O R):=fun j=>K ⟨[(0,(.imm a c 5 h d)),(1,(.imm b g 5 i f)),(6,(iv j))],[]⟩
def TT (a:LA) (c:Nat) (h d:Bool) (b:LA) (g:Nat) (i f:Bool) (K:St→O R):=fun l m=>K ⟨[(0,(.imm a c 5 h d)),(1,(.imm b g 5 i f)),(5,(.bool l)),(6,(iv m))],[]⟩
theorem ff (Q0) (F:KF R) (a c h d b g i f):qX a c h d b g i f (Bq (TS N F (pz 21569) [Q0]))=(Tv N (TT a c h d b g i f Q0) (Bh F) a c h d b g i f):=by kernel_rfl
theorem fg (F:KF R) (a c h d b g i f):∀ n,TT a c h d b g i f (Ap (TS N F (pz 1348) []) n)=(Hr N (Bh F) a c h d b g i f n):=Fs fun n e=>(BL (Rx N (Bh F) a c h d b g i f) e ((jW ..).trans ((ff ..).trans (pK (Tv _ · _ _ _ _ _ _ _ _ _) e))):_)
def t8:=Cp N 30 (YF N) nX (fun
 | [(.imm a c 5 h d),(.imm b g 5 i f)],[]=>some fun _ k=>Wj N a c h d b g i f (Bh k)
 | _,_=>none) fun _ _=>by split;intro R F;exact(Cs (Zy N (Bh F) · _ _ _ _ _ _ _ _) ((lW ..).trans (fg ..)):_).trans (OA ..).symm;trivial
def Nz (N:Nat) (k0:Bool→Int→O R) (k3:Bool→Int→Int→O R) (r0:Bool→O R) (a:LA) (f:Nat) (h c:Bool) (b:LA) (g:Nat) (i d:Bool) (l m:LA) (y o:Int):O R :=
 (Bb 3 (l.drop 3) fun p z=>cond (Ag o z) (cond (ble 3 ((p.drop ((o.toNat)*3)).length)) (cond ((!c)||(A2 ((p.drop ((o.toNat)*3)).take 3))) (Bb 3 (m.drop 3) fun q aa=>cond (Ag o aa) (cond (ble 3 ((q.drop ((o.toNat)*3)).length)) (cond ((!d)||(A2 ((q.drop ((o.toNat)*3)).take 3))) (cond ((ble 1 3)&&((beq (((p.drop ((o.toNat)*3)).take 3).length) 3)&&((beq (((q.drop ((o.toNat)*3)).take 3).length) 3)&&(true&&(!false))))) (Aw .i64 ((p.drop ((o.toNat)*3)).take 3) fun ab=>Aw .i64 ((q.drop ((o.toNat)*3)).take 3) fun ac=>Aw .i64 (((p.drop ((o.toNat)*3)).take 3).drop 1) fun ad=>Aw .i64 (((q.drop ((o.toNat)*3)).take 3).drop 1) fun ae=>Aw .i64 (((p.drop ((o.toNat)*3)).take 3).drop 2) fun af=>Aw .i64 (((q.drop ((o.toNat)*3)).take 3).drop 2) fun ag=>k3 ((ab==ac)&&((ad==ae)&&((af==ag)&&true))) y (wrap .i64 (o+1))) none) none) none) none) none) none) none)
def Lw (N:Nat) (k0:Bool→Int→O R) (r0:Bool→O R) (a:LA) (f:Nat) (h c:Bool) (b:LA) (g:Nat) (i d:Bool) (l m:LA) (k3:Bool→Int→Int→O R) (q4:Int→Int→O R) (r:Bool) (s w:Int):O R :=
 (Bb 3 (l.drop 3) fun av ah=>cond ((decide (w<(ah:Int)))==true) (cond (cond true r false) (q4 s w) (k0 r (wrap .i64 (s+1)))) (k0 r (wrap .i64 (s+1))))
def Do (k0:Bool→Int→O R) (r0:Bool→O R) (a:LA) (f:Nat) (h c:Bool) (b:LA) (g:Nat) (i d:Bool) (l m:LA):Nat→Bool→Int→Int→O R
 | 0=>fun _ _ _=>none
 | n+1=>Lw N k0 r0 a f h c b g i d l m (Do k0 r0 a f h c b g i d l m n) (Nz N k0 (Do k0 r0 a f h c b g i d l m n) r0 a f h c b g i d l m)
def Sh (N:Nat) (k0:Bool→Int→O R) (r0:Bool→O R) (a:LA) (f:Nat) (h c:Bool) (b:LA) (g:Nat) (i d:Bool) (q3:LA→LA→Bool→Int→Int→O R) (t:Bool) (u:Int) (l m:LA):O R :=
 (q3 l m t u 0)
def N0 (k0:Bool→Int→O R) (r0:Bool→O R) (a:LA) (f:Nat) (h c:Bool) (b:LA) (g:Nat) (i d:Bool) (t:Bool) (u:Int) (l m:LA):O R:=(Sh N k0 r0 a f h c b g i d (fun l m=>Do N k0 r0 a f h c b g i d l m N) t u l m)
def Si (k0:Bool→Int→O R) (r0:Bool→O R) (a:LA) (f:Nat) (h c:Bool) (b:LA) (g:Nat) (i d:Bool) (q2:Bool→Int→LA→LA→O R) (j:Int):O R :=
 (cond (Ag j f) (cond (ble 4 ((a.drop ((j.toNat)*4)).length)) (cond (Ag j g) (cond (ble 4 ((b.drop ((j.toNat)*4)).length)) (cond ((beq 0 0)&&((beq (((a.drop ((j.toNat)*4)).take 4).length) 4)&&(beq 4 4))) (cond ((beq 0 0)&&((beq (((b.drop ((j.toNat)*4)).take 4).length) 4)&&(beq 4 4))) (Li ((a.drop ((j.toNat)*4)).take 4) fun ai=>Li ((b.drop ((j.toNat)*4)).take 4) fun aj=>cond ((ai==aj)==true) (Bb 1 (((a.drop ((j.toNat)*4)).take 4).drop 1) fun ak al=>Bb 1 (((b.drop ((j.toNat)*4)).take 4).drop 1) fun am an=>Kn N ak al false c am an false d fun ao=>cond ((cond true ao false)==true) (OP (((a.drop ((j.toNat)*4)).take 4).drop 2) fun ap=>OP (((b.drop ((j.toNat)*4)).take 4).drop 2) fun aq=>cond ((cond true (ap==aq) false)==true) (Bb 3 (((a.drop ((j.toNat)*4)).take 4).drop 3) fun aw ar=>Bb 3 (((b.drop ((j.toNat)*4)).take 4).drop 3) fun ax au=>q2 (cond true ((ar:Int)==(au:Int)) false) j ((a.drop ((j.toNat)*4)).take 4) ((b.drop ((j.toNat)*4)).take 4)) (q2 false j ((a.drop ((j.toNat)*4)).take 4) ((b.drop ((j.toNat)*4)).take 4))) (q2 false j ((a.drop ((j.toNat)*4)).take 4) ((b.drop ((j.toNat)*4)).take 4))) (q2 false j ((a.drop ((j.toNat)*4)).take 4) ((b.drop ((j.toNat)*4)).take 4))) none) none) none) none) none) none)
def N1 (k0:Bool→Int→O R) (r0:Bool→O R) (a:LA) (f:Nat) (h c:Bool) (b:LA) (g:Nat) (i d:Bool) (j:Int):O R:=(Si N k0 r0 a f h c b g i d (N0 N k0 r0 a f h c b g i d) j)
def Lx (N:Nat) (r0:Bool→O R) (a:LA) (f:Nat) (h c:Bool) (b:LA) (g:Nat) (i d:Bool) (k0:Bool→Int→O R) (q1:Int→O R) (v:Bool) (x:Int):O R :=
 (cond ((decide (x<(f:Int)))==true) (cond (cond true v false) (q1 x) (r0 v)) (r0 v))
def B0 (r0:Bool→O R) (a:LA) (f:Nat) (h c:Bool) (b:LA) (g:Nat) (i d:Bool):Nat→Bool→Int→O R
 | 0=>fun _ _=>none
 | n+1=>Lx N r0 a f h c b g i d (B0 r0 a f h c b g i d n) (N1 N (B0 r0 a f h c b g i d n) r0 a f h c b g i d)
def Ry (N:Nat) (r0:Bool→O R) (q0:Bool→Int→O R) (a:LA) (f:Nat) (h c:Bool) (b:LA) (g:Nat) (i d:Bool):O R :=
 (q0 ((f:Int)==(g:Int)) 0)
def Oi:=(Ac fun N a f h c b g i d r0=>Ry (R:=R) N r0 (B0 N r0 a f h c b g i d N) a f h c b g i d).1
theorem DF (a f h c b g i d r0):(@Oi R N a f h c b g i d r0)=(Ry N r0 (B0 N r0 a f h c b g i d N) a f h c b g i d):=by rw[Oi,(Ac _).2]
def HO:Hints:={ H:=(hK 2 (hS (hK 1 (hS (hP [0,1,5,6] (hJ [0,1,6] hL (hS (hS (hK 1 (hJ [0,1,5,6,7,8] hL (hK 1 (hS (hP [0,1,5,6,7,8,9] (hJ [0,1,6,7,8,9] hL hL)) hL)))) hL) hL))) hL)) hL)) }
def KR:Wp:=[Yq N]
def I3 (F:KF R):=Mw Tryz.f31 HO (KR N) [] N F
def fh (a:LA) (f:Nat) (h c:Bool) (b:LA) (g:Nat) (i d:Bool) (l m:LA) (K:St→O R):=fun y o=>K ⟨[(0,(.imm a f 4 h c)),(1,(.imm b g 4 i d)),(6,(iv y)),(7,(op 0)),(8,(op 1)),(9,(iv o))],(hq [(bP c 0 l),(bP d 0 m)])⟩
def HP (a:LA) (f:Nat) (h c:Bool) (b:LA) (g:Nat) (i d:Bool) (l m:LA) (K:St→O R):=fun r s w=>K ⟨[(0,(.imm a f 4 h c)),(1,(.imm b g 4 i d)),(5,(.bool r)),(6,(iv s)),(7,(op 0)),(8,(op 1)),(9,(iv w))],(hq [(bP c 0 l),(bP d 0 m)])⟩
def fi (a:LA) (f:Nat) (h c:Bool) (b:LA) (g:Nat) (i d:Bool) (K:St→O R):=fun t u l m=>K ⟨[(0,(.imm a f 4 h c)),(1,(.imm b g 4 i d)),(5,(.bool t)),(6,(iv u)),(7,(op 0)),(8,(op 1))],(hq [(bP c 0 l),(bP d 0 m)])⟩
def fj (a:LA) (f:Nat) (h c:Bool) (b:LA) (g:Nat) (i d:Bool) (K:St→O R):=fun j=>K ⟨[(0,(.imm a f 4 h c)),(1,(.imm b g 4 i d)),(6,(iv j))],[]⟩
def Dp (a:LA) (f:Nat) (h c:Bool) (b:LA) (g:Nat) (i d:Bool) (K:St→O R):=fun v x=>K ⟨[(0,(.imm a f 4 h c)),(1,(.imm b g 4 i d)),(5,(.bool v)),(6,(iv x))],[]⟩
theorem UK (Q0 Q3) (F:KF R) (a f h c b g i d l m):fh a f h c b g i d l m (Bq (I3 N F (pz 1413547329) [Q0,Q3]))=(Nz N (Dp a f h c b g i d Q0) (HP a f h c b g i d l m Q3) (Bh F) a f h c b g i d l m):=by kernel_rfl
theorem UL (Q0) (F:KF R) (a f h c b g i d l m):∀ n,HP a f h c b g i d l m (Ap (I3 N F (pz 88346708) [Q0]) n)=(Do N (Dp a f h c b g i d Q0) (Bh F) a f h c b g i d l m n):=Fs fun n e=>(BL (Lw N (Dp a f h c b g i d Q0) (Bh F) a f h c b g i d l m) e ((jW ..).trans ((UK ..).trans (pK (Nz _ _ · _ _ _ _ _ _ _ _ _ _ _) e))):_)
theorem UM (Q0) (F:KF R) (a f h c b g i d):fi a f h c b g i d (Bq (I3 N F (pz 5521669) [Q0]))=(N0 N (Dp a f h c b g i d Q0) (Bh F) a f h c b g i d):=(Cs (Sh N (Dp a f h c b g i d Q0) (Bh F) a f h c b g i d) (VO fun l m=>(lW ..).trans (UL ..)):_)
theorem UN (Q0) (F:KF R) (a f h c b g i d):fj a f h c b g i d (Bq (I3 N F (pz 21569) [Q0]))=(N1 N (Dp a f h c b g i d Q0) (Bh F) a f h c b g i d):=(Cs (Si N (Dp a f h c b g i d Q0) (Bh F) a f h c b g i d) ((jW ..).trans (UM ..)):_)
theorem UO (F:KF R) (a f h c b g i d):∀ n,Dp a f h c b g i d (Ap (I3 N F (pz 1348) []) n)=(B0 N (Bh F) a f h c b g i d n):=Fs fun n e=>(BL (Lx N (Bh F) a f h c b g i d) e ((jW ..).trans ((UN ..).trans (pK (N1 _ · _ _ _ _ _ _ _ _ _) e))):_)
def jc:=Cp N 31 (KR N) HO (fun
 | [(.imm a f 4 h c),(.imm b g 4 i d)],[]=>some fun _ k=>Oi N a f h c b g i d (Bh k)
 | _,_=>none) fun _ _=>by split;intro R F;exact(Cs (Ry N (Bh F) · _ _ _ _ _ _ _ _) ((lW ..).trans (UO ..)):_).trans (DF ..).symm;trivial
def fk (a:LA) (c:Bool) (b:LA) (d:Bool) (r0:Bool→O R):O R :=
 (Aw .i64 a fun e=>Aw .i64 b fun f=>cond ((e==f)==true) (Bb 1 (a.drop 1) fun g h=>Bb 1 (b.drop 1) fun i j=>Kn N g h false c i j false d fun l=>cond ((cond true l false)==true) (Bb 3 (a.drop 2) fun m n=>Bb 3 (b.drop 2) fun o p=>S6 N m n false c o p false d fun q=>cond ((cond true q false)==true) (Bb 12 (a.drop 3) fun r s=>Bb 12 (b.drop 3) fun t u=>S7 N r s false c t u false d fun v=>cond ((cond true v false)==true) (Bb 22 (a.drop 4) fun w x=>Bb 22 (b.drop 4) fun y z=>S8 N w x false c y z false d fun aa=>cond ((cond true aa false)==true) (Bb 9 (a.drop 5) fun ab ac=>Bb 9 (b.drop 5) fun ad ae=>Qw N ab ac false c ad ae false d fun af=>cond ((cond true af false)==true) (Bb 5 (a.drop 6) fun ag ah=>Bb 5 (b.drop 6) fun ai aj=>Wj N ag ah false c ai aj false d fun ak=>cond ((cond true ak false)==true) (Bb 4 (a.drop 7) fun al am=>Bb 4 (b.drop 7) fun an ao=>Oi N al am false c an ao false d fun ap=>r0 (cond true ap false)) (r0 false)) (r0 false)) (r0 false)) (r0 false)) (r0 false)) (r0 false)) (r0 false))
def OB:=(Ac (@fk R)).1
theorem eP:@OB R=@fk R:=(Ac _).2
def Ad5:=Cp N 12 [Yq N,qU N,qV N,qW N,mD N,t8 N,jc N] Ca (fun
 | [(.pagg a c),(.pagg b d)],[]=>some fun _ k=>OB N a c b d (Bh k)
 | _,_=>none) fun _ _=>by split;intro R F;dsimp only;rw[eP];kernel_rfl;trivial
def mE (N:Nat) (c:LA) (b:Nat) (d e:Bool) (a:Int) (r0:Int→O R):O R :=
 (cond (decide (a<(b:Int))) (cond (Ag a b) (Aw .u8 (c.drop ((a.toNat)*1)) fun f=>r0 (wrap .i64 f)) none) (r0 0))
def YG:=(Ac (@mE R)).1
theorem jd:@YG R=@mE R:=(Ac _).2
def Ahf:=Cp N 9 [] Ca (fun
 | [(.imm c b 1 d e),(.int .i64 a)],[]=>some fun _ k=>YG N c b d e a (Jc k)
 | _,_=>none) fun _ _=>by split;intro R F;dsimp only;rw[jd];kernel_rfl;trivial
def G3 (k0:Lu→Int→Int→Int→O R) (r0:Bool→O R) (a:LA) (b:Nat) (h c:Bool) (d:LA) (f:Nat) (i g:Bool) (j:Nat) (m:Int) (p:LA) (o:Nat) (l:LA) (k1:Lu→Int→Int→Int→Int→O R) (q:Lu) (r v w s:Int):O R :=
 (cond (decide (s<w)) (cond (Ag s o) (Li (p.drop ((s.toNat)*1)) fun x=>YG N d f false g r fun ab=>cond (Ag (Int.tmod ab 4) 4) (Li (drop (0+(((Int.tmod ab 4).toNat)*1)) [(.str ([32]:Lu)),(.str ([9]:Lu)),(.str ([32,32]:Lu)),(.str ([32,13,32]:Lu))]) fun y=>cond (ble ((x.length)+(y.length)) 140737488355328) (cond (ble ((q.length)+(List.length (x++y))) 140737488355328) (k1 (q++(x++y)) (wrap .i64 (r+1)) v w (wrap .i64 (s+1))) none) none) none) none) (YG N d f false g r fun ac=>cond (Ag (Int.tmod ac 4) 4) (Li (drop (0+(((Int.tmod ac 4).toNat)*1)) [(.str ([10]:Lu)),(.str ([32,35,32,120,10]:Lu)),(.str ([10,10,32,32,10]:Lu)),(.str ([35,10]:Lu))]) fun ad=>cond (ble ((q.length)+(ad.length)) 140737488355328) (k0 (q++ad) r m (wrap .i64 (v+1))) none) none))
def Co (k0:Lu→Int→Int→Int→O R) (r0:Bool→O R) (a:LA) (b:Nat) (h c:Bool) (d:LA) (f:Nat) (i g:Bool) (j:Nat) (m:Int) (p:LA) (o:Nat) (l:LA):Nat→Lu→Int→Int→Int→Int→O R
 | 0=>fun _ _ _ _ _=>none
 | n+1=>G3 N k0 r0 a b h c d f i g j m p o l (Co k0 r0 a b h c d f i g j m p o l n)
def G4 (r0:Bool→O R) (a:LA) (b:Nat) (h c:Bool) (d:LA) (f:Nat) (i g:Bool) (j:Nat) (l:LA) (k0:Lu→Int→Int→Int→O R) (q1:Int→LA→Nat→Lu→Int→Int→Int→Int→O R) (u:Lu) (z m t:Int):O R :=
 (cond (decide (t<m)) (cond (Ag t j) (Bb 1 (l.drop (0+((t.toNat)*1))) fun p o=>q1 m p o u z t (o:Int) 0) none) (cond (decide ((((u.length):Nat):Int)>1048576)) (AJ N fun ae=>r0 ae) (NV N u fun aa af ag=>cond ((beq 0 0)&&((beq (aa.length) 8)&&(beq 8 8))) (AJ N fun ah=>cond (ah==true) (cond ((cond true (ag==0) false)==true) (cond ((cond true (af==0) false)==true) (cond (ble 8 (aa.length)) (JL N a b false c fun ai=>OB N (aa.take 8) false ai false fun aj=>r0 (cond true aj false)) none) (r0 false)) (r0 false)) (r0 false)) none)))
def Bs (r0:Bool→O R) (a:LA) (b:Nat) (h c:Bool) (d:LA) (f:Nat) (i g:Bool) (j:Nat) (l:LA):Nat→Lu→Int→Int→Int→O R
 | 0=>fun _ _ _ _=>none
 | n+1=>G4 N r0 a b h c d f i g j l (Bs r0 a b h c d f i g j l n) (fun m p o=>Co N (Bs r0 a b h c d f i g j l n) r0 a b h c d f i g j m p o l N)
def Jb (r0:Bool→O R) (q0:Nat→LA→Lu→Int→Int→Int→O R) (a:LA) (b:Nat) (h c:Bool) (d:LA) (f:Nat) (i g:Bool):O R :=
 (RE N a b false c fun ak=>lP N ak fun j l=>q0 j l ([35,32,102,105,114,115,116,10]:Lu) 0 (j:Int) 0)
def Ko:=(Ac fun N a b h c d f i g r0=>Jb (R:=R) N r0 (fun j l=>Bs N r0 a b h c d f i g j l N) a b h c d f i g).1
theorem Ta (a b h c d f i g r0):(@Ko R N a b h c d f i g r0)=(Jb N r0 (fun j l=>Bs N r0 a b h c d f i g j l N) a b h c d f i g):=by rw[Ko,(Ac _).2]
def Ur:Hints:={ H:=(hK 5 (hS (hK 1 (hS (hP [0,1,5,6,7,8,20,21,22] (hK 2 (hS (hS (hK 1 (hS (hK 1 (hS (hP [0,1,5,6,7,8,20,21,22,26,27,28] hL) hL)) hL)) hL) hL))) hL)) hL)) }
def Wk:Wp:=[zm N,Ac4 N,vE N,Ahe N,xH N,Ad5 N,Ahf N]
def Us (F:KF R):=Mw Tryz.f3 Ur (Wk N) [] N F
def OC (a:LA) (b:Nat) (h c:Bool) (d:LA) (f:Nat) (i g:Bool) (j:Nat) (m:Int) (p:LA) (o:Nat) (l:LA) (K:St→O R):=fun q r v w s=>K ⟨[(0,(.imm a b 1 h c)),(1,(.imm d f 1 i g)),(5,(.own 300000 0 4)),(6,(.own 300001 0 4)),(7,(.str q)),(8,(iv r)),(20,(.own 300002 0 j)),(21,(iv m)),(22,(iv v)),(26,(.imm p o 1 false false)),(27,(iv w)),(28,(iv s))],(hq [(bQ 1 [(.str ([32]:Lu)),(.str ([9]:Lu)),(.str ([32,32]:Lu)),(.str ([32,13,32]:Lu))]),(bQ 1 [(.str ([10]:Lu)),(.str ([32,35,32,120,10]:Lu)),(.str ([10,10,32,32,10]:Lu)),(.str ([35,10]:Lu))]),(bQ 1 l)])⟩
def Ml (a:LA) (b:Nat) (h c:Bool) (d:LA) (f:Nat) (i g:Bool) (j:Nat) (l:LA) (K:St→O R):=fun u z m t=>K ⟨[(0,(.imm a b 1 h c)),(1,(.imm d f 1 i g)),(5,(.own 300000 0 4)),(6,(.own 300001 0 4)),(7,(.str u)),(8,(iv z)),(20,(.own 300002 0 j)),(21,(iv m)),(22,(iv t))],(hq [(bQ 1 [(.str ([32]:Lu)),(.str ([9]:Lu)),(.str ([32,32]:Lu)),(.str ([32,13,32]:Lu))]),(bQ 1 [(.str ([10]:Lu)),(.str ([32,35,32,120,10]:Lu)),(.str ([10,10,32,32,10]:Lu)),(.str ([35,10]:Lu))]),(bQ 1 l)])⟩
theorem HQ (Q0) (F:KF R) (a b h c d f i g j m p o l):∀ n,OC a b h c d f i g j m p o l (Ap (Us N F (pz 22901968964) [Q0]) n)=(Co N (Ml a b h c d f i g j l Q0) (Bh F) a b h c d f i g j m p o l n):=Fs fun n e=>(Cs (G3 N (Ml a b h c d f i g j l Q0) (Bh F) a b h c d f i g j m p o l) e:_)
theorem HR (F:KF R) (a b h c d f i g j l):∀ n,Ml a b h c d f i g j l (Ap (Us N F (pz 87364) []) n)=(Bs N (Bh F) a b h c d f i g j l n):=Fs fun n e=>(BL (G4 N (Bh F) a b h c d f i g j l) e (Aq6 fun m p o=>(lW ..).trans ((HQ ..).trans (pK (Co _ · _ _ _ _ _ _ _ _ _ _ _ _ _ _ _) e))):_)
def Wl:=Cp N 3 (Wk N) Ur (fun
 | [(.imm a b 1 h c),(.imm d f 1 i g)],[]=>some fun _ k=>Ko N a b h c d f i g (Bh k)
 | _,_=>none) fun _ _=>by split;intro R F;exact(Cs (Jb N (Bh F) · _ _ _ _ _ _ _ _) (VO fun j l=>(lW ..).trans (HR ..)):_).trans (Ta ..).symm;trivial
def Ut:=(Wl N).tw
theorem OD:k8 Tryz.prog 3 (Ut N):=(Wl N).tok
end
end Gx
namespace Gx.Ct
open Go Go.Proofs Gx.Cf
section
variable {R:Type} {N:Nat}
theorem TU {α:Type} {e:α→LA} {sz:Nat} (d:∀ a,(e a).length=sz) {l:List α} {j:Nat} (h:j<l.length):drop (Int.toNat (j:Int)*sz) (l.flatMap e)=e l[j]++(l.drop (j+1)).flatMap e:=by
 rw[A1d,Bi d l j h]
theorem D2 {α:Type} {e:α→LA} {sz:Nat} (d:∀ a,(e a).length=sz) {l:List α} {j:Nat} (h:j<l.length):take sz (drop (Int.toNat (j:Int)*sz) (l.flatMap e))=e l[j]:=by
 rw[TU d h,List.take_append_of_le_length (by rw[d];exact A1h _),A1c (by rw[d];exact A1h _)]
theorem Hd {α:Type} {e:α→LA} {sz:Nat} (d:∀ a,(e a).length=sz) {l:List α} {j:Nat} (h:j<l.length):ble sz (drop (Int.toNat (j:Int)*sz) (l.flatMap e)).length=true:=by
 rw[TU d h,A09,d];simp
theorem LW {j:Nat} (h:j<4611686018427387904):wrap .i64 ((j:Int)+1)=((j+1:Nat):Int):=by rw[Gx.i64 (by omega)];omega
theorem Db {α:Type} {l:List α} {j:Nat} (h:j<l.length):l.drop j=l[j]::l.drop (j+1):=A17 h
theorem En {α:Type} {l:List α} {j:Nat} (h:l.length≤j):l.drop j=[]:=A3e h
def Auq (c:CaseD) (t:TieD):Bool:=P' c t.imp&&(P' c t.exp&&P' c t.price)
def Ew:Prop:=∀ z,FQ z→(tx z).length≤30
def At (nw:Nat) (cw:LA) (nx:Int) (r:List Aq):Prop :=
 ∃ p:List Aq,cw=(p++r).map AV.str∧nw=(p++r).length∧nx=(p.length:Int)∧(p++r).length≤2000000
theorem t_ {ws:List Aq} (h:ws.length≤2000000):At ws.length (ws.map AV.str) 0 ws:=⟨[],rfl,rfl,rfl,h⟩
theorem zx {nw:Nat} {cw:LA} {nx:Int} {w:Aq} {r:List Aq} (h:At nw cw nx (w::r)):At nw cw (wrap .i64 (nx+1)) r∧Ag nx nw=true∧decide (nx<(nw:Int))=true∧wrap .i64 ((wrap .i64 (nx+1)) - 1)=nx∧∀ F:Aq→O R,Li (cw.drop (0+nx.toNat*1)) F=F w:=by
 obtain⟨p,e1,d,e3,e4⟩:=h
 have k:(p++w::r).length=p.length+(r.length+1):=by rw[A09];rfl
 have f:wrap .i64 (nx+1)=((p.length+1:Nat):Int):=by rw[e3];exact LW (by omega)
 refine⟨⟨p++[w],?_,?_,?_,?_⟩,?_,?_,?_,?_⟩
 ·rw[e1,A1l];rfl
 ·rw[d,A1l];rfl
 ·rw[f,A09];rfl
 ·rw[A1l];exact e4
 ·rw[d,e3];exact Ab (by omega)
 ·rw[d,e3];exact decide_eq_true (by omega)
 ·rw[f,e3,Gx.i64 (by omega)];omega
 ·intro F
  rw[e1,e3,A2q,show 0+Int.toNat (p.length:Int)*1=(p.map AV.str).length from by rw[A1i];omega,A42]
  rfl
theorem Aur {nw:Nat} {cw:LA} {nx:Int} (h:At nw cw nx []):decide (nx<(nw:Int))=false:=by
 obtain⟨p,e1,d,e3,e4⟩:=h
 rw[A1p] at d
 rw[d,e3];exact decide_eq_false (by omega)
theorem Art {s:RB} {K:Bool→O R}:Ld N s K=K (s.er==0):=by
 rw[JR];rfl
theorem qe {s:RB} (d:s.er=0) {K:Bool→O R} {Y:O R} (k:K true=Y):Ld N s K=Y:=by
 rw[Art,d];exact k
theorem aK {s:RB} {w:Aq} {r:List Aq} (h:At s.nw s.cw s.nx (w::r)) (d:s.er=0) {K:Bool→O R} {Y:O R} (k:K true=Y):Fa N s K=Y:=by
 rw[V3];unfold V2
 refine qe d ?_
 rw[(zx (R:=R) h).2.2.1];exact k
theorem YH {s:RB} (h:At s.nw s.cw s.nx []) (d:s.er=0) {K:Bool→O R} {Y:O R} (k:K false=Y):Fa N s K=Y:=by
 rw[V3];unfold V2
 refine qe d ?_
 rw[Aur h];exact k
theorem Fk {s:RB} {w:Aq} {r:List Aq} (h:At s.nw s.cw s.nx (w::r)) (d:s.er=0) {K:Lu→Bool→Int→Int→O R} {Y:O R} (k:∀ x,At s.nw s.cw x r→K w true x 0=Y):Bt N s K=Y:=by
 rw[JT];unfold GW
 refine aK h d ?_
 obtain⟨f,l,t,n,q⟩:=zx (R:=R) h
 rw[n,l,q,d]
 exact k _ f
theorem Cg {s:RB} {w:Aq} {r:List Aq} (h:At s.nw s.cw s.nx (w::r)) (d:s.er=0) {K:Int→Int→O R} {Y:O R} (k:∀ x,At s.nw s.cw x r→K x 0=Y):Aj N w s K=Y:=by
 rw[GZ];unfold BV
 refine Fk h d fun x hx=>?_
 show cond (cond true (!(w==w)) false) _ _=_
 rw[beq_self_eq_true];exact k x hx
theorem Yr {s:RB} {a w:Aq} {r:List Aq} (h:At s.nw s.cw s.nx (w::r)) (d:s.er=0) {K:Bool→O R} {Y:O R} (k:K (!(w==a))=Y):Gk N a s K=Y:=by
 rw[Qr];unfold Po
 refine aK h d ?_
 obtain⟨n,f,q,t,l⟩:=zx (R:=R) h
 rw[f,l]
 exact k
theorem oS {s:RB} {a:Aq} (h:At s.nw s.cw s.nx []) (d:s.er=0) {K:Bool→O R} {Y:O R} (k:K false=Y):Gk N a s K=Y:=by
 rw[Qr];unfold Po
 exact YH h d k
theorem Ad6 {c:CaseD} {i:Int} (h:Lk i c.buses.l.length=true) {F:Aq→O R}:Li (drop ((Int.toNat i)*3) (c.buses.l.flatMap BusD.av)) F=F (Bc (Cq c) i):=by
 unfold Lk at h
 simp only[A1f,decide_eq_true_eq] at h
 have d:i.toNat<c.buses.l.length:=by omega
 rw[Bi Md _ _ d]
 have e:Bc (Cq c) i=c.buses.l[i.toNat].name:=by
  unfold Bc Cq
  rw[A1m,A3a,A1g d];rfl
 rw[e];rfl
theorem KS {i:Int} {n:Nat} (h:Lk i n=true):Ag i n=true:=by
 unfold Lk at h;unfold Ag
 simp only[A1f,decide_eq_true_eq] at h
 simp;omega
end
end Gx.Ct
namespace Gx.Ct
open Go Go.Proofs Gx.Cf
def Ajf (u:UnitD):List Aq:=[Ve,tx u.noLoad,ku,tx u.rampUp,tx u.rampDown,ZS,tx u.startRamp,kv,tx u.stopRamp,ZT,tx u.upTime,tx u.downTime,tx u.startTime,kw,tx u.hotCost,tx u.coldCost,tx u.hotHours,D6,tx u.reserve,tx u.reservePrice,FO]++(u.away.l.map tx++(Y8::(Xw u.state++[tx u.hours,tx u.output])))
def RY (u:UnitD):Bool:=A3 [u.noLoad,u.rampUp,u.rampDown,u.startRamp,u.stopRamp,u.upTime,u.downTime,u.startTime,u.hotCost,u.coldCost,u.hotHours,u.reserve,u.reservePrice]||(A3 u.away.l||A3 [u.hours,u.output])
end Gx.Ct
namespace Gx.Ct
open Go Go.Proofs Gx.Cf
structure Ready (M:Nat) (c:CaseD):Prop where
 i:CaseI M c
 n:∀ l ∈ By c,∀ s ∈ l,s.length≤16
 k:Qj c=true
 c:N9 c=true
theorem Dd {l:List Aq} (h:∀ s ∈ l,s.length≤16) (i:Int):(Bc l i).length≤16:=by
 unfold Bc
 rw[A1m]
 cases d:l[i.toNat]? with
 | none=>exact A4m _
 | some s=>exact h s (A4u d)
section
variable {R:Type} {N:Nat}
theorem Ath {α:Type} {e:α→LA} {sz:Nat} (n:∀ a,(e a).length=sz) {f:α→Aq} (d:∀ a (r:LA) (F:Aq→O R),Li (e a++r) F=F (f a)) {l:List α} {i:Int} (h:Lk i l.length=true) {F:Aq→O R}:Li (drop ((Int.toNat i)*sz) (l.flatMap e)) F=F (Bc (l.map f) i):=by
 unfold Lk at h
 simp only[A1f,decide_eq_true_eq] at h
 have k:i.toNat<l.length:=by omega
 rw[Bi n _ _ k,d]
 congr 1
 unfold Bc
 rw[A1m,A3a,A1g k];rfl
theorem Axf {c:CaseD} {i:Int} (h:Lk i c.lines.l.length=true) {F:Aq→O R}:Li (drop ((Int.toNat i)*12) (c.lines.l.flatMap LineD.av)) F=F (Bc (F4 c) i):=Ath Dh (fun _ _ _=>rfl) h
theorem Axg {c:CaseD} {i:Int} (h:Lk i c.units.l.length=true) {F:Aq→O R}:Li (drop ((Int.toNat i)*22) (c.units.l.flatMap UnitD.av)) F=F (Bc (Ei c) i):=Ath Fl (fun _ _ _=>rfl) h
end
end Gx.Ct
namespace Gx.Ct
open Go Go.Proofs Gx.Cf
theorem Ready.bn {M:Nat} {c:CaseD} (h:Ready M c):∀ s ∈ Cq c,s.length≤16:=h.n _ (by simp[By])
theorem Ready.ln {M:Nat} {c:CaseD} (h:Ready M c):∀ s ∈ F4 c,s.length≤16:=h.n _ (by simp[By])
theorem Ready.un {M:Nat} {c:CaseD} (h:Ready M c):∀ s ∈ Ei c,s.length≤16:=h.n _ (by simp[By])
theorem Ready.sn {M:Nat} {c:CaseD} (h:Ready M c):∀ s ∈ fM c,s.length≤16:=h.n _ (by simp[By])
theorem Ready.tn {M:Nat} {c:CaseD} (h:Ready M c):∀ s ∈ Age c,s.length≤16:=h.n _ (by simp[By])
theorem Ready.on {M:Nat} {c:CaseD} (h:Ready M c):∀ s ∈ Agf c,s.length≤16:=h.n _ (by simp[By])
theorem Ready.cnt {M:Nat} {c:CaseD} (h:Ready M c):c.buses.l.length≤32∧c.lines.l.length≤64∧c.units.l.length≤16∧c.stores.l.length≤8∧c.ties.l.length≤8∧c.outs.l.length≤64:=by
 have:=h.c
 unfold N9 at this
 simpa only[A1f,decide_eq_true_eq] using this
theorem Ready.kn {M:Nat} {c:CaseD} (h:Ready M c):(∀ l ∈ c.lines.l,Lk l.fr c.buses.l.length=true∧Lk l.tl c.buses.l.length=true)∧(∀ u ∈ c.units.l,Lk u.bus c.buses.l.length=true)∧(∀ s ∈ c.stores.l,Lk s.bus c.buses.l.length=true)∧(∀ t ∈ c.ties.l,Lk t.bus c.buses.l.length=true)∧∀ o ∈ c.outs.l,(∀ l ∈ o.lines.l,Lk l c.lines.l.length=true)∧∀ m ∈ o.moves.l,Lk m.unit c.units.l.length=true:=by
 have d:=h.k
 unfold Qj at d
 simp only[A1f,A1u] at d
 exact⟨d.1,fun u f=>(d.2.1 u f).1,d.2.2.1,d.2.2.2.1,d.2.2.2.2⟩
def je (c:CaseD) (o:OutD):Bool:=o.lines.l.all (fun l=>Lk l c.lines.l.length)&&o.moves.l.all (fun m=>Lk m.unit c.units.l.length)
end Gx.Ct
namespace Gx.Cf
open Go Go.Proofs
section
variable {R:Type}
theorem LX {p:Ks} {f:Int→O R}:Aw .i64 (drop 3 (Di p)) f=f (Je p):=by
 rcases p with _ | ⟨⟨a,b,d⟩,e,k⟩<;>simp[Di,An6,Cj,Je]
theorem O3 {N:Nat} {i:Int} {u:UnitD} {o:Bool} {p:Ks} {K:LA→O R} (hs:u.segs.l.length<4611686018427387904):∀ (m j fuel:Nat) (a:Int),j+m=u.segs.l.length→m<fuel →
  Dg N K i (Di p) o u.av fuel a (j:Int)=K (Di (nd p (fZ a (u.segs.l.drop j)==wrap .i64 (u.max - u.min)) (3,i,4) e4))
 | 0,j,fuel+1,a,f,_=>by
  rw[Dg];unfold Gz
  simp only[lL,As6,As7,LX,Ad (show(4:Int)≠0 by decide)]
  rw[Hy (by omega),R5 (l:=u.segs.l) (by omega),fZ,PJ]
  rcases p with _ | ⟨x,e,d⟩
  ·simp[Je]
  ·have:(e != 0)=true:=by simpa using d
   simp[Je,this,nd]
 | m+1,j,fuel+1,a,f,q=>by
  rw[Dg];unfold Gz
  have h:j<u.segs.l.length:=by omega
  simp only[lL,As6,As7,LX,Ad (show(4:Int)≠0 by decide),Ali h,Ab h]
  rw[Hf h,Fx (by omega),O3 hs m (j+1) fuel _ (by omega) (by omega),Ma h,fZ,PJ]
  rcases p with _ | ⟨x,e,d⟩
  ·simp[Je]
  ·have k:(e != 0)=true:=by simpa using d
   have n:(e==0)=false:=by simpa using d
   simp[Je,k,n,nd]
theorem Xd {N:Nat} {i:Int} {u:UnitD} {o:Bool} {K:LA→O R} (hs:T4 u.segs.l.length N):∀ (m j fuel:Nat) (p:Ks),j+1+m=u.segs.l.length→m<fuel →
  Ck N K i o u.av fuel ((j+1:Nat):Int) (Di p)=K (Di (nd (nd p (f4 (u.segs.l.drop j)) (3,i,4) Aua) (fZ 0 u.segs.l==wrap .i64 (u.max - u.min)) (3,i,4) e4))
 | 0,j,fuel+1,p,d,_=>by
  rw[Ck];unfold Ec
  rw[lL,Hy (by omega),cf,Ma (l:=u.segs.l) (j:=j) (by omega),R5 (l:=u.segs.l) (j:=j+1) (by omega),sa,PJ]
  have:=O3 (R:=R) (N:=N) (i:=i) (u:=u) (o:=o) (p:=p) (K:=K) hs.2 u.segs.l.length 0 N 0 (by omega) hs.1
  simpa using this
 | m+1,j,fuel+1,p,d,k=>by
  rw[Ck];unfold Ec
  have h:j+1<u.segs.l.length:=by omega
  have h':j<u.segs.l.length:=by omega
  have f:=hs.2
  simp only[lL]
  rw[Hf h,ct,Ab h,ct,wx h,sD (by omega),Ab h',ct,wx h',Fx (by omega),Ad (by decide),Xd hs m (j+1) fuel _ (by omega) (by omega),Ma h',Ma h,QM,Acf]
theorem Xe {N:Nat} {i:Int} {u:UnitD} {o:Bool} {K:LA→O R} (hN:8≤N) (hs:T4 u.segs.l.length N):∀ (m j fuel:Nat) (p:Ks),j+m=u.segs.l.length→m<fuel →
  Cl N K i (u.segs.l.flatMap SegD.av) u.segs.l.length o u.av fuel (u.segs.l.length:Int) (j:Int) (Di p) =
   K (Di (nd (nd (nd p ((u.segs.l.drop j).all ic) (3,i,4) e3) (f4 u.segs.l) (3,i,4) Aua) (fZ 0 u.segs.l==wrap .i64 (u.max - u.min)) (3,i,4) e4))
 | 0,j,fuel+1,p,f,_=>by
  rw[Cl];unfold G0
  rw[Hy (by omega),cf,R5 (l:=u.segs.l) (by omega),A29,PJ]
  rcases d:u.segs.l with _ | ⟨b,r⟩
  ·rw[Ac0,PJ]
   have l2:=O3 (R:=R) (N:=N) (i:=i) (u:=u) (o:=o) (p:=p) (K:=K) hs.2 u.segs.l.length 0 N 0 (by omega) hs.1
   rcases N with _ | N
   ·omega
   ·rw[Ck];unfold Ec
    rw[lL,d]
    simp only[A1b,A3t]
    rw[show decide ((1:Int)<0)=false by decide,cf]
    rw[d] at l2
    simpa using l2
  ·have:=Xd (R:=R) (N:=N) (i:=i) (u:=u) (o:=o) (K:=K) hs r.length 0 N p (by rw[d];simp;omega) (by have:=hs.1;rw[d] at this;simp at this;omega)
   rw[d] at this
   simpa using this
 | m+1,j,fuel+1,p,f,s=>by
  rw[Cl];unfold G0
  have h:j<u.segs.l.length:=by omega
  have k:=hs.2
  rw[Hf h,ct,Ab h,ct,A1d,Bi GA _ _ h,Ma h,A12,Fx (by omega)]
  have n:ble 2 (List.length (u.segs.l[j].av++List.flatMap SegD.av (drop (j+1) u.segs.l)))=true:=by rw[Ft,A09,GA];simp
  have q:take 2 (u.segs.l[j].av++List.flatMap SegD.av (drop (j+1) u.segs.l))=u.segs.l[j].av:=A3k (GA _)
  rw[n,ct,q,GA]
  simp only[SegD.av,setCells,Du,A11,A1p,A59,A2f,A1z,A3v,A1a,A1b,Cj,Ft,ya,A2,Nat.reduceAdd,decide_true,A3i,A31,A3c,cond_true,A1w,A1h,Ed hN,Ad (show(3:Int)≠0 by decide),Xe hN hs m (j+1) fuel _ (show j+1+m=_ by omega) (show m<fuel by omega)]
  unfold ic
  rw[Acf,Acf]
  cases Fu 1 1048576 u.segs.l[j].width<;>rfl
theorem H' {N:Nat} {p:Ks} {j:Nat} {u:UnitD} {o:Bool} {K:LA→O R} (hN:8≤N) (hs:T4 u.segs.l.length N) :
  Eo N u.av o (j:Int) (Di p) K=K (Di (Aoj u j p)):=by
 rw[So];unfold I7
 simp only[lL,Ad (show(8:Int)≠0 by decide)]
 have:=Xe (R:=R) (N:=N) (i:=j) (u:=u) (o:=o) (K:=K) hN hs u.segs.l.length 0 N (nd p (decide ((u.segs.l.length:Int)≤8)) (3,j,4) e8) (by omega) hs.1
 simpa[Aoj] using this
theorem BB {N:Nat} {i:Int} {l:List MoveD} {o:Bool} {K:LA→O R} (hN:8≤N) (hs:l.length<4611686018427387904):∀ (m j fuel:Nat) (p:Ks),j+m=l.length→m<fuel →
  D4 N K i (l.flatMap MoveD.av) l.length o fuel (l.length:Int) (j:Int) (Di p)=K (Di (nd p ((l.drop j).all Ac2) (6,i,3) e3))
 | 0,j,fuel+1,p,d,_=>by
  rw[D4];unfold H0
  rw[Hy (by omega),cf,R5 (by omega),A29,PJ]
 | m+1,j,fuel+1,p,d,n=>by
  rw[D4];unfold H0
  have h:j<l.length:=by omega
  rw[Hf h,ct,Ab h,ct,A1d,Bi Rj _ _ h,Ma h,A12,Fx (by omega)]
  have f:ble 3 (List.length (l[j].av++List.flatMap MoveD.av (drop (j+1) l)))=true:=by rw[Ft,A09,Rj];simp
  have k:take 3 (l[j].av++List.flatMap MoveD.av (drop (j+1) l))=l[j].av:=A3k (Rj _)
  rw[f,ct,k,Rj]
  simp only[MoveD.av,setCells,Du,A11,A1p,A59,A2f,A1z,A3v,A1a,A1b,Cj,Ft,ya,A2,Nat.reduceAdd,decide_true,A3i,A31,A3c,cond_true,A1w,A1h,pg hN,Ad (show(3:Int)≠0 by decide),BB hN hs m (j+1) fuel _ (show j+1+m=_ by omega) (show m<fuel by omega)]
  rw[Acf];rfl
theorem BC {N:Nat} {c:CaseD} {i:Int} {u:OutD} {o:Bool} {p:Ks} {K:LA→O R} (hN:8≤N) (d:c.units.l.length≤1000000) (hs:T4 u.moves.l.length N) (f:u.moves.l.length<8796093022208):∀ (m j fuel:Nat),j+m=u.moves.l.length→m<fuel →
  D5 N K i (u.moves.l.flatMap MoveD.av) u.moves.l.length o (Di p) c.av u.av fuel j (u.moves.l.length:Int) (j:Int) (Ax ((u.moves.l.take j).map (·.unit))) =
   K (Di (nd (nd (nd p (u.moves.l.all (Arg c)) (6,i,3) Alh) (uX (u.moves.l.map (·.unit))) (6,i,3) Aua) (u.moves.l.all Ac2) (6,i,3) e3))
 | 0,j,fuel+1,k,_=>by
  rw[D5];unfold H1
  have n:j=u.moves.l.length:=by omega
  rw[Hy (by omega),cf,A1x,A1c (by simp[Js];omega),A1c (show u.moves.l.length≤j by omega)]
  rw[Jw,Ig (by simp;omega) (by simpa using hs),Ad (by decide),BR (by simp;omega) (by simpa using hs),Ad (by decide),Ai9]
  have:=BB (R:=R) (N:=N) (i:=i) (l:=u.moves.l) (o:=o) (K:=K) hN hs.2 u.moves.l.length 0 N (nd (nd p (u.moves.l.all (Arg c)) (6,i,3) Alh) (uX (u.moves.l.map (·.unit))) (6,i,3) Aua) (by omega) hs.1
  have e:(u.moves.l.map (·.unit)).all (Fu 0 (wrap .i64 ((c.units.l.length:Int) - 1)))=u.moves.l.all (Arg c):=by
   rw[List.all_map];congr 1;funext m;exact Agd _ _ (by omega)
  rw[e]
  simpa using this
 | m+1,j,fuel+1,k,x=>by
  rw[D5];unfold H1
  have h:j<u.moves.l.length:=by omega
  have q:ble 3 (List.length (u.moves.l[j].av++List.flatMap MoveD.av (drop (j+1) u.moves.l)))=true:=by rw[Ft,A09,Rj];simp
  have s:take 3 (u.moves.l[j].av++List.flatMap MoveD.av (drop (j+1) u.moves.l))=u.moves.l[j].av:=A3k (Rj _)
  have t:(decide (j≤140737488355327)&&decide ((j+1)*8≤140737488355328))=true:=by simp;omega
  have v:take (j*1) (Ax ((u.moves.l.take j).map (·.unit)))++[.int .i64 u.moves.l[j].unit]=Ax ((u.moves.l.take (j+1)).map (·.unit)):=by
   rw[A1c (by simp[Js];omega),A13 h,A2q,←VP];rfl
  rw[Hf h,ct,Ab h,ct,A1d,Bi Rj _ _ h,Fx (by omega),q,ct,s,Rj]
  simp only[MoveD.av,setCells,Du,A11,A1p,A59,A2f,A3v,A1a,A1b,Cj,Ft,ya,A2,Nat.reduceAdd,Nat.reduceLeDiff,decide_true,A3i,A31,A3c,cond_true,A1w,A1h,t,v,BC hN d hs f m (j+1) fuel (show j+1+m=_ by omega) (show m<fuel by omega)]
theorem YI {N:Nat} {c:CaseD} {p:Ks} {o:Bool} {j:Nat} {K:LA→O R} (hs:Small c N) (h:j<c.ties.l.length) :
  Th N c.av o (j:Int) (Di p) K=K (Di (Arf c j c.ties.l[j] p)):=by
 have hN:=hs.n64
 have hN8:8≤N:=by omega
 have d:=hs.tie
 have v:=hs.top
 have q:c.ties.l[j] ∈ c.ties.l:=A1q h
 have x:=hs.tim _ q;have s:=hs.tex _ q;have t:=hs.tpr _ q
 have f:=@D7 R N c (c.ties.l.map (·.name)) o (k:=5) (n:=j) (hN:=hN) (hL:=fun K=>GB hs) (hn:=by simpa using h) (hs:=⟨by have:=d.1;omega,by have:=d.2;omega⟩)
 have u:(c.ties.l.map (·.name))[j]'(by simpa using h)=c.ties.l[j].name:=by simp
 rw[u] at f
 rw[CJ];unfold Xu 
 rw[Tl,Ab h,ct,A1d,Bi Hu _ _ h]
 generalize c.ties.l[j]=b at *
 have y:ble 5 (List.length (b.av++List.flatMap TieD.av (drop (j+1) c.ties.l)))=true:=by rw[Ft,A09,Hu];simp
 have z:take 5 (b.av++List.flatMap TieD.av (drop (j+1) c.ties.l))=b.av:=A3k (Hu b)
 rw[y,ct,z,Hu]
 simp only[Dc,f,TieD.av,A2f,A1z,Cj,A9,Cc,Ft,ya,decide_true,A3i,cond_true]
 simp only[Jx hN8 (show c.buses.l.length<4611686018427387904 by omega),Er rfl x,Er rfl s,Er rfl t]
 rfl
theorem RZ {N:Nat} {c:CaseD} {p:Ks} {o:Bool} {j:Nat} {K:LA→O R} (hs:Small c N) (h:j<c.stores.l.length) :
  Pb N c.av o (j:Int) (Di p) K=K (Di (s_ c j c.stores.l[j] p)):=by
 have hN:=hs.n64
 have hN8:8≤N:=by omega
 have d:=hs.sto
 have s:=hs.top
 have v:c.stores.l[j] ∈ c.stores.l:=A1q h
 skip
 have f:=@D7 R N c (c.stores.l.map (·.name)) o (k:=4) (n:=j) (hN:=hN) (hL:=fun K=>Vl hs) (hn:=by simpa using h) (hs:=⟨by have:=d.1;omega,by have:=d.2;omega⟩)
 have q:(c.stores.l.map (·.name))[j]'(by simpa using h)=c.stores.l[j].name:=by simp
 rw[q] at f
 rw[Wt];unfold T2 
 rw[Mb,Ab h,ct,A1d,Bi Hp _ _ h]
 generalize c.stores.l[j]=b at *
 have t:ble 9 (List.length (b.av++List.flatMap StoreD.av (drop (j+1) c.stores.l)))=true:=by rw[Ft,A09,Hp];simp
 have u:take 9 (b.av++List.flatMap StoreD.av (drop (j+1) c.stores.l))=b.av:=A3k (Hp b)
 rw[t,ct,u,Hp]
 simp only[Dc,f,StoreD.av,A2f,A1z,A4k,A3v,A1a,A1b,Cj,Ft,ya,A2,Nat.reduceAdd,decide_true,A3i,A31,cond_true,A1w,A1h]
 simp only[Jx hN8 (show c.buses.l.length<4611686018427387904 by omega),Ed hN8,Ad (show(3:Int)≠0 by decide),IN hN8]
 unfold s_;cases M5 b.eff<;>cases decide (b.eff.num>0)<;>rfl
theorem UP {N:Nat} {c:CaseD} {p:Ks} {o:Bool} {j:Nat} {K:LA→O R} (hs:Small c N) (h:j<c.lines.l.length) :
  L0 N c.av o (j:Int) (Di p) K=K (Di (ww c j c.lines.l[j] p)):=by
 have hN:=hs.n64
 have hN8:8≤N:=by omega
 have d:=hs.lin
 have s:=hs.top
 have t:c.lines.l[j] ∈ c.lines.l:=A1q h
 have u:=hs.law _ t
 have f:=@D7 R N c (c.lines.l.map (·.name)) o (k:=2) (n:=j) (hN:=hN) (hL:=fun K=>AH hs) (hn:=by simpa using h) (hs:=⟨by have:=d.1;omega,by have:=d.2;omega⟩)
 have q:(c.lines.l.map (·.name))[j]'(by simpa using h)=c.lines.l[j].name:=by simp
 rw[q] at f
 rw[Z9];unfold O9 Lm Qe Sa Qd R9
 rw[G6,Ab h,ct,A1d,Bi Dh _ _ h]
 generalize c.lines.l[j]=b at *
 have v:ble 12 (List.length (b.av++List.flatMap LineD.av (drop (j+1) c.lines.l)))=true:=by rw[Ft,A09,Dh];simp
 have x:take 12 (b.av++List.flatMap LineD.av (drop (j+1) c.lines.l))=b.av:=A3k (Dh b)
 rw[v,ct,x,Dh]
 simp only[Dc,f,LineD.av,A2f,A1z,A4k,A3v,A1a,A1b,Cj,A9,Cc,Ft,ya,A2,Nat.reduceAdd,Nat.reduceLeDiff,decide_true,A3i,A31,cond_true,A1w]
 simp only[Jx hN8 (show c.buses.l.length<4611686018427387904 by omega),Ed hN8,Ad (show(1:Int)≠0 by decide),Ad (show(3:Int)≠0 by decide),IN hN8,Wv rfl u]
 unfold ww;rw[show(b.fr != b.tl)=(b.tl != b.fr) by simp[bne,BEq.comm (a:=b.fr)]];cases M5 b.re<;>cases M5 b.smin<;>cases M5 b.smax<;>rfl
def Ajg (c:CaseD) (j:Nat) (u:UnitD) (p:Ks):Ks :=
 let p:=ib ((c.units.l.map (·.name)).take j) 3 j u.name p
 let p:=nd p (nc c u.bus) (3,j,1) Alh
 let p:=nd p (Fu 0 1048576 u.min) (3,j,2) e3
 let p:=nd p (Fu u.min 1048576 u.max) (3,j,3) e3
 let p:=Aoj u j p
 let p:=nd p (Fu 0 1048576 u.noLoad) (3,j,5) e3
 let p:=nd p (Fu 0 1048576 u.rampUp) (3,j,6) e3
 let p:=nd p (Fu 0 1048576 u.rampDown) (3,j,7) e3
 let p:=nd p (Fu u.min u.max u.startRamp) (3,j,8) e3
 let p:=nd p (Fu u.min u.max u.stopRamp) (3,j,9) e3
 let p:=nd p (Fu 0 24 u.upTime) (3,j,10) e3
 nd p (Fu 0 24 u.downTime) (3,j,11) e3
def Ao0 (c:CaseD) (j:Nat) (u:UnitD) (p:Ks):Ks :=
 let p:=nd p (Fu 0 24 u.startTime) (3,j,12) e3
 let p:=nd p (Fu 0 1048576 u.hotCost) (3,j,13) e3
 let p:=nd p (Fu 0 1048576 u.coldCost) (3,j,14) e3
 let p:=nd p (Fu 0 24 u.hotHours) (3,j,15) e3
 let p:=nd p (Fu 0 1048576 u.reserve) (3,j,16) e3
 let p:=nd p (Fu 0 1048576 u.reservePrice) (3,j,17) e3
 let p:=sE c.hours u.away.l (3,j,18) p
 let p:=nd p (Fu 0 2 u.state) (3,j,19) Alh
 let p:=nd p (u.state != 1||decide (u.startTime>0)) (3,j,19) Ax0
 let p:=nd p (Fu 1 48 u.hours) (3,j,20) e3
 let p:=nd p (u.state != 1||decide (u.hours≤u.startTime)) (3,j,20) e3
 cond (u.state==2) (nd p (Fu u.min u.max u.output) (3,j,21) e3) (nd p (u.output==0) (3,j,21) e3)
theorem Axh (n:Int):Fu 0 0 n=(n==0):=by
 unfold Fu
 by_cases h:n=0
 ·simp[h]
 ·have:(n==0)=false:=by simpa using h
  rw[this];simp;omega
theorem Aru {c:CaseD} {j:Nat} {u:UnitD} {p:Ks}:Ao0 c j u (Ajg c j u p)=Ac1 c j u p:=by
 show _=(let p:=nd (Ajg c j u p) (Fu 0 24 u.startTime) (3,j,12) e3
  let p:=nd p (Fu 0 1048576 u.hotCost) (3,j,13) e3
  let p:=nd p (Fu 0 1048576 u.coldCost) (3,j,14) e3
  let p:=nd p (Fu 0 24 u.hotHours) (3,j,15) e3
  let p:=nd p (Fu 0 1048576 u.reserve) (3,j,16) e3
  let p:=nd p (Fu 0 1048576 u.reservePrice) (3,j,17) e3
  let p:=sE c.hours u.away.l (3,j,18) p
  let p:=nd p (Fu 0 2 u.state) (3,j,19) Alh
  let p:=nd p (u.state != 1||u.startTime != 0) (3,j,19) Ax0
  let p:=nd p (Fu 1 48 u.hours) (3,j,20) e3
  let p:=nd p (u.state != 1||decide (u.hours≤u.startTime)) (3,j,20) e3
  cond (u.state==2) (nd p (Fu u.min u.max u.output) (3,j,21) e3) (nd p (Fu 0 0 u.output) (3,j,21) e3))
 unfold Ao0
 rw[Axh]
 cases hq:nd (Ajg c j u p) (Fu 0 24 u.startTime) (3,(j:Int),12) e3 with
 | some x=>simp only[Ara,sE]
 | none =>
  have d:Fu 0 24 u.startTime=true:=by
   cases f:Fu 0 24 u.startTime with
   | true=>rfl
   | false =>
    rw[f] at hq
    cases k:Ajg c j u p<;>rw[k] at hq<;>simp[nd] at hq
  have:decide (u.startTime>0)=(u.startTime != 0):=by
   unfold Fu at d
   simp at d
   by_cases h:u.startTime=0
   ·simp[h]
   ·have n:(u.startTime != 0)=true:=by simpa using h
    rw[n];simp;omega
  rw[this]
theorem UQ {N:Nat} {c:CaseD} {p:Ks} {o:Bool} {j:Nat} {K:LA→O R} (hs:Small c N) (h:j<c.units.l.length) :
  L9 N c.av o (j:Int) (Di p) K=K (Di (Ac1 c j c.units.l[j] p)):=by
 have hN:=hs.n64
 have hN8:8≤N:=by omega
 have d:=hs.uni
 have u:=hs.top
 have v:c.units.l[j] ∈ c.units.l:=A1q h
 have x:=hs.seg _ v;have q:=hs.uaw _ v
 have f:=@D7 R N c (c.units.l.map (·.name)) o (k:=3) (n:=j) (hN:=hN) (hL:=fun K=>AI hs) (hn:=by simpa using h) (hs:=⟨by have:=d.1;omega,by have:=d.2;omega⟩)
 have s:(c.units.l.map (·.name))[j]'(by simpa using h)=c.units.l[j].name:=by simp
 rw[s] at f
 rw[AA];unfold Pa Lo Qf Sc
 rw[Jw,Ab h,ct,A1d,Bi Fl _ _ h]
 generalize c.units.l[j]=b at *
 have y:ble 22 (List.length (b.av++List.flatMap UnitD.av (drop (j+1) c.units.l)))=true:=by rw[Ft,A09,Fl];simp
 have z:take 22 (b.av++List.flatMap UnitD.av (drop (j+1) c.units.l))=b.av:=A3k (Fl b)
 rw[y,ct,z,Fl]
 have t:∀ (p:Ks) (K:LA→O R),Eo N [.str b.name,.int .i64 b.bus,.int .i64 b.min,.int .i64 b.max,b.segs.av 2 SegD.av,.int .i64 b.noLoad,.int .i64 b.rampUp,.int .i64 b.rampDown,.int .i64 b.startRamp,.int .i64 b.stopRamp,.int .i64 b.upTime,.int .i64 b.downTime,.int .i64 b.startTime,.int .i64 b.hotCost,.int .i64 b.coldCost,.int .i64 b.hotHours,.int .i64 b.reserve,.int .i64 b.reservePrice,b.away.av 1 F3,.int .i64 b.state,.int .i64 b.hours,.int .i64 b.output] o j (Di p) K=K (Di (Aoj b j p)):=fun p K=>H' hN8 x
 simp only[Dc,f,UnitD.av,A2f,A1z,A4k,A3v,Cj,A9,Cc,Ft,ya,decide_true,A3i,cond_true,cond_false,A1h]
 simp only[Jx hN8 (show c.buses.l.length<4611686018427387904 by omega),Ed hN8,Ad (show(3:Int)≠0 by decide),Ad (show(12:Int)≠0 by decide),Ad (show(16:Int)≠0 by decide),t,Wv rfl q]
 rw[←Aru]
 unfold Ao0
 by_cases s1:b.state=1
 ·simp[s1];rfl
 ·have a4:(b.state != 1)=true:=by simpa using s1
  rw[a4]
  cases b.state==2<;>rfl
theorem OE {N:Nat} {c:CaseD} {p:Ks} {o:Bool} {j:Nat} {K:LA→O R} (hs:Small c N) (h:j<c.outs.l.length) :
  Iq N c.av o (j:Int) (Di p) K=K (Di (Alj c j c.outs.l[j] p)):=by
 have hN:=hs.n64
 have hN8:8≤N:=by omega
 have d:=hs.out
 have f:=hs.top
 have t:c.outs.l[j] ∈ c.outs.l:=A1q h
 have y:=hs.oli _ t;have q:=hs.omo _ t;have v:=hs.omb _ t
 have s:=@D7 R N c (c.outs.l.map (·.name)) o (k:=6) (n:=j) (hN:=hN) (hL:=fun K=>GC hs) (hn:=by simpa using h) (hs:=⟨by have:=d.1;omega,by have:=d.2;omega⟩)
 have x:(c.outs.l.map (·.name))[j]'(by simpa using h)=c.outs.l[j].name:=by simp
 rw[x] at s
 rw[Va];unfold Lp I8 M1
 rw[M4,Ab h,ct,A1d,Bi G9 _ _ h]
 generalize c.outs.l[j]=b at *
 have z:ble 4 (List.length (b.av++List.flatMap OutD.av (drop (j+1) c.outs.l)))=true:=by rw[Ft,A09,G9];simp
 have A:take 4 (b.av++List.flatMap OutD.av (drop (j+1) c.outs.l))=b.av:=A3k (G9 b)
 rw[z,ct,A,G9]
 have l1:=fun p=>BC (R:=R) (N:=N) (c:=c) (i:=j) (u:=b) (o:=o) (p:=p) (K:=K) hN8 f.2.2.1 q v b.moves.l.length 0 N (by omega) q.1
 simp only[A3v,A24,A3t,Ax] at l1
 simp only[ya,decide_true,A3i,cond_true,Hq,Dc,s,Arh,Ai9,Aub,Ed hN8,Ig rfl y,BR rfl y,G6,Ad (show(4:Int)≠0 by decide),Ad (show(8:Int)≠0 by decide),Ad (show(11:Int)≠0 by decide),Ad (show(12:Int)≠0 by decide),Ad (show(16:Int)≠0 by decide),l1]
 have a1:Fu 1 2 (b.lines.l.length:Int)=((b.lines.l.length:Int)==1||(b.lines.l.length:Int)==2):=by
  unfold Fu
  by_cases x1:b.lines.l.length=1
  ·simp[x1]
  ·by_cases x2:b.lines.l.length=2
   ·simp[x2]
   ·have y1:((b.lines.l.length:Int)==1)=false:=by simp;omega
    have y2:((b.lines.l.length:Int)==2)=false:=by simp;omega
    rw[y1,y2];simp;omega
 have a2:b.lines.l.all (Fu 0 (wrap .i64 ((c.lines.l.length:Int) - 1)))=b.lines.l.all fun n=>decide (0≤n)&&decide (n<(c.lines.l.length:Int)):=by
  congr 1;funext n;exact Agd _ _ (by omega)
 rw[a1,a2]
 unfold Alj Ags
 cases b.corr
 ·simp
 ·simp
end
end Gx.Cf
namespace Gx.Cf
inductive Conn (es:List (Nat×Nat)):Nat→Nat→Prop
 | refl (a:Nat):Conn es a a
 | fwd {u v b:Nat}:(u,v) ∈ es→Conn es v b→Conn es u b
 | bwd {u v b:Nat}:(u,v) ∈ es→Conn es u b→Conn es v b
theorem Conn.trans {es:List (Nat×Nat)} {a b c:Nat} (l:Conn es a b) (d:Conn es b c):Conn es a c:=by
 induction l with
 | refl=>exact d
 | fwd f _ k=>exact .fwd f (k d)
 | bwd f _ k=>exact .bwd f (k d)
theorem Conn.symm {es:List (Nat×Nat)} {a b:Nat} (h:Conn es a b):Conn es b a:=by
 induction h with
 | refl=>exact .refl _
 | fwd d _ f=>exact f.trans (.bwd d (.refl _))
 | bwd d _ f=>exact f.trans (.fwd d (.refl _))
theorem Conn.mono {es fs:List (Nat×Nat)} (hs:∀ e ∈ es,e ∈ fs) {a b:Nat} (h:Conn es a b):Conn fs a b:=by
 induction h with
 | refl=>exact .refl _
 | fwd d _ f=>exact .fwd (hs _ d) f
 | bwd d _ f=>exact .bwd (hs _ d) f
def oT (es:List (Nat×Nat)) (b:Nat):Prop:=∀ a,a<b→¬ Conn es a b
open Classical in
noncomputable def BD (n:Nat) (es:List (Nat×Nat)):Nat:=((List.range n).filter fun b=>decide (oT es b)).length
theorem Ahg {n:Nat} {es fs:List (Nat×Nat)} (h:∀ e ∈ es,e ∈ fs):BD n fs≤BD n es:=by
 unfold BD
 have:∀ (l:List Nat),(l.filter fun b=>@decide (oT fs b) (Classical.propDecidable _)).length≤(l.filter fun b=>@decide (oT es b) (Classical.propDecidable _)).length:=by
  intro l
  induction l with
  | nil=>simp
  | cons a r d =>
   rw[A39,A39]
   by_cases x:oT fs a
   ·have:oT es a:=fun b f k=>x b f (k.mono h)
    simp[x,this,d]
   ·by_cases y:oT es a<;>simp[x,y]<;>omega
 exact this _
def Tb (n:Nat):List Int:=(List.range n).map fun b:Nat=>(b:Int)
theorem xJ {n a:Nat} (h:a<n):(Tb n).getD a 0=(a:Int):=by
 rw[A1m,Tb,A3a,List.getElem?_range h];rfl
structure LeastOk (n:Nat) (es:List (Nat×Nat)) (L:List Int):Prop where
 len:L.length=n
 low:∀ b,b<n→0≤L.getD b 0∧L.getD b 0≤b
 con:∀ b,b<n→Conn es (L.getD b 0).toNat b
def Ajh (es:List (Nat×Nat)) (L:List Int):Prop:=∀ e ∈ es,L.getD e.1 0=L.getD e.2 0
def Arv (L:List Int):Nat:=((List.range L.length).filter fun b=>L.getD b 0==(b:Int)).length
theorem oU {n:Nat} {es:List (Nat×Nat)} {L:List Int} (h:LeastOk n es L) (q:Ajh es L) (s:∀ e ∈ es,e.1<n∧e.2<n):Arv L=BD n es:=by
 unfold Arv BD
 rw[h.len]
 congr 1
 apply List.filter_congr
 intro b f
 have f:b<n:=by simpa using f
 have conn_eq:∀ a b,Conn es a b→L.getD a 0=L.getD b 0:=by
  intro a b k
  induction k with
  | refl=>rfl
  | fwd d _ l=>exact(q _ d).trans l
  | bwd d _ l=>exact(q _ d).symm.trans l
 have t:=h.low b f
 by_cases x:L.getD b 0=(b:Int)
 ·have:oT es b:=fun a u k=>by
   have e:=conn_eq a b k
   have:=(h.low a (by omega)).2
   omega
  have x':(L.getD b 0==(b:Int))=true:=by simpa using x
  rw[x'];simp[this]
 ·have x':(L.getD b 0==(b:Int))=false:=by simpa using x
  have:¬ oT es b:=fun d=>d (L.getD b 0).toNat (by omega) (h.con b f)
  rw[x'];simp[this]
end Gx.Cf
namespace Gx.Cf
open Go Go.Proofs
section
variable {R:Type}
theorem R_ {l:List Int} {j:Nat} (h:j<l.length):l.getD j 0=l[j]:=by rw[A1m,A1g h];rfl
theorem xK {x:Int} {n:Nat} (d:0≤x) (f:x.toNat<n):Ag x n=true:=by simp[Ag];omega
theorem Ao1 {l:List Int} {x:Int} (h:x.toNat<l.length) {f:Int→O R}:Aw .i64 (drop (0+((Int.toNat x)*1)) (Ax l)) f=f (l.getD x.toNat 0):=by
 rw[A1w,A1x,rf h,R_ h]
theorem jf (l:List Int) (j:Nat) (v:Int):List.set (Ax l) j (.int .i64 v)=Ax (l.set j v):=by simp[Ax,List.map_set]
theorem zy {l:List Int} {x:Nat} (h:x<l.length):((beq 1 1)&&((ble ((0+(x*1))+1) (List.length (Ax l)))&&(!false)))=true:=by
 rw[ya,Ft,Js];simp;omega
def Jk (c:CaseD) (l:Int):Nat×Nat:=match c.lines.l[l.toNat]? with
 | some x=>(x.fr.toNat,x.tl.toNat)
 | none=>(0,0)
structure LnV (c:CaseD) (l:Int) (x:LineD):Prop where
 l0:0≤l
 lt:l.toNat<c.lines.l.length
 at':c.lines.l[l.toNat]?=some x
 f0:0≤x.fr
 f1:x.fr.toNat<c.buses.l.length
 t0:0≤x.tl
 t1:x.tl.toNat<c.buses.l.length
theorem Aji {c:CaseD} {l:Int} {x:LineD} (h:LnV c l x):Jk c l=(x.fr.toNat,x.tl.toNat):=by unfold Jk;rw[h.at']
theorem Axi {c:CaseD} {l:Int} {x:LineD} (h:LnV c l x) {f:Int→O R}:Aw .i64 (drop 1 (drop ((Int.toNat l)*12) (c.lines.l.flatMap LineD.av))) f=f x.fr:=by
 have e:c.lines.l[l.toNat]'h.lt=x:=by have:=h.at';rw[A1g h.lt] at this;simpa using this
 rw[Bi Dh _ _ h.lt,e];simp[LineD.av,Cj]
theorem Axj {c:CaseD} {l:Int} {x:LineD} (h:LnV c l x) {f:Int→O R}:Aw .i64 (drop 2 (drop ((Int.toNat l)*12) (c.lines.l.flatMap LineD.av))) f=f x.tl:=by
 have e:c.lines.l[l.toNat]'h.lt=x:=by have:=h.at';rw[A1g h.lt] at this;simpa using this
 rw[Bi Dh _ _ h.lt,e];simp[LineD.av,Cj]
theorem Ahh {L:List Int} {n j:Nat} (f:L.length=n) (h:j<n):((Tb n).take j++L.drop j).set j (j:Int)=(Tb n).take (j+1)++L.drop (j+1):=by
 have hi:(Tb n).length=n:=by simp[Tb]
 have e:(Tb n)[j]'(by omega)=(j:Int):=by simp[Tb]
 have d:j - ((Tb n).take j).length=0:=by simp[hi];omega
 rw[A5t _ _ (by simp;omega),d,A13 (by omega),Ma (l:=L) (by omega),e,A6e,A1l];rfl
def mF (h:Int):List LineD→Nat→List Int
 | [],_=>[]
 | x::r,j=>cond (x.away.l.contains h) (mF h r (j+1)) ((j:Int)::mF h r (j+1))
theorem YJ (h:Int):∀ (l:List LineD) (j:Nat),(mF h l j).length≤l.length
 | [],_=>by simp[mF]
 | x::r,j=>by rw[mF];have:=YJ h r (j+1);cases x.away.l.contains h<;>simp<;>omega
theorem Ad7 (h:Int):∀ (l:List LineD) (j:Nat) (a:Int),a ∈ mF h l j→(j:Int)≤a∧a<j+l.length
 | [],_,_,d=>by simp[mF] at d
 | x::r,j,a,d=>by
  rw[mF] at d
  have f:=Ad7 h r (j+1) a
  cases hx:x.away.l.contains h<;>rw[hx] at d<;>simp at d
  ·rcases d with rfl | d
   ·simp;omega
   ·have:=f d;simp at this ⊢;omega
  ·have:=f d;simp at this ⊢;omega
def Bf (c:CaseD) (h:Int):List Int:=mF h c.lines.l 0
theorem Aaa {A B:List Int} {n:Nat} (h:n=A.length):(take (n*1) (Ax A))++Ax B=Ax (A++B):=by
 rw[A1x,A1c (by simp[Js,h]),VP]
theorem YK {N:Nat} {c:CaseD} {h:Int} {o:Bool} {K:Nat→LA→O R} (hs:Small c N):∀ (m j fuel:Nat) (A:List Int),j+m=c.lines.l.length→m<fuel→A.length≤j →
  F9 N K h o c.av fuel A.length (j:Int) (Ax A)=K (A++mF h (c.lines.l.drop j) j).length (Ax (A++mF h (c.lines.l.drop j) j))
 | 0,j,fuel+1,A,s,_,_=>by
  rw[F9];unfold Pc
  rw[G6,Hy (by omega),cf,R5 (l:=c.lines.l) (by omega),mF,A1p]
 | m+1,j,fuel+1,A,s,z,hA=>by
  rw[F9];unfold Pc
  have d:j<c.lines.l.length:=by omega
  have q:=hs.top.2.1
  have t:c.lines.l[j] ∈ c.lines.l:=A1q d
  have u:=hs.law _ t
  simp only[G6]
  rw[Hf d,ct,Ab d,ct,A1d,Bi Dh _ _ d,Ma (l:=c.lines.l) d,mF]
  have k:=YK (N:=N) (c:=c) (h:=h) (o:=o) (K:=K) hs m (j+1) fuel (A++[(j:Int)]) (by omega) (by omega) (by simp;omega)
  have n:=YK (N:=N) (c:=c) (h:=h) (o:=o) (K:=K) hs m (j+1) fuel A (by omega) (by omega) (by omega)
  generalize c.lines.l[j]=b at *
  have v:(ble (A.length+1) 140737488355328&&ble ((A.length+1)*8) 140737488355328)=true:=by rw[Ft,Ft];simp;omega
  have x:∀ (r:LA) (f:LA→Nat→O R),Bb 1 (drop 11 (b.av++r)) f=f (Ax b.away.l) b.away.l.length:=fun r f=>by simp[LineD.av,A9,Cc]
  have y:take (A.length*1) (Ax A)++[.int .i64 (j:Int)]=Ax (A++[(j:Int)]):=Aaa (B:=[(j:Int)]) rfl
  rw[x,PY rfl u,v,ct,y,Fx (by omega)]
  cases b.away.l.contains h with
  | true=>simp only[A3d,cond_false,cond_true];exact n
  | false =>
   simp only[A3c,cond_true,cond_false]
   rw[A09] at k
   simpa using k
theorem Ad8 {N:Nat} {c:CaseD} {h:Int} {o:Bool} {K:Nat→LA→O R} (hs:Small c N):Sp N c.av o h K=K (Bf c h).length (Ax (Bf c h)):=by
 rw[IL];unfold Vb
 have:=YK (R:=R) (N:=N) (c:=c) (h:=h) (o:=o) (K:=K) hs c.lines.l.length 0 N [] (by omega) hs.lin.1 (by simp)
 simpa[Bf,Ax] using this
def B4 (e:Nat×Nat):LA:=[.int .i64 (e.1:Int),.int .i64 (e.2:Int)]
theorem Wm (e:Nat×Nat):(B4 e).length=2:=rfl
theorem aL (es:List (Nat×Nat)):(es.flatMap B4).length=es.length*2:=by
 induction es with
 | nil=>rfl
 | cons e r d=>rw[A10,A09,d,Wm];simp;omega
theorem ta {N:Nat} {c:CaseD} {o:Bool} {ls:List Int} {K:Nat→Nat→LA→LA→O R} (f:ls.length≤1000000) (d:∀ l ∈ ls,∃ x,LnV c l x):∀ (m j fuel:Nat),j+m=ls.length→m<fuel →
  M2 N K ls.length o c.av (Ax ls) fuel j (ls.length:Int) (j:Int) (((ls.take j).map (Jk c)).flatMap B4)=K ls.length ls.length ((ls.map (Jk c)).flatMap B4) (Ax ls)
 | 0,j,fuel+1,k,_=>by
  rw[M2];unfold Y6
  have:j=ls.length:=by omega
  rw[Hy (by omega),cf,A1c (by omega),this]
 | m+1,j,fuel+1,k,s=>by
  rw[M2];unfold Y6
  have h:j<ls.length:=by omega
  obtain⟨x,hx⟩:=d ls[j] (A1q h)
  have n:(ble (j+1) 140737488355328&&ble ((j+1)*16) 140737488355328)=true:=by rw[Ft,Ft];simp;omega
  have q:take (j*2) (((ls.take j).map (Jk c)).flatMap B4)++[.int .i64 x.fr,.int .i64 x.tl]=((ls.take (j+1)).map (Jk c)).flatMap B4:=by
   rw[A1c (by rw[aL];simp;omega),A13 h,A2q,A2n]
   simp only[A1r,A24,Aji hx,A10,A4a,A1p,B4]
   have:=hx.f0;have:=hx.t0
   rw[A57 hx.f0,A57 hx.t0]
  rw[Hf h,ct,Ab h,ct,Ao1 (by simpa using h),A1d,R_ h]
  simp only[G6,Axi hx,Axj hx]
  rw[xK hx.l0 hx.lt,ct,ct,n,ct,q,Fx (by omega),ta f d m (j+1) fuel (by omega) (by omega)]
theorem Ahi {N:Nat} {c:CaseD} {h:Int} {o:Bool} {K:Nat→Nat→LA→LA→O R} (hs:Small c N) (k:∀ l ∈ Bf c h,∃ x,LnV c l x) :
  MW N c.av o h K=K (Bf c h).length (Bf c h).length (((Bf c h).map (Jk c)).flatMap B4) (Ax (Bf c h)):=by
 rw[dP];unfold PW
 have n:=YJ h c.lines.l 0
 have d:=hs.top.2.1
 have f:=hs.lin.1
 have:=ta (R:=R) (N:=N) (c:=c) (o:=o) (ls:=Bf c h) (K:=K) (by unfold Bf;omega) k (Bf c h).length 0 N (by omega) (by unfold Bf;omega)
 rw[Hq,ct,Dc,Ad8 hs]
 simpa using this
def Gm (st:Bool×List Int) (e:Nat×Nat):Bool×List Int :=
 let m:=Mm (st.2.getD e.1 0) (st.2.getD e.2 0)
 ((st.1||(st.2.getD e.1 0 != m))||(st.2.getD e.2 0 != m),(st.2.set e.1 m).set e.2 m)
theorem oV {N:Nat} {es:List (Nat×Nat)} {n:Nat} {t o:Bool} {K1:Bool→LA→O R} {K:Nat→LA→O R} (hs:es.length<4611686018427387904) (s:∀ e ∈ es,e.1<n∧e.2<n):∀ (m j fuel:Nat) (st:Bool×List Int),j+m=es.length→m<fuel→st.2.length=n →
  Ir N K1 K (es.flatMap B4) es.length t o n fuel st.1 (es.length:Int) (j:Int) (Ax st.2)=K1 ((es.drop j).foldl Gm st).1 (Ax ((es.drop j).foldl Gm st).2)
 | 0,j,fuel+1,st,u,_,_=>by
  rw[Ir];unfold Ti
  rw[Hy (by omega),cf,R5 (l:=es) (by omega)];rfl
 | m+1,j,fuel+1,st,u,S,d=>by
  rw[Ir];unfold Ti
  have h:j<es.length:=by omega
  obtain⟨k,q⟩:=s es[j] (A1q h)
  have v:=oV (N:=N) (es:=es) (n:=n) (t:=t) (o:=o) (K1:=K1) (K:=K) hs s m (j+1) fuel (Gm st es[j]) (by omega) (by omega) (by simp[Gm,d])
  rw[Hf h,ct,Ab h,ct,A1d,Bi Wm _ _ h,Ma (l:=es) h,A3x,←v]
  generalize es[j]=e at *
  have y:ble 2 (List.length (B4 e++List.flatMap B4 (drop (j+1) es)))=true:=by rw[Ft,A09,Wm];simp
  have z:take 2 (B4 e++List.flatMap B4 (drop (j+1) es))=B4 e:=A3k (Wm e)
  rw[y,ct,z,Wm]
  have iu:Ag (e.1:Int) n=true:=Ab k
  have iv:Ag (e.2:Int) n=true:=Ab q
  have ru:∀ f:Int→O R,Aw .i64 (drop (0+((Int.toNat (e.1:Int))*1)) (Ax st.2)) f=f (st.2.getD e.1 0):=fun f=>by rw[Ao1 (by rw[d];simpa using k)];rfl
  have rv:∀ f:Int→O R,Aw .i64 (drop (0+((Int.toNat (e.2:Int))*1)) (Ax st.2)) f=f (st.2.getD e.2 0):=fun f=>by rw[Ao1 (by rw[d];simpa using q)];rfl
  have s1:=zy (l:=st.2) (x:=(Int.toNat (e.1:Int))) (by rw[d];simpa using k)
  have s2:∀ m:Int,((beq 1 1)&&((ble ((0+((Int.toNat (e.2:Int))*1))+1) (List.length (List.set (Ax st.2) (0+((Int.toNat (e.1:Int))*1)) (.int .i64 m))))&&(!false)))=true:=fun m=>by
   rw[jf];exact zy (by simpa[d] using q)
  have A:∀ m:Int,List.set (List.set (Ax st.2) (0+((Int.toNat (e.1:Int))*1)) (.int .i64 m)) (0+((Int.toNat (e.2:Int))*1)) (.int .i64 m)=Ax ((st.2.set e.1 m).set e.2 m):=fun m=>by
   rw[jf,jf];simp
  have C:(!o||A2 (B4 e))=true:=by simp[B4,A2]
  have D:(beq 2 2&&(ble 2 2&&!false))=true:=rfl
  have F:setCells [(.int .i64 (0:Int)),(.int .i64 (0:Int))] 0 (B4 e)=B4 e:=rfl
  have G:∀ f:Int→O R,Aw .i64 (B4 e) f=f e.1:=fun f=>by simp[B4,Cj]
  have I:∀ f:Int→O R,Aw .i64 (drop 1 (B4 e)) f=f e.2:=fun f=>by simp[B4,Cj]
  simp only[C,D,F,G,I,ct,iu,iv,ru,rv,s1,s2,A,Fx (show j<4611686018427387904 by omega)]
  unfold Gm
  cases st.1
  ·cases M:(st.2.getD e.1 0 != Mm (st.2.getD e.1 0) (st.2.getD e.2 0))<;>simp only[M,A2v,A32,cond_true,cond_false,beq_self_eq_true,show(true==false)=false from rfl]
  ·simp only[A32,cond_false,show(true==false)=false from rfl]
def fl (L:List Int):Nat:=(L.map Int.toNat).sum
theorem Ajj {L:List Int} {x:Nat} {v:Int} (h:x<L.length):fl (L.set x v)+(L.getD x 0).toNat=fl L+v.toNat:=by
 unfold fl
 rw[R_ h]
 induction L generalizing x with
 | nil=>simp at h
 | cons a r d =>
  cases x with
  | zero=>simp;omega
  | succ x=>have:=d (x:=x) (by simpa using h);simp at this ⊢;omega
theorem tb {L:List Int} {x y:Nat} {v:Int} (h:x<L.length):(L.set x v).getD y 0=if x=y then v else L.getD y 0:=by
 rw[A1m,A1m,List.getElem?_set]
 by_cases e:x=y
 ·subst e;simp[h]
 ·simp[e]
theorem Arw (a b:Int):Mm a b≤a∧Mm a b≤b∧(Mm a b=a∨Mm a b=b):=by
 unfold Mm
 by_cases h:b<a
 ·simp[h];omega
 ·simp[h];omega
theorem Alp {n:Nat} {es:List (Nat×Nat)} {e:Nat×Nat} (C:e ∈ es) (s:e.1<n) (t:e.2<n) {b:Bool} {L:List Int} (h:LeastOk n es L) :
    LeastOk n es (Gm (b,L) e).2∧(((Gm (b,L) e).1=true∧fl (Gm (b,L) e).2<fl L)∨((Gm (b,L) e)=(b,L)∧L.getD e.1 0=L.getD e.2 0)):=by
  obtain⟨u,v⟩:=e
  simp only at s t
  obtain⟨m1,m2,m3⟩:=Arw (L.getD u 0) (L.getD v 0)
  have d:u<L.length:=by rw[h.len];exact s
  have k:v<L.length:=by rw[h.len];exact t
  have f:Conn es u v:=.fwd C (.refl _)
  have Ak:∀ y,((L.set u (Mm (L.getD u 0) (L.getD v 0))).set v (Mm (L.getD u 0) (L.getD v 0))).getD y 0=if v=y then Mm (L.getD u 0) (L.getD v 0) else if u=y then Mm (L.getD u 0) (L.getD v 0) else L.getD y 0:=fun y=>by
    rw[tb (by simpa using k),tb d]
  have lu:=h.low u s
  have lv:=h.low v t
  refine⟨⟨by simp[Gm,h.len],fun y A=>?_,fun y A=>?_⟩,?_⟩
  · simp only[Gm,Ak]
    split
    · rename_i e;subst e;omega
    · split
      · rename_i e;subst e;omega
      · exact h.low y A
  · simp only[Gm,Ak]
    have cm:Conn es (Mm (L.getD u 0) (L.getD v 0)).toNat u:=by
      rcases m3 with e | e<;>rw[e]
      · exact h.con u s
      · exact(h.con v t).trans f.symm
    split
    · rename_i e;subst e;exact cm.trans f
    · split
      · rename_i e;subst e;exact cm
      · exact h.con y A
  · by_cases e1:L.getD u 0=Mm (L.getD u 0) (L.getD v 0)<;>by_cases z:L.getD v 0=Mm (L.getD u 0) (L.getD v 0)
    · right
      have q:(L.set u (Mm (L.getD u 0) (L.getD v 0))).set v (Mm (L.getD u 0) (L.getD v 0))=L:=by
        have key:∀ m:Int,L.getD u 0=m→L.getD v 0=m→(L.set u m).set v m=L:=by
          intro m D F
          have a1:L.set u m=L:=by rw[←D,R_ d,A5u]
          have a2:L.set v m=L:=by rw[←F,R_ k,A5u]
          rw[a1,a2]
        exact key _ e1 z
      have x1:(L.getD u 0 != Mm (L.getD u 0) (L.getD v 0))=false:=by simpa using e1
      have x2:(L.getD v 0 != Mm (L.getD u 0) (L.getD v 0))=false:=by simpa using z
      refine⟨by simp only[Gm,q,x1,x2,A3j],by rw[e1];exact z.symm⟩
    all_goals
      left
      have G:=Ajj (v:=Mm (L.getD u 0) (L.getD v 0)) d
      have l:=Ajj (L:=L.set u (Mm (L.getD u 0) (L.getD v 0))) (x:=v) (v:=Mm (L.getD u 0) (L.getD v 0)) (by simpa using k)
      rw[tb d] at l
      refine⟨?_,?_⟩
      · first
          | (have x2 : (L.getD v 0 != Mm (L.getD u 0) (L.getD v 0)) = true := by simpa using z
             simp only[Gm,x2,A31])
          | (have x1 : (L.getD u 0 != Mm (L.getD u 0) (L.getD v 0)) = true := by simpa using e1
             simp only[Gm,x1,A31,A32])
      · simp only[Gm]
        split at l
        · rename_i e;subst e;omega
        · omega
theorem Aab {n:Nat} {es:List (Nat×Nat)} (d:∀ e ∈ es,e.1<n∧e.2<n):∀ (fs:List (Nat×Nat)) (b:Bool) (L:List Int),(∀ e ∈ fs,e ∈ es)→LeastOk n es L →
  LeastOk n es (fs.foldl Gm (b,L)).2∧(((fs.foldl Gm (b,L)).1=true∧(fl (fs.foldl Gm (b,L)).2<fl L∨(b=true∧fl (fs.foldl Gm (b,L)).2≤fl L)))∨((fs.foldl Gm (b,L))=(b,L)∧Ajh fs L))
 | [],b,L,_,h=>⟨h,.inr ⟨rfl,fun e d=>by simp at d⟩⟩
 | e::r,b,L,k,h=>by
  have l:=k e (by simp)
  obtain⟨u,v⟩:=Alp l (d e l).1 (d e l).2 (b:=b) h
  rw[A3x]
  rcases v with⟨q,s⟩ | ⟨q,s⟩
  ·have y:Gm (b,L) e=(true,(Gm (b,L) e).2):=by rw[←q]
   rw[y]
   obtain⟨t,k2⟩:=Aab d r true (Gm (b,L) e).2 (fun x hx=>k x (A15 _ hx)) u
   refine⟨t,.inl ?_⟩
   rcases k2 with⟨f,k4⟩ | ⟨f,_⟩
   ·exact⟨f,.inl (by rcases k4 with k4 | ⟨_,k4⟩<;>omega)⟩
   ·rw[f];exact⟨rfl,.inl s⟩
  ·rw[q]
   obtain⟨t,k2⟩:=Aab d r b L (fun x hx=>k x (A15 _ hx)) h
   refine⟨t,?_⟩
   rcases k2 with k2 | ⟨f,k4⟩
   ·exact .inl k2
   ·refine .inr ⟨f,fun x hx=>?_⟩
    rcases A1j.1 hx with rfl | hx
    ·exact s
    ·exact k4 x hx
theorem oW {N:Nat} {es:List (Nat×Nat)} {n:Nat} {t o:Bool} (hs:T4 es.length N) (d:∀ e ∈ es,e.1<n∧e.2<n):∀ (s fuel:Nat) (L:List Int),LeastOk n es L→fl L≤s→s+2<fuel →
  ∃ L',LeastOk n es L'∧Ajh es L'∧∀ K:Nat→LA→O R,Dm N K (es.flatMap B4) es.length t o n fuel true (Ax L)=K n (Ax L')
 | s,fuel+1,L,h,hL,q=>by
  obtain⟨k,k2⟩:=Aab d es false L (fun _ hx=>hx) h
  have step:∀ K:Nat→LA→O R,Dm N K (es.flatMap B4) es.length t o n (fuel+1) true (Ax L)=Dm N K (es.flatMap B4) es.length t o n fuel (es.foldl Gm (false,L)).1 (Ax (es.foldl Gm (false,L)).2):=fun K=>by
   rw[Dm];unfold Tj
   have:=oV (R:=R) (N:=N) (es:=es) (n:=n) (t:=t) (o:=o) (K1:=Dm N K (es.flatMap B4) es.length t o n fuel) (K:=K) hs.2 d es.length 0 N (false,L) (by omega) hs.1 h.len
   simpa using this
  rcases k2 with⟨f,k4⟩ | ⟨f,k4⟩
  ·have l:fl (es.foldl Gm (false,L)).2<fl L:=by
    rcases k4 with k4 | ⟨k4,_⟩
    ·exact k4
    ·cases k4
   obtain⟨L',a1,a2,a3⟩:=oW hs d (s - 1) fuel _ k (by omega) (by omega)
   exact⟨L',a1,a2,fun K=>by rw[step,f];exact a3 K⟩
  ·refine⟨L,h,k4,fun K=>?_⟩
   rw[step,f]
   rcases fuel with _ | fuel
   ·omega
   ·rw[Dm];unfold Tj;rfl
 termination_by s=>s
 decreasing_by omega
theorem oX {N:Nat} {es:List (Nat×Nat)} {n:Nat} {t o:Bool} {K:Nat→LA→O R} (hn:n<4611686018427387904) (L:List Int) (hL:L.length=n):∀ (m j fuel:Nat),j+m=n→m<fuel →
  Is N K (n:Int) (es.flatMap B4) es.length t o fuel n (j:Int) (Ax ((Tb n).take j++L.drop j))=Dm N K (es.flatMap B4) es.length t o n N true (Ax (Tb n))
 | 0,j,fuel+1,f,_=>by
  rw[Is];unfold Tk
  rw[Hy (by omega),cf,R5 (by omega),A1p,A1c (by simp[Tb];omega)]
 | m+1,j,fuel+1,f,k=>by
  rw[Is];unfold Tk
  have h:j<n:=by omega
  have d:((Tb n).take j++L.drop j).length=n:=by simp[Tb];omega
  rw[Hf h,ct,Ab h,ct,zy (by rw[d];simpa using h),ct,A1d,A1w,A1x,jf,Ahh hL h,Fx (by omega),oX hn L hL m (j+1) fuel (by omega) (by omega)]
theorem Ahj (n:Nat) (es:List (Nat×Nat)):LeastOk n es (Tb n):=by
 refine⟨by simp[Tb],fun b d=>?_,fun b d=>?_⟩
 ·rw[xJ d];omega
 ·rw[xJ d];exact .refl _
theorem Aus {L:List Int} {b:Nat}:(∀ x ∈ L,x.toNat≤b)→fl L≤L.length*b:=by
 unfold fl
 induction L with
 | nil=>intro _;simp
 | cons a r d =>
  intro h
  have f:=h a (by simp)
  have k:=d (fun x hx=>h x (A15 _ hx))
  simp[A23];omega
theorem jg {N:Nat} {es:List (Nat×Nat)} {n:Nat} {t o:Bool} (hs:T4 es.length N) (hn:n≤1000) (hN:n*n+1000<N) (f:∀ e ∈ es,e.1<n∧e.2<n) :
  ∃ L,LeastOk n es L∧Ajh es L∧∀ (m:Nat) (K:Nat→LA→O R),m=es.length→Uj N (n:Int) (es.flatMap B4) m t o K=K n (Ax L):=by
 have d:fl (Tb n)≤n*n:=by
  have:=Aus (L:=Tb n) (b:=n) (by
   intro x hx;simp[Tb] at hx;obtain⟨a,u,rfl⟩:=hx;simp;omega)
  simpa[Tb] using this
 obtain⟨L,k,l,q⟩:=oW (R:=R) (N:=N) (es:=es) (n:=n) (t:=t) (o:=o) hs f (n*n) N (Tb n) (Ahj n es) d (by omega)
 refine⟨L,k,l,fun m K s=>?_⟩
 subst s
 rw[SY];unfold DQ
 have ok:(decide ((0:Int)≤(n:Int))&&(decide ((n:Int)≤(n:Int))&&(decide ((n:Int)≤(140737488355328:Int))&&decide (((n:Int)*((8:Nat):Int))≤(140737488355328:Int)))))=true:=by simp;omega
 have e:replicate n (AV.int .i64 (0:Int))=Ax (replicate n 0):=by simp[Ax]
 have:=oX (R:=R) (N:=N) (es:=es) (n:=n) (t:=t) (o:=o) (K:=K) (by omega) (replicate n 0) (by simp) n 0 N (by omega) (by omega)
 rw[ok,ct,A1d,e,←q K]
 simpa using this
theorem fm {N:Nat} {L:List Int} {t o:Bool} {K:Int→O R} (hs:L.length<1000000):∀ (m j fuel:Nat) (a:Nat),j+m=L.length→m<fuel→a≤j →
  M3 N K (Ax L) L.length t o fuel (a:Int) (j:Int)=K ((a+((List.range' j m).filter fun b=>L.getD b 0==(b:Int)).length:Nat):Int)
 | 0,j,fuel+1,a,d,_,_=>by
  rw[M3];unfold Y7
  rw[Hy (by omega),cf];simp
 | m+1,j,fuel+1,a,d,f,k=>by
  rw[M3];unfold Y7
  have h:j<L.length:=by omega
  rw[Hf h,ct,Ab h,ct,S_ h,Fx (by omega),Fx (by omega),A5e,A39,R_ h]
  cases hx:L[j]==(j:Int) with
  | true =>
   rw[ct,fm hs m (j+1) fuel (a+1) (by omega) (by omega) (by omega)]
   simp;congr 1;omega
  | false =>
   rw[cf,fm hs m (j+1) fuel a (by omega) (by omega) (by omega)]
   simp
theorem tc {N:Nat} {L:List Int} {n:Nat} {t o:Bool} {K:Int→O R} (hn:n=L.length) (hs:L.length<1000000) (hN:L.length<N):EJ N (Ax L) n t o K=K (Arv L:Int):=by
 subst hn
 rw[dQ];unfold PX
 have:=fm (R:=R) (N:=N) (L:=L) (t:=t) (o:=o) (K:=K) hs L.length 0 N 0 (by omega) hN (by omega)
 simp only[A3t,A1w] at this
 rw[Arv,List.range_eq_range']
 exact this
def jh (gone:List Int):List (Nat×Nat)→Nat→List (Nat×Nat)
 | [],_=>[]
 | e::r,j=>cond (gone.contains (j:Int)) (jh gone r (j+1)) (e::jh gone r (j+1))
theorem td {N:Nat} {es:List (Nat×Nat)} {gone:List Int} {n:Nat} {t o t2 o2:Bool} {K:Bool→O R} (z:es.length≤1000) (hlN:es.length<N) (hn:n≤1000) (hN:n*n+1000<N) (d:∀ e ∈ es,e.1<n∧e.2<n) (s:T4 gone.length N):∀ (m j fuel:Nat) (A:List (Nat×Nat)),j+m=es.length→m<fuel→A.length≤j→(∀ e ∈ A,e.1<n∧e.2<n) →
  Ga N K (n:Int) (es.flatMap B4) es.length t o (Ax gone) gone.length t2 o2 fuel A.length (j:Int) (A.flatMap B4)=K (decide ((BD n (A++jh gone (es.drop j) j):Int)>(BD n es:Int)))
 | 0,j,fuel+1,A,C,_,hA,hAe=>by
  rw[Ga];unfold Pd
  obtain⟨L,a1,a2,a3⟩:=jg (R:=R) (N:=N) (es:=A) (n:=n) (t:=false) (o:=true) ⟨by omega,by omega⟩ hn hN hAe
  obtain⟨L',k,u,v⟩:=jg (R:=R) (N:=N) (es:=es) (n:=n) (t:=false) (o:=o) ⟨by omega,by omega⟩ hn hN d
  have l1:=a1.len;have l2:=k.len
  rw[Hy (by omega),cf,R5 (l:=es) (by omega),jh,A1p,A1c (by rw[aL];exact A1h _),a3 _ _ rfl,A1x,A1c (by rw[Js];omega),tc (by omega) (by omega) (by omega),v _ _ rfl,A1c (by rw[Js];omega),tc (by omega) (by omega) (by omega),oU a1 a2 hAe,oU k u d]
 | m+1,j,fuel+1,A,C,I,hA,hAe=>by
  rw[Ga];unfold Pd
  have h:j<es.length:=by omega
  have f:=td (N:=N) (es:=es) (gone:=gone) (n:=n) (t:=t) (o:=o) (t2:=t2) (o2:=o2) (K:=K) z hlN hn hN d s m (j+1) fuel (A++[es[j]]) (by omega) (by omega) (by simp;omega) (by
   intro e x
   rcases A1k.1 x with q | q
   ·exact hAe e q
   ·simp at q;subst q;exact d _ (A1q h))
  have y:=td (N:=N) (es:=es) (gone:=gone) (n:=n) (t:=t) (o:=o) (t2:=t2) (o2:=o2) (K:=K) z hlN hn hN d s m (j+1) fuel A (by omega) (by omega) (by omega) hAe
  rw[Hf h,ct,PY rfl s,Ab h,ct,A1d,Bi Wm _ _ h,Ma (l:=es) h,jh]
  generalize es[j]=e at *
  have k:ble 2 (List.length (B4 e++List.flatMap B4 (drop (j+1) es)))=true:=by rw[Ft,A09,Wm];simp
  have u:take 2 (B4 e++List.flatMap B4 (drop (j+1) es))=B4 e:=A3k (Wm e)
  have v:(ble (A.length+1) 140737488355328&&ble ((A.length+1)*16) 140737488355328)=true:=by rw[Ft,Ft];simp;omega
  have D:(!o||A2 (B4 e))=true:=by simp[B4,A2]
  have F:take 2 (setCells [(.int .i64 (0:Int)),(.int .i64 (0:Int))] 0 (B4 e))=B4 e:=rfl
  have G:take (A.length*2) (A.flatMap B4)++B4 e=(A++[e]).flatMap B4:=by
   rw[A1c (by rw[aL];exact A1h _)];simp
  rw[k,ct,u,D,ct,Wm,show(beq 2 2&&ble 2 2)=true from rfl,ct,v,ct,F,G,Fx (by omega)]
  cases gone.contains (j:Int) with
  | true=>simp only[A3d,cond_false,cond_true];exact y
  | false =>
   simp only[A3c,cond_true,cond_false]
   rw[A09] at f
   simpa using f
theorem te {N:Nat} {es:List (Nat×Nat)} {gone:List Int} {n m m2:Nat} {t o t2 o2:Bool} {K:Bool→O R} (f:m=es.length) (d:m2=gone.length) (k:es.length≤1000) (hlN:es.length<N) (hn:n≤1000) (hN:n*n+1000<N) (l:∀ e ∈ es,e.1<n∧e.2<n) (q:T4 gone.length N) :
  Sq N (n:Int) (es.flatMap B4) m t o (Ax gone) m2 t2 o2 K=K (decide ((BD n (jh gone es 0):Int)>(BD n es:Int))):=by
 subst f d
 rw[IM];unfold Vc
 have:=td (R:=R) (N:=N) (es:=es) (gone:=gone) (n:=n) (t:=t) (o:=o) (t2:=t2) (o2:=o2) (K:=K) k hlN hn hN l q es.length 0 N [] (by omega) hlN (by simp) (by simp)
 simpa using this
theorem Ds {p:Ks} {ok:Bool} {w:Int×Int×Int} {e:{ e:Int // e≠0 }} (h:nd p ok w e=none):p=none∧ok=true:=by
 rcases p with _ | x
 ·cases ok
  ·simp[nd] at h
  ·exact⟨rfl,rfl⟩
 ·simp[nd] at h
theorem Uf {α:Type} {f:Nat→α→Ks→Ks} (k:∀ j a x,f j a (some x)=some x):∀ (l:List α) (j:Nat) (p:Ks),Hi f l j p=none→p=none∧∀ i (h:i<l.length),f (j+i) l[i] none=none
 | [],j,p,h=>by rw[Hi] at h;exact⟨h,fun i hi=>by simp at hi⟩
 | a::r,j,p,h=>by
  rw[Hi] at h
  obtain⟨d,n⟩:=Uf k r (j+1) _ h
  have q:p=none:=by
   rcases p with _ | x
   ·rfl
   ·rw[k] at d;cases d
  subst q
  refine⟨rfl,fun i hi=>?_⟩
  cases i with
  | zero=>simpa using d
  | succ i=>have:=n i (by simpa using hi);rw[show j+1+i=j+(i+1) by omega] at this;simpa using this
theorem mG {c:CaseD} (j:Nat) (x:BusD) (y:(Int×Int×Int)×{ e:Int // e≠0 }):Are c j x (some y)=some y:=rfl
theorem fq {c:CaseD} (j:Nat) (x:LineD) (y:(Int×Int×Int)×{ e:Int // e≠0 }):ww c j x (some y)=some y:=rfl
theorem YL {c:CaseD} (j:Nat) (x:StoreD) (y:(Int×Int×Int)×{ e:Int // e≠0 }):s_ c j x (some y)=some y:=rfl
theorem mH {c:CaseD} (j:Nat) (x:TieD) (y:(Int×Int×Int)×{ e:Int // e≠0 }):Arf c j x (some y)=some y:=rfl
theorem ft {c:CaseD} (j:Nat) (x:UnitD) (y:(Int×Int×Int)×{ e:Int // e≠0 }):Ac1 c j x (some y)=some y:=by
 show cond (x.state==2) _ _=_
 cases x.state==2<;>rfl
def Ao2 (c:CaseD):Ks :=
 let p:=Agr c none
 let p:=Hi (Are c) c.buses.l 0 p
 let p:=Hi (ww c) c.lines.l 0 p
 let p:=Hi (Ac1 c) c.units.l 0 p
 let p:=Hi (s_ c) c.stores.l 0 p
 let p:=Hi (Arf c) c.ties.l 0 p
 Hi (Alj c) c.outs.l 0 p
noncomputable def Ao3 (c:CaseD) (h:Int) (o:OutD):Bool :=
 (BD c.buses.l.length (((Bf c h).filter fun l=>!o.lines.l.contains l).map (Jk c)):Int)==(BD c.buses.l.length ((Bf c h).map (Jk c)):Int)
noncomputable def Ao4 (c:CaseD) (h:Int) (j:Nat) (o:OutD) (p:Ks):Ks:=nd p (Ao3 c h o) (6,j,h) A0t
noncomputable def fv (c:CaseD):Nat→Nat→Ks→Ks
 | 0,_,p=>p
 | m+1,j,p=>fv c m (j+1) (Hi (Ao4 c j) c.outs.l 0 p)
theorem Alq {c:CaseD} {h:Int} (j:Nat) (x:OutD) (y:(Int×Int×Int)×{ e:Int // e≠0 }):Ao4 c h j x (some y)=some y:=rfl
theorem oY {c:CaseD} {y:(Int×Int×Int)×{ e:Int // e≠0 }}:∀ (m j:Nat),fv c m j (some y)=some y
 | 0,_=>rfl
 | m+1,j=>by rw[fv,Qm (fun j a=>Alq j a y)];exact oY m (j+1)
noncomputable def YM (c:CaseD):Ks:=match Ao2 c with
 | some x=>some x
 | none=>fv c c.hours.toNat 0 none
structure PreV (c:CaseD):Prop where
 hours:1≤c.hours∧c.hours≤24
 nb:c.buses.l.length≤32
 nl:c.lines.l.length≤64
 no:c.outs.l.length≤64
 line:∀ x ∈ c.lines.l,0≤x.fr∧x.fr.toNat<c.buses.l.length∧0≤x.tl∧x.tl.toNat<c.buses.l.length
 out:∀ x ∈ c.outs.l,x.lines.l.length≤2
theorem Alr {c:CaseD} (h:Ao2 c=none):PreV c:=by
 unfold Ao2 at h
 obtain⟨s,o6⟩:=Uf (fun _ _ _=>lM) _ _ _ h
 obtain⟨t,o5⟩:=Uf (fun j a x=>mH j a x) _ _ _ s
 obtain⟨u,o4⟩:=Uf (fun j a x=>YL j a x) _ _ _ t
 obtain⟨v,o3⟩:=Uf (fun j a x=>ft j a x) _ _ _ u
 obtain⟨y,o2⟩:=Uf (fun j a x=>fq j a x) _ _ _ v
 obtain⟨n,o1⟩:=Uf (fun j a x=>mG j a x) _ _ _ y
 unfold Agr at n
 obtain⟨z,A⟩:=Ds n
 obtain⟨C,_⟩:=Ds z
 obtain⟨D,_⟩:=Ds C
 obtain⟨F,_⟩:=Ds D
 obtain⟨w3,k⟩:=Ds F
 obtain⟨w2,d⟩:=Ds w3
 obtain⟨G,_⟩:=Ds w2
 obtain⟨w0,_⟩:=Ds G
 obtain⟨_,l⟩:=Ds w0
 unfold Fu at l d
 simp at l d k A
 refine⟨l,by omega,by omega,by omega,fun x hx=>?_,fun x hx=>?_⟩
 ·obtain⟨i,hi,rfl⟩:=A1t hx
  have:=o2 i hi
  unfold ww sE at this
  obtain⟨a,_⟩:=Ds this
  obtain⟨a,_⟩:=Ds a
  obtain⟨a,_⟩:=Ds a
  obtain⟨a,_⟩:=Ds a
  obtain⟨a,_⟩:=Ds a
  obtain⟨a,_⟩:=Ds a
  obtain⟨a,_⟩:=Ds a
  obtain⟨a,_⟩:=Ds a
  obtain⟨a,q⟩:=Ds a
  obtain⟨_,f⟩:=Ds a
  unfold nc at q f
  simp at q f
  omega
 ·obtain⟨i,hi,rfl⟩:=A1t hx
  have:=o6 i hi
  unfold Alj Ags at this
  obtain⟨a,_⟩:=Ds this
  obtain⟨a,_⟩:=Ds a
  obtain⟨a,_⟩:=Ds a
  obtain⟨a,_⟩:=Ds a
  obtain⟨a,_⟩:=Ds a
  obtain⟨a,_⟩:=Ds a
  obtain⟨a,_⟩:=Ds a
  obtain⟨_,f⟩:=Ds a
  simp at f
  omega
theorem PreV.lnV {c:CaseD} (v:PreV c) {h:Int} {l:Int} (k:l ∈ Bf c h):∃ x,LnV c l x:=by
 have:=Ad7 h c.lines.l 0 l k
 have n:0≤l:=by omega
 have f:l.toNat<c.lines.l.length:=by omega
 obtain⟨a,b,d,e⟩:=v.line _ (A1q f)
 exact⟨c.lines.l[l.toNat],n,f,A1g f,a,b,d,e⟩
def w3 (p:Ks):LA:=match p with
 | none=>[.int .i64 0,.int .i64 0,.int .i64 0]
 | some ((a,b,f),_)=>[.int .i64 a,.int .i64 b,.int .i64 f]
theorem Ao5 {N:Nat} {c:CaseD} {p:Ks} {o:Bool} {j:Nat} {K:Int→LA→O R} {K2:LA→Int→O R} (hs:Small c N) (h:j<c.buses.l.length) :
  Vo N K K2 o c.av (j:Int) (Di p)=K ((j+1:Nat):Int) (Di (Are c j c.buses.l[j] p)):=by
 have hN:=hs.n64
 have hN8:8≤N:=by omega
 have d:=hs.bus
 have t:c.buses.l[j] ∈ c.buses.l:=A1q h
 have u:=hs.dem _ t
 have q:=@D7 R N c (c.buses.l.map (·.name)) o (k:=1) (n:=j) (hN:=hN) (hL:=fun K=>JC hs) (hn:=by simpa using h) (hs:=⟨by have:=d.1;omega,by have:=d.2;omega⟩)
 have s:(c.buses.l.map (·.name))[j]'(by simpa using h)=c.buses.l[j].name:=by simp
 rw[s] at q
 unfold Vo
 simp only[Hq,Dc,ct,q,Ep]
 rw[Ab h,ct,A1d,Bi Md _ _ h]
 generalize c.buses.l[j]=b at *
 have v:∀ (r:LA) (f:LA→Nat→O R),Bb 1 (drop 1 (b.av++r)) f=f (Ax b.demand.l) b.demand.l.length:=fun r f=>by simp[BusD.av,A9,Cc]
 have x:∀ (r:LA) (f:Int→O R),Aw .i64 (drop 2 (b.av++r)) f=f b.shed:=fun r f=>by simp[BusD.av,Cj]
 rw[v,Er rfl u,ct,x,Ed hN8,Ad (by decide),Fx (by have:=d.2;omega)]
 rfl
theorem Aac {p:Ks} {K:LA→Int→O R}:(cond (ble 3 (List.length (Di p))) (Aw .i64 (drop 3 (Di p)) fun x38=>cond ((beq (List.length (take 3 (Di p))) 3)&&((ble 3 3)&&(!false))) (cond (ble 3 (List.length (setCells [(.int .i64 (0:Int)),(.int .i64 (0:Int)),(.int .i64 (0:Int))] 0 (take 3 (Di p))))) (K (take 3 (setCells [(.int .i64 (0:Int)),(.int .i64 (0:Int)),(.int .i64 (0:Int))] 0 (take 3 (Di p)))) x38) none) none) none)=K (w3 p) (Je p):=by
 rcases p with _ | ⟨⟨a,b,f⟩,e,d⟩<;>simp[Di,An6,w3,Je,Ft,setCells,Du,Cj]
theorem oZ {N:Nat} {c:CaseD} {o:Bool} {K:LA→Int→O R} (hs:Small c N):∀ (m j fuel:Nat) (p:Ks),j+m=c.buses.l.length→m<fuel →
  Jz N K o c.av fuel (j:Int) (Di p)=Ni N K o c.av N 0 (Di (Hi (Are c) (c.buses.l.drop j) j p))
 | 0,j,fuel+1,p,f,_=>by
  rw[Jz];unfold Zk
  rw[Ep,Hy (by omega),R5 (l:=c.buses.l) (by omega),Hi];rfl
 | m+1,j,fuel+1,p,f,q=>by
  rw[Jz];unfold Zk
  have h:j<c.buses.l.length:=by omega
  have d:=hs.bus
  rw[Ep,Hf h,LX,Ma (l:=c.buses.l) h,Hi]
  rcases p with _ | ⟨x,e,k⟩
  ·simp only[Je,beq_self_eq_true,cond_true]
   rw[Ao5 hs h,oZ hs m (j+1) fuel _ (by omega) (by omega)]
  ·have n:(e==0)=false:=by simpa using k
   simp only[Je,n,beq_self_eq_true,cond_true,cond_false]
   rw[mG,Qm (fun _ _=>mG _ _ _)]
theorem o0 {N:Nat} {c:CaseD} {o:Bool} {K:LA→Int→O R} (hs:Small c N):∀ (m j fuel:Nat) (p:Ks),j+m=c.lines.l.length→m<fuel →
  Ni N K o c.av fuel (j:Int) (Di p)=Nh N K o c.av N 0 (Di (Hi (ww c) (c.lines.l.drop j) j p))
 | 0,j,fuel+1,p,f,_=>by
  rw[Ni];unfold Zj
  rw[G6,Hy (by omega),R5 (l:=c.lines.l) (by omega),Hi];rfl
 | m+1,j,fuel+1,p,f,q=>by
  rw[Ni];unfold Zj
  have h:j<c.lines.l.length:=by omega
  have d:=hs.lin
  rw[G6,Hf h,LX,Ma (l:=c.lines.l) h,Hi]
  rcases p with _ | ⟨x,e,k⟩
  ·simp only[Je,beq_self_eq_true,cond_true]
   rw[Hq,ct,Dc,UP hs h,Fx (by have:=d.2;omega),o0 hs m (j+1) fuel _ (by omega) (by omega)]
  ·have n:(e==0)=false:=by simpa using k
   simp only[Je,n,beq_self_eq_true,cond_true,cond_false]
   rw[fq,Qm (fun _ _=>fq _ _ _)]
theorem o7 {N:Nat} {c:CaseD} {o:Bool} {K:LA→Int→O R} (hs:Small c N):∀ (m j fuel:Nat) (p:Ks),j+m=c.units.l.length→m<fuel →
  Nh N K o c.av fuel (j:Int) (Di p)=Ng N K o c.av N 0 (Di (Hi (Ac1 c) (c.units.l.drop j) j p))
 | 0,j,fuel+1,p,f,_=>by
  rw[Nh];unfold Zi
  rw[Jw,Hy (by omega),R5 (l:=c.units.l) (by omega),Hi];rfl
 | m+1,j,fuel+1,p,f,q=>by
  rw[Nh];unfold Zi
  have h:j<c.units.l.length:=by omega
  have d:=hs.uni
  rw[Jw,Hf h,LX,Ma (l:=c.units.l) h,Hi]
  rcases p with _ | ⟨x,e,k⟩
  ·simp only[Je,beq_self_eq_true,cond_true]
   rw[Hq,ct,Dc,UQ hs h,Fx (by have:=d.2;omega),o7 hs m (j+1) fuel _ (by omega) (by omega)]
  ·have n:(e==0)=false:=by simpa using k
   simp only[Je,n,beq_self_eq_true,cond_true,cond_false]
   rw[ft,Qm (fun _ _=>ft _ _ _)]
theorem o8 {N:Nat} {c:CaseD} {o:Bool} {K:LA→Int→O R} (hs:Small c N):∀ (m j fuel:Nat) (p:Ks),j+m=c.stores.l.length→m<fuel →
  Ng N K o c.av fuel (j:Int) (Di p)=Nf N K o c.av N 0 (Di (Hi (s_ c) (c.stores.l.drop j) j p))
 | 0,j,fuel+1,p,f,_=>by
  rw[Ng];unfold Zh
  rw[Mb,Hy (by omega),R5 (l:=c.stores.l) (by omega),Hi];rfl
 | m+1,j,fuel+1,p,f,q=>by
  rw[Ng];unfold Zh
  have h:j<c.stores.l.length:=by omega
  have d:=hs.sto
  rw[Mb,Hf h,LX,Ma (l:=c.stores.l) h,Hi]
  rcases p with _ | ⟨x,e,k⟩
  ·simp only[Je,beq_self_eq_true,cond_true]
   rw[Hq,ct,Dc,RZ hs h,Fx (by have:=d.2;omega),o8 hs m (j+1) fuel _ (by omega) (by omega)]
  ·have n:(e==0)=false:=by simpa using k
   simp only[Je,n,beq_self_eq_true,cond_true,cond_false]
   rw[YL,Qm (fun _ _=>YL _ _ _)]
theorem o_ {N:Nat} {c:CaseD} {o:Bool} {K:LA→Int→O R} (hs:Small c N):∀ (m j fuel:Nat) (p:Ks),j+m=c.ties.l.length→m<fuel →
  Nf N K o c.av fuel (j:Int) (Di p)=Nd N K o c.av N 0 (Di (Hi (Arf c) (c.ties.l.drop j) j p))
 | 0,j,fuel+1,p,f,_=>by
  rw[Nf];unfold Zg
  rw[Tl,Hy (by omega),R5 (l:=c.ties.l) (by omega),Hi];rfl
 | m+1,j,fuel+1,p,f,q=>by
  rw[Nf];unfold Zg
  have h:j<c.ties.l.length:=by omega
  have d:=hs.tie
  rw[Tl,Hf h,LX,Ma (l:=c.ties.l) h,Hi]
  rcases p with _ | ⟨x,e,k⟩
  ·simp only[Je,beq_self_eq_true,cond_true]
   rw[Hq,ct,Dc,YI hs h,Fx (by have:=d.2;omega),o_ hs m (j+1) fuel _ (by omega) (by omega)]
  ·have n:(e==0)=false:=by simpa using k
   simp only[Je,n,beq_self_eq_true,cond_true,cond_false]
   rw[mH,Qm (fun _ _=>mH _ _ _)]
theorem oa {N:Nat} {c:CaseD} {o:Bool} {K:LA→Int→O R} (hs:Small c N):∀ (m j fuel:Nat) (p:Ks),j+m=c.outs.l.length→m<fuel →
  Nd N K o c.av fuel (j:Int) (Di p)=Ef N K o c.av N 0 (Di (Hi (Alj c) (c.outs.l.drop j) j p))
 | 0,j,fuel+1,p,f,_=>by
  rw[Nd];unfold Zf
  rw[M4,Hy (by omega),R5 (l:=c.outs.l) (by omega),Hi];rfl
 | m+1,j,fuel+1,p,f,q=>by
  rw[Nd];unfold Zf
  have h:j<c.outs.l.length:=by omega
  have d:=hs.out
  rw[M4,Hf h,LX,Ma (l:=c.outs.l) h,Hi]
  rcases p with _ | ⟨x,e,k⟩
  ·simp only[Je,beq_self_eq_true,cond_true]
   rw[Hq,ct,Dc,OE hs h,Fx (by have:=d.2;omega),oa hs m (j+1) fuel _ (by omega) (by omega)]
  ·have n:(e==0)=false:=by simpa using k
   simp only[Je,n,beq_self_eq_true,cond_true,cond_false]
   rw[lM,Qm (fun _ _=>lM)]
def HS (ol:List Int):List Int→Nat→List Int
 | [],_=>[]
 | a::r,j=>cond (ol.contains a) ((j:Int)::HS ol r (j+1)) (HS ol r (j+1))
theorem Ad9 (ol:List Int):∀ (l:List Int) (j:Nat) (x:Int),x ∈ HS ol l j→(j:Int)≤x
 | [],_,_,h=>by simp[HS] at h
 | a::r,j,x,h=>by
  rw[HS] at h
  have d:=Ad9 ol r (j+1) x
  cases hx:ol.contains a<;>rw[hx] at h<;>simp at h
  ·have:=d h;omega
  ·rcases h with rfl | h
   ·omega
   ·have:=d h;omega
theorem mI {f:Int→Nat×Nat} (ol:List Int):∀ (l:List Int) (j:Nat) (pre:List Int),(∀ x ∈ pre,x<(j:Int))→jh (pre++HS ol l j) (l.map f) j=((l.filter fun a=>!ol.contains a).map f)
 | [],_,_,_=>rfl
 | a::r,j,pre,q=>by
  rw[A1r,jh,HS,A39]
  have k:¬ (j:Int) ∈ pre:=fun h=>by have:=q _ h;omega
  cases hx:ol.contains a with
  | true =>
   have s:(pre++cond true ((j:Int)::HS ol r (j+1)) (HS ol r (j+1))).contains (j:Int)=true:=by simp
   rw[s]
   have:=mI (f:=f) ol r (j+1) (pre++[(j:Int)]) (by
    intro x d
    rcases A1k.1 d with n | n
    ·have:=q x n;omega
    ·simp at n;omega)
   simp only[cond_true,A3d,A3r,if_false]
   rw[←this];simp
  | false =>
   have s:(pre++cond false ((j:Int)::HS ol r (j+1)) (HS ol r (j+1))).contains (j:Int)=false:=by
    simp only[cond_false]
    rw[List.contains_eq_mem]
    simp only[decide_eq_false_iff_not,A1k,not_or]
    exact⟨k,fun n=>by have:=Ad9 ol r (j+1) _ n;omega⟩
   rw[s]
   have:=mI (f:=f) ol r (j+1) pre (by intro x d;have:=q x d;omega)
   simp only[cond_false,A3c,if_true,A1r]
   rw[this]
theorem SA {N:Nat} {c:CaseD} {o:Bool} {hr:Int} {j:Nat} {p:Ks} {K7:Int→LA→O R} {K9:Int→Int→LA→O R} {K:LA→Int→O R} (hs:Small c N) (hN:4096≤N) (v:PreV c) (h:j<c.outs.l.length):∀ (m q fuel:Nat) (A:List Int),q+m=(Bf c hr).length→m<fuel→A.length≤q →
  A++HS c.outs.l[j].lines.l ((Bf c hr).drop q) q=HS c.outs.l[j].lines.l (Bf c hr) 0 →
  K3 N K7 K9 K (Bf c hr).length (Bf c hr).length o c.av (((Bf c hr).map (Jk c)).flatMap B4) (Ax (Bf c hr)) fuel hr (j:Int) A.length (q:Int) (Di p) (Ax A)=K9 hr ((j+1:Nat):Int) (Di (Ao4 c hr j c.outs.l[j] p))
 | 0,q,fuel+1,A,hq,_,hA,d=>by
  rw[K3];unfold Vp
  have D:=YJ hr c.lines.l 0
  have F:=v.nl
  have k:=v.nb
  have n:=hs.out
  have S:c.buses.l.length*c.buses.l.length≤32*32:=A53 k k
  have s:(Bf c hr).length≤64:=by unfold Bf;omega
  rw[R5 (l:=Bf c hr) (by omega),HS,A1p] at d
  have z:∀ e ∈ (Bf c hr).map (Jk c),e.1<c.buses.l.length∧e.2<c.buses.l.length:=by
   intro e z
   simp only[A1y] at z
   obtain⟨l,G,rfl⟩:=z
   obtain⟨x,hx⟩:=v.lnV G
   rw[Aji hx];exact⟨hx.f1,hx.t1⟩
  rw[Hy (by omega),cf,Ep,A1c (by rw[aL];simp),A1x,A1c (by rw[Js];exact A1h _),
   te (by simp) rfl (by simp;omega) (by simp;omega) (by omega) (by omega) z ⟨by omega,by omega⟩,Ad (by decide),Fx (by have:=n.2;omega)]
  have e1:jh A ((Bf c hr).map (Jk c)) 0=(((Bf c hr).filter fun a=>!c.outs.l[j].lines.l.contains a).map (Jk c)):=by
   rw[d]
   have:=mI (f:=Jk c) c.outs.l[j].lines.l (Bf c hr) 0 [] (by simp)
   simpa using this
  rw[e1]
  have I:BD c.buses.l.length ((Bf c hr).map (Jk c))≤BD c.buses.l.length (((Bf c hr).filter fun a=>!c.outs.l[j].lines.l.contains a).map (Jk c)):=Ahg (by
   intro e t
   simp only[A1y,A3y] at t ⊢
   obtain⟨l,⟨G,_⟩,rfl⟩:=t
   exact⟨l,G,rfl⟩)
  have T:(!decide ((BD c.buses.l.length (((Bf c hr).filter fun a=>!c.outs.l[j].lines.l.contains a).map (Jk c)):Int)>(BD c.buses.l.length ((Bf c hr).map (Jk c)):Int)))=Ao3 c hr c.outs.l[j]:=by
   unfold Ao3
   generalize BD c.buses.l.length ((Bf c hr).map (Jk c))=x at *
   generalize BD c.buses.l.length (((Bf c hr).filter fun a=>!c.outs.l[j].lines.l.contains a).map (Jk c))=y at *
   by_cases M:x=y
   ·subst M;simp
   ·have a1:((y:Int)==(x:Int))=false:=by simp;omega
    rw[a1];simp;omega
  rw[T];rfl
 | m+1,q,fuel+1,A,hq,hf,hA,d=>by
  rw[K3];unfold Vp
  have u:q<(Bf c hr).length:=by omega
  have D:=YJ hr c.lines.l 0
  have F:=v.nl
  have s:(Bf c hr).length≤64:=by unfold Bf;omega
  have U:c.outs.l[j] ∈ c.outs.l:=A1q h
  have V:=hs.oli _ U
  have X:∀ (f:LA→Nat→O R),Bb 1 (drop 1 (drop (j*4) (List.flatMap OutD.av c.outs.l))) f=f (Ax c.outs.l[j].lines.l) c.outs.l[j].lines.l.length:=fun f=>by rw[Bi G9 _ _ h];simp[OutD.av,A9,Cc]
  have Y:(ble (A.length+1) 140737488355328&&ble ((A.length+1)*8) 140737488355328)=true:=by rw[Ft,Ft];simp;omega
  have b5:take (A.length*1) (Ax A)++[.int .i64 (q:Int)]=Ax (A++[(q:Int)]):=Aaa (B:=[(q:Int)]) rfl
  rw[Hf u,ct,M4,Ab h,ct,A1d,X,Ab u,ct,Ao1 (by simpa using u),A1d,R_ u,PY rfl V,Y,ct,b5,Fx (by omega)]
  rw[Ma u,HS] at d
  cases hx:c.outs.l[j].lines.l.contains (Bf c hr)[q] with
  | true =>
   rw[hx] at d
   have C:=SA (o:=o) (hr:=hr) (j:=j) (p:=p) (K7:=K7) (K9:=K9) (K:=K) hs hN v h m (q+1) fuel (A++[(q:Int)]) (by omega) (by omega) (by simp;omega) (by simpa using d)
   rw[A09] at C
   simpa using C
  | false =>
   rw[hx] at d
   have C:=SA (o:=o) (hr:=hr) (j:=j) (p:=p) (K7:=K7) (K9:=K9) (K:=K) hs hN v h m (q+1) fuel A (by omega) (by omega) (by omega) (by simpa using d)
   simpa using C
theorem oc {N:Nat} {c:CaseD} {o:Bool} {hr:Int} {K7:Int→LA→O R} {K:LA→Int→O R} (hs:Small c N) (hN:4096≤N) (v:PreV c):∀ (m j fuel:Nat) (p:Ks),j+m=c.outs.l.length→m<fuel →
  Jy N K7 K (Bf c hr).length (Bf c hr).length o c.av (((Bf c hr).map (Jk c)).flatMap B4) (Ax (Bf c hr)) fuel hr (j:Int) (Di p)=K7 (wrap .i64 (hr+1)) (Di (Hi (Ao4 c hr) (c.outs.l.drop j) j p))
 | 0,j,fuel+1,p,d,_=>by
  rw[Jy];unfold Ze
  rw[M4,Hy (by omega),cf,R5 (l:=c.outs.l) (by omega),Hi]
 | m+1,j,fuel+1,p,d,q=>by
  rw[Jy];unfold Ze
  have h:j<c.outs.l.length:=by omega
  have f:=YJ hr c.lines.l 0
  have k:=v.nl
  have n:=oc (o:=o) (hr:=hr) (K7:=K7) (K:=K) hs hN v m (j+1) fuel (Ao4 c hr j c.outs.l[j] p) (by omega) (by omega)
  have l10:=SA (R:=R) (N:=N) (c:=c) (o:=o) (hr:=hr) (j:=j) (p:=p) (K7:=K7) (K9:=Jy N K7 K (Bf c hr).length (Bf c hr).length o c.av (((Bf c hr).map (Jk c)).flatMap B4) (Ax (Bf c hr)) fuel) (K:=K) hs hN v h (Bf c hr).length 0 N [] (by omega) (by unfold Bf;omega) (by simp) (by simp)
  rw[M4,Hf h,ct,Ma (l:=c.outs.l) h,Hi,←n,←l10]
  rfl
theorem od {N H:Nat} {c:CaseD} {o:Bool} {K:LA→Int→O R} (hs:Small c N) (hN:4096≤N) (v:PreV c) (hH:c.hours=(H:Int)):∀ (m j fuel:Nat) (p:Ks),j+m=H→m<fuel →
  Ef N K o c.av fuel (j:Int) (Di p)=K (w3 (fv c m j p)) (Je (fv c m j p))
 | 0,j,fuel+1,p,d,_=>by
  rw[Ef];unfold Sx
  rw[Jv,hH,Hy (by omega),Aac,fv];rfl
 | m+1,j,fuel+1,p,d,q=>by
  rw[Ef];unfold Sx DY LI
  have s:=v.hours
  rw[Jv,hH,Hf (by omega),LX,Aac]
  rcases p with _ | ⟨x,e,f⟩
  ·simp only[Je,beq_self_eq_true,cond_true]
   have l9:=oc (R:=R) (N:=N) (c:=c) (o:=o) (hr:=(j:Int)) (K7:=Ef N K o c.av fuel) (K:=K) hs hN v c.outs.l.length 0 N none (by omega) hs.out.1
   rw[Hq,ct,Dc,Ahi hs (fun l k=>v.lnV k)]
   simp only[A1z,A3t] at l9
   rw[l9,Fx (by omega),od hs hN v hH m (j+1) fuel _ (by omega) (by omega)];rfl
  ·have n:(e==0)=false:=by simpa using f
   simp only[Je,n,beq_self_eq_true,cond_true,cond_false]
   rw[oY]
theorem Aea {N:Nat} {c:CaseD} {o:Bool} {y:(Int×Int×Int)×{ e:Int // e≠0 }} {K:LA→Int→O R} {fuel:Nat}:Ef N K o c.av (fuel+1) 0 (Di (some y))=K (w3 (some y)) (Je (some y)):=by
 rw[Ef];unfold Sx
 rw[Jv,LX,Aac]
 have d:(y.2.1==0)=false:=by simpa using y.2.2
 cases decide ((0:Int)<c.hours)<;>simp[Je,d]
theorem ti {N:Nat} {c:CaseD} {o:Bool} {K:LA→Int→O R} (hs:Small c N) (hN:4096≤N):NK N c.av o K=K (w3 (YM c)) (Je (YM c)):=by
 rw[d9];unfold QQ
 have d:[(.int .i64 (0:Int)),(.int .i64 (0:Int)),(.int .i64 (0:Int)),(.int .i64 (0:Int))]=Di none:=rfl
 rw[Hq,ct,Dc,d,QO hs]
 have l0:=fun p=>oZ (R:=R) (N:=N) (c:=c) (o:=o) (K:=K) hs c.buses.l.length 0 N p (by omega) hs.bus.1
 have l2:=fun p=>o0 (R:=R) (N:=N) (c:=c) (o:=o) (K:=K) hs c.lines.l.length 0 N p (by omega) hs.lin.1
 have l3:=fun p=>o7 (R:=R) (N:=N) (c:=c) (o:=o) (K:=K) hs c.units.l.length 0 N p (by omega) hs.uni.1
 have l4:=fun p=>o8 (R:=R) (N:=N) (c:=c) (o:=o) (K:=K) hs c.stores.l.length 0 N p (by omega) hs.sto.1
 have l5:=fun p=>o_ (R:=R) (N:=N) (c:=c) (o:=o) (K:=K) hs c.ties.l.length 0 N p (by omega) hs.tie.1
 have l6:=fun p=>oa (R:=R) (N:=N) (c:=c) (o:=o) (K:=K) hs c.outs.l.length 0 N p (by omega) hs.out.1
 simp only[A1z,A3t] at l0 l2 l3 l4 l5 l6
 try dsimp only
 rw[l0,l2,l3,l4,l5,l6]
 show Ef N K o c.av N 0 (Di (Ao2 c))=_
 unfold YM
 cases f:Ao2 c with
 | some y =>
  rcases N with _ | N
  ·omega
  ·exact Aea
 | none =>
  have v:=Alr f
  have k:=v.hours
  have:=od (R:=R) (N:=N) (H:=c.hours.toNat) (c:=c) (o:=o) (K:=K) hs hN v (by omega) c.hours.toNat 0 N none (by omega) (by omega)
  simpa using this
theorem Aut (p:Ks):(w3 p).length=3:=by rcases p with _ | ⟨⟨a,b,f⟩,e⟩<;>rfl
theorem Ao6 (v n:Int) (l:1≤n) (q:n≤4611686018427387904):(wrap .u64 n==0)=false∧0≤wrap .i64 (Int.tmod (wrap .u64 v) (wrap .u64 n))∧wrap .i64 (Int.tmod (wrap .u64 v) (wrap .u64 n))<n:=by
 have hn:wrap .u64 n=n:=IntWalk.u64_in _ (by omega)
 have d:0≤wrap .u64 v:=by rw[IntKind.wrap_u64];omega
 rw[hn]
 have f:0≤Int.tmod (wrap .u64 v) n:=Int.tmod_nonneg _ d
 have k:Int.tmod (wrap .u64 v) n<n:=A6c _ (by omega)
 rw[wrap_i64 _ (by omega)]
 exact⟨by simp;omega,f,k⟩
theorem nx {N:Nat} {l:List Int} {t o:Bool} (x:l.length≤9223372036854775807) (n:Int) (f:1≤n) (q:n≤4611686018427387904) (k:Nat) (s:k≤l.length) :
  ∃ (v:Int) (d:Nat),0≤v∧v<n∧d≤l.length∧∀ K:Int→Int→O R,Ae N n (Ax l) l.length t o (k:Int) K=K v (d:Int):=by
 by_cases h:k<l.length
 ·obtain⟨a1,a2,a3⟩:=Ao6 l[k] n f q
  refine⟨_,k+1,a2,a3,by omega,fun K=>?_⟩
  rw[Xq];unfold Y2
  have w0:wrap .i64 ((k:Int)+1)=((k+1:Nat):Int):=by rw[wrap_i64 _ (by omega)];omega
  have u:wrap .i64 (wrap .i64 ((k:Int)+1) - 1)=(k:Int):=by rw[w0,wrap_i64 _ (by omega)];omega
  rw[u,w0,Ab h,ct,S_ h,ri];unfold yc
  rw[a1,cf,show decide ((k:Int)≥(l.length:Int))=false by simp;omega,cf]
 ·refine⟨0,k,by omega,by omega,s,fun K=>?_⟩
  rw[Xq];unfold Y2
  rw[show decide ((k:Int)≥(l.length:Int))=true by simp;omega,ct]
theorem tj {N m:Nat} {l:List Int} {t o:Bool} (q:l.length≤9223372036854775807) (n:Int) (s:1≤n) (u:n≤4611686018427387904) (z:m≤1000):∀ (r j fuel:Nat) (k:Nat) (A:List Int),j+r=m→r<fuel→k≤l.length→A.length=j →
  ∃ (B:List Int) (y:Nat),B.length=r∧(∀ x ∈ B,0≤x∧x<n)∧y≤l.length∧∀ K:Nat→Int→LA→O R,F6 N K (m:Int) n (Ax l) l.length t o fuel j (j:Int) (k:Int) (Ax A)=K m (y:Int) (Ax (A++B))
 | 0,j,fuel+1,k,A,C,_,d,hA=>by
  refine⟨[],k,rfl,by simp,d,fun K=>?_⟩
  rw[F6];unfold O5
  have:j=m:=by omega
  subst this
  rw[Hy (A1h _),cf,A1p]
 | r+1,j,fuel+1,k,A,C,T,d,hA=>by
  obtain⟨v,D,v0,v1,f,F⟩:=nx (R:=R) (N:=N) (t:=t) (o:=o) q n s u k d
  obtain⟨B,k2,G,I,M,S⟩:=tj q n s u z r (j+1) fuel D (A++[v]) (by omega) (by omega) f (by simp[hA])
  refine⟨v::B,k2,by simp[G],?_,M,fun K=>?_⟩
  ·intro x hx
   rcases A1j.1 hx with rfl | hx
   ·exact⟨v0,v1⟩
   ·exact I x hx
  ·rw[F6];unfold O5
   have c3:(ble (j+1) 140737488355328&&ble ((j+1)*8) 140737488355328)=true:=by rw[Ft,Ft];simp;omega
   have c5:take (j*1) (Ax A)++[.int .i64 v]=Ax (A++[v]):=Aaa (B:=[v]) hA.symm
   rw[Hf (by omega),ct,F,c3,ct,c5,Fx (by omega),S]
   simp
theorem HT {N m:Nat} {l:List Int} {t o:Bool} (hN:1001≤N) (f:l.length≤9223372036854775807) (n:Int) (q:1≤n) (s:n≤4611686018427387904) (u:m≤1000) (k:Nat) (v:k≤l.length) :
  ∃ (B:List Int) (d:Nat),B.length=m∧(∀ x ∈ B,0≤x∧x<n)∧d≤l.length∧∀ K:Nat→Int→LA→O R,Gr N (m:Int) n (Ax l) l.length t o (k:Int) K=K m (d:Int) (Ax B):=by
 obtain⟨B,d,y,z,A,C⟩:=tj (R:=R) (N:=N) (t:=t) (o:=o) f n q s u m 0 N k [] (by omega) (by omega) v rfl
 refine⟨B,d,y,z,A,fun K=>?_⟩
 rw[IE];unfold U4
 simpa[Ax] using C K
theorem mJ {N:Nat} {l:List Int} {t o:Bool} (n:l.length≤9223372036854775807) (H:Int) (A:1≤H) (F:H≤1000) (k:Nat) (C:k≤l.length) :
  ∃ (B:List Int) (q:Nat),B.length≤1∧(∀ x ∈ B,0≤x∧x<H)∧q≤l.length∧∀ K:Nat→Int→LA→O R,Re N H (Ax l) l.length t o (k:Int) K=K B.length (q:Int) (Ax B):=by
 obtain⟨v,s,v0,v1,d,y⟩:=nx (R:=R) (N:=N) (t:=t) (o:=o) n 6 (by omega) (by omega) k C
 by_cases z:v=5
 ·obtain⟨u,k2,u0,u1,f,D⟩:=nx (R:=R) (N:=N) (t:=t) (o:=o) n H A (by omega) s d
  refine⟨[u],k2,by simp,by intro x hx;simp at hx;subst hx;exact⟨u0,u1⟩,f,fun K=>?_⟩
  rw[Xr];unfold Y3
  rw[y,D,z];rfl
 ·refine⟨[],s,by simp,by simp,d,fun K=>?_⟩
  rw[Xr];unfold Y3
  have:(v==5)=false:=by simpa using z
  rw[y,this];rfl
def Azs:Lu:=[48,49,50,51,52,53,54,55,56,57,97,98,99,100,101,102]
theorem Uu {N:Nat} {c:UInt8} {i:Nat} (hi:i<16) {K:Lu→O R}:PK N [c] (i:Int) K=K [c,Azs.getD i 0]:=by
 rw[nY];unfold rj
 have e1:Int.tmod (i:Int) 16=(i:Int):=Int.tmod_eq_of_lt (by omega) (by omega)
 rw[e1,Fx (by omega)]
 have c1:(decide ((0:Int)≤(i:Int))&&(decide ((i:Int)≤((i+1:Nat):Int))&&(decide (((i+1:Nat):Int)≤(16:Int))&&decide ((16:Int)≤(16:Int)))))=true:=by simp;omega
 rw[c1,ct]
 simp only[A1d,A5f]
 have:take 1 (drop i ([48,49,50,51,52,53,54,55,56,57,97,98,99,100,101,102]:Lu))=[Azs.getD i 0]:=by
  rw[Ma (by simpa using hi)]
  simp[Azs,hi]
 rw[this];rfl
theorem Rz {a:Int} (h:-9223372036854775808≤a∧a≤9223372036854775807):wrap .i64 a=a:=wrap_i64 a h
theorem Jl {lo hi n:Int} (h:lo≤n∧n≤hi):Fu lo hi n=true:=by unfold Fu;simp;omega
structure LineG (i:Nat) (fr tx H:Int) (x:LineD):Prop where
 name:x.name=[108,Azs.getD i 0]
 fr:x.fr=fr
 tx:x.tl=tx
 re:(M5 x.re&&decide (x.re.num>0))=true
 smin:(M5 x.smin&&decide (x.smin.num≤0))=true
 smax:(M5 x.smax&&decide (x.smax.num≥0))=true
 lim:Fu 0 1048576 x.limit=true
 em:Fu x.limit 1048576 x.emer=true
 aw:x.away.l.length≤1
 awr:∀ y ∈ x.away.l,0≤y∧y<H
theorem xL {f:FracD} (h:1≤f.den∧f.den≤1048576∧-1048576≤f.num∧f.num≤1048576):M5 f=true:=by unfold M5;rw[Jl (by omega),Jl (by omega)];rfl
theorem Ys {B:List Int}:take (B.length*1) (Ax B)=B.flatMap F3:=by rw[A1x,A1c (by rw[Js];exact A1h _),Cc]
theorem xM {N:Nat} {l:List Int} {t o:Bool} (f:l.length≤9223372036854775807) {i:Nat} (hi:i<16) (fr tx:Int) {H:Int} (hH:1≤H∧H≤24) (k:Nat) (Y:k≤l.length) :
  ∃ (x:LineD) (V:Nat),LineG i fr tx H x∧V≤l.length∧∀ K:LA→Int→O R,U5 N (i:Int) fr tx H (Ax l) l.length t o (k:Int) K=K x.av (V:Int):=by
 obtain⟨y2,ky2,y20,y21,v,y⟩:=nx (R:=R) (N:=N) (t:=t) (o:=o) f 4 (by omega) (by omega) k Y
 obtain⟨y4,ky4,y40,y41,z,A⟩:=nx (R:=R) (N:=N) (t:=t) (o:=o) f 2 (by omega) (by omega) ky2 v
 obtain⟨y6,ky6,y60,y61,C,D⟩:=nx (R:=R) (N:=N) (t:=t) (o:=o) f 40 (by omega) (by omega) ky4 z
 obtain⟨y8,ky8,y80,y81,F,G⟩:=nx (R:=R) (N:=N) (t:=t) (o:=o) f 20 (by omega) (by omega) ky6 C
 obtain⟨y10,ky10,y100,y101,d,n⟩:=nx (R:=R) (N:=N) (t:=t) (o:=o) f 5 (by omega) (by omega) ky8 F
 by_cases X:y10=4
 ·have e4:(y10==4)=true:=by simpa using X
  obtain⟨y12,ky12,y120,y121,q,I⟩:=nx (R:=R) (N:=N) (t:=t) (o:=o) f 4 (by omega) (by omega) ky10 d
  obtain⟨y14,ky14,y140,y141,s,M⟩:=nx (R:=R) (N:=N) (t:=t) (o:=o) f 2 (by omega) (by omega) ky12 q
  obtain⟨y16,ky16,y160,y161,u,S⟩:=nx (R:=R) (N:=N) (t:=t) (o:=o) f 4 (by omega) (by omega) ky14 s
  obtain⟨B,kB,T,U,hkB,hB⟩:=mJ (R:=R) (N:=N) (t:=t) (o:=o) f H hH.1 (by omega) ky16 u
  refine⟨⟨[108,Azs.getD i 0],fr,tx,⟨1+y2,1+y4⟩,⟨0 - y12,1+y14⟩,⟨y16,1⟩,4+y6,4+y6+y8,.of B false false⟩,kB,⟨rfl,rfl,rfl,?_,?_,?_,Jl (by simp only;omega),Jl (by simp only;omega),T,U⟩,hkB,fun K=>?_⟩
  ·rw[xL (by simp only;omega)];simp;omega
  ·rw[xL (by simp only;omega)];simp;omega
  ·rw[xL (by simp only;omega)];simp;omega
  ·rw[Xs];unfold Y4
   rw[Uu hi,y,A,D,G,n,e4,ct,I,M,S,hB,Ys,Rz (a:=1+y2) (by omega),Rz (a:=1+y4) (by omega),Rz (a:=0 - y12) (by omega),Rz (a:=1+y14) (by omega),Rz (a:=4+y6) (by omega),Rz (a:=4+y6+y8) (by omega)]
   rfl
 ·have e4:(y10==4)=false:=by simpa using X
  obtain⟨B,kB,T,U,hkB,hB⟩:=mJ (R:=R) (N:=N) (t:=t) (o:=o) f H hH.1 (by omega) ky10 d
  refine⟨⟨[108,Azs.getD i 0],fr,tx,⟨1+y2,1+y4⟩,⟨0,1⟩,⟨0,1⟩,4+y6,4+y6+y8,.of B false false⟩,kB,⟨rfl,rfl,rfl,?_,?_,?_,Jl (by simp only;omega),Jl (by simp only;omega),T,U⟩,hkB,fun K=>?_⟩
  ·rw[xL (by simp only;omega)];simp;omega
  ·rw[xL (by simp only;omega)];simp
  ·rw[xL (by simp only;omega)];simp
  ·rw[Xs];unfold Y4
   rw[Uu hi,y,A,D,G,n,e4,cf,hB,Ys,Rz (a:=1+y2) (by omega),Rz (a:=1+y4) (by omega),Rz (a:=4+y6) (by omega),Rz (a:=4+y6+y8) (by omega)]
   rfl
structure UnitG (i:Nat) (nb H:Int) (u:UnitD):Prop where
 name:u.name=[117,Azs.getD i 0]
 bus:0≤u.bus∧u.bus<nb
 min:Fu 0 1048576 u.min=true
 max:Fu u.min 1048576 u.max=true
 sl:1≤u.segs.l.length∧u.segs.l.length≤8
 sok:u.segs.l.all ic=true
 sord:f4 u.segs.l=true
 ssum:(fZ 0 u.segs.l==wrap .i64 (u.max - u.min))=true
 noLoad:Fu 0 1048576 u.noLoad=true
 rampUp:Fu 0 1048576 u.rampUp=true
 rampDown:Fu 0 1048576 u.rampDown=true
 startRamp:Fu u.min u.max u.startRamp=true
 stopRamp:Fu u.min u.max u.stopRamp=true
 upTime:Fu 0 24 u.upTime=true
 downTime:Fu 0 24 u.downTime=true
 startTime:Fu 0 24 u.startTime=true
 hotCost:Fu 0 1048576 u.hotCost=true
 coldCost:Fu 0 1048576 u.coldCost=true
 hotHours:Fu 0 24 u.hotHours=true
 reserve:Fu 0 1048576 u.reserve=true
 reservePrice:Fu 0 1048576 u.reservePrice=true
 aw:u.away.l.length≤1
 awr:∀ y ∈ u.away.l,0≤y∧y<H
 state:Fu 0 2 u.state=true
 starting:(u.state != 1||u.startTime != 0)=true
 hours:Fu 1 48 u.hours=true
 started:(u.state != 1||decide (u.hours≤u.startTime))=true
 output:cond (u.state==2) (Fu u.min u.max u.output) (Fu 0 0 u.output)=true
theorem xN {s:SegD}:∀ {S:List SegD},f4 S=true→(∀ x ∈ S,x.price≤s.price)→f4 (S++[s])=true
 | [],_,_=>sa s
 | [a],_,h=>by
  rw[A1o,A11,QM,sa]
  have:=h a (by simp);simp;omega
 | a::b::r,d,h=>by
  rw[QM] at d
  simp only[A1f] at d
  rw[A1o,A1o,QM,d.1]
  have:=xN (S:=b::r) d.2 (fun x hx=>h x (by rcases A1j.1 hx with f | f<;>simp[f]))
  simpa using this
theorem xO {s:SegD}:∀ {S:List SegD} {a:Int},fZ a (S++[s])=wrap .i64 (fZ a S+s.width)
 | [],a=>rfl
 | x::r,a=>by rw[A1o,fZ,fZ];exact xO
theorem Arx (S:List SegD):(S.flatMap SegD.av).length=S.length*2:=by
 induction S with
 | nil=>rfl
 | cons e r d=>rw[A10,A09,d,GA];simp;omega
theorem mK {S:List SegD} {n:Nat} (h:n=S.length):take (n*2) (S.flatMap SegD.av)=S.flatMap SegD.av:=A1c (by rw[Arx,h];exact A1h _)
theorem xP {N:Nat} {l:List Int} {t o:Bool} (d:l.length≤9223372036854775807) {i:Nat} {nb H bus mn noLoad:Int} (hb:0≤bus∧bus<nb) (hmn:0≤mn∧mn<8) (hno:0≤noLoad∧noLoad<20) (hH:1≤H∧H≤24):∀ (n fuel:Nat) (p:Int) (k:Nat) (M:Int) (S:List SegD),n<fuel→k≤l.length→S.length+n≤2→1≤S.length+n→(∀ x ∈ S,x.price≤p∧ic x=true)→f4 S=true→fZ 0 S=M - mn→0≤M - mn→M - mn≤15*S.length→-10≤p→p≤20+10*S.length →
  ∃ (u:UnitD) (k':Nat),UnitG i nb H u∧k'≤l.length∧∀ K:LA→Int→O R,Fv N K H (Ax l) l.length t o [117,Azs.getD i 0] bus mn noLoad fuel p (n:Int) (k:Int) M S.length (S.flatMap SegD.av)=K u.av (k':Int)
 | 0,fuel+1,p,k,M,S,_,hk,hS,hS1,hp,ho,hw,hM0,hM1,_,_=>by
  obtain⟨y16,ky16,y160,y161,v,hy16⟩:=nx (R:=R) (N:=N) (t:=t) (o:=o) d 20 (by omega) (by omega) k hk
  obtain⟨y18,ky18,y180,y181,y,hy18⟩:=nx (R:=R) (N:=N) (t:=t) (o:=o) d 20 (by omega) (by omega) ky16 v
  obtain⟨y20,ky20,y200,y201,z,hy20⟩:=nx (R:=R) (N:=N) (t:=t) (o:=o) d (M - mn+1) (by omega) (by omega) ky18 y
  obtain⟨y22,ky22,y220,y221,A,hy22⟩:=nx (R:=R) (N:=N) (t:=t) (o:=o) d (M - mn+1) (by omega) (by omega) ky20 z
  obtain⟨y24,ky24,y240,y241,C,hy24⟩:=nx (R:=R) (N:=N) (t:=t) (o:=o) d 3 (by omega) (by omega) ky22 A
  obtain⟨y26,ky26,y260,y261,D,hy26⟩:=nx (R:=R) (N:=N) (t:=t) (o:=o) d 3 (by omega) (by omega) ky24 C
  obtain⟨y28,ky28,y280,y281,F,hy28⟩:=nx (R:=R) (N:=N) (t:=t) (o:=o) d 2 (by omega) (by omega) ky26 D
  obtain⟨y30,ky30,y300,y301,G,hy30⟩:=nx (R:=R) (N:=N) (t:=t) (o:=o) d 30 (by omega) (by omega) ky28 F
  obtain⟨y32,ky32,y320,y321,I,hy32⟩:=nx (R:=R) (N:=N) (t:=t) (o:=o) d 30 (by omega) (by omega) ky30 G
  obtain⟨y34,ky34,y340,y341,T,hy34⟩:=nx (R:=R) (N:=N) (t:=t) (o:=o) d 4 (by omega) (by omega) ky32 I
  obtain⟨y36,ky36,y360,y361,U,hy36⟩:=nx (R:=R) (N:=N) (t:=t) (o:=o) d 8 (by omega) (by omega) ky34 T
  obtain⟨y38,ky38,y380,y381,V,hy38⟩:=nx (R:=R) (N:=N) (t:=t) (o:=o) d 4 (by omega) (by omega) ky36 U
  obtain⟨B,kB,b1,b2,hkB,hB⟩:=mJ (R:=R) (N:=N) (t:=t) (o:=o) d H hH.1 (by omega) ky38 V
  obtain⟨y43,ky43,y430,y431,X,hy43⟩:=nx (R:=R) (N:=N) (t:=t) (o:=o) d (2+y28) (by omega) (by omega) kB hkB
  obtain⟨y46,ky46,y460,y461,q,hy46⟩:=nx (R:=R) (N:=N) (t:=t) (o:=o) d 4 (by omega) (by omega) ky43 X
  have i43:Ag y43 3=true:=xK y430 (by omega)
  obtain⟨x45,hx45,hst⟩:∃ x45:Int,(∀ f:Int→O R,Aw .i64 (drop (0+((Int.toNat y43)*1)) [(.int .i64 (0:Int)),(.int .i64 (2:Int)),(.int .i64 (1:Int))]) f=f x45)∧(x45=0∨x45=2∨(x45=1∧y28=1)):=by
   have e:[(.int .i64 (0:Int)),(.int .i64 (2:Int)),(.int .i64 (1:Int))]=Ax [0,2,1]:=rfl
   refine⟨([0,2,1]:List Int).getD y43.toNat 0,fun f=>by rw[e,Ao1 (by simp;omega)],?_⟩
   have:y43=0∨y43=1∨y43=2:=by omega
   rcases this with rfl | rfl | rfl
   ·left;rfl
   ·right;left;rfl
   ·right;right;exact⟨rfl,by omega⟩
  have wM:wrap .i64 (wrap .i64 (M - mn)+1)=M - mn+1:=by rw[Rz (a:=M - mn) (by omega),Rz (by omega)]
  have head:∀ K:LA→Int→O R,Fv N K H (Ax l) l.length t o [117,Azs.getD i 0] bus mn noLoad (fuel+1) p ((0:Nat):Int) (k:Int) M S.length (S.flatMap SegD.av) =
    N8 N K (Ax l) l.length t o (ky46:Int) [117,Azs.getD i 0] bus mn M S.length noLoad y16 y18 y24 y26 y28 y30 y34 y36 y38 B.length x45 (S.flatMap SegD.av) (Ax B) (mn+y20) (mn+y22) (y30+y32) (cond (x45==1) 1 (1+y46)):=fun K=>by
   rw[Fv];unfold Rf
   rw[show decide (((0:Nat):Int)>0)=false from rfl,cf,wM,hy16,hy18,hy20,hy22,hy24,hy26,hy28,hy30,hy32,hy34,hy36,hy38,hB,Rz (a:=2+y28) (by omega),hy43,i43,ct,hx45,hy46,Rz (a:=mn+y20) (by omega),Rz (a:=mn+y22) (by omega),Rz (a:=y30+y32) (by omega),Rz (a:=1+y46) (by omega)]
   cases x45==1<;>rfl
  have hhr:1≤(cond (x45==1) (1:Int) (1+y46))∧(cond (x45==1) (1:Int) (1+y46))≤4:=by cases x45==1<;>simp<;>omega
  have hst1:x45=1→cond (x45==1) (1:Int) (1+y46)=1:=by intro e;subst e;rfl
  have sall:S.all ic=true:=by rw[A1u];exact fun x hx=>(hp x hx).2
  have ssum:(fZ 0 S==wrap .i64 (M - mn))=true:=by rw[Rz (a:=M - mn) (by omega),hw];simp
  have starting:(x45 != 1||y28 != 0)=true:=by
   rcases hst with h | h | ⟨h,h'⟩
   ·rw[h];rfl
   ·rw[h];rfl
   ·rw[h,h'];rfl
  have started:(x45 != 1||decide ((cond (x45==1) (1:Int) (1+y46))≤y28))=true:=by
   rcases hst with h | h | ⟨h,h'⟩
   ·rw[h];rfl
   ·rw[h];rfl
   ·rw[h,h'];rfl
  have stR:Fu 0 2 x45=true:=Jl (by omega)
  by_cases s:x45=2
  ·obtain⟨y48,ky48,y480,y481,Y,hy48⟩:=nx (R:=R) (N:=N) (t:=t) (o:=o) d (M - mn+1) (by omega) (by omega) ky46 q
   refine⟨⟨[117,Azs.getD i 0],bus,mn,M,.of S false false,noLoad,y16,y18,mn+y20,mn+y22,y24,y26,y28,y30,y30+y32,y34,y36,y38,.of B false false,x45,cond (x45==1) 1 (1+y46),mn+y48⟩,ky48,
    ⟨rfl,hb,Jl (by simp only;omega),Jl (by simp only;omega),by simp only[Sl.l];omega,sall,ho,ssum,Jl (by simp only;omega),Jl (by simp only;omega),Jl (by simp only;omega),Jl (by simp only;omega),Jl (by simp only;omega),Jl (by simp only;omega),Jl (by simp only;omega),Jl (by simp only;omega),Jl (by simp only;omega),Jl (by simp only;omega),Jl (by simp only;omega),Jl (by simp only;omega),Jl (by simp only;omega),b1,b2,stR,starting,Jl (by simp only;omega),started,?_⟩,Y,fun K=>?_⟩
   ·have:(x45==2)=true:=by simpa using s
    simp only[this,cond_true];exact Jl (by omega)
   ·rw[head];unfold N8
    have:(x45==2)=true:=by simpa using s
    rw[this,ct,wM,hy48,Rz (a:=mn+y48) (by omega),mK rfl,Ys]
    rfl
  ·refine⟨⟨[117,Azs.getD i 0],bus,mn,M,.of S false false,noLoad,y16,y18,mn+y20,mn+y22,y24,y26,y28,y30,y30+y32,y34,y36,y38,.of B false false,x45,cond (x45==1) 1 (1+y46),0⟩,ky46,
    ⟨rfl,hb,Jl (by simp only;omega),Jl (by simp only;omega),by simp only[Sl.l];omega,sall,ho,ssum,Jl (by simp only;omega),Jl (by simp only;omega),Jl (by simp only;omega),Jl (by simp only;omega),Jl (by simp only;omega),Jl (by simp only;omega),Jl (by simp only;omega),Jl (by simp only;omega),Jl (by simp only;omega),Jl (by simp only;omega),Jl (by simp only;omega),Jl (by simp only;omega),Jl (by simp only;omega),b1,b2,stR,starting,Jl (by simp only;omega),started,?_⟩,q,fun K=>?_⟩
   ·have:(x45==2)=false:=by simpa using s
    simp only[this,cond_false];exact Jl (by omega)
   ·rw[head];unfold N8
    have:(x45==2)=false:=by simpa using s
    rw[this,cf,mK rfl,Ys]
    rfl
 | n+1,fuel+1,p,k,M,S,hf,hk,hS,hS1,hp,ho,hw,hM0,hM1,hp0,hp1=>by
  obtain⟨y12,ky12,y120,y121,hky12,hy12⟩:=nx (R:=R) (N:=N) (t:=t) (o:=o) d 15 (by omega) (by omega) k hk
  obtain⟨y14,ky14,y140,y141,hky14,hy14⟩:=nx (R:=R) (N:=N) (t:=t) (o:=o) d 10 (by omega) (by omega) ky12 hky12
  obtain⟨u,k',g1,g2,g3⟩:=xP (N:=N) (t:=t) (o:=o) (i:=i) (nb:=nb) (H:=H) (bus:=bus) (mn:=mn) (noLoad:=noLoad) d hb hmn hno hH n fuel (p+y14) ky14 (M+(1+y12)) (S++[(⟨1+y12,p⟩:SegD)]) (by omega) hky14 (by simp;omega) (by simp;omega) (by
   intro x hx
   rcases A1k.1 hx with h | h
   ·have:=hp x h;exact⟨by omega,this.2⟩
   ·simp at h;subst h
    refine⟨by simp only;omega,?_⟩
    unfold ic;rw[Jl (by simp only;omega),Jl (by simp only;omega)];rfl) (xN ho fun x hx=>(hp x hx).1) (by rw[xO,hw,Rz (by simp only;omega)];simp only;omega) (by omega) (by simp;omega) (by omega) (by simp;omega)
  refine⟨u,k',g1,g2,fun K=>?_⟩
  rw[Fv];unfold Rf
  have c3:(ble (S.length+1) 140737488355328&&ble ((S.length+1)*16) 140737488355328)=true:=by rw[Ft,Ft];simp;omega
  have c5:take (S.length*2) (S.flatMap SegD.av)++[.int .i64 (1+y12),.int .i64 p]=(S++[(⟨1+y12,p⟩:SegD)]).flatMap SegD.av:=by rw[mK rfl];simp[SegD.av]
  have wn:wrap .i64 (((n+1:Nat):Int) - 1)=(n:Int):=sD (by omega)
  rw[show decide (((n+1:Nat):Int)>0)=true from decide_eq_true (by omega),ct,hy12,c3,ct,hy14,Rz (a:=1+y12) (by omega),Rz (a:=p+y14) (by omega),wn,Rz (a:=M+(1+y12)) (by omega),c5]
  have:=g3 K
  rw[A09] at this
  exact this
theorem Als {N:Nat} {l:List Int} {t o:Bool} (hN:8≤N) (f:l.length≤9223372036854775807) {i:Nat} (hi:i<16) {nb H:Int} (G:1≤nb∧nb≤1000) (hH:1≤H∧H≤24) (k:Nat) (I:k≤l.length) :
  ∃ (u:UnitD) (z:Nat),UnitG i nb H u∧z≤l.length∧∀ K:LA→Int→O R,U6 N (i:Int) nb H (Ax l) l.length t o (k:Int) K=K u.av (z:Int):=by
 obtain⟨y2,ky2,y20,y21,q,A⟩:=nx (R:=R) (N:=N) (t:=t) (o:=o) f nb (by omega) (by omega) k I
 obtain⟨y4,ky4,y40,y41,s,C⟩:=nx (R:=R) (N:=N) (t:=t) (o:=o) f 8 (by omega) (by omega) ky2 q
 obtain⟨y6,ky6,y60,y61,v,D⟩:=nx (R:=R) (N:=N) (t:=t) (o:=o) f 20 (by omega) (by omega) ky4 s
 obtain⟨y8,ky8,y80,y81,x,F⟩:=nx (R:=R) (N:=N) (t:=t) (o:=o) f 20 (by omega) (by omega) ky6 v
 obtain⟨y10,ky10,y100,y101,d,y⟩:=nx (R:=R) (N:=N) (t:=t) (o:=o) f 2 (by omega) (by omega) ky8 x
 obtain⟨n,hn⟩:∃ n:Nat,1+y10=(n:Int):=⟨(1+y10).toNat,by omega⟩
 obtain⟨u,z,M,S,T⟩:=xP (R:=R) (N:=N) (l:=l) (t:=t) (o:=o) f (i:=i) (nb:=nb) (H:=H) (bus:=y2) (mn:=y4) (noLoad:=y6) ⟨y20,y21⟩ ⟨y40,y41⟩ ⟨y60,y61⟩ hH n N (y8 - 2) ky10 y4 [] (by omega) d (by simp;omega) (by simp;omega) (by simp) Ac0 (by simp[fZ]) (by omega) (by simp) (by omega) (by simp;omega)
 refine⟨u,z,M,S,fun K=>?_⟩
 rw[MN];unfold Y5
 rw[Uu hi,A,C,D,F,y,Rz (a:=y8 - 2) (by omega),Rz (a:=1+y10) (by omega),hn]
 simpa using T K
structure OutG (i:Nat) (nl nu:Nat) (x:OutD):Prop where
 name:x.name=[111,Azs.getD i 0]
 ll:x.lines.l.length=1∨x.lines.l.length=2
 lr:∀ y ∈ x.lines.l,0≤y∧y<(nl:Int)
 la:uX x.lines.l=true
 ml:x.moves.l.length≤nu
 mc:((x.moves.l.length:Int)==0||x.corr)=true
 mr:∀ m ∈ x.moves.l,0≤m.unit∧m.unit<(nu:Int)
 ma:uX (x.moves.l.map (·.unit))=true
 mi:x.moves.l.all Ac2=true
theorem Aeb {s:Int}:∀ {S:List Int},uX S=true→(∀ x ∈ S,x<s)→uX (S++[s])=true
 | [],_,_=>iD s
 | [a],_,h=>by
  rw[A1o,A11,MZ,iD]
  have:=h a (by simp);simp;omega
 | a::b::r,d,h=>by
  rw[MZ] at d
  simp only[A1f] at d
  rw[A1o,A1o,MZ,d.1]
  have:=Aeb (S:=b::r) d.2 (fun x hx=>h x (by rcases A1j.1 hx with f | f<;>simp[f]))
  simpa using this
theorem Ao7 (S:List MoveD):(S.flatMap MoveD.av).length=S.length*3:=by
 induction S with
 | nil=>rfl
 | cons e r d=>rw[A10,A09,d,Rj];simp;omega
theorem mL {N:Nat} {l:List Int} {t o:Bool} (u:l.length≤9223372036854775807) {i nl nu:Nat} (v:nu≤16) {B:List Int} (hB1:B.length=1∨B.length=2) (hB2:∀ y ∈ B,0≤y∧y<(nl:Int)) (hB3:uX B=true):∀ (m j fuel:Nat) (k:Nat) (S:List MoveD),j+m=nu→m<fuel→k≤l.length→S.length≤j→(∀ x ∈ S,0≤x.unit∧x.unit<(j:Int))→uX (S.map (·.unit))=true→S.all Ac2=true →
  ∃ (x:OutD) (s:Nat),OutG i nl nu x∧s≤l.length∧∀ K:LA→Int→O R,Fd N K (nu:Int) (Ax l) l.length t o [111,Azs.getD i 0] B.length (Ax B) fuel (j:Int) (k:Int) S.length (S.flatMap MoveD.av)=K x.av (s:Int)
 | 0,j,fuel+1,k,S,U,_,D,hS,hr,C,hi=>by
  have F:j=nu:=by omega
  subst F
  refine⟨⟨[111,Azs.getD i 0],.of B false false,true,.of S false false⟩,k,⟨rfl,hB1,hB2,hB3,hS,by simp,hr,C,hi⟩,D,fun K=>?_⟩
  rw[Fd];unfold Io
  rw[Hy (A1h _),cf,Ys,A1c (by rw[Ao7];exact A1h _)]
  rfl
 | m+1,j,fuel+1,k,S,U,X,D,hS,hr,C,hi=>by
  obtain⟨y10,ky10,y100,y101,d,f⟩:=nx (R:=R) (N:=N) (t:=t) (o:=o) u 2 (by omega) (by omega) k D
  by_cases T:y10=1
  ·obtain⟨y12,ky12,y120,y121,n,z⟩:=nx (R:=R) (N:=N) (t:=t) (o:=o) u 8 (by omega) (by omega) ky10 d
   obtain⟨y14,ky14,y140,y141,q,A⟩:=nx (R:=R) (N:=N) (t:=t) (o:=o) u 8 (by omega) (by omega) ky12 n
   obtain⟨x,s,G,I,M⟩:=mL (N:=N) (t:=t) (o:=o) (i:=i) (nl:=nl) (nu:=nu) u v hB1 hB2 hB3 m (j+1) fuel ky14 (S++[(⟨j,y12,y14⟩:MoveD)]) (by omega) (by omega) q (by simp;omega) (by
    intro x hx
    rcases A1k.1 hx with h | h
    ·have:=hr x h;omega
    ·simp at h;subst h;simp only;omega) (by
    rw[A2q];exact Aeb C (by
     intro x hx
     simp only[A1y] at hx
     obtain⟨y,V,rfl⟩:=hx
     exact(hr y V).2)) (by
    rw[List.all_append,hi]
    simp only[A12,A29,A3i,A2c]
    unfold Ac2;rw[Jl (by simp only;omega),Jl (by simp only;omega)];rfl)
   refine⟨x,s,G,I,fun K=>?_⟩
   rw[Fd];unfold Io
   have e1:(y10==1)=true:=by simpa using T
   have c3:(ble (S.length+1) 140737488355328&&ble ((S.length+1)*24) 140737488355328)=true:=by rw[Ft,Ft];simp;omega
   have c5:take (S.length*3) (S.flatMap MoveD.av)++[.int .i64 (j:Int),.int .i64 y12,.int .i64 y14]=(S++[(⟨j,y12,y14⟩:MoveD)]).flatMap MoveD.av:=by
    rw[A1c (by rw[Ao7];exact A1h _)];simp[MoveD.av]
   rw[Hf (by omega),ct,f,e1,ct,z,A,c3,ct,c5,Fx (by omega)]
   have:=M K
   rw[A09] at this
   exact this
  ·obtain⟨x,s,G,I,M⟩:=mL (N:=N) (t:=t) (o:=o) (i:=i) (nl:=nl) (nu:=nu) u v hB1 hB2 hB3 m (j+1) fuel ky10 S (by omega) (by omega) d (by omega) (by intro x hx;have:=hr x hx;omega) C hi
   refine⟨x,s,G,I,fun K=>?_⟩
   rw[Fd];unfold Io
   have e1:(y10==1)=false:=by simpa using T
   rw[Hf (by omega),ct,f,e1,cf,Fx (by omega),M]
theorem xQ {N:Nat} {l:List Int} {t o:Bool} (hN:64≤N) (s:l.length≤9223372036854775807) {i nl nu:Nat} (q:nu≤16) {B:List Int} (hB1:B.length=1∨B.length=2) (hB2:∀ y ∈ B,0≤y∧y<(nl:Int)) (hB3:uX B=true) (k:Nat) (v:k≤l.length) :
  ∃ (x:OutD) (n:Nat),OutG i nl nu x∧n≤l.length∧∀ K:LA→Int→O R,Fe N K (nu:Int) (Ax l) l.length t o [111,Azs.getD i 0] (k:Int) B.length (Ax B)=K x.av (n:Int):=by
 obtain⟨y8,ky8,y80,y81,d,f⟩:=nx (R:=R) (N:=N) (t:=t) (o:=o) s 2 (by omega) (by omega) k v
 by_cases u:y8=1
 ·obtain⟨x,n,z,A,C⟩:=mL (R:=R) (N:=N) (t:=t) (o:=o) (i:=i) (nl:=nl) (nu:=nu) s q hB1 hB2 hB3 nu 0 N ky8 [] (by omega) (by omega) d (by simp) (by simp) yo rfl
  refine⟨x,n,z,A,fun K=>?_⟩
  unfold Fe Mx
  have e1:(y8==1)=true:=by simpa using u
  rw[f,e1,ct]
  simpa using C K
 ·refine⟨⟨[111,Azs.getD i 0],.of B false false,false,.of [] false false⟩,ky8,⟨rfl,hB1,hB2,hB3,by simp[Sl.l],by simp[Sl.l],by simp[Sl.l],yo,rfl⟩,d,fun K=>?_⟩
  unfold Fe Mx
  have e1:(y8==1)=false:=by simpa using u
  rw[f,e1,cf,Ys]
  rfl
theorem Aec {N:Nat} {l:List Int} {t o:Bool} (hN:64≤N) (u:l.length≤9223372036854775807) {i nl nu:Nat} (hi:i<16) (U:1≤nl∧nl≤1000) (v:nu≤16) (k:Nat) (V:k≤l.length) :
  ∃ (x:OutD) (d:Nat),OutG i nl nu x∧d≤l.length∧∀ K:LA→Int→O R,P8 N (i:Int) (nl:Int) (nu:Int) (Ax l) l.length t o (k:Int) K=K x.av (d:Int):=by
 obtain⟨y2,ky2,y20,y21,z,q⟩:=nx (R:=R) (N:=N) (t:=t) (o:=o) u (nl:Int) (by omega) (by omega) k V
 obtain⟨y4,ky4,y40,y41,f,s⟩:=nx (R:=R) (N:=N) (t:=t) (o:=o) u (nl:Int) (by omega) (by omega) ky2 z
 have one:∀ k0,k0≤l.length→∃ (x:OutD) (d:Nat),OutG i nl nu x∧d≤l.length∧∀ K:LA→Int→O R,Fe N K (nu:Int) (Ax l) l.length t o [111,Azs.getD i 0] (k0:Int) 1 [.int .i64 y2]=K x.av (d:Int):=fun k0 I =>
  xQ (i:=i) (nl:=nl) hN u v (B:=[y2]) (.inl rfl) (by intro y A;simp at A;subst A;exact⟨y20,y21⟩) (iD _) k0 I
 by_cases M:y4>y2
 ·obtain⟨y6,ky6,y60,y61,n,C⟩:=nx (R:=R) (N:=N) (t:=t) (o:=o) u 3 (by omega) (by omega) ky4 f
  by_cases T:y6=2
  ·obtain⟨x,d,D,F,G⟩:=xQ (R:=R) (N:=N) (t:=t) (o:=o) (i:=i) (nl:=nl) (nu:=nu) hN u v (B:=[y2,y4]) (.inr rfl) (by intro y A;simp at A;rcases A with rfl | rfl<;>omega) (by rw[MZ,iD];simp;omega) ky6 n
   refine⟨x,d,D,F,fun K=>?_⟩
   rw[My];unfold Jm
   have e1:decide (y4>y2)=true:=by simpa using M
   have S:(y6==2)=true:=by simpa using T
   rw[Uu hi,q,s,e1,C,S]
   simpa[Ax] using G K
  ·obtain⟨x,d,D,F,G⟩:=one ky6 n
   refine⟨x,d,D,F,fun K=>?_⟩
   rw[My];unfold Jm
   have e1:decide (y4>y2)=true:=by simpa using M
   have S:(y6==2)=false:=by simpa using T
   rw[Uu hi,q,s,e1,C,S]
   exact G K
 ·obtain⟨x,d,D,F,G⟩:=one ky4 f
  refine⟨x,d,D,F,fun K=>?_⟩
  rw[My];unfold Jm
  have e1:decide (y4>y2)=false:=by simpa using M
  rw[Uu hi,q,s,e1]
  exact G K
def US (f:Bool) (H:Nat) (res:List Int) (bs:List BusD) (ls:List LineD) (us:List UnitD) (ss:List StoreD) (ts:List TieD) (os:List OutD):CaseD :=
 ⟨(H:Int),.of res false f,.of bs false f,.of ls false f,.of us false f,.of ss false f,.of ts false f,.of os false f⟩
structure BusG (i H:Nat) (b:BusD):Prop where
 name:b.name=[98,Azs.getD i 0]
 dl:b.demand.l.length=H
 dr:∀ x ∈ b.demand.l,0≤x∧x<14
 shed:0≤b.shed∧b.shed<300
structure StoreG (nb:Nat) (x:StoreD):Prop where
 name:x.name=[115,48]
 bus:0≤x.bus∧x.bus<(nb:Int)
 cap:0≤x.capacity∧x.capacity<20
 ini:0≤x.initial∧x.initial≤x.capacity
 fin:0≤x.final∧x.final≤x.capacity
 ch:0≤x.charge∧x.charge<8
 dis:0≤x.discharge∧x.discharge<8
 eff:1≤x.eff.num∧x.eff.num≤4∧x.eff.den=4
structure TieG (nb H:Nat) (x:TieD):Prop where
 name:x.name=[116,48]
 bus:0≤x.bus∧x.bus<(nb:Int)
 il:x.imp.l.length=H
 ir:∀ y ∈ x.imp.l,0≤y∧y<12
 el:x.exp.l.length=H
 er:∀ y ∈ x.exp.l,0≤y∧y<12
 pl:x.price.l.length=H
 pr:∀ y ∈ x.price.l,0≤y∧y<40
structure LineH (nb:Nat) (i:Nat) (H:Int) (x:LineD):Prop where
 g:LineG i x.fr x.tl H x
 fr:0≤x.fr∧x.fr<(nb:Int)
 tx:0≤x.tl∧x.tl<(nb:Int)
 ne:x.fr≠x.tl
structure BaseG (H:Nat) (res:List Int) (bs:List BusD) (ls:List LineD) (us:List UnitD) (ss:List StoreD) (ts:List TieD):Prop where
 h:1≤H∧H≤3
 rl:res.length=H
 rr:∀ x ∈ res,0≤x∧x<5
 bl:1≤bs.length∧bs.length≤4
 bg:∀ i (h:i<bs.length),BusG i H bs[i]
 ll:ls.length≤7
 lg:∀ i (h:i<ls.length),LineH bs.length i H ls[i]
 ul:1≤us.length∧us.length≤3
 ug:∀ i (h:i<us.length),UnitG i bs.length H us[i]
 sl:ss.length≤1
 sg:∀ x ∈ ss,StoreG bs.length x
 tl:ts.length≤1
 tg:∀ x ∈ ts,TieG bs.length H x
structure OutsG (nl nu:Nat) (os:List OutD):Prop where
 l:os.length≤3
 g:∀ i (h:i<os.length),OutG i nl nu os[i]
theorem Alt {N:Nat} (hN:4096≤N) {f:Bool} {H:Nat} {res:List Int} {bs:List BusD} {ls:List LineD} {us:List UnitD} {ss:List StoreD} {ts:List TieD} {os:List OutD} (b:BaseG H res bs ls us ss ts) (g:OutsG ls.length us.length os):Small (US f H res bs ls us ss ts os) N:=by
 have h:=b.h;have rl:=b.rl;have bl:=b.bl;have ll:=b.ll;have ul:=b.ul;have sl:=b.sl;have tl:=b.tl;have ol:=g.l
 have fit:∀ n:Nat,n≤100→T4 n N:=fun n hn=>⟨by omega,by omega⟩
 refine⟨by omega,fit _ (by simp only[US,Sl.l];omega),fit _ (by simp only[US,Sl.l];omega),fit _ (by simp only[US,Sl.l];omega),fit _ (by simp only[US,Sl.l];omega),fit _ (by simp only[US,Sl.l];omega),fit _ (by simp only[US,Sl.l];omega),fit _ (by simp only[US,Sl.l];omega),
  fun x hx=>?_,fun x hx=>?_,fun x hx=>?_,fun x hx=>?_,fun x hx=>?_,fun x hx=>?_,fun x hx=>?_,fun x hx=>?_,fun x hx=>?_,fun x hx=>?_,by simp only[US,Sl.l];omega⟩
 all_goals simp only[US,Sl.l] at hx
 ·obtain⟨i,hi,rfl⟩:=A1t hx;have:=(b.bg i hi).dl;exact fit _ (by omega)
 ·obtain⟨i,hi,rfl⟩:=A1t hx;have:=(b.lg i hi).g.aw;exact fit _ (by omega)
 ·obtain⟨i,hi,rfl⟩:=A1t hx;have:=(b.ug i hi).sl;exact fit _ (by omega)
 ·obtain⟨i,hi,rfl⟩:=A1t hx;have:=(b.ug i hi).aw;exact fit _ (by omega)
 ·have:=(b.tg x hx).il;exact fit _ (by omega)
 ·have:=(b.tg x hx).el;exact fit _ (by omega)
 ·have:=(b.tg x hx).pl;exact fit _ (by omega)
 ·obtain⟨i,hi,rfl⟩:=A1t hx;have:=(g.g i hi).ll;exact fit _ (by omega)
 ·obtain⟨i,hi,rfl⟩:=A1t hx;have:=(g.g i hi).ml;exact fit _ (by omega)
 ·obtain⟨i,hi,rfl⟩:=A1t hx;have:=(g.g i hi).ml;omega
theorem BE {α:Type} {e:α→LA} {sz:Nat} (d:∀ a,(e a).length=sz) (l:List α):(l.flatMap e).length=l.length*sz:=by
 induction l with
 | nil=>simp
 | cons a r f=>rw[A10,A09,f,d,A1a,A23];omega
theorem Cd {α:Type} {e:α→LA} {sz n:Nat} (d:∀ a,(e a).length=sz) (l:List α) (hn:n=l.length):take (n*sz) (l.flatMap e)=l.flatMap e:=A1c (by rw[BE d,hn];exact A1h _)
theorem Qx {B:List Int} {n:Nat} (h:n=B.length):take (n*1) (Ax B)=B.flatMap F3:=by rw[h];exact Ys
theorem YN {α:Type} {P:Nat→α→Prop} {l:List α} {x:α} (h:∀ i (h:i<l.length),P i l[i]) (hx:P l.length x):∀ i (h:i<(l++[x]).length),P i (l++[x])[i]:=by
 intro i hi
 by_cases d:i<l.length
 ·rw[List.getElem_append_left d];exact h i d
 ·have:i=l.length:=by simp at hi;omega
  subst this
  simpa using hx
theorem Ahk {p:Ks} (h:(Je p==0)=true):p=none:=by
 rcases p with _ | ⟨x,e,d⟩
 ·rfl
 ·simp[Je] at h;exact absurd h d
theorem Aad {N:Nat} {l:List Int} {o:Bool} (hN:4096≤N) (v:l.length≤9223372036854775807) {H:Nat} {res:List Int} {bs:List BusD} {ls:List LineD} {us:List UnitD} {ss:List StoreD} {ts:List TieD} (b:BaseG H res bs ls us ss ts):∀ (n fuel k:Nat) (os:List OutD),n<fuel→k≤l.length→os.length+n≤3→OutsG ls.length us.length os→(os=[]∨YM (US true H res bs ls us ss ts os)=none) →
  ∃ d,OutsG ls.length us.length d∧(d=[]∨YM (US true H res bs ls us ss ts d)=none)∧∀ K:LA→O R,Iv N K (Ax l) l.length o (H:Int) res.length bs.length ls.length us.length ss.length ts.length (Ax res) (bs.flatMap BusD.av) (ls.flatMap LineD.av) (us.flatMap UnitD.av) (ss.flatMap StoreD.av) (ts.flatMap TieD.av) fuel (n:Int) (k:Int) os.length (os.flatMap OutD.av)=K (US false H res bs ls us ss ts d).av
 | 0,fuel+1,k,os,_,y,_,g,s=>by
  refine⟨os,g,s,fun K=>?_⟩
  rw[Iv];unfold AK
  rw[show decide (((0:Nat):Int)>0)=false from rfl,Qx rfl,Cd Md _ rfl,Cd Dh _ rfl,Cd Fl _ rfl,Cd Hp _ rfl,Cd Hu _ rfl,Cd G9 _ rfl]
  rfl
 | n+1,fuel+1,k,os,D,y,hn,g,s=>by
  by_cases z:ls.length=0
  ·refine⟨os,g,s,fun K=>?_⟩
   rw[Iv];unfold AK
   rw[show decide ((ls.length:Int)>0)=false from decide_eq_false (by omega),show decide (((n+1:Nat):Int)>0)=true from decide_eq_true (by omega),Qx rfl,Cd Md _ rfl,Cd Dh _ rfl,Cd Fl _ rfl,Cd Hp _ rfl,Cd Hu _ rfl,Cd G9 _ rfl]
   rfl
  ·have A:=b.ul;have C:=b.ll
   obtain⟨x,u,gx,q,hx⟩:=Aec (R:=R) (N:=N) (t:=false) (o:=o) (by omega) v (i:=os.length) (nl:=ls.length) (nu:=us.length) (by omega) (by omega) (by omega) k y
   have g':OutsG ls.length us.length (os++[x]):=⟨by simp;omega,YN g.g gx⟩
   have sm:=Alt (f:=true) hN b g'
   have wn:wrap .i64 (((n+1:Nat):Int) - 1)=(n:Int):=sD (by omega)
   have step:∀ K:LA→O R,Iv N K (Ax l) l.length o (H:Int) res.length bs.length ls.length us.length ss.length ts.length (Ax res) (bs.flatMap BusD.av) (ls.flatMap LineD.av) (us.flatMap UnitD.av) (ss.flatMap StoreD.av) (ts.flatMap TieD.av) (fuel+1) ((n+1:Nat):Int) (k:Int) os.length (os.flatMap OutD.av) =
     cond (Je (YM (US true H res bs ls us ss ts (os++[x])))==0)
      (Iv N K (Ax l) l.length o (H:Int) res.length bs.length ls.length us.length ss.length ts.length (Ax res) (bs.flatMap BusD.av) (ls.flatMap LineD.av) (us.flatMap UnitD.av) (ss.flatMap StoreD.av) (ts.flatMap TieD.av) fuel (n:Int) (u:Int) (os++[x]).length ((os++[x]).flatMap OutD.av))
      (Iv N K (Ax l) l.length o (H:Int) res.length bs.length ls.length us.length ss.length ts.length (Ax res) (bs.flatMap BusD.av) (ls.flatMap LineD.av) (us.flatMap UnitD.av) (ss.flatMap StoreD.av) (ts.flatMap TieD.av) fuel (n:Int) (u:Int) os.length (os.flatMap OutD.av)):=fun K=>by
    rw[Iv];unfold AK QT
    have c1:(ble (0+os.length) 140737488355328&&ble ((0+os.length)*72) 140737488355328)=true:=by rw[Ft,Ft];simp;omega
    have c2:(ble ((0+os.length)+1) 140737488355328&&ble (((0+os.length)+1)*72) 140737488355328)=true:=by rw[Ft,Ft];simp;omega
    have c3:take ((0+os.length)*4) (take (os.length*4) (os.flatMap OutD.av))++take 4 (setCells [(.str ([]:Lu)),.nsl,(.bool false),.nsl] 0 (take 4 x.av))=(os++[x]).flatMap OutD.av:=by
     rw[A1w,Cd G9 _ rfl,Cd G9 _ rfl]
     simp only[A2n,A10,A4a,A1p]
     rfl
    have c4:take (((0+os.length)+1)*4) ((os++[x]).flatMap OutD.av)=(os++[x]).flatMap OutD.av:=Cd G9 _ (by simp)
    have c5:(0+os.length)+1=(os++[x]).length:=by simp
    rw[show decide ((ls.length:Int)>0)=true from decide_eq_true (by omega),show decide (((n+1:Nat):Int)>0)=true from decide_eq_true (by omega)]
    simp only[beq_self_eq_true,cond_true]
    rw[hx,show((beq 0 0)&&((beq (List.length x.av) 4)&&(beq 4 4)))=true from rfl,ct,c1,ct,show ble 4 (List.length x.av)=true from rfl,ct,show((beq (List.length (take 4 x.av)) 4)&&(ble 4 4))=true from rfl,ct,c2,ct,c3,c4,c5,Qx rfl,Cd Md _ rfl,Cd Dh _ rfl,Cd Fl _ rfl,Cd Hp _ rfl,Cd Hu _ rfl]
    refine A4g (ti (R:=R) (N:=N) (c:=US true H res bs ls us ss ts (os++[x])) (o:=true) sm hN) ?_
    rw[Aut,show((beq 3 3)&&((ble 3 3)&&(!false)))=true from rfl,ct,wn]
   cases hq:Je (YM (US true H res bs ls us ss ts (os++[x])))==0 with
   | true =>
    obtain⟨d,a1,a2,a3⟩:=Aad hN v b n fuel u (os++[x]) (by omega) q (by simp;omega) g' (.inr (Ahk hq))
    exact⟨d,a1,a2,fun K=>by rw[step,hq,ct,a3]⟩
   | false =>
    obtain⟨d,a1,a2,a3⟩:=Aad hN v b n fuel u os (by omega) q (by omega) g s
    exact⟨d,a1,a2,fun K=>by rw[step,hq,cf,a3]⟩
def BF (c:CaseD):Prop:=∃ (H:Nat) (res:List Int) (bs:List BusD) (ls:List LineD) (us:List UnitD) (ss:List StoreD) (ts:List TieD) (os:List OutD),
 BaseG H res bs ls us ss ts∧OutsG ls.length us.length os∧(os=[]∨YM (US true H res bs ls us ss ts os)=none)∧c=US false H res bs ls us ss ts os
theorem Ajk {N:Nat} {l:List Int} {o:Bool} (hN:4096≤N) (f:l.length≤9223372036854775807) {H:Nat} {res:List Int} {bs:List BusD} {ls:List LineD} {us:List UnitD} {ss:List StoreD} {ts:List TieD} (b:BaseG H res bs ls us ss ts) (k:Nat) (q:k≤l.length) :
  ∃ c,BF c∧∀ K:LA→O R,QU N K (Ax l) l.length o (H:Int) res.length bs.length ls.length us.length ss.length (Ax res) (bs.flatMap BusD.av) (ls.flatMap LineD.av) (us.flatMap UnitD.av) (ss.flatMap StoreD.av) (k:Int) ts.length (ts.flatMap TieD.av)=K c.av:=by
 obtain⟨y,s,y0,y1,d,u⟩:=nx (R:=R) (N:=N) (t:=false) (o:=o) f 4 (by omega) (by omega) k q
 obtain⟨n,hn⟩:∃ n:Nat,y=(n:Int):=⟨y.toNat,by omega⟩
 subst hn
 obtain⟨os,a1,a2,a3⟩:=Aad (R:=R) (o:=o) hN f b n N s [] (by omega) d (by simp;omega) ⟨by simp,by simp⟩ (.inl rfl)
 refine⟨_,⟨H,res,bs,ls,us,ss,ts,os,b,a1,a2,rfl⟩,fun K=>?_⟩
 unfold QU WV
 rw[u]
 simpa using a3 K
theorem Ajl {N:Nat} {l:List Int} {o:Bool} (hN:4096≤N) (q:l.length≤9223372036854775807) {H:Nat} {res:List Int} {bs:List BusD} {ls:List LineD} {us:List UnitD} {ss:List StoreD} (b:BaseG H res bs ls us ss []) (k:Nat) (X:k≤l.length) :
  ∃ c,BF c∧∀ K:LA→O R,GF N K (bs.length:Int) (Ax l) l.length o (H:Int) res.length bs.length ls.length us.length (Ax res) (bs.flatMap BusD.av) (ls.flatMap LineD.av) (us.flatMap UnitD.av) (k:Int) ss.length (ss.flatMap StoreD.av)=K c.av:=by
 have hb:=b.bl;have hH:=b.h
 obtain⟨y50,v,y500,y501,f,n⟩:=nx (R:=R) (N:=N) (t:=false) (o:=o) q 3 (by omega) (by omega) k X
 by_cases V:y50=2
 ·have A:(y50==2)=true:=by simpa using V
  obtain⟨y52,C,y520,y521,y,z⟩:=nx (R:=R) (N:=N) (t:=false) (o:=o) q (bs.length:Int) (by omega) (by omega) v f
  obtain⟨B1,Y,d,D,F,hB1⟩:=HT (R:=R) (N:=N) (m:=H) (t:=false) (o:=o) (by omega) q 12 (by omega) (by omega) (by omega) C y
  obtain⟨B2,k2,s,G,I,hB2⟩:=HT (R:=R) (N:=N) (m:=H) (t:=false) (o:=o) (by omega) q 12 (by omega) (by omega) (by omega) Y F
  obtain⟨B3,k3,u,M,S,hB3⟩:=HT (R:=R) (N:=N) (m:=H) (t:=false) (o:=o) (by omega) q 40 (by omega) (by omega) (by omega) k2 I
  obtain⟨c,T,U⟩:=Ajk (R:=R) (o:=o) hN q (ts:=[⟨[116,48],y52,.of B1 false false,.of B2 false false,.of B3 false false⟩]) ⟨b.h,b.rl,b.rr,b.bl,b.bg,b.ll,b.lg,b.ul,b.ug,b.sl,b.sg,by simp,by
   intro x hx;simp at hx;subst hx
   exact⟨rfl,⟨y520,y521⟩,d,D,s,G,u,M⟩⟩ k3 S
  refine⟨c,T,fun K=>?_⟩
  unfold GF JJ
  rw[n,A,ct,z,hB1,hB2,hB3,Qx d.symm,Qx s.symm,Qx u.symm,←U K,←d]
  simp only[d]
  have e:List.flatMap TieD.av [⟨[116,48],y52,.of B1 false false,.of B2 false false,.of B3 false false⟩]=[(.str ([116,48]:Lu)),(.int .i64 y52),(.imm (B1.flatMap F3) H 1 false false),(.imm (B2.flatMap F3) H 1 false false),(.imm (B3.flatMap F3) H 1 false false)]:=by
   simp[TieD.av,Sl.av,d,s,u]
  rw[e];rfl
 ·have A:(y50==2)=false:=by simpa using V
  obtain⟨c,T,U⟩:=Ajk (R:=R) (o:=o) hN q b v f
  refine⟨c,T,fun K=>?_⟩
  unfold GF JJ
  rw[n,A,cf,←U K];rfl
theorem Ajm {N:Nat} {l:List Int} {o:Bool} (hN:4096≤N) (d:l.length≤9223372036854775807) {H:Nat} {res:List Int} {bs:List BusD} {ls:List LineD} (h:1≤H∧H≤3) (rl:res.length=H) (rr:∀ x ∈ res,0≤x∧x<5) (bl:1≤bs.length∧bs.length≤4) (bg:∀ i (h:i<bs.length),BusG i H bs[i]) (ll:ls.length≤7) (lg:∀ i (h:i<ls.length),LineH bs.length i H ls[i]) :
  ∀ (n fuel k:Nat) (us:List UnitD),n<fuel→k≤l.length→us.length+n≤3→1≤us.length+n→(∀ i (h:i<us.length),UnitG i bs.length H us[i]) →
  ∃ c,BF c∧∀ K:LA→O R,Qn N K (bs.length:Int) (Ax l) l.length o (H:Int) res.length bs.length (Ax res) (bs.flatMap BusD.av) fuel (n:Int) (k:Int) ls.length us.length (ls.flatMap LineD.av) (us.flatMap UnitD.av)=K c.av
 | 0,fuel+1,k,us,_,hk,hn,hn1,ug=>by
  obtain⟨y34,s,y340,y341,f,q⟩:=nx (R:=R) (N:=N) (t:=false) (o:=o) d 3 (by omega) (by omega) k hk
  by_cases h2:y34=2
  ·have e2:(y34==2)=true:=by simpa using h2
   obtain⟨y36,k36,y360,y361,v,y⟩:=nx (R:=R) (N:=N) (t:=false) (o:=o) d (bs.length:Int) (by omega) (by omega) s f
   obtain⟨y38,k38,y380,y381,z,A⟩:=nx (R:=R) (N:=N) (t:=false) (o:=o) d 20 (by omega) (by omega) k36 v
   obtain⟨y40,k40,y400,y401,C,D⟩:=nx (R:=R) (N:=N) (t:=false) (o:=o) d 8 (by omega) (by omega) k38 z
   obtain⟨y42,k42,y420,y421,F,G⟩:=nx (R:=R) (N:=N) (t:=false) (o:=o) d 8 (by omega) (by omega) k40 C
   obtain⟨y44,k44,y440,y441,I,M⟩:=nx (R:=R) (N:=N) (t:=false) (o:=o) d 4 (by omega) (by omega) k42 F
   obtain⟨y46,k46,y460,y461,S,T⟩:=nx (R:=R) (N:=N) (t:=false) (o:=o) d (y38+1) (by omega) (by omega) k44 I
   obtain⟨y48,k48,y480,y481,U,V⟩:=nx (R:=R) (N:=N) (t:=false) (o:=o) d (y38+1) (by omega) (by omega) k46 S
   obtain⟨c,X,Y⟩:=Ajl (R:=R) (o:=o) hN d (us:=us) (ss:=[⟨[115,48],y36,y38,y46,y48,y40,y42,⟨1+y44,4⟩⟩]) ⟨h,rl,rr,bl,bg,ll,lg,⟨by omega,by omega⟩,ug,by simp,by
    intro x hx;simp at hx;subst hx
    exact⟨rfl,⟨y360,y361⟩,⟨y380,y381⟩,⟨y460,by simp only;omega⟩,⟨y480,by simp only;omega⟩,⟨y400,y401⟩,⟨y420,y421⟩,by simp only;omega,by simp only;omega,rfl⟩,by simp,by simp⟩ k48 U
   refine⟨c,X,fun K=>?_⟩
   rw[Qn];unfold AL
   rw[show decide (((0:Nat):Int)>0)=false from rfl,cf,q,e2,ct,y,A,D,G,M,Rz (a:=y38+1) (by omega),T,V,Rz (a:=1+y44) (by omega),←Y K]
   rfl
  ·have e2:(y34==2)=false:=by simpa using h2
   obtain⟨c,X,Y⟩:=Ajl (R:=R) (o:=o) hN d (us:=us) (ss:=[]) ⟨h,rl,rr,bl,bg,ll,lg,⟨by omega,by omega⟩,ug,by simp,by simp,by simp,by simp⟩ s f
   refine⟨c,X,fun K=>?_⟩
   rw[Qn];unfold AL
   rw[show decide (((0:Nat):Int)>0)=false from rfl,cf,q,e2,cf,←Y K]
   rfl
 | n+1,fuel+1,k,us,hf,hk,hn,hn1,ug=>by
  obtain⟨u,k1,gu,hk1,hu⟩:=Als (R:=R) (N:=N) (t:=false) (o:=o) (by omega) d (i:=us.length) (by omega) (nb:=(bs.length:Int)) (H:=(H:Int)) (by omega) (by omega) k hk
  obtain⟨c,X,Y⟩:=Ajm (o:=o) hN d h rl rr bl bg ll lg n fuel k1 (us++[u]) (by omega) hk1 (by simp;omega) (by simp;omega) (YN (P:=fun i u=>UnitG i bs.length H u) ug gu)
  refine⟨c,X,fun K=>?_⟩
  rw[Qn];unfold AL
  have wn:wrap .i64 (((n+1:Nat):Int) - 1)=(n:Int):=sD (by omega)
  have c2:(ble (us.length+1) 140737488355328&&ble ((us.length+1)*216) 140737488355328)=true:=by rw[Ft,Ft];simp;omega
  have c3:take (us.length*22) (us.flatMap UnitD.av)++u.av=(us++[u]).flatMap UnitD.av:=by rw[Cd Fl _ rfl];simp
  rw[show decide (((n+1:Nat):Int)>0)=true from decide_eq_true (by omega),ct,hu,show((beq (List.length u.av) 22)&&(ble 22 22))=true from rfl,ct,c2,ct,wn,←Y K,←c3,A09]
  rfl
theorem Ary {N:Nat} {l:List Int} {o:Bool} (hN:4096≤N) (v:l.length≤9223372036854775807) {H:Nat} {res:List Int} {bs:List BusD} (h:1≤H∧H≤3) (rl:res.length=H) (rr:∀ x ∈ res,0≤x∧x<5) (bl:1≤bs.length∧bs.length≤4) (bg:∀ i (h:i<bs.length),BusG i H bs[i]) :
  ∀ (n fuel k:Nat) (ls:List LineD),n<fuel→k≤l.length→ls.length+n≤7→(∀ i (h:i<ls.length),LineH bs.length i H ls[i]) →
  ∃ c,BF c∧∀ K:LA→O R,Qo N K (bs.length:Int) (Ax l) l.length o (H:Int) res.length bs.length (Ax res) (bs.flatMap BusD.av) fuel (n:Int) (k:Int) ls.length (ls.flatMap LineD.av)=K c.av:=by
 have fin:∀ (k:Nat) (ls:List LineD),k≤l.length→ls.length≤7→(∀ i (h:i<ls.length),LineH bs.length i H ls[i])→∃ c,BF c∧∀ K:LA→O R,(Ae N (3:Int) (Ax l) l.length false o (k:Int) fun y22 y23=>Qn N K (bs.length:Int) (Ax l) l.length o (H:Int) res.length bs.length (Ax res) (bs.flatMap BusD.av) N (wrap .i64 ((1:Int)+y22)) y23 ls.length 0 (ls.flatMap LineD.av) [])=K c.av:=by
  intro k ls u ll lg
  obtain⟨y,F,y0,y1,d,S⟩:=nx (R:=R) (N:=N) (t:=false) (o:=o) v 3 (by omega) (by omega) k u
  obtain⟨n,hn⟩:∃ n:Nat,1+y=(n:Int):=⟨(1+y).toNat,by omega⟩
  obtain⟨c,q,s⟩:=Ajm (R:=R) (o:=o) hN v h rl rr bl bg ll lg n N F [] (by omega) d (by simp;omega) (by simp;omega) (by simp)
  refine⟨c,q,fun K=>?_⟩
  rw[S,Rz (a:=1+y) (by omega),hn]
  simpa using s K
 intro n
 induction n with
 | zero =>
  intro fuel k ls T u hn lg
  obtain⟨c,q,s⟩:=fin k ls u (by omega) lg
  refine⟨c,q,fun K=>?_⟩
  obtain⟨fuel,rfl⟩:∃ f,fuel=f+1:=⟨fuel - 1,by omega⟩
  rw[Qo];unfold AM
  rw[show decide (((0:Nat):Int)>0)=false from rfl,←s K]
  rfl
 | succ n U =>
  intro fuel k ls T u hn lg
  obtain⟨fuel,rfl⟩:∃ f,fuel=f+1:=⟨fuel - 1,by omega⟩
  by_cases V:bs.length=1
  ·obtain⟨c,q,s⟩:=fin k ls u (by omega) lg
   refine⟨c,q,fun K=>?_⟩
   rw[Qo];unfold AM
   rw[show decide (((n+1:Nat):Int)>0)=true from decide_eq_true (by omega),show decide ((bs.length:Int)>1)=false from decide_eq_false (by omega),←s K]
   rfl
  ·obtain⟨y26,G,y260,y261,z,A⟩:=nx (R:=R) (N:=N) (t:=false) (o:=o) v (bs.length:Int) (by omega) (by omega) k u
   obtain⟨y28,I,y280,y281,C,D⟩:=nx (R:=R) (N:=N) (t:=false) (o:=o) v ((bs.length:Int) - 1) (by omega) (by omega) G z
   have tm:∃ tx:Int,Int.tmod (y26+1+y28) (bs.length:Int)=tx∧0≤tx∧tx<(bs.length:Int)∧y26≠tx:=by
    refine⟨_,rfl,Int.tmod_nonneg _ (by omega),A6c _ (by omega),?_⟩
    by_cases M:y26+1+y28<(bs.length:Int)
    ·rw[Int.tmod_eq_of_lt (by omega) M];omega
    ·have:Int.tmod (y26+1+y28) (bs.length:Int)=y26+1+y28 - (bs.length:Int):=by
      have e:y26+1+y28=(y26+1+y28 - (bs.length:Int))+1*(bs.length:Int):=by omega
      rw[Int.tmod_eq_emod_of_nonneg (by omega)]
      conv=>lhs;rw[e]
      rw[Int.add_mul_emod_self_right,Int.emod_eq_of_lt (by omega) (by omega)]
     rw[this];omega
   obtain⟨tx,X,t0,t1,tne⟩:=tm
   obtain⟨x,F,gx,d,hx⟩:=xM (R:=R) (N:=N) (t:=false) (o:=o) v (i:=ls.length) (by omega) y26 tx (H:=(H:Int)) (by omega) I C
   obtain⟨c,q,s⟩:=U fuel F (ls++[x]) (by omega) d (by simp;omega) (YN (P:=fun i x=>LineH bs.length i H x) lg ⟨by rw[gx.fr,gx.tx];exact gx,by rw[gx.fr];exact⟨y260,y261⟩,by rw[gx.tx];exact⟨t0,t1⟩,by rw[gx.fr,gx.tx];exact tne⟩)
   refine⟨c,q,fun K=>?_⟩
   rw[Qo];unfold AM QS
   have wn:wrap .i64 (((n+1:Nat):Int) - 1)=(n:Int):=sD (by omega)
   have c2:(ble (ls.length+1) 140737488355328&&ble ((ls.length+1)*120) 140737488355328)=true:=by rw[Ft,Ft];simp;omega
   have c3:take (ls.length*12) (ls.flatMap LineD.av)++x.av=(ls++[x]).flatMap LineD.av:=by rw[Cd Dh _ rfl];simp
   rw[show decide (((n+1:Nat):Int)>0)=true from decide_eq_true (by omega),show decide ((bs.length:Int)>1)=true from decide_eq_true (by omega)]
   simp only[beq_self_eq_true,cond_true]
   rw[A,Rz (a:=(bs.length:Int) - 1) (by omega),D,show((bs.length:Int)==0)=false from beq_eq_false_iff_ne.2 (by omega),cf,Rz (a:=y26+1) (by omega),Rz (a:=y26+1+y28) (by omega),X,hx,show((beq (List.length x.av) 12)&&(ble 12 12))=true from rfl,ct,c2,ct,wn,←s K,←c3,A09]
   rfl
theorem Ajn {N:Nat} {l:List Int} {o:Bool} (hN:4096≤N) (f:l.length≤9223372036854775807) {H:Nat} {res:List Int} {bs:List BusD} (h:1≤H∧H≤3) (rl:res.length=H) (rr:∀ x ∈ res,0≤x∧x<5) (bl:1≤bs.length∧bs.length≤4) (bg:∀ i (h:i<bs.length),BusG i H bs[i]) :
  ∀ (m j fuel k:Nat) (ls:List LineD),j+1+m=bs.length→m<fuel→k≤l.length→ls.length=j→(∀ i (h:i<ls.length),LineH bs.length i H ls[i]) →
  ∃ c,BF c∧∀ K:LA→O R,Ya N K (Ax l) l.length o (H:Int) res.length bs.length (Ax res) (bs.flatMap BusD.av) fuel (bs.length:Int) ((j+1:Nat):Int) (k:Int) ls.length (ls.flatMap LineD.av)=K c.av
 | 0,j,fuel+1,k,ls,D,_,s,q,lg=>by
  obtain⟨y,u,y0,y1,d,v⟩:=nx (R:=R) (N:=N) (t:=false) (o:=o) f 5 (by omega) (by omega) k s
  obtain⟨n,hn⟩:∃ n:Nat,y=(n:Int):=⟨y.toNat,by omega⟩
  subst hn
  obtain⟨c,z,A⟩:=Ary (R:=R) (o:=o) hN f h rl rr bl bg n N u ls (by omega) d (by omega) lg
  refine⟨c,z,fun K=>?_⟩
  rw[Ya];unfold JK
  rw[Hy (by omega),cf,v];exact A K
 | m+1,j,fuel+1,k,ls,D,F,s,q,lg=>by
  obtain⟨y,u,y0,y1,d,v⟩:=nx (R:=R) (N:=N) (t:=false) (o:=o) f ((j+1:Nat):Int) (by omega) (by omega) k s
  obtain⟨x,k2,gx,C,hx⟩:=xM (R:=R) (N:=N) (t:=false) (o:=o) f (i:=ls.length) (by omega) y ((j+1:Nat):Int) (H:=(H:Int)) (by omega) u d
  obtain⟨c,z,A⟩:=Ajn (o:=o) hN f h rl rr bl bg m (j+1) fuel k2 (ls++[x]) (by omega) (by omega) C (by simp[q]) (YN (P:=fun i x=>LineH bs.length i H x) lg ⟨by rw[gx.fr,gx.tx];exact gx,by rw[gx.fr];omega,by rw[gx.tx];omega,by rw[gx.fr,gx.tx];omega⟩)
  refine⟨c,z,fun K=>?_⟩
  rw[Ya];unfold JK
  have c2:(ble (ls.length+1) 140737488355328&&ble ((ls.length+1)*120) 140737488355328)=true:=by rw[Ft,Ft];simp;omega
  have c3:take (ls.length*12) (ls.flatMap LineD.av)++x.av=(ls++[x]).flatMap LineD.av:=by rw[Cd Dh _ rfl];simp
  rw[Hf (by omega),ct,v,hx,show((beq (List.length x.av) 12)&&(ble 12 12))=true from rfl,ct,c2,ct,Fx (by omega),←A K,←c3,A09]
  rfl
theorem Ajo {N:Nat} {l:List Int} {o:Bool} (hN:4096≤N) (v:l.length≤9223372036854775807) {H:Nat} {res:List Int} (h:1≤H∧H≤3) (rl:res.length=H) (rr:∀ x ∈ res,0≤x∧x<5) :
  ∀ (n fuel k:Nat) (bs:List BusD),n<fuel→k≤l.length→bs.length+n≤4→1≤bs.length+n→(∀ i (h:i<bs.length),BusG i H bs[i]) →
  ∃ c,BF c∧∀ K:LA→O R,Nk N K (Ax l) l.length o res.length (Ax res) fuel (n:Int) (k:Int) (H:Int) bs.length (bs.flatMap BusD.av)=K c.av
 | 0,fuel+1,k,bs,_,D,hn,F,bg=>by
  obtain⟨c,q,u⟩:=Ajn (R:=R) (o:=o) hN v h rl rr ⟨by omega,by omega⟩ bg (bs.length - 1) 0 N k [] (by omega) (by omega) D rfl (by simp)
  refine⟨c,q,fun K=>?_⟩
  rw[Nk];unfold AN
  rw[show decide (((0:Nat):Int)>0)=false from rfl,cf,←u K]
  rfl
 | n+1,fuel+1,k,bs,X,D,hn,F,bg=>by
  obtain⟨B,T,C,U,G,hB⟩:=HT (R:=R) (N:=N) (m:=H) (t:=false) (o:=o) (by omega) v 14 (by omega) (by omega) (by omega) k D
  obtain⟨y12,y,y120,y121,d,f⟩:=nx (R:=R) (N:=N) (t:=false) (o:=o) v 2 (by omega) (by omega) T G
  have wn:wrap .i64 (((n+1:Nat):Int) - 1)=(n:Int):=sD (by omega)
  have c2:(ble (bs.length+1) 140737488355328&&ble ((bs.length+1)*48) 140737488355328)=true:=by rw[Ft,Ft];simp;omega
  have c3:∀ s:Int,take (bs.length*3) (bs.flatMap BusD.av)++[(.str [98,Azs.getD bs.length 0]),(.imm (B.flatMap F3) H 1 false false),(.int .i64 s)]=(bs++[(⟨[98,Azs.getD bs.length 0],.of B false false,s⟩:BusD)]).flatMap BusD.av:=fun s=>by
   rw[Cd Md _ rfl];simp[BusD.av,Sl.av,C]
  have go:∀ (s:Int) (kk:Nat),0≤s→s<300→kk≤l.length→∃ c,BF c∧∀ K:LA→O R,Nk N K (Ax l) l.length o res.length (Ax res) fuel (n:Int) (kk:Int) (H:Int) (bs.length+1) (take (bs.length*3) (bs.flatMap BusD.av)++[(.str [98,Azs.getD bs.length 0]),(.imm (B.flatMap F3) H 1 false false),(.int .i64 s)])=K c.av:=by
   intro s kk V s1 I
   have gb:BusG bs.length H (⟨[98,Azs.getD bs.length 0],.of B false false,s⟩:BusD):=⟨rfl,C,U,V,s1⟩
   obtain⟨c,q,u⟩:=Ajo (o:=o) hN v h rl rr n fuel kk (bs++[(⟨[98,Azs.getD bs.length 0],.of B false false,s⟩:BusD)]) (by omega) I (by simp;omega) (by simp;omega) (YN (P:=fun i x=>BusG i H x) bg gb)
   refine⟨c,q,fun K=>?_⟩
   rw[c3,←u K,A09]
   rfl
  by_cases S:y12=1
  ·have e1:(y12==1)=true:=by simpa using S
   obtain⟨y14,M,y140,y141,z,A⟩:=nx (R:=R) (N:=N) (t:=false) (o:=o) v 200 (by omega) (by omega) y d
   obtain⟨c,q,u⟩:=go (100+y14) M (by omega) (by omega) z
   refine⟨c,q,fun K=>?_⟩
   rw[Nk];unfold AN
   rw[show decide (((n+1:Nat):Int)>0)=true from decide_eq_true (by omega),ct,Uu (by omega),hB,f,e1,ct,A,c2,ct,wn,Rz (a:=100+y14) (by omega),Qx C.symm,u]
  ·have e1:(y12==1)=false:=by simpa using S
   obtain⟨c,q,u⟩:=go 0 y (by omega) (by omega) d
   refine⟨c,q,fun K=>?_⟩
   rw[Nk];unfold AN
   rw[show decide (((n+1:Nat):Int)>0)=true from decide_eq_true (by omega),ct,Uu (by omega),hB,f,e1,cf,c2,ct,wn,Qx C.symm,u]
theorem Aae {N:Nat} {l:List Int} {n:Nat} {t o:Bool} (hn:n=l.length) (hN:4096≤N) (d:l.length≤9223372036854775807):∃ c,BF c∧∀ K:LA→O R,JL N (Ax l) n t o K=K c.av:=by
 subst hn
 obtain⟨y1,x,y10,y11,f,k⟩:=nx (R:=R) (N:=N) (t:=false) (o:=o) d 3 (by omega) (by omega) 0 (by omega)
 obtain⟨H,hH⟩:∃ H:Nat,1+y1=(H:Int):=⟨(1+y1).toNat,by omega⟩
 obtain⟨B,k2,v,y,q,hB⟩:=HT (R:=R) (N:=N) (m:=H) (t:=false) (o:=o) (by omega) d 5 (by omega) (by omega) (by omega) x f
 obtain⟨y6,A,y60,y61,s,u⟩:=nx (R:=R) (N:=N) (t:=false) (o:=o) d 4 (by omega) (by omega) k2 q
 obtain⟨m,C⟩:∃ m:Nat,1+y6=(m:Int):=⟨(1+y6).toNat,by omega⟩
 obtain⟨c,D,F⟩:=Ajo (R:=R) (o:=o) hN d (H:=H) (by omega) v y m N A [] (by omega) s (by simp;omega) (by simp;omega) (by simp)
 refine⟨c,D,fun K=>?_⟩
 rw[oC];unfold iq
 rw[rg];unfold yb
 have z:Ae N 3 (Ax l) l.length false o 0=Ae (R:=R) N 3 (Ax l) l.length false o ((0:Nat):Int):=rfl
 rw[z,k,Rz (a:=1+y1) (by omega),hH,hB,u,Rz (a:=1+y6) (by omega),C,←F K,v]
 rfl
theorem ji {N:Nat} {s:Lu} {K:Bool→O R} (hs:s.length<4611686018427387904):∀ (m j fuel:Nat),j+m=s.length→m<fuel →
  Yi N K s fuel (s.length:Int) (j:Int)=K ((s.drop j).all Ak0)
 | 0,j,fuel+1,d,_=>by
  rw[Yi];unfold KB
  rw[Hy (by omega),cf,R5 (by omega)];rfl
 | m+1,j,fuel+1,d,t=>by
  rw[Yi];unfold KB
  have h:j<s.length:=by omega
  rw[Hf h,ct,Ab h,ct,Fx (by omega),ji hs m (j+1) fuel (by omega) (by omega),Ma h,A12,yp h]
  unfold Ak0 PZ
  generalize s[j].toNat=v
  generalize (s.drop (j+1)).all _=r
  by_cases f:97≤v<;>by_cases k:v≤122<;>by_cases l:48≤v<;>by_cases n:v≤57<;>by_cases q:v=95 <;>
   simp[f,k,l,n,show((v:Int)<97)↔¬ 97≤v by omega,show((v:Int)<48)↔¬ 48≤v by omega,show((122:Int)<v)↔¬ v≤122 by omega,show((57:Int)<v)↔¬ v≤57 by omega,show((v:Int) != 95)=!decide (v=95) by (by_cases v=95<;>simp_all<;>omega),q]
theorem R2 {N:Nat} {s:Lu} {K:Bool→O R} (hN:64≤N):Lv N s K=K (Ba s):=by
 rw[oP];unfold jZ RQ XT
 unfold Ba
 by_cases d:1≤s.length
 ·by_cases f:s.length≤16
  ·have k:=ji (R:=R) (N:=N) (s:=s) (K:=K) (by omega) s.length 0 N (by omega) (by omega)
   simp only[A1z,A3t] at k
   rw[k]
   have l:Ag 0 s.length=true:=Ab (i:=0) (by omega)
   rw[l]
   simp only[d,f,show(decide ((s.length:Int)<1))=false by simp;omega,show(decide ((s.length:Int)>16))=false by simp;omega,decide_true,cond_true,cond_false,beq_self_eq_true]
   cases s==[99,111,114,114,101,99,116,105,118,101]
   ·unfold PZ
    generalize (List.getD s 0 0).toNat=v
    by_cases n:97≤v<;>by_cases q:v≤122<;>simp[n,q,show((v:Int)<97)↔¬ 97≤v by omega,show((122:Int)<v)↔¬ v≤122 by omega]
   ·simp
  ·simp[d,f,show((s.length:Int)<1)↔¬ 1≤s.length by omega,show((16:Int)<s.length)↔¬ s.length≤16 by omega]
 ·simp[d,show((s.length:Int)<1)↔¬ 1≤s.length by omega]
end
end Gx.Cf
namespace Gx.Ct
open Go Go.Proofs Gx.Cf
section
variable {R:Type} {N:Nat}
theorem Gn (l:List Aq):take (l.length*1) (A8 l)=A8 l:=by rw[A1x,A1c (by simp[A8])]
theorem Ij (l:List Aq) (w:Aq):A8 l++[.str w]=A8 (l++[w]):=by simp[A8]
theorem B' {n:Nat} (h:n≤2000000000):((ble n 140737488355328)&&(ble (n*16) 140737488355328))=true:=by simp;omega
theorem Aed {l:List Aq} {w:Aq} {d f:Bool} (k:l.length≤1000000):∀ (m j fuel:Nat),j+m=l.length→m<fuel →
  ∃ v:Int,(decide (v≥0)=(l.drop j).contains w)∧∀ K:Int→O R,Az N K (A8 l) l.length d f w fuel (l.length:Int) (j:Int)=K v
 | 0,j,fuel+1,n,_=>by
  refine⟨-1,by rw[En (by omega)];rfl,fun K=>?_⟩
  rw[Az];unfold Bm
  rw[Hy (by omega),cf]
 | m+1,j,fuel+1,n,q=>by
  have h:j<l.length:=by omega
  obtain⟨v,v1,v2⟩:=Aed (l:=l) (w:=w) (d:=d) (f:=f) k m (j+1) fuel (by omega) (by omega)
  by_cases e:w=l[j]
  ·refine⟨(j:Int),by rw[Db h,A4c,e];simp,fun K=>?_⟩
   rw[Az];unfold Bm
   rw[Hf h,ct,Ab h,ct,A1d,A1x,Oa h,show(w==l[j])=true by simpa using e,ct]
  ·refine⟨v,by rw[v1,Db h,A4c,show(w==l[j])=false by simpa using e,A2v],fun K=>?_⟩
   rw[Az];unfold Bm
   rw[Hf h,ct,Ab h,ct,A1d,A1x,Oa h,show(w==l[j])=false by simpa using e,cf,LW (by omega),v2]
theorem Uv {l:List Aq} {w:Aq} {n:Nat} {d f:Bool} {K:Bool→O R} (hN:1000000000<N) (hn:n=l.length) (k:l.length≤1000000):Ar N (A8 l) n d f w K=K (l.contains w):=by
 subst hn
 rw[Iz];unfold F0
 rw[Fz];unfold Cz
 obtain⟨v,v1,v2⟩:=Aed (R:=R) (N:=N) (l:=l) (w:=w) (d:=false) (f:=f) k l.length 0 N (by omega) (by omega)
 refine(v2 _).trans ?_
 show K (decide (v≥0))=_
 rw[v1,A1z]
end
end Gx.Ct
namespace Gx.Ct
open Go Go.Proofs Gx.Cf
section
variable {R:Type} {N:Nat} {c:CaseD} {b:Bool}
def xR (o:OutD):Bool:=o.corr||o.moves.l.isEmpty
end
end Gx.Ct
namespace Gx.Ct
open Go Go.Proofs Gx.Cf
section
variable {R:Type} {N:Nat}
theorem jj {c:CaseD} {b:Bool} {K:Bool→O R} (f:c.ties.l.length≤1000000):∀ (m j fuel:Nat) (ok:Bool),j+m=c.ties.l.length→m<fuel →
  Oy N K (c.ties.l.flatMap TieD.av) c.ties.l.length b c.av fuel ok (c.ties.l.length:Int) (j:Int)=K (ok&&(c.ties.l.drop j).all (Auq c))
 | 0,j,fuel+1,ok,k,_=>by
  rw[Oy];unfold Vq
  rw[Hy (by omega),cf,En (by omega),A29,A3i]
 | m+1,j,fuel+1,ok,k,t=>by
  rw[Oy];unfold Vq
  have h:j<c.ties.l.length:=by omega
  rw[Hf h,ct,Ab h,ct,Hd Hu h,ct,D2 Hu h,show((beq 0 0)&&((beq ((TieD.av c.ties.l[j]).length) 5)&&(beq 5 5)))=true from rfl,ct,LW (by omega),Db h,A12]
  have d:=fun ok=>jj (c:=c) (b:=b) (K:=K) f m (j+1) fuel ok (by omega) (by omega)
  have n:∀ F:LA→Nat→O R,Bb 1 (drop 2 (TieD.av c.ties.l[j])) F=F (Ax c.ties.l[j].imp.l) c.ties.l[j].imp.l.length:=fun F=>by
   show Bb 1 (c.ties.l[j].imp.av 1 F3::_) F=_
   rw[A9,Cc]
  have q:∀ F:LA→Nat→O R,Bb 1 (drop 3 (TieD.av c.ties.l[j])) F=F (Ax c.ties.l[j].exp.l) c.ties.l[j].exp.l.length:=fun F=>by
   show Bb 1 (c.ties.l[j].exp.av 1 F3::_) F=_
   rw[A9,Cc]
  have s:∀ F:LA→Nat→O R,Bb 1 (drop 4 (TieD.av c.ties.l[j])) F=F (Ax c.ties.l[j].price.l) c.ties.l[j].price.l.length:=fun F=>by
   show Bb 1 (c.ties.l[j].price.av 1 F3::_) F=_
   rw[A9,Cc]
  cases ok with
  | false=>exact(d false).trans (by simp)
  | true =>
   rw[show((true:Bool)==true)=true from rfl,ct,n,Jv]
   show cond (P' c c.ties.l[j].imp==true) _ _=_
   unfold Auq
   cases P' c c.ties.l[j].imp with
   | false=>exact(d false).trans (by simp)
   | true =>
    rw[show((true:Bool)==true)=true from rfl,ct,q,Jv]
    show cond (P' c c.ties.l[j].exp==true) _ _=_
    cases P' c c.ties.l[j].exp with
    | false=>exact(d false).trans (by simp)
    | true =>
     rw[show((true:Bool)==true)=true from rfl,ct,s,Jv]
     exact d (P' c c.ties.l[j].price)
theorem eQ {c:CaseD} {b:Bool} {K:Bool→O R} (k:c.buses.l.length≤1000000) (d:c.ties.l.length≤1000000) (hN:1000000<N):∀ (m j fuel:Nat) (ok:Bool),j+m=c.buses.l.length→m<fuel →
  K4 N K (c.buses.l.flatMap BusD.av) c.buses.l.length b c.av fuel ok (c.buses.l.length:Int) (j:Int)=K (ok&&((c.buses.l.drop j).all (fun x=>P' c x.demand)&&c.ties.l.all (Auq c)))
 | 0,j,fuel+1,ok,n,_=>by
  rw[K4];unfold Vr
  rw[Hy (by omega),cf,show c.buses.l.drop j=[] from En (by omega),A29,Tl]
  refine(jj (b:=b) (K:=K) d c.ties.l.length 0 N ok (by omega) (by omega)).trans ?_
  rfl
 | m+1,j,fuel+1,ok,n,s=>by
  rw[K4];unfold Vr
  have h:j<c.buses.l.length:=by omega
  rw[Hf h,ct,Ab h,ct,Hd Md h,ct,D2 Md h,show((beq 0 0)&&((beq ((BusD.av c.buses.l[j]).length) 3)&&(beq 3 3)))=true from rfl,ct,LW (by omega),Db h,A12]
  have f:=fun ok=>eQ (c:=c) (b:=b) (K:=K) k d hN m (j+1) fuel ok (by omega) (by omega)
  have q:∀ F:LA→Nat→O R,Bb 1 (drop 1 (BusD.av c.buses.l[j])) F=F (Ax c.buses.l[j].demand.l) c.buses.l[j].demand.l.length:=fun F=>by
   show Bb 1 (c.buses.l[j].demand.av 1 F3::_) F=_
   rw[A9,Cc]
  cases ok with
  | false=>exact(f false).trans (by simp)
  | true =>
   rw[show((true:Bool)==true)=true from rfl,ct,q,Jv]
   refine(f (P' c c.buses.l[j].demand)).trans ?_
   congr 1
   simp[A38]
theorem Aaf {c:CaseD} {t:Bool} {K:Bool→O R} (d:c.buses.l.length≤1000000) (f:c.ties.l.length≤1000000) (hN:1000000<N):GG N c.av t K=K (IR c):=by
 rw[WW];unfold JM
 rw[fL,Jv,Ep]
 exact eQ (b:=t) (K:=K) d f hN c.buses.l.length 0 N _ (by omega) (by omega)
theorem BG {i:Int} {n:Nat} {F:Bool→O R}:GH N i (n:Int) F=F (Lk i n):=by
 rw[su];unfold zd Lk
 show cond (decide (0≤i)==true) (F (decide (i<(n:Int)))) (F false)=_
 cases decide (0≤i)<;>rfl
theorem xS {l:List Aq} {w:Aq} {d f:Bool} (k:l.length≤1000000):∀ (m j fuel:Nat),j+m=l.length→m<fuel →
  ∃ v:Int,(decide (v≥0)=(l.drop j).contains w)∧∀ K:Int→O R,Mp N K (A8 l) l.length d f w fuel (j:Int)=K v
 | 0,j,fuel+1,n,_=>by
  refine⟨-1,by rw[En (by omega)];rfl,fun K=>?_⟩
  rw[Mp];unfold Vs
  rw[Hy (by omega),cf]
 | m+1,j,fuel+1,n,q=>by
  have h:j<l.length:=by omega
  obtain⟨v,v1,v2⟩:=xS (l:=l) (w:=w) (d:=d) (f:=f) k m (j+1) fuel (by omega) (by omega)
  by_cases e:l[j]=w
  ·refine⟨(j:Int),by rw[Db h,A4c,e];simp,fun K=>?_⟩
   rw[Mp];unfold Vs
   rw[Hf h,ct,Ab h,ct,A1d,A1x,Oa h,show(l[j]==w)=true by simp[e],ct]
  ·refine⟨v,by rw[v1,Db h,A4c,show(w==l[j])=false by simpa using fun h=>e h.symm,A2v],fun K=>?_⟩
   rw[Mp];unfold Vs
   rw[Hf h,ct,Ab h,ct,A1d,A1x,Oa h,show(l[j]==w)=false by simp[e],cf,LW (by omega),v2]
end
end Gx.Ct
namespace Gx.Ct
open Go Go.Proofs Gx.Cf
section
variable {R:Type} {N:Nat} {c:CaseD} {b:Bool} {K:Bool→O R}
theorem jk {o:OutD} {k4:Bool→Int→Int→O R} {C:LA} {D:Nat} {f ac:Int} (k:o.moves.l.length≤1000000000):∀ (m j fuel:Nat) (ok:Bool),j+m=o.moves.l.length→m<fuel →
  Rl N k4 K C D b f (o.moves.l.flatMap MoveD.av) o.moves.l.length c.av fuel ok ac (o.moves.l.length:Int) (j:Int)=k4 (ok&&(o.moves.l.drop j).all fun m=>Lk m.unit c.units.l.length) f (wrap .i64 (ac+1))
 | 0,j,fuel+1,ok,n,_=>by
  rw[Rl];unfold Zl
  rw[Hy (by omega),cf,En (by omega),A29,A3i]
 | m+1,j,fuel+1,ok,n,q=>by
  rw[Rl];unfold Zl
  have h:j<o.moves.l.length:=by omega
  have e:take 3 (drop (Int.toNat (j:Int)*3) (o.moves.l.flatMap MoveD.av))=[.int .i64 (o.moves.l[j]).unit,.int .i64 (o.moves.l[j]).up,.int .i64 (o.moves.l[j]).down]:=D2 (e:=MoveD.av) (sz:=3) (fun _=>rfl) h
  rw[Hf h,ct,Ab h,ct,Hd (e:=MoveD.av) (sz:=3) (fun _=>rfl) h,ct,e,show(!b||A2 [AV.int .i64 (o.moves.l[j]).unit,.int .i64 (o.moves.l[j]).up,.int .i64 (o.moves.l[j]).down])=true by cases b<;>rfl,ct,LW (by omega),Db h,
   show((beq ([AV.int .i64 (o.moves.l[j]).unit,.int .i64 (o.moves.l[j]).up,.int .i64 (o.moves.l[j]).down].length) 3)&&((ble 3 3)&&(!false)))=true from rfl,ct,A12]
  have d:=fun ok=>jk (k4:=k4) (C:=C) (D:=D) (f:=f) (ac:=ac) k m (j+1) fuel ok (by omega) (by omega)
  cases ok with
  | false=>exact(d false).trans rfl
  | true =>
   rw[show((true:Bool)==true)=true from rfl,ct,show ∀ F:Int→O R,Aw .i64 (setCells [(.int .i64 0),(.int .i64 0),(.int .i64 0)] 0 [AV.int .i64 (o.moves.l[j]).unit,.int .i64 (o.moves.l[j]).up,.int .i64 (o.moves.l[j]).down]) F=F (o.moves.l[j]).unit from fun _=>rfl,Jw,BG]
   exact d (Lk (o.moves.l[j]).unit c.units.l.length)
theorem tk {o:OutD} {k4:Bool→Int→Int→O R} {C:LA} {D:Nat} {f ac:Int} (hN:1000000000<N) (d:o.moves.l.length≤1000000000) (n:o.lines.l.length≤1000000000):∀ (m j fuel:Nat) (ok:Bool),j+m=o.lines.l.length→m<fuel →
  Nm N k4 K C D b f (Ax o.lines.l) o.lines.l.length c.av fuel ok ac (o.lines.l.length:Int) (j:Int) o.av=k4 (ok&&((o.lines.l.drop j).all (fun l=>Lk l c.lines.l.length)&&o.moves.l.all fun m=>Lk m.unit c.units.l.length)) f (wrap .i64 (ac+1))
 | 0,j,fuel+1,ok,q,_=>by
  rw[Nm];unfold Zm
  rw[Hy (by omega),cf,show o.lines.l.drop j=[] from En (by omega),A29]
  show Bb 3 (o.moves.av 3 MoveD.av::_) _=_
  rw[A9]
  refine(jk d o.moves.l.length 0 N ok (by omega) (by omega)).trans ?_
  rw[A1z,A2c]
 | m+1,j,fuel+1,ok,q,s=>by
  rw[Nm];unfold Zm
  have h:j<o.lines.l.length:=by omega
  have k:=fun ok=>tk (k4:=k4) (C:=C) (D:=D) (f:=f) (ac:=ac) hN d n m (j+1) fuel ok (by omega) (by omega)
  rw[Hf h,ct,Ab h,ct,S_ h,LW (by omega),Db h,A12]
  cases ok with
  | false=>exact(k false).trans rfl
  | true =>
   rw[show((true:Bool)==true)=true from rfl,ct,G6,BG]
   refine(k (Lk o.lines.l[j] c.lines.l.length)).trans ?_
   rw[A2c,A38]
theorem oe (hN:1000000000<N) (f:c.outs.l.length≤1000) (hI:∀ o ∈ c.outs.l,OutI 1000000000 o):∀ (m j fuel:Nat) (ok:Bool),j+m=c.outs.l.length→m<fuel →
  H4 N K (c.outs.l.flatMap OutD.av) c.outs.l.length b c.av fuel ok (c.outs.l.length:Int) (j:Int)=K (ok&&(c.outs.l.drop j).all (je c))
 | 0,j,fuel+1,ok,k,_=>by
  rw[H4];unfold Zn
  rw[Hy (by omega),cf,En (by omega),A29,A3i]
 | m+1,j,fuel+1,ok,k,n=>by
  rw[H4];unfold Zn
  have h:j<c.outs.l.length:=by omega
  have d:=hI _ (A1q h)
  rw[Hf h,ct,Ab h,ct,Hd (e:=OutD.av) (sz:=4) (fun _=>rfl) h,ct,D2 (e:=OutD.av) (sz:=4) (fun _=>rfl) h,show((beq 0 0)&&((beq ((OutD.av c.outs.l[j]).length) 4)&&(beq 4 4)))=true from rfl,ct]
  show Bb 1 ((c.outs.l[j]).lines.av 1 F3::_) _=_
  rw[A9,Cc]
  refine(tk hN d.m.2 d.l (c.outs.l[j]).lines.l.length 0 N ok (by omega) (by have:=d.l;omega)).trans ?_
  rw[LW (by omega),A1z]
  refine(oe hN f hI m (j+1) fuel _ (by omega) (by omega)).trans ?_
  rw[Db h,A12]
  unfold je
  simp only[A38]
theorem oh (hN:1000000000<N) (f:c.ties.l.length≤1000) (hr:∀ (ok:Bool) (fuel:Nat),1000<fuel→H4 N K (c.outs.l.flatMap OutD.av) c.outs.l.length b c.av fuel ok (c.outs.l.length:Int) 0=K (ok&&c.outs.l.all (je c))):∀ (m j fuel:Nat) (ok:Bool),j+m=c.ties.l.length→m<fuel →
  J3 N K (c.buses.l.length:Int) (c.ties.l.flatMap TieD.av) c.ties.l.length b c.av fuel ok (c.ties.l.length:Int) (j:Int)=K (ok&&((c.ties.l.drop j).all (fun t=>Lk t.bus c.buses.l.length)&&c.outs.l.all (je c)))
 | 0,j,fuel+1,ok,k,_=>by
  rw[J3];unfold Zo
  rw[Hy (by omega),cf,show c.ties.l.drop j=[] from En (by omega),A29,M4,A2c]
  exact hr ok N (by omega)
 | m+1,j,fuel+1,ok,k,n=>by
  rw[J3];unfold Zo
  have h:j<c.ties.l.length:=by omega
  have d:=fun ok=>oh hN f hr m (j+1) fuel ok (by omega) (by omega)
  rw[Hf h,ct,Ab h,ct,Hd (e:=TieD.av) (sz:=5) (fun _=>rfl) h,ct,D2 (e:=TieD.av) (sz:=5) (fun _=>rfl) h,show((beq 0 0)&&((beq ((TieD.av c.ties.l[j]).length) 5)&&(beq 5 5)))=true from rfl,ct,LW (by omega),Db h,A12]
  cases ok with
  | false=>exact(d false).trans rfl
  | true =>
   rw[show((true:Bool)==true)=true from rfl,ct]
   rw[show ∀ F:Int→O R,Aw .i64 (drop 1 (c.ties.l[j]).av) F=F (c.ties.l[j]).bus from fun _=>rfl,BG]
   refine(d (Lk (c.ties.l[j]).bus c.buses.l.length)).trans ?_
   rw[A2c,A38]
theorem eR (hN:1000000000<N) (f:c.stores.l.length≤1000) (hr:∀ (ok:Bool) (fuel:Nat),1000<fuel→J3 N K (c.buses.l.length:Int) (c.ties.l.flatMap TieD.av) c.ties.l.length b c.av fuel ok (c.ties.l.length:Int) 0=K (ok&&(c.ties.l.all (fun t=>Lk t.bus c.buses.l.length)&&c.outs.l.all (je c)))):∀ (m j fuel:Nat) (ok:Bool),j+m=c.stores.l.length→m<fuel →
  J4 N K (c.buses.l.length:Int) (c.stores.l.flatMap StoreD.av) c.stores.l.length b c.av fuel ok (c.stores.l.length:Int) (j:Int)=K (ok&&((c.stores.l.drop j).all (fun s=>Lk s.bus c.buses.l.length)&&(c.ties.l.all (fun t=>Lk t.bus c.buses.l.length)&&c.outs.l.all (je c))))
 | 0,j,fuel+1,ok,k,_=>by
  rw[J4];unfold Zp
  rw[Hy (by omega),cf,show c.stores.l.drop j=[] from En (by omega),A29,Tl,A2c]
  exact hr ok N (by omega)
 | m+1,j,fuel+1,ok,k,n=>by
  rw[J4];unfold Zp
  have h:j<c.stores.l.length:=by omega
  have d:=fun ok=>eR hN f hr m (j+1) fuel ok (by omega) (by omega)
  rw[Hf h,ct,Ab h,ct,Hd (e:=StoreD.av) (sz:=9) (fun _=>rfl) h,ct,D2 (e:=StoreD.av) (sz:=9) (fun _=>rfl) h,show((beq 0 0)&&((beq ((StoreD.av c.stores.l[j]).length) 9)&&(beq 9 9)))=true from rfl,ct,LW (by omega),Db h,A12]
  cases ok with
  | false=>exact(d false).trans rfl
  | true =>
   rw[show((true:Bool)==true)=true from rfl,ct]
   rw[show ∀ F:Int→O R,Aw .i64 (drop 1 (c.stores.l[j]).av) F=F (c.stores.l[j]).bus from fun _=>rfl,BG]
   refine(d (Lk (c.stores.l[j]).bus c.buses.l.length)).trans ?_
   rw[A2c,A38]
theorem jl (hN:1000000000<N) (f:c.units.l.length≤1000) (hr:∀ (ok:Bool) (fuel:Nat),1000<fuel→J4 N K (c.buses.l.length:Int) (c.stores.l.flatMap StoreD.av) c.stores.l.length b c.av fuel ok (c.stores.l.length:Int) 0=K (ok&&(c.stores.l.all (fun s=>Lk s.bus c.buses.l.length)&&(c.ties.l.all (fun t=>Lk t.bus c.buses.l.length)&&c.outs.l.all (je c))))):∀ (m j fuel:Nat) (ok:Bool),j+m=c.units.l.length→m<fuel →
  J5 N K (c.buses.l.length:Int) (c.units.l.flatMap UnitD.av) c.units.l.length b c.av fuel ok (c.units.l.length:Int) (j:Int)=K (ok&&((c.units.l.drop j).all (fun u=>Lk u.bus c.buses.l.length&&Lk u.state 3)&&(c.stores.l.all (fun s=>Lk s.bus c.buses.l.length)&&(c.ties.l.all (fun t=>Lk t.bus c.buses.l.length)&&c.outs.l.all (je c)))))
 | 0,j,fuel+1,ok,k,_=>by
  rw[J5];unfold Zq
  rw[Hy (by omega),cf,show c.units.l.drop j=[] from En (by omega),A29,Mb,A2c]
  exact hr ok N (by omega)
 | m+1,j,fuel+1,ok,k,n=>by
  rw[J5];unfold Zq
  have h:j<c.units.l.length:=by omega
  have d:=fun ok=>jl hN f hr m (j+1) fuel ok (by omega) (by omega)
  rw[Hf h,ct,Ab h,ct,Hd (e:=UnitD.av) (sz:=22) (fun _=>rfl) h,ct,D2 (e:=UnitD.av) (sz:=22) (fun _=>rfl) h,show((beq 0 0)&&((beq ((UnitD.av c.units.l[j]).length) 22)&&(beq 22 22)))=true from rfl,ct,LW (by omega),Db h,A12]
  cases ok with
  | false=>exact(d false).trans rfl
  | true =>
   rw[show((true:Bool)==true)=true from rfl,ct]
   rw[show ∀ F:Int→O R,Aw .i64 (drop 1 (c.units.l[j]).av) F=F (c.units.l[j]).bus from fun _=>rfl,BG]
   show cond (Lk (c.units.l[j]).bus c.buses.l.length==true) _ _=_
   cases Lk (c.units.l[j]).bus c.buses.l.length with
   | false=>exact(d false).trans rfl
   | true =>
    rw[show((true:Bool)==true)=true from rfl,ct,show ∀ F:Int→O R,Aw .i64 (drop 19 (c.units.l[j]).av) F=F (c.units.l[j]).state from fun _=>rfl,show(3:Int)=((3:Nat):Int) from rfl,BG]
    refine(d (Lk (c.units.l[j]).state 3)).trans ?_
    rw[A2c,A2c,A38]
theorem jm (hN:1000000000<N) (f:c.lines.l.length≤1000) (hr:∀ (ok:Bool) (fuel:Nat),1000<fuel→J5 N K (c.buses.l.length:Int) (c.units.l.flatMap UnitD.av) c.units.l.length b c.av fuel ok (c.units.l.length:Int) 0=K (ok&&(c.units.l.all (fun u=>Lk u.bus c.buses.l.length&&Lk u.state 3)&&(c.stores.l.all (fun s=>Lk s.bus c.buses.l.length)&&(c.ties.l.all (fun t=>Lk t.bus c.buses.l.length)&&c.outs.l.all (je c)))))):∀ (m j fuel:Nat) (ok:Bool),j+m=c.lines.l.length→m<fuel →
  Nn N K (c.lines.l.flatMap LineD.av) c.lines.l.length b c.av fuel (c.buses.l.length:Int) ok (c.lines.l.length:Int) (j:Int)=K (ok&&((c.lines.l.drop j).all (fun l=>Lk l.fr c.buses.l.length&&Lk l.tl c.buses.l.length)&&(c.units.l.all (fun u=>Lk u.bus c.buses.l.length&&Lk u.state 3)&&(c.stores.l.all (fun s=>Lk s.bus c.buses.l.length)&&(c.ties.l.all (fun t=>Lk t.bus c.buses.l.length)&&c.outs.l.all (je c))))))
 | 0,j,fuel+1,ok,k,_=>by
  rw[Nn];unfold Zr
  rw[Hy (by omega),cf,show c.lines.l.drop j=[] from En (by omega),A29,Jw,A2c]
  exact hr ok N (by omega)
 | m+1,j,fuel+1,ok,k,n=>by
  rw[Nn];unfold Zr
  have h:j<c.lines.l.length:=by omega
  have d:=fun ok=>jm hN f hr m (j+1) fuel ok (by omega) (by omega)
  rw[Hf h,ct,Ab h,ct,Hd (e:=LineD.av) (sz:=12) (fun _=>rfl) h,ct,D2 (e:=LineD.av) (sz:=12) (fun _=>rfl) h,show((beq 0 0)&&((beq ((LineD.av c.lines.l[j]).length) 12)&&(beq 12 12)))=true from rfl,ct,LW (by omega),Db h,A12]
  cases ok with
  | false=>exact(d false).trans rfl
  | true =>
   rw[show((true:Bool)==true)=true from rfl,ct]
   rw[show ∀ F:Int→O R,Aw .i64 (drop 1 (c.lines.l[j]).av) F=F (c.lines.l[j]).fr from fun _=>rfl,BG]
   show cond (Lk (c.lines.l[j]).fr c.buses.l.length==true) _ _=_
   cases Lk (c.lines.l[j]).fr c.buses.l.length with
   | false=>exact(d false).trans rfl
   | true =>
    rw[show((true:Bool)==true)=true from rfl,ct,show ∀ F:Int→O R,Aw .i64 (drop 2 (c.lines.l[j]).av) F=F (c.lines.l[j]).tl from fun _=>rfl,BG]
    refine(d (Lk (c.lines.l[j]).tl c.buses.l.length)).trans ?_
    rw[A2c,A2c,A38]
theorem Aee (hN:1000000000<N) (d:N9 c=true) (hI:∀ o ∈ c.outs.l,OutI 1000000000 o):EK N c.av b K=K (Qj c):=by
 unfold N9 at d
 simp only[A1f,decide_eq_true_eq] at d
 obtain⟨c1,c2,c3,c4,c5,x⟩:=d
 rw[eC];unfold QV
 rw[Ep,G6]
 have k:∀ (ok:Bool) (fuel:Nat),1000<fuel→H4 N K (c.outs.l.flatMap OutD.av) c.outs.l.length b c.av fuel ok (c.outs.l.length:Int) 0=K (ok&&c.outs.l.all (je c)):=fun ok fuel f=>oe hN (by omega) hI c.outs.l.length 0 fuel ok (by omega) (by omega)
 have n:∀ (ok:Bool) (fuel:Nat),1000<fuel→J3 N K (c.buses.l.length:Int) (c.ties.l.flatMap TieD.av) c.ties.l.length b c.av fuel ok (c.ties.l.length:Int) 0=K (ok&&(c.ties.l.all (fun t=>Lk t.bus c.buses.l.length)&&c.outs.l.all (je c))):=fun ok fuel f=>oh hN (by omega) k c.ties.l.length 0 fuel ok (by omega) (by omega)
 have q:∀ (ok:Bool) (fuel:Nat),1000<fuel→J4 N K (c.buses.l.length:Int) (c.stores.l.flatMap StoreD.av) c.stores.l.length b c.av fuel ok (c.stores.l.length:Int) 0=K (ok&&(c.stores.l.all (fun s=>Lk s.bus c.buses.l.length)&&(c.ties.l.all (fun t=>Lk t.bus c.buses.l.length)&&c.outs.l.all (je c)))):=fun ok fuel f=>eR hN (by omega) n c.stores.l.length 0 fuel ok (by omega) (by omega)
 have v:∀ (ok:Bool) (fuel:Nat),1000<fuel→J5 N K (c.buses.l.length:Int) (c.units.l.flatMap UnitD.av) c.units.l.length b c.av fuel ok (c.units.l.length:Int) 0=K (ok&&(c.units.l.all (fun u=>Lk u.bus c.buses.l.length&&Lk u.state 3)&&(c.stores.l.all (fun s=>Lk s.bus c.buses.l.length)&&(c.ties.l.all (fun t=>Lk t.bus c.buses.l.length)&&c.outs.l.all (je c))))):=fun ok fuel f=>jl hN (by omega) q c.units.l.length 0 fuel ok (by omega) (by omega)
 exact jm hN (by omega) v c.lines.l.length 0 N true (by omega) (by omega)
end
end Gx.Ct
