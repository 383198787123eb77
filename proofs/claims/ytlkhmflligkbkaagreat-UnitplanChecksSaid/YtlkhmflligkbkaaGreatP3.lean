/- A part of the proof: what it holds is said by each theorem. -/
import Derived.IntWalk
import Derived.ProofKit
import Derived.OpenShut
import Derived.ChangeOld
import Derived.Below
import Derived.Test.YtlkhmflligkbkaaGreatP2
set_option linter.unusedVariables false
namespace Gx
open Go Go.Proofs
set_option maxRecDepth 100000
noncomputable section
variable {R:Type}
def Mn (N:Nat) (k0:Int→Int→Int→Option R) (r0:Bool→Option R) (c:LA) (e:Nat) (b:Bool) (d:Int) (a:LA)   (l i m:Int) (j:LA):Option R :=
 (cond ((decide (i>(0:Int)))==true) (rdI .i64 (List.drop 1 j) fun p=>(rdL 2 (List.drop 4 a) fun q r=>(cond (Aj (IntKind.wrap .i64 (i - (1:Int))) r) (rdI .i64 (List.drop 1 (List.drop ((Int.toNat (IntKind.wrap .i64 (i - (1:Int))))*2) q)) fun t=>(cond (cond true (decide (p<t)) false) (r0 false) (rdI .i64 j fun u=>(k0 (IntKind.wrap .i64 (l+u)) d (IntKind.wrap .i64 (m+(1:Int))))))) none))) (rdI .i64 j fun w=>(k0 (IntKind.wrap .i64 (l+w)) d (IntKind.wrap .i64 (m+(1:Int))))))
def H5 (N:Nat) (k0:Int→Int→Int→Option R) (r0:Bool→Option R) (c:LA) (e:Nat) (b:Bool) (d:Int) (a:LA) (l i m:Int) (j:LA):Option R:=(Mn N k0 r0 c e b d a l i m j)
def Hg (N:Nat)  (r0:Bool→Option R) (c:LA) (e:Nat) (b:Bool) (a:LA) (k0:Int→Int→Int→Option R) (q1:Int→Int→Int→LA→Option R) (g d f:Int):Option R :=
 (cond (decide (f<d)) (cond (Aj f e) (cond (Nat.ble 2 (List.length (List.drop ((Int.toNat f)*2) c))) (cond ((!b)||(Bm (List.take 2 (List.drop ((Int.toNat f)*2) c)))) (cond ((Nat.beq (List.length (List.take 2 (List.drop ((Int.toNat f)*2) c))) 2)&&((Nat.ble 2 2)&&(!false))) (rdI .i64 (setCells [(.int .i64 0),(.int .i64 0)] 0 (List.take 2 (List.drop ((Int.toNat f)*2) c))) fun x=>(Di N 1 1048576 [(.int .i64 x)] 1 false true (fun y=>(cond ((!y)==false) (rdI .i64 (List.drop 1 (setCells [(.int .i64 0),(.int .i64 0)] 0 (List.take 2 (List.drop ((Int.toNat f)*2) c)))) fun z=>(Di N (-1048576) 1048576 [(.int .i64 z)] 1 false true (fun aa=>(cond (cond false true (!aa)) (r0 false) (q1 g f f (setCells [(.int .i64 0),(.int .i64 0)] 0 (List.take 2 (List.drop ((Int.toNat f)*2) c)))))))) (r0 false))))) none) none) none) none) (rdI .i64 (List.drop 3 a) fun ab=>(rdI .i64 (List.drop 2 a) fun ac=>(r0 (g==(IntKind.wrap .i64 (ab - ac)))))))
def Ct (N:Nat)  (r0:Bool→Option R) (c:LA) (e:Nat) (b:Bool) (a:LA):Nat→Int→Int→Int→Option R
 | 0,_,_,_=>none
 | n+1,g,d,f=>(Hg N r0 c e b a (Ct N r0 c e b a n) (fun l i m j=>(H5 N (Ct N r0 c e b a n) r0 c e b d a l i m j)) g d f)
def Tx (N:Nat) (r0:Bool→Option R) (q0:LA→Nat→Int→Int→Int→Option R) (a:LA) (b:Bool):Option R :=
 (rdL 2 (List.drop 4 a) fun af ad=>(cond (decide (((ad:Nat):Int)>(8:Int))) (r0 false) (rdL 2 (List.drop 4 a) fun c e=>(q0 c e 0 ((e:Nat):Int) 0))))
def Ty (N:Nat) (a:LA) (b:Bool) (r0:Bool→Option R):Option R:=(Tx N r0 (fun c e g d f=>(Ct N r0 c e b a N g d f)) a b)
def F5:=(Ai (@Ty R)).1
theorem Z8:@F5 R=@Ty R:=(Ai _).2
def H6:Hints:={ H:=(hS (hR [1]) (hS (hS (hR [1,9]) (hN [1] (hS (hR [2]) hL) hL)) (hS (hR [1,3]) (hS (hS (hR [1,3,11,12,13]) (hN [1,3] (hN [1,3,11,12,13] (hS (hR [1,3,11,12,13,14]) (hS (hN [1,3,11,12,13] hL hL) (hS (hN [1,3,11,12,13] (hS (hR [1,3,4,5,11,12,13]) (hJ (hS (hR [1,3,4,5,11,12,13,29]) (hN [1,3,4,5,11,12,13] (hS (hR [2]) hL) hL)) (hS (hS (hR [1,3,5,11,12,13,43]) (hN [1,3,5,11,12,13] (hS (hR [2]) hL) hL)) (hR [1,3,11,12,13])))) hL) (hR [1,3,11,12,13])))) hL) hL)) (hS (hR [2]) hL))))),nils:=[],modes:=[],free:=[],cob:=[] }
def Jv (N:Nat):List (Nat×Tw):=[(47,Yr N)]
def Eh (N:Nat):Env:=mkE 56 H6 (Jv N)
def Azs (N:Nat) (F:KF R):=Ao (Eh N) Tryz.f49 H6.modes [] F
def H7 (N:Nat) (F:KF R):=atF (Eh N) [] N Tryz.f49 H6 (Azs N F)
def Cl  (F:KF R):Bool→Option R:=(fun ae=>F (.bool ae) [])
def H8 (c:LA) (e:Nat) (b:Bool) (d:Int) (a:LA) (l i m:Int) (j:LA):St:={ s:=[(1,(.optr 300000 0)),(3,(.int .i64 l)),(4,(.int .i64 i)),(5,(.optr 300001 0)),(11,(.imm c e 2 false b)),(12,(.int .i64 d)),(13,(.int .i64 m))],h:=[(300000,⟨false,false,true,b,0,a,false⟩),(300001,⟨false,false,true,false,0,j,false⟩)] }
def Abt (N:Nat) (F:KF R) (Q0:St→Option R):St→Option R:=Cg (Eh N) [] N (H7 N F [1,1,1,0,1,0,0,1,1,0,0,1,1] [Q0])
def Abu (N:Nat) (F:KF R) (Q0:St→Option R):St→Option R:=Ck (Eh N) [] N (H7 N F [1,1,1,0,1,0,0,1,1,0,0,1,1] [Q0])
def Cu (c:LA) (e:Nat) (b:Bool) (a:LA) (g d f:Int):St:={ s:=[(1,(.optr 300000 0)),(3,(.int .i64 g)),(11,(.imm c e 2 false b)),(12,(.int .i64 d)),(13,(.int .i64 f))],h:=[(300000,⟨false,false,true,b,0,a,false⟩)] }
def Abv (N:Nat) (F:KF R):St→Option R:=Bq (Eh N) [] N (H7 N F [1,1,1,0,1,0] []) N
def Dj (N:Nat) (F:KF R) (n:Nat):St→Option R:=A4 (Eh N) [] N (H7 N F [1,1,1,0,1,0] []) n
theorem As1 (N:Nat) (Q0:St→Option R) (F:KF R) (c:LA) (e:Nat) (b:Bool) (d:Int) (a:LA):∀ (l i m:Int) (j:LA),Abu N F Q0 (H8 c e b d a l i m j)=(H5 N (fun g d f=>Q0 (Cu c e b a g d f)) (Cl F) c e b d a l i m j):=by
 intro l i m j
 have hK:Abu N F Q0 (H8 c e b d a l i m j)=(Mn N (fun g d f=>Q0 (Cu c e b a g d f)) (Cl F) c e b d a l i m j):=by kernel_rfl
 exact hK
theorem As2 (N:Nat)  (F:KF R) (c:LA) (e:Nat) (b:Bool) (a:LA):∀ (n:Nat) (g d f:Int),Dj N F n (Cu c e b a g d f)=(Ct N (Cl F) c e b a n g d f):=by
 intro n
 induction n with
 | zero=>intros;kernel_rfl
 | succ n ih =>
  intro g d f
  have e0:=funext fun g=>funext fun d=>funext fun f=>(show Dj N F n (Cu c e b a g d f)=_ from ih g d f)
  have e1:(fun l i m j=>Abt N F (Dj N F n) (H8 c e b d a l i m j))=(fun l i m j=>(H5 N (Ct N (Cl F) c e b a n) (Cl F) c e b d a l i m j)):=by funext l;funext i;funext m;funext j;exact ((Aw ..).trans (As1 N (Dj N F n) F c e b d a l i m j)).trans (by rw [e0])
  have hK:Dj N F (n+1) (Cu c e b a g d f)=(Hg N (Cl F) c e b a (fun g d f=>Dj N F n (Cu c e b a g d f)) (fun l i m j=>Abt N F (Dj N F n) (H8 c e b d a l i m j)) g d f):=by kernel_rfl
  exact hK.trans (by rw [e0,e1];rfl)
theorem Ox (N:Nat) (a:LA) (b:Bool) (F:KF R):Ab Tryz.prog muts (Jv N) H6 N 49 [(.pagg a b)] [] F=(F5 N a b (Cl F)):=by
 have e1:=funext fun c=>funext fun e=>funext fun g=>funext fun d=>funext fun f=>(show Abv N F (Cu c e b a g d f)=_ from (Ap ..).trans (As2 N F c e b a N g d f))
 have hK:Ab Tryz.prog muts (Jv N) H6 N 49 [(.pagg a b)] [] F=(Tx N (Cl F) (fun c e g d f=>Abv N F (Cu c e b a g d f)) a b):=by kernel_rfl
 rw [Z8]
 exact hK.trans (by rw [e1];rfl)
def Hh (N:Nat) (args:List AV) (h:Ak) (k:KF R):Option R :=
 match args,h with
 | [(.pagg a b)],[]=>(F5 N a b (Cl k))
 | _,_=>none
def Abw (N:Nat):Tw:=⟨Hh N,fun args h k=>by
 unfold Hh;split
 exact twE (Ox ..) (Ox ..)
 rfl⟩
theorem A42 (N:Nat):Ax Tryz.prog 49 (Abw N):=fun args h res o hh=>by
 change Hh N args h (fun v o=>some (v,o))=_ at hh
 unfold Hh at hh;split at hh
 exact Aa (T:=Jv N) ⟨Amq N,trivial⟩ follows ((Ox ..).trans hh)
 cases hh
def N0 (N:Nat)  (r0:Bool→Option R) (c:LA) (a:Nat) (d e:Bool) (f:Int) (k0:Int→Int→Option R)  (g b:Int):Option R :=
 (cond (decide (b<g)) (cond (Aj b a) (rdI .i64 (List.drop ((Int.toNat b)*1) c) fun i=>(Di N 0 (IntKind.wrap .i64 (f - (1:Int))) [(.int .i64 i)] 1 false true (fun l=>(cond ((!l)==false) (cond ((decide (b>(0:Int)))==true) (cond (Aj (IntKind.wrap .i64 (b - (1:Int))) a) (rdI .i64 (List.drop ((Int.toNat (IntKind.wrap .i64 (b - (1:Int))))*1) c) fun m=>(cond (cond false true (cond true (decide (i≤m)) false)) (r0 false) (k0 g (IntKind.wrap .i64 (b+(1:Int)))))) none) (k0 g (IntKind.wrap .i64 (b+(1:Int))))) (r0 false))))) none) (r0 true))
def G7 (N:Nat)  (r0:Bool→Option R) (c:LA) (a:Nat) (d e:Bool) (f:Int):Nat→Int→Int→Option R
 | 0,_,_=>none
 | n+1,g,b=>(N0 N r0 c a d e f (G7 N r0 c a d e f n) g b)
def Amr (N:Nat) (r0:Bool→Option R) (q0:Int→Int→Option R) (c:LA) (a:Nat) (d e:Bool) (f:Int):Option R :=
 (q0 ((a:Nat):Int) 0)
def Ams (N:Nat) (c:LA) (a:Nat) (d e:Bool) (f:Int) (r0:Bool→Option R):Option R:=(Amr N r0 (fun g b=>(G7 N r0 c a d e f N g b)) c a d e f)
def N1:=(Ai (@Ams R)).1
theorem Ao5:@N1 R=@Ams R:=(Ai _).2
def P5:Hints:={ H:=(hS (hR [0,1]) (hS (hS (hR [0,1,7,8,9]) (hS (hN [0,1,7,8,9] (hS (hR [0,1,7,8,9,10]) (hS (hN [0,1,7,8,9] hL hL) (hS (hN [0,1,7,8,9] (hS (hR [0,1,5,6,7,8,9]) (hS (hR [0,1,7,8,9,32]) (hN [0,1,7,8,9] (hS (hR [4]) hL) hL))) hL) (hR [0,1,7,8,9])))) hL) hL)) (hS (hR [4]) hL))),nils:=[],modes:=[],free:=[],cob:=[] }
def Tz (N:Nat):List (Nat×Tw):=[(47,Yr N)]
def T0 (N:Nat):Env:=mkE 34 P5 (Tz N)
def Bio (N:Nat) (F:KF R):=Ao (T0 N) Tryz.f50 P5.modes [] F
def Av0 (N:Nat) (F:KF R):=atF (T0 N) [] N Tryz.f50 P5 (Bio N F)
def Kk  (F:KF R):Bool→Option R:=(fun o=>F (.bool o) [])
def G8 (c:LA) (a:Nat) (d e:Bool) (f g b:Int):St:={ s:=[(0,(.imm c a 1 d e)),(1,(.int .i64 f)),(7,(.imm c a 1 d e)),(8,(.int .i64 g)),(9,(.int .i64 b))],h:=[] }
def Av1 (N:Nat) (F:KF R):St→Option R:=Bq (T0 N) [] N (Av0 N F [1,0,1,0] []) N
def P6 (N:Nat) (F:KF R) (n:Nat):St→Option R:=A4 (T0 N) [] N (Av0 N F [1,0,1,0] []) n
theorem Bal (N:Nat)  (F:KF R) (c:LA) (a:Nat) (d e:Bool) (f:Int):∀ (n:Nat) (g b:Int),P6 N F n (G8 c a d e f g b)=(G7 N (Kk F) c a d e f n g b):=by
 intro n
 induction n with
 | zero=>intros;kernel_rfl
 | succ n ih =>
  intro g b
  have e0:=funext fun g=>funext fun b=>(show P6 N F n (G8 c a d e f g b)=_ from ih g b)
  have hK:P6 N F (n+1) (G8 c a d e f g b)=(N0 N (Kk F) c a d e f (fun g b=>P6 N F n (G8 c a d e f g b)) g b):=by kernel_rfl
  exact hK.trans (by rw [e0];rfl)
theorem Aay (N:Nat) (c:LA) (a:Nat) (d e:Bool) (f:Int) (F:KF R):Ab Tryz.prog muts (Tz N) P5 N 50 [(.imm c a 1 d e),(.int .i64 f)] [] F=(N1 N c a d e f (Kk F)):=by
 have e1:=funext fun g=>funext fun b=>(show Av1 N F (G8 c a d e f g b)=_ from (Ap ..).trans (Bal N F c a d e f N g b))
 have hK:Ab Tryz.prog muts (Tz N) P5 N 50 [(.imm c a 1 d e),(.int .i64 f)] [] F=(Amr N (Kk F) (fun g b=>Av1 N F (G8 c a d e f g b)) c a d e f):=by kernel_rfl
 rw [Ao5]
 exact hK.trans (by rw [e1];rfl)
def N2 (N:Nat) (args:List AV) (h:Ak) (k:KF R):Option R :=
 match args,h with
 | [(.imm c a 1 d e),(.int .i64 f)],[]=>(N1 N c a d e f (Kk k))
 | _,_=>none
def Av2 (N:Nat):Tw:=⟨N2 N,fun args h k=>by
 unfold N2;split
 exact twE (Aay ..) (Aay ..)
 rfl⟩
theorem Bnj (N:Nat):Ax Tryz.prog 50 (Av2 N):=fun args h res j hh=>by
 change N2 N args h (fun v j=>some (v,j))=_ at hh
 unfold N2 at hh;split at hh
 exact Aa (T:=Tz N) ⟨Amq N,trivial⟩ follows ((Aay ..).trans hh)
 cases hh
def As3 (N:Nat)  (r0:Bool→Option R) (c:Int) (b:Bool) (a:LA)   :Option R :=
 (rdI .i64 (List.drop 2 a) fun e=>(rdI .i64 (List.drop 3 a) fun f=>(rdI .i64 (List.drop 8 a) fun g=>(rdI .i64 (List.drop 9 a) fun i=>(Di N e f [(.int .i64 g),(.int .i64 i)] 2 false true (fun j=>(cond (!j) (r0 false) (rdI .i64 (List.drop 5 a) fun l=>(rdI .i64 (List.drop 13 a) fun m=>(rdI .i64 (List.drop 14 a) fun n=>(rdI .i64 (List.drop 17 a) fun o=>(Di N 0 1048576 [(.int .i64 l),(.int .i64 m),(.int .i64 n),(.int .i64 o)] 4 false true (fun p=>(cond (!p) (r0 false) (rdI .i64 (List.drop 19 a) fun q=>(cond (q==(2:Int)) (rdI .i64 (List.drop 2 a) fun r=>(rdI .i64 (List.drop 3 a) fun t=>(rdI .i64 (List.drop 21 a) fun u=>(Di N r t [(.int .i64 u)] 1 false true (fun w=>(cond (!w) (r0 false) (cond (Nat.ble 22 (List.length a)) (F5 N (List.take 22 a) b (fun x=>(cond (x==true) (rdL 1 (List.drop 18 a) fun y z=>(N1 N y z false b c (fun aa=>(r0 (cond true aa false))))) (r0 false)))) none))))))) (rdI .i64 (List.drop 21 a) fun ab=>(cond (ab != (0:Int)) (r0 false) (cond (Nat.ble 22 (List.length a)) (F5 N (List.take 22 a) b (fun ac=>(cond (ac==true) (rdL 1 (List.drop 18 a) fun ad ae=>(N1 N ad ae false b c (fun af=>(r0 (cond true af false))))) (r0 false)))) none)))))))))))))))))))
def Azt (N:Nat)  (r0:Bool→Option R) (c:Int) (b:Bool) (a:LA) :Option R:=(As3 N r0 c b a)
def As4 (N:Nat)  (r0:Bool→Option R) (c:Int) (b:Bool) (a:LA)  (q1:Option R) :Option R :=
 (rdI .i64 (List.drop 2 a) fun ag=>(rdI .i64 (List.drop 3 a) fun ah=>(rdI .i64 (List.drop 6 a) fun ai=>(rdI .i64 (List.drop 7 a) fun aj=>(rdI .i64 (List.drop 16 a) fun ak=>(Di N 0 1048576 [(.int .i64 ag),(.int .i64 ah),(.int .i64 ai),(.int .i64 aj),(.int .i64 ak)] 5 false true (fun al=>(cond ((!al)==false) (rdI .i64 (List.drop 2 a) fun am=>(rdI .i64 (List.drop 3 a) fun an=>(cond (cond false true (decide (am>an))) (r0 false) q1))) (r0 false)))))))))
def Azu (N:Nat)  (r0:Bool→Option R) (c:Int) (b:Bool) (a:LA) :Option R:=(As4 N r0 c b a (Azt N r0 c b a))
def Bip (N:Nat) (r0:Bool→Option R) (q0:Option R) (a:LA) (b:Bool) (c:Int):Option R :=
 (Di N 1 24 [(.int .i64 c)] 1 false true (fun ao=>(cond ((!ao)==false) (cond (Nat.ble 22 (List.length a)) (Pc N (List.take 22 a) b (fun ap=>(cond (cond false true (!ap)) (r0 false) q0))) none) (r0 false))))
def Biq (N:Nat) (a:LA) (b:Bool) (c:Int) (r0:Bool→Option R):Option R:=(Bip N r0 (Azu N r0 c b a) a b c)
def Z9:=(Ai (@Biq R)).1
theorem Bdy:@Z9 R=@Biq R:=(Ai _).2
def Akd:Hints:={ H:=(hS (hR [1,2]) (hJ (hS (hR [1,2,13]) (hN [1,2] (hS (hR [4]) hL) hL)) (hJ (hS (hR [1,2,33]) (hN [1,2] (hS (hR [4]) hL) hL)) (hS (hS (hR [1,2,44]) (hN [1,2] (hS (hR [4]) hL) hL)) (hS (hS (hR [1,2,55]) (hN [1,2] (hS (hR [4]) hL) hL)) (hS (hS (hR [1,2,58]) (hN [1,2] (hS (hR [1,2,67]) (hN [1,2] (hS (hR [4]) hL) hL)) (hS (hR [1,2,70]) (hN [1,2] (hS (hR [4]) hL) hL)))) (hS (hR [4]) hL))))))),nils:=[],modes:=[],free:=[],cob:=[] }
def As5 (N:Nat):List (Nat×Tw):=[(47,Yr N),(48,Rs N),(49,Abw N),(50,Av2 N)]
def W4 (N:Nat):Env:=mkE 79 Akd (As5 N)
def B0w (N:Nat) (F:KF R):=Ao (W4 N) Tryz.f16 Akd.modes [] F
def Ake (N:Nat) (F:KF R):=atF (W4 N) [] N Tryz.f16 Akd (B0w N F)
def Mo  (F:KF R):Bool→Option R:=(fun aq=>F (.bool aq) [])
def Akf (c:Int) (b:Bool) (a:LA):St:={ s:=[(1,(.int .i64 c)),(2,(.optr 300000 0))],h:=[(300000,⟨false,false,true,b,0,a,false⟩)] }
def Bl4 (N:Nat) (F:KF R):St→Option R:=Cg (W4 N) [] N (Ake N F [1,1,1] [])
def Bl5 (N:Nat) (F:KF R):St→Option R:=Ck (W4 N) [] N (Ake N F [1,1,1] [])
def Akg (c:Int) (b:Bool) (a:LA):St:={ s:=[(1,(.int .i64 c)),(2,(.optr 300000 0))],h:=[(300000,⟨false,false,true,b,0,a,false⟩)] }
def Bl6 (N:Nat) (F:KF R):St→Option R:=Cg (W4 N) [] N (Ake N F [1,1] [])
def Bl7 (N:Nat) (F:KF R):St→Option R:=Ck (W4 N) [] N (Ake N F [1,1] [])
theorem Bs1 (N:Nat)  (F:KF R) (c:Int) (b:Bool) (a:LA):Bl5 N F (Akf c b a)=(Azt N (Mo F) c b a):=by
 have hK:Bl5 N F (Akf c b a)=(As3 N (Mo F) c b a):=by kernel_rfl
 exact hK
theorem Bs2 (N:Nat)  (F:KF R) (c:Int) (b:Bool) (a:LA):Bl7 N F (Akg c b a)=(Azu N (Mo F) c b a):=by
 have e1:=(show Bl4 N F (Akf c b a)=_ from (Aw ..).trans (Bs1 N F c b a))
 have hK:Bl7 N F (Akg c b a)=(As4 N (Mo F) c b a (Bl4 N F (Akf c b a))):=by kernel_rfl
 exact hK.trans (by rw [e1];rfl)
theorem Azv (N:Nat) (a:LA) (b:Bool) (c:Int) (F:KF R):Ab Tryz.prog muts (As5 N) Akd N 16 [(.pagg a b),(.int .i64 c)] [] F=(Z9 N a b c (Mo F)):=by
 have e1:=(show Bl6 N F (Akg c b a)=_ from (Aw ..).trans (Bs2 N F c b a))
 have hK:Ab Tryz.prog muts (As5 N) Akd N 16 [(.pagg a b),(.int .i64 c)] [] F=(Bip N (Mo F) (Bl6 N F (Akg c b a)) a b c):=by kernel_rfl
 rw [Bdy]
 exact hK.trans (by rw [e1];rfl)
def Ac6 (N:Nat) (args:List AV) (h:Ak) (k:KF R):Option R :=
 match args,h with
 | [(.pagg a b),(.int .i64 c)],[]=>(Z9 N a b c (Mo k))
 | _,_=>none
def Aaa (N:Nat):Tw:=⟨Ac6 N,fun args h k=>by
 unfold Ac6;split
 exact twE (Azv ..) (Azv ..)
 rfl⟩
theorem Akh (N:Nat):Ax Tryz.prog 16 (Aaa N):=fun args h res d hh=>by
 change Ac6 N args h (fun v d=>some (v,d))=_ at hh
 unfold Ac6 at hh;split at hh
 exact Aa (T:=As5 N) ⟨Amq N,Z7 N,A42 N,Bnj N,trivial⟩ follows ((Azv ..).trans hh)
 cases hh
def Bam (N:Nat) (r0:Bool→Option R)  (a:LA) (b:Bool) (c d:Int):Option R :=
 (cond (Nat.ble 3 (List.length a)) (B0 N c (fun f=>(E6 N (List.take 3 a) b f false (fun g=>(cond ((decide (g≥(0:Int)))==true) (cond (Nat.ble 3 (List.length a)) (B0 N d (fun i=>(E6 N (List.take 3 a) b i false (fun j=>(r0 (cond true (decide (j≤(0:Int))) false)))))) none) (r0 false)))))) none)
def Ban (N:Nat) (a:LA) (b:Bool) (c d:Int) (r0:Bool→Option R):Option R:=(Bam N r0 a b c d)
def W5:=(Ai (@Ban R)).1
theorem A6k:@W5 R=@Ban R:=(Ai _).2
def Bdz:Hints:={ H:=(hS (hR [1,2,3]) (hS (hR [6]) hL)),nils:=[],modes:=[],free:=[],cob:=[] }
def Azw (N:Nat):List (Nat×Tw):=[(60,Dy N),(59,Ky N)]
def As6  (F:KF R):Bool→Option R:=(fun l=>F (.bool l) [])
theorem As7 (N:Nat) (a:LA) (b:Bool) (c d:Int) (F:KF R):Ab Tryz.prog muts (Azw N) Bdz N 56 [(.pagg a b),(.int .i64 c),(.int .i64 d)] [] F=(W5 N a b c d (As6 F)):=by
 have hK:Ab Tryz.prog muts (Azw N) Bdz N 56 [(.pagg a b),(.int .i64 c),(.int .i64 d)] [] F=(Bam N (As6 F) a b c d):=by kernel_rfl
 rw [A6k]
 exact hK
def Ys (N:Nat) (args:List AV) (h:Ak) (k:KF R):Option R :=
 match args,h with
 | [(.pagg a b),(.int .i64 c),(.int .i64 d)],[]=>(W5 N a b c d (As6 k))
 | _,_=>none
def Ac7 (N:Nat):Tw:=⟨Ys N,fun args h k=>by
 unfold Ys;split
 exact twE (As7 ..) (As7 ..)
 rfl⟩
theorem As8 (N:Nat):Ax Tryz.prog 56 (Ac7 N):=fun args h res e hh=>by
 change Ys N args h (fun v e=>some (v,e))=_ at hh
 unfold Ys at hh;split at hh
 exact Aa (T:=Azw N) ⟨Ek N,O7 N,trivial⟩ follows ((As7 ..).trans hh)
 cases hh
def A38 (N:Nat) (r0:LA→Option R)  (b:Int) (a:LA) (c:Bool):Option R :=
 (B0 N b (fun f=>(cond (Nat.ble 3 (List.length a)) (Ash N f false (List.take 3 a) c (fun d=>(cond ((Nat.beq 0 0)&&((Nat.beq (List.length d) 3)&&(Nat.beq 3 3))) (cond (Nat.ble 3 (List.length d)) (r0 (List.take 3 d)) none) none))) none)))
def A39 (N:Nat) (b:Int) (a:LA) (c:Bool) (r0:LA→Option R):Option R:=(A38 N r0 b a c)
def Ao6:=(Ai (@A39 R)).1
theorem As9:@Ao6 R=@A39 R:=(Ai _).2
def Bl8:Hints:={ H:=(hS (hR [0,3,4]) (hS (hR [4]) hL)),nils:=[],modes:=[(3,0)],free:=[],cob:=[] }
def Bao (N:Nat):List (Nat×Tw):=[(60,Dy N),(82,Bh6 N)]
def Azx  (F:KF R):LA→Option R:=(fun g=>F (.pagg g false) [])
theorem Azy (N:Nat) (b:Int) (a:LA) (c:Bool) (F:KF R):Ab Tryz.prog muts (Bao N) Bl8 N 86 [(.int .i64 b),(.pagg a c)] [] F=(Ao6 N b a c (Azx F)):=by
 have hK:Ab Tryz.prog muts (Bao N) Bl8 N 86 [(.int .i64 b),(.pagg a c)] [] F=(A38 N (Azx F) b a c):=by kernel_rfl
 rw [As9]
 exact hK
def Ac8 (N:Nat) (args:List AV) (h:Ak) (k:KF R):Option R :=
 match args,h with
 | [(.int .i64 b),(.pagg a c)],[]=>(Ao6 N b a c (Azx k))
 | _,_=>none
def Azz (N:Nat):Tw:=⟨Ac8 N,fun args h k=>by
 unfold Ac8;split
 exact twE (Azy ..) (Azy ..)
 rfl⟩
theorem Bl9 (N:Nat):Ax Tryz.prog 86 (Azz N):=fun args h res e hh=>by
 change Ac8 N args h (fun v e=>some (v,e))=_ at hh
 unfold Ac8 at hh;split at hh
 exact Aa (T:=Bao N) ⟨Ek N,Bx8 N,trivial⟩ follows ((Azy ..).trans hh)
 cases hh
def Jw (N:Nat)  (r0:LA→Option R) (e:LA) (g:Nat) (d:Bool) (k0:Int→Int→LA→LA→Option R)  (f b:Int) (c a:LA):Option R :=
 (cond (decide (b<f)) (cond (Aj b g) (cond (Nat.ble 2 (List.length (List.drop ((Int.toNat b)*2) e))) (cond ((!d)||(Bm (List.take 2 (List.drop ((Int.toNat b)*2) e)))) (cond ((Nat.beq (List.length (List.take 2 (List.drop ((Int.toNat b)*2) e))) 2)&&((Nat.ble 2 2)&&(!false))) (cond (Nat.ble 3 (List.length c)) (Po N (List.take 3 c) false (fun u=>(cond (decide (u≤(0:Int))) (cond (Nat.ble 3 (List.length a)) (cond ((Nat.beq 0 0)&&((Nat.beq (List.length (List.take 3 a)) 3)&&(Nat.beq 3 3))) (cond (Nat.ble 3 (List.length (List.take 3 a))) (r0 (List.take 3 (List.take 3 a))) none) none) none) (cond (Nat.ble 3 (List.length c)) (rdI .i64 (setCells [(.int .i64 0),(.int .i64 0)] 0 (List.take 2 (List.drop ((Int.toNat b)*2) e))) fun w=>(B0 N w (fun x=>(Bh2 N (List.take 3 c) false x false (fun m=>(cond ((Nat.beq 0 0)&&((Nat.beq (List.length m) 3)&&(Nat.beq 3 3))) (cond (Nat.ble 3 (List.length a)) (rdI .i64 (List.drop 1 (setCells [(.int .i64 0),(.int .i64 0)] 0 (List.take 2 (List.drop ((Int.toNat b)*2) e)))) fun y=>(cond (Nat.ble 3 (List.length m)) (Ao6 N y (List.take 3 m) false (fun z=>(Mi N (List.take 3 a) false z false (fun o=>(cond ((Nat.beq (List.length o) 3)&&((Nat.ble 3 (List.length a))&&(!false))) (cond (Nat.ble 3 (List.length c)) (cond (Nat.ble 3 (List.length m)) (Agx N (List.take 3 c) false (List.take 3 m) false (fun p=>(cond ((Nat.beq (List.length p) 3)&&((Nat.ble 3 (List.length c))&&(!false))) (k0 f (IntKind.wrap .i64 (b+(1:Int))) (setCells c 0 p) (setCells a 0 o)) none))) none) none) none))))) none)) none) none)))))) none)))) none) none) none) none) none) (cond (Nat.ble 3 (List.length a)) (cond ((Nat.beq 0 0)&&((Nat.beq (List.length (List.take 3 a)) 3)&&(Nat.beq 3 3))) (cond (Nat.ble 3 (List.length (List.take 3 a))) (r0 (List.take 3 (List.take 3 a))) none) none) none))
def E1 (N:Nat)  (r0:LA→Option R) (e:LA) (g:Nat) (d:Bool):Nat→Int→Int→LA→LA→Option R
 | 0,_,_,_,_=>none
 | n+1,f,b,c,a=>(Jw N r0 e g d (E1 N r0 e g d n) f b c a)
def Aaz (N:Nat) (r0:LA→Option R) (q0:LA→Nat→Int→Int→LA→LA→Option R) (i:LA) (d:Bool) (j:LA) (l:Bool):Option R :=
 (cond (Nat.ble 3 (List.length j)) (rdI .i64 (List.drop 2 i) fun aa=>(B0 N aa (fun ab=>(Agx N (List.take 3 j) l ab false (fun q=>(cond ((Nat.beq 0 0)&&((Nat.beq (List.length q) 3)&&(Nat.beq 3 3))) (B0 N 0 (fun r=>(cond ((Nat.beq 0 0)&&((Nat.beq (List.length r) 3)&&(Nat.beq 3 3))) (rdL 2 (List.drop 4 i) fun e g=>(q0 e g ((g:Nat):Int) 0 q r)) none))) none)))))) none)
def Aa0 (N:Nat) (i:LA) (d:Bool) (j:LA) (l:Bool) (r0:LA→Option R):Option R:=(Aaz N r0 (fun e g f b c a=>(E1 N r0 e g d N f b c a)) i d j l)
def Iv:=(Ai (@Aa0 R)).1
theorem Ag4:@Iv R=@Aa0 R:=(Ai _).2
def Ly:Hints:={ H:=(hS (hR [2,3,4]) (hS (hR [2,4,5]) (hS (hR [2,4,5,6]) (hS (hS (hR [4,5,6,17,18,19]) (hN [4,6] (hN [4,5,6,17,18,19] (hS (hR [4,5,6,17,18,19,20]) (hS (hN [4,5,6,17,18,19] hL hL) (hS (hN [4,5,6,17,18,19] (hS (hR [4,5,6,8,17,18,19]) (hS (hS (hR [4,5,6,8,17,18,19,25]) (hN [4,5,6,8,17,18,19] hL hL)) (hS (hR [4,5,6,8,9,17,18,19]) (hS (hR [4,5,6,9,17,18,19]) (hR [4,5,6,17,18,19]))))) hL) (hR [4,5,6,17,18,19])))) hL) hL)) (hS (hR [4]) hL))))),nils:=[],modes:=[(3,0)],free:=[],cob:=[] }
def N3 (N:Nat):List (Nat×Tw):=[(60,Dy N),(83,A3x N),(95,Af0 N),(96,Bx4 N),(86,Azz N),(81,Wx N)]
def N4 (N:Nat):Env:=mkE 42 Ly (N3 N)
def Bap (N:Nat) (F:KF R):=Ao (N4 N) Tryz.f57 Ly.modes [] F
def Aki (N:Nat) (F:KF R):=atF (N4 N) [] N Tryz.f57 Ly (Bap N F)
def Hi  (F:KF R):LA→Option R:=(fun ac=>F (.pagg ac false) [])
def E2 (e:LA) (g:Nat) (d:Bool) (f b:Int) (c a:LA):St:={ s:=[(4,(.optr 300000 0)),(5,(.optr 300001 0)),(6,(.optr 300002 0)),(17,(.imm e g 2 false d)),(18,(.int .i64 f)),(19,(.int .i64 b))],h:=[(300000,⟨false,false,false,false,0,[(.bool false),.nsl,.nsl],false⟩),(300001,⟨false,false,true,false,0,c,false⟩),(300002,⟨false,false,true,false,0,a,false⟩)] }
def Akj (N:Nat) (F:KF R):St→Option R:=Bq (N4 N) [] N (Aki N F [1,1,1,0,1,0] []) N
def Lz (N:Nat) (F:KF R) (n:Nat):St→Option R:=A4 (N4 N) [] N (Aki N F [1,1,1,0,1,0] []) n
theorem Az0 (N:Nat)  (F:KF R) (e:LA) (g:Nat) (d:Bool):∀ (n:Nat) (f b:Int) (c a:LA),Lz N F n (E2 e g d f b c a)=(E1 N (Hi F) e g d n f b c a):=by
 intro n
 induction n with
 | zero=>intros;kernel_rfl
 | succ n ih =>
  intro f b c a
  have e0:=funext fun f=>funext fun b=>funext fun c=>funext fun a=>(show Lz N F n (E2 e g d f b c a)=_ from ih f b c a)
  have hK:Lz N F (n+1) (E2 e g d f b c a)=(Jw N (Hi F) e g d (fun f b c a=>Lz N F n (E2 e g d f b c a)) f b c a):=by kernel_rfl
  exact hK.trans (by rw [e0];rfl)
theorem T1 (N:Nat) (i:LA) (d:Bool) (j:LA) (l:Bool) (F:KF R):Ab Tryz.prog muts (N3 N) Ly N 57 [(.pagg i d),(.pagg j l)] [] F=(Iv N i d j l (Hi F)):=by
 have e1:=funext fun e=>funext fun g=>funext fun f=>funext fun b=>funext fun c=>funext fun a=>(show Akj N F (E2 e g d f b c a)=_ from (Ap ..).trans (Az0 N F e g d N f b c a))
 have hK:Ab Tryz.prog muts (N3 N) Ly N 57 [(.pagg i d),(.pagg j l)] [] F=(Aaz N (Hi F) (fun e g f b c a=>Akj N F (E2 e g d f b c a)) i d j l):=by kernel_rfl
 rw [Ag4]
 exact hK.trans (by rw [e1];rfl)
def Jx (N:Nat) (args:List AV) (h:Ak) (k:KF R):Option R :=
 match args,h with
 | [(.pagg i d),(.pagg j l)],[]=>(Iv N i d j l (Hi k))
 | _,_=>none
def T2 (N:Nat):Tw:=⟨Jx N,fun args h k=>by
 unfold Jx;split
 exact twE (T1 ..) (T1 ..)
 rfl⟩
theorem Akk (N:Nat):Ax Tryz.prog 57 (T2 N):=fun args h res t hh=>by
 change Jx N args h (fun v t=>some (v,t))=_ at hh
 unfold Jx at hh;split at hh
 exact Aa (T:=N3 N) ⟨Ek N,Bh1 N,Are N,B7u N,Bl9 N,Aer N,trivial⟩ follows ((T1 ..).trans hh)
 cases hh
def Aa1 (N:Nat) (r0:LA→Int→Option R)  (a:LA) (c:Bool) (b:LA) (d:Bool):Option R :=
 (cond (Nat.ble 22 (List.length a)) (Z9 N (List.take 22 a) c 24 (fun g=>(cond (!g) (r0 [(.bool false),.nsl,.nsl] 1) (cond (Nat.ble 3 (List.length b)) (rdI .i64 (List.drop 2 a) fun i=>(rdI .i64 (List.drop 3 a) fun j=>(W5 N (List.take 3 b) d i j (fun l=>(cond (!l) (r0 [(.bool false),.nsl,.nsl] 3) (cond (Nat.ble 22 (List.length a)) (cond (Nat.ble 3 (List.length b)) (Iv N (List.take 22 a) c (List.take 3 b) d (fun e=>(cond ((Nat.beq 0 0)&&((Nat.beq (List.length e) 3)&&(Nat.beq 3 3))) (cond (Nat.ble 3 (List.length e)) (r0 (List.take 3 e) 0) none) none))) none) none)))))) none)))) none)
def Aa2 (N:Nat) (a:LA) (c:Bool) (b:LA) (d:Bool) (r0:LA→Int→Option R):Option R:=(Aa1 N r0 a c b d)
def Mp:=(Ai (@Aa2 R)).1
theorem Ag5:@Mp R=@Aa2 R:=(Ai _).2
def Akl:Hints:={ H:=(hS (hR [2,3,4]) (hS (hS (hR [2,3,4,8]) (hN [2,3,4] (hS (hR [4,5]) hL) hL)) (hS (hS (hR [2,3,4,16]) (hN [2,3,4] (hS (hR [4,5]) hL) hL)) (hS (hR [4,5]) hL)))),nils:=[],modes:=[(3,0),(0,0)],free:=[],cob:=[] }
def W6 (N:Nat):List (Nat×Tw):=[(16,Aaa N),(56,Ac7 N),(57,T2 N)]
def T3  (F:KF R):LA→Int→Option R:=(fun m n=>F (.tup [(.pagg m false),(.int .i64 n)]) [])
theorem T4 (N:Nat) (a:LA) (c:Bool) (b:LA) (d:Bool) (F:KF R):Ab Tryz.prog muts (W6 N) Akl N 21 [(.pagg a c),(.pagg b d)] [] F=(Mp N a c b d (T3 F)):=by
 have hK:Ab Tryz.prog muts (W6 N) Akl N 21 [(.pagg a c),(.pagg b d)] [] F=(Aa1 N (T3 F) a c b d):=by kernel_rfl
 rw [Ag5]
 exact hK
def Jy (N:Nat) (args:List AV) (h:Ak) (k:KF R):Option R :=
 match args,h with
 | [(.pagg a c),(.pagg b d)],[]=>(Mp N a c b d (T3 k))
 | _,_=>none
def Akm (N:Nat):Tw:=⟨Jy N,fun args h k=>by
 unfold Jy;split
 exact twE (T4 ..) (T4 ..)
 rfl⟩
theorem Bd0 (N:Nat):Ax Tryz.prog 21 (Akm N):=fun args h res f hh=>by
 change Jy N args h (fun v f=>some (v,f))=_ at hh
 unfold Jy at hh;split at hh
 exact Aa (T:=W6 N) ⟨Akh N,As8 N,Akk N,trivial⟩ follows ((T4 ..).trans hh)
 cases hh
end
end Gx

namespace Gx
open Go Go.Proofs
set_option maxRecDepth 100000
noncomputable section
variable {R:Type}
def Aa3 (N:Nat) (k1:Bool→Bool→Int→Int→Int→LA→LA→Option R) (r0:LA→LA→Bool→Bool→Option R) (i:Bool) (q r:Int) (f:LA) (j:Nat) (c:Bool) (g d:Int) (b:Bool) (a e:LA)   (t:Bool) (u:Int) (w x:LA):Option R :=
 (cond ((decide (q≥(0:Int)))==true) (cond (cond true (decide (r<(0:Int))) false) (rdI .i64 (List.drop 1 x) fun ac=>(B0 N ac (fun z=>(cond ((Nat.beq (List.length z) 3)&&((Nat.ble 3 (List.length e))&&(!false))) (k1 t true u g (IntKind.wrap .i64 (d+(1:Int))) w (setCells e 0 z)) none)))) (k1 t i u g (IntKind.wrap .i64 (d+(1:Int))) w e)) (k1 t i u g (IntKind.wrap .i64 (d+(1:Int))) w e))
def Mq (N:Nat) (k1:Bool→Bool→Int→Int→Int→LA→LA→Option R) (r0:LA→LA→Bool→Bool→Option R) (i:Bool) (q r:Int) (f:LA) (j:Nat) (c:Bool) (g d:Int) (b:Bool) (a e:LA) (t:Bool) (u:Int) (w x:LA):Option R:=(Aa3 N k1 r0 i q r f j c g d b a e t u w x)
def P7 (N:Nat)  (r0:LA→LA→Bool→Bool→Option R) (f:LA) (j:Nat) (c b:Bool) (a:LA) (k1:Bool→Bool→Int→Int→Int→LA→LA→Option R) (q2:Int→Int→Bool→Int→LA→LA→Option R) (o i:Bool) (m g d:Int) (l e:LA):Option R :=
 (cond (decide (d<g)) (cond (Aj d j) (cond (Nat.ble 2 (List.length (List.drop ((Int.toNat d)*2) f))) (cond ((!c)||(Bm (List.take 2 (List.drop ((Int.toNat d)*2) f)))) (cond ((Nat.beq (List.length (List.take 2 (List.drop ((Int.toNat d)*2) f))) 2)&&((Nat.ble 2 2)&&(!false))) (rdI .i64 (setCells [(.int .i64 0),(.int .i64 0)] 0 (List.take 2 (List.drop ((Int.toNat d)*2) f))) fun y=>(cond (Nat.ble 3 (List.length a)) (B0 N m (fun ad=>(E6 N (List.take 3 a) b ad false (fun q=>(cond (Nat.ble 3 (List.length a)) (B0 N (IntKind.wrap .i64 (m+y)) (fun ae=>(E6 N (List.take 3 a) b ae false (fun r=>(cond ((decide (q>(0:Int)))==true) (cond (cond true (decide (r≤(0:Int))) false) (rdI .i64 (List.drop 1 (setCells [(.int .i64 0),(.int .i64 0)] 0 (List.take 2 (List.drop ((Int.toNat d)*2) f)))) fun af=>(B0 N af (fun aa=>(cond ((Nat.beq (List.length aa) 3)&&((Nat.ble 3 (List.length l))&&(!false))) (q2 q r true (IntKind.wrap .i64 (m+y)) (setCells l 0 aa) (setCells [(.int .i64 0),(.int .i64 0)] 0 (List.take 2 (List.drop ((Int.toNat d)*2) f)))) none)))) (q2 q r o (IntKind.wrap .i64 (m+y)) l (setCells [(.int .i64 0),(.int .i64 0)] 0 (List.take 2 (List.drop ((Int.toNat d)*2) f))))) (q2 q r o (IntKind.wrap .i64 (m+y)) l (setCells [(.int .i64 0),(.int .i64 0)] 0 (List.take 2 (List.drop ((Int.toNat d)*2) f))))))))) none))))) none)) none) none) none) none) (cond (Nat.ble 3 (List.length l)) (cond (Nat.ble 3 (List.length e)) (cond ((Nat.beq (List.length (List.take 3 l)) 3)&&((Nat.ble 3 (List.length l))&&(!false))) (cond ((Nat.beq (List.length (List.take 3 e)) 3)&&((Nat.ble 3 (List.length e))&&(!false))) (cond (Nat.ble 3 (List.length (setCells l 0 (List.take 3 l)))) (cond (Nat.ble 3 (List.length (setCells e 0 (List.take 3 e)))) (r0 (List.take 3 (setCells l 0 (List.take 3 l))) (List.take 3 (setCells e 0 (List.take 3 e))) o i) none) none) none) none) none) none))
def D2 (N:Nat)  (r0:LA→LA→Bool→Bool→Option R) (f:LA) (j:Nat) (c b:Bool) (a:LA):Nat→Bool→Bool→Int→Int→Int→LA→LA→Option R
 | 0,_,_,_,_,_,_,_=>none
 | n+1,o,i,m,g,d,l,e=>(P7 N r0 f j c b a (D2 N r0 f j c b a n) (fun q r t u w x=>(Mq N (D2 N r0 f j c b a n) r0 i q r f j c g d b a e t u w x)) o i m g d l e)
def Aa4 (N:Nat)  (r0:LA→LA→Bool→Bool→Option R) (c:Bool) (p:LA) (b:Bool) (a:LA)  (q1:LA→Nat→Bool→Bool→Int→Int→Int→LA→LA→Option R) :Option R :=
 (rdI .i64 (List.drop 2 p) fun ag=>(rdL 2 (List.drop 4 p) fun f j=>(q1 f j false false ag ((j:Nat):Int) 0 [(.bool false),.nsl,.nsl] [(.bool false),.nsl,.nsl])))
def Ag6 (N:Nat)  (r0:LA→LA→Bool→Bool→Option R) (c:Bool) (p:LA) (b:Bool) (a:LA) :Option R:=(Aa4 N r0 c p b a (fun f j o i m g d l e=>(D2 N r0 f j c b a N o i m g d l e)))
def Ata (N:Nat) (r0:LA→LA→Bool→Bool→Option R) (q0:Option R) (p:LA) (c:Bool) (a:LA) (b:Bool):Option R :=
 (cond (Nat.ble 22 (List.length p)) (Z9 N (List.take 22 p) c 24 (fun ah=>(cond ((!ah)==false) (cond (Nat.ble 3 (List.length a)) (rdI .i64 (List.drop 2 p) fun ai=>(rdI .i64 (List.drop 3 p) fun aj=>(W5 N (List.take 3 a) b ai aj (fun ak=>(cond (cond false true (!ak)) (r0 [(.bool false),.nsl,.nsl] [(.bool false),.nsl,.nsl] false false) q0))))) none) (r0 [(.bool false),.nsl,.nsl] [(.bool false),.nsl,.nsl] false false)))) none)
def Atb (N:Nat) (p:LA) (c:Bool) (a:LA) (b:Bool) (r0:LA→LA→Bool→Bool→Option R):Option R:=(Ata N r0 (Ag6 N r0 c p b a) p c a b)
def Aab:=(Ai (@Atb R)).1
theorem Av3:@Aab R=@Atb R:=(Ai _).2
def T5:Hints:={ H:=(hS (hR [2,3,4,5,6,7]) (hJ (hS (hR [2,3,4,5,6,7,25]) (hN [2,3,4,5,6,7] (hS (hR [4,5,6,7]) hL) hL)) (hS (hR [2,3,4,5,6,7,8]) (hS (hS (hR [3,4,5,6,7,8,31,32,33]) (hN [4,5,6,7] (hN [3,4,5,6,7,8,31,32,33] (hS (hR [3,4,5,6,7,8,31,32,33,34]) (hS (hN [3,4,5,6,7,8,31,32,33] hL hL) (hS (hN [3,4,5,6,7,8,31,32,33] (hS (hR [3,4,5,6,7,8,10,31,32,33]) (hS (hR [3,4,5,6,7,8,10,11,31,32,33]) (hS (hR [3,4,5,6,7,10,11,12,31,32,33]) (hS (hR [3,4,5,6,7,10,11,12,13,31,32,33]) (hJ (hS (hR [3,4,5,6,7,10,11,12,13,31,32,33,54]) (hN [3,4,5,6,7,10,11,12,13,31,32,33] (hR [3,4,5,6,7,10,11,12,13,31,32,33]) hL)) (hS (hS (hR [3,4,5,6,7,10,11,31,32,33,63]) (hN [3,4,5,6,7,11,31,32,33] (hR [3,4,5,6,7,11,31,32,33]) hL)) (hR [3,4,5,6,7,8,31,32,33]))))))) hL) (hR [3,4,5,6,7,8,31,32,33])))) hL) hL)) (hS (hR [4,5,6,7]) hL))))),nils:=[],modes:=[(3,0),(3,0),(0,0),(0,0)],free:=[],cob:=[4,5,10] }
def Yt (N:Nat):List (Nat×Tw):=[(16,Aaa N),(56,Ac7 N),(60,Dy N),(59,Ky N)]
def Ft (N:Nat):Env:=mkE 73 T5 (Yt N)
def Bnk (N:Nat) (F:KF R):=Ao (Ft N) Tryz.f23 T5.modes [] F
def Iw (N:Nat) (F:KF R):=atF (Ft N) [] N Tryz.f23 T5 (Bnk N F)
def Db  (F:KF R):LA→LA→Bool→Bool→Option R:=(fun al am an ao=>F (.tup [(.pagg al false),(.pagg am false),(.bool an),(.bool ao)]) [])
def T6 (i:Bool) (q r:Int) (f:LA) (j:Nat) (c:Bool) (g d:Int) (b:Bool) (a e:LA) (t:Bool) (u:Int) (w x:LA):St:={ s:=[(3,(.optr 300000 0)),(4,(.optr 300001 0)),(5,(.optr 300002 0)),(6,(.bool t)),(7,(.bool i)),(10,(.optr 300003 0)),(11,(.int .i64 u)),(12,(.int .i64 q)),(13,(.int .i64 r)),(31,(.imm f j 2 false c)),(32,(.int .i64 g)),(33,(.int .i64 d))],h:=[(300000,⟨false,false,true,b,0,a,false⟩),(300001,⟨false,false,true,false,0,w,false⟩),(300002,⟨false,false,true,false,0,e,false⟩),(300003,⟨false,false,true,false,0,x,false⟩)] }
def Az1 (N:Nat) (F:KF R) (Q1:St→Option R):St→Option R:=Cg (Ft N) [] N (Iw N F [1,1,1,0,1,0,0,1,1,0,0,1,1,1,1,1] [Q1])
def Az2 (N:Nat) (F:KF R) (Q1:St→Option R):St→Option R:=Ck (Ft N) [] N (Iw N F [1,1,1,0,1,0,0,1,1,0,0,1,1,1,1,1] [Q1])
def Ev (f:LA) (j:Nat) (c b:Bool) (a:LA) (o i:Bool) (m g d:Int) (l e:LA):St:={ s:=[(3,(.optr 300000 0)),(4,(.optr 300001 0)),(5,(.optr 300002 0)),(6,(.bool o)),(7,(.bool i)),(8,(.int .i64 m)),(31,(.imm f j 2 false c)),(32,(.int .i64 g)),(33,(.int .i64 d))],h:=[(300000,⟨false,false,true,b,0,a,false⟩),(300001,⟨false,false,true,false,0,l,false⟩),(300002,⟨false,false,true,false,0,e,false⟩)] }
def Az3 (N:Nat) (F:KF R):St→Option R:=Bq (Ft N) [] N (Iw N F [1,1,1,0,1,0] []) N
def Gm (N:Nat) (F:KF R) (n:Nat):St→Option R:=A4 (Ft N) [] N (Iw N F [1,1,1,0,1,0] []) n
def T7 (c:Bool) (p:LA) (b:Bool) (a:LA):St:={ s:=[(2,(.optr 300000 0)),(3,(.optr 300001 0)),(4,(.optr 300002 0)),(5,(.optr 300003 0)),(6,(.bool false)),(7,(.bool false))],h:=[(300000,⟨false,false,true,c,0,p,false⟩),(300001,⟨false,false,true,b,0,a,false⟩),(300002,⟨false,false,true,false,0,[(.bool false),.nsl,.nsl],false⟩),(300003,⟨false,false,true,false,0,[(.bool false),.nsl,.nsl],false⟩)] }
def Az4 (N:Nat) (F:KF R):St→Option R:=Cg (Ft N) [] N (Iw N F [1,1] [])
def Az5 (N:Nat) (F:KF R):St→Option R:=Ck (Ft N) [] N (Iw N F [1,1] [])
theorem Bd1 (N:Nat) (Q1:St→Option R) (F:KF R) (i:Bool) (q r:Int) (f:LA) (j:Nat) (c:Bool) (g d:Int) (b:Bool) (a e:LA):∀ (t:Bool) (u:Int) (w x:LA),Az2 N F Q1 (T6 i q r f j c g d b a e t u w x)=(Mq N (fun o i m g d l e=>Q1 (Ev f j c b a o i m g d l e)) (Db F) i q r f j c g d b a e t u w x):=by
 intro t u w x
 have hK:Az2 N F Q1 (T6 i q r f j c g d b a e t u w x)=(Aa3 N (fun o i m g d l e=>Q1 (Ev f j c b a o i m g d l e)) (Db F) i q r f j c g d b a e t u w x):=by kernel_rfl
 exact hK
theorem Bd2 (N:Nat)  (F:KF R) (f:LA) (j:Nat) (c b:Bool) (a:LA):∀ (n:Nat) (o i:Bool) (m g d:Int) (l e:LA),Gm N F n (Ev f j c b a o i m g d l e)=(D2 N (Db F) f j c b a n o i m g d l e):=by
 intro n
 induction n with
 | zero=>intros;kernel_rfl
 | succ n ih =>
  intro o i m g d l e
  have e0:=funext fun o=>funext fun i=>funext fun m=>funext fun g=>funext fun d=>funext fun l=>funext fun e=>(show Gm N F n (Ev f j c b a o i m g d l e)=_ from ih o i m g d l e)
  have e1:(fun q r t u w x=>Az1 N F (Gm N F n) (T6 i q r f j c g d b a e t u w x))=(fun q r t u w x=>(Mq N (D2 N (Db F) f j c b a n) (Db F) i q r f j c g d b a e t u w x)):=by funext q;funext r;funext t;funext u;funext w;funext x;exact ((Aw ..).trans (Bd1 N (Gm N F n) F i q r f j c g d b a e t u w x)).trans (by rw [e0])
  have hK:Gm N F (n+1) (Ev f j c b a o i m g d l e)=(P7 N (Db F) f j c b a (fun o i m g d l e=>Gm N F n (Ev f j c b a o i m g d l e)) (fun q r t u w x=>Az1 N F (Gm N F n) (T6 i q r f j c g d b a e t u w x)) o i m g d l e):=by kernel_rfl
  exact hK.trans (by rw [e0,e1];rfl)
theorem Bd3 (N:Nat)  (F:KF R) (c:Bool) (p:LA) (b:Bool) (a:LA):Az5 N F (T7 c p b a)=(Ag6 N (Db F) c p b a):=by
 have e1:=funext fun f=>funext fun j=>funext fun o=>funext fun i=>funext fun m=>funext fun g=>funext fun d=>funext fun l=>funext fun e=>(show Az3 N F (Ev f j c b a o i m g d l e)=_ from (Ap ..).trans (Bd2 N F f j c b a N o i m g d l e))
 have hK:Az5 N F (T7 c p b a)=(Aa4 N (Db F) c p b a (fun f j o i m g d l e=>Az3 N F (Ev f j c b a o i m g d l e))):=by kernel_rfl
 exact hK.trans (by rw [e1];rfl)
theorem Ag7 (N:Nat) (p:LA) (c:Bool) (a:LA) (b:Bool) (F:KF R):Ab Tryz.prog muts (Yt N) T5 N 23 [(.pagg p c),(.pagg a b)] [] F=(Aab N p c a b (Db F)):=by
 have e1:=(show Az4 N F (T7 c p b a)=_ from (Aw ..).trans (Bd3 N F c p b a))
 have hK:Ab Tryz.prog muts (Yt N) T5 N 23 [(.pagg p c),(.pagg a b)] [] F=(Ata N (Db F) (Az4 N F (T7 c p b a)) p c a b):=by kernel_rfl
 rw [Av3]
 exact hK.trans (by rw [e1];rfl)
def P8 (N:Nat) (args:List AV) (h:Ak) (k:KF R):Option R :=
 match args,h with
 | [(.pagg p c),(.pagg a b)],[]=>(Aab N p c a b (Db k))
 | _,_=>none
def Az6 (N:Nat):Tw:=⟨P8 N,fun args h k=>by
 unfold P8;split
 exact twE (Ag7 ..) (Ag7 ..)
 rfl⟩
theorem Bs3 (N:Nat):Ax Tryz.prog 23 (Az6 N):=fun args h res ab hh=>by
 change P8 N args h (fun v ab=>some (v,ab))=_ at hh
 unfold P8 at hh;split at hh
 exact Aa (T:=Yt N) ⟨Akh N,As8 N,Ek N,O7 N,trivial⟩ follows ((Ag7 ..).trans hh)
 cases hh
def Akn (N:Nat)  (r0:LA→Option R) (f:LA) (e:Nat) (a:Bool) (k0:Int→Int→LA→Option R)  (c b:Int) (d:LA):Option R :=
 (cond (decide (b<c)) (cond (Aj b e) (rdI .i64 (List.drop ((Int.toNat b)*1) f) fun j=>(k0 c (IntKind.wrap .i64 (b+(1:Int))) (B4i d j))) none) (r0 d))
def W7 (N:Nat)  (r0:LA→Option R) (f:LA) (e:Nat) (a:Bool):Nat→Int→Int→LA→Option R
 | 0,_,_,_=>none
 | n+1,c,b,d=>(Akn N r0 f e a (W7 N r0 f e a n) c b d)
def Bs4 (N:Nat) (r0:LA→Option R) (q0:LA→Nat→Int→Int→LA→Option R) (g:LA) (a:Bool):Option R :=
 (rdL 1 (List.drop 18 g) fun f e=>(q0 f e ((e:Nat):Int) 0 []))
def Bs5 (N:Nat) (g:LA) (a:Bool) (r0:LA→Option R):Option R:=(Bs4 N r0 (fun f e c b d=>(W7 N r0 f e a N c b d)) g a)
def A4a:=(Ai (@Bs5 R)).1
theorem Az7:@A4a R=@Bs5 R:=(Ai _).2
def Atc:Hints:={ H:=(hS (hR [1]) (hS (hR [1,3]) (hS (hS (hR [3,8,9,10]) (hN [3] (hN [3,8,9,10] (hS (hR [3,8,9,10,11]) (hS (hN [3,8,9,10] hL hL) (hS (hN [3,8,9,10] (hS (hR [3,5,8,9,10]) (hR [3,8,9,10])) hL) (hR [3,8,9,10])))) hL) hL)) (hS (hR [2]) hL)))),nils:=[],modes:=[],free:=[],cob:=[] }
def A4b (N:Nat):List (Nat×Tw):=[]
def A4c (N:Nat):Env:=mkE 18 Atc (A4b N)
def B27 (N:Nat) (F:KF R):=Ao (A4c N) Tryz.f117 Atc.modes [] F
def Bs6 (N:Nat) (F:KF R):=atF (A4c N) [] N Tryz.f117 Atc (B27 N F)
def Ag8  (F:KF R):LA→Option R:=(fun l=>F (.omap 300000) [(300000,⟨false,false,true,false,0,l,true⟩)])
def W8 (f:LA) (e:Nat) (a:Bool) (c b:Int) (d:LA):St:={ s:=[(3,(.omap 300000)),(8,(.imm f e 1 false a)),(9,(.int .i64 c)),(10,(.int .i64 b))],h:=[(300000,⟨false,false,true,false,0,d,true⟩)] }
def Bs7 (N:Nat) (F:KF R):St→Option R:=Bq (A4c N) [] N (Bs6 N F [1,1,0,1,0] []) N
def Atd (N:Nat) (F:KF R) (n:Nat):St→Option R:=A4 (A4c N) [] N (Bs6 N F [1,1,0,1,0] []) n
theorem Bv4 (N:Nat)  (F:KF R) (f:LA) (e:Nat) (a:Bool):∀ (n:Nat) (c b:Int) (d:LA),Atd N F n (W8 f e a c b d)=(W7 N (Ag8 F) f e a n c b d):=by
 intro n
 induction n with
 | zero=>intros;kernel_rfl
 | succ n ih =>
  intro c b d
  have e0:=funext fun c=>funext fun b=>funext fun d=>(show Atd N F n (W8 f e a c b d)=_ from ih c b d)
  have hK:Atd N F (n+1) (W8 f e a c b d)=(Akn N (Ag8 F) f e a (fun c b d=>Atd N F n (W8 f e a c b d)) c b d):=by kernel_rfl
  exact hK.trans (by rw [e0];rfl)
theorem Baq (N:Nat) (g:LA) (a:Bool) (F:KF R):Ab Tryz.prog muts (A4b N) Atc N 117 [(.pagg g a)] [] F=(A4a N g a (Ag8 F)):=by
 have e1:=funext fun f=>funext fun e=>funext fun c=>funext fun b=>funext fun d=>(show Bs7 N F (W8 f e a c b d)=_ from (Ap ..).trans (Bv4 N F f e a N c b d))
 have hK:Ab Tryz.prog muts (A4b N) Atc N 117 [(.pagg g a)] [] F=(Bs4 N (Ag8 F) (fun f e c b d=>Bs7 N F (W8 f e a c b d)) g a):=by kernel_rfl
 rw [Az7]
 exact hK.trans (by rw [e1];rfl)
def Ako (N:Nat) (args:List AV) (h:Ak) (k:KF R):Option R :=
 match args,h with
 | [(.pagg g a)],[]=>(A4a N g a (Ag8 k))
 | _,_=>none
def Bs8 (N:Nat):Tw:=⟨Ako N,fun args h k=>by
 unfold Ako;split
 exact twE (Baq ..) (Baq ..)
 rfl⟩
theorem B5p (N:Nat):Ax Tryz.prog 117 (Bs8 N):=fun args h res i hh=>by
 change Ako N args h (fun v i=>some (v,i))=_ at hh
 unfold Ako at hh;split at hh
 exact Aa (T:=A4b N) trivial follows ((Baq ..).trans hh)
 cases hh
def Bd4 (N:Nat) (r0:Int→Int→Option R)  (a:LA) (b:Bool):Option R :=
 (cond (Nat.ble 22 (List.length a)) (Pc N (List.take 22 a) b (fun d=>(cond (!d) (r0 0 0) (rdI .i64 (List.drop 11 a) fun e=>(rdI .i64 (List.drop 15 a) fun f=>(rdI .i64 (List.drop 10 a) fun g=>(r0 (Qp (Qp e (IntKind.wrap .i64 (f+(1:Int)))) (1:Int)) (Qp g (1:Int))))))))) none)
def Bd5 (N:Nat) (a:LA) (b:Bool) (r0:Int→Int→Option R):Option R:=(Bd4 N r0 a b)
def Akp:=(Ai (@Bd5 R)).1
theorem Az8:@Akp R=@Bd5 R:=(Ai _).2
def Bs9:Hints:={ H:=(hS (hR [1]) (hS (hS (hR [1,6]) (hN [1] (hS (hR [2,3]) hL) hL)) (hS (hR [2,3]) hL))),nils:=[],modes:=[],free:=[],cob:=[] }
def Bir (N:Nat):List (Nat×Tw):=[(48,Rs N)]
def Bar  (F:KF R):Int→Int→Option R:=(fun i j=>F (.tup [(.int .i64 i),(.int .i64 j)]) [])
theorem Bas (N:Nat) (a:LA) (b:Bool) (F:KF R):Ab Tryz.prog muts (Bir N) Bs9 N 136 [(.pagg a b)] [] F=(Akp N a b (Bar F)):=by
 have hK:Ab Tryz.prog muts (Bir N) Bs9 N 136 [(.pagg a b)] [] F=(Bd4 N (Bar F) a b):=by kernel_rfl
 rw [Az8]
 exact hK
def Akq (N:Nat) (args:List AV) (h:Ak) (k:KF R):Option R :=
 match args,h with
 | [(.pagg a b)],[]=>(Akp N a b (Bar k))
 | _,_=>none
def Ate (N:Nat):Tw:=⟨Akq N,fun args h k=>by
 unfold Akq;split
 exact twE (Bas ..) (Bas ..)
 rfl⟩
theorem Bat (N:Nat):Ax Tryz.prog 136 (Ate N):=fun args h res c hh=>by
 change Akq N args h (fun v c=>some (v,c))=_ at hh
 unfold Akq at hh;split at hh
 exact Aa (T:=Bir N) ⟨Z7 N,trivial⟩ follows ((Bas ..).trans hh)
 cases hh
def Akr (N:Nat) (r0:LA→Option R)  (a:LA) (b:Bool):Option R :=
 (cond (Nat.ble 22 (List.length a)) (Pc N (List.take 22 a) b (fun f=>(cond (!f) (r0 [(.int .i64 0),(.int .i64 0)]) (cond (Nat.ble 22 (List.length a)) (Akp N (List.take 22 a) b (fun g i=>(rdI .i64 (List.drop 19 a) fun c=>(rdI .i64 (List.drop 20 a) fun d=>(cond (c==(0:Int)) (r0 [(.int .i64 c),(.int .i64 (O0 d g))]) (cond (c==(2:Int)) (r0 [(.int .i64 c),(.int .i64 (O0 d i))]) (r0 [(.int .i64 c),(.int .i64 d)]))))))) none)))) none)
def Aks (N:Nat) (a:LA) (b:Bool) (r0:LA→Option R):Option R:=(Akr N r0 a b)
def Q6:=(Ai (@Aks R)).1
theorem Ag9:@Q6 R=@Aks R:=(Ai _).2
def A6l:Hints:={ H:=(hS (hR [1,2]) (hS (hS (hR [1,2,8]) (hN [1,2] (hS (hR [2]) hL) hL)) (hS (hR [1,2,3,4]) (hS (hR [2,3,4,5]) (hS (hS (hR [2,3,4,5,21]) (hN [2,5] (hS (hR [2,3,4,5,21,22]) (hN [2,5] (hR [2,5]) (hS (hR [2,4,5,29]) (hN [2,5] (hR [2,5]) hL)))) hL)) (hS (hR [2]) hL)))))),nils:=[],modes:=[(3,0)],free:=[],cob:=[] }
def Atf (N:Nat):List (Nat×Tw):=[(48,Rs N),(136,Ate N)]
def Amt  (F:KF R):LA→Option R:=(fun j=>F (.pagg j false) [])
theorem Amu (N:Nat) (a:LA) (b:Bool) (F:KF R):Ab Tryz.prog muts (Atf N) A6l N 84 [(.pagg a b)] [] F=(Q6 N a b (Amt F)):=by
 have hK:Ab Tryz.prog muts (Atf N) A6l N 84 [(.pagg a b)] [] F=(Akr N (Amt F) a b):=by kernel_rfl
 rw [Ag9]
 exact hK
def T8 (N:Nat) (args:List AV) (h:Ak) (k:KF R):Option R :=
 match args,h with
 | [(.pagg a b)],[]=>(Q6 N a b (Amt k))
 | _,_=>none
def Amv (N:Nat):Tw:=⟨T8 N,fun args h k=>by
 unfold T8;split
 exact twE (Amu ..) (Amu ..)
 rfl⟩
theorem A6m (N:Nat):Ax Tryz.prog 84 (Amv N):=fun args h res e hh=>by
 change T8 N args h (fun v e=>some (v,e))=_ at hh
 unfold T8 at hh;split at hh
 exact Aa (T:=Atf N) ⟨Z7 N,Bat N,trivial⟩ follows ((Amu ..).trans hh)
 cases hh
def Aa5 (N:Nat)  (r0:Int→Option R) (e f:Int) (c:Bool) (b:LA) (d:Bool) (a:LA)   (g:Bool):Option R :=
 (cond g (rdI .i64 (List.drop 1 a) fun l=>(r0 (IntKind.wrap .i64 ((IntKind.wrap .i64 (e+l)) - (1:Int))))) (rdI .i64 a fun m=>(cond ((m==(2:Int))==true) (rdI .i64 (List.drop 1 a) fun n=>(cond (cond true (decide (n≤f)) false) (rdI .i64 (List.drop 12 b) fun o=>(rdI .i64 (List.drop 1 a) fun p=>(r0 (IntKind.wrap .i64 ((IntKind.wrap .i64 ((IntKind.wrap .i64 (e+o))+p)) - (1:Int)))))) (r0 (-1)))) (r0 (-1)))))
def Aha (N:Nat)  (r0:Int→Option R) (e f:Int) (c:Bool) (b:LA) (d:Bool) (a:LA) (g:Bool):Option R:=(Aa5 N r0 e f c b d a g)
def Aa6 (N:Nat)  (r0:Int→Option R) (e f:Int) (c:Bool) (b:LA) (d:Bool) (a:LA)  (q2:Bool→Option R) (i:Bool):Option R :=
 (cond i (rdI .i64 (List.drop 1 a) fun q=>(r0 (IntKind.wrap .i64 (q - (1:Int))))) (rdI .i64 a fun r=>(cond ((r==(1:Int))==true) (rdI .i64 (List.drop 1 a) fun t=>(rdI .i64 (List.drop 12 b) fun u=>(q2 (cond true (decide (t≤u)) false)))) (q2 false))))
def Ahb (N:Nat)  (r0:Int→Option R) (e f:Int) (c:Bool) (b:LA) (d:Bool) (a:LA) (i:Bool):Option R:=(Aa6 N r0 e f c b d a (fun g=>(Aha N r0 e f c b d a g)) i)
def P9 (N:Nat)  (r0:Int→Option R) (c:Bool) (b:LA) (d:Bool) (a:LA)  (q1:Int→Int→Bool→Option R) :Option R :=
 (cond (Nat.ble 22 (List.length b)) (Akp N (List.take 22 b) c (fun e f=>(rdI .i64 a fun w=>(cond ((w==(0:Int))==true) (rdI .i64 (List.drop 1 a) fun x=>(q1 e f (cond true (decide (x≤e)) false))) (q1 e f false))))) none)
def T9 (N:Nat)  (r0:Int→Option R) (c:Bool) (b:LA) (d:Bool) (a:LA) :Option R:=(P9 N r0 c b d a (fun e f i=>(Ahb N r0 e f c b d a i)))
def Ac9 (N:Nat) (r0:Int→Option R) (q0:Option R) (b:LA) (c:Bool) (a:LA) (d:Bool):Option R :=
 (cond (Nat.ble 22 (List.length b)) (Pc N (List.take 22 b) c (fun y=>(cond ((!y)==false) (rdI .i64 (List.drop 1 a) fun z=>(cond (cond false true (decide (z<(1:Int)))) (r0 (-1)) q0)) (r0 (-1))))) none)
def Ada (N:Nat) (b:LA) (c:Bool) (a:LA) (d:Bool) (r0:Int→Option R):Option R:=(Ac9 N r0 (T9 N r0 c b d a) b c a d)
def Mr:=(Ai (@Ada R)).1
theorem Aa7:@Mr R=@Ada R:=(Ai _).2
def Ua:Hints:={ H:=(hS (hR [2,3]) (hJ (hS (hR [2,3,14]) (hN [2,3] (hS (hR [4]) hL) hL)) (hS (hR [2,3,5,6]) (hS (hS (hJ (hR [2,3,5,6,20]) (hS (hS (hR [4]) hL) (hJ (hR [2,3,5,6,33]) (hS (hS (hR [4]) hL) (hS (hR [2,3,5,49]) (hS (hS (hR [4]) hL) hL)))))) hL) (hS (hR [4]) hL))))),nils:=[],modes:=[],free:=[],cob:=[] }
def Yu (N:Nat):List (Nat×Tw):=[(48,Rs N),(136,Ate N)]
def Fu (N:Nat):Env:=mkE 67 Ua (Yu N)
def Bnl (N:Nat) (F:KF R):=Ao (Fu N) Tryz.f167 Ua.modes [] F
def Ix (N:Nat) (F:KF R):=atF (Fu N) [] N Tryz.f167 Ua (Bnl N F)
def D3  (F:KF R):Int→Option R:=(fun aa=>F (.int .i64 aa) [])
def Ub (e f:Int) (c:Bool) (b:LA) (d:Bool) (a:LA) (g:Bool):St:={ s:=[(2,(.optr 300000 0)),(3,(.optr 300001 0)),(5,(.int .i64 e)),(6,(.int .i64 f)),(33,(.bool g))],h:=[(300000,⟨false,false,true,c,0,b,false⟩),(300001,⟨false,false,true,d,0,a,false⟩)] }
def Az9 (N:Nat) (F:KF R):St→Option R:=Cg (Fu N) [] N (Ix N F [1,1,1,0,0,1,1,1] [])
def A0a (N:Nat) (F:KF R):St→Option R:=Ck (Fu N) [] N (Ix N F [1,1,1,0,0,1,1,1] [])
def Uc (e f:Int) (c:Bool) (b:LA) (d:Bool) (a:LA) (i:Bool):St:={ s:=[(2,(.optr 300000 0)),(3,(.optr 300001 0)),(5,(.int .i64 e)),(6,(.int .i64 f)),(20,(.bool i))],h:=[(300000,⟨false,false,true,c,0,b,false⟩),(300001,⟨false,false,true,d,0,a,false⟩)] }
def A0b (N:Nat) (F:KF R):St→Option R:=Cg (Fu N) [] N (Ix N F [1,1,1,0,0,1] [])
def A0c (N:Nat) (F:KF R):St→Option R:=Ck (Fu N) [] N (Ix N F [1,1,1,0,0,1] [])
def Ud (c:Bool) (b:LA) (d:Bool) (a:LA):St:={ s:=[(2,(.optr 300000 0)),(3,(.optr 300001 0))],h:=[(300000,⟨false,false,true,c,0,b,false⟩),(300001,⟨false,false,true,d,0,a,false⟩)] }
def A0d (N:Nat) (F:KF R):St→Option R:=Cg (Fu N) [] N (Ix N F [1,1] [])
def A0e (N:Nat) (F:KF R):St→Option R:=Ck (Fu N) [] N (Ix N F [1,1] [])
theorem Bd6 (N:Nat)  (F:KF R) (e f:Int) (c:Bool) (b:LA) (d:Bool) (a:LA):∀ (g:Bool),A0a N F (Ub e f c b d a g)=(Aha N (D3 F) e f c b d a g):=by
 intro g
 have hK:A0a N F (Ub e f c b d a g)=(Aa5 N (D3 F) e f c b d a g):=by kernel_rfl
 exact hK
theorem Bd7 (N:Nat)  (F:KF R) (e f:Int) (c:Bool) (b:LA) (d:Bool) (a:LA):∀ (i:Bool),A0c N F (Uc e f c b d a i)=(Ahb N (D3 F) e f c b d a i):=by
 intro i
 have e1:=funext fun g=>(show Az9 N F (Ub e f c b d a g)=_ from (Aw ..).trans (Bd6 N F e f c b d a g))
 have hK:A0c N F (Uc e f c b d a i)=(Aa6 N (D3 F) e f c b d a (fun g=>Az9 N F (Ub e f c b d a g)) i):=by kernel_rfl
 exact hK.trans (by rw [e1];rfl)
theorem Bd8 (N:Nat)  (F:KF R) (c:Bool) (b:LA) (d:Bool) (a:LA):A0e N F (Ud c b d a)=(T9 N (D3 F) c b d a):=by
 have e1:=funext fun e=>funext fun f=>funext fun i=>(show A0b N F (Uc e f c b d a i)=_ from (Aw ..).trans (Bd7 N F e f c b d a i))
 have hK:A0e N F (Ud c b d a)=(P9 N (D3 F) c b d a (fun e f i=>A0b N F (Uc e f c b d a i))):=by kernel_rfl
 exact hK.trans (by rw [e1];rfl)
theorem Ahc (N:Nat) (b:LA) (c:Bool) (a:LA) (d:Bool) (F:KF R):Ab Tryz.prog muts (Yu N) Ua N 167 [(.pagg b c),(.pagg a d)] [] F=(Mr N b c a d (D3 F)):=by
 have e1:=(show A0d N F (Ud c b d a)=_ from (Aw ..).trans (Bd8 N F c b d a))
 have hK:Ab Tryz.prog muts (Yu N) Ua N 167 [(.pagg b c),(.pagg a d)] [] F=(Ac9 N (D3 F) (A0d N F (Ud c b d a)) b c a d):=by kernel_rfl
 rw [Aa7]
 exact hK.trans (by rw [e1];rfl)
def Qa (N:Nat) (args:List AV) (h:Ak) (k:KF R):Option R :=
 match args,h with
 | [(.pagg b c),(.pagg a d)],[]=>(Mr N b c a d (D3 k))
 | _,_=>none
def A0f (N:Nat):Tw:=⟨Qa N,fun args h k=>by
 unfold Qa;split
 exact twE (Ahc ..) (Ahc ..)
 rfl⟩
theorem Bta (N:Nat):Ax Tryz.prog 167 (A0f N):=fun args h res j hh=>by
 change Qa N args h (fun v j=>some (v,j))=_ at hh
 unfold Qa at hh;split at hh
 exact Aa (T:=Yu N) ⟨Z7 N,Bat N,trivial⟩ follows ((Ahc ..).trans hh)
 cases hh
def A0g (N:Nat)  (r0:LA→Nat→Option R) (c:Bool) (b:LA) (d:Bool) (a:LA)   (f:Bool) (e:LA):Option R :=
 (cond f (r0 (List.take 4 ((List.take 2 e)++[(.int .i64 1),(.int .i64 1)])) 2) (rdI .i64 (List.drop 1 a) fun n=>(rdI .i64 (List.drop 11 b) fun o=>(cond (decide (n≥o)) (r0 (List.take 4 ((List.take 2 e)++[(.int .i64 2),(.int .i64 1)])) 2) (r0 (List.take 2 e) 1)))))
def Bau (N:Nat)  (r0:LA→Nat→Option R) (c:Bool) (b:LA) (d:Bool) (a:LA) (f:Bool) (e:LA):Option R:=(A0g N r0 c b d a f e)
def Bd9 (N:Nat) (r0:LA→Nat→Option R) (q0:Bool→LA→Option R) (b:LA) (c:Bool) (a:LA) (d:Bool):Option R :=
 (cond (Nat.ble 22 (List.length b)) (cond (Nat.ble 2 (List.length a)) (cond ((!d)||(Bm (List.take 2 a))) (Mr N (List.take 22 b) c (List.take 2 a) false (fun p=>(cond (decide (p<(0:Int))) (r0 [] 0) (cond (Nat.ble 22 (List.length b)) (Akp N (List.take 22 b) c (fun i j=>(rdI .i64 a fun g=>(cond (g==(0:Int)) (rdI .i64 (List.drop 1 a) fun l=>(rdI .i64 (List.drop 1 a) fun q=>(rdI .i64 (List.drop 11 b) fun r=>(cond ((decide (q≥r))==true) (rdI .i64 (List.drop 12 b) fun t=>(q0 (cond true (decide (t>(0:Int))) false) [(.int .i64 0),(.int .i64 (O0 (IntKind.wrap .i64 (l+(1:Int))) i))])) (q0 false [(.int .i64 0),(.int .i64 (O0 (IntKind.wrap .i64 (l+(1:Int))) i))]))))) (cond (g==(1:Int)) (rdI .i64 (List.drop 1 a) fun u=>(rdI .i64 (List.drop 12 b) fun w=>(cond (decide (u<w)) (rdI .i64 (List.drop 1 a) fun x=>(r0 [(.int .i64 1),(.int .i64 (IntKind.wrap .i64 (x+(1:Int))))] 1)) (r0 [(.int .i64 2),(.int .i64 1)] 1)))) (cond (g==(2:Int)) (rdI .i64 (List.drop 1 a) fun y=>(rdI .i64 (List.drop 10 b) fun z=>(cond (decide (y≥z)) (rdI .i64 (List.drop 1 a) fun aa=>(r0 [(.int .i64 0),(.int .i64 1),(.int .i64 2),(.int .i64 (O0 (IntKind.wrap .i64 (aa+(1:Int))) j))] 2)) (rdI .i64 (List.drop 1 a) fun ab=>(r0 [(.int .i64 2),(.int .i64 (O0 (IntKind.wrap .i64 (ab+(1:Int))) j))] 1))))) (r0 [] 0))))))) none)))) none) none) none)
def Bea (N:Nat) (b:LA) (c:Bool) (a:LA) (d:Bool) (r0:LA→Nat→Option R):Option R:=(Bd9 N r0 (fun f e=>(Bau N r0 c b d a f e)) b c a d)
def Yv:=(Ai (@Bea R)).1
theorem A0h:@Yv R=@Bea R:=(Ai _).2
def Atg:Hints:={ H:=(hS (hR [2,3]) (hS (hS (hR [2,3,11]) (hN [2,3] (hS (hR [4]) hL) hL)) (hS (hR [2,3,5,6]) (hS (hR [2,3,5,6,7]) (hS (hS (hR [2,3,5,6,7,18]) (hN [7] (hS (hR [2,3,5,6,7,18,19]) (hN [7] (hS (hR [2,3,7]) (hJ (hR [2,3,7,39]) (hN [7] (hR [7]) (hS (hR [7,48]) (hN [7] (hR [7]) hL))))) (hS (hR [2,3,6,7,18,53]) (hN [7] (hS (hR [3,7,59]) (hN [7] (hR [7]) (hR [7]))) (hS (hR [2,3,6,7,71]) (hN [7] (hS (hS (hR [3,6,7,77]) (hN [3,6,7] (hR [3,6,7]) hL)) (hR [7])) hL)))))) hL)) (hS (hR [4]) hL)))))),nils:=[(4,2),(7,2)],modes:=[(1,2)],free:=[],cob:=[] }
def A4d (N:Nat):List (Nat×Tw):=[(167,A0f N),(136,Ate N)]
def A4e (N:Nat):Env:=mkE 92 Atg (A4d N)
def B28 (N:Nat) (F:KF R):=Ao (A4e N) Tryz.f118 Atg.modes [] F
def Btb (N:Nat) (F:KF R):=atF (A4e N) [] N Tryz.f118 Atg (B28 N F)
def Ahd  (F:KF R):LA→Nat→Option R:=(fun ac ad=>F (.imm ac ad 2 false false) [])
def Ath (c:Bool) (b:LA) (d:Bool) (a:LA) (f:Bool) (e:LA):St:={ s:=[(2,(.optr 300000 0)),(3,(.optr 300001 0)),(7,(.own 464 0 1)),(39,(.bool f))],h:=[(464,⟨false,false,true,false,2,e,false⟩),(300000,⟨false,false,true,c,0,b,false⟩),(300001,⟨false,false,true,d,0,a,false⟩)] }
def Btc (N:Nat) (F:KF R):St→Option R:=Cg (A4e N) [] N (Btb N F [1,1,1,1,0,1,0,1,0,1,1] [])
def Btd (N:Nat) (F:KF R):St→Option R:=Ck (A4e N) [] N (Btb N F [1,1,1,1,0,1,0,1,0,1,1] [])
theorem Bv5 (N:Nat)  (F:KF R) (c:Bool) (b:LA) (d:Bool) (a:LA):∀ (f:Bool) (e:LA),Btd N F (Ath c b d a f e)=(Bau N (Ahd F) c b d a f e):=by
 intro f e
 have hK:Btd N F (Ath c b d a f e)=(A0g N (Ahd F) c b d a f e):=by kernel_rfl
 exact hK
theorem Bav (N:Nat) (b:LA) (c:Bool) (a:LA) (d:Bool) (F:KF R):Ab Tryz.prog muts (A4d N) Atg N 118 [(.pagg b c),(.pagg a d)] [] F=(Yv N b c a d (Ahd F)):=by
 have e1:=funext fun f=>funext fun e=>(show Btc N F (Ath c b d a f e)=_ from (Aw ..).trans (Bv5 N F c b d a f e))
 have hK:Ab Tryz.prog muts (A4d N) Atg N 118 [(.pagg b c),(.pagg a d)] [] F=(Bd9 N (Ahd F) (fun f e=>Btc N F (Ath c b d a f e)) b c a d):=by kernel_rfl
 rw [A0h]
 exact hK.trans (by rw [e1];rfl)
def Akt (N:Nat) (args:List AV) (h:Ak) (k:KF R):Option R :=
 match args,h with
 | [(.pagg b c),(.pagg a d)],[]=>(Yv N b c a d (Ahd k))
 | _,_=>none
def Baw (N:Nat):Tw:=⟨Akt N,fun args h k=>by
 unfold Akt;split
 exact twE (Bav ..) (Bav ..)
 rfl⟩
theorem Bte (N:Nat):Ax Tryz.prog 118 (Baw N):=fun args h res m hh=>by
 change Akt N args h (fun v m=>some (v,m))=_ at hh
 unfold Akt at hh;split at hh
 exact Aa (T:=A4d N) ⟨Bta N,Bat N,trivial⟩ follows ((Bav ..).trans hh)
 cases hh
def Bma (N:Nat) (r0:Bool→Option R)  (b:LA) (c:Bool) (a:Int):Option R :=
 (rdI .i64 b fun e=>(r0 (e==a)))
def Bmb (N:Nat) (b:LA) (c:Bool) (a:Int) (r0:Bool→Option R):Option R:=(Bma N r0 b c a)
def Jz:=(Ai (@Bmb R)).1
theorem Ahe:@Jz R=@Bmb R:=(Ai _).2
def A6n:Hints:={ H:=(hS (hR [1,2]) (hS (hR [3]) hL)),nils:=[],modes:=[],free:=[],cob:=[] }
def Ati (N:Nat):List (Nat×Tw):=[]
def Amw (a:Int) (F:KF R):Bool→Option R:=(fun f=>F (.bool f) [(100000,⟨false,false,false,false,0,[(.int .i64 a)],false⟩)])
theorem Amx (N:Nat) (b:LA) (c:Bool) (a:Int) (F:KF R):Ab Tryz.prog muts (Ati N) A6n N 120 [(.pagg b c),(.optr 100000 0)] [(100000,⟨false,false,false,false,0,[(.int .i64 a)],false⟩)] F=(Jz N b c a (Amw a F)):=by
 have hK:Ab Tryz.prog muts (Ati N) A6n N 120 [(.pagg b c),(.optr 100000 0)] [(100000,⟨false,false,false,false,0,[(.int .i64 a)],false⟩)] F=(Bma N (Amw a F) b c a):=by kernel_rfl
 rw [Ahe]
 exact hK
def Ue (N:Nat) (args:List AV) (h:Ak) (k:KF R):Option R :=
 match args,h with
 | [(.pagg b c),(.optr 100000 0)],[(100000,⟨false,false,false,false,0,[(.int .i64 a)],false⟩)]=>(Jz N b c a (Amw a k))
 | _,_=>none
def A6o (N:Nat):Tw:=⟨Ue N,fun args h k=>by
 unfold Ue;split
 exact twE (Amx ..) (Amx ..)
 rfl⟩
theorem Bv6 (N:Nat):Ax Tryz.prog 120 (A6o N):=fun args h res d hh=>by
 change Ue N args h (fun v d=>some (v,d))=_ at hh
 unfold Ue at hh;split at hh
 exact Aa (T:=Ati N) trivial follows ((Amx ..).trans hh)
 cases hh
end
end Gx

namespace Gx
open Go Go.Proofs
set_option maxRecDepth 100000
noncomputable section
variable {R:Type}
def Bb (N:Nat)  (r0:Int→Option R) (b:LA) (d:Nat) (f e:Bool) (a:Int) (k0:Int→Int→Option R)  (g c:Int):Option R :=
 (cond (decide (c<g)) (cond (Aj c d) (cond (Nat.ble 2 (List.length (List.drop ((Int.toNat c)*2) b))) (cond ((!e)||(Bm (List.take 2 (List.drop ((Int.toNat c)*2) b)))) (Jz N (List.take 2 (List.drop ((Int.toNat c)*2) b)) false a (fun j=>(cond j (r0 c) (k0 g (IntKind.wrap .i64 (c+(1:Int))))))) none) none) none) (r0 (-1)))
def At (N:Nat)  (r0:Int→Option R) (b:LA) (d:Nat) (f e:Bool) (a:Int):Nat→Int→Int→Option R
 | 0,_,_=>none
 | n+1,g,c=>(Bb N r0 b d f e a (At N r0 b d f e a n) g c)
def Ci (N:Nat) (r0:Int→Option R) (q0:Int→Int→Option R) (b:LA) (d:Nat) (f e:Bool) (a:Int):Option R :=
 (q0 ((d:Nat):Int) 0)
def Cj (N:Nat) (b:LA) (d:Nat) (f e:Bool) (a:Int) (r0:Int→Option R):Option R:=(Ci N r0 (fun g c=>(At N r0 b d f e a N g c)) b d f e a)
def Am:=(Ai (@Cj R)).1
theorem Bc:@Am R=@Cj R:=(Ai _).2
def Bg:Hints:={ H:=(hS (hR [0,1]) (hS (hS (hR [0,1,7,8]) (hS (hN [0,1,7,8] (hS (hR [0,1,7,8,9]) (hS (hN [0,1,7,8] hL hL) (hS (hN [0,1,7,8] (hS (hR [0,1,5,7,8]) (hS (hR [0,1,5,7,8,16]) (hN [0,1,7,8] (hS (hR [4]) hL) hL))) hL) (hR [0,1,7,8])))) hL) hL)) (hS (hR [4]) hL))),nils:=[],modes:=[],free:=[],cob:=[] }
def Bk (N:Nat):List (Nat×Tw):=[(120,A6o N)]
def Bl (N:Nat):Env:=mkE 19 Bg (Bk N)
def Gu (N:Nat) (F:KF R):=Ao (Bl N) Tryz.f119 Bg.modes [100000] F
def Df (N:Nat) (F:KF R):=atF (Bl N) [100000] N Tryz.f119 Bg (Gu N F)
def A2 (a:Int) (F:KF R):Int→Option R:=(fun l=>F (.int .i64 l) [(100000,⟨false,false,false,false,0,[(.int .i64 a)],false⟩)])
def Au (b:LA) (d:Nat) (f e:Bool) (a g c:Int):St:={ s:=[(0,(.imm b d 2 f e)),(1,(.fn 120 [(.optr 100000 0)])),(7,(.int .i64 g)),(8,(.int .i64 c))],h:=[(100000,⟨false,false,false,false,0,[(.int .i64 a)],false⟩)] }
def Dg (N:Nat) (F:KF R):St→Option R:=Bq (Bl N) [100000] N (Df N F [1,0,1,0] []) N
def Bh (N:Nat) (F:KF R) (n:Nat):St→Option R:=A4 (Bl N) [100000] N (Df N F [1,0,1,0] []) n
theorem F6 (N:Nat)  (F:KF R) (b:LA) (d:Nat) (f e:Bool) (a:Int):∀ (n:Nat) (g c:Int),Bh N F n (Au b d f e a g c)=(At N (A2 a F) b d f e a n g c):=by
 intro n
 induction n with
 | zero=>intros;kernel_rfl
 | succ n ih =>
  intro g c
  have e0:=funext fun g=>funext fun c=>(show Bh N F n (Au b d f e a g c)=_ from ih g c)
  have hK:Bh N F (n+1) (Au b d f e a g c)=(Bb N (A2 a F) b d f e a (fun g c=>Bh N F n (Au b d f e a g c)) g c):=by kernel_rfl
  exact hK.trans (by rw [e0];rfl)
theorem Cd (N:Nat) (b:LA) (d:Nat) (f e:Bool) (a:Int) (F:KF R):Ab Tryz.prog muts (Bk N) Bg N 119 [(.imm b d 2 f e),(.fn 120 [(.optr 100000 0)])] [(100000,⟨false,false,false,false,0,[(.int .i64 a)],false⟩)] F=(Am N b d f e a (A2 a F)):=by
 have e1:=funext fun g=>funext fun c=>(show Dg N F (Au b d f e a g c)=_ from (Ap ..).trans (F6 N F b d f e a N g c))
 have hK:Ab Tryz.prog muts (Bk N) Bg N 119 [(.imm b d 2 f e),(.fn 120 [(.optr 100000 0)])] [(100000,⟨false,false,false,false,0,[(.int .i64 a)],false⟩)] F=(Ci N (A2 a F) (fun g c=>Dg N F (Au b d f e a g c)) b d f e a):=by kernel_rfl
 rw [Bc]
 exact hK.trans (by rw [e1];rfl)
def Bd (N:Nat) (args:List AV) (h:Ak) (k:KF R):Option R :=
 match args,h with
 | [(.imm b d 2 f e),(.fn 120 [(.optr 100000 0)])],[(100000,⟨false,false,false,false,0,[(.int .i64 a)],false⟩)]=>(Am N b d f e a (A2 a k))
 | _,_=>none
def Dh (N:Nat):Tw:=⟨Bd N,fun args h k=>by
 unfold Bd;split
 exact twE (Cd ..) (Cd ..)
 rfl⟩
theorem Gz (N:Nat):Ax Tryz.prog 119 (Dh N):=fun args h res i hh=>by
 change Bd N args h (fun v i=>some (v,i))=_ at hh
 unfold Bd at hh;split at hh
 exact Aa (T:=Bk N) ⟨Bv6 N,trivial⟩ follows ((Cd ..).trans hh)
 cases hh
def Aku (N:Nat)  (r0:Nat→Int→Int→LA→Option R) (g:LA) (c:Nat) (i j e:Bool) (a o:LA) (k0:Nat→Int→Int→LA→LA→Option R)  (d:Nat) (l f:Int) (m b:LA):Option R :=
 (cond (decide (f<l)) (cond (Aj f c) (rdI .i64 (List.drop ((Int.toNat f)*1) g) fun t=>(cond (Nat.ble 22 (List.length a)) (cond (Nat.ble 2 (List.length b)) (Yv N (List.take 22 a) e (List.take 2 b) false (fun q r=>(Am N q r false false t (fun p=>(cond ((decide (p<(0:Int)))==false) (cond ((t != (0:Int))==true) (cond (cond false true (cond true (Bbx o f) false)) (r0 0 f 16 []) (cond (Aj p r) (cond (Nat.ble 2 (List.length (List.drop ((Int.toNat p)*2) q))) (cond ((Nat.beq (List.length (List.take 2 (List.drop ((Int.toNat p)*2) q))) 2)&&((Nat.ble 2 (List.length b))&&(!false))) (cond (Nat.ble 2 (List.length (setCells b 0 (List.take 2 (List.drop ((Int.toNat p)*2) q))))) (cond ((Nat.beq (List.length (List.take 2 (setCells b 0 (List.take 2 (List.drop ((Int.toNat p)*2) q))))) 2)&&(Nat.ble 2 2)) (cond ((Nat.ble (d+1) 140737488355328)&&(Nat.ble ((d+1)*16) 140737488355328)) (k0 (d+1) l (IntKind.wrap .i64 (f+(1:Int))) ((List.take (d*2) m)++(List.take 2 (setCells [(.int .i64 0),(.int .i64 0)] 0 (List.take 2 (setCells b 0 (List.take 2 (List.drop ((Int.toNat p)*2) q))))))) (setCells b 0 (List.take 2 (List.drop ((Int.toNat p)*2) q)))) none) none) none) none) none) none)) (cond (Aj p r) (cond (Nat.ble 2 (List.length (List.drop ((Int.toNat p)*2) q))) (cond ((Nat.beq (List.length (List.take 2 (List.drop ((Int.toNat p)*2) q))) 2)&&((Nat.ble 2 (List.length b))&&(!false))) (cond (Nat.ble 2 (List.length (setCells b 0 (List.take 2 (List.drop ((Int.toNat p)*2) q))))) (cond ((Nat.beq (List.length (List.take 2 (setCells b 0 (List.take 2 (List.drop ((Int.toNat p)*2) q))))) 2)&&(Nat.ble 2 2)) (cond ((Nat.ble (d+1) 140737488355328)&&(Nat.ble ((d+1)*16) 140737488355328)) (k0 (d+1) l (IntKind.wrap .i64 (f+(1:Int))) ((List.take (d*2) m)++(List.take 2 (setCells [(.int .i64 0),(.int .i64 0)] 0 (List.take 2 (setCells b 0 (List.take 2 (List.drop ((Int.toNat p)*2) q))))))) (setCells b 0 (List.take 2 (List.drop ((Int.toNat p)*2) q)))) none) none) none) none) none) none)) (r0 0 f 16 [])))))) none) none)) none) (r0 d ((c:Nat):Int) 0 m))
def Q7 (N:Nat)  (r0:Nat→Int→Int→LA→Option R) (g:LA) (c:Nat) (i j e:Bool) (a o:LA):Nat→Nat→Int→Int→LA→LA→Option R
 | 0,_,_,_,_,_=>none
 | n+1,d,l,f,m,b=>(Aku N r0 g c i j e a o (Q7 N r0 g c i j e a o n) d l f m b)
def Beb (N:Nat) (r0:Nat→Int→Int→LA→Option R) (q0:LA→Nat→Int→Int→LA→LA→Option R) (a:LA) (e:Bool) (g:LA) (c:Nat) (i j:Bool):Option R :=
 (cond (Nat.ble 22 (List.length a)) (Pc N (List.take 22 a) e (fun x=>(cond (!x) (r0 0 0 1 []) (cond (Nat.ble 22 (List.length a)) (A4a N (List.take 22 a) e (fun o=>(cond ((decide ((0:Int)≤(0:Int)))&&((decide ((0:Int)≤((c:Nat):Int)))&&((decide (((c:Nat):Int)≤(140737488355328:Int)))&&(decide ((((c:Nat):Int)*((16:Nat):Int))≤(140737488355328:Int)))))) (cond (Nat.ble 22 (List.length a)) (Q6 N (List.take 22 a) e (fun u=>(cond ((Nat.beq (List.length u) 2)&&((Nat.ble 2 2)&&(!false))) (q0 o 0 ((c:Nat):Int) 0 [] (setCells [(.int .i64 0),(.int .i64 0)] 0 u)) none))) none) none))) none)))) none)
def Bec (N:Nat) (a:LA) (e:Bool) (g:LA) (c:Nat) (i j:Bool) (r0:Nat→Int→Int→LA→Option R):Option R:=(Beb N r0 (fun o d l f m b=>(Q7 N r0 g c i j e a o N d l f m b)) a e g c i j)
def Akv:=(Ai (@Bec R)).1
theorem A0i:@Akv R=@Bec R:=(Ai _).2
def Atj:Hints:={ H:=(hS (hR [1,2]) (hS (hS (hR [1,2,16]) (hN [1,2] (hS (hR [4,5,6]) hL) hL)) (hS (hR [1,2,7]) (hS (hR [1,2,7,8]) (hS (hR [1,2,7,8,9]) (hS (hS (hR [1,2,7,8,9,24,25,26]) (hN [1,8] (hN [1,2,7,8,9,24,25,26] (hS (hR [1,2,7,8,9,24,25,26,27]) (hS (hN [1,2,7,8,9,24,25,26] hL hL) (hS (hN [1,2,7,8,9,24,25,26] (hS (hR [1,2,7,8,9,10,11,24,25,26]) (hS (hR [1,2,7,8,9,10,11,12,24,25,26]) (hS (hR [1,2,7,8,9,10,11,12,13,24,25,26]) (hS (hS (hR [1,2,7,8,9,10,12,13,24,25,26,47]) (hN [1,2,7,8,9,12,13,24,25,26] (hS (hR [4,5,6]) hL) hL)) (hS (hR [1,2,7,8,9,24,25,26]) (hR [1,2,7,8,9,24,25,26])))))) hL) (hR [1,2,7,8,9,24,25,26])))) hL) hL)) (hS (hR [4,5,6]) hL))))))),nils:=[(4,2)],modes:=[(2,2),(0,0),(0,0)],free:=[],cob:=[] }
def A4f (N:Nat):List (Nat×Tw):=[(48,Rs N),(117,Bs8 N),(84,Amv N),(118,Baw N),(119,Dh N)]
def A4g (N:Nat):Env:=mkE 61 Atj (A4f N)
def B29 (N:Nat) (F:KF R):=Ao (A4g N) Tryz.f64 Atj.modes [] F
def Btf (N:Nat) (F:KF R):=atF (A4g N) [] N Tryz.f64 Atj (B29 N F)
def Ahf  (F:KF R):Nat→Int→Int→LA→Option R:=(fun y z aa ab=>F (.tup [(.own 300000 0 y),(.int .i64 z),(.int .i64 aa)]) [(300000,⟨false,false,true,false,2,ab,false⟩)])
def W9 (g:LA) (c:Nat) (i j e:Bool) (a o:LA) (d:Nat) (l f:Int) (m b:LA):St:={ s:=[(1,(.imm g c 1 i j)),(2,(.optr 300000 0)),(7,(.omap 300001)),(8,(.own 300002 0 d)),(9,(.optr 300003 0)),(24,(.imm g c 1 i j)),(25,(.int .i64 l)),(26,(.int .i64 f))],h:=[(300000,⟨false,false,true,e,0,a,false⟩),(300001,⟨false,false,true,false,0,o,true⟩),(300002,⟨false,false,true,false,2,m,false⟩),(300003,⟨false,false,true,false,0,b,false⟩)] }
def Btg (N:Nat) (F:KF R):St→Option R:=Bq (A4g N) [] N (Btf N F [1,1,1,1,1,0,1,0] []) N
def Atk (N:Nat) (F:KF R) (n:Nat):St→Option R:=A4 (A4g N) [] N (Btf N F [1,1,1,1,1,0,1,0] []) n
theorem Bv7 (N:Nat)  (F:KF R) (g:LA) (c:Nat) (i j e:Bool) (a o:LA):∀ (n d:Nat) (l f:Int) (m b:LA),Atk N F n (W9 g c i j e a o d l f m b)=(Q7 N (Ahf F) g c i j e a o n d l f m b):=by
 intro n
 induction n with
 | zero=>intros;kernel_rfl
 | succ n ih =>
  intro d l f m b
  have e0:=funext fun d=>funext fun l=>funext fun f=>funext fun m=>funext fun b=>(show Atk N F n (W9 g c i j e a o d l f m b)=_ from ih d l f m b)
  have hK:Atk N F (n+1) (W9 g c i j e a o d l f m b)=(Aku N (Ahf F) g c i j e a o (fun d l f m b=>Atk N F n (W9 g c i j e a o d l f m b)) d l f m b):=by kernel_rfl
  exact hK.trans (by rw [e0];rfl)
theorem Bax (N:Nat) (a:LA) (e:Bool) (g:LA) (c:Nat) (i j:Bool) (F:KF R):Ab Tryz.prog muts (A4f N) Atj N 64 [(.pagg a e),(.imm g c 1 i j)] [] F=(Akv N a e g c i j (Ahf F)):=by
 have e1:=funext fun o=>funext fun d=>funext fun l=>funext fun f=>funext fun m=>funext fun b=>(show Btg N F (W9 g c i j e a o d l f m b)=_ from (Ap ..).trans (Bv7 N F g c i j e a o N d l f m b))
 have hK:Ab Tryz.prog muts (A4f N) Atj N 64 [(.pagg a e),(.imm g c 1 i j)] [] F=(Beb N (Ahf F) (fun o d l f m b=>Btg N F (W9 g c i j e a o d l f m b)) a e g c i j):=by kernel_rfl
 rw [A0i]
 exact hK.trans (by rw [e1];rfl)
def Akw (N:Nat) (args:List AV) (h:Ak) (k:KF R):Option R :=
 match args,h with
 | [(.pagg a e),(.imm g c 1 i j)],[]=>(Akv N a e g c i j (Ahf k))
 | _,_=>none
def Atl (N:Nat):Tw:=⟨Akw N,fun args h k=>by
 unfold Akw;split
 exact twE (Bax ..) (Bax ..)
 rfl⟩
theorem Bay (N:Nat):Ax Tryz.prog 64 (Atl N):=fun args h res w hh=>by
 change Akw N args h (fun v w=>some (v,w))=_ at hh
 unfold Akw at hh;split at hh
 exact Aa (T:=A4f N) ⟨Z7 N,B5p N,A6m N,Bte N,Gz N,trivial⟩ follows ((Bax ..).trans hh)
 cases hh
def A0j (N:Nat) (k0:Nat→Bool→Int→LA→LA→Option R) (r0:Nat→LA→Option R) (f:LA) (g:Nat) (i j:Bool) (d:Nat) (c:Int) (l:Bool) (b a e:LA)   (m:Int) (q:Bool) (r:Int) (t:Bool):Option R :=
 (cond t (rdI .i64 (List.drop 2 b) fun u=>(rdI .i64 e fun w=>(rdI .i64 (List.drop 7 b) fun x=>(rdI .i64 (List.drop 3 b) fun y=>(rdI .i64 (List.drop 1 e) fun z=>(rdI .i64 (List.drop 6 b) fun aa=>(cond (Aj m d) (cond ((Nat.beq 2 2)&&((Nat.ble ((0+((Int.toNat m)*2))+2) (List.length a))&&(!false))) (cond (Aj m d) (cond (Nat.ble 2 (List.length (List.drop (0+((Int.toNat m)*2)) (E5 a (0+((Int.toNat m)*2)) [(.int .i64 (Qp u (IntKind.wrap .i64 (w - x)))),(.int .i64 (O0 y (IntKind.wrap .i64 (z+aa))))])))) (cond ((Nat.beq (List.length (List.take 2 (List.drop (0+((Int.toNat m)*2)) (E5 a (0+((Int.toNat m)*2)) [(.int .i64 (Qp u (IntKind.wrap .i64 (w - x)))),(.int .i64 (O0 y (IntKind.wrap .i64 (z+aa))))])))) 2)&&((Nat.ble 2 (List.length e))&&(!false))) (k0 d q (IntKind.wrap .i64 (r+(1:Int))) (E5 a (0+((Int.toNat m)*2)) [(.int .i64 (Qp u (IntKind.wrap .i64 (w - x)))),(.int .i64 (O0 y (IntKind.wrap .i64 (z+aa))))]) (setCells e 0 (List.take 2 (List.drop (0+((Int.toNat m)*2)) (E5 a (0+((Int.toNat m)*2)) [(.int .i64 (Qp u (IntKind.wrap .i64 (w - x)))),(.int .i64 (O0 y (IntKind.wrap .i64 (z+aa))))]))))) none) none) none) none) none))))))) (cond q (rdI .i64 (List.drop 2 b) fun ab=>(rdI .i64 (List.drop 8 b) fun ac=>(cond (Aj m d) (cond ((Nat.beq 2 2)&&((Nat.ble ((0+((Int.toNat m)*2))+2) (List.length a))&&(!false))) (cond (Aj m d) (cond (Nat.ble 2 (List.length (List.drop (0+((Int.toNat m)*2)) (E5 a (0+((Int.toNat m)*2)) [(.int .i64 ab),(.int .i64 ac)])))) (cond ((Nat.beq (List.length (List.take 2 (List.drop (0+((Int.toNat m)*2)) (E5 a (0+((Int.toNat m)*2)) [(.int .i64 ab),(.int .i64 ac)])))) 2)&&((Nat.ble 2 (List.length e))&&(!false))) (k0 d q (IntKind.wrap .i64 (r+(1:Int))) (E5 a (0+((Int.toNat m)*2)) [(.int .i64 ab),(.int .i64 ac)]) (setCells e 0 (List.take 2 (List.drop (0+((Int.toNat m)*2)) (E5 a (0+((Int.toNat m)*2)) [(.int .i64 ab),(.int .i64 ac)]))))) none) none) none) none) none))) (cond (Aj m d) (cond (Nat.ble 2 (List.length (List.drop (0+((Int.toNat m)*2)) a))) (cond ((Nat.beq (List.length (List.take 2 (List.drop (0+((Int.toNat m)*2)) a))) 2)&&((Nat.ble 2 (List.length e))&&(!false))) (k0 d q (IntKind.wrap .i64 (r+(1:Int))) a (setCells e 0 (List.take 2 (List.drop (0+((Int.toNat m)*2)) a)))) none) none) none)))
def Amy (N:Nat) (k0:Nat→Bool→Int→LA→LA→Option R) (r0:Nat→LA→Option R) (f:LA) (g:Nat) (i j:Bool) (d:Nat) (c:Int) (l:Bool) (b a e:LA) (m:Int) (q:Bool) (r:Int) (t:Bool):Option R:=(A0j N k0 r0 f g i j d c l b a e m q r t)
def A0k (N:Nat)  (r0:Nat→LA→Option R) (f:LA) (g:Nat) (i j:Bool) (c:Int) (l:Bool) (b:LA) (k0:Nat→Bool→Int→LA→LA→Option R) (q1:Int→Bool→Int→Bool→Option R) (d:Nat) (p:Bool) (o:Int) (a e:LA):Option R :=
 (cond (decide (o<c)) (cond (Aj o g) (rdI .i64 (List.drop ((Int.toNat o)*1) f) fun ad=>(cond ((ad==(2:Int))==true) (q1 o (ad==(2:Int)) o (cond true p false)) (q1 o (ad==(2:Int)) o false))) none) (r0 d a))
def Pd (N:Nat)  (r0:Nat→LA→Option R) (f:LA) (g:Nat) (i j:Bool) (c:Int) (l:Bool) (b:LA):Nat→Nat→Bool→Int→LA→LA→Option R
 | 0,_,_,_,_,_=>none
 | n+1,d,p,o,a,e=>(A0k N r0 f g i j c l b (Pd N r0 f g i j c l b n) (fun m q r t=>(Amy N (Pd N r0 f g i j c l b n) r0 f g i j d c l b a e m q r t)) d p o a e)
def Bmc (N:Nat) (r0:Nat→LA→Option R) (q0:Nat→Bool→Int→LA→LA→Option R) (b:LA) (l:Bool) (c:Int) (f:LA) (g:Nat) (i j:Bool):Option R :=
 (cond ((decide ((0:Int)≤c))&&((decide (c≤c))&&((decide (c≤(140737488355328:Int)))&&(decide ((c*((16:Nat):Int))≤(140737488355328:Int)))))) (rdI .i64 (List.drop 19 b) fun af=>(rdI .i64 (List.drop 21 b) fun ag=>(rdI .i64 (List.drop 21 b) fun ah=>(q0 (Int.toNat c) (af==(2:Int)) 0 (List.flatten (List.replicate (Int.toNat c) [(.int .i64 0),(.int .i64 0)])) [(.int .i64 ag),(.int .i64 ah)])))) none)
def Bmd (N:Nat) (b:LA) (l:Bool) (c:Int) (f:LA) (g:Nat) (i j:Bool) (r0:Nat→LA→Option R):Option R:=(Bmc N r0 (fun d p o a e=>(Pd N r0 f g i j c l b N d p o a e)) b l c f g i j)
def Ahg:=(Ai (@Bmd R)).1
theorem A0l:@Ahg R=@Bmd R:=(Ai _).2
def Yw:Hints:={ H:=(hS (hR [1,2,3]) (hS (hR [1,2,3,7]) (hS (hR [1,2,3,7,8,9]) (hS (hS (hR [2,3,7,8,9,22,23]) (hN [7] (hN [2,3,7,8,9,22,23] (hS (hR [2,3,7,8,9,22,23,24]) (hS (hN [2,3,7,8,9,22,23] hL hL) (hS (hN [2,3,7,8,9,22,23] (hS (hR [2,3,7,8,9,10,22,23]) (hS (hR [2,3,7,8,9,10,11,22,23]) (hS (hJ (hR [2,3,7,9,10,11,22,23,34]) (hN [2,3,7,9,10,11,22,23] (hR [2,3,7,9,10,11,22,23]) (hS (hR [2,3,7,9,10,11,22,23,55]) (hN [2,3,7,9,10,11,22,23] (hR [2,3,7,9,10,11,22,23]) hL)))) (hR [2,3,7,8,9,22,23])))) hL) (hR [2,3,7,8,9,22,23])))) hL) hL)) (hS (hR [6]) hL))))),nils:=[(6,2)],modes:=[(2,2)],free:=[],cob:=[] }
def Adb (N:Nat):List (Nat×Tw):=[]
def N5 (N:Nat):Env:=mkE 71 Yw (Adb N)
def Bth (N:Nat) (F:KF R):=Ao (N5 N) Tryz.f65 Yw.modes [] F
def Yx (N:Nat) (F:KF R):=atF (N5 N) [] N Tryz.f65 Yw (Bth N F)
def En  (F:KF R):Nat→LA→Option R:=(fun ai aj=>F (.own 300000 0 ai) [(300000,⟨false,false,true,false,2,aj,false⟩)])
def Yy (f:LA) (g:Nat) (i j:Bool) (d:Nat) (c:Int) (l:Bool) (b a e:LA) (m:Int) (q:Bool) (r:Int) (t:Bool):St:={ s:=[(2,(.imm f g 1 i j)),(3,(.optr 300000 0)),(7,(.own 300001 0 d)),(9,(.optr 300002 0)),(10,(.int .i64 m)),(11,(.bool q)),(22,(.int .i64 c)),(23,(.int .i64 r)),(34,(.bool t))],h:=[(300000,⟨false,false,true,l,0,b,false⟩),(300001,⟨false,false,true,false,2,a,false⟩),(300002,⟨false,false,true,false,0,e,false⟩)] }
def A6p (N:Nat) (F:KF R) (Q0:St→Option R):St→Option R:=Cg (N5 N) [] N (Yx N F [1,1,1,0,1,0,0,1,1,0,0,1,1,0,1] [Q0])
def A6q (N:Nat) (F:KF R) (Q0:St→Option R):St→Option R:=Ck (N5 N) [] N (Yx N F [1,1,1,0,1,0,0,1,1,0,0,1,1,0,1] [Q0])
def Fv (f:LA) (g:Nat) (i j:Bool) (c:Int) (l:Bool) (b:LA) (d:Nat) (p:Bool) (o:Int) (a e:LA):St:={ s:=[(2,(.imm f g 1 i j)),(3,(.optr 300000 0)),(7,(.own 300001 0 d)),(8,(.bool p)),(9,(.optr 300002 0)),(22,(.int .i64 c)),(23,(.int .i64 o))],h:=[(300000,⟨false,false,true,l,0,b,false⟩),(300001,⟨false,false,true,false,2,a,false⟩),(300002,⟨false,false,true,false,0,e,false⟩)] }
def A6r (N:Nat) (F:KF R):St→Option R:=Bq (N5 N) [] N (Yx N F [1,1,1,0,1,0] []) N
def Ht (N:Nat) (F:KF R) (n:Nat):St→Option R:=A4 (N5 N) [] N (Yx N F [1,1,1,0,1,0] []) n
theorem Bis (N:Nat) (Q0:St→Option R) (F:KF R) (f:LA) (g:Nat) (i j:Bool) (d:Nat) (c:Int) (l:Bool) (b a e:LA):∀ (m:Int) (q:Bool) (r:Int) (t:Bool),A6q N F Q0 (Yy f g i j d c l b a e m q r t)=(Amy N (fun d p o a e=>Q0 (Fv f g i j c l b d p o a e)) (En F) f g i j d c l b a e m q r t):=by
 intro m q r t
 have hK:A6q N F Q0 (Yy f g i j d c l b a e m q r t)=(A0j N (fun d p o a e=>Q0 (Fv f g i j c l b d p o a e)) (En F) f g i j d c l b a e m q r t):=by kernel_rfl
 exact hK
theorem Bit (N:Nat)  (F:KF R) (f:LA) (g:Nat) (i j:Bool) (c:Int) (l:Bool) (b:LA):∀ (n d:Nat) (p:Bool) (o:Int) (a e:LA),Ht N F n (Fv f g i j c l b d p o a e)=(Pd N (En F) f g i j c l b n d p o a e):=by
 intro n
 induction n with
 | zero=>intros;kernel_rfl
 | succ n ih =>
  intro d p o a e
  have e0:=funext fun d=>funext fun p=>funext fun o=>funext fun a=>funext fun e=>(show Ht N F n (Fv f g i j c l b d p o a e)=_ from ih d p o a e)
  have e1:(fun m q r t=>A6p N F (Ht N F n) (Yy f g i j d c l b a e m q r t))=(fun m q r t=>(Amy N (Pd N (En F) f g i j c l b n) (En F) f g i j d c l b a e m q r t)):=by funext m;funext q;funext r;funext t;exact ((Aw ..).trans (Bis N (Ht N F n) F f g i j d c l b a e m q r t)).trans (by rw [e0])
  have hK:Ht N F (n+1) (Fv f g i j c l b d p o a e)=(A0k N (En F) f g i j c l b (fun d p o a e=>Ht N F n (Fv f g i j c l b d p o a e)) (fun m q r t=>A6p N F (Ht N F n) (Yy f g i j d c l b a e m q r t)) d p o a e):=by kernel_rfl
  exact hK.trans (by rw [e0,e1];rfl)
theorem Amz (N:Nat) (b:LA) (l:Bool) (c:Int) (f:LA) (g:Nat) (i j:Bool) (F:KF R):Ab Tryz.prog muts (Adb N) Yw N 65 [(.pagg b l),(.int .i64 c),(.imm f g 1 i j)] [] F=(Ahg N b l c f g i j (En F)):=by
 have e1:=funext fun d=>funext fun p=>funext fun o=>funext fun a=>funext fun e=>(show A6r N F (Fv f g i j c l b d p o a e)=_ from (Ap ..).trans (Bit N F f g i j c l b N d p o a e))
 have hK:Ab Tryz.prog muts (Adb N) Yw N 65 [(.pagg b l),(.int .i64 c),(.imm f g 1 i j)] [] F=(Bmc N (En F) (fun d p o a e=>A6r N F (Fv f g i j c l b d p o a e)) b l c f g i j):=by kernel_rfl
 rw [A0l]
 exact hK.trans (by rw [e1];rfl)
def Uf (N:Nat) (args:List AV) (h:Ak) (k:KF R):Option R :=
 match args,h with
 | [(.pagg b l),(.int .i64 c),(.imm f g 1 i j)],[]=>(Ahg N b l c f g i j (En k))
 | _,_=>none
def A6s (N:Nat):Tw:=⟨Uf N,fun args h k=>by
 unfold Uf;split
 exact twE (Amz ..) (Amz ..)
 rfl⟩
theorem Bv8 (N:Nat):Ax Tryz.prog 65 (A6s N):=fun args h res ae hh=>by
 change Uf N args h (fun v ae=>some (v,ae))=_ at hh
 unfold Uf at hh;split at hh
 exact Aa (T:=Adb N) trivial follows ((Amz ..).trans hh)
 cases hh
def Av4 (N:Nat)  (r0:LA→Option R) (c:Nat) (e:LA) (f:Nat) (g i j:Bool) (d:LA) (k0:Int→LA→Option R)  (a:Int) (b:LA):Option R :=
 (cond (decide (a≥(0:Int))) (cond (Aj a f) (rdI .i64 (List.drop ((Int.toNat a)*1) e) fun o=>(cond (o != (2:Int)) (k0 (IntKind.wrap .i64 (a - (1:Int))) b) (cond (Aj a c) (cond (Nat.ble 2 (List.length (List.drop (0+((Int.toNat a)*2)) b))) (cond (Aj (IntKind.wrap .i64 (a+(1:Int))) c) (cond (Nat.ble 2 (List.length (List.drop (0+((Int.toNat (IntKind.wrap .i64 (a+(1:Int))))*2)) b))) (cond ((Nat.beq (List.length (List.take 2 (List.drop (0+((Int.toNat a)*2)) b))) 2)&&((Nat.ble 2 2)&&(!false))) (cond ((Nat.beq (List.length (List.take 2 (List.drop (0+((Int.toNat (IntKind.wrap .i64 (a+(1:Int))))*2)) b))) 2)&&((Nat.ble 2 2)&&(!false))) (cond (Aj (IntKind.wrap .i64 (a+(1:Int))) f) (rdI .i64 (List.drop ((Int.toNat (IntKind.wrap .i64 (a+(1:Int))))*1) e) fun p=>(cond (p != (2:Int)) (rdI .i64 (setCells [(.int .i64 0),(.int .i64 0)] 0 (List.take 2 (List.drop (0+((Int.toNat a)*2)) b))) fun q=>(rdI .i64 (List.drop 1 (setCells [(.int .i64 0),(.int .i64 0)] 0 (List.take 2 (List.drop (0+((Int.toNat a)*2)) b)))) fun r=>(rdI .i64 (List.drop 9 d) fun t=>(cond (Aj a c) (cond ((Nat.beq 2 2)&&((Nat.ble ((0+((Int.toNat a)*2))+2) (List.length b))&&(!false))) (k0 (IntKind.wrap .i64 (a - (1:Int))) (E5 b (0+((Int.toNat a)*2)) [(.int .i64 q),(.int .i64 (O0 r t))])) none) none)))) (rdI .i64 (setCells [(.int .i64 0),(.int .i64 0)] 0 (List.take 2 (List.drop (0+((Int.toNat a)*2)) b))) fun u=>(rdI .i64 (setCells [(.int .i64 0),(.int .i64 0)] 0 (List.take 2 (List.drop (0+((Int.toNat (IntKind.wrap .i64 (a+(1:Int))))*2)) b))) fun w=>(rdI .i64 (List.drop 6 d) fun x=>(rdI .i64 (List.drop 1 (setCells [(.int .i64 0),(.int .i64 0)] 0 (List.take 2 (List.drop (0+((Int.toNat a)*2)) b)))) fun y=>(rdI .i64 (List.drop 1 (setCells [(.int .i64 0),(.int .i64 0)] 0 (List.take 2 (List.drop (0+((Int.toNat (IntKind.wrap .i64 (a+(1:Int))))*2)) b)))) fun z=>(rdI .i64 (List.drop 7 d) fun aa=>(cond (Aj a c) (cond ((Nat.beq 2 2)&&((Nat.ble ((0+((Int.toNat a)*2))+2) (List.length b))&&(!false))) (k0 (IntKind.wrap .i64 (a - (1:Int))) (E5 b (0+((Int.toNat a)*2)) [(.int .i64 (Qp u (IntKind.wrap .i64 (w - x)))),(.int .i64 (O0 y (IntKind.wrap .i64 (z+aa))))])) none) none))))))))) none) none) none) none) none) none) none))) none) (r0 b))
def Ahh (N:Nat)  (r0:LA→Option R) (c:Nat) (e:LA) (f:Nat) (g i j:Bool) (d:LA):Nat→Int→LA→Option R
 | 0,_,_=>none
 | n+1,a,b=>(Av4 N r0 c e f g i j d (Ahh N r0 c e f g i j d n) a b)
def Bed (N:Nat) (r0:LA→Option R) (q0:Int→LA→Option R) (d:LA) (j:Bool) (c:Nat) (e:LA) (f:Nat) (g i:Bool) (l:LA):Option R :=
 (q0 (IntKind.wrap .i64 (((c:Nat):Int) - (2:Int))) l)
def Bee (N:Nat) (d:LA) (j:Bool) (c:Nat) (e:LA) (f:Nat) (g i:Bool) (l:LA) (r0:LA→Option R):Option R:=(Bed N r0 (fun a b=>(Ahh N r0 c e f g i j d N a b)) d j c e f g i l)
def Aac:=(Ai (@Bee R)).1
theorem Av5:@Aac R=@Bee R:=(Ai _).2
def Ug:Hints:={ H:=(hS (hR [1,2,3]) (hS (hR [1,2,3,6]) (hS (hN [1,2,3,6] (hS (hS (hR [1,2,3,6,13]) (hN [1,2,3,6] hL hL)) (hS (hN [1,2,3,6] (hS (hS (hR [1,2,3,6,20]) (hN [1,2,3,6] hL hL)) (hS (hR [1,2,3,6,7,8]) (hS (hR [1,2,3,6,7,8,35]) (hN [1,2,3,6] (hR [1,2,3,6]) (hR [1,2,3,6]))))) hL) (hR [1,2,3,6]))) hL) hL))),nils:=[],modes:=[],free:=[],cob:=[] }
def Yz (N:Nat):List (Nat×Tw):=[]
def Y0 (N:Nat):Env:=mkE 67 Ug (Yz N)
def Bnm (N:Nat) (F:KF R):=Ao (Y0 N) Tryz.f66 Ug.modes [100000] F
def A0m (N:Nat) (F:KF R):=atF (Y0 N) [100000] N Tryz.f66 Ug (Bnm N F)
def Ms  (F:KF R):LA→Option R:=(fun ab=>F (.tup []) [(100000,⟨false,false,true,false,2,ab,false⟩)])
def Iy (c:Nat) (e:LA) (f:Nat) (g i j:Bool) (d:LA) (a:Int) (b:LA):St:={ s:=[(1,(.own 100000 0 c)),(2,(.imm e f 1 g i)),(3,(.optr 300000 0)),(6,(.int .i64 a))],h:=[(100000,⟨false,false,true,false,2,b,false⟩),(300000,⟨false,false,true,j,0,d,false⟩)] }
def A0n (N:Nat) (F:KF R):St→Option R:=Bq (Y0 N) [100000] N (A0m N F [1,1,0] []) N
def Uh (N:Nat) (F:KF R) (n:Nat):St→Option R:=A4 (Y0 N) [100000] N (A0m N F [1,1,0] []) n
theorem Bef (N:Nat)  (F:KF R) (c:Nat) (e:LA) (f:Nat) (g i j:Bool) (d:LA):∀ (n:Nat) (a:Int) (b:LA),Uh N F n (Iy c e f g i j d a b)=(Ahh N (Ms F) c e f g i j d n a b):=by
 intro n
 induction n with
 | zero=>intros;kernel_rfl
 | succ n ih =>
  intro a b
  have e0:=funext fun a=>funext fun b=>(show Uh N F n (Iy c e f g i j d a b)=_ from ih a b)
  have hK:Uh N F (n+1) (Iy c e f g i j d a b)=(Av4 N (Ms F) c e f g i j d (fun a b=>Uh N F n (Iy c e f g i j d a b)) a b):=by kernel_rfl
  exact hK.trans (by rw [e0];rfl)
theorem Ahi (N:Nat) (d:LA) (j:Bool) (c:Nat) (e:LA) (f:Nat) (g i:Bool) (l:LA) (F:KF R):Ab Tryz.prog muts (Yz N) Ug N 66 [(.pagg d j),(.own 100000 0 c),(.imm e f 1 g i)] [(100000,⟨false,false,true,false,2,l,false⟩)] F=(Aac N d j c e f g i l (Ms F)):=by
 have e1:=funext fun a=>funext fun b=>(show A0n N F (Iy c e f g i j d a b)=_ from (Ap ..).trans (Bef N F c e f g i j d N a b))
 have hK:Ab Tryz.prog muts (Yz N) Ug N 66 [(.pagg d j),(.own 100000 0 c),(.imm e f 1 g i)] [(100000,⟨false,false,true,false,2,l,false⟩)] F=(Bed N (Ms F) (fun a b=>A0n N F (Iy c e f g i j d a b)) d j c e f g i l):=by kernel_rfl
 rw [Av5]
 exact hK.trans (by rw [e1];rfl)
def Qb (N:Nat) (args:List AV) (h:Ak) (k:KF R):Option R :=
 match args,h with
 | [(.pagg d j),(.own 100000 0 c),(.imm e f 1 g i)],[(100000,⟨false,false,true,false,2,l,false⟩)]=>(Aac N d j c e f g i l (Ms k))
 | _,_=>none
def A0o (N:Nat):Tw:=⟨Qb N,fun args h k=>by
 unfold Qb;split
 exact twE (Ahi ..) (Ahi ..)
 rfl⟩
theorem Bti (N:Nat):Ax Tryz.prog 66 (A0o N):=fun args h res m hh=>by
 change Qb N args h (fun v m=>some (v,m))=_ at hh
 unfold Qb at hh;split at hh
 exact Aa (T:=Yz N) trivial follows ((Ahi ..).trans hh)
 cases hh
end
end Gx

namespace Gx
open Go Go.Proofs
set_option maxRecDepth 100000
noncomputable section
variable {R:Type}
def Av6 (N:Nat)  (r0:Nat→Int→LA→Option R) (b:LA) (a:Nat) (d c:Bool) (i:Nat) (k1:Int→Int→LA→Option R)  (m e:Int) (g:LA):Option R :=
 (cond (decide (e<m)) (cond (Aj e i) (cond (Nat.ble 2 (List.length (List.drop (0+((Int.toNat e)*2)) g))) (cond ((Nat.beq (List.length (List.take 2 (List.drop (0+((Int.toNat e)*2)) g))) 2)&&((Nat.ble 2 2)&&(!false))) (rdI .i64 (setCells [(.int .i64 0),(.int .i64 0)] 0 (List.take 2 (List.drop (0+((Int.toNat e)*2)) g))) fun p=>(rdI .i64 (List.drop 1 (setCells [(.int .i64 0),(.int .i64 0)] 0 (List.take 2 (List.drop (0+((Int.toNat e)*2)) g)))) fun q=>(cond (decide (p>q)) (r0 0 7 []) (cond (Aj e a) (rdI .i64 (List.drop ((Int.toNat e)*1) b) fun r=>(cond (r != (2:Int)) (cond (Aj e i) (cond ((Nat.beq 2 2)&&((Nat.ble ((0+((Int.toNat e)*2))+2) (List.length g))&&(!false))) (k1 m (IntKind.wrap .i64 (e+(1:Int))) (E5 g (0+((Int.toNat e)*2)) [(.int .i64 0),(.int .i64 0)])) none) none) (k1 m (IntKind.wrap .i64 (e+(1:Int))) g))) none)))) none) none) none) (r0 i 0 g))
def Ahj (N:Nat)  (r0:Nat→Int→LA→Option R) (b:LA) (a:Nat) (d c:Bool) (i:Nat):Nat→Int→Int→LA→Option R
 | 0,_,_,_=>none
 | n+1,m,e,g=>(Av6 N r0 b a d c i (Ahj N r0 b a d c i n) m e g)
def Aa8 (N:Nat)  (r0:Nat→Int→LA→Option R) (l:Int) (b:LA) (a:Nat) (d c j:Bool) (f:LA)  (q1:Nat→Int→Int→LA→Option R) :Option R :=
 (cond (Nat.ble 22 (List.length f)) (Ahg N (List.take 22 f) j l b a false c (fun i t=>(cond (Nat.ble 22 (List.length f)) (Aac N (List.take 22 f) j i b a false c t (fun u=>(q1 i ((i:Nat):Int) 0 u))) none))) none)
def Ahk (N:Nat)  (r0:Nat→Int→LA→Option R) (l:Int) (b:LA) (a:Nat) (d c j:Bool) (f:LA) :Option R:=(Aa8 N r0 l b a d c j f (fun i m e g=>(Ahj N r0 b a d c i N m e g)))
def Atm (N:Nat) (r0:Nat→Int→LA→Option R) (q0:Option R) (f:LA) (j:Bool) (l:Int) (b:LA) (a:Nat) (d c:Bool):Option R :=
 (cond (Nat.ble 22 (List.length f)) (Z9 N (List.take 22 f) j l (fun w=>(cond (!w) (r0 0 1 []) (cond (((a:Nat):Int) != l) (r0 0 4 []) (cond (Nat.ble 22 (List.length f)) (Akv N (List.take 22 f) j b a false c (fun af ag x ah=>(cond (x != (0:Int)) (r0 0 16 []) (rdI .i64 (List.drop 19 f) fun y=>(cond ((y==(2:Int))==true) (cond (Aj (0:Int) a) (rdI .i64 b fun z=>(cond ((cond true (z != (2:Int)) false)==true) (rdI .i64 (List.drop 21 f) fun aa=>(rdI .i64 (List.drop 9 f) fun ab=>(cond (cond true (decide (aa>ab)) false) (r0 0 7 []) q0))) q0)) none) q0))))) none))))) none)
def Atn (N:Nat) (f:LA) (j:Bool) (l:Int) (b:LA) (a:Nat) (d c:Bool) (r0:Nat→Int→LA→Option R):Option R:=(Atm N r0 (Ahk N r0 l b a d c j f) f j l b a d c)
def Aad:=(Ai (@Atn R)).1
theorem Av7:@Aad R=@Atn R:=(Ai _).2
def Ui:Hints:={ H:=(hS (hR [1,2,3]) (hS (hS (hR [1,2,3,17]) (hN [1,2,3] (hS (hR [6,7]) hL) hL)) (hS (hS (hR [1,2,3,21]) (hN [1,2,3] (hS (hR [6,7]) hL) hL)) (hS (hS (hR [1,2,3,10]) (hS (hR [1,2,3,30]) (hN [1,2,3] (hS (hR [6,7]) hL) hL))) (hJ (hS (hR [1,2,3,46]) (hN [1,2,3] (hS (hR [6,7]) hL) hL)) (hS (hR [2,3,11]) (hS (hR [2,11]) (hS (hS (hR [2,11,55,56,57]) (hN [11] (hN [2,11,55,56,57] (hS (hR [2,11,55,56,57,58]) (hS (hN [2,11,55,56,57] hL hL) (hS (hN [2,11,55,56,57] (hS (hR [2,11,12,13,55,56,57]) (hS (hS (hR [2,11,12,55,56,57,66]) (hN [2,11,12,55,56,57] (hS (hR [6,7]) hL) hL)) (hS (hR [2,11,12,55,56,57,71]) (hN [2,11,55,56,57] (hR [2,11,55,56,57]) hL)))) hL) (hR [2,11,55,56,57])))) hL) hL)) (hS (hR [6,7]) hL))))))))),nils:=[(6,2)],modes:=[(2,2),(0,0)],free:=[],cob:=[] }
def Y1 (N:Nat):List (Nat×Tw):=[(16,Aaa N),(64,Atl N),(65,A6s N),(66,A0o N)]
def K5 (N:Nat):Env:=mkE 78 Ui (Y1 N)
def Bnn (N:Nat) (F:KF R):=Ao (K5 N) Tryz.f29 Ui.modes [] F
def Uj (N:Nat) (F:KF R):=atF (K5 N) [] N Tryz.f29 Ui (Bnn N F)
def Gn  (F:KF R):Nat→Int→LA→Option R:=(fun ac ad ae=>F (.tup [(.own 300000 0 ac),(.int .i64 ad)]) [(300000,⟨false,false,true,false,2,ae,false⟩)])
def Iz (b:LA) (a:Nat) (d c:Bool) (i:Nat) (m e:Int) (g:LA):St:={ s:=[(2,(.imm b a 1 d c)),(11,(.own 300000 0 i)),(55,(.own 300000 0 i)),(56,(.int .i64 m)),(57,(.int .i64 e))],h:=[(300000,⟨false,false,true,false,2,g,false⟩)] }
def A0p (N:Nat) (F:KF R):St→Option R:=Bq (K5 N) [] N (Uj N F [1,1,1,1,1,1,1,0,1,0] []) N
def Uk (N:Nat) (F:KF R) (n:Nat):St→Option R:=A4 (K5 N) [] N (Uj N F [1,1,1,1,1,1,1,0,1,0] []) n
def Ul (l:Int) (b:LA) (a:Nat) (d c j:Bool) (f:LA):St:={ s:=[(1,(.int .i64 l)),(2,(.imm b a 1 d c)),(3,(.optr 300000 0))],h:=[(300000,⟨false,false,true,j,0,f,false⟩)] }
def A0q (N:Nat) (F:KF R):St→Option R:=Cg (K5 N) [] N (Uj N F [1,1,1,1,1] [])
def A0r (N:Nat) (F:KF R):St→Option R:=Ck (K5 N) [] N (Uj N F [1,1,1,1,1] [])
theorem Beg (N:Nat)  (F:KF R) (b:LA) (a:Nat) (d c:Bool) (i:Nat):∀ (n:Nat) (m e:Int) (g:LA),Uk N F n (Iz b a d c i m e g)=(Ahj N (Gn F) b a d c i n m e g):=by
 intro n
 induction n with
 | zero=>intros;kernel_rfl
 | succ n ih =>
  intro m e g
  have e0:=funext fun m=>funext fun e=>funext fun g=>(show Uk N F n (Iz b a d c i m e g)=_ from ih m e g)
  have hK:Uk N F (n+1) (Iz b a d c i m e g)=(Av6 N (Gn F) b a d c i (fun m e g=>Uk N F n (Iz b a d c i m e g)) m e g):=by kernel_rfl
  exact hK.trans (by rw [e0];rfl)
theorem Beh (N:Nat)  (F:KF R) (l:Int) (b:LA) (a:Nat) (d c j:Bool) (f:LA):A0r N F (Ul l b a d c j f)=(Ahk N (Gn F) l b a d c j f):=by
 have e1:=funext fun i=>funext fun m=>funext fun e=>funext fun g=>(show A0p N F (Iz b a d c i m e g)=_ from (Ap ..).trans (Beg N F b a d c i N m e g))
 have hK:A0r N F (Ul l b a d c j f)=(Aa8 N (Gn F) l b a d c j f (fun i m e g=>A0p N F (Iz b a d c i m e g))):=by kernel_rfl
 exact hK.trans (by rw [e1];rfl)
theorem Ahl (N:Nat) (f:LA) (j:Bool) (l:Int) (b:LA) (a:Nat) (d c:Bool) (F:KF R):Ab Tryz.prog muts (Y1 N) Ui N 29 [(.pagg f j),(.int .i64 l),(.imm b a 1 d c)] [] F=(Aad N f j l b a d c (Gn F)):=by
 have e1:=(show A0q N F (Ul l b a d c j f)=_ from (Aw ..).trans (Beh N F l b a d c j f))
 have hK:Ab Tryz.prog muts (Y1 N) Ui N 29 [(.pagg f j),(.int .i64 l),(.imm b a 1 d c)] [] F=(Atm N (Gn F) (A0q N F (Ul l b a d c j f)) f j l b a d c):=by kernel_rfl
 rw [Av7]
 exact hK.trans (by rw [e1];rfl)
def Qc (N:Nat) (args:List AV) (h:Ak) (k:KF R):Option R :=
 match args,h with
 | [(.pagg f j),(.int .i64 l),(.imm b a 1 d c)],[]=>(Aad N f j l b a d c (Gn k))
 | _,_=>none
def A0s (N:Nat):Tw:=⟨Qc N,fun args h k=>by
 unfold Qc;split
 exact twE (Ahl ..) (Ahl ..)
 rfl⟩
theorem Btj (N:Nat):Ax Tryz.prog 29 (A0s N):=fun args h res o hh=>by
 change Qc N args h (fun v o=>some (v,o))=_ at hh
 unfold Qc at hh;split at hh
 exact Aa (T:=Y1 N) ⟨Akh N,Bay N,Bv8 N,Bti N,trivial⟩ follows ((Ahl ..).trans hh)
 cases hh
def Ato (N:Nat) (r0:Bool→Option R)  :Option R :=
 (Pa N (fun b=>(cond ((Nat.beq 0 0)&&((Nat.beq (List.length b) 22)&&(Nat.beq 22 22))) (cond (Nat.ble 22 (List.length b)) (Bf N 35 (fun i=>(Mp N (List.take 22 b) false i false (fun c j=>(cond ((Nat.beq 0 0)&&((Nat.beq (List.length c) 3)&&(Nat.beq 3 3))) (cond (Nat.ble 22 (List.length b)) (Bf N 30 (fun l=>(Aab N (List.take 22 b) false l false (fun d e m n=>(cond ((Nat.beq 0 0)&&((Nat.beq (List.length d) 3)&&(Nat.beq 3 3))) (cond ((Nat.beq 0 0)&&((Nat.beq (List.length e) 3)&&(Nat.beq 3 3))) (cond (Nat.ble 22 (List.length b)) (Aad N (List.take 22 b) false 3 [(.int .i64 2),(.int .i64 2),(.int .i64 0)] 3 false true (fun f o a=>(cond (Nat.ble 3 (List.length c)) (Bf N 85 (fun p=>(Cf N (List.take 3 c) false p false (fun q=>(cond ((q==(0:Int))==true) (cond ((cond true (j==(0:Int)) false)==true) (cond (Nat.ble 3 (List.length d)) (Bf N 3 (fun r=>(Cf N (List.take 3 d) false r false (fun s=>(cond ((cond true (s==(0:Int)) false)==true) (cond (Nat.ble 3 (List.length e)) (Bf N 5 (fun t=>(Cf N (List.take 3 e) false t false (fun u=>(cond ((cond true (u==(0:Int)) false)==true) (cond ((cond true m false)==true) (cond ((cond true n false)==true) (cond ((cond true (o==(0:Int)) false)==true) (cond ((cond true (((f:Nat):Int)==(3:Int)) false)==true) (cond (Aj (0:Int) f) (cond (Nat.ble 2 (List.length a)) (cond ((Nat.ble 1 2)&&((Nat.beq (List.length (List.take 2 a)) 2)&&((Nat.beq 2 2)&&(true&&(!false))))) (rdI .i64 (List.take 2 a) fun w=>(rdI .i64 (List.drop 1 (List.take 2 a)) fun x=>(cond ((cond true ((w==(10:Int))&&((x==(17:Int))&&true)) false)==true) (cond (Aj (1:Int) f) (cond (Nat.ble 2 (List.length (List.drop 2 a))) (cond ((Nat.ble 1 2)&&((Nat.beq (List.length (List.take 2 (List.drop 2 a))) 2)&&((Nat.beq 2 2)&&(true&&(!false))))) (rdI .i64 (List.take 2 (List.drop 2 a)) fun y=>(rdI .i64 (List.drop 1 (List.take 2 (List.drop 2 a))) fun z=>(r0 (cond true ((y==(10:Int))&&((z==(15:Int))&&true)) false)))) none) none) none) (r0 false)))) none) none) none) (r0 false)) (r0 false)) (r0 false)) (r0 false)) (r0 false)))))) none) (r0 false)))))) none) (r0 false)) (r0 false)))))) none))) none) none) none))))) none) none))))) none) none)))
def Atp (N:Nat)  (r0:Bool→Option R):Option R:=(Ato N r0)
def Aae:=(Ai (@Atp R)).1
theorem Av8:@Aae R=@Atp R:=(Ai _).2
def A0t:Hints:={ H:=(hS hL (hS (hR [1]) (hS (hR [1,2,3]) (hS (hR [1,2,3,4,5,6,7]) (hS (hR [2,3,4,5,6,7,8,9]) (hS (hR [0]) hL)))))),nils:=[],modes:=[],free:=[],cob:=[] }
def Am0 (N:Nat):List (Nat×Tw):=[(46,Ao4 N),(20,Eu N),(21,Akm N),(23,Az6 N),(29,A0s N),(25,Gl N)]
def Ahm  (F:KF R):Bool→Option R:=(fun aa=>F (.bool aa) [])
theorem Ahn (N:Nat)  (F:KF R):Ab Tryz.prog muts (Am0 N) A0t N 15 [] [] F=(Aae N (Ahm F)):=by
 have hK:Ab Tryz.prog muts (Am0 N) A0t N 15 [] [] F=(Ato N (Ahm F)):=by kernel_rfl
 rw [Av8]
 exact hK
def Qd (N:Nat) (args:List AV) (h:Ak) (k:KF R):Option R :=
 match args,h with
 | [],[]=>(Aae N (Ahm k))
 | _,_=>none
def A0u (N:Nat):Tw:=⟨Qd N,fun args h k=>by
 unfold Qd;split
 exact twE (Ahn ..) (Ahn ..)
 rfl⟩
theorem Btk (N:Nat):Ax Tryz.prog 15 (A0u N):=fun args h res g hh=>by
 change Qd N args h (fun v g=>some (v,g))=_ at hh
 unfold Qd at hh;split at hh
 exact Aa (T:=Am0 N) ⟨Bik N,Ge N,Bd0 N,Bs3 N,Btj N,Iu N,trivial⟩ follows ((Ahn ..).trans hh)
 cases hh
def B0x (N:Nat) (r0:Bool→Option R)  (a b c:Int):Option R :=
 (cond ((decide (a≥b))==true) (r0 (cond true (decide (a≤c)) false)) (r0 false))
def B0y (N:Nat) (a b c:Int) (r0:Bool→Option R):Option R:=(B0x N r0 a b c)
def I0:=(Ai (@B0y R)).1
theorem Btl:@I0 R=@B0y R:=(Ai _).2
def Byc:Hints:={ H:=(hS (hR [0,1,2]) (hS (hR [6]) hL)),nils:=[],modes:=[],free:=[],cob:=[] }
def Btm (N:Nat):List (Nat×Tw):=[]
def Biu  (F:KF R):Bool→Option R:=(fun e=>F (.bool e) [])
theorem Biv (N:Nat) (a b c:Int) (F:KF R):Ab Tryz.prog muts (Btm N) Byc N 51 [(.int .i64 a),(.int .i64 b),(.int .i64 c)] [] F=(I0 N a b c (Biu F)):=by
 have hK:Ab Tryz.prog muts (Btm N) Byc N 51 [(.int .i64 a),(.int .i64 b),(.int .i64 c)] [] F=(B0x N (Biu F) a b c):=by kernel_rfl
 rw [Btl]
 exact hK
def Atq (N:Nat) (args:List AV) (h:Ak) (k:KF R):Option R :=
 match args,h with
 | [(.int .i64 a),(.int .i64 b),(.int .i64 c)],[]=>(I0 N a b c (Biu k))
 | _,_=>none
def Biw (N:Nat):Tw:=⟨Atq N,fun args h k=>by
 unfold Atq;split
 exact twE (Biv ..) (Biv ..)
 rfl⟩
theorem Byd (N:Nat):Ax Tryz.prog 51 (Biw N):=fun args h res d hh=>by
 change Atq N args h (fun v d=>some (v,d))=_ at hh
 unfold Atq at hh;split at hh
 exact Aa (T:=Btm N) trivial follows ((Biv ..).trans hh)
 cases hh
def Am1 (N:Nat)  (r0:Bool→Option R) (b:Bool) (a:LA)   :Option R :=
 (rdI .i64 (List.drop 19 a) fun d=>(cond ((d != (0:Int))==true) (rdI .i64 (List.drop 19 a) fun e=>(cond ((cond true (e != (1:Int)) false)==true) (rdI .i64 (List.drop 19 a) fun f=>(cond ((cond true (f != (2:Int)) false)==false) (rdI .i64 (List.drop 20 a) fun g=>(cond ((cond false true (decide (g<(1:Int))))==false) (rdI .i64 (List.drop 20 a) fun i=>(cond (cond false true (decide (i>(48:Int)))) (r0 false) (rdI .i64 (List.drop 19 a) fun j=>(cond ((j != (1:Int))==false) (rdI .i64 (List.drop 20 a) fun l=>(rdI .i64 (List.drop 12 a) fun m=>(r0 (cond false true (decide (l≤m)))))) (r0 true))))) (r0 false))) (r0 false))) (rdI .i64 (List.drop 20 a) fun n=>(cond ((cond false true (decide (n<(1:Int))))==false) (rdI .i64 (List.drop 20 a) fun o=>(cond (cond false true (decide (o>(48:Int)))) (r0 false) (rdI .i64 (List.drop 19 a) fun p=>(cond ((p != (1:Int))==false) (rdI .i64 (List.drop 20 a) fun q=>(rdI .i64 (List.drop 12 a) fun r=>(r0 (cond false true (decide (q≤r)))))) (r0 true))))) (r0 false))))) (rdI .i64 (List.drop 20 a) fun t=>(cond ((cond false true (decide (t<(1:Int))))==false) (rdI .i64 (List.drop 20 a) fun u=>(cond (cond false true (decide (u>(48:Int)))) (r0 false) (rdI .i64 (List.drop 19 a) fun w=>(cond ((w != (1:Int))==false) (rdI .i64 (List.drop 20 a) fun x=>(rdI .i64 (List.drop 12 a) fun y=>(r0 (cond false true (decide (x≤y)))))) (r0 true))))) (r0 false)))))
def Atr (N:Nat)  (r0:Bool→Option R) (b:Bool) (a:LA) :Option R:=(Am1 N r0 b a)
def Baz (N:Nat) (r0:Bool→Option R) (q0:Option R) (a:LA) (b:Bool):Option R :=
 (rdI .i64 (List.drop 10 a) fun z=>(cond ((decide (z<(0:Int)))==false) (rdI .i64 (List.drop 10 a) fun aa=>(cond ((cond false true (decide (aa>(24:Int))))==false) (rdI .i64 (List.drop 11 a) fun ab=>(cond ((cond false true (decide (ab<(0:Int))))==false) (rdI .i64 (List.drop 11 a) fun ac=>(cond ((cond false true (decide (ac>(24:Int))))==false) (rdI .i64 (List.drop 12 a) fun ad=>(cond ((cond false true (decide (ad<(0:Int))))==false) (rdI .i64 (List.drop 12 a) fun ae=>(cond ((cond false true (decide (ae>(24:Int))))==false) (rdI .i64 (List.drop 15 a) fun af=>(cond ((cond false true (decide (af<(0:Int))))==false) (rdI .i64 (List.drop 15 a) fun ag=>(cond (cond false true (decide (ag>(24:Int)))) (r0 false) q0)) (r0 false))) (r0 false))) (r0 false))) (r0 false))) (r0 false))) (r0 false))) (r0 false)))
def Ba0 (N:Nat) (a:LA) (b:Bool) (r0:Bool→Option R):Option R:=(Baz N r0 (Atr N r0 b a) a b)
def N6:=(Ai (@Ba0 R)).1
theorem A6t:@N6 R=@Ba0 R:=(Ai _).2
def Adc:Hints:={ H:=(hS (hR [1]) (hJ (hS (hR [1,40]) (hN [1] (hS (hR [2]) hL) hL)) (hS (hS (hR [1,63]) (hN [1] (hS (hR [2]) hL) hL)) (hS (hR [2]) hL)))),nils:=[],modes:=[],free:=[],cob:=[] }
def Akx (N:Nat):List (Nat×Tw):=[]
def Aky (N:Nat):Env:=mkE 74 Adc (Akx N)
def Bv9 (N:Nat) (F:KF R):=Ao (Aky N) Tryz.f52 Adc.modes [] F
def Bei (N:Nat) (F:KF R):=atF (Aky N) [] N Tryz.f52 Adc (Bv9 N F)
def Um  (F:KF R):Bool→Option R:=(fun ah=>F (.bool ah) [])
def Add (b:Bool) (a:LA):St:={ s:=[(1,(.optr 300000 0))],h:=[(300000,⟨false,false,true,b,0,a,false⟩)] }
def Bej (N:Nat) (F:KF R):St→Option R:=Cg (Aky N) [] N (Bei N F [1,1] [])
def Bek (N:Nat) (F:KF R):St→Option R:=Ck (Aky N) [] N (Bei N F [1,1] [])
theorem Bno (N:Nat)  (F:KF R) (b:Bool) (a:LA):Bek N F (Add b a)=(Atr N (Um F) b a):=by
 have hK:Bek N F (Add b a)=(Am1 N (Um F) b a):=by kernel_rfl
 exact hK
theorem Ats (N:Nat) (a:LA) (b:Bool) (F:KF R):Ab Tryz.prog muts (Akx N) Adc N 52 [(.pagg a b)] [] F=(N6 N a b (Um F)):=by
 have e1:=(show Bej N F (Add b a)=_ from (Aw ..).trans (Bno N F b a))
 have hK:Ab Tryz.prog muts (Akx N) Adc N 52 [(.pagg a b)] [] F=(Baz N (Um F) (Bej N F (Add b a)) a b):=by kernel_rfl
 rw [A6t]
 exact hK.trans (by rw [e1];rfl)
def Y2 (N:Nat) (args:List AV) (h:Ak) (k:KF R):Option R :=
 match args,h with
 | [(.pagg a b)],[]=>(N6 N a b (Um k))
 | _,_=>none
def N7 (N:Nat):Tw:=⟨Y2 N,fun args h k=>by
 unfold Y2;split
 exact twE (Ats ..) (Ats ..)
 rfl⟩
theorem Un (N:Nat):Ax Tryz.prog 52 (N7 N):=fun args h res c hh=>by
 change Y2 N args h (fun v c=>some (v,c))=_ at hh
 unfold Y2 at hh;split at hh
 exact Aa (T:=Akx N) trivial follows ((Ats ..).trans hh)
 cases hh
def N8 (N:Nat)  (r0:Bool→Option R) (c:Bool) (b:LA) (k0:Int→Int→Option R)  (d a:Int):Option R :=
 (rdL 2 (List.drop 4 b) fun ad g=>(cond (decide (a<((g:Nat):Int))) (rdL 2 (List.drop 4 b) fun e i=>(cond (Aj a i) (cond (Nat.ble 2 (List.length (List.drop ((Int.toNat a)*2) e))) (cond ((!c)||(Bm (List.take 2 (List.drop ((Int.toNat a)*2) e)))) (cond ((Nat.beq (List.length (List.take 2 (List.drop ((Int.toNat a)*2) e))) 2)&&((Nat.ble 2 2)&&(!false))) (rdI .i64 (setCells [(.int .i64 0),(.int .i64 0)] 0 (List.take 2 (List.drop ((Int.toNat a)*2) e))) fun j=>(I0 N j 1 1048576 (fun l=>(cond ((!l)==false) (rdI .i64 (List.drop 1 (setCells [(.int .i64 0),(.int .i64 0)] 0 (List.take 2 (List.drop ((Int.toNat a)*2) e)))) fun m=>(I0 N m (-1048576) 1048576 (fun o=>(cond ((cond false true (!o))==false) (cond ((decide (a>(0:Int)))==true) (rdI .i64 (List.drop 1 (setCells [(.int .i64 0),(.int .i64 0)] 0 (List.take 2 (List.drop ((Int.toNat a)*2) e)))) fun p=>(rdL 2 (List.drop 4 b) fun q r=>(cond (Aj (IntKind.wrap .i64 (a - (1:Int))) r) (rdI .i64 (List.drop 1 (List.drop ((Int.toNat (IntKind.wrap .i64 (a - (1:Int))))*2) q)) fun t=>(cond ((cond false true (cond true (decide (p<t)) false))==false) (rdI .i64 (setCells [(.int .i64 0),(.int .i64 0)] 0 (List.take 2 (List.drop ((Int.toNat a)*2) e))) fun u=>(cond (cond false true (decide (u>d))) (r0 false) (rdI .i64 (setCells [(.int .i64 0),(.int .i64 0)] 0 (List.take 2 (List.drop ((Int.toNat a)*2) e))) fun w=>(k0 (IntKind.wrap .i64 (d - w)) (IntKind.wrap .i64 (a+(1:Int))))))) (r0 false))) none))) (rdI .i64 (setCells [(.int .i64 0),(.int .i64 0)] 0 (List.take 2 (List.drop ((Int.toNat a)*2) e))) fun x=>(cond (cond false true (decide (x>d))) (r0 false) (rdI .i64 (setCells [(.int .i64 0),(.int .i64 0)] 0 (List.take 2 (List.drop ((Int.toNat a)*2) e))) fun y=>(k0 (IntKind.wrap .i64 (d - y)) (IntKind.wrap .i64 (a+(1:Int)))))))) (r0 false))))) (r0 false))))) none) none) none) none)) (r0 (d==(0:Int)))))
def Fa (N:Nat)  (r0:Bool→Option R) (c:Bool) (b:LA):Nat→Int→Int→Option R
 | 0,_,_=>none
 | n+1,d,a=>(N8 N r0 c b (Fa N r0 c b n) d a)
def Am2 (N:Nat) (r0:Bool→Option R) (q0:Int→Int→Option R) (b:LA) (c:Bool):Option R :=
 (rdL 2 (List.drop 4 b) fun ae z=>(cond (decide (((z:Nat):Int)>(8:Int))) (r0 false) (rdI .i64 (List.drop 3 b) fun aa=>(rdI .i64 (List.drop 2 b) fun ab=>(q0 (IntKind.wrap .i64 (aa - ab)) 0)))))
def Am3 (N:Nat) (b:LA) (c:Bool) (r0:Bool→Option R):Option R:=(Am2 N r0 (fun d a=>(Fa N r0 c b N d a)) b c)
def Uo:=(Ai (@Am3 R)).1
theorem Ao7:@Uo R=@Am3 R:=(Ai _).2
def Qe:Hints:={ H:=(hS (hR [1]) (hS (hS (hR [1,9]) (hN [1] (hS (hR [2]) hL) hL)) (hS (hR [1,3]) (hS (hS (hR [1,3,4]) (hN [3] (hN [1,3,4] (hS (hS (hR [1,3,4,19]) (hN [1,3,4] hL hL)) (hS (hN [1,3,4] (hS (hR [1,3,4,5]) (hS (hS (hR [1,3,4,5,58]) (hN [1,3,4,5] (hS (hR [2]) hL) hL)) (hR [1,3,4]))) hL) (hR [1,3,4]))) hL) hL)) (hS (hR [2]) hL))))),nils:=[],modes:=[],free:=[],cob:=[] }
def Up (N:Nat):List (Nat×Tw):=[(51,Biw N)]
def Uq (N:Nat):Env:=mkE 65 Qe (Up N)
def Bix (N:Nat) (F:KF R):=Ao (Uq N) Tryz.f53 Qe.modes [] F
def Av9 (N:Nat) (F:KF R):=atF (Uq N) [] N Tryz.f53 Qe (Bix N F)
def Kl  (F:KF R):Bool→Option R:=(fun ac=>F (.bool ac) [])
def G9 (c:Bool) (b:LA) (d a:Int):St:={ s:=[(1,(.optr 300000 0)),(3,(.int .i64 d)),(4,(.int .i64 a))],h:=[(300000,⟨false,false,true,c,0,b,false⟩)] }
def Awa (N:Nat) (F:KF R):St→Option R:=Bq (Uq N) [] N (Av9 N F [1,1,1,0,1,0] []) N
def Qf (N:Nat) (F:KF R) (n:Nat):St→Option R:=A4 (Uq N) [] N (Av9 N F [1,1,1,0,1,0] []) n
theorem Ba1 (N:Nat)  (F:KF R) (c:Bool) (b:LA):∀ (n:Nat) (d a:Int),Qf N F n (G9 c b d a)=(Fa N (Kl F) c b n d a):=by
 intro n
 induction n with
 | zero=>intros;kernel_rfl
 | succ n ih =>
  intro d a
  have e0:=funext fun d=>funext fun a=>(show Qf N F n (G9 c b d a)=_ from ih d a)
  have hK:Qf N F (n+1) (G9 c b d a)=(N8 N (Kl F) c b (fun d a=>Qf N F n (G9 c b d a)) d a):=by kernel_rfl
  exact hK.trans (by rw [e0];rfl)
theorem Aa9 (N:Nat) (b:LA) (c:Bool) (F:KF R):Ab Tryz.prog muts (Up N) Qe N 53 [(.pagg b c)] [] F=(Uo N b c (Kl F)):=by
 have e1:=funext fun d=>funext fun a=>(show Awa N F (G9 c b d a)=_ from (Ap ..).trans (Ba1 N F c b N d a))
 have hK:Ab Tryz.prog muts (Up N) Qe N 53 [(.pagg b c)] [] F=(Am2 N (Kl F) (fun d a=>Awa N F (G9 c b d a)) b c):=by kernel_rfl
 rw [Ao7]
 exact hK.trans (by rw [e1];rfl)
def N9 (N:Nat) (args:List AV) (h:Ak) (k:KF R):Option R :=
 match args,h with
 | [(.pagg b c)],[]=>(Uo N b c (Kl k))
 | _,_=>none
def Awb (N:Nat):Tw:=⟨N9 N,fun args h k=>by
 unfold N9;split
 exact twE (Aa9 ..) (Aa9 ..)
 rfl⟩
theorem Bnp (N:Nat):Ax Tryz.prog 53 (Awb N):=fun args h res f hh=>by
 change N9 N args h (fun v f=>some (v,f))=_ at hh
 unfold N9 at hh;split at hh
 exact Aa (T:=Up N) ⟨Byd N,trivial⟩ follows ((Aa9 ..).trans hh)
 cases hh
def Y3 (N:Nat)  (r0:Bool→Option R) (b:Int) (c:Bool) (a:LA) (k3:Int→Option R)  (d:Int):Option R :=
 (rdL 1 (List.drop 18 a) fun bi f=>(cond (decide (d<((f:Nat):Int))) (rdL 1 (List.drop 18 a) fun g i=>(cond (Aj d i) (rdI .i64 (List.drop ((Int.toNat d)*1) g) fun j=>(I0 N j 0 (IntKind.wrap .i64 (b - (1:Int))) (fun l=>(cond ((!l)==false) (cond ((decide (d>(0:Int)))==true) (rdL 1 (List.drop 18 a) fun m o=>(cond (Aj d o) (rdI .i64 (List.drop ((Int.toNat d)*1) m) fun p=>(rdL 1 (List.drop 18 a) fun q r=>(cond (Aj (IntKind.wrap .i64 (d - (1:Int))) r) (rdI .i64 (List.drop ((Int.toNat (IntKind.wrap .i64 (d - (1:Int))))*1) q) fun t=>(cond (cond false true (cond true (decide (p≤t)) false)) (r0 false) (k3 (IntKind.wrap .i64 (d+(1:Int)))))) none))) none)) (k3 (IntKind.wrap .i64 (d+(1:Int))))) (r0 false))))) none)) (rdI .i64 (List.drop 19 a) fun u=>(cond (u==(2:Int)) (rdI .i64 (List.drop 21 a) fun w=>(rdI .i64 (List.drop 2 a) fun x=>(rdI .i64 (List.drop 3 a) fun y=>(I0 N w x y (fun z=>(r0 z)))))) (rdI .i64 (List.drop 21 a) fun aa=>(r0 (aa==(0:Int))))))))
def Oa (N:Nat)  (r0:Bool→Option R) (b:Int) (c:Bool) (a:LA):Nat→Int→Option R
 | 0,_=>none
 | n+1,d=>(Y3 N r0 b c a (Oa N r0 b c a n) d)
def Am4 (N:Nat)  (r0:Bool→Option R) (b:Int) (c:Bool) (a:LA)  (q3:Int→Option R) :Option R :=
 (q3 0)
def Att (N:Nat)  (r0:Bool→Option R) (b:Int) (c:Bool) (a:LA) :Option R:=(Am4 N r0 b c a (fun d=>(Oa N r0 b c a N d)))
def Am5 (N:Nat)  (r0:Bool→Option R) (b:Int) (c:Bool) (a:LA)  (q2:Option R) :Option R :=
 (rdI .i64 (List.drop 5 a) fun ab=>(I0 N ab 0 1048576 (fun ac=>(cond ((!ac)==false) (rdI .i64 (List.drop 13 a) fun ad=>(I0 N ad 0 1048576 (fun ae=>(cond ((cond false true (!ae))==false) (rdI .i64 (List.drop 14 a) fun af=>(I0 N af 0 1048576 (fun ag=>(cond ((cond false true (!ag))==false) (rdI .i64 (List.drop 17 a) fun ah=>(I0 N ah 0 1048576 (fun ai=>(cond (cond false true (!ai)) (r0 false) q2)))) (r0 false))))) (r0 false))))) (r0 false)))))
def Atu (N:Nat)  (r0:Bool→Option R) (b:Int) (c:Bool) (a:LA) :Option R:=(Am5 N r0 b c a (Att N r0 b c a))
def Am6 (N:Nat)  (r0:Bool→Option R) (b:Int) (c:Bool) (a:LA)  (q1:Option R) :Option R :=
 (rdI .i64 (List.drop 6 a) fun aj=>(I0 N aj 0 1048576 (fun ak=>(cond ((!ak)==false) (rdI .i64 (List.drop 7 a) fun al=>(I0 N al 0 1048576 (fun am=>(cond ((cond false true (!am))==false) (rdI .i64 (List.drop 16 a) fun an=>(I0 N an 0 1048576 (fun ao=>(cond ((cond false true (!ao))==false) (rdI .i64 (List.drop 8 a) fun ap=>(rdI .i64 (List.drop 2 a) fun aq=>(rdI .i64 (List.drop 3 a) fun ar=>(I0 N ap aq ar (fun au=>(cond ((cond false true (!au))==false) (rdI .i64 (List.drop 9 a) fun av=>(rdI .i64 (List.drop 2 a) fun aw=>(rdI .i64 (List.drop 3 a) fun ax=>(I0 N av aw ax (fun ay=>(cond (cond false true (!ay)) (r0 false) q1)))))) (r0 false))))))) (r0 false))))) (r0 false))))) (r0 false)))))
def Atv (N:Nat)  (r0:Bool→Option R) (b:Int) (c:Bool) (a:LA) :Option R:=(Am6 N r0 b c a (Atu N r0 b c a))
def Ba2 (N:Nat) (r0:Bool→Option R) (q0:Option R) (a:LA) (c:Bool) (b:Int):Option R :=
 (I0 N b 1 24 (fun az=>(cond ((!az)==false) (cond (Nat.ble 22 (List.length a)) (N6 N (List.take 22 a) c (fun ba=>(cond ((cond false true (!ba))==false) (rdI .i64 (List.drop 2 a) fun bb=>(I0 N bb 0 1048576 (fun bc=>(cond ((cond false true (!bc))==false) (rdI .i64 (List.drop 3 a) fun bd=>(rdI .i64 (List.drop 2 a) fun be=>(I0 N bd be 1048576 (fun bf=>(cond ((cond false true (!bf))==false) (cond (Nat.ble 22 (List.length a)) (Uo N (List.take 22 a) c (fun bg=>(cond (cond false true (!bg)) (r0 false) q0))) none) (r0 false)))))) (r0 false))))) (r0 false)))) none) (r0 false))))
def Ba3 (N:Nat) (a:LA) (c:Bool) (b:Int) (r0:Bool→Option R):Option R:=(Ba2 N r0 (Atv N r0 b c a) a c b)
def Ao8:=(Ai (@Ba3 R)).1
theorem A6u:@Ao8 R=@Ba3 R:=(Ai _).2
def Ade:Hints:={ H:=(hS (hR [1,2]) (hJ (hS (hR [1,2,32]) (hN [1,2] (hS (hR [4]) hL) hL)) (hJ (hS (hR [1,2,68]) (hN [1,2] (hS (hR [4]) hL) hL)) (hJ (hS (hR [1,2,90]) (hN [1,2] (hS (hR [4]) hL) hL)) (hS (hS (hR [1,2,5]) (hN [2] (hN [1,2,5] (hS (hS (hR [1,2,5,95]) (hN [1,2,5] hL hL)) (hS (hN [1,2,5] (hS (hR [1,2,5,124]) (hN [1,2,5] (hS (hR [4]) hL) hL)) hL) (hR [1,2,5]))) hL) hL)) (hS (hS (hR [2,127]) (hN [2] (hS (hR [4]) hL) hL)) (hS (hR [4]) hL))))))),nils:=[],modes:=[],free:=[],cob:=[] }
def Akz (N:Nat):List (Nat×Tw):=[(51,Biw N),(52,N7 N),(53,Awb N)]
def Fw (N:Nat):Env:=mkE 138 Ade (Akz N)
def Bwa (N:Nat) (F:KF R):=Ao (Fw N) Tryz.f17 Ade.modes [] F
def Hj (N:Nat) (F:KF R):=atF (Fw N) [] N Tryz.f17 Ade (Bwa N F)
def D4  (F:KF R):Bool→Option R:=(fun bh=>F (.bool bh) [])
def Ob (b:Int) (c:Bool) (a:LA) (d:Int):St:={ s:=[(1,(.int .i64 b)),(2,(.optr 300000 0)),(5,(.int .i64 d))],h:=[(300000,⟨false,false,true,c,0,a,false⟩)] }
def Bel (N:Nat) (F:KF R):St→Option R:=Bq (Fw N) [] N (Hj N F [1,1,1,1,0,1,0] []) N
def Adf (N:Nat) (F:KF R) (n:Nat):St→Option R:=A4 (Fw N) [] N (Hj N F [1,1,1,1,0,1,0] []) n
def Adg (b:Int) (c:Bool) (a:LA):St:={ s:=[(1,(.int .i64 b)),(2,(.optr 300000 0))],h:=[(300000,⟨false,false,true,c,0,a,false⟩)] }
def Bem (N:Nat) (F:KF R):St→Option R:=Cg (Fw N) [] N (Hj N F [1,1,1,1] [])
def Ben (N:Nat) (F:KF R):St→Option R:=Ck (Fw N) [] N (Hj N F [1,1,1,1] [])
def Adh (b:Int) (c:Bool) (a:LA):St:={ s:=[(1,(.int .i64 b)),(2,(.optr 300000 0))],h:=[(300000,⟨false,false,true,c,0,a,false⟩)] }
def Beo (N:Nat) (F:KF R):St→Option R:=Cg (Fw N) [] N (Hj N F [1,1,1] [])
def Bep (N:Nat) (F:KF R):St→Option R:=Ck (Fw N) [] N (Hj N F [1,1,1] [])
def Adi (b:Int) (c:Bool) (a:LA):St:={ s:=[(1,(.int .i64 b)),(2,(.optr 300000 0))],h:=[(300000,⟨false,false,true,c,0,a,false⟩)] }
def Beq (N:Nat) (F:KF R):St→Option R:=Cg (Fw N) [] N (Hj N F [1,1] [])
def Ber (N:Nat) (F:KF R):St→Option R:=Ck (Fw N) [] N (Hj N F [1,1] [])
theorem Bnq (N:Nat)  (F:KF R) (b:Int) (c:Bool) (a:LA):∀ (n:Nat) (d:Int),Adf N F n (Ob b c a d)=(Oa N (D4 F) b c a n d):=by
 intro n
 induction n with
 | zero=>intros;kernel_rfl
 | succ n ih =>
  intro d
  have e0:=funext fun d=>(show Adf N F n (Ob b c a d)=_ from ih d)
  have hK:Adf N F (n+1) (Ob b c a d)=(Y3 N (D4 F) b c a (fun d=>Adf N F n (Ob b c a d)) d):=by kernel_rfl
  exact hK.trans (by rw [e0];rfl)
theorem Bnr (N:Nat)  (F:KF R) (b:Int) (c:Bool) (a:LA):Ben N F (Adg b c a)=(Att N (D4 F) b c a):=by
 have e1:=funext fun d=>(show Bel N F (Ob b c a d)=_ from (Ap ..).trans (Bnq N F b c a N d))
 have hK:Ben N F (Adg b c a)=(Am4 N (D4 F) b c a (fun d=>Bel N F (Ob b c a d))):=by kernel_rfl
 exact hK.trans (by rw [e1];rfl)
theorem Bns (N:Nat)  (F:KF R) (b:Int) (c:Bool) (a:LA):Bep N F (Adh b c a)=(Atu N (D4 F) b c a):=by
 have e1:=(show Bem N F (Adg b c a)=_ from (Aw ..).trans (Bnr N F b c a))
 have hK:Bep N F (Adh b c a)=(Am5 N (D4 F) b c a (Bem N F (Adg b c a))):=by kernel_rfl
 exact hK.trans (by rw [e1];rfl)
theorem Bnt (N:Nat)  (F:KF R) (b:Int) (c:Bool) (a:LA):Ber N F (Adi b c a)=(Atv N (D4 F) b c a):=by
 have e1:=(show Beo N F (Adh b c a)=_ from (Aw ..).trans (Bns N F b c a))
 have hK:Ber N F (Adi b c a)=(Am6 N (D4 F) b c a (Beo N F (Adh b c a))):=by kernel_rfl
 exact hK.trans (by rw [e1];rfl)
theorem Atw (N:Nat) (a:LA) (c:Bool) (b:Int) (F:KF R):Ab Tryz.prog muts (Akz N) Ade N 17 [(.pagg a c),(.int .i64 b)] [] F=(Ao8 N a c b (D4 F)):=by
 have e1:=(show Beq N F (Adi b c a)=_ from (Aw ..).trans (Bnt N F b c a))
 have hK:Ab Tryz.prog muts (Akz N) Ade N 17 [(.pagg a c),(.int .i64 b)] [] F=(Ba2 N (D4 F) (Beq N F (Adi b c a)) a c b):=by kernel_rfl
 rw [A6u]
 exact hK.trans (by rw [e1];rfl)
def Y4 (N:Nat) (args:List AV) (h:Ak) (k:KF R):Option R :=
 match args,h with
 | [(.pagg a c),(.int .i64 b)],[]=>(Ao8 N a c b (D4 k))
 | _,_=>none
def Bes (N:Nat):Tw:=⟨Y4 N,fun args h k=>by
 unfold Y4;split
 exact twE (Atw ..) (Atw ..)
 rfl⟩
theorem B0z (N:Nat):Ax Tryz.prog 17 (Bes N):=fun args h res e hh=>by
 change Y4 N args h (fun v e=>some (v,e))=_ at hh
 unfold Y4 at hh;split at hh
 exact Aa (T:=Akz N) ⟨Byd N,Un N,Bnp N,trivial⟩ follows ((Atw ..).trans hh)
 cases hh
end
end Gx

namespace Gx
open Go
theorem wrap_u8 (a:Nat):IntKind.wrap .u8 (a:Int)=((a%256:Nat):Int):=by rw [IntKind.wrap_u8];omega
theorem wrap_u32 (a:Nat) (h:a<4294967296):IntKind.wrap .u32 (a:Int)=(a:Int):=IntWalk.u32_in _ (by omega)
theorem B7w (a:Nat):IntKind.wrap .u32 (a:Int)=((a%4294967296:Nat):Int):=by rw [IntKind.wrap_u32];omega
theorem B81 (a:Int) (h:-9223372036854775808≤a∧a≤9223372036854775807):IntKind.wrap .i64 a=a:=IntWalk.i64_in _ h
theorem wrap_u64 (a:Nat) (h:a<18446744073709551616):IntKind.wrap .u64 (a:Int)=(a:Int):=IntWalk.u64_in _ (by omega)
theorem A4h (w a:Nat):BitVec.ofInt w (a:Int)=BitVec.ofNat w a:=by simp
theorem B5q {k:IntKind} (hs:k.signed=false) {a b:Nat} (ha:a<2 ^ k.bits) (hb:b<2 ^ k.bits):B46 k a b=((a &&& b:Nat):Int):=by
  unfold B46
  rw [A4h,A4h]
  have h1:(BitVec.ofNat k.bits a &&& BitVec.ofNat k.bits b).toNat=a &&& b:=by
    rw [BitVec.toNat_and,BitVec.toNat_ofNat,BitVec.toNat_ofNat,Nat.mod_eq_of_lt ha,Nat.mod_eq_of_lt hb]
  rw [h1]
  have h2:a &&& b<2 ^ k.bits:=Nat.and_lt_two_pow _ hb
  unfold IntKind.wrap
  simp only [hs,Bool.false_and,Bool.false_eq_true,if_false]
  have:(2 ^ k.bits:Int)=((2 ^ k.bits:Nat):Int):=by simp
  rw [this,← Int.natCast_emod,Nat.mod_eq_of_lt h2]
theorem Bye {k:IntKind} (hs:k.signed=false) {a b:Nat} (ha:a<2 ^ k.bits) (hb:b<2 ^ k.bits):Rf k a b=((a ||| b:Nat):Int):=by
  unfold Rf
  rw [A4h,A4h]
  have h1:(BitVec.ofNat k.bits a ||| BitVec.ofNat k.bits b).toNat=a ||| b:=by
    rw [BitVec.toNat_or,BitVec.toNat_ofNat,BitVec.toNat_ofNat,Nat.mod_eq_of_lt ha,Nat.mod_eq_of_lt hb]
  rw [h1]
  have h2:a ||| b<2 ^ k.bits:=Nat.or_lt_two_pow ha hb
  unfold IntKind.wrap
  simp only [hs,Bool.false_and,Bool.false_eq_true,if_false]
  have:(2 ^ k.bits:Int)=((2 ^ k.bits:Nat):Int):=by simp
  rw [this,← Int.natCast_emod,Nat.mod_eq_of_lt h2]
theorem Ur (a k:Nat):Int.fdiv (a:Int) (2 ^ k)=((a/2 ^ k:Nat):Int):=by
  have:(2 ^ k:Int)=((2 ^ k:Nat):Int):=by simp
  rw [this,Int.fdiv_eq_ediv_of_nonneg (a:Int) (Int.natCast_nonneg (2 ^ k))]
  rfl
theorem Bv {R:Type} {k:IntKind} {n:Int} {r:List AV} {f:Int→Option R}:rdI k (.int k n::r) f=f n:=by simp [rdI,Bj7,Sc]
theorem Ac {i n:Nat} (h:i<n):Aj (i:Int) n=true:=by simp [Aj];omega
end Gx

namespace Gx
def val:List Nat→Nat
  | []=>0
  | x::r=>x+4294967296*val r
def Ah (l:List Nat):Prop:=∀ x ∈ l,x<4294967296
def B3a:Nat→Nat→List Nat
  | 0,_=>[]
  | f+1,n=>if n=0 then [] else n%4294967296::B3a f (n/4294967296)
def dig (n:Nat):List Nat:=B3a n n
theorem B6p:∀ (f n:Nat),n≤f→∀ g,n≤g→B3a f n=B3a g n
  | 0,n,h,g,_=>by
    have:n=0:=by omega
    subst this;cases g<;>simp [B3a]
  | f+1,n,h,g,hg=>by
    by_cases h0:n=0
    · subst h0;cases g<;>simp [B3a]
    · cases g with
      | zero=>omega
      | succ g=>simp only [B3a,h0,if_false];rw [B6p f _ (by omega) g (by omega)]
theorem Du:dig 0=[]:=rfl
theorem Atx {n:Nat} (h:n≠0):dig n=n%4294967296::dig (n/4294967296):=by
  unfold dig
  cases n with
  | zero=>omega
  | succ n=>simp only [B3a,h,if_false];rw [B6p n _ (by omega) ((n+1)/4294967296) (by omega)]
theorem Ag:∀ n,val (dig n)=n:=by
  intro n
  induction n using Nat.strongRecOn with
  | _ n ih =>
    by_cases h:n=0
    · subst h;rfl
    · rw [Atx h,val,ih _ (by omega)];omega
theorem Ad:∀ n,Ah (dig n):=by
  intro n
  induction n using Nat.strongRecOn with
  | _ n ih =>
    by_cases h:n=0
    · subst h;intro x hx;simp [Du] at hx
    · rw [Atx h];intro x hx
      simp at hx
      rcases hx with rfl | hx
      · omega
      · exact ih _ (by omega) x hx
theorem Xa:Ah []:=by intro x hx;simp at hx
theorem Dk {x:Nat} {r:List Nat}:Ah (x::r)↔x<4294967296∧Ah r:=by simp [Ah]
theorem Bet {a b:List Nat}:Ah (a++b)↔Ah a∧Ah b:=by simp [Ah,or_imp,forall_and]
theorem Cn {a:List Nat} (h:Ah a) (n:Nat):Ah (a.take n):=fun x hx=>h x (List.mem_of_mem_take hx)
theorem Aty {a:List Nat} (h:Ah a) (n:Nat):Ah (a.drop n):=fun x hx=>h x (List.mem_of_mem_drop hx)
theorem A3 {a:List Nat} (h:Ah a) {i:Nat} (hi:i<a.length):a[i]<4294967296:=h _ (List.getElem_mem hi)
theorem Cs {a:List Nat} (h:Ah a) {v:Nat} (hv:v<4294967296) (i:Nat):Ah (a.set i v):=fun x hx=>by
  rcases List.mem_or_eq_of_mem_set hx with h1 | h1
  · exact h x h1
  · omega
theorem Cq (n:Nat):Ah (List.replicate n 0):=fun x hx=>by simp at hx;omega
theorem Q8:∀ (a b:List Nat),val (a++b)=val a+4294967296 ^ a.length*val b
  | [],b=>by simp [val]
  | x::r,b=>by
    simp only [List.cons_append,val,List.length_cons,Q8 r b,Nat.pow_succ]
    rw [Nat.mul_add,← Nat.add_assoc,← Nat.mul_assoc];congr 2;rw [Nat.mul_comm]
theorem D1:∀ n,val (List.replicate n 0)=0
  | 0=>rfl
  | n+1=>by rw [List.replicate_succ,val,D1 n]
theorem Bn:∀ {a:List Nat},Ah a→val a<4294967296 ^ a.length
  | [],_=>by simp [val]
  | x::r,h=>by
    have h1:=Dk.1 h
    have h2:=Bn h1.2
    rw [val,List.length_cons,Nat.pow_succ]
    omega
theorem B5r (a:List Nat) (x:Nat):val (a++[x])=val a+4294967296 ^ a.length*x:=by rw [Q8];simp [val]
theorem Ba4 {n:Nat} (h:n≠0):dig n≠[]:=by rw [Atx h];simp
theorem Btn {n:Nat}:dig n=[]↔n=0:=by
  constructor
  · intro h;by_cases h0:n=0;exact h0;exact absurd h (Ba4 h0)
  · intro h;rw [h];rfl
theorem Bz {n:Nat}:(dig n).length=0↔n=0:=by rw [List.length_eq_zero_iff,Btn]
theorem Bs:∀ {l:List Nat},Ah l→l=dig (val l)++List.replicate (l.length - (dig (val l)).length) 0∧(dig (val l)).length≤l.length
  | [],_=>by simp [val,Du]
  | x::r,h=>by
    have h1:=Dk.1 h
    obtain ⟨h2,h3⟩:=Bs h1.2
    rw [val]
    by_cases h0:x+4294967296*val r=0
    · have hx:x=0:=by omega
      have hr:val r=0:=by omega
      rw [h0,Du]
      rw [hr,Du] at h2
      simp at h2
      subst hx
      refine ⟨?_,by simp⟩
      rw [List.nil_append,List.length_nil,Nat.sub_zero,List.length_cons,List.replicate_succ,← h2]
    · rw [Atx h0,show (x+4294967296*val r)%4294967296=x by omega,show (x+4294967296*val r)/4294967296=val r by omega]
      refine ⟨?_,by simp;exact h3⟩
      rw [List.cons_append,List.length_cons,List.length_cons,Nat.add_sub_add_right,← h2]
theorem Bto:∀ (n:Nat) (h:dig n≠[]),(dig n).getLast h≠0:=by
  intro n
  induction n using Nat.strongRecOn with
  | _ n ih =>
    intro h
    have h0:n≠0:=fun e=>h (by rw [e];rfl)
    have e:=Atx h0
    by_cases h1:n/4294967296=0
    · rw [h1,Du] at e
      have:n<4294967296:=by omega
      simp [e];omega
    · have h2:=Ba4 h1
      have:=ih _ (by omega) h2
      have h3:(dig n).getLast h=(dig (n/4294967296)).getLast h2:=by
        simp only [e];rw [List.getLast_cons h2]
      rw [h3];exact this
theorem Cbq:∀ {l:List Nat},Ah l→(∀ h:l≠[],l.getLast h≠0)→dig (val l)=l:=by
  intro l h hl
  obtain ⟨h1,h2⟩:=Bs h
  by_cases hk:l.length - (dig (val l)).length=0
  · rw [hk] at h1;simpa using h1.symm
  · exfalso
    obtain ⟨k,hk⟩:=Nat.exists_eq_succ_of_ne_zero hk
    rw [hk,List.replicate_succ',← List.append_assoc] at h1
    have hne:l≠[]:=by intro e;rw [e] at h1;simp at h1
    apply hl hne
    have h3:l.getLast?=some 0:=by rw [h1,List.getLast?_append];rfl
    rw [List.getLast?_eq_some_getLast hne] at h3
    simpa using h3
theorem Dc {n k:Nat} (h:n<4294967296 ^ k):(dig n).length≤k:=by
  induction k generalizing n with
  | zero => have : n = 0 := by simpa using h
            subst this;simp [Du]
  | succ k ih =>
    by_cases h0:n=0
    · subst h0;simp [Du]
    · rw [Atx h0,List.length_cons]
      have:n/4294967296<4294967296 ^ k:=by
        rw [Nat.pow_succ] at h
        exact Nat.div_lt_of_lt_mul (by rw [Nat.mul_comm];exact h)
      have:=ih this
      omega
theorem Cc {a b:Nat} (h:a≤b):(dig a).length≤(dig b).length:=by
  apply Dc
  have:=Bn (Ad b)
  rw [Ag] at this
  omega
end Gx

namespace Gx
theorem Byf {U V U3 V2 P d:Nat} (hV:V2*P≤V) (hU:U<(U3+1)*P) (h:U3<d*V2) (hv:0<V):U/V<d:=by
  rw [Nat.div_lt_iff_lt_mul hv]
  have h1:(U3+1)*P≤d*V2*P:=Nat.mul_le_mul_right _ h
  have h2:d*(V2*P)≤d*V:=Nat.mul_le_mul_left _ hV
  rw [← Nat.mul_assoc] at h2
  omega
theorem Byg {U V U3 V2 P d:Nat} (hV:V<(V2+1)*P) (hU:U3*P≤U) (h:d*V2≤U3) (hd:d≤V2+1) (hv:0<V):d≤U/V+1:=by
  cases d with
  | zero=>exact Nat.zero_le _
  | succ d =>
    have:d≤U/V:=by
      rw [Nat.le_div_iff_mul_le hv]
      have h1:(d+1)*V2*P≤U3*P:=Nat.mul_le_mul_right _ h
      have h2:d*V≤d*((V2+1)*P):=Nat.mul_le_mul_left _ (by omega)
      have h3:d*((V2+1)*P)≤(d+1)*V2*P:=by
        rw [← Nat.mul_assoc]
        apply Nat.mul_le_mul_right
        rw [Nat.mul_add,Nat.add_mul];omega
      omega
    omega
theorem B3b {a b u v s t x y:Nat} (hx:x+v*b=u*a) (hy:y+s*a=t*b) (hdet:u*t=v*s+1):Nat.gcd x y=Nat.gcd a b:=by
  have e1:t*x+v*y=a:=by
    have h1:t*x+t*v*b=t*u*a:=by rw [← Nat.mul_assoc t u a |>.symm,Nat.mul_assoc t v b,← Nat.mul_add,hx]
    have h2:v*y+v*s*a=v*t*b:=by rw [Nat.mul_assoc,Nat.mul_assoc,← Nat.mul_add,hy]
    have h3:t*u*a=v*s*a+a:=by rw [Nat.mul_comm t u,hdet,Nat.add_mul,Nat.one_mul]
    have h4:t*v*b=v*t*b:=by rw [Nat.mul_comm t v]
    omega
  have e2:s*x+u*y=b:=by
    have h1:s*x+s*v*b=s*u*a:=by rw [Nat.mul_assoc,Nat.mul_assoc,← Nat.mul_add,hx]
    have h2:u*y+u*s*a=u*t*b:=by rw [Nat.mul_assoc,Nat.mul_assoc,← Nat.mul_add,hy]
    have h3:u*t*b=v*s*b+b:=by rw [hdet,Nat.add_mul,Nat.one_mul]
    have h4:s*u*a=u*s*a:=by rw [Nat.mul_comm s u]
    have h5:s*v*b=v*s*b:=by rw [Nat.mul_comm s v]
    omega
  apply Nat.dvd_antisymm
  · apply Nat.dvd_gcd
    · rw [← e1];exact Nat.dvd_add (Nat.dvd_mul_left_of_dvd (Nat.gcd_dvd_left x y) t) (Nat.dvd_mul_left_of_dvd (Nat.gcd_dvd_right x y) v)
    · rw [← e2];exact Nat.dvd_add (Nat.dvd_mul_left_of_dvd (Nat.gcd_dvd_left x y) s) (Nat.dvd_mul_left_of_dvd (Nat.gcd_dvd_right x y) u)
  · apply Nat.dvd_gcd
    · have h1:Nat.gcd a b∣x+v*b:=by rw [hx];exact Nat.dvd_mul_left_of_dvd (Nat.gcd_dvd_left a b) u
      exact (Nat.dvd_add_left (Nat.dvd_mul_left_of_dvd (Nat.gcd_dvd_right a b) v)).1 h1
    · have h1:Nat.gcd a b∣y+s*a:=by rw [hy];exact Nat.dvd_mul_left_of_dvd (Nat.gcd_dvd_right a b) t
      exact (Nat.dvd_add_left (Nat.dvd_mul_left_of_dvd (Nat.gcd_dvd_left a b) s)).1 h1
theorem Ak0 {a b x y P u v w:Nat} (ha:x*P≤a) (hb:b<(y+1)*P) (hw:u*x=w+v*y) (hv:v≤w):v*b≤u*a:=by
  have h1:u*(x*P)≤u*a:=Nat.mul_le_mul_left _ ha
  have h2:v*b≤v*((y+1)*P):=Nat.mul_le_mul_left _ (by omega)
  have h3:v*((y+1)*P)≤u*(x*P):=by
    rw [← Nat.mul_assoc,← Nat.mul_assoc]
    apply Nat.mul_le_mul_right
    rw [hw,Nat.mul_add];omega
  omega
end Gx

namespace Gx
open Go
section
variable {R:Type}
def Ae (l:List Nat):List AV:=l.map fun n:Nat=>.int .u32 (n:Int)
theorem Aev (x:Nat) (l:List Nat):Ae (x::l)=.int .u32 (x:Int)::Ae l:=rfl
theorem B4 (l:List Nat):(Ae l).length=l.length:=by simp [Ae]
theorem B7x (l:List Nat) (n:Nat):(Ae l).drop n=Ae (l.drop n):=by simp [Ae,List.map_drop]
theorem Xb (l:List Nat) (n:Nat):(Ae l).take n=Ae (l.take n):=by simp [Ae,List.map_take]
theorem Beu (l:List Nat) (j:Nat) (v:Nat):List.set (Ae l) j (.int .u32 (v:Int))=Ae (l.set j v):=by simp [Ae,List.map_set]
theorem Dd (n:Nat):List.replicate n (AV.int .u32 0)=Ae (List.replicate n 0):=by simp [Ae]
theorem B3c {l:List Nat} {i:Nat} (h:i<l.length) {f:Int→Option R}:rdI .u32 (List.drop i (Ae l)) f=f (l[i]:Nat):=by
  rw [B7x,List.drop_eq_getElem_cons h,Aev,Bv]
theorem Ak1:∀ l:List Nat,Bm (Ae l)=true
  | []=>rfl
  | x::r=>by rw [Aev,Bm];exact Ak1 r
theorem Ao9 (a b:Nat):(a:Int)+(b:Int)=((a+b:Nat):Int):=by omega
theorem Btp (a b:Nat):(a:Int)*(b:Int)=((a*b:Nat):Int):=by simp
theorem w64 {a:Nat} (h:a<18446744073709551616):IntKind.wrap .u64 (a:Int)=(a:Int):=wrap_u64 a h
theorem w32 {a:Nat} (h:a<4294967296):IntKind.wrap .u32 (a:Int)=(a:Int):=wrap_u32 a h
theorem Ba5 (a:Nat):IntKind.wrap .u32 (a:Int)=((a%4294967296:Nat):Int):=B7w a
theorem Ba6 (a:Int):IntKind.wrap .u64 a=a%18446744073709551616:=IntKind.wrap_u64 a
theorem Biy {a b:Nat} (ha:a<18446744073709551616) (hb:b≤a):IntKind.wrap .u64 ((a:Int) - (b:Int))=((a - b:Nat):Int):=by rw [Ba6];omega
theorem B82 {a b:Nat} (h:a<b) (hb:b≤18446744073709551616):IntKind.wrap .u64 ((a:Int) - (b:Int))=((18446744073709551616+a - b:Nat):Int):=by rw [Ba6];omega
theorem Biz (a:Nat):Int.fdiv (a:Int) (2 ^ 32)=((a/4294967296:Nat):Int):=Ur a 32
theorem Ccc (a:Nat):Int.fdiv (a:Int) (2 ^ 63)=((a/9223372036854775808:Nat):Int):=Ur a 63
theorem i64 {a:Int} (h:-9223372036854775808≤a∧a≤9223372036854775807):IntKind.wrap .i64 a=a:=B81 a h
theorem B5s {a b:Nat} (ha:a<18446744073709551616) (hb:b<18446744073709551616):Rf .u64 (a:Int) (b:Int)=((a ||| b:Nat):Int):=Bye rfl ha hb
theorem Bi0 {a b k:Nat} (h:b<2 ^ k):a*2 ^ k ||| b=a*2 ^ k+b:=by
  rw [← Nat.shiftLeft_eq,Nat.shiftLeft_add_eq_or_of_lt h]
end
end Gx

namespace Gx
open Go Go.Proofs
section
variable {R:Type}
def fit (k N:Nat):Prop:=100*k+1000≤N∧k≤1000000000
theorem fit.le {j k N:Nat} (h:fit k N) (hj:j≤k):fit j N:=⟨by have:=h.1;omega,by have:=h.2;omega⟩
theorem ct (x y:Option R):cond true x y=x:=rfl
theorem cf (x y:Option R):cond false x y=y:=rfl
theorem ctB (x y:Bool):cond true x y=x:=rfl
theorem cfB (x y:Bool):cond false x y=y:=rfl
theorem B5t (c:Nat):((decide (((c+1:Nat):Int)>(0:Int)))==true)=true:=by simp
theorem ltT {j n:Nat} (h:j<n):decide ((j:Int)<(n:Int))=true:=by simp;omega
theorem ltF {j n:Nat} (h:n≤j):decide ((j:Int)<(n:Int))=false:=by simp;omega
theorem wS {j:Nat} (h:j≤1000000000000):IntKind.wrap .i64 ((j:Int)+1)=((j+1:Nat):Int):=by rw [i64 (by omega)];omega
theorem wP {j:Nat} (h:j≤1000000000000):IntKind.wrap .i64 (((j+1:Nat):Int) - 1)=(j:Int):=by rw [i64 (by omega)];omega
theorem wA {j k:Nat} (h:j+k≤1000000000000):IntKind.wrap .i64 ((j:Int)+(k:Int))=((j+k:Nat):Int):=by rw [i64 (by omega)];omega
theorem rdl {l:List Nat} {j:Nat} (h:j<l.length) {f:Int→Option R}:rdI .u32 (List.drop ((Int.toNat (j:Int))*1) (Ae l)) f=f (l[j]:Nat):=by
  rw [Int.toNat_natCast,Nat.mul_one,B3c h]
theorem Bev {l:List Nat} {j:Nat} (h:j<l.length) {f:Int→Option R}:rdI .u32 (List.drop (0+((Int.toNat (j:Int))*1)) (Ae l)) f=f (l[j]:Nat):=by
  rw [Nat.zero_add,rdl h]
theorem sl0 {c a:Nat} (h:c≤a):((decide ((0:Int)≤(0:Int)))&&((decide ((0:Int)≤(c:Int)))&&((decide ((c:Int)≤(a:Int)))&&(decide ((a:Int)≤(a:Int))))))=true:=by
  simp;omega
theorem mk4 {n:Nat} (h:n≤1000000000000):((decide ((0:Int)≤(n:Int)))&&((decide ((n:Int)≤(n:Int)))&&((decide ((n:Int)≤(140737488355328:Int)))&&(decide (((n:Int)*((4:Nat):Int))≤(140737488355328:Int))))))=true:=by
  simp;omega
theorem st1 {x:Nat} {m:List Nat} (h:x<m.length):((Nat.beq 1 1)&&((Nat.ble ((0+((Int.toNat (x:Int))*1))+1) (List.length (Ae m)))&&(!false)))=true:=by
  rw [B4,Int.toNat_natCast];simp;omega
theorem A0v {x v:Nat} {m:List Nat}:List.set (Ae m) (0+((Int.toNat (x:Int))*1)) (.int .u32 (v:Int))=Ae (m.set x v):=by
  rw [Int.toNat_natCast,Nat.mul_one,Nat.zero_add,Beu]
theorem B3d {l:List Nat} (h:Ah l):l.take (dig (val l)).length=dig (val l):=by
  obtain ⟨h1,h2⟩:=Bs h
  rw [congrArg (List.take (dig (val l)).length) h1,List.take_left]
theorem K6 {l:List Nat} (h:Ah l):List.take ((dig (val l)).length*1) (Ae l)=Ae (dig (val l)):=by rw [Nat.mul_one,Xb,B3d h]
theorem Av {l:List Nat} {c:Nat} (h:c<l.length):val (l.take (c+1))=val (l.take c)+4294967296 ^ c*l[c]:=by
  rw [List.take_succ_eq_append_getElem h,B5r,List.length_take,Nat.min_eq_left (by omega)]
theorem B00 {l:List Nat} {c:Nat} (hl:Ah l) (h:c<l.length) (h0:l[c]≠0):dig (val (l.take (c+1)))=l.take (c+1):=by
  apply Cbq (Cn hl _)
  intro hne
  rw [List.getLast_eq_getElem]
  simp only [List.length_take,Nat.min_eq_left (show c+1≤l.length by omega),Nat.add_sub_cancel,List.getElem_take]
  exact h0
theorem Btq {N:Nat} {l:List Nat} {K:Nat→Option R} (hl:Ah l) (hs:l.length≤1000000000000):∀ (c fuel:Nat),c≤l.length→c<fuel →
    Aef N K l.length (Ae l) fuel (c:Int)=K (dig (val (l.take c))).length
  | 0,fuel+1,hc,_=>by
    rw [Aef];unfold Aq5
    rw [show decide (((0:Nat):Int)>0)=false by simp]
    rw [show ((false:Bool)==true)=false by rfl,cf,sl0 (by omega),ct,Int.toNat_natCast];rfl
  | c+1,fuel+1,hc,hf=>by
    rw [Aef];unfold Aq5
    rw [B5t,ct,wP (by omega),Ac (by omega),ct,Bev (by omega),ctB,sl0 (by omega),ct,Btq hl hs c fuel (by omega) (by omega),Int.toNat_natCast]
    by_cases h0:l[c]=0
    · rw [Av (by omega),h0];simp
    · rw [B00 hl (by omega) h0,List.length_take,Nat.min_eq_left hc]
      rw [show (((l[c]:Nat):Int)==0)=false by simp;exact h0,cf]
theorem Apa {N:Nat} {l:List Nat} {n:Nat} {K:Nat→Option R} (hn:n=l.length) (hl:Ah l) (hf:fit l.length N):Aaq N n (Ae l) K=K (dig (val l)).length:=by
  subst hn
  have h1:=hf.1;have h2:=hf.2
  rw [A8q];unfold Boe Bod
  dsimp only
  rw [Btq hl (by omega) l.length N (Nat.le_refl _) (by omega),List.take_length]
theorem Byh {N:Nat} {l:List Nat} {t o:Bool} {K:LA→Nat→Option R} (hl:Ah l) (hs:l.length≤1000000000000):∀ (c fuel:Nat),c≤l.length→c<fuel →
    Nk N K (Ae l) l.length t o fuel (c:Int)=K (Ae (dig (val (l.take c)))) (dig (val (l.take c))).length
  | 0,fuel+1,hc,_=>by
    rw [Nk];unfold X5
    rw [show decide (((0:Nat):Int)>0)=false by simp]
    rw [show ((false:Bool)==true)=false by rfl,cf,sl0 (by omega),ct,Int.toNat_natCast];rfl
  | c+1,fuel+1,hc,hf=>by
    rw [Nk];unfold X5
    rw [B5t,ct,wP (by omega),Ac (by omega),ct,rdl (by omega),ctB,sl0 (by omega),ct,Byh hl hs c fuel (by omega) (by omega),Int.toNat_natCast,Nat.mul_one,Xb]
    by_cases h0:l[c]=0
    · rw [Av (by omega),h0];simp
    · rw [B00 hl (by omega) h0,List.length_take,Nat.min_eq_left hc]
      rw [show (((l[c]:Nat):Int)==0)=false by simp;exact h0,cf]
theorem Ce {N:Nat} {l:List Nat} {n:Nat} {t o:Bool} {K:LA→Nat→Option R} (hn:n=l.length) (hl:Ah l) (hf:fit l.length N):Cm N (Ae l) n t o K=K (Ae (dig (val l))) (dig (val l)).length:=by
  subst hn
  have h1:=hf.1;have h2:=hf.2
  rw [A5u];unfold A8u A8t
  dsimp only
  rw [Byh hl (by omega) l.length N (Nat.le_refl _) (by omega),List.take_length]
theorem B7y {N:Nat} {K:LA→Option R} (hN:1≤N):Aoh N K=K []:=by
  rw [A5w];unfold A8w A8v
  cases N with
  | zero=>omega
  | succ N=>rw [Acl];rfl
end
end Gx

namespace Gx
open Go Go.RowKit
theorem B7z {P:Program} {f:Nat} {t:Tw} (hok:Ax P f t) {W:World} {avs:List AV} {vs:List Value} (hr:Reps (fun _ k=>k<W.heap.size) (fun _=>none) [] W avs vs)
    (hrun:(t.runK avs [] fun v h=>some (v,h))=some (.bool true,[])):Calls P f vs.toArray W fun e w'=>e=.returned (.bool true)∧Below W.heap.size W w':=by
  have S:SimH (fun _ k=>k<W.heap.size) (fun _=>none) [] W:=⟨fun _ _ h=>h,fun _ h=>h,fun b x hb=>by simp [An] at hb,fun b x hb=>by simp [An] at hb,fun b b' x x' k o o' hb=>by simp [An] at hb⟩
  refine Calls.mono (hok avs [] _ _ hrun _ _ W vs S hr) ?_
  rintro e w' ⟨vc,J',β',rfl,F,hv⟩
  rw [Rep] at hv;subst hv
  refine ⟨rfl,F.os,F.tape,F.output,F.size,fun k hk=>F.frame k hk ?_⟩
  rintro ⟨b,x,o,hb,_⟩
  change An [] b=some x at hb
  simp [An] at hb
structure Opens (P:Program) (t:TypeId) {α:Type} (e:α→List AV) (n:Nat):Prop where
  size:P.cellsOf t=n
  pos:0<n
  len:∀ a,(e a).length=n
  read:∀ {H:Type} (enc:TypeId×Value→H) (W:World) (fuel:Nat) (cs:List Value) (d:DataW H) (ps:List MemPlace),DataW.trod enc P W 0 (fun _=>true) true fuel t cs=some (d,ps) →
    cs.length=n∧∃ a,RepCs (fun k=>k<W.heap.size) W (e a) (fun j=>cs[j]?) 0
theorem Byi {P:Program} {t:TypeId} {k:IntKind} (hu:P.underlying t=some (.int k)) (hc:P.cellsOf t=1):Opens P t (α:={ n:Int // (Lit.int k n).wf=true }) (fun n=>[.int k n.1]) 1:=by
  refine ⟨hc,by omega,fun _=>rfl,fun enc W fuel cs d ps h=>?_⟩
  obtain ⟨n,rfl,_,hw⟩:=DataW.trod_int hu h
  exact ⟨rfl,⟨n,hw⟩,by simp [RepCs,RepC]⟩
theorem B5u {P:Program} {t:TypeId} (hu:P.underlying t=some .bool) (hc:P.cellsOf t=1):Opens P t (α:=Bool) (fun b=>[.bool b]) 1:=by
  refine ⟨hc,by omega,fun _=>rfl,fun enc W fuel cs d ps h=>?_⟩
  obtain ⟨b,rfl,_⟩:=DataW.trod_bool hu h
  exact ⟨rfl,b,by simp [RepCs,RepC]⟩
theorem Bme {α β:Type} {e:α→List β} {n:Nat} (hn:0<n) (he:∀ a,(e a).length=n):∀ (l:List α) (j:Nat),(l.flatMap e)[j]?=(l[j/n]?).bind fun a=>(e a)[j%n]?
  | [],j=>by simp
  | a::r,j=>by
    rw [List.flatMap_cons]
    by_cases hj:j<n
    · rw [List.getElem?_append_left (by rw [he];exact hj),Nat.div_eq_of_lt hj,Nat.mod_eq_of_lt hj];simp
    · rw [List.getElem?_append_right (by rw [he];omega),he,Bme hn he r (j - n)]
      have h1:j/n=(j - n)/n+1:=by
        have:=Nat.add_div_right (j - n) hn
        rw [show j - n+n=j by omega] at this;exact this
      have h2:j%n=(j - n)%n:=by
        have:=Nat.add_mod_right (j - n) n
        rw [show j - n+n=j by omega] at this;exact this
      rw [h1,h2];simp
theorem Bmf {α β:Type} {e:α→List β} {n:Nat} (he:∀ a,(e a).length=n):∀ (l:List α),(l.flatMap e).length=l.length*n
  | []=>by simp
  | a::r=>by rw [List.flatMap_cons,List.length_append,he,Bmf he r,List.length_cons,Nat.succ_mul];omega
theorem B3e {α β:Type} {f:α→Option β}:∀ {l:List α} {r:List β},l.mapM f=some r→r.length=l.length∧∀ (i:Nat) (a:α),l[i]?=some a→f a=r[i]?
  | [],r,h=>by simp at h;subst h;simp
  | x::l,r,h=>by
    rw [List.mapM_cons] at h
    cases hx:f x with
    | none=>simp [hx] at h
    | some y =>
      cases hl:l.mapM f with
      | none=>simp [hx,hl] at h
      | some ys =>
        simp [hx,hl] at h
        subst h
        obtain ⟨h1,h2⟩:=B3e hl
        refine ⟨by simp [h1],fun i a hi=>?_⟩
        cases i with
        | zero=>simp at hi;subst hi;simpa using hx
        | succ i=>simpa using h2 i a (by simpa using hi)
theorem Rt {P:Program} {t el:TypeId} {α:Type} {e:α→List AV} {n:Nat} (hu:P.underlying t=some (.slice el)) (hc:P.cellsOf t=1) (he:Opens P el e n) :
    Opens P t (α:={ l:List α // l.length≤maxLen }) (fun l=>[.imm (l.1.flatMap e) l.1.length n false false]) 1:=by
  refine ⟨hc,by omega,fun _=>rfl,fun enc W fuel cs d ps h=>?_⟩
  cases fuel with
  | zero=>simp [DataW.trod] at h
  | succ fuel =>
    unfold DataW.trod at h
    simp only [hu] at h
    split at h
    all_goals first | (rename_i hx;simp at hx;done) | (rename_i hx _;simp at hx;done) | (rename_i hx _ _;simp at hx;done) | skip
    · refine ⟨rfl,⟨[],by simp⟩,?_⟩
      simp [RepCs,RepC]
    · rename_i e' a len cap hx
      simp at hx;subst hx
      split at h
      · rename_i hcond
        obtain ⟨hb,hlc,hcm⟩:=hcond
        refine ⟨rfl,?_⟩
        cases hm:(List.range len).mapM (fun i=>(W.cells? 0 (a.add (i*P.cellsOf el)) (P.cellsOf el)).bind (DataW.trod enc P W 0 (fun _=>true) true fuel el)) with
        | none=>rw [hm] at h;simp at h
        | some Bwv =>
          obtain ⟨h1,h2⟩:=B3e hm
          rw [he.size] at h2
          have each:∀ i:Nat,i<len→∃ x:α,∃ cs,W.cells? 0 (a.add (i*n)) n=some cs∧RepCs (fun k=>k<W.heap.size) W (e x) (fun j=>cs[j]?) 0:=by
            intro i hi
            have h3:=h2 i i (by simp [hi])
            rw [List.getElem?_eq_getElem (by rw [h1];simpa using hi)] at h3
            cases hcs:W.cells? 0 (a.add (i*n)) n with
            | none=>rw [hcs] at h3;simp at h3
            | some cs =>
              rw [hcs] at h3
              obtain ⟨_,x,hx⟩:=he.read enc W fuel cs _ _ h3
              exact ⟨x,cs,rfl,hx⟩
          have build:∀ m,m≤len→∃ l:List α,l.length=m∧∀ i x,l[i]?=some x→∃ cs,W.cells? 0 (a.add (i*n)) n=some cs∧RepCs (fun k=>k<W.heap.size) W (e x) (fun j=>cs[j]?) 0:=by
            intro m
            induction m with
            | zero=>intro _;exact ⟨[],rfl,by simp⟩
            | succ m ih =>
              intro hm
              obtain ⟨l,hl,hl2⟩:=ih (by omega)
              obtain ⟨x,cs,hx1,hx2⟩:=each m (by omega)
              refine ⟨l++[x],by simp [hl],fun i y hy=>?_⟩
              rw [List.getElem?_append] at hy
              split at hy
              · exact hl2 i y hy
              · have : i = m := by
                  have:=(List.getElem?_eq_some_iff.1 hy).1
                  simp at this;omega
                subst this
                simp [hl] at hy;subst hy
                exact ⟨cs,hx1,hx2⟩
          obtain ⟨l,hl,hl2⟩:=build len (Nat.le_refl _)
          refine ⟨⟨l,by omega⟩,?_⟩
          simp only [RepCs,RepC,and_true]
          refine ⟨_,rfl,?_,some a,cap,by rw [hl],by omega,by simp,?_⟩
          · exact Bmf he.len l
          · by_cases h0:l.length=0
            · exact .inl h0
            · right
              refine ⟨a,rfl,?_,?_⟩
              · obtain ⟨x,cs,hx,_⟩:=each 0 (by omega)
                have:=World.cells?_block hx he.pos
                rwa [Vs] at this
              · rw [Cr]
                intro j x hj
                rw [Bme he.pos he.len] at hj
                cases hq:l[j/n]? with
                | none=>rw [hq] at hj;simp at hj
                | some y =>
                  rw [hq] at hj
                  simp at hj
                  obtain ⟨cs,hcs,hrep⟩:=hl2 (j/n) y hq
                  rw [Cr] at hrep
                  obtain ⟨u,hu1,hu2⟩:=hrep (j%n) x hj
                  refine ⟨u,?_,hu2⟩
                  obtain ⟨_,hlen,hcell⟩:=World.cells?_some hcs
                  have hlt:j%n<n:=Nat.mod_lt _ he.pos
                  have:=hcell (j%n) hlt
                  rw [Addr.add_add,show j/n*n+j%n=j by rw [Nat.mul_comm];exact Nat.div_add_mod j n] at this
                  simp only [Nat.zero_add] at hu1 ⊢
                  rw [this];exact hu1
      · simp at h
    · simp at h
end Gx

namespace Gx
open Go Go.RowKit
section
variable {P:Program} {W:World} {H:Type} {enc:TypeId×Value→H} {β:Cw} {h:Ak}
theorem Cad {t el:TypeId} {α:Type} {e:α→List AV} {n:Nat} {a:Option Addr} {len cap:Nat} {d:DataW H} {p:List MemPlace} (hu:P.underlying t=some (.slice el)) (hc:P.cellsOf t=1) (he:Opens P el e n)
    (hd:DataW.Trod enc P W 0 (fun _=>true) true t (.slice a len cap) d p):∃ l:List α,l.length≤maxLen∧Rep (fun _ k=>k<W.heap.size) β h W (.imm (l.flatMap e) l.length n false false) (.slice a len cap):=by
  obtain ⟨fuel,hf⟩:=hd
  obtain ⟨_,⟨l,hl⟩,hr⟩:=(Rt hu hc he).read enc W fuel _ _ _ hf
  refine ⟨l,hl,?_⟩
  simp only [RepCs,Value.cells,and_true] at hr
  obtain ⟨u,hu,hr⟩:=hr
  simp at hu;subst hu
  rw [Rep];exact hr
theorem Cae {k:IntKind} {n:Int}:Rep (fun _ k=>k<W.heap.size) β h W (.int k n) (.int k n):=by rw [Rep]
theorem B83:Reps (fun _ k=>k<W.heap.size) β h W [] []:=by rw [Reps]
theorem Apb {x:AV} {xs:List AV} {v:Value} {vs:List Value} (h1:Rep (fun _ k=>k<W.heap.size) β h W x v) (h2:Reps (fun _ k=>k<W.heap.size) β h W xs vs):Reps (fun _ k=>k<W.heap.size) β h W (x::xs) (v::vs):=by
  rw [Reps];exact ⟨v,vs,rfl,h1,h2⟩
end
end Gx

namespace Gx
open Go Go.RowKit
section
variable {P:Program} {W:World} {H:Type} {enc:TypeId×Value→H} {β:Cw} {h:Ak}
theorem B3f {t:TypeId} {α:Type} {e:α→List AV} {n:Nat} {cs:Array Value} {d:DataW H} {p:List MemPlace} (he:Opens P t e n)
    (hd:DataW.Trod enc P W 0 (fun _=>true) true t (.agg cs) d p):∃ a:α,Rep (fun _ k=>k<W.heap.size) β h W (.pagg (e a) false) (.agg cs):=by
  obtain ⟨fuel,hf⟩:=hd
  obtain ⟨hl,a,hr⟩:=he.read enc W fuel _ _ _ hf
  refine ⟨a,?_⟩
  rw [Rep]
  exact ⟨cs.toList,rfl,by rw [he.len];exact hl,hr⟩
end
end Gx

namespace Gx
open Go Go.Proofs
inductive Sl (α:Type) where
  | nil
  | of (l:List α) (t o:Bool)
def Sl.l {α:Type}:Sl α→List α
  | .nil=>[]
  | .of l _ _=>l
def Sl.av {α:Type} (sz:Nat) (e:α→List AV):Sl α→AV
  | .nil=>.nsl
  | .of l t o=>.imm (l.flatMap e) l.length sz t o
def B84 (n:Int):List AV:=[.int .i64 n]
def Hy (l:List Int):List AV:=l.map fun n=>.int .i64 n
theorem Xc:∀ l:List Int,l.flatMap B84=Hy l
  | []=>rfl
  | a::r=>by rw [List.flatMap_cons,Xc r];rfl
structure SegD where
  width:Int
  price:Int
structure UnitD where
  name:List UInt8
  bus:Int
  min:Int
  max:Int
  segs:Sl SegD
  noLoad:Int
  rampUp:Int
  rampDown:Int
  startRamp:Int
  stopRamp:Int
  upTime:Int
  downTime:Int
  startTime:Int
  hotCost:Int
  coldCost:Int
  hotHours:Int
  reserve:Int
  reservePrice:Int
  away:Sl Int
  state:Int
  hours:Int
  output:Int
def SegD.av (s:SegD):List AV:=[.int .i64 s.width,.int .i64 s.price]
def UnitD.av (u:UnitD):List AV:=[.str u.name,.int .i64 u.bus,.int .i64 u.min,.int .i64 u.max,u.segs.av 2 SegD.av,.int .i64 u.noLoad,.int .i64 u.rampUp,.int .i64 u.rampDown,.int .i64 u.startRamp,.int .i64 u.stopRamp,.int .i64 u.upTime,.int .i64 u.downTime,.int .i64 u.startTime,.int .i64 u.hotCost,.int .i64 u.coldCost,.int .i64 u.hotHours,.int .i64 u.reserve,.int .i64 u.reservePrice,u.away.av 1 B84,.int .i64 u.state,.int .i64 u.hours,.int .i64 u.output]
section
variable {R:Type}
theorem Btr {α:Type} {sz:Nat} {e:α→List AV} {s:Sl α} {r:List AV} {f:List AV→Nat→Option R}:rdL sz (s.av sz e::r) f=f (s.l.flatMap e) s.l.length:=by
  cases s<;>simp [rdL,Sl.av,Sl.l,B8k]
theorem A4i {α:Type} {e:α→List AV} {sz:Nat} (he:∀ a,(e a).length=sz):∀ (l:List α) (j:Nat) (h:j<l.length),List.drop (j*sz) (l.flatMap e)=e l[j]++(l.drop (j+1)).flatMap e
  | a::r,0,_=>by simp
  | a::r,j+1,h=>by
    have:=A4i he r j (by simpa using h)
    rw [List.flatMap_cons,List.drop_append,he,show (j+1)*sz - sz=j*sz by rw [Nat.add_mul];omega,List.drop_eq_nil_of_le (by rw [he,Nat.add_mul];omega)]
    simpa using this
theorem B85 {l:List Int} {i:Nat} (h:i<l.length) {f:Int→Option R}:rdI .i64 (List.drop i (Hy l)) f=f l[i]:=by
  rw [Hy,List.drop_eq_getElem_cons (by simpa using h)];simp [Bv]
theorem Ew {l:List Int} {i:Nat} (h:i<l.length) {f:Int→Option R}:rdI .i64 (List.drop ((Int.toNat (i:Int))*1) (Hy l)) f=f l[i]:=by
  rw [Int.toNat_natCast,Nat.mul_one,B85 h]
theorem Dw {α:Type} {l:List α} {j:Nat} (h:j<l.length):l.drop j=l[j]::l.drop (j+1):=List.drop_eq_getElem_cons h
theorem Km {α:Type} {l:List α} {j:Nat} (h:l.length≤j):l.drop j=[]:=List.drop_eq_nil_of_le h
theorem cK {α:Type} (K:α→Option R) (c:Bool) (a b:α):cond c (K a) (K b)=K (cond c a b):=by cases c<;>rfl
theorem Bt (u:UnitD):List.take 22 u.av=u.av:=rfl
theorem Cz (u:UnitD):Nat.ble 22 (List.length u.av)=true:=rfl
theorem u2 {u:UnitD} {f:Int→Option R}:rdI .i64 (List.drop 2 u.av) f=f u.min:=Bv
theorem u3 {u:UnitD} {f:Int→Option R}:rdI .i64 (List.drop 3 u.av) f=f u.max:=Bv
theorem u5 {u:UnitD} {f:Int→Option R}:rdI .i64 (List.drop 5 u.av) f=f u.noLoad:=Bv
theorem u6 {u:UnitD} {f:Int→Option R}:rdI .i64 (List.drop 6 u.av) f=f u.rampUp:=Bv
theorem u7 {u:UnitD} {f:Int→Option R}:rdI .i64 (List.drop 7 u.av) f=f u.rampDown:=Bv
theorem u8 {u:UnitD} {f:Int→Option R}:rdI .i64 (List.drop 8 u.av) f=f u.startRamp:=Bv
theorem u9 {u:UnitD} {f:Int→Option R}:rdI .i64 (List.drop 9 u.av) f=f u.stopRamp:=Bv
theorem u10 {u:UnitD} {f:Int→Option R}:rdI .i64 (List.drop 10 u.av) f=f u.upTime:=Bv
theorem u11 {u:UnitD} {f:Int→Option R}:rdI .i64 (List.drop 11 u.av) f=f u.downTime:=Bv
theorem u12 {u:UnitD} {f:Int→Option R}:rdI .i64 (List.drop 12 u.av) f=f u.startTime:=Bv
theorem u13 {u:UnitD} {f:Int→Option R}:rdI .i64 (List.drop 13 u.av) f=f u.hotCost:=Bv
theorem u14 {u:UnitD} {f:Int→Option R}:rdI .i64 (List.drop 14 u.av) f=f u.coldCost:=Bv
theorem u15 {u:UnitD} {f:Int→Option R}:rdI .i64 (List.drop 15 u.av) f=f u.hotHours:=Bv
theorem u16 {u:UnitD} {f:Int→Option R}:rdI .i64 (List.drop 16 u.av) f=f u.reserve:=Bv
theorem u17 {u:UnitD} {f:Int→Option R}:rdI .i64 (List.drop 17 u.av) f=f u.reservePrice:=Bv
theorem u19 {u:UnitD} {f:Int→Option R}:rdI .i64 (List.drop 19 u.av) f=f u.state:=Bv
theorem u20 {u:UnitD} {f:Int→Option R}:rdI .i64 (List.drop 20 u.av) f=f u.hours:=Bv
theorem u21 {u:UnitD} {f:Int→Option R}:rdI .i64 (List.drop 21 u.av) f=f u.output:=Bv
theorem u4 {u:UnitD} {f:List AV→Nat→Option R}:rdL 2 (List.drop 4 u.av) f=f (u.segs.l.flatMap SegD.av) u.segs.l.length:=Btr
theorem u18 {u:UnitD} {f:List AV→Nat→Option R}:rdL 1 (List.drop 18 u.av) f=f (Hy u.away.l) u.away.l.length:=by rw [← Xc];exact Btr
def inR (lo hi x:Int):Bool:=decide (lo≤x)&&decide (x≤hi)
theorem Bew {N:Nat} {b c:Int} {e f:Bool} {K:Bool→Option R} (l:List Int) (hs:l.length≤1000000000000):∀ (m j fuel:Nat),j+m=l.length→m<fuel →
    K3 N K b c (Hy l) l.length e f fuel (l.length:Int) (j:Int)=K ((l.drop j).all (inR b c))
  | 0,j,fuel+1,hj,_=>by
    rw [K3];unfold Tu
    rw [ltF (by omega),cf,Km (by omega),List.all_nil]
  | m+1,j,fuel+1,hj,hf=>by
    rw [K3];unfold Tu
    have h:j<l.length:=by omega
    rw [ltT h,ct,Ac h,ct,Ew h,wS (by omega),Bew l hs m (j+1) fuel (by omega) (by omega),Dw h,List.all_cons]
    simp only [cK];congr 1
    generalize (List.drop (j+1) l).all (inR b c)=t
    rw [Bool.eq_iff_iff];cases t<;>simp [inR]<;>omega
theorem Adj {N:Nat} {b c:Int} {e f:Bool} {K:Bool→Option R} (l:List Int) (n:Nat) (hn:n=l.length) (hN:l.length<N) (hs:l.length≤1000000000000):Di N b c (Hy l) n e f K=K (l.all (inR b c)):=by
  subst hn
  rw [Azq];unfold Azp Azo
  have:=Bew (N:=N) (b:=b) (c:=c) (e:=e) (f:=f) (K:=K) l hs l.length 0 N (by omega) hN
  simpa using this
theorem A4j {N:Nat} {a b c:Int} {K:Bool→Option R}:I0 N a b c K=K (inR b c a):=by
  rw [Btl];unfold B0y B0x
  simp only [cK];congr 1
  rw [Bool.eq_iff_iff];simp [inR]
def Cx (u:UnitD):Bool:=inR 0 24 u.upTime&&(inR 0 24 u.downTime&&(inR 0 24 u.startTime&&(inR 0 24 u.hotHours&&((u.state==0||(u.state==1||u.state==2))&&(inR 1 48 u.hours&&(!(u.state==1)||decide (u.hours≤u.startTime)))))))
theorem Bi1 {N:Nat} {u:UnitD} {b:Bool} {K:Bool→Option R}:Aj8 N K b u.av=K (inR 1 48 u.hours&&(!(u.state==1)||decide (u.hours≤u.startTime))):=by
  unfold Aj8 Asy
  simp only [u20,u19,u12,cK];congr 1
  rw [Bool.eq_iff_iff];simp [inR];omega
theorem Bi2 {N n:Nat} {u:UnitD} {d e f g:Int} {b:Bool} {K:Bool→Option R}:Z6 N K d e f g b u.av (n+5) 0 =
    K (inR 0 24 d&&(inR 0 24 e&&(inR 0 24 f&&(inR 0 24 g&&((u.state==0||(u.state==1||u.state==2))&&(inR 1 48 u.hours&&(!(u.state==1)||decide (u.hours≤u.startTime)))))))):=by
  have a1:IntKind.wrap .i64 ((0:Int)+1)=1:=by decide
  have a2:IntKind.wrap .i64 ((1:Int)+1)=2:=by decide
  have a3:IntKind.wrap .i64 ((2:Int)+1)=3:=by decide
  have a4:IntKind.wrap .i64 ((3:Int)+1)=4:=by decide
  simp only [Z6,Asz,Bi1,a1,a2,a3,a4,u19]
  simp [Aj,cK];congr 1
  generalize (decide (u.hours≤u.startTime))=t
  generalize inR 1 48 u.hours=s
  by_cases h0:u.state=0<;>by_cases h1:u.state=1<;>by_cases h2:u.state=2<;>first | omega | skip
  all_goals (rw [Bool.eq_iff_iff];cases s<;>cases t<;>simp [inR,h0,h1,h2]<;>omega)
theorem K7 {N:Nat} {u:UnitD} {b:Bool} {K:Bool→Option R} (hN:64≤N):Pc N u.av b K=K (Cx u):=by
  rw [Bdx];unfold Bin Bim
  obtain ⟨n,rfl⟩:∃ n,N=n+5:=⟨N - 5,by omega⟩
  simp only [u10,u11,u12,u15,Bi2];rfl
end
end Gx

namespace Gx
open Go Go.Proofs
section
variable {R:Type}
theorem Mt {N:Nat} {u:UnitD} {b:Bool} {K:Bool→Option R}:N6 N u.av b K=K (Cx u):=by
  rw [A6t];unfold Ba0 Baz Atr Am1
  simp only [u10,u11,u12,u15,u19,u20]
  simp [cK];congr 1
  unfold Cx
  by_cases h0:u.state=0<;>by_cases h1:u.state=1<;>by_cases h2:u.state=2<;>first | omega | skip
  all_goals (rw [Bool.eq_iff_iff];simp [inR,h0,h1,h2]<;>omega)
theorem in1 {N:Nat} {b c x:Int} {e f:Bool} {K:Bool→Option R} (hN:64≤N):Di N b c [(.int .i64 x)] 1 e f K=K (inR b c x):=by
  have:=Adj (N:=N) (b:=b) (c:=c) (e:=e) (f:=f) (K:=K) [x] 1 rfl (by simp;omega) (by simp)
  simpa [Hy] using this
theorem in2 {N:Nat} {b c x y:Int} {e f:Bool} {K:Bool→Option R} (hN:64≤N):Di N b c [(.int .i64 x),(.int .i64 y)] 2 e f K=K (inR b c x&&inR b c y):=by
  have:=Adj (N:=N) (b:=b) (c:=c) (e:=e) (f:=f) (K:=K) [x,y] 2 rfl (by simp;omega) (by simp)
  simpa [Hy] using this
theorem in4 {N:Nat} {b c x y z w:Int} {e f:Bool} {K:Bool→Option R} (hN:64≤N):Di N b c [(.int .i64 x),(.int .i64 y),(.int .i64 z),(.int .i64 w)] 4 e f K=K (inR b c x&&(inR b c y&&(inR b c z&&inR b c w))):=by
  have:=Adj (N:=N) (b:=b) (c:=c) (e:=e) (f:=f) (K:=K) [x,y,z,w] 4 rfl (by simp;omega) (by simp)
  simpa [Hy] using this
theorem in5 {N:Nat} {b c x y z w v:Int} {e f:Bool} {K:Bool→Option R} (hN:64≤N):Di N b c [(.int .i64 x),(.int .i64 y),(.int .i64 z),(.int .i64 w),(.int .i64 v)] 5 e f K=K (inR b c x&&(inR b c y&&(inR b c z&&(inR b c w&&inR b c v)))):=by
  have:=Adj (N:=N) (b:=b) (c:=c) (e:=e) (f:=f) (K:=K) [x,y,z,w,v] 5 rfl (by simp;omega) (by simp)
  simpa [Hy] using this
def Aho (p:Int):List SegD→Bool
  | []=>true
  | s::r=>inR 1 1048576 s.width&&(inR (-1048576) 1048576 s.price&&(decide (p≤s.price)&&Aho s.price r))
def Bi3:List SegD→Int
  | []=>0
  | s::r=>s.width+Bi3 r
def Bmg (l:List SegD):Nat→Int
  | 0=>-1048576
  | j+1=>((l[j]?).map (·.price)).getD 0
theorem Atz {l:List SegD} {j:Nat} (h:j<l.length):Bmg l (j+1)=l[j].price:=by simp [Bmg,h]
theorem Ba7 {l:List SegD} {j:Nat} (h:j<l.length):List.drop ((Int.toNat (j:Int))*2) (l.flatMap SegD.av)=(.int .i64 l[j].width)::(.int .i64 l[j].price)::(l.drop (j+1)).flatMap SegD.av:=by
  rw [Int.toNat_natCast,A4i (e:=SegD.av) (sz:=2) (fun _=>rfl) _ _ h];rfl
theorem Bts {x y:Int} {f:Int→Option R}:rdI .i64 (setCells [(.int .i64 0),(.int .i64 0)] 0 [(.int .i64 x),(.int .i64 y)]) f=f x:=rfl
theorem A4k {x y:Int} {f:Int→Option R}:rdI .i64 (List.drop 1 (setCells [(.int .i64 0),(.int .i64 0)] 0 [(.int .i64 x),(.int .i64 y)])) f=f y:=rfl
theorem Bmh:∀ {l:List SegD} {p:Int},Aho p l=true→0≤Bi3 l
  | [],_,_=>by simp [Bi3]
  | s::r,p,h=>by
    simp [Aho,inR] at h
    have:=Bmh h.2.2.2
    simp [Bi3];omega
theorem B6q {N:Nat} {u:UnitD} {b:Bool} {K:Bool→Option R} (hN:64≤N) (h2:0≤u.min∧u.min≤1048576) (h3:0≤u.max∧u.max≤1048576) (hl:u.segs.l.length≤8):∀ (m j fuel:Nat) (g:Int),j+m=u.segs.l.length→m<fuel→(0≤g∧g≤1048576*(j:Int)) →
    Ct N K (u.segs.l.flatMap SegD.av) u.segs.l.length b u.av fuel g (u.segs.l.length:Int) (j:Int)=K (Aho (Bmg u.segs.l j) (u.segs.l.drop j)&&(g+Bi3 (u.segs.l.drop j)==u.max - u.min))
  | 0,j,fuel+1,g,hj,_,_=>by
    rw [Ct];unfold Hg
    rw [ltF (by omega),cf,u3,u2,i64 (by omega),Km (l:=u.segs.l) (by omega)]
    simp [Aho,Bi3]
  | m+1,j,fuel+1,g,hj,hf,hg=>by
    rw [Ct];unfold Hg
    have h:j<u.segs.l.length:=by omega
    rw [ltT h,ct,Ac h,ct,Ba7 h]
    have p0:List.take 2 ((AV.int .i64 u.segs.l[j].width)::(AV.int .i64 u.segs.l[j].price)::(u.segs.l.drop (j+1)).flatMap SegD.av)=[(.int .i64 u.segs.l[j].width),(.int .i64 u.segs.l[j].price)]:=rfl
    rw [p0,show Nat.ble 2 (List.length ((AV.int .i64 u.segs.l[j].width)::(AV.int .i64 u.segs.l[j].price)::(u.segs.l.drop (j+1)).flatMap SegD.av))=true by simp,ct]
    rw [show ((!b)||Bm [(AV.int .i64 u.segs.l[j].width),(.int .i64 u.segs.l[j].price)])=true by cases b<;>rfl,ct]
    rw [show ((Nat.beq (List.length [(AV.int .i64 u.segs.l[j].width),(.int .i64 u.segs.l[j].price)]) 2)&&((Nat.ble 2 2)&&(!false)))=true from rfl,ct,Bts,A4k,in1 hN]
    simp only [in1 hN]
    rw [Dw h,Aho,Bi3]
    cases hw:inR 1 1048576 u.segs.l[j].width with
    | false=>simp
    | true =>
      cases hp:inR (-1048576) 1048576 u.segs.l[j].price with
      | false=>simp
      | true =>
        simp only [inR,Bool.and_eq_true,decide_eq_true_eq] at hw hp
        have step:=B6q (b:=b) (K:=K) hN h2 h3 hl m (j+1) fuel (g+u.segs.l[j].width) (by omega) (by omega) (by omega)
        rw [Atz h] at step
        have e1:IntKind.wrap .i64 (g+u.segs.l[j].width)=g+u.segs.l[j].width:=i64 (by omega)
        have e2:IntKind.wrap .i64 ((j:Int)+1)=((j+1:Nat):Int):=wS (by omega)
        unfold H5 Mn
        simp only [u4,A4k,Bts,e1,e2,step]
        rcases j with _ | j
        · simp [Bmg,hp.1,Int.add_assoc]
        · have hj':j<u.segs.l.length:=by omega
          rw [wP (by omega),Ac hj',ct,Ba7 hj',B5t,ct]
          rw [show ∀ r:List AV,List.drop 1 ((AV.int .i64 u.segs.l[j].width)::(AV.int .i64 u.segs.l[j].price)::r)=(AV.int .i64 u.segs.l[j].price)::r from fun _=>rfl,Bv,Atz hj']
          simp only [Bool.not_true,beq_self_eq_true,cK,Int.add_assoc,Bool.true_and]
          simp only [cond_true,cond_false]
          congr 1
          by_cases hlt:u.segs.l[j+1].price<u.segs.l[j].price
          · simp [hlt,show ¬ u.segs.l[j].price≤u.segs.l[j+1].price by omega]
          · simp [hlt,show u.segs.l[j].price≤u.segs.l[j+1].price by omega]
def Bmi (u:UnitD):Bool:=decide (u.segs.l.length≤8)&&(Aho (-1048576) u.segs.l&&(Bi3 u.segs.l==u.max - u.min))
theorem Caf {N:Nat} {u:UnitD} {b:Bool} {K:Bool→Option R} (hN:64≤N) (h2:0≤u.min∧u.min≤1048576) (h3:0≤u.max∧u.max≤1048576):F5 N u.av b K=K (Bmi u):=by
  rw [Z8];unfold Ty Tx
  rw [u4]
  by_cases hl:u.segs.l.length≤8
  · rw [show decide ((u.segs.l.length:Int)>8)=false by simp;omega,cf,u4]
    have:=B6q (b:=b) (K:=K) hN h2 h3 hl u.segs.l.length 0 N 0 (by omega) (by omega) (by omega)
    simpa [Bmi,hl,Bmg] using this
  · rw [show decide ((u.segs.l.length:Int)>8)=true by simp;omega,ct]
    simp [Bmi,hl]
end
end Gx

namespace Gx
open Go Go.Proofs
section
variable {R:Type}
theorem B6r {N:Nat} {u:UnitD} {b:Bool} {K:Bool→Option R} (hl:u.segs.l.length≤8):∀ (m j fuel:Nat) (d:Int),j+m=u.segs.l.length→m<fuel→(0≤d∧d≤1048576) →
    Fa N K b u.av fuel d (j:Int)=K (Aho (Bmg u.segs.l j) (u.segs.l.drop j)&&(Bi3 (u.segs.l.drop j)==d))
  | 0,j,fuel+1,d,hj,_,_=>by
    rw [Fa];unfold N8
    rw [u4,ltF (by omega),cf,Km (l:=u.segs.l) (by omega)]
    congr 1
    rw [Bool.eq_iff_iff];simp [Aho,Bi3];omega
  | m+1,j,fuel+1,d,hj,hf,hd=>by
    rw [Fa];unfold N8
    have h:j<u.segs.l.length:=by omega
    rw [u4,ltT h,ct,u4,Ac h,ct,Ba7 h]
    have p0:List.take 2 ((AV.int .i64 u.segs.l[j].width)::(AV.int .i64 u.segs.l[j].price)::(u.segs.l.drop (j+1)).flatMap SegD.av)=[(.int .i64 u.segs.l[j].width),(.int .i64 u.segs.l[j].price)]:=rfl
    rw [p0,show Nat.ble 2 (List.length ((AV.int .i64 u.segs.l[j].width)::(AV.int .i64 u.segs.l[j].price)::(u.segs.l.drop (j+1)).flatMap SegD.av))=true by simp,ct]
    rw [show ((!b)||Bm [(AV.int .i64 u.segs.l[j].width),(.int .i64 u.segs.l[j].price)])=true by cases b<;>rfl,ct]
    rw [show ((Nat.beq (List.length [(AV.int .i64 u.segs.l[j].width),(.int .i64 u.segs.l[j].price)]) 2)&&((Nat.ble 2 2)&&(!false)))=true from rfl,ct]
    simp only [Bts,A4k,A4j,u4]
    rw [Dw h,Aho,Bi3]
    cases hw:inR 1 1048576 u.segs.l[j].width with
    | false=>simp
    | true =>
      cases hp:inR (-1048576) 1048576 u.segs.l[j].price with
      | false=>simp
      | true =>
        simp only [inR,Bool.and_eq_true,decide_eq_true_eq] at hw hp
        have e2:IntKind.wrap .i64 ((j:Int)+1)=((j+1:Nat):Int):=wS (by omega)
        have key:(cond (cond false true (decide (u.segs.l[j].width>d))) (K false) (Fa N K b u.av fuel (IntKind.wrap .i64 (d - u.segs.l[j].width)) (IntKind.wrap .i64 ((j:Int)+1))))=K (Aho u.segs.l[j].price (u.segs.l.drop (j+1))&&(u.segs.l[j].width+Bi3 (u.segs.l.drop (j+1))==d)):=by
          by_cases hgt:u.segs.l[j].width>d
          · rw [show decide (u.segs.l[j].width>d)=true by simpa using hgt]
            simp only [cond_true,cond_false]
            congr 1
            cases hs:Aho u.segs.l[j].price (u.segs.l.drop (j+1)) with
            | false=>rfl
            | true =>
              have:=Bmh hs
              symm;simp;omega
          · rw [show decide (u.segs.l[j].width>d)=false by simpa using hgt]
            simp only [cond_false]
            have e1:IntKind.wrap .i64 (d - u.segs.l[j].width)=d - u.segs.l[j].width:=i64 (by omega)
            rw [e1,e2,B6r hl m (j+1) fuel _ (by omega) (by omega) (by omega),Atz h]
            congr 1
            rw [Bool.eq_iff_iff];simp;omega
        rw [key]
        rcases j with _ | j
        · simp [Bmg,hp.1]
        · have hj':j<u.segs.l.length:=by omega
          rw [wP (by omega),Ac hj',ct,Ba7 hj',B5t,ct]
          rw [show ∀ r:List AV,List.drop 1 ((AV.int .i64 u.segs.l[j].width)::(AV.int .i64 u.segs.l[j].price)::r)=(AV.int .i64 u.segs.l[j].price)::r from fun _=>rfl,Bv,Atz hj']
          by_cases hlt:u.segs.l[j+1].price<u.segs.l[j].price
          · simp [hlt,show ¬ u.segs.l[j].price≤u.segs.l[j+1].price by omega]
          · simp [hlt,show u.segs.l[j].price≤u.segs.l[j+1].price by omega]
theorem Cag {N:Nat} {u:UnitD} {b:Bool} {K:Bool→Option R} (hN:64≤N) (h2:0≤u.min∧u.min≤u.max) (h3:u.max≤1048576):Uo N u.av b K=K (Bmi u):=by
  rw [Ao7];unfold Am3 Am2
  rw [u4]
  by_cases hl:u.segs.l.length≤8
  · rw [show decide ((u.segs.l.length:Int)>8)=false by simp;omega,cf,u3,u2,i64 (by omega)]
    have:=B6r (b:=b) (N:=N) (K:=K) hl u.segs.l.length 0 N (u.max - u.min) (by omega) (by omega) (by omega)
    simpa [Bmi,hl,Bmg] using this
  · rw [show decide ((u.segs.l.length:Int)>8)=true by simp;omega,ct]
    simp [Bmi,hl]
def At0 (hi p:Int):List Int→Bool
  | []=>true
  | x::r=>inR 0 hi x&&(decide (p<x)&&At0 hi x r)
def Bmj (l:List Int):Nat→Int
  | 0=>-1
  | j+1=>(l[j]?).getD 0
theorem At1 {l:List Int} {j:Nat} (h:j<l.length):Bmj l (j+1)=l[j]:=by simp [Bmj,h]
theorem B6s {N:Nat} {l:List Int} {e e':Bool} {f hi:Int} {K:Bool→Option R} (hN:64≤N) (hl:l.length≤1000000000000) (hf:IntKind.wrap .i64 (f - 1)=hi):∀ (m j fuel:Nat),j+m=l.length→m<fuel →
    G7 N K (Hy l) l.length e e' f fuel (l.length:Int) (j:Int)=K (At0 hi (Bmj l j) (l.drop j))
  | 0,j,fuel+1,hj,_=>by
    rw [G7];unfold N0
    rw [ltF (by omega),cf,Km (l:=l) (by omega),At0]
  | m+1,j,fuel+1,hj,hfu=>by
    rw [G7];unfold N0
    have h:j<l.length:=by omega
    rw [ltT h,ct,Ac h,ct,Ew h,in1 hN,hf,wS (by omega),B6s hN hl hf m (j+1) fuel (by omega) (by omega),Dw h,At0,At1 h]
    cases hw:inR 0 hi l[j] with
    | false=>simp
    | true =>
      simp only [inR,Bool.and_eq_true,decide_eq_true_eq] at hw
      rcases j with _ | j
      · simp [Bmj,show (-1:Int)<l[0] by omega]
      · have hj':j<l.length:=by omega
        rw [wP (by omega),Ac hj',ct,Ew hj',B5t,ct,At1 hj']
        by_cases hlt:l[j]<l[j+1]
        · simp [hlt,show ¬ l[j+1]≤l[j] by omega]
        · simp [hlt,show l[j+1]≤l[j] by omega]
theorem Cah {N:Nat} {l:List Int} {n:Nat} {e e':Bool} {f hi:Int} {K:Bool→Option R} (hN:64≤N) (hl:l.length≤1000000000000) (hln:l.length<N) (hn:n=l.length) (hf:IntKind.wrap .i64 (f - 1)=hi):N1 N (Hy l) n e e' f K=K (At0 hi (-1) l):=by
  subst hn
  rw [Ao5];unfold Ams Amr
  have:=B6s (N:=N) (e:=e) (e':=e') (K:=K) hN hl hf l.length 0 N (by omega) hln
  simpa [Bmj] using this
def Cai (u:UnitD):Bool:=cond (u.state==2) (inR u.min u.max u.output) (u.output==0)
theorem B3g {N:Nat} {u:UnitD} {c:Bool} {f hi:Int} {K:Bool→Option R} (hl:u.away.l.length≤1000000000000) (hf:IntKind.wrap .i64 (f - 1)=hi):∀ (m j fuel:Nat),j+m=u.away.l.length→m<fuel →
    Oa N K f c u.av fuel (j:Int)=K (At0 hi (Bmj u.away.l j) (u.away.l.drop j)&&Cai u)
  | 0,j,fuel+1,hj,_=>by
    rw [Oa];unfold Y3
    rw [u18,ltF (by omega),cf,Km (l:=u.away.l) (by omega),At0]
    simp only [u19,u21,u2,u3,A4j,cK];rfl
  | m+1,j,fuel+1,hj,hfu=>by
    rw [Oa];unfold Y3
    have h:j<u.away.l.length:=by omega
    rw [u18,ltT h,ct,u18,Ac h,ct,Ew h,A4j,hf,wS (by omega),B3g hl hf m (j+1) fuel (by omega) (by omega),Dw h,At0,At1 h]
    cases hw:inR 0 hi u.away.l[j] with
    | false=>simp
    | true =>
      simp only [inR,Bool.and_eq_true,decide_eq_true_eq] at hw
      rcases j with _ | j
      · simp [Bmj,show (-1:Int)<u.away.l[0] by omega]
      · have hj':j<u.away.l.length:=by omega
        rw [u18,Ac h,ct,Ew h,u18,wP (by omega),Ac hj',ct,Ew hj',B5t,ct,At1 hj']
        by_cases hlt:u.away.l[j]<u.away.l[j+1]
        · simp [hlt,show ¬ u.away.l[j+1]≤u.away.l[j] by omega]
        · simp [hlt,show u.away.l[j+1]≤u.away.l[j] by omega]
def Ei (u:UnitD) (hours:Int):Bool :=
  inR 1 24 hours&&(Cx u&&(inR 0 1048576 u.min&&(inR 0 1048576 u.max&&(inR 0 1048576 u.rampUp&&(inR 0 1048576 u.rampDown&&(inR 0 1048576 u.reserve&&(decide (u.min≤u.max)&&(inR u.min u.max u.startRamp&&(inR u.min u.max u.stopRamp &&
  (inR 0 1048576 u.noLoad&&(inR 0 1048576 u.hotCost&&(inR 0 1048576 u.coldCost&&(inR 0 1048576 u.reservePrice&&(Cai u&&(Bmi u&&At0 (hours - 1) (-1) u.away.l)))))))))))))))
theorem Y5 {N:Nat} {u:UnitD} {b:Bool} {hours:Int} {K:Bool→Option R} (hN:64≤N) (hl:u.away.l.length≤1000000000000) (hln:u.away.l.length<N):Z9 N u.av b hours K=K (Ei u hours):=by
  rw [Bdy];unfold Biq Bip
  rw [in1 hN]
  unfold Ei
  cases h0:inR 1 24 hours with
  | false=>simp
  | true =>
    have hh:1≤hours∧hours≤24:=by simpa [inR] using h0
    rw [Bt,Cz,ct,K7 hN]
    cases Cx u with
    | false=>simp
    | true =>
      unfold Azu As4
      simp only [u2,u3,u6,u7,u16,in5 hN]
      cases h1:inR 0 1048576 u.min with
      | false=>simp
      | true =>
        cases h2:inR 0 1048576 u.max with
        | false=>simp
        | true =>
          unfold Azt As3
          simp only [inR,Bool.and_eq_true,decide_eq_true_eq] at h1 h2
          simp only [u2,u3,u5,u8,u9,u13,u14,u17,u19,u21,u18,Bt,Cz,in2 hN,in4 hN,in1 hN,ct,Caf hN h1 h2,Cah hN hl hln rfl (i64 (a:=hours - 1) (by omega))]
          simp [cK];congr 1
          unfold Cai
          by_cases hs:u.state=2
          · rw [Bool.eq_iff_iff];simp [hs];grind
          · rw [Bool.eq_iff_iff];simp [hs];grind
theorem Btt {N:Nat} {u:UnitD} {b:Bool} {hours:Int} {K:Bool→Option R} (hN:64≤N) (hl:u.away.l.length≤1000000000000) (hln:u.away.l.length<N):Ao8 N u.av b hours K=K (Ei u hours):=by
  rw [A6u];unfold Ba3 Ba2
  rw [A4j]
  unfold Ei
  cases h0:inR 1 24 hours with
  | false=>simp
  | true =>
    have hh:1≤hours∧hours≤24:=by simpa [inR] using h0
    rw [Bt,Cz,ct,Mt]
    cases Cx u with
    | false=>simp
    | true =>
      simp only [u2,u3,A4j]
      cases h1:inR 0 1048576 u.min with
      | false=>simp
      | true =>
        simp only [inR,Bool.and_eq_true,decide_eq_true_eq] at h1
        by_cases h2:u.min≤u.max∧u.max≤1048576
        · have h2':inR 0 1048576 u.max=true:=by simp [inR];omega
          have h2'':inR u.min 1048576 u.max=true:=by simp [inR];omega
          unfold Atv Am6 Atu Am5 Att Am4
          have hv:=B3g (u:=u) (N:=N) (c:=b) (K:=K) hl (i64 (a:=hours - 1) (by omega)) u.away.l.length 0 N (by omega) hln
          simp only [Bmj,List.drop_zero,Int.natCast_zero] at hv
          simp only [u2,u3,u5,u6,u7,u8,u9,u13,u14,u16,u17,A4j,ct,hv,Cag hN ⟨h1.1,h2.1⟩ h2.2,h2',h2'']
          simp [cK,h2.1];congr 1
          rw [Bool.eq_iff_iff];simp;grind
        · have h2'':inR u.min 1048576 u.max=false:=by simp [inR];omega
          simp only [h2'']
          have:(inR 0 1048576 u.max&&decide (u.min≤u.max))=false:=by simp [inR];omega
          simp;congr 1;symm
          cases h3:inR 0 1048576 u.max with
          | false=>rfl
          | true =>
            rw [h3] at this
            simp at this
            simp;intro _ _ _ h5;omega
end
end Gx

namespace Gx
open Go Go.Proofs
section
variable {R:Type}
theorem B86 {j:Nat} (h:j≤1000000000000):((Nat.ble (j+1) 140737488355328)&&(Nat.ble ((j+1)*16) 140737488355328))=true:=by
  rw [Bool.and_eq_true,Nat.ble_eq,Nat.ble_eq];omega
end
end Gx

namespace Gx
open Go Go.Proofs
section
variable {R:Type}
def Gv (x y:Nat):Int:=if x<y then -1 else if y<x then 1 else 0
theorem Aew (x:Nat):Gv x x=0:=by unfold Gv;simp
theorem At2 {a b:Nat} (h:(dig a).length<(dig b).length):a<b:=Nat.lt_of_not_le fun h2=>by
  have:=Cc h2;omega
theorem Bol {u w p q P:Nat} (hu:u<P) (hw:w<P) (h:p<q):u+P*p<w+P*q:=by
  have:P*(p+1)≤P*q:=Nat.mul_le_mul_left _ h
  rw [Nat.mul_add] at this
  omega
theorem Byj {N:Nat} {x y:List Nat} {t u:Bool} {K:Int→Option R} (hx:Ah x) (hy:Ah y) (hs:x.length≤1000000000000) (he:x.length=y.length):∀ (i fuel:Nat),i≤x.length→i<fuel →
    F0 N K (Ae x) x.length t (Ae y) y.length u fuel ((i:Int) - 1)=K (Gv (val (x.take i)) (val (y.take i)))
  | 0,fuel+1,_,_=>by
    rw [F0];unfold Ll
    rw [show decide ((((0:Nat):Int) - 1)≥0)=false by simp,cf]
    simp [Aew]
  | i+1,fuel+1,hi,hf=>by
    rw [F0];unfold Ll
    rw [show (((i+1:Nat):Int) - 1)=(i:Int) by omega,show decide ((i:Int)≥0)=true by simp,ct,Ac (by omega),ct,rdl (by omega),Ac (by omega),ct,rdl (by omega),ct,rdl (by omega),ct,rdl (by omega),i64 (by omega),
      Byj hx hy hs he i fuel (by omega) (by omega),Av (by omega),Av (by omega)]
    have h1:=Bn (Cn hx i)
    have h2:=Bn (Cn hy i)
    rw [List.length_take,Nat.min_eq_left (by omega)] at h1 h2
    by_cases c1:x[i]<y[i]
    · have:=Bol h1 h2 c1
      rw [show decide (((x[i]:Nat):Int)<((y[i]:Nat):Int))=true by simp;exact c1,ct]
      unfold Gv;rw [if_pos this]
    · by_cases c2:y[i]<x[i]
      · have:=Bol h2 h1 c2
        rw [show decide (((x[i]:Nat):Int)<((y[i]:Nat):Int))=false by simp;omega,cf,show decide (((x[i]:Nat):Int)>((y[i]:Nat):Int))=true by simp;exact c2,ct]
        unfold Gv;rw [if_neg (by omega),if_pos this]
      · have:x[i]=y[i]:=by omega
        rw [show decide (((x[i]:Nat):Int)<((y[i]:Nat):Int))=false by simp;omega,cf,show decide (((x[i]:Nat):Int)>((y[i]:Nat):Int))=false by simp;omega,cf,this]
        unfold Gv
        congr 1
        by_cases a1:val (x.take i)<val (y.take i)
        · rw [if_pos a1,if_pos (by omega)]
        · by_cases a2:val (y.take i)<val (x.take i)
          · rw [if_neg a1,if_pos a2,if_neg (by omega),if_pos (by omega)]
          · rw [if_neg a1,if_neg a2,if_neg (by omega),if_neg (by omega)]
theorem Ru {N:Nat} {a b:List Nat} {n m:Nat} {t o t' o':Bool} {K:Int→Option R} (hn:n=a.length) (hm:m=b.length) (ha:Ah a) (hb:Ah b) (hf:fit (a.length+b.length) N) :
    Dz N (Ae a) n t o (Ae b) m t' o' K=K (Gv (val a) (val b)):=by
  subst hn hm
  have h1:=hf.1;have h2:=hf.2
  rw [Ajo];unfold Aga Af9
  dsimp only
  rw [Ce rfl ha (hf.le (by omega)),Ce rfl hb (hf.le (by omega))]
  have la:=(Bs ha).2
  have lb:=(Bs hb).2
  by_cases he:(dig (val a)).length=(dig (val b)).length
  · rw [show ((((dig (val a)).length:Nat):Int) != (((dig (val b)).length:Nat):Int))=false by simp;omega,cf,i64 (by omega),Byj (Ad _) (Ad _) (by omega) he _ N (Nat.le_refl _) (by omega),List.take_length,he,List.take_length,Ag,Ag]
  · rw [show ((((dig (val a)).length:Nat):Int) != (((dig (val b)).length:Nat):Int))=true by simp;omega,ct]
    by_cases hl:(dig (val a)).length<(dig (val b)).length
    · have:=At2 hl
      rw [show decide ((((dig (val a)).length:Nat):Int)<(((dig (val b)).length:Nat):Int))=true by simp;omega,ct]
      unfold Gv;rw [if_pos this]
    · have:=At2 (show (dig (val b)).length<(dig (val a)).length by omega)
      rw [show decide ((((dig (val a)).length:Nat):Int)<(((dig (val b)).length:Nat):Int))=false by simp;omega,cf]
      unfold Gv;rw [if_neg (by omega),if_pos this]
theorem Btu {N:Nat} {a:List Nat} {n:Nat} {t o:Bool} {K:Int→Option R} (hn:n=a.length) (ha:Ah a) (hf:fit a.length N):V6 N (Ae a) n t o K=K (Gv (val a) 0):=by
  subst hn
  have h1:=hf.1;have h2:=hf.2
  rw [Ayl];unfold Ayk Ayj
  dsimp only
  rw [Ce rfl ha hf,B7y (by omega)]
  by_cases h0:val a=0
  · rw [h0,Du,Aew]
    cases N with
    | zero=>omega
    | succ N =>
      rw [X7];unfold Afy
      rw [i64 (by simp)];simp
  · have hl:(dig (val a)).length≠0:=fun h=>h0 (Bz.1 h)
    rw [show ((((dig (val a)).length:Nat):Int) != (0:Int))=true by simp;exact fun h=>h0 (Btn.1 h),ct]
    rw [show decide ((((dig (val a)).length:Nat):Int)<(0:Int))=false by simp,cf]
    unfold Gv;rw [if_neg (by omega),if_pos (by omega)]
end
end Gx

namespace Gx
open Go Go.Proofs
section
variable {R:Type}
theorem Bex:∀ {S:List Nat} {d v:Nat} (h:d<S.length),val (S.set d v)+4294967296 ^ d*S[d]=val S+4294967296 ^ d*v
  | x::r,0,v,_=>by simp [val];omega
  | x::r,d+1,v,h=>by
    have ih:=Bex (S:=r) (d:=d) (v:=v) (by simpa using h)
    simp only [List.set_cons_succ,val,List.getElem_cons_succ,Nat.pow_succ]
    have e1:∀ y,4294967296 ^ d*4294967296*y=4294967296*(4294967296 ^ d*y):=fun y=>by rw [Nat.mul_comm (4294967296 ^ d),Nat.mul_assoc]
    rw [e1,e1]
    omega
theorem Rv (b:List Nat) (d:Nat):val (b.take (d+1))=val (b.take d)+4294967296 ^ d*b.getD d 0:=by
  by_cases h:d<b.length
  · rw [Av h,List.getD_eq_getElem?_getD,List.getElem?_eq_getElem h];rfl
  · rw [List.take_of_length_le (by omega),List.take_of_length_le (by omega),List.getD_eq_getElem?_getD,List.getElem?_eq_none (by omega)];simp
theorem Mu (P s:Nat):P*(s%4294967296)+P*4294967296*(s/4294967296)=P*s:=by
  rw [Nat.mul_assoc,← Nat.mul_add,Nat.add_comm,Nat.div_add_mod]
def zer (S:List Nat) (d:Nat):Prop:=∀ j (h:j<S.length),d≤j→S[j]=0
theorem Ak2 {S:List Nat} {d v:Nat} (h:zer S d):zer (S.set d v) (d+1):=fun j hj hd=>by
  rw [List.getElem_set]
  rw [if_neg (by omega)]
  exact h j (by simpa using hj) (by omega)
theorem K8 (n:Nat):zer (List.replicate n 0) 0:=fun j hj _=>by simp
theorem Y6 {S:List Nat} {d v:Nat} (h:zer S d) (hd:d<S.length):val (S.set d v)=val S+4294967296 ^ d*v:=by
  have:=Bex (v:=v) hd
  rw [h d hd (Nat.le_refl _)] at this;simpa using this
theorem wmk {a:Nat} (h:a≤1000000000000):IntKind.wrap .i64 (((a:Nat):Int)+(1:Int))=((a+1:Nat):Int):=wS h
theorem Ccd {x:Nat} {m:List Nat} (h:x<m.length):((Nat.beq 1 1)&&((Nat.ble ((0+(x*1))+1) (List.length (Ae m)))&&(!false)))=true:=by
  rw [B4];simp;omega
theorem Ca9 {x v:Nat} {m:List Nat}:List.set (Ae m) (0+(x*1)) (.int .u32 (v:Int))=Ae (m.set x v):=by rw [Nat.mul_one,Nat.zero_add,Beu]
theorem Btv {N:Nat} {a b:List Nat} {t u:Bool} (ha:Ah a) (hb:Ah b) (hf:fit (a.length+1) N) (hab:b.length≤a.length):∀ (m d fuel:Nat) (S:List Nat) (c:Nat),d+m=a.length→m<fuel→Ah S→S.length=a.length+1→zer S d→c≤1 →
    val S+4294967296 ^ d*c=val (a.take d)+val (b.take d) →
    ∃ S',Ah S'∧S'.length=a.length+1∧val S'=val a+val b∧∀ K:Nat→LA→Option R,Wt N K (Ae a) a.length t (Ae b) b.length u fuel (a.length+1) (c:Int) (a.length:Int) (d:Int) (Ae S)=K (dig (val a+val b)).length (Ae S')
  | 0,d,fuel+1,S,c,hd,_,hS,hl,hz,hc,hv=>by
    have h1:=hf.1;have h2:=hf.2
    have hd':d=a.length:=by omega
    subst hd'
    have hv2:val (S.set a.length c)=val a+val b:=by
      rw [Y6 hz (by omega),hv,List.take_length,List.take_of_length_le hab]
    have hl2:=Cs hS (show c<4294967296 by omega) a.length
    refine ⟨S.set a.length c,hl2,by simpa using hl,hv2,fun K=>?_⟩
    rw [Wt];unfold Agw
    rw [ltF (Nat.le_refl _),cf,Ac (by omega),ct,Ccd (by omega),ct,w32 (by omega),Ca9,Apa (by simp;omega) hl2 (by simp only [List.length_set,hl];exact hf),hv2]
  | m+1,d,fuel+1,S,c,hd,hfu,hS,hl,hz,hc,hv=>by
    have h1:=hf.1;have h2:=hf.2
    have hda:d<a.length:=by omega
    have ad:=A3 ha hda
    have step:∀ s:Nat,s<8589934592→s=c+a[d]+b.getD d 0→val (S.set d (s%4294967296))+4294967296 ^ (d+1)*(s/4294967296)=val (a.take (d+1))+val (b.take (d+1)):=by
      intro s _ hs
      rw [Y6 hz (by omega),Av hda,Rv b d,Nat.pow_succ]
      have e:=Mu (4294967296 ^ d) s
      have e2:4294967296 ^ d*s=4294967296 ^ d*c+4294967296 ^ d*a[d]+4294967296 ^ d*b.getD d 0:=by rw [hs,Nat.mul_add,Nat.mul_add]
      omega
    by_cases hdb:d<b.length
    · have bd:=A3 hb hdb
      have hg:b.getD d 0=b[d]:=by rw [List.getD_eq_getElem?_getD,List.getElem?_eq_getElem hdb];rfl
      obtain ⟨S',q1,q2,q3,q4⟩:=Btv (t:=t) (u:=u) ha hb hf hab m (d+1) fuel (S.set d ((c+a[d]+b[d])%4294967296)) ((c+a[d]+b[d])/4294967296) (by omega) (by omega) (Cs hS (by omega) d) (by simpa using hl) (Ak2 hz) (by omega) (step _ (by omega) (by rw [hg]))
      refine ⟨S',q1,q2,q3,fun K=>?_⟩
      rw [Wt];unfold Agw
      rw [ltT hda,ct,Ac hda,ct,rdl hda,ltT hdb,ct,Ac hdb,ct,rdl hdb,Ac (by omega),ct,st1 (by omega),ct,w64 (by omega),w64 (by omega),Ao9,w64 (by omega),Ao9,w64 (by omega),Biz,Ba5,A0v,wS (by omega)]
      exact q4 K
    · have hg:b.getD d 0=0:=by rw [List.getD_eq_getElem?_getD,List.getElem?_eq_none (by omega)];rfl
      obtain ⟨S',q1,q2,q3,q4⟩:=Btv (t:=t) (u:=u) ha hb hf hab m (d+1) fuel (S.set d ((c+a[d])%4294967296)) ((c+a[d])/4294967296) (by omega) (by omega) (Cs hS (by omega) d) (by simpa using hl) (Ak2 hz) (by omega) (step _ (by omega) (by rw [hg];rfl))
      refine ⟨S',q1,q2,q3,fun K=>?_⟩
      rw [Wt];unfold Agw
      rw [ltT hda,ct,Ac hda,ct,rdl hda,ltF (by omega),cf,Ac (by omega),ct,st1 (by omega),ct,w64 (by omega),Ao9,w64 (by omega),Biz,Ba5,A0v,wS (by omega)]
      exact q4 K
theorem B87 {N:Nat} {a b:List Nat} {t u:Bool} (ha:Ah a) (hb:Ah b) (hf:fit (a.length+1) N) (hab:b.length≤a.length) :
    ∃ S',Ah S'∧val S'=val a+val b∧∀ K:Nat→LA→Option R,A3o N K (Ae a) a.length t (Ae b) b.length u=K (dig (val a+val b)).length (Ae S'):=by
  have h1:=hf.1;have h2:=hf.2
  obtain ⟨S',q1,_,q3,q4⟩:=Btv (R:=R) (t:=t) (u:=u) ha hb hf hab a.length 0 N (List.replicate (a.length+1) 0) 0 (by omega) (by omega) (Cq _) (by simp) (K8 _) (by omega) (by rw [D1];simp [val])
  refine ⟨S',q1,q3,fun K=>?_⟩
  unfold A3o A9w
  rw [wmk (by omega),mk4 (by omega),ct,Int.toNat_natCast,Dd]
  exact q4 K
theorem B88 {N:Nat} {a b:List Nat} {n m:Nat} {t o t' o':Bool} (hn:n=a.length) (hm:m=b.length) (ha:Ah a) (hb:Ah b) (hf:fit (a.length+b.length+1) N) :
    ∃ S',Ah S'∧val S'=val a+val b∧∀ K:Nat→LA→Option R,Brt N (Ae a) n t o (Ae b) m t' o' K=K (dig (val a+val b)).length (Ae S'):=by
  subst hn hm
  have la:=(Bs ha).2
  have lb:=(Bs hb).2
  by_cases hl:(dig (val a)).length<(dig (val b)).length
  · obtain ⟨S',q1,q2,q3⟩:=B87 (R:=R) (N:=N) (a:=dig (val b)) (b:=dig (val a)) (t:=o') (u:=o) (Ad _) (Ad _) (hf.le (by omega)) (by omega)
    rw [Ag,Ag,Nat.add_comm] at q2
    refine ⟨S',q1,q2,fun K=>?_⟩
    rw [A9x];unfold Boi Boh
    dsimp only
    rw [Ce rfl ha (hf.le (by omega)),Ce rfl hb (hf.le (by omega)),ltT hl,ct,q3,Ag,Ag,Nat.add_comm (val b)]
  · obtain ⟨S',q1,q2,q3⟩:=B87 (R:=R) (N:=N) (a:=dig (val a)) (b:=dig (val b)) (t:=o) (u:=o') (Ad _) (Ad _) (hf.le (by omega)) (by omega)
    rw [Ag,Ag] at q2
    refine ⟨S',q1,q2,fun K=>?_⟩
    rw [A9x];unfold Boi Boh
    dsimp only
    rw [Ce rfl ha (hf.le (by omega)),Ce rfl hb (hf.le (by omega)),ltF (by omega),cf,q3,Ag,Ag]
end
end Gx

namespace Gx
open Go Go.Proofs
section
variable {R:Type}
theorem A4l {x y:Nat} (hx:x<4294967296) (hy:y≤4294967296):∃ d c:Nat,d<4294967296∧c≤1∧x+4294967296*c=d+y∧IntKind.wrap .u32 (IntKind.wrap .u64 ((x:Int) - (y:Int)))=(d:Int)∧Int.fdiv (IntKind.wrap .u64 ((x:Int) - (y:Int))) (2 ^ 63)=(c:Int):=by
  by_cases h:y≤x
  · refine ⟨x - y,0,by omega,by omega,by omega,?_,?_⟩
    · rw [Biy (by omega) h,w32 (by omega)]
    · rw [Biy (by omega) h,Ccc,Nat.div_eq_of_lt (by omega)]
  · refine ⟨x+4294967296 - y,1,by omega,by omega,by omega,?_,?_⟩
    · rw [B82 (by omega) (by omega),Ba5];congr 1;omega
    · rw [B82 (by omega) (by omega),Ccc];congr 1;omega
theorem Caj {x c w:Nat} (hx:x<4294967296) (hc:c≤1) (hw:w<4294967296):IntKind.wrap .u64 ((IntKind.wrap .u64 ((x:Int) - (c:Int))) - (w:Int))=IntKind.wrap .u64 ((x:Int) - ((c+w:Nat):Int)):=by
  rw [Ba6,Ba6,Ba6];omega
theorem Btw {N:Nat} {a b:List Nat} {t u:Bool} (ha:Ah a) (hb:Ah b) (hf:fit a.length N) (hab:b.length≤a.length) (hle:val b≤val a):∀ (m d fuel:Nat) (S:List Nat) (c:Nat),d+m=a.length→m<fuel→Ah S→S.length=a.length→zer S d→c≤1 →
    val S+val (b.take d)=val (a.take d)+4294967296 ^ d*c →
    ∃ S',Ah S'∧val S'=val a - val b∧∀ K:Nat→Bool→LA→Option R,Wr N K (Ae b) b.length t a.length (Ae a) u fuel (c:Int) (a.length:Int) (d:Int) (Ae S)=K (dig (val a - val b)).length true (Ae S')
  | 0,d,fuel+1,S,c,hd,_,hS,hl,hz,hc,hv=>by
    have hd':d=a.length:=by omega
    subst hd'
    rw [List.take_length,List.take_of_length_le hab] at hv
    have hlt:=Bn hS
    rw [hl] at hlt
    have hc0:c=0:=by
      rcases Nat.lt_or_ge 0 c with h | h
      · exfalso
        have:c=1:=by omega
        subst this
        omega
      · omega
    subst hc0
    have hv2:val S=val a - val b:=by omega
    refine ⟨S,hS,hv2,fun K=>?_⟩
    rw [Wr];unfold Agu
    rw [ltF (Nat.le_refl _),cf,Apa hl.symm hS (by rw [hl];exact hf),hv2]
  | m+1,d,fuel+1,S,c,hd,hfu,hS,hl,hz,hc,hv=>by
    have h1:=hf.1;have h2:=hf.2
    have hda:d<a.length:=by omega
    have ad:=A3 ha hda
    have step:∀ y g c':Nat,y=c+b.getD d 0→a[d]+4294967296*c'=g+y→val (S.set d g)+val (b.take (d+1))=val (a.take (d+1))+4294967296 ^ (d+1)*c':=by
      intro y g c' hy hg
      rw [Y6 hz (by omega),Av hda,Rv b d,Nat.pow_succ,Nat.mul_assoc]
      have e:4294967296 ^ d*(a[d]+4294967296*c')=4294967296 ^ d*(g+(c+b.getD d 0)):=by rw [hg,hy]
      rw [Nat.mul_add,Nat.mul_add,Nat.mul_add] at e
      omega
    by_cases hdb:d<b.length
    · have bd:=A3 hb hdb
      have hg:b.getD d 0=b[d]:=by rw [List.getD_eq_getElem?_getD,List.getElem?_eq_getElem hdb];rfl
      obtain ⟨g,c',g1,g2,g3,g4,g5⟩:=A4l ad (show c+b[d]≤4294967296 by omega)
      obtain ⟨S',q1,q3,q4⟩:=Btw (t:=t) (u:=u) ha hb hf hab hle m (d+1) fuel (S.set d g) c' (by omega) (by omega) (Cs hS g1 d) (by simpa using hl) (Ak2 hz) g2 (step _ _ _ (by rw [hg]) g3)
      refine ⟨S',q1,q3,fun K=>?_⟩
      rw [Wr];unfold Agu
      rw [ltT hda,ct,Ac hda,ct,rdl hda,ltT hdb,ct,Ac hdb,ct,rdl hdb,ct,st1 (by omega),ct,w64 (show a[d]<18446744073709551616 by omega),w64 (show b[d]<18446744073709551616 by omega),Caj ad hc bd,g4,g5,A0v,wS (by omega)]
      exact q4 K
    · have hg:b.getD d 0=0:=by rw [List.getD_eq_getElem?_getD,List.getElem?_eq_none (by omega)];rfl
      obtain ⟨g,c',g1,g2,g3,g4,g5⟩:=A4l ad (show c≤4294967296 by omega)
      obtain ⟨S',q1,q3,q4⟩:=Btw (t:=t) (u:=u) ha hb hf hab hle m (d+1) fuel (S.set d g) c' (by omega) (by omega) (Cs hS g1 d) (by simpa using hl) (Ak2 hz) g2 (step _ _ _ (by rw [hg];rfl) g3)
      refine ⟨S',q1,q3,fun K=>?_⟩
      rw [Wr];unfold Agu
      rw [ltT hda,ct,Ac hda,ct,rdl hda,ltF (by omega),cf,ct,st1 (by omega),ct,w64 (show a[d]<18446744073709551616 by omega),g4,g5,A0v,wS (by omega)]
      exact q4 K
theorem Btx {N:Nat} {a b:List Nat} {n m:Nat} {t o t' o':Bool} (hn:n=a.length) (hm:m=b.length) (ha:Ah a) (hb:Ah b) (hf:fit (a.length+b.length) N) (hle:val b≤val a) :
    ∃ S',Ah S'∧val S'=val a - val b∧∀ K:Nat→Bool→LA→Option R,Ay8 N (Ae a) n t o (Ae b) m t' o' K=K (dig (val a - val b)).length true (Ae S'):=by
  subst hn hm
  have h1:=hf.1;have h2:=hf.2
  have la:=(Bs ha).2
  have lb:=(Bs hb).2
  have hll:=Cc hle
  obtain ⟨S',q1,q2,q3⟩:=Btw (R:=R) (N:=N) (a:=dig (val a)) (b:=dig (val b)) (t:=o') (u:=o) (Ad _) (Ad _) (hf.le (by omega)) hll (by rw [Ag,Ag];exact hle) (dig (val a)).length 0 N (List.replicate (dig (val a)).length 0) 0 (by omega) (by omega) (Cq _) (by simp) (K8 _) (by omega) (by rw [D1];simp [val])
  rw [Ag,Ag] at q2
  refine ⟨S',q1,q2,fun K=>?_⟩
  rw [A9o];unfold Bog Bof
  dsimp only
  rw [Ce rfl ha (hf.le (by omega)),Ce rfl hb (hf.le (by omega)),Ru rfl rfl (Ad _) (Ad _) (hf.le (by omega)),Ag,Ag]
  have:decide (Gv (val a) (val b)<0)=false:=by unfold Gv;split<;>(try split)<;>simp<;>omega
  rw [this,cf,mk4 (by omega),ct,Dd]
  have:=q3 K
  rw [Ag,Ag] at this
  exact this
theorem B89 {N:Nat} {a b:List Nat} {n m:Nat} {t o t' o':Bool} {K:Nat→Bool→LA→Option R} (hn:n=a.length) (hm:m=b.length) (ha:Ah a) (hb:Ah b) (hf:fit (a.length+b.length) N) (hle:val a<val b) :
    Ay8 N (Ae a) n t o (Ae b) m t' o' K=K 0 false []:=by
  subst hn hm
  have la:=(Bs ha).2
  have lb:=(Bs hb).2
  rw [A9o];unfold Bog Bof
  dsimp only
  rw [Ce rfl ha (hf.le (by omega)),Ce rfl hb (hf.le (by omega)),Ru rfl rfl (Ad _) (Ad _) (hf.le (by omega)),Ag,Ag]
  have:decide (Gv (val a) (val b)<0)=true:=by unfold Gv;rw [if_pos hle];rfl
  rw [this,ct]
end
end Gx

namespace Gx
open Go Go.Proofs
section
variable {R:Type}
theorem i0F {n:Nat} (h:n≠0):(((n:Nat):Int)==(0:Int))=false:=by rw [beq_eq_false_iff_ne];omega
theorem i0T {n:Nat} (h:n=0):(((n:Nat):Int)==(0:Int))=true:=by subst h;rfl
theorem B5v:∀ {S:List Nat} {j:Nat} (h:j<S.length),4294967296 ^ j*S[j]≤val S
  | x::r,0,_=>by simp [val]
  | x::r,j+1,h=>by
    have:=B5v (S:=r) (j:=j) (by simpa using h)
    simp only [List.getElem_cons_succ,val,Nat.pow_succ]
    rw [Nat.mul_comm (4294967296 ^ j),Nat.mul_assoc]
    omega
theorem B9a {S:List Nat} {k:Nat} (h:val S<4294967296 ^ k):zer S k:=fun j hj hk=>by
  have h1:=B5v hj
  have h2:4294967296 ^ k≤4294967296 ^ j:=Nat.pow_le_pow_right (by omega) hk
  rcases Nat.eq_zero_or_pos S[j] with h0 | h0
  · exact h0
  · have:=Nat.le_mul_of_pos_right (4294967296 ^ j) h0
    omega
theorem B3h {p q y s:Nat} (hp:p<4294967296) (hq:q<4294967296) (hy:y<4294967296) (hs:s<4294967296):p+(q*y+s)<18446744073709551616:=by
  have:q*y≤4294967295*4294967295:=Nat.mul_le_mul (by omega) (by omega)
  omega
theorem B9b {N:Nat} {x y:List Nat} {c d:Bool} {f q J:Nat} (hy:Ah y) (hq:q<4294967296) (hf:f<x.length) (hs:x.length+y.length≤1000000000000):∀ (m l fuel:Nat) (S:List Nat) (p:Nat) (v:Nat),l+m=y.length→m<fuel→Ah S→S.length=x.length+y.length→zer S (f+y.length)→p<4294967296 →
    val S+4294967296 ^ (f+l)*p=v+4294967296 ^ f*(q*val (y.take l)) →
    ∃ S',Ah S'∧S'.length=x.length+y.length∧val S'=v+4294967296 ^ f*(q*val y)∧∀ (k1:Nat→Int→Int→LA→Option R) (K:Nat→LA→Option R),We N k1 K (Ae y) y.length d (x.length+y.length) (f:Int) (q:Int) (Ae x) x.length c (J:Int) fuel (p:Int) (y.length:Int) (l:Int) (Ae S)=k1 (x.length+y.length) J ((f+1:Nat):Int) (Ae S')
  | 0,l,fuel+1,S,p,v,hl,_,hS,hlen,hz,hp,hv=>by
    have hl':l=y.length:=by omega
    subst hl'
    rw [List.take_length] at hv
    refine ⟨S.set (f+y.length) p,Cs hS hp _,by simpa using hlen,by rw [Y6 hz (by omega),hv],fun k1 K=>?_⟩
    rw [We];unfold Arm
    rw [ltF (Nat.le_refl _),cf,wA (by omega),Ac (by omega),ct,st1 (by omega),ct,w32 hp,A0v,wS (by omega)]
  | m+1,l,fuel+1,S,p,v,hl,hfu,hS,hlen,hz,hp,hv=>by
    have hly:l<y.length:=by omega
    have yl:=A3 hy hly
    have hi:f+l<S.length:=by omega
    have sl:=A3 hS hi
    have hw:=B3h hp hq yl sl
    have hqy:q*y[l]<18446744073709551616:=by omega
    generalize hsd:p+(q*y[l]+S[f+l])=s at *
    have hset:=Bex (v:=s%4294967296) hi
    have key:val (S.set (f+l) (s%4294967296))+4294967296 ^ (f+(l+1))*(s/4294967296)=v+4294967296 ^ f*(q*val (y.take (l+1))):=by
      rw [Av hly,← Nat.add_assoc f l 1,Nat.pow_succ]
      have e:=Mu (4294967296 ^ (f+l)) s
      have e2:4294967296 ^ (f+l)*s=4294967296 ^ (f+l)*p+(4294967296 ^ (f+l)*(q*y[l])+4294967296 ^ (f+l)*S[f+l]):=by rw [← hsd,Nat.mul_add,Nat.mul_add]
      have e3:4294967296 ^ f*(q*(val (y.take l)+4294967296 ^ l*y[l]))=4294967296 ^ f*(q*val (y.take l))+4294967296 ^ (f+l)*(q*y[l]):=by
        rw [Nat.mul_add,Nat.mul_add,Nat.pow_add]
        congr 1
        rw [Nat.mul_assoc];congr 1
        rw [← Nat.mul_assoc,← Nat.mul_assoc,Nat.mul_comm q]
      omega
    obtain ⟨S',q1,q2,q3,q4⟩:=B9b (N:=N) (x:=x) (c:=c) (d:=d) (J:=J) hy hq hf hs m (l+1) fuel (S.set (f+l) (s%4294967296)) (s/4294967296) v (by omega) (by omega) (Cs hS (by omega) _) (by simpa using hlen) (fun j hj hk=>by
      rw [List.getElem_set,if_neg (by omega)];exact hz j (by simpa using hj) hk) (by omega) key
    refine ⟨S',q1,q2,q3,fun k1 K=>?_⟩
    rw [We];unfold Arm
    rw [ltT hly,ct,Ac hly,ct,rdl hly,wA (by omega),Ac (by omega),ct,Bev hi,ct,st1 hi,ct,w64 (show q<18446744073709551616 by omega),w64 (show y[l]<18446744073709551616 by omega),w64 (show S[f+l]<18446744073709551616 by omega),Btp,w64 hqy,Ao9,w64 (by omega),Ao9,hsd,w64 hw,Biz,Ba5,A0v,wS (by omega)]
    exact q4 k1 K
theorem B01 {N:Nat} {x y:List Nat} {c d:Bool} (hx:Ah x) (hy:Ah y) (hfit:fit (x.length+y.length) N):∀ (m f fuel:Nat) (S:List Nat),f+m=x.length→m<fuel→Ah S→S.length=x.length+y.length →
    val S=val (x.take f)*val y →
    ∃ S',Ah S'∧val S'=val x*val y∧∀ K:Nat→LA→Option R,Kx N K (Ae y) y.length d (Ae x) x.length c fuel (x.length+y.length) (x.length:Int) (f:Int) (Ae S)=K (dig (val x*val y)).length (Ae S')
  | 0,f,fuel+1,S,hf,_,hS,hlen,hv=>by
    have hf':f=x.length:=by omega
    subst hf'
    rw [List.take_length] at hv
    refine ⟨S,hS,hv,fun K=>?_⟩
    rw [Kx];unfold Af8
    rw [ltF (Nat.le_refl _),cf,Apa hlen.symm hS (by rw [hlen];exact hfit),hv]
  | m+1,f,fuel+1,S,hf,hfu,hS,hlen,hv=>by
    have h1:=hfit.1;have h2:=hfit.2
    have hfx:f<x.length:=by omega
    have xf:=A3 hx hfx
    have b1:=Bn (Cn hx f)
    rw [List.length_take,Nat.min_eq_left (by omega)] at b1
    have b2:=Bn hy
    have hbound:val S<4294967296 ^ (f+y.length):=by
      rw [hv,Nat.pow_add];exact Nat.mul_lt_mul'' b1 b2
    have hnext:val (x.take (f+1))*val y=val S+4294967296 ^ f*(x[f]*val y):=by
      rw [Av hfx,Nat.add_mul,hv,Nat.mul_assoc]
    by_cases h0:x[f]=0
    · obtain ⟨S',q1,q2,q3⟩:=B01 (c:=c) (d:=d) hx hy hfit m (f+1) fuel S (by omega) (by omega) hS hlen (by rw [hnext,h0];simp)
      refine ⟨S',q1,q2,fun K=>?_⟩
      rw [Kx];unfold Af8
      rw [ltT hfx,ct,Ac hfx,ct,rdl hfx,show (((x[f]:Nat):Int)==0)=true by simp [h0],ct,wS (by omega)]
      exact q3 K
    · obtain ⟨S1,p1,p2,p3,p4⟩:=B9b (R:=R) (N:=N) (x:=x) (y:=y) (c:=c) (d:=d) (f:=f) (q:=x[f]) (J:=x.length) hy xf hfx (by omega) y.length 0 N S 0 (val S) (by omega) (by omega) hS hlen (B9a hbound) (by omega) (by simp [val])
      obtain ⟨S',q1,q2,q3⟩:=B01 (c:=c) (d:=d) hx hy hfit m (f+1) fuel S1 (by omega) (by omega) p1 p2 (by rw [p3,hnext])
      refine ⟨S',q1,q2,fun K=>?_⟩
      rw [Kx];unfold Af8
      rw [ltT hfx,ct,Ac hfx,ct,rdl hfx,show (((x[f]:Nat):Int)==0)=false by simp;exact h0,cf]
      have:=p4 (Kx N K (Ae y) y.length d (Ae x) x.length c fuel) K
      simp only [Int.natCast_zero] at this
      dsimp only
      rw [this]
      exact q3 K
theorem A0w {N:Nat} {a b:List Nat} {n m:Nat} {t o t' o':Bool} (hn:n=a.length) (hm:m=b.length) (ha:Ah a) (hb:Ah b) (hf:fit (a.length+b.length) N) :
    ∃ S',Ah S'∧val S'=val a*val b∧∀ K:Nat→LA→Option R,Arn N (Ae a) n t o (Ae b) m t' o' K=K (dig (val a*val b)).length (Ae S'):=by
  subst hn hm
  have h1:=hf.1;have h2:=hf.2
  have la:=(Bs ha).2
  have lb:=(Bs hb).2
  by_cases ha0:val a=0
  · refine ⟨[],Xa,by rw [ha0];simp [val],fun K=>?_⟩
    rw [Aro];unfold Bcz Bcy
    dsimp only
    rw [Ce rfl ha (hf.le (by omega)),Ce rfl hb (hf.le (by omega)),ha0,Nat.zero_mul,Du];rfl
  · by_cases hb0:val b=0
    · refine ⟨[],Xa,by rw [hb0];simp [val],fun K=>?_⟩
      rw [Aro];unfold Bcz Bcy
      dsimp only
      rw [Ce rfl ha (hf.le (by omega)),Ce rfl hb (hf.le (by omega)),hb0,Nat.mul_zero,Du]
      cases ((((dig (val a)).length:Nat):Int)==0)<;>rfl
    · obtain ⟨S',q1,q2,q3⟩:=B01 (R:=R) (N:=N) (x:=dig (val a)) (y:=dig (val b)) (c:=o) (d:=o') (Ad _) (Ad _) (hf.le (by omega)) (dig (val a)).length 0 N (List.replicate ((dig (val a)).length+(dig (val b)).length) 0) (by omega) (by omega) (Cq _) (by simp) (by rw [D1];simp [val])
      rw [Ag,Ag] at q2
      refine ⟨S',q1,q2,fun K=>?_⟩
      rw [Aro];unfold Bcz Bcy
      dsimp only
      have n1:(dig (val a)).length≠0:=fun h=>ha0 (Bz.1 h)
      have n2:(dig (val b)).length≠0:=fun h=>hb0 (Bz.1 h)
      rw [Ce rfl ha (hf.le (by omega)),Ce rfl hb (hf.le (by omega)),i0F n1,show ((false:Bool)==false)=true by rfl,ct,cfB,i0F n2,cf]
      unfold Bhb A89
      rw [wA (by omega),mk4 (by omega),ct,Int.toNat_natCast,Dd]
      have:=q3 K
      rw [Ag,Ag] at this
      exact this
end
end Gx

namespace Gx
open Go Go.Proofs
section
variable {R:Type}
theorem Bey {v:Nat} (h:(dig v).length≤2):v<18446744073709551616:=by
  have:=Bn (Ad v)
  rw [Ag] at this
  have h2:4294967296 ^ (dig v).length≤4294967296 ^ 2:=Nat.pow_le_pow_right (by omega) h
  omega
theorem At3 {v:Nat} (h:v<18446744073709551616):(dig v).length≤2:=Dc (by simpa using h)
theorem Apc {N:Nat} {l:List Nat} {n:Nat} {t o:Bool} {K:Int→Option R} (hn:n=l.length) (hl:Ah l) (h2:l.length≤2) (hN:4≤N):Tb N (Ae l) n t o K=K (val l:Int):=by
  subst hn
  obtain ⟨M,rfl⟩:∃ M,N=M+4:=⟨N - 4,by omega⟩
  rw [Bli];unfold Bra Bq9
  match l,hl,h2 with
  | [],_,_ =>
    dsimp only
    rw [Jn];unfold Jc
    simp [val]
  | [x],hl,_ =>
    have hx:=(Dk.1 hl).1
    dsimp only
    rw [Jn];unfold Jc
    simp only [List.length_cons,List.length_nil,Int.toNat_zero,Nat.zero_mul,List.drop_zero,Aev,Bv]
    rw [show decide ((0:Int)<((0+1:Nat):Int))=true by decide,ct,show Aj 0 (0+1)=true by decide,ct,show IntKind.wrap .i64 ((32:Int)*0)=0 by decide,show decide ((0:Int)<0)=false by decide,cf]
    rw [Jn];unfold Jc
    rw [show IntKind.wrap .i64 ((0:Int)+1)=1 by decide,show decide ((1:Int)<((0+1:Nat):Int))=false by decide,cf]
    have e:IntKind.wrap .u64 ((IntKind.wrap .u64 (x:Int))*2 ^ (min (Int.toNat 0) 64))=(x:Int):=by rw [w64 (by omega)];simp;exact w64 (by omega)
    rw [e,show (0:Int)=((0:Nat):Int) by rfl,B5s (by omega) (by omega)]
    simp [val]
  | [x,y],hl,_ =>
    have hx:=(Dk.1 hl).1
    have hy:=(Dk.1 (Dk.1 hl).2).1
    dsimp only
    rw [Jn];unfold Jc
    simp only [List.length_cons,List.length_nil,Int.toNat_zero,Nat.zero_mul,List.drop_zero,Aev,Bv]
    rw [show decide ((0:Int)<((0+1+1:Nat):Int))=true by decide,ct,show Aj 0 (0+1+1)=true by decide,ct,show IntKind.wrap .i64 ((32:Int)*0)=0 by decide,show decide ((0:Int)<0)=false by decide,cf]
    rw [Jn];unfold Jc
    rw [show IntKind.wrap .i64 ((0:Int)+1)=1 by decide,show decide ((1:Int)<((0+1+1:Nat):Int))=true by decide,ct,show Aj 1 (0+1+1)=true by decide,ct,show IntKind.wrap .i64 ((32:Int)*1)=32 by decide,show decide ((32:Int)<0)=false by decide]
    simp only [show Int.toNat 1*1=1 by rfl,List.drop_succ_cons,List.drop_zero,Bv,cf]
    rw [Jn];unfold Jc
    rw [show IntKind.wrap .i64 ((1:Int)+1)=2 by decide,show decide ((2:Int)<((0+1+1:Nat):Int))=false by decide,cf]
    have e:IntKind.wrap .u64 ((IntKind.wrap .u64 (x:Int))*2 ^ (min (Int.toNat 0) 64))=(x:Int):=by rw [w64 (by omega)];simp;exact w64 (by omega)
    have e2:IntKind.wrap .u64 ((IntKind.wrap .u64 (y:Int))*2 ^ (min (Int.toNat 32) 64))=((y*2 ^ 32:Nat):Int):=by
      rw [w64 (by omega),show (2:Int) ^ (min (Int.toNat 32) 64)=((2 ^ 32:Nat):Int) by rfl,Btp,w64 (by omega)]
    rw [e,e2,show (0:Int)=((0:Nat):Int) by rfl,B5s (by omega) (by omega),B5s (by simp;omega) (by omega),Nat.zero_or,Nat.or_comm,Bi0 (by omega)]
    congr 1;simp only [val];omega
theorem J3 {N:Nat} {v:Nat} (hv:v<18446744073709551616) (hN:4≤N):∃ S,Ah S∧val S=v∧∀ K:Nat→LA→Option R,Cb N (v:Int) K=K (dig v).length (Ae S):=by
  have hl:Ah [v%4294967296,v/4294967296]:=Dk.2 ⟨by omega,Dk.2 ⟨by omega,Xa⟩⟩
  have hval:val [v%4294967296,v/4294967296]=v:=by simp [val];omega
  refine ⟨_,hl,hval,fun K=>?_⟩
  rw [Ajd];unfold Afw Afv
  rw [Ba5,Biz,w32 (show v/4294967296<4294967296 by omega)]
  have:=Btq (R:=R) (N:=N) (l:=[v%4294967296,v/4294967296]) (K:=fun c=>K c (Ae [v%4294967296,v/4294967296])) hl (by simp) 2 N (by simp) (by omega)
  rw [show [v%4294967296,v/4294967296].take 2=[v%4294967296,v/4294967296] by rfl,hval] at this
  rw [A8q];unfold Boe Bod
  exact this
theorem Mv {N:Nat} {l:List Nat} {n:Nat} {t o:Bool} {K:Int→Bool→Option R} (hn:n=l.length) (hl:Ah l) (hf:fit l.length N):Aej N (Ae l) n t o K=if val l<18446744073709551616 then K (val l:Int) true else K 0 false:=by
  have h1:=hf.1
  rw [A50];unfold A87 A86
  rw [Ce hn hl hf]
  by_cases h:val l<18446744073709551616
  · have:=At3 h
    rw [if_pos h,show decide ((((dig (val l)).length:Nat):Int)>2)=false by simp;omega,cf,Apc rfl (Ad _) this (by omega),Ag]
  · have:¬ (dig (val l)).length≤2:=fun h2=>h (Bey h2)
    rw [if_neg h,show decide ((((dig (val l)).length:Nat):Int)>2)=true by simp;omega,ct]
theorem A4m {N:Nat} {l:List Nat} {n:Nat} {t o:Bool} {K:Nat→LA→Option R} (hn:n=l.length) (hl:Ah l) (hf:fit l.length N):Acw N (Ae l) n t o K=K (dig (val l)).length (Ae (dig (val l))):=by
  have h1:=hf.1;have h2:=hf.2
  have:=(Bs hl).2
  rw [Bln];unfold Bri Brh
  rw [Ce hn hl hf,mk4 (by omega),ct,Ak1,Bool.or_true,ct]
  congr 1
  unfold E5
  rw [Nat.min_self,Nat.mul_one,List.take_zero,List.nil_append,List.take_of_length_le (by rw [B4];exact Nat.le_refl _),List.drop_eq_nil_of_le (by simp [B4]),List.append_nil]
end
end Gx

namespace Gx
open Go Go.Proofs
section
variable {R:Type}
def Ccv:List UInt8:=[0,1,2,2,3,3,3,3,4,4,4,4,4,4,4,4,5,5,5,5,5,5,5,5,5,5,5,5,5,5,5,5,6,6,6,6,6,6,6,6,6,6,6,6,6,6,6,6,6,6,6,6,6,6,6,6,6,6,6,6,6,6,6,6,7,7,7,7,7,7,7,7,7,7,7,7,7,7,7,7,7,7,7,7,7,7,7,7,7,7,7,7,7,7,7,7,7,7,7,7,7,7,7,7,7,7,7,7,7,7,7,7,7,7,7,7,7,7,7,7,7,7,7,7,7,7,7,7,8,8,8,8,8,8,8,8,8,8,8,8,8,8,8,8,8,8,8,8,8,8,8,8,8,8,8,8,8,8,8,8,8,8,8,8,8,8,8,8,8,8,8,8,8,8,8,8,8,8,8,8,8,8,8,8,8,8,8,8,8,8,8,8,8,8,8,8,8,8,8,8,8,8,8,8,8,8,8,8,8,8,8,8,8,8,8,8,8,8,8,8,8,8,8,8,8,8,8,8,8,8,8,8,8,8,8,8,8,8,8,8,8,8,8,8,8,8,8,8,8,8,8,8,8,8,8,8]
theorem Cak:∀ i:Fin 256,0<i.1→2 ^ (Ccv.getD i.1 0).toNat≤2*i.1∧i.1<2 ^ (Ccv.getD i.1 0).toNat:=by decide +kernel
theorem Bty {k y x m:Nat} (h:2 ^ k≤2*y∧y<2 ^ k) (hy:y=x/2 ^ m):2 ^ (k+m)≤2*x∧x<2 ^ (k+m):=by
  have hp:0<2 ^ m:=Nat.pow_pos (by omega)
  have h1:x<2 ^ m*(y+1):=by rw [hy];have:=Nat.div_add_mod x (2 ^ m);have:=Nat.mod_lt x hp;rw [Nat.mul_add];omega
  have h2:2 ^ m*y≤x:=by rw [hy];exact Nat.mul_div_le x _
  have h3:2 ^ m*(y+1)≤2 ^ m*2 ^ k:=Nat.mul_le_mul_left _ h.2
  have h4:2 ^ m*2 ^ k≤2 ^ m*(2*y):=Nat.mul_le_mul_left _ h.1
  rw [Nat.pow_add,Nat.mul_comm (2 ^ k)]
  have h5:2 ^ m*(2*y)=2*(2 ^ m*y):=by rw [Nat.mul_left_comm]
  omega
theorem Cba {a:Nat} (h:a<256):IntKind.wrap .u8 (a:Int)=(a:Int):=by rw [wrap_u8];congr 1;omega
theorem Cbb {N:Nat} {a b:Nat} {K:Int→Option R} (h0:0<a) (h1:a<65536) (hb:b≤16):∃ k:Nat,2 ^ k≤2*a∧a<2 ^ k∧k≤16∧Gh N K (a:Int) (b:Int)=K ((b+k:Nat):Int):=by
  have small:∀ i:Nat,0<i→i<256→∃ k:Nat,(2 ^ k≤2*i∧i<2 ^ k)∧k≤8∧(Ccv.getD i 0).toNat=k:=by
    intro i hi hi2
    have:=Cak ⟨i,hi2⟩ hi
    refine ⟨_,this,?_,rfl⟩
    rcases Nat.lt_or_ge 8 (Ccv.getD i 0).toNat with h | h
    · have h3:=this.1
      have h4:2 ^ 9≤2 ^ (Ccv.getD i 0).toNat:=Nat.pow_le_pow_right (by omega) h
      simp only at h3
      omega
    · exact h
  by_cases h:a≥256
  · obtain ⟨k,p1,p2,p3⟩:=small (a/256) (by omega) (by omega)
    have p4:=Bty (m:=8) p1 (show a/256=a/2 ^ 8 by rfl)
    refine ⟨k+8,p4.1,p4.2,by omega,?_⟩
    unfold Gh H1
    rw [show decide (((a:Nat):Int)≥256)=true by simp;omega,ct,Ur a 8,show a/2 ^ 8=a/256 by rfl,Cba (by omega),Ac (by omega),ct,Int.toNat_natCast]
    change K (IntKind.wrap .i64 (IntKind.wrap .i64 ((b:Int)+8)+IntKind.wrap .i64 (((Ccv.getD (a/256) 0).toNat:Nat):Int)))=_
    rw [p3,i64 (a:=(b:Int)+8) (by omega),i64 (a:=(k:Int)) (by omega),i64 (by omega)]
    congr 1;omega
  · obtain ⟨k,p1,p2,p3⟩:=small a (by omega) (by omega)
    refine ⟨k,p1.1,p1.2,by omega,?_⟩
    unfold Gh H1
    rw [show decide (((a:Nat):Int)≥256)=false by simp;omega,cf,Cba (by omega),Ac (by omega),ct,Int.toNat_natCast]
    change K (IntKind.wrap .i64 ((b:Int)+IntKind.wrap .i64 (((Ccv.getD a 0).toNat:Nat):Int)))=_
    rw [p3,i64 (a:=(k:Int)) (by omega),i64 (by omega)]
    congr 1
theorem B5w {N:Nat} {c:Nat} {K:Int→Option R} (h0:0<c) (h1:c<4294967296):∃ k:Nat,2 ^ k≤2*c∧c<2 ^ k∧k≤32∧Kh N (c:Int) K=K (k:Int):=by
  rw [Abr];unfold Wi Wh
  by_cases h:c≥65536
  · obtain ⟨k,p1,p2,p3,p4⟩:=Cbb (R:=R) (N:=N) (a:=c/65536) (b:=16) (K:=K) (by omega) (by omega) (by omega)
    have p5:=Bty (m:=16) ⟨p1,p2⟩ (show c/65536=c/2 ^ 16 by rfl)
    refine ⟨k+16,p5.1,p5.2,by omega,?_⟩
    rw [show decide (((c:Nat):Int)≥65536)=true by simp;omega,ct,Ur c 16,show c/2 ^ 16=c/65536 by rfl]
    rw [Nat.add_comm k];exact p4
  · obtain ⟨k,p1,p2,p3,p4⟩:=Cbb (R:=R) (N:=N) (a:=c) (b:=0) (K:=K) (by omega) (by omega) (by omega)
    refine ⟨k,p1,p2,by omega,?_⟩
    rw [show decide (((c:Nat):Int)≥65536)=false by simp;omega,cf]
    rw [Nat.zero_add] at p4;exact p4
theorem B6t {N:Nat} {c:Nat} (h0:0<c) (h1:c<4294967296):∃ s:Nat,s≤31∧2147483648≤c*2 ^ s∧c*2 ^ s<4294967296∧∀ K:Int→Option R,Ch N (c:Int) K=K (s:Int):=by
  have key:∀ K:Int→Option R,∃ s:Nat,(s≤31∧2147483648≤c*2 ^ s∧c*2 ^ s<4294967296)∧Ch N (c:Int) K=K (s:Int):=by
    intro K
    rw [Ki];unfold Gy Gw
    obtain ⟨k,p1,p2,p3,p4⟩:=B5w (R:=R) (N:=N) (K:=fun c=>K (IntKind.wrap .i64 ((32:Int) - c))) h0 h1
    have e:2 ^ k*2 ^ (32 - k)=4294967296:=by rw [← Nat.pow_add,show k+(32 - k)=32 by omega]
    have hk:1≤k:=by
      rcases Nat.eq_zero_or_pos k with h | h
      · subst h;simp at p2;omega
      · exact h
    refine ⟨32 - k,⟨by omega,?_,?_⟩,?_⟩
    · have:=Nat.mul_le_mul_right (2 ^ (32 - k)) p1
      rw [e,Nat.mul_assoc] at this;omega
    · have:=(Nat.mul_lt_mul_right (show 0<2 ^ (32 - k) from Nat.pow_pos (by omega))).2 p2
      rw [e] at this;exact this
    · rw [p4,i64 (by omega)];congr 1;omega
  obtain ⟨s,hs,_⟩:=key fun _=>none
  refine ⟨s,hs.1,hs.2.1,hs.2.2,fun K=>?_⟩
  obtain ⟨s',hs',e⟩:=key K
  have:s'=s:=by
    rcases Nat.lt_trichotomy s s' with h | h | h
    · exfalso
      have h2:2 ^ (s+1)≤2 ^ s':=Nat.pow_le_pow_right (by omega) h
      have h3:=Nat.mul_le_mul_left c h2
      rw [Nat.pow_succ,← Nat.mul_assoc] at h3
      omega
    · exact h.symm
    · exfalso
      have h2:2 ^ (s'+1)≤2 ^ s:=Nat.pow_le_pow_right (by omega) h
      have h3:=Nat.mul_le_mul_left c h2
      rw [Nat.pow_succ,← Nat.mul_assoc] at h3
      omega
  rw [e,this]
theorem B02 {s:Nat} (h:s≤31):2 ^ s≤2147483648:=Nat.pow_le_pow_right (n:=2) (by omega) h
theorem B9c {x c s:Nat} (hx:x<4294967296) (hc:c<2 ^ s) (hs:s≤31):Rf .u64 (c:Int) (IntKind.wrap .u64 ((IntKind.wrap .u64 (x:Int))*2 ^ (min (Int.toNat (s:Int)) 64)))=((x*2 ^ s+c:Nat):Int)∧x*2 ^ s+c<4294967296*2 ^ s:=by
  have hp:=B02 hs
  have h1:x*2 ^ s≤4294967295*2 ^ s:=Nat.mul_le_mul_right _ (by omega)
  have h2:(x+1)*2 ^ s≤4294967296*2 ^ s:=Nat.mul_le_mul_right _ (by omega)
  rw [Nat.add_mul] at h2
  refine ⟨?_,by omega⟩
  rw [w64 (by omega),Int.toNat_natCast,Nat.min_eq_left (by omega),show (2:Int) ^ s=((2 ^ s:Nat):Int) by simp,Btp,w64 (by omega),B5s (by omega) (by omega),Nat.or_comm,Bi0 hc]
theorem Bez {N:Nat} {a:List Nat} {t o:Bool} {s:Nat} (ha:Ah a) (hs:s≤31) (hz':a.length≤1000000000000):∀ (m d fuel:Nat) (S:List Nat) (c:Nat),d+m=a.length→m<fuel→Ah S→S.length=a.length+1→zer S d→c<2 ^ s →
    val S+4294967296 ^ d*c=val (a.take d)*2 ^ s →
    ∃ S',Ah S'∧S'.length=a.length+1∧val S'=val a*2 ^ s∧∀ K:Nat→LA→Option R,K0 N K (Ae a) a.length t o (s:Int) fuel (a.length+1) (c:Int) (a.length:Int) (d:Int) (Ae S)=K (a.length+1) (Ae S')
  | 0,d,fuel+1,S,c,hd,_,hS,hl,hz,hc,hv=>by
    have hd':d=a.length:=by omega
    subst hd'
    have hp:=B02 hs
    rw [List.take_length] at hv
    refine ⟨S.set a.length c,Cs hS (by omega) _,by simpa using hl,by rw [Y6 hz (by omega),hv],fun K=>?_⟩
    rw [K0];unfold Tl
    rw [ltF (Nat.le_refl _),cf,Ac (by omega),ct,Ccd (by omega),ct,w32 (by omega),Ca9]
  | m+1,d,fuel+1,S,c,hd,hfu,hS,hl,hz,hc,hv=>by
    have hda:d<a.length:=by omega
    have ad:=A3 ha hda
    obtain ⟨w1,w2⟩:=B9c ad hc hs
    generalize hsd:a[d]*2 ^ s+c=w at *
    have hpos:0<2 ^ s:=Nat.pow_pos (by omega)
    have key:val (S.set d (w%4294967296))+4294967296 ^ (d+1)*(w/4294967296)=val (a.take (d+1))*2 ^ s:=by
      rw [Y6 hz (by omega),Av hda,Nat.pow_succ,Nat.add_mul,Nat.mul_assoc _ a[d]]
      have e:=Mu (4294967296 ^ d) w
      have e2:4294967296 ^ d*w=4294967296 ^ d*(a[d]*2 ^ s)+4294967296 ^ d*c:=by rw [← hsd,Nat.mul_add]
      omega
    obtain ⟨S',q1,q2,q3,q4⟩:=Bez (t:=t) (o:=o) ha hs hz' m (d+1) fuel (S.set d (w%4294967296)) (w/4294967296) (by omega) (by omega) (Cs hS (by omega) d) (by simpa using hl) (Ak2 hz) (Nat.div_lt_of_lt_mul w2) key
    refine ⟨S',q1,q2,q3,fun K=>?_⟩
    rw [K0];unfold Tl
    rw [ltT hda,ct,Ac hda,ct,rdl hda,show decide (((s:Nat):Int)<0)=false by simp,cf,Ac (by omega),ct,st1 (by omega),ct,w1,Biz,Ba5,A0v,wS (by omega)]
    exact q4 K
theorem Be0 {N:Nat} {a:List Nat} {n:Nat} {t o:Bool} {s:Nat} (hn:n=a.length) (ha:Ah a) (hs:s≤31) (hf:fit a.length N) :
    ∃ S',Ah S'∧S'.length=a.length+1∧val S'=val a*2 ^ s∧∀ K:Nat→LA→Option R,Wl N (Ae a) n t o (s:Int) K=K (a.length+1) (Ae S'):=by
  subst hn
  have h1:=hf.1;have h2:=hf.2
  obtain ⟨S',q1,q2,q3,q4⟩:=Bez (R:=R) (N:=N) (t:=t) (o:=o) ha hs (by omega) a.length 0 N (List.replicate (a.length+1) 0) 0 (by omega) (by omega) (Cq _) (by simp) (K8 _) (Nat.pow_pos (by omega)) (by rw [D1];simp [val])
  refine ⟨S',q1,q2,q3,fun K=>?_⟩
  rw [Ay6];unfold Ay5 Ay4
  rw [wmk (by omega),mk4 (by omega),ct,Int.toNat_natCast,Dd]
  exact q4 K
end
end Gx

namespace Gx
open Go Go.Proofs
section
variable {R:Type}
theorem rdw {P U Q:List Nat} {i:Nat} (h:i<U.length) {f:Int→Option R}:rdI .u32 (List.drop (P.length+((Int.toNat (i:Int))*1)) (Ae (P++(U++Q)))) f=f (U[i]:Nat):=by
  rw [Int.toNat_natCast,Nat.mul_one,B3c (by simp;omega)]
  congr 2
  rw [List.getElem_append_right (by omega)]
  simp only [Nat.add_sub_cancel_left]
  rw [List.getElem_append_left h]
theorem stw {P U Q:List Nat} {i:Nat} (h:i<U.length):((Nat.beq 1 1)&&((Nat.ble ((P.length+((Int.toNat (i:Int))*1))+1) (List.length (Ae (P++(U++Q)))))&&(!false)))=true:=by
  rw [B4,Int.toNat_natCast];simp;omega
theorem B9d {P U Q:List Nat} {i v:Nat} (h:i<U.length):List.set (Ae (P++(U++Q))) (P.length+((Int.toNat (i:Int))*1)) (.int .u32 (v:Int))=Ae (P++(U.set i v++Q)):=by
  rw [Int.toNat_natCast,Nat.mul_one,Beu,List.set_append_right _ _ (by omega),Nat.add_sub_cancel_left,List.set_append_left _ _ h]
theorem Ccq {P U Q:List Nat} {i:Nat} (h:i<U.length) {f:Int→Option R}:rdI .u32 (List.drop (P.length+(i*1)) (Ae (P++(U++Q)))) f=f (U[i]:Nat):=by
  have:=rdw (R:=R) (P:=P) (Q:=Q) (f:=f) h;rw [Int.toNat_natCast] at this;exact this
theorem Be1 {X:List Nat} {p g:Nat} (h:p<X.length):val ((X.set p g).take (p+1))=val (X.take p)+4294967296 ^ p*g:=by
  rw [Av (by simpa using h),List.getElem_set_self,List.take_set_of_le (Nat.le_refl _)]
theorem Apd {X:List Nat} {n:Nat} (h:X.length=n+1):val X=val (X.take n)+4294967296 ^ n*X[n]:=by
  have:=Av (l:=X) (c:=n) (by omega)
  rwa [List.take_of_length_le (by omega)] at this
theorem B6u {D:Nat} (h:1≤D) (h2:D<18446744073709551616):IntKind.wrap .u64 ((D:Int) - 1)=((D - 1:Nat):Int):=by rw [Ba6];omega
theorem Cal {D y t:Nat} (hD:D<4294967296) (hy:y<4294967296) (ht:t≤4294967296):D*y+t<18446744073709551616∧(D*y+t)/4294967296+1≤4294967296:=by
  have:D*y≤4294967295*4294967295:=Nat.mul_le_mul (by omega) (by omega)
  omega
theorem B6v {N:Nat} {P Q X v:List Nat} {n D:Nat} {f g:Bool} (hv:Ah v) (hn:v.length=n) (hX:Ah X) (hXl:X.length=n+1) (hs:n≤1000000000000) (hD:D<4294967296) (hD1:1≤D) {r:Nat} (hr:val X+val v=4294967296 ^ (n+1)+r) (hrv:r<4294967296 ^ n) :
    ∀ (m o fuel:Nat) (Y:List Nat) (c:Nat),o+m=n→m<fuel→Ah Y→Y.length=n+1→(∀ j (h1:j<Y.length) (h2:j<X.length),o≤j→Y[j]=X[j])→c≤1→val (Y.take o)+4294967296 ^ o*c=val (X.take o)+val (v.take o) →
    ∃ Y',Ah Y'∧Y'.length=n+1∧val Y'=r∧∀ K:Int→LA→Option R,G3 N K P.length (n+1) (n:Int) (D:Int) (Ae v) n f g fuel (c:Int) (n:Int) (o:Int) (Ae (P++(Y++Q)))=K ((D - 1:Nat):Int) (Ae (P++(Y'++Q)))
  | 0,o,fuel+1,Y,c,ho,_,hY,hYl,hag,hc,hval=>by
    have ho':o=n:=by omega
    subst ho'
    rw [show v.take o=v by rw [← hn];exact List.take_length] at hval
    have e1:=Apd hXl
    have eq:val (Y.take o)+4294967296 ^ o*(X[o]+c)=4294967296 ^ o*4294967296+r:=by
      rw [Nat.mul_add,← Nat.pow_succ];omega
    have yt:=Bn (Cn hY o)
    rw [List.length_take,Nat.min_eq_left (by omega)] at yt
    have hP:0<4294967296 ^ o:=Nat.pow_pos (by omega)
    have hw:X[o]+c=4294967296:=by
      have h1:(val (Y.take o)+4294967296 ^ o*(X[o]+c))/4294967296 ^ o=X[o]+c:=by rw [Nat.add_mul_div_left _ _ hP,Nat.div_eq_of_lt yt,Nat.zero_add]
      have h2:(4294967296 ^ o*4294967296+r)/4294967296 ^ o=4294967296:=by rw [Nat.mul_add_div hP,Nat.div_eq_of_lt hrv,Nat.add_zero]
      rw [← h1,eq,h2]
    have hyr:val (Y.take o)=r:=by rw [hw] at eq;omega
    have hyo:Y[o]=X[o]:=hag o (by omega) (by omega) (Nat.le_refl _)
    have hl2:(Y.set o 0).length=o+1:=by simpa using hYl
    refine ⟨Y.set o 0,Cs hY (by omega) o,hl2,?_,fun K=>?_⟩
    · have:=Be1 (X:=Y) (p:=o) (g:=0) (by omega)
      rw [List.take_of_length_le (by omega),hyr] at this;simpa using this
    · rw [G3];unfold Ns
      have hXo:=A3 hX (show o<X.length by omega)
      rw [ltF (Nat.le_refl _),cf,Ac (by omega),ct,rdw (by omega),ct,stw (by omega),ct,hyo,w32 (show c<4294967296 by omega),Ao9,hw,Ba5,B9d (by omega),B6u hD1 (by omega),w32 (by omega)]
  | m+1,o,fuel+1,Y,c,ho,hfu,hY,hYl,hag,hc,hval=>by
    have hon:o<n:=by omega
    have hov:o<v.length:=by omega
    have vo:=A3 hv hov
    have hoy:o<Y.length:=by omega
    have yo:=A3 hY hoy
    have hyo:Y[o]=X[o]:=hag o (by omega) (by omega) (Nat.le_refl _)
    have hs1:c+(Y[o]+v[o])<18446744073709551616:=by omega
    have hs2:(c+(Y[o]+v[o]))/4294967296≤1:=by omega
    generalize hsd:c+(Y[o]+v[o])=s at *
    have key:val ((Y.set o (s%4294967296)).take (o+1))+4294967296 ^ (o+1)*(s/4294967296)=val (X.take (o+1))+val (v.take (o+1)):=by
      rw [Be1 hoy,Av (l:=X) (by omega),Av hov,Nat.pow_succ]
      have e:=Mu (4294967296 ^ o) s
      have e2:4294967296 ^ o*s=4294967296 ^ o*c+(4294967296 ^ o*X[o]+4294967296 ^ o*v[o]):=by rw [← hsd,Nat.mul_add,Nat.mul_add,hyo]
      omega
    obtain ⟨Y',q1,q2,q3,q4⟩:=B6v (N:=N) (P:=P) (Q:=Q) (f:=f) (g:=g) hv hn hX hXl hs hD hD1 hr hrv m (o+1) fuel (Y.set o (s%4294967296)) (s/4294967296) (by omega) (by omega) (Cs hY (by omega) o) (by simpa using hYl) (fun j h1 h2 hj=>by rw [List.getElem_set,if_neg (by omega)];exact hag j (by simpa using h1) h2 (by omega)) hs2 key
    refine ⟨Y',q1,q2,q3,fun K=>?_⟩
    rw [G3];unfold Ns
    rw [ltT hon,ct,Ac hon,ct,rdl hov,Ac (by omega),ct,rdw hoy,ct,stw hoy,ct,w64 (show v[o]<18446744073709551616 by omega),w64 (show Y[o]<18446744073709551616 by omega),Ao9,w64 (by omega),Ao9,hsd,w64 hs1,Biz,Ba5,B9d hoy,wS (by omega)]
    exact q4 K
theorem B9e {N:Nat} {P Q U v:List Nat} {n D:Nat} {f g:Bool} (hv:Ah v) (hn:v.length=n) (hU:Ah U) (hUl:U.length=n+1) (hs:n≤1000000000000) (hN:n+2<N) (hD:D<4294967296) (hv0:0<val v) (hq1:val U/val v≤D) (hq2:D≤val U/val v+1) :
    ∀ (m p fuel:Nat) (X:List Nat) (t:Nat),p+m=n→m<fuel→Ah X→X.length=n+1→(∀ j (h1:j<X.length) (h2:j<U.length),p≤j→X[j]=U[j])→t≤4294967296→val (X.take p)+D*val (v.take p)=val (U.take p)+4294967296 ^ p*t →
    ∃ X',Ah X'∧X'.length=n+1∧val X'=val U%val v∧∀ K:Int→LA→Option R,E7 N K P.length (n+1) (Ae v) n f g (n:Int) (D:Int) fuel (t:Int) (n:Int) (p:Int) (Ae (P++(X++Q)))=K ((val U/val v:Nat):Int) (Ae (P++(X'++Q)))
  | 0,p,fuel+1,X,t,hp,_,hX,hXl,hag,ht,hval=>by
    have hp':p=n:=by omega
    subst hp'
    rw [show v.take p=v by rw [← hn];exact List.take_length] at hval
    have hXp:X[p]=U[p]:=hag p (by omega) (by omega) (Nat.le_refl _)
    have up:=A3 hU (show p<U.length by omega)
    obtain ⟨d,c,g1,g2,g3,g4,g5⟩:=A4l up ht
    have hl2:(X.set p d).length=p+1:=by simpa using hXl
    have hX2:=Cs hX g1 p
    have hv2:val (X.set p d)=val (X.take p)+4294967296 ^ p*d:=by
      have:=Be1 (X:=X) (p:=p) (g:=d) (by omega)
      rwa [List.take_of_length_le (by omega)] at this
    have eU:=Apd hUl
    have main:val (X.set p d)+D*val v=val U+4294967296 ^ (p+1)*c:=by
      have e:4294967296 ^ p*(U[p]+4294967296*c)=4294967296 ^ p*(d+t):=by rw [g3]
      rw [Nat.mul_add,Nat.mul_add,← Nat.mul_assoc] at e
      rw [hv2,eU,Nat.pow_succ];omega
    have hlt:=Bn hX2
    rw [hl2] at hlt
    have hdm:=Nat.div_add_mod (val U) (val v)
    have hmod:=Nat.mod_lt (val U) hv0
    have vlt:=Bn hv
    rw [hn] at vlt
    by_cases hc:c=0
    · subst hc
      have hDq:D=val U/val v:=by
        have:D≤val U/val v:=by rw [Nat.le_div_iff_mul_le hv0];omega
        omega
      refine ⟨X.set p d,hX2,hl2,?_,fun K=>?_⟩
      · rw [hDq,Nat.mul_comm] at main;omega
      · rw [E7];unfold Ip
        rw [ltF (Nat.le_refl _),cf,Ac (by omega),ct,rdw (by omega),ct,stw (by omega),ct,hXp,w64 (show U[p]<18446744073709551616 by omega),g4,g5,show (((0:Nat):Int)==0)=true by rfl,ct,w32 hD,B9d (by omega),hDq]
    · have hc1:c=1:=by omega
      subst hc1
      have hDq:D=val U/val v+1:=by
        have:¬ D≤val U/val v:=fun h=>by
          have:=Nat.mul_le_mul_left (val v) h
          rw [Nat.mul_comm] at this
          omega
        omega
      have hr:val (X.set p d)+val v=4294967296 ^ (p+1)+val U%val v:=by
        rw [hDq,Nat.add_mul,Nat.mul_comm (val U/val v)] at main;omega
      obtain ⟨Y',q1,q2,q3,q4⟩:=B6v (R:=R) (N:=N) (P:=P) (Q:=Q) (f:=f) (g:=g) (X:=X.set p d) hv hn hX2 hl2 hs hD (by rw [hDq];exact Nat.le_add_left 1 _) hr (by omega) p 0 N (X.set p d) 0 (by omega) (by omega) hX2 hl2 (fun _ _ _ _=>rfl) (by omega) (by simp [val])
      refine ⟨Y',q1,q2,q3,fun K=>?_⟩
      rw [E7];unfold Ip
      rw [ltF (Nat.le_refl _),cf,Ac (by omega),ct,rdw (by omega),ct,stw (by omega),ct,hXp,w64 (show U[p]<18446744073709551616 by omega),g4,g5,show (((1:Nat):Int)==0)=false by rfl,cf,B9d (by omega)]
      have:=q4 K
      rw [show D - 1=val U/val v by rw [hDq];rfl] at this
      exact this
  | m+1,p,fuel+1,X,t,hp,hfu,hX,hXl,hag,ht,hval=>by
    have hpn:p<n:=by omega
    have hpv:p<v.length:=by omega
    have vp:=A3 hv hpv
    have hpx:p<X.length:=by omega
    have hXp:X[p]=U[p]:=hag p (by omega) (by omega) (Nat.le_refl _)
    have up:=A3 hU (show p<U.length by omega)
    obtain ⟨hw1,hw2⟩:=Cal hD vp ht
    have hDv:D*v[p]<18446744073709551616:=by omega
    generalize hpp:D*v[p]+t=w at *
    obtain ⟨d,c,g1,g2,g3,g4,g5⟩:=A4l up (show w%4294967296≤4294967296 by omega)
    have key:val ((X.set p d).take (p+1))+D*val (v.take (p+1))=val (U.take (p+1))+4294967296 ^ (p+1)*(w/4294967296+c):=by
      rw [Be1 hpx,Av hpv,Av (l:=U) (by omega),Nat.pow_succ]
      have e:=Mu (4294967296 ^ p) w
      have e2:4294967296 ^ p*w=4294967296 ^ p*(D*v[p])+4294967296 ^ p*t:=by rw [← hpp,Nat.mul_add]
      have e3:4294967296 ^ p*(U[p]+4294967296*c)=4294967296 ^ p*(d+w%4294967296):=by rw [g3]
      rw [Nat.mul_add,Nat.mul_add,← Nat.mul_assoc] at e3
      have e4:D*(val (v.take p)+4294967296 ^ p*v[p])=D*val (v.take p)+4294967296 ^ p*(D*v[p]):=by rw [Nat.mul_add,Nat.mul_left_comm]
      rw [e4,Nat.mul_add]
      omega
    obtain ⟨X',q1,q2,q3,q4⟩:=B9e (N:=N) (P:=P) (Q:=Q) (f:=f) (g:=g) hv hn hU hUl hs hN hD hv0 hq1 hq2 m (p+1) fuel (X.set p d) (w/4294967296+c) (by omega) (by omega) (Cs hX g1 p) (by simpa using hXl) (fun j h1 h2 hj=>by rw [List.getElem_set,if_neg (by omega)];exact hag j (by simpa using h1) h2 (by omega)) (by omega) key
    refine ⟨X',q1,q2,q3,fun K=>?_⟩
    rw [E7];unfold Ip
    rw [ltT hpn,ct,Ac hpn,ct,rdl hpv,Ac (by omega),ct,rdw hpx,ct,stw hpx,ct,hXp,w64 (show v[p]<18446744073709551616 by omega),Btp,w64 hDv,Ao9,hpp,w64 hw1,Ba5,w64 (show w%4294967296<18446744073709551616 by omega),w64 (show U[p]<18446744073709551616 by omega),g4,g5,Biz,Ao9,w64 (by omega),B9d hpx,wS (by omega)]
    exact q4 K
end
end Gx

namespace Gx
open Go Go.Proofs
section
variable {R:Type}
theorem A6v (a b:Nat):Int.tdiv (a:Int) (b:Int)=((a/b:Nat):Int):=rfl
theorem A0x (a b:Nat):Int.tmod (a:Int) (b:Int)=((a%b:Nat):Int):=rfl
theorem Cbc {l:Nat} (h:l<4294967296):(((Int.fdiv (l:Int) (2 ^ 32)) != (0:Int)))=false:=by rw [Biz,Nat.div_eq_of_lt h];rfl
theorem Cbd {l:Nat} (h:4294967296≤l):(((Int.fdiv (l:Int) (2 ^ 32)) != (0:Int)))=true:=by
  have h1:l/4294967296≠0:=by omega
  rw [Biz];rw [bne_iff_ne];omega
theorem orw {a b:Nat} (ha:a<4294967296) (hb:b<4294967296):Rf .u64 (IntKind.wrap .u64 ((a:Int)*2 ^ 32)) (b:Int)=((a*4294967296+b:Nat):Int):=by
  rw [show (2:Int) ^ 32=((2 ^ 32:Nat):Int) by rfl,Btp,w64 (by omega),B5s (by omega) (by omega),Bi0 (by omega)]
theorem Cbr {B l v1 v2 m u2:Nat} (h:m*B+u2<l*v2):(l*v1+m)*B+u2<l*(v1*B+v2):=by rw [Nat.add_mul,Nat.mul_add,← Nat.mul_assoc l v1];omega
theorem Cbs {B l v1 v2 m u2:Nat} (h:l*v2≤m*B+u2):l*(v1*B+v2)≤(l*v1+m)*B+u2:=by rw [Nat.add_mul,Nat.mul_add,← Nat.mul_assoc l v1];omega
theorem Cbt {B u0 u1 u2 v1 v2:Nat} (h2:v2<B) (h:(u0*B+u1)*B+u2<(v1*B+v2+1)*B):u0*B+u1<v1*B+B:=by
  have:u0*B+u1<v1*B+v2+1:=Nat.lt_of_mul_lt_mul_right (Nat.lt_of_le_of_lt (Nat.le_add_right _ u2) h)
  omega
theorem pw1 (P x:Nat):P*4294967296*x=P*(x*4294967296):=by rw [Nat.mul_assoc,Nat.mul_comm 4294967296]
theorem B9f {N:Nat} {P Q U v:List Nat} {n:Nat} {f g:Bool} {K:Int→LA→Option R} (hn:v.length=n+2) (hv:Ah v) (hU:Ah U) (hUl:U.length=n+3) (hs:n≤1000000000000) {v1 v2 u2 top:Nat}
    (e1:v[n+1]'(by omega)=v1) (e2:v[n]'(by omega)=v2) (e3:U[n]'(by omega)=u2) (hv1:2147483648≤v1) (htop:top<v1*4294967296+4294967296)
    (hV:(v1*4294967296+v2)*4294967296 ^ n≤val v) (hV':val v<(v1*4294967296+v2+1)*4294967296 ^ n) (hUU:(top*4294967296+u2)*4294967296 ^ n≤val U) (hUU':val U<(top*4294967296+u2+1)*4294967296 ^ n) (hq:val U/val v<4294967296) :
    ∀ (k fuel l m:Nat),k<fuel→4294967296≤m+k*2147483648→m<4294967296→l*v1+m=top→val U/val v≤l→∃ D,D<4294967296∧val U/val v≤D∧D≤val U/val v+1 ∧
      D9 N K P.length (n+3) (Ae v) (n+2) f g (Ae (P++(U++Q))) fuel ((n+2:Nat):Int) (l:Int) (m:Int)=D8 N K P.length (n+3) (Ae v) (n+2) f g ((n+2:Nat):Int) (Ae (P++(U++Q))) (D:Int):=by
  have b1:=A3 hv (show n+1<v.length by omega)
  have b2:=A3 hv (show n<v.length by omega)
  have b3:=A3 hU (show n<U.length by omega)
  rw [e1] at b1;rw [e2] at b2;rw [e3] at b3
  have hP:0<4294967296 ^ n:=Nat.pow_pos (by omega)
  have hv0:0<val v:=Nat.lt_of_lt_of_le (Nat.mul_pos (by omega) hP) hV
  intro k
  induction k with
  | zero=>intro fuel l m _ h1 h2;omega
  | succ k ih =>
    intro fuel l m hf hm hm2 htm hql
    obtain ⟨fuel,rfl⟩:∃ F,fuel=F+1:=⟨fuel - 1,by omega⟩
    generalize hqq:val U/val v=q at *
    have wi1:IntKind.wrap .i64 (((n+2:Nat):Int) - 1)=((n+1:Nat):Int):=by rw [i64 (by omega)];omega
    have wi2:IntKind.wrap .i64 (((n+2:Nat):Int) - 2)=((n:Nat):Int):=by rw [i64 (by omega)];omega
    have lower : q < l → l < 18446744073709551616 → ∃ D, D < 4294967296 ∧ q ≤ D ∧ D ≤ q + 1 ∧
        Kj N (D9 N K P.length (n+3) (Ae v) (n+2) f g (Ae (P++(U++Q))) fuel) K P.length (n+3) (Ae v) (n+2) f g ((n+2:Nat):Int) (l:Int) (m:Int) (Ae (P++(U++Q)))=D8 N K P.length (n+3) (Ae v) (n+2) f g ((n+2:Nat):Int) (Ae (P++(U++Q))) (D:Int):=by
      intro hlt hl64
      have hsum:(l - 1)*v1+(m+v1)=top:=by
        have:l*v1=(l - 1)*v1+v1:=by
          obtain ⟨l',rfl⟩:∃ l',l=l'+1:=⟨l - 1,by omega⟩
          rw [Nat.add_mul];simp
        omega
      unfold Kj Wn
      rw [wi1,Ac (by omega),ct,rdl (show n+1<v.length by omega),e1,w64 (show v1<18446744073709551616 by omega),Ao9,w64 (show m+v1<18446744073709551616 by omega),B6u (by omega) hl64]
      by_cases hbig:4294967296≤m+v1
      · have hDB : l - 1 < 4294967296 := by
          apply Nat.lt_of_not_le;intro hge
          have:=Nat.mul_le_mul_right v1 hge
          rw [Nat.mul_comm 4294967296] at this
          omega
        have hest:(l - 1)*(v1*4294967296+v2)≤top*4294967296+u2:=by
          have x1:(l - 1)*v2≤4294967295*4294967295:=Nat.mul_le_mul (by omega) (by omega)
          rw [← hsum,Nat.add_mul,Nat.mul_add,← Nat.mul_assoc]
          omega
        have hlo:=Byg hV' hUU hest (by omega) hv0
        rw [hqq] at hlo
        exact ⟨l - 1,hDB,by omega,hlo,by rw [Cbd hbig,ct]⟩
      · obtain ⟨D,d1,d2,d3,d4⟩:=ih fuel (l - 1) (m+v1) (by omega) (by omega) (by omega) hsum (by omega)
        exact ⟨D,d1,d2,d3,by rw [Cbc (by omega),cf,d4]⟩
    rw [D9];unfold Wo
    by_cases hlB:l<4294967296
    · rw [Cbc hlB,show ((false:Bool)==false)=true by rfl,ct,wi2,Ac (by omega),ct,rdl (show n<v.length by omega),Ac (by omega),ct,rdw (show n<U.length by omega),cfB,e2,e3,w64 (show v2<18446744073709551616 by omega),w64 (show u2<18446744073709551616 by omega),Btp]
      have x1:l*v2≤4294967295*4294967295:=Nat.mul_le_mul (by omega) (by omega)
      rw [w64 (show l*v2<18446744073709551616 by omega),orw hm2 b3]
      by_cases hgt:m*4294967296+u2<l*v2
      · rw [show decide (((l*v2:Nat):Int)>((m*4294967296+u2:Nat):Int))=true by rw [decide_eq_true_eq];omega,ct]
        have hup:val U/val v<l:=Byf hV hUU' (by rw [← htm];exact Cbr hgt) hv0
        rw [hqq] at hup
        exact lower hup (by omega)
      · rw [show decide (((l*v2:Nat):Int)>((m*4294967296+u2:Nat):Int))=false by rw [decide_eq_false_iff_not];omega,cf]
        have hest:l*(v1*4294967296+v2)≤top*4294967296+u2:=by
          rw [← htm];exact Cbs (Nat.le_of_not_lt hgt)
        have hlo:=Byg hV' hUU hest (by omega) hv0
        rw [hqq] at hlo
        exact ⟨l,hlB,hql,hlo,rfl⟩
    · rw [Cbd (by omega),show ((true:Bool)==false)=false by rfl,cf]
      have hl64:l<18446744073709551616:=by
        have:l*2147483648≤l*v1:=Nat.mul_le_mul_left _ hv1
        omega
      exact lower (by omega) hl64
theorem Btz {N:Nat} {P Q U v:List Nat} {n:Nat} {f g:Bool} (hn:v.length=n+2) (hv:Ah v) (hU:Ah U) (hUl:U.length=n+3) (hs:n≤1000000000) (hN:n+8<N) (hv1:2147483648≤v[n+1]'(by omega)) (hlt:val U<val v*4294967296) :
    ∃ U',Ah U'∧U'.length=n+3∧val U'=val U%val v∧∀ K:Int→LA→Option R,Nt N P.length (n+3) (Ae v) (n+2) f g (Ae (P++(U++Q))) K=K ((val U/val v:Nat):Int) (Ae (P++(U'++Q))):=by
  have b1:=A3 hv (show n+1<v.length by omega)
  have b2:=A3 hv (show n<v.length by omega)
  have b3:=A3 hU (show n<U.length by omega)
  have b4:=A3 hU (show n+1<U.length by omega)
  have b5:=A3 hU (show n+2<U.length by omega)
  have hP:0<4294967296 ^ n:=Nat.pow_pos (by omega)
  have vv:val v=val (v.take n)+4294967296 ^ n*(v[n+1]'(by omega)*4294967296+v[n]'(by omega)):=by
    have h1:=Av (l:=v) (c:=n+1) (by omega)
    have h2:=Av (l:=v) (c:=n) (by omega)
    rw [List.take_of_length_le (by omega)] at h1
    rw [h1,h2,Nat.pow_succ,Nat.mul_add,Nat.mul_assoc,Nat.mul_comm 4294967296 v[n+1]];omega
  have uu:val U=val (U.take n)+4294967296 ^ n*((U[n+2]'(by omega)*4294967296+U[n+1]'(by omega))*4294967296+U[n]'(by omega)):=by
    have h0:=Av (l:=U) (c:=n+2) (by omega)
    have h1:=Av (l:=U) (c:=n+1) (by omega)
    have h2:=Av (l:=U) (c:=n) (by omega)
    rw [List.take_of_length_le (by omega)] at h0
    have x1:4294967296 ^ (n+2)*U[n+2]=4294967296 ^ n*(U[n+2]*4294967296*4294967296):=by rw [Nat.pow_succ (n:=4294967296) (m:=n+1),Nat.pow_succ,pw1,pw1]
    have x2:4294967296 ^ (n+1)*U[n+1]=4294967296 ^ n*(U[n+1]*4294967296):=by rw [Nat.pow_succ,pw1]
    rw [h0,h1,h2,x1,x2,Nat.add_mul,Nat.mul_add,Nat.mul_add];omega
  have tv:=Bn (Cn hv n)
  have tu:=Bn (Cn hU n)
  rw [List.length_take,Nat.min_eq_left (by omega)] at tv tu
  generalize e1:v[n+1]'(by omega)=v1 at *
  generalize e2:v[n]'(by omega)=v2 at *
  generalize e3:U[n]'(by omega)=u2 at *
  generalize e4:U[n+1]'(by omega)=u1 at *
  generalize e5:U[n+2]'(by omega)=u0 at *
  have hv0:0<val v:=by
    have:0<4294967296 ^ n*(v1*4294967296+v2):=Nat.mul_pos hP (by omega)
    omega
  have hV:(v1*4294967296+v2)*4294967296 ^ n≤val v:=by rw [Nat.mul_comm];omega
  have hV':val v<(v1*4294967296+v2+1)*4294967296 ^ n:=by rw [Nat.mul_comm,Nat.mul_add];omega
  have hUU:((u0*4294967296+u1)*4294967296+u2)*4294967296 ^ n≤val U:=by rw [Nat.mul_comm];omega
  have hUU':val U<((u0*4294967296+u1)*4294967296+u2+1)*4294967296 ^ n:=by rw [Nat.mul_comm,Nat.mul_add];omega
  have hq:val U/val v<4294967296:=Nat.div_lt_of_lt_mul hlt
  have htop:u0*4294967296+u1<v1*4294967296+4294967296:=by
    have h1:((u0*4294967296+u1)*4294967296+u2)*4294967296 ^ n<(v1*4294967296+v2+1)*4294967296 ^ n*4294967296:=by
      have:=(Nat.mul_lt_mul_right (show 0<4294967296 by omega)).2 hV'
      omega
    rw [Nat.mul_right_comm] at h1
    exact Cbt b2 (Nat.lt_of_mul_lt_mul_right h1)
  obtain ⟨top,htp⟩:∃ top,u0*4294967296+u1=top:=⟨_,rfl⟩
  rw [htp] at hUU hUU' htop
  have hdm:=Nat.div_add_mod top v1
  have hmod:=Nat.mod_lt top (show 0<v1 by omega)
  have hq0:val U/val v≤top/v1:=by
    have h1:val U/val v<top/v1+1:=by
      apply Byf hV hUU' _ hv0
      have h2:top<v1*(top/v1+1):=by rw [Nat.mul_add];omega
      have h3:(top+1)*4294967296≤v1*(top/v1+1)*4294967296:=Nat.mul_le_mul_right _ h2
      rw [Nat.mul_add,← Nat.mul_assoc,Nat.mul_comm _ v1]
      omega
    omega
  have key:∀ K:Int→LA→Option R,∃ D,D<4294967296∧val U/val v≤D∧D≤val U/val v+1∧Nt N P.length (n+3) (Ae v) (n+2) f g (Ae (P++(U++Q))) K=D8 N K P.length (n+3) (Ae v) (n+2) f g ((n+2:Nat):Int) (Ae (P++(U++Q))) (D:Int):=by
    intro K
    obtain ⟨D,d1,d2,d3,d4⟩:=B9f (R:=R) (N:=N) (P:=P) (Q:=Q) (f:=f) (g:=g) (K:=K) hn hv hU hUl (by omega) e1 e2 e3 hv1 htop hV hV' hUU hUU' hq 2 N (top/v1) (top%v1) (by omega) (by omega) (by omega) (by rw [Nat.mul_comm];exact hdm) hq0
    refine ⟨D,d1,d2,d3,?_⟩
    rw [← d4,Aoq];unfold Amk Amj
    have wi1:IntKind.wrap .i64 (((n+2:Nat):Int) - 1)=((n+1:Nat):Int):=by rw [i64 (by omega)];omega
    rw [Ac (by omega),ct,Ccq (show n+2<U.length by omega),wi1,Ac (by omega),ct,rdw (show n+1<U.length by omega),Ac (by omega),ct,rdl (show n+1<v.length by omega),e1,e4,e5,w64 (show v1<18446744073709551616 by omega),i0F (by omega),cf,ct,rdl (show n+1<v.length by omega),e1,w64 (show v1<18446744073709551616 by omega),i0F (by omega),cf,w64 (show u0<18446744073709551616 by omega),w64 (show u1<18446744073709551616 by omega),orw b5 b4,htp,A6v,A0x,w64 (show top/v1<18446744073709551616 from Nat.lt_of_le_of_lt (Nat.div_le_self _ _) (by omega))]
  have fin:∀ D,D<4294967296→val U/val v≤D→D≤val U/val v+1→∃ U',Ah U'∧U'.length=n+3∧val U'=val U%val v∧∀ K:Int→LA→Option R,D8 N K P.length (n+3) (Ae v) (n+2) f g ((n+2:Nat):Int) (Ae (P++(U++Q))) (D:Int)=K ((val U/val v:Nat):Int) (Ae (P++(U'++Q))):=by
    intro D d1 d2 d3
    obtain ⟨X',q1,q2,q3,q4⟩:=B9e (R:=R) (N:=N) (P:=P) (Q:=Q) (U:=U) (v:=v) (n:=n+2) (D:=D) (f:=f) (g:=g) hv hn hU hUl (by omega) (by omega) d1 hv0 d2 d3 (n+2) 0 N U 0 (by omega) (by omega) hU hUl (fun _ _ _ _=>rfl) (by omega) (by simp [val])
    exact ⟨X',q1,q2,q3,fun K=>by unfold D8 Wm;exact q4 K⟩
  by_cases hz:val U/val v+1<4294967296
  · obtain ⟨U1,a1,a2,a3,a4⟩:=fin (val U/val v) hq (Nat.le_refl _) (by omega)
    obtain ⟨U2,c1,c2,c3,c4⟩:=fin (val U/val v+1) hz (by omega) (Nat.le_refl _)
    have:U1=U2:=by
      have h1:=(Bs a1).1;have h2:=(Bs c1).1
      rw [a3] at h1;rw [c3] at h2;rw [h1,h2,a2,c2]
    subst this
    refine ⟨U1,a1,a2,a3,fun K=>?_⟩
    obtain ⟨D,d1,d2,d3,d4⟩:=key K
    have:D=val U/val v∨D=val U/val v+1:=by
      generalize val U/val v=q at *;omega
    rcases this with rfl | rfl
    · rw [d4,a4 K]
    · rw [d4,c4 K]
  · obtain ⟨U1,a1,a2,a3,a4⟩:=fin (val U/val v) hq (Nat.le_refl _) (by omega)
    refine ⟨U1,a1,a2,a3,fun K=>?_⟩
    obtain ⟨D,d1,d2,d3,d4⟩:=key K
    have:D=val U/val v:=by
      generalize val U/val v=q at *;omega
    subst this
    rw [d4,a4 K]
end
end Gx

namespace Gx
open Go Go.Proofs
section
variable {R:Type}
theorem A0y {l:List Nat} {d:Nat} (h:d<l.length):val (l.drop d)=l[d]+4294967296*val (l.drop (d+1)):=by
  rw [List.drop_eq_getElem_cons h,val]
theorem B3i {S:List Nat} {d v:Nat} (h:d<S.length):(S.set d v).drop d=v::S.drop (d+1):=by
  rw [List.drop_eq_getElem_cons (by simpa using h),List.getElem_set_self,List.drop_set_of_lt (by omega)]
theorem Bmk {N:Nat} {a:List Nat} {t o:Bool} {b:Nat} (ha:Ah a) (hb0:0<b) (hb:b<4294967296) (hf:fit a.length N):∀ (c fuel:Nat) (S:List Nat) (r:Nat),c<fuel→c≤a.length→Ah S→S.length=a.length→r<b→val (S.drop c)*b+r=val (a.drop c) →
    ∃ S' S2,Ah S'∧val S'=val a/b∧Ah S2∧val S2=val a%b∧∀ K:Nat→Nat→LA→LA→Option R,Ed N K (Ae a) a.length t o (b:Int) fuel (r:Int) ((c:Int) - 1) (Ae S)=K (dig (val a/b)).length (dig (val a%b)).length (Ae S') (Ae S2)
  | 0,fuel+1,S,r,_,_,hS,hl,hr,hv=>by
    have h1:=hf.1
    rw [List.drop_zero,List.drop_zero] at hv
    have hq:val a/b=val S:=by
      rw [← hv,Nat.mul_comm,Nat.mul_add_div hb0,Nat.div_eq_of_lt hr,Nat.add_zero]
    have hm:val a%b=r:=by rw [← hv,Nat.mul_comm,Nat.mul_add_mod,Nat.mod_eq_of_lt hr]
    obtain ⟨S2,s1,s2,s3⟩:=J3 (R:=R) (N:=N) (v:=r) (by omega) (by omega)
    refine ⟨S,S2,hS,hq.symm,s1,by rw [hm,s2],fun K=>?_⟩
    rw [Ed];unfold H3
    rw [show decide ((((0:Nat):Int) - 1)≥0)=false by simp,cf,Apa hl.symm hS (by rw [hl];exact hf),s3,hq,hm]
  | c+1,fuel+1,S,r,hfu,hc,hS,hl,hr,hv=>by
    have h1:=hf.1;have h2:=hf.2
    have hca:c<a.length:=by omega
    have ac:=A3 ha hca
    have hrB:r<4294967296:=by omega
    have hw:r*4294967296+a[c]<b*4294967296:=by
      have:(r+1)*4294967296≤b*4294967296:=Nat.mul_le_mul_right _ hr
      rw [Nat.add_mul] at this;omega
    have hw2:r*4294967296+a[c]<18446744073709551616:=by omega
    obtain ⟨w,hwd⟩:∃ w,r*4294967296+a[c]=w:=⟨_,rfl⟩
    rw [hwd] at hw hw2
    have hqB:w/b<4294967296:=Nat.div_lt_of_lt_mul hw
    have hdm:=Nat.div_add_mod w b
    obtain ⟨S',S2,q1,q2,q3,q4,q5⟩:=Bmk (t:=t) (o:=o) ha hb0 hb hf c fuel (S.set c (w/b)) (w%b) (by omega) (by omega) (Cs hS hqB c) (by simpa using hl) (Nat.mod_lt _ hb0) (by
      rw [B3i (by omega),val,A0y hca,Nat.add_mul,Nat.mul_assoc,← hv,Nat.mul_add,Nat.mul_comm (w/b)]
      omega)
    refine ⟨S',S2,q1,q2,q3,q4,fun K=>?_⟩
    rw [Ed];unfold H3
    rw [show (((c+1:Nat):Int) - 1)=(c:Int) by omega,show decide ((c:Int)≥0)=true by simp,ct,Ac hca,ct,rdl hca,w64 (show b<18446744073709551616 by omega),i0F (by omega),cf,ct,st1 (by omega),ct,cf,w64 (show a[c]<18446744073709551616 by omega),orw hrB ac,hwd,A6v,A0x,w64 (show w/b<18446744073709551616 by omega),w32 hqB,A0v,i64 (by omega)]
    exact q5 K
theorem B3j {N:Nat} {a:List Nat} {n:Nat} {t o:Bool} {b:Nat} (hn:n=a.length) (ha:Ah a) (hb0:0<b) (hb:b<4294967296) (hf:fit a.length N) :
    ∃ S' S2,Ah S'∧val S'=val a/b∧Ah S2∧val S2=val a%b∧∀ K:Nat→Nat→LA→LA→Option R,G2 N (Ae a) n t o (b:Int) K=K (dig (val a/b)).length (dig (val a%b)).length (Ae S') (Ae S2):=by
  subst hn
  have h1:=hf.1;have h2:=hf.2
  obtain ⟨S',S2,q1,q2,q3,q4,q5⟩:=Bmk (R:=R) (t:=t) (o:=o) ha hb0 hb hf a.length N (List.replicate a.length 0) 0 (by omega) (Nat.le_refl _) (Cq _) (by simp) hb0 (by rw [List.drop_eq_nil_of_le (by simp),List.drop_eq_nil_of_le (by simp)];simp [val])
  refine ⟨S',S2,q1,q2,q3,q4,fun K=>?_⟩
  rw [Abs];unfold Wk Wj
  rw [mk4 (by omega),ct,i64 (by omega),Dd]
  exact q5 K
theorem B9g {x V s:Nat} (hx:x<4294967296) (hs:s≤31):(x+4294967296*V)/2 ^ s=(x+4294967296*(V%4294967296))/2 ^ s%4294967296+4294967296*(V/2 ^ s):=by
  have hp:0<2 ^ s:=Nat.pow_pos (by omega)
  have hd:2 ^ s∣4294967296:=⟨2 ^ (32 - s),by rw [← Nat.pow_add,show s+(32 - s)=32 by omega]⟩
  have key:∀ W,(x+4294967296*W)/2 ^ s=(x+4294967296*(W%2 ^ s))/2 ^ s+4294967296*(W/2 ^ s):=by
    intro W
    have e:x+4294967296*W=x+4294967296*(W%2 ^ s)+2 ^ s*(4294967296*(W/2 ^ s)):=by
      have h:=Nat.div_add_mod W (2 ^ s)
      have:4294967296*W=4294967296*(2 ^ s*(W/2 ^ s)+W%2 ^ s):=by rw [h]
      rw [this,Nat.mul_add,Nat.mul_left_comm];omega
    rw [e,Nat.add_mul_div_left _ _ hp]
  have hlt:(x+4294967296*(V%2 ^ s))/2 ^ s<4294967296:=by
    rw [Nat.div_lt_iff_lt_mul hp]
    have:V%2 ^ s+1≤2 ^ s:=Nat.mod_lt _ hp
    have:=Nat.mul_le_mul_left 4294967296 this
    rw [Nat.mul_add] at this
    omega
  rw [key V,key (V%4294967296),Nat.mod_mod_of_dvd _ hd,Nat.add_mul_mod_self_left,Nat.mod_eq_of_lt hlt]
theorem Cam:∀ {l:List Nat},Ah l→val l%4294967296=l.getD 0 0
  | [],_=>rfl
  | x::r,h=>by
    have:=(Dk.1 h).1
    simp [val];omega
theorem B3k {N:Nat} {a:List Nat} {o:Bool} {s:Nat} (ha:Ah a) (hs:s≤31) (hf:fit a.length N):∀ (m d fuel:Nat) (S:List Nat),d+m=a.length→m<fuel→Ah S→S.length=a.length→zer S d→val S+4294967296 ^ d*(val (a.drop d)/2 ^ s)=val a/2 ^ s →
    ∃ S',Ah S'∧val S'=val a/2 ^ s∧∀ K:Nat→Bool→LA→Option R,Dt N K o fuel (Ae a) a.length (s:Int) a.length (Ae a) a.length (a.length:Int) (d:Int) (Ae S)=K (dig (val a/2 ^ s)).length true (Ae S')
  | 0,d,fuel+1,S,hd,_,hS,hl,hz,hv=>by
    have hd':d=a.length:=by omega
    subst hd'
    rw [List.drop_length] at hv
    simp [val] at hv
    refine ⟨S,hS,hv,fun K=>?_⟩
    rw [Dt];unfold Hf
    rw [ltF (Nat.le_refl _),cf,Apa hl.symm hS (by rw [hl];exact hf),hv]
  | m+1,d,fuel+1,S,hd,hfu,hS,hl,hz,hv=>by
    have h1:=hf.1;have h2:=hf.2
    have hda:d<a.length:=by omega
    have ad:=A3 ha hda
    have step:=B9g (V:=val (a.drop (d+1))) ad hs
    rw [Cam (Aty ha _),← A0y hda] at step
    have hg:(a.drop (d+1)).getD 0 0=a.getD (d+1) 0:=by simp [List.getD_eq_getElem?_getD,List.getElem?_drop]
    rw [hg] at step
    have go:∀ w,(a[d]+4294967296*a.getD (d+1) 0)/2 ^ s=w→∃ S',Ah S'∧val S'=val a/2 ^ s∧∀ K:Nat→Bool→LA→Option R,Dt N K o fuel (Ae a) a.length (s:Int) a.length (Ae a) a.length (a.length:Int) ((d+1:Nat):Int) (Ae (S.set d (w%4294967296)))=K (dig (val a/2 ^ s)).length true (Ae S'):=by
      intro w hw
      refine B3k (o:=o) ha hs hf m (d+1) fuel (S.set d (w%4294967296)) (by omega) (by omega) (Cs hS (by omega) d) (by simpa using hl) (Ak2 hz) ?_
      rw [Y6 hz (by omega),← hv,step,hw,Nat.pow_succ,Nat.mul_add,Nat.mul_assoc];omega
    by_cases hn:d+1<a.length
    · have an:=A3 ha hn
      have hg2:a.getD (d+1) 0=a[d+1]:=by rw [List.getD_eq_getElem?_getD,List.getElem?_eq_getElem hn];rfl
      rw [hg2] at go
      obtain ⟨S',q1,q2,q3⟩:=go _ rfl
      refine ⟨S',q1,q2,fun K=>?_⟩
      rw [Dt];unfold Hf
      have e:Rf .u64 ((a[d]:Nat):Int) (IntKind.wrap .u64 (((a[d+1]:Nat):Int)*2 ^ 32))=((a[d]+4294967296*a[d+1]:Nat):Int):=by
        rw [show (2:Int) ^ 32=((2 ^ 32:Nat):Int) by rfl,Btp,w64 (by omega),B5s (by omega) (by omega),Nat.or_comm,Bi0 (by omega)]
        congr 1;omega
      rw [ltT hda,ct,Ac hda,ct,rdl hda,wS (by omega),ltT hn,ct,Ac hn,ct,rdl hn,show decide (((s:Nat):Int)<0)=false by simp,cf,ct,st1 (by omega),ct,w64 (show a[d]<18446744073709551616 by omega),w64 (show a[d+1]<18446744073709551616 by omega),e,Int.toNat_natCast s,Nat.min_eq_left (by omega),Ur,Ba5,A0v]
      exact q3 K
    · have hg2:a.getD (d+1) 0=0:=by rw [List.getD_eq_getElem?_getD,List.getElem?_eq_none (by omega)];rfl
      rw [hg2,Nat.mul_zero,Nat.add_zero] at go
      obtain ⟨S',q1,q2,q3⟩:=go _ rfl
      refine ⟨S',q1,q2,fun K=>?_⟩
      rw [Dt];unfold Hf
      rw [ltT hda,ct,Ac hda,ct,rdl hda,wS (by omega),ltF (by omega),cf,show decide (((s:Nat):Int)<0)=false by simp,cf,ct,st1 (by omega),ct,w64 (show a[d]<18446744073709551616 by omega),Int.toNat_natCast s,Nat.min_eq_left (by omega),Ur,Ba5,A0v]
      exact q3 K
theorem B9h {N:Nat} {a:List Nat} {n:Nat} {t o:Bool} {s:Nat} (hn:n=a.length) (ha:Ah a) (hs:s≤31) (hf:fit a.length N) :
    ∃ S',Ah S'∧val S'=val a/2 ^ s∧∀ K:Nat→Bool→LA→Option R,O9 N (Ae a) n t o (s:Int) K=K (dig (val a/2 ^ s)).length true (Ae S'):=by
  have h1:=hf.1;have h2:=hf.2
  have la:=(Bs ha).2
  have e0:IntKind.wrap .i64 (Int.tdiv ((s:Nat):Int) 32)=((0:Nat):Int):=by
    rw [show (32:Int)=((32:Nat):Int) by rfl,A6v,Nat.div_eq_of_lt (by omega)];decide
  have e1:Int.tmod ((s:Nat):Int) 32=(s:Int):=by rw [show (32:Int)=((32:Nat):Int) by rfl,A0x,Nat.mod_eq_of_lt (by omega)]
  by_cases h0:val a=0
  · refine ⟨[],Xa,by rw [h0];simp [val],fun K=>?_⟩
    rw [Tq];unfold Tp To
    rw [show decide (((s:Nat):Int)<0)=false by simp,cf,Ce hn ha hf,h0,e0,Nat.zero_div,Du];rfl
  · obtain ⟨S',q1,q2,q3⟩:=B3k (R:=R) (o:=o) (a:=dig (val a)) (Ad _) hs (hf.le la) (dig (val a)).length 0 N (List.replicate (dig (val a)).length 0) (by omega) (by omega) (Cq _) (by simp) (K8 _) (by rw [D1];simp)
    rw [Ag] at q2
    refine ⟨S',q1,q2,fun K=>?_⟩
    rw [Tq];unfold Tp To
    have hne:(dig (val a)).length≠0:=fun h=>h0 (Bz.1 h)
    rw [show decide (((s:Nat):Int)<0)=false by simp,cf,Ce hn ha hf,e0,e1,show decide (((0:Nat):Int)≥(((dig (val a)).length:Nat):Int))=false by rw [decide_eq_false_iff_not];omega,cf]
    have c1:((decide ((0:Int)≤((0:Nat):Int)))&&((decide (((0:Nat):Int)≤(((dig (val a)).length:Nat):Int)))&&((decide ((((dig (val a)).length:Nat):Int)≤(((dig (val a)).length:Nat):Int)))&&(decide ((((dig (val a)).length:Nat):Int)≤(((dig (val a)).length:Nat):Int))))))=true:=by simp
    rw [c1,ct,Int.toNat_natCast,Nat.sub_zero,mk4 (by omega),ct,Nat.zero_mul,List.drop_zero,Nat.mul_one,Xb,List.take_length,Dd]
    have:=q3 K
    rw [Ag] at this
    exact this
end
end Gx

namespace Gx
open Go Go.Proofs
section
variable {R:Type}
theorem At4 {S:List Nat} {k:Nat} (h:val S<4294967296 ^ k):val (S.take k)=val S:=by
  by_cases hk:k≤S.length
  · have h1:=Q8 (S.take k) (S.drop k)
    rw [List.take_append_drop,List.length_take,Nat.min_eq_left hk] at h1
    rcases Nat.eq_zero_or_pos (val (S.drop k)) with h0 | h0
    · rw [h0] at h1;simpa using h1.symm
    · have:=Nat.le_mul_of_pos_right (4294967296 ^ k) h0
      omega
  · rw [List.take_of_length_le (by omega)]
theorem At5 {S:List Nat} {n:Nat} (hS:Ah S) (h:S.length=n+1):val S<(S[n]+1)*4294967296 ^ n:=by
  have h1:=Apd h
  have h2:=Bn (Cn hS n)
  rw [List.length_take,Nat.min_eq_left (by omega)] at h2
  rw [Nat.add_mul,Nat.mul_comm S[n]];omega
theorem sl3 {a b c:Nat} (h1:a≤b) (h2:b≤c):((decide ((0:Int)≤(a:Int)))&&((decide ((a:Int)≤(b:Int)))&&((decide ((b:Int)≤(c:Int)))&&(decide ((c:Int)≤(c:Int))))))=true:=by simp;omega
theorem Byk {N:Nat} {v u0 Sv:List Nat} {n D s:Nat} (hn:v.length=n+2) (hv:Ah v) (hv1:2147483648≤v[n+1]'(by omega)) (hSv:List.take ((n+2)*1) (Ae Sv)=Ae v) (hu:Ah u0) (hul:u0.length=D+(n+2)) (hs:s≤31) (hf:fit (D+n+4) N) :
    ∀ (j fuel c:Nat) (W q:List Nat),j<fuel→c+j=D→Ah W→W.length=u0.length→Ah q→q.length=D→W.take j=u0.take j→val (W.drop j)<val v→val (q.drop j)*val v+val (W.drop j)=val (u0.drop j) →
    ∃ Sq Sr,Ah Sq∧val Sq=val u0/val v∧Ah Sr∧val Sr=val u0%val v/2 ^ s∧∀ K:Nat→Nat→LA→LA→Option R,Ef N K (s:Int) (n+2) u0.length (Ae Sv) fuel D ((n+2:Nat):Int) (D:Int) (D:Int) (c:Int) (Ae q) (Ae W)=K (dig (val u0/val v)).length (dig (val u0%val v/2 ^ s)).length (Ae Sq) (Ae Sr)
  | 0,fuel+1,c,W,q,_,hc,hW,hWl,hq,hql,htk,hr,hval=>by
    have h1:=hf.1;have h2:=hf.2
    simp only [List.drop_zero] at hval hr
    have hv0:0<val v:=by omega
    have vlt:=Bn hv
    rw [hn] at vlt
    have hq2:val u0/val v=val q:=by rw [← hval,Nat.mul_comm,Nat.mul_add_div hv0,Nat.div_eq_of_lt hr,Nat.add_zero]
    have hm:val u0%val v=val W:=by rw [← hval,Nat.mul_comm,Nat.mul_add_mod,Nat.mod_eq_of_lt hr]
    have ht:val (W.take (n+2))=val W:=At4 (by omega)
    have htl:(W.take (n+2)).length=n+2:=by rw [List.length_take];omega
    obtain ⟨S',q1,q3,q4⟩:=B9h (R:=R) (N:=N) (a:=W.take (n+2)) (n:=n+2) (t:=false) (o:=true) (s:=s) htl.symm (Cn hW _) hs (hf.le (by rw [htl];omega))
    rw [ht,← hm] at q3 q4
    refine ⟨q,S',hq,hq2.symm,q1,q3,fun K=>?_⟩
    have hcD:c=D:=by omega
    subst hcD
    rw [Ef];unfold Lu
    rw [ltF (Nat.le_refl _),cf,sl0 (by omega),ct,Int.toNat_natCast,Nat.mul_one,Xb,q4,Apa hql.symm hq (by rw [hql];exact hf.le (by omega)),← hq2]
  | j+1,fuel+1,c,W,q,hfu,hc,hW,hWl,hq,hql,htk,hr,hval=>by
    have h1:=hf.1;have h2:=hf.2
    have vlt:=Bn hv
    rw [hn] at vlt
    have hjW:j<W.length:=by omega
    have hju:j<u0.length:=by omega
    have hjq:j<q.length:=by omega
    have hWj:W[j]=u0[j]:=by
      have:=congrArg (fun l=>l[j]?) htk
      simp only [List.getElem?_take_of_lt (show j<j+1 by omega),List.getElem?_eq_getElem hjW,List.getElem?_eq_getElem hju] at this
      exact Option.some.inj this
    have wj:=A3 hW hjW
    have eW:=A0y hjW
    have eu:=A0y hju
    have hUl:((W.drop j).take (n+3)).length=n+3:=by rw [List.length_take,List.length_drop];omega
    have hbound:val (W.drop j)<val v*4294967296:=by rw [eW];omega
    have hB:val (W.drop j)<4294967296 ^ (n+3):=by
      have:=(Nat.mul_lt_mul_right (show 0<4294967296 by omega)).2 vlt
      rw [← Nat.pow_succ] at this;exact Nat.lt_trans hbound this
    have hU:val ((W.drop j).take (n+3))=val (W.drop j):=At4 hB
    have hsplit:W=W.take j++((W.drop j).take (n+3)++(W.drop j).drop (n+3)):=by rw [List.take_append_drop,List.take_append_drop]
    have hPl:(W.take j).length=j:=by rw [List.length_take];omega
    obtain ⟨U',u1,u2,u3,u4⟩:=Btz (R:=R) (N:=N) (P:=W.take j) (Q:=(W.drop j).drop (n+3)) (U:=(W.drop j).take (n+3)) (v:=v) (n:=n) (f:=false) (g:=true) hn hv (Cn (Aty hW _) _) hUl (by omega) (by omega) hv1 (by rw [hU];exact hbound)
    rw [hU] at u3 u4
    have hQ0:val ((W.drop j).drop (n+3))=0:=by
      have:=Q8 ((W.drop j).take (n+3)) ((W.drop j).drop (n+3))
      rw [List.take_append_drop,hU,hUl] at this
      have hp:0<4294967296 ^ (n+3):=Nat.pow_pos (by omega)
      rcases Nat.eq_zero_or_pos (val ((W.drop j).drop (n+3))) with h | h
      · exact h
      · have:=Nat.le_mul_of_pos_right (4294967296 ^ (n+3)) h;omega
    have hv0:0<val v:=by omega
    have hqd:val (W.drop j)/val v<4294967296:=Nat.div_lt_of_lt_mul hbound
    have hdm:=Nat.div_add_mod (val (W.drop j)) (val v)
    have hmd:=Nat.mod_lt (val (W.drop j)) hv0
    have hW':Ah (W.take j++(U'++(W.drop j).drop (n+3))):=Bet.2 ⟨Cn hW _,Bet.2 ⟨u1,Aty (Aty hW _) _⟩⟩
    have hWl':(W.take j++(U'++(W.drop j).drop (n+3))).length=u0.length:=by
      rw [List.length_append,List.length_append,hPl,u2,List.length_drop,List.length_drop];omega
    have hWd:(W.take j++(U'++(W.drop j).drop (n+3))).drop j=U'++(W.drop j).drop (n+3):=by
      rw [List.drop_append,hPl,Nat.sub_self,List.drop_zero,List.drop_eq_nil_of_le (by omega),List.nil_append]
    have hWt:(W.take j++(U'++(W.drop j).drop (n+3))).take j=u0.take j:=by
      rw [List.take_append,hPl,Nat.sub_self,List.take_zero,List.append_nil,List.take_take,Nat.min_self]
      have:=congrArg (List.take j) htk
      rwa [List.take_take,List.take_take,Nat.min_eq_left (by omega)] at this
    have hWv:val (U'++(W.drop j).drop (n+3))=val (W.drop j)%val v:=by rw [Q8,hQ0,u3];simp
    obtain ⟨Sq,Sr,a1,a2,a3,a4,a5⟩:=Byk (N:=N) hn hv hv1 hSv hu hul hs hf j fuel (c+1) (W.take j++(U'++(W.drop j).drop (n+3))) (q.set j (val (W.drop j)/val v)) (by omega) (by omega) hW' hWl' (Cs hq hqd j) (by simpa using hql) hWt (by rw [hWd,hWv];exact hmd) (by
      rw [hWd,hWv,B3i hjq,val,eu,← hval,← hWj,Nat.add_mul,Nat.mul_assoc,Nat.mul_add,Nat.mul_comm (val (W.drop j)/val v)]
      omega)
    refine ⟨Sq,Sr,a1,a2,a3,a4,fun K=>?_⟩
    have w0:IntKind.wrap .i64 (IntKind.wrap .i64 (((D:Nat):Int) - 1) - (c:Int))=(j:Int):=by
      rw [i64 (a:=((D:Nat):Int) - 1) (by omega),i64 (by omega)];omega
    have w1:IntKind.wrap .i64 (IntKind.wrap .i64 ((j:Int)+((n+2:Nat):Int))+1)=((j+(n+3):Nat):Int):=by
      rw [i64 (a:=(j:Int)+((n+2:Nat):Int)) (by omega),i64 (by omega)];omega
    have:=u4 fun z aa=>cond (Aj (j:Int) D) (cond ((Nat.beq 1 1)&&((Nat.ble ((0+((Int.toNat (j:Int))*1))+1) (List.length (Ae q)))&&(!false))) (Ef N K (s:Int) (n+2) u0.length (Ae Sv) fuel D ((n+2:Nat):Int) (D:Int) (D:Int) (IntKind.wrap .i64 ((c:Int)+1)) (List.set (Ae q) (0+((Int.toNat (j:Int))*1)) (.int .u32 z)) aa) none) none
    rw [← hsplit,hPl] at this
    rw [Ef];unfold Lu
    rw [ltT (by omega),ct,w0,w1,sl3 (by omega) (by omega),ct,hSv,Int.toNat_natCast,Int.toNat_natCast,Nat.mul_one,Nat.zero_add,show j+(n+3) - j=n+3 by omega]
    rw [Int.toNat_natCast,Nat.mul_one,Nat.zero_add] at this
    rw [this,Ac (by omega),ct,show ((Nat.beq 1 1)&&((Nat.ble (j+1) (List.length (Ae q)))&&(!false)))=true by (rw [B4];simp;omega),ct,Beu,wS (by omega)]
    exact a5 K
theorem B70 {N:Nat} {a b:List Nat} {n m:Nat} {t o t' o':Bool} (hn:n=a.length) (hm:m=b.length) (ha:Ah a) (hb:Ah b) (hb2:2≤b.length) (hlen:b.length≤a.length) (hbl:b.getLast (by intro h;rw [h] at hb2;simp at hb2)≠0) (hf:fit (a.length+b.length+4) N) :
    ∃ Sq Sr,Ah Sq∧val Sq=val a/val b∧Ah Sr∧val Sr=val a%val b∧∀ K:Nat→Nat→LA→LA→Option R,K2 N (Ae a) n t o (Ae b) m t' o' K=K (dig (val a/val b)).length (dig (val a%val b)).length (Ae Sq) (Ae Sr):=by
  subst hn hm
  have h1:=hf.1;have h2:=hf.2
  obtain ⟨k,hk⟩:∃ k,b.length=k+2:=⟨b.length - 2,by omega⟩
  have hbl2:b[k+1]'(by omega)≠0:=by
    rw [List.getLast_eq_getElem] at hbl
    simp only [hk] at hbl
    exact hbl
  have bk:=A3 hb (show k+1<b.length by omega)
  obtain ⟨s,s1,s2,s3,s4⟩:=B6t (R:=R) (N:=N) (c:=b[k+1]'(by omega)) (by omega) bk
  obtain ⟨Sv,v1,v2,v3,v4⟩:=Be0 (R:=R) (N:=N) (a:=b) (t:=false) (o:=o') (s:=s) rfl hb s1 (hf.le (by omega))
  obtain ⟨Su,p1,p2,p3,p4⟩:=Be0 (R:=R) (N:=N) (a:=a) (t:=false) (o:=o) (s:=s) rfl ha s1 (hf.le (by omega))
  have hp:0<2 ^ s:=Nat.pow_pos (by omega)
  have hP:0<4294967296 ^ (k+1):=Nat.pow_pos (by omega)
  have bt:=At5 hb hk
  have bf:=Apd hk
  have hVlt:val b*2 ^ s<4294967296 ^ (k+2):=by
    have x1:val b*2 ^ s<(b[k+1]+1)*4294967296 ^ (k+1)*2 ^ s:=(Nat.mul_lt_mul_right hp).2 bt
    have hd:2 ^ s∣4294967296:=⟨2 ^ (32 - s),by rw [← Nat.pow_add,show s+(32 - s)=32 by omega]⟩
    have x2:(b[k+1]+1)*2 ^ s≤4294967296:=by
      obtain ⟨r,hr⟩:=hd
      have x3:b[k+1]<r:=by
        rw [hr,Nat.mul_comm] at s3
        exact Nat.lt_of_mul_lt_mul_left s3
      have x4:(b[k+1]+1)*2 ^ s≤r*2 ^ s:=Nat.mul_le_mul_right _ x3
      have x5:r*2 ^ s=4294967296:=by rw [Nat.mul_comm];exact hr.symm
      omega
    have x6:=Nat.mul_le_mul_right (4294967296 ^ (k+1)) x2
    rw [Nat.mul_right_comm] at x1
    rw [Nat.pow_succ,Nat.mul_comm _ 4294967296]
    exact Nat.lt_of_lt_of_le x1 x6
  have hvl:(Sv.take (k+2)).length=k+2:=by rw [List.length_take];omega
  have hvv:val (Sv.take (k+2))=val b*2 ^ s:=by rw [At4 (by rw [v3];exact hVlt),v3]
  have hvlow:2147483648*4294967296 ^ (k+1)≤val b*2 ^ s:=by
    have x1:4294967296 ^ (k+1)*b[k+1]≤val b:=by omega
    have x2:=Nat.mul_le_mul_right (2 ^ s) x1
    rw [Nat.mul_assoc,Nat.mul_comm (4294967296 ^ (k+1))] at x2
    have x3:=Nat.mul_le_mul_right (4294967296 ^ (k+1)) s2
    omega
  have hvtop:2147483648≤(Sv.take (k+2))[k+1]'(by omega):=by
    have x1:=At5 (Cn v1 (k+2)) hvl
    rw [hvv] at x1
    have x2:=Nat.lt_of_mul_lt_mul_right (Nat.lt_of_le_of_lt hvlow x1)
    omega
  have hDl:Su.length=(a.length+1 - (k+2))+(k+2):=by omega
  have hinit:val (Su.drop (a.length+1 - (k+2)))<val (Sv.take (k+2)):=by
    have x1:=Q8 (Su.take (a.length+1 - (k+2))) (Su.drop (a.length+1 - (k+2)))
    rw [List.take_append_drop,p3,List.length_take,Nat.min_eq_left (by omega)] at x1
    have x2:=Bn ha
    have x3:val a*2 ^ s<4294967296 ^ a.length*2 ^ s:=(Nat.mul_lt_mul_right hp).2 x2
    have x4:a.length=(a.length+1 - (k+2))+(k+1):=by omega
    generalize hE:a.length+1 - (k+2)=E at *
    have x5:4294967296 ^ a.length=4294967296 ^ E*4294967296 ^ (k+1):=by rw [← Nat.pow_add];congr 1
    rw [x5,Nat.mul_assoc] at x3
    have x6:4294967296 ^ E*val (Su.drop E)<4294967296 ^ E*(4294967296 ^ (k+1)*2 ^ s):=by omega
    have x7:=Nat.lt_of_mul_lt_mul_left x6
    have x8:4294967296 ^ (k+1)*2 ^ s≤2147483648*4294967296 ^ (k+1):=by rw [Nat.mul_comm];exact Nat.mul_le_mul_right _ (B02 s1)
    rw [hvv];omega
  obtain ⟨Sq,Sr,a1,a2,a3,a4,a5⟩:=Byk (R:=R) (N:=N) (v:=Sv.take (k+2)) (u0:=Su) (Sv:=Sv) (n:=k) (D:=a.length+1 - (k+2)) (s:=s) hvl (Cn v1 _) hvtop (by rw [Nat.mul_one,Xb]) p1 hDl s1 (hf.le (by omega)) (a.length+1 - (k+2)) N 0 Su (List.replicate (a.length+1 - (k+2)) 0) (by omega) (by omega) p1 rfl (Cq _) (by simp) rfl hinit (by
    rw [List.drop_eq_nil_of_le (show (List.replicate (a.length+1 - (k+2)) 0).length≤a.length+1 - (k+2) by simp)];simp [val])
  have hq:val Su/val (Sv.take (k+2))=val a/val b:=by rw [p3,hvv,Nat.mul_div_mul_right _ _ hp]
  have hr:val Su%val (Sv.take (k+2))/2 ^ s=val a%val b:=by rw [p3,hvv,Nat.mul_mod_mul_right,Nat.mul_div_cancel _ hp]
  rw [hq] at a2;rw [hr] at a4
  refine ⟨Sq,Sr,a1,a2,a3,a4,fun K=>?_⟩
  rw [Ajr];unfold Agt Ags
  have w1:IntKind.wrap .i64 (((b.length:Nat):Int) - 1)=((k+1:Nat):Int):=by rw [i64 (by omega)];omega
  have w2:IntKind.wrap .i64 (((a.length+1:Nat):Int) - ((b.length:Nat):Int))=((a.length+1 - (k+2):Nat):Int):=by rw [i64 (by omega)];omega
  rw [w1,Ac (by omega),ct,rdl (by omega),s4,v4,sl0 (by omega),ct,p4,w2,mk4 (by omega),ct,Int.toNat_natCast,Dd]
  have:=a5 K
  rw [hq,hr,p2] at this
  rw [hk]
  exact this
theorem A0z {N:Nat} {a b:List Nat} {n m:Nat} {t o t' o':Bool} (hn:n=a.length) (hm:m=b.length) (ha:Ah a) (hb:Ah b) (hb0:val b≠0) (hf:fit (a.length+b.length+4) N) :
    ∃ Sq Sr,Ah Sq∧val Sq=val a/val b∧Ah Sr∧val Sr=val a%val b∧∀ K:Nat→Nat→Bool→LA→LA→Option R,Eg N (Ae a) n t o (Ae b) m t' o' K=K (dig (val a/val b)).length (dig (val a%val b)).length true (Ae Sq) (Ae Sr):=by
  have h1:=hf.1;have h2:=hf.2
  have la:=(Bs ha).2
  have lb:=(Bs hb).2
  have hbl:(dig (val b)).length≠0:=fun h=>hb0 (Bz.1 h)
  have start:∀ K:Nat→Nat→Bool→LA→LA→Option R,Eg N (Ae a) n t o (Ae b) m t' o' K=cond (decide (Gv (val a) (val b)<0)) (Acw N (Ae (dig (val a))) (dig (val a)).length false o (fun s t=>(K 0 s true [] t))) (cond (decide ((((dig (val a)).length:Nat):Int)≤(2:Int))) (Tb N (Ae (dig (val a))) (dig (val a)).length false o (fun p=>(Tb N (Ae (dig (val b))) (dig (val b)).length false o' (fun o=>(cond (o==(0:Int)) none (Cb N (IntKind.wrap .u64 (Int.tdiv p o)) (fun u w=>(cond (o==(0:Int)) none (Cb N (Int.tmod p o) (fun x y=>(K u x true w y))))))))))) (cond ((((dig (val b)).length:Nat):Int)==(1:Int)) (cond (Aj (0:Int) (dig (val b)).length) (rdI .u32 (Ae (dig (val b))) fun z=>(G2 N (Ae (dig (val a))) (dig (val a)).length false o z (fun aa ab ac ad=>(K aa ab true ac ad)))) none) (K2 N (Ae (dig (val a))) (dig (val a)).length false o (Ae (dig (val b))) (dig (val b)).length false o' (fun ae af ag ah=>(K ae af true ag ah))))):=by
    intro K
    rw [A6e];unfold A9n A9m
    rw [Ce hn ha (hf.le (by omega)),Ce hm hb (hf.le (by omega)),i0F hbl,cf,Ru rfl rfl (Ad _) (Ad _) (hf.le (by omega)),Ag,Ag]
  by_cases hlt:val a<val b
  · refine ⟨[],dig (val a),Xa,by rw [Nat.div_eq_of_lt hlt];rfl,Ad _,by rw [Nat.mod_eq_of_lt hlt,Ag],fun K=>?_⟩
    rw [start,show decide (Gv (val a) (val b)<0)=true by (unfold Gv;rw [if_pos hlt];rfl),ct,A4m rfl (Ad _) (hf.le (by omega)),Ag,Nat.div_eq_of_lt hlt,Nat.mod_eq_of_lt hlt,Du];rfl
  · have hcmp:decide (Gv (val a) (val b)<0)=false:=by unfold Gv;rw [if_neg hlt];split<;>rfl
    have hll:=Cc (Nat.le_of_not_lt hlt)
    by_cases ha2:(dig (val a)).length≤2
    · have av:=Bey ha2
      have bv:=Bey (Nat.le_trans hll ha2)
      have q64:val a/val b<18446744073709551616:=Nat.lt_of_le_of_lt (Nat.div_le_self _ _) av
      have r64:val a%val b<18446744073709551616:=Nat.lt_of_le_of_lt (Nat.mod_le _ _) av
      obtain ⟨Sq,a1,a2,a3⟩:=J3 (R:=R) (N:=N) q64 (by omega)
      obtain ⟨Sr,b1,b2,b3⟩:=J3 (R:=R) (N:=N) r64 (by omega)
      refine ⟨Sq,Sr,a1,a2,b1,b2,fun K=>?_⟩
      rw [start,hcmp,cf,show decide ((((dig (val a)).length:Nat):Int)≤2)=true by simp;omega,ct,Apc rfl (Ad _) ha2 (by omega),Apc rfl (Ad _) (by omega) (by omega),Ag,Ag,i0F hb0,cf,A6v,w64 q64,a3,cf,A0x,b3]
    · have hd2:decide ((((dig (val a)).length:Nat):Int)≤2)=false:=by simp;omega
      by_cases hb1:(dig (val b)).length=1
      · obtain ⟨x, hx⟩ : ∃ x, dig (val b) = [x] := by
          match h:dig (val b),hb1 with
          | [x],_=>exact ⟨x,rfl⟩
        have hxv:x=val b:=by have:=Ag (val b);rw [hx] at this;simpa [val] using this
        have xl:x<4294967296:=by have:=Ad (val b);rw [hx] at this;exact (Dk.1 this).1
        obtain ⟨Sq,Sr,a1,a2,a3,a4,a5⟩:=B3j (R:=R) (N:=N) (a:=dig (val a)) (t:=false) (o:=o) (b:=x) rfl (Ad _) (by omega) xl (hf.le (by omega))
        rw [Ag,hxv] at a2 a4 a5
        refine ⟨Sq,Sr,a1,a2,a3,a4,fun K=>?_⟩
        rw [start,hcmp,cf,hd2,cf,hx]
        simp only [List.length_cons,List.length_nil,Aev,Bv]
        rw [show ((((0+1:Nat)):Int)==1)=true by rfl,ct,show Aj 0 (0+1)=true by decide,ct,hxv,a5]
      · obtain ⟨Sq,Sr,a1,a2,a3,a4,a5⟩:=B70 (R:=R) (N:=N) (a:=dig (val a)) (b:=dig (val b)) (t:=false) (o:=o) (t':=false) (o':=o') rfl rfl (Ad _) (Ad _) (by omega) hll (Bto _ _) (hf.le (by omega))
        rw [Ag,Ag] at a2 a4 a5
        refine ⟨Sq,Sr,a1,a2,a3,a4,fun K=>?_⟩
        rw [start,hcmp,cf,hd2,cf,show ((((dig (val b)).length:Nat):Int)==1)=false by rw [beq_eq_false_iff_ne];omega,cf,a5]
end
end Gx

namespace Gx
open Go Go.Proofs
section
variable {R:Type}
def Cof (A B u0 u1 v0 v1:Nat) (e:Bool):Prop:=v0=0∨(1≤u1∧1≤v1∧match e with
  | true=>v0*B≤u0*A∧u1*A≤v1*B∧(v0+v1)*B≤(u0+u1)*A∧u0*v1=v0*u1+1
  | false=>u0*A≤v0*B∧v1*B≤u1*A∧(u0+u1)*A≤(v0+v1)*B∧u1*v0=v1*u0+1)
structure Lead (X Y x y u1 u2 v1 v2:Nat) (e:Bool):Prop where
  le:y≤x
  idV:x*v2+y*v1=X
  idU:x*u2+y*u1=Y
  pos:1≤v2
  par:match e with
    | false=>x+v1*Y=u1*X∧y+u2*X=v2*Y∧u1*v2=v1*u2+1
    | true=>x+u1*X=v1*Y∧y+v2*Y=u2*X∧u2*v1=v2*u1+1
  small:(v1=0∧u1=1∧u2=0∧v2=1∧e=false)∨(1≤v1∧u1≤v1∧u2≤v2∧1≤u2)
theorem Lead.init {X Y:Nat} (h:Y≤X):Lead X Y X Y 1 0 0 1 false:=⟨h,by simp,by simp,by omega,by simp,.inl ⟨rfl,rfl,rfl,rfl,rfl⟩⟩
theorem Lead.step {X Y x y u1 u2 v1 v2:Nat} {e:Bool} (L:Lead X Y x y u1 u2 v1 v2 e) (hy:1≤y):Lead X Y y (x%y) u2 (u1+x/y*u2) v2 (v1+x/y*v2) (!e):=by
  have hdm:=Nat.div_add_mod x y
  have hmod:=Nat.mod_lt x (show 0<y by omega)
  have hq:1≤x/y:=by rw [Nat.le_div_iff_mul_le (by omega)];have:=L.le;omega
  generalize x/y=q at *
  generalize x%y=r at *
  have hv2:=L.pos
  refine ⟨by omega,?_,?_,?_,?_,?_⟩
  · rw [← L.idV,← hdm,Nat.mul_add,Nat.add_mul,Nat.mul_assoc];omega
  · rw [← L.idU,← hdm,Nat.mul_add,Nat.add_mul,Nat.mul_assoc];omega
  · have:=Nat.mul_le_mul hq hv2;omega
  · have p:=L.par
    cases e with
    | false =>
      obtain ⟨p1,p2,p3⟩:=p
      refine ⟨p2,?_,?_⟩
      · have e1:q*(y+u2*X)=q*(v2*Y):=by rw [p2]
        rw [Nat.mul_add,← Nat.mul_assoc,← Nat.mul_assoc] at e1
        rw [Nat.mul_comm y q] at hdm
        rw [Nat.add_mul,Nat.add_mul];omega
      · rw [Nat.add_mul,Nat.add_mul,Nat.mul_right_comm q u2,p3];omega
    | true =>
      obtain ⟨p1,p2,p3⟩:=p
      refine ⟨p2,?_,?_⟩
      · have e1:q*(y+v2*Y)=q*(u2*X):=by rw [p2]
        rw [Nat.mul_add,← Nat.mul_assoc,← Nat.mul_assoc] at e1
        rw [Nat.mul_comm y q] at hdm
        rw [Nat.add_mul,Nat.add_mul];omega
      · rw [Nat.mul_add,Nat.mul_add,p3,Nat.mul_left_comm u2 q,Nat.mul_left_comm v2 q,Nat.mul_comm u2 v2];omega
  · right
    rcases L.small with ⟨s1,s2,s3,s4,_⟩ | ⟨s1,s2,s3,s4⟩
    · subst s1 s2 s3 s4;exact ⟨by omega,by omega,by omega,by omega⟩
    · have h1:q*u2≤q*v2:=Nat.mul_le_mul_left _ s3
      exact ⟨hv2,s3,by omega,by have:=Nat.mul_le_mul hq s4;omega⟩
theorem Lead.cof {X Y x y u1 u2 v1 v2 A B P:Nat} {e:Bool} (L:Lead X Y x y u1 u2 v1 v2 e) (hA:X*P≤A) (hA':A<(X+1)*P) (hB:Y*P≤B) (hB':B<(Y+1)*P) (c1:v2≤y) (c2:v1+v2≤x - y):Cof A B u1 u2 v1 v2 (!e):=by
  have p:=L.par
  have hle:=L.le
  rcases L.small with ⟨s1,_⟩ | ⟨s1,s2,s3,s4⟩
  · exact .inl s1
  · refine .inr ⟨s4,L.pos,?_⟩
    cases e with
    | false =>
      obtain ⟨p1,p2,p3⟩:=p
      have n1:u2*A≤v2*B:=Ak0 hB hA' (w:=y) (by omega) (by omega)
      have n2:(v1+v2)*B≤(u1+u2)*A:=Ak0 hA hB' (w:=x - y) (by rw [Nat.add_mul,Nat.add_mul];omega) c2
      refine ⟨?_,n1,n2,p3⟩
      rw [Nat.add_mul,Nat.add_mul] at n2;omega
    | true =>
      obtain ⟨p1,p2,p3⟩:=p
      have n1:v2*B≤u2*A:=Ak0 hA hB' (w:=y) (by omega) (by omega)
      have n2:(u1+u2)*A≤(v1+v2)*B:=Ak0 hB hA' (w:=x - y) (by rw [Nat.add_mul,Nat.add_mul];omega) (by omega)
      refine ⟨?_,n1,n2,p3⟩
      rw [Nat.add_mul,Nat.add_mul] at n2;omega
theorem A00 {x y:Nat} (hy:1≤y) (h:y≤x):2*(y*(x%y))≤x*y:=by
  have h1:=Nat.div_add_mod x y
  have h2:=Nat.mod_lt x (show 0<y by omega)
  have hq:1≤x/y:=by rw [Nat.le_div_iff_mul_le (by omega)];omega
  have h3:y*1≤y*(x/y):=Nat.mul_le_mul_left _ hq
  have h4:2*(x%y)≤x:=by omega
  have:=Nat.mul_le_mul_left y h4
  rw [Nat.mul_comm x y,Nat.mul_left_comm];exact this
def B6w (u0 u1 v0 v1:Nat) (e:Bool):List AV:=[.int .u64 (u0:Int),.int .u64 (u1:Int),.int .u64 (v0:Int),.int .u64 (v1:Int),.bool e]
theorem B71 {N:Nat} {X Y A B P:Nat} (hX:X<18446744073709551616) (hYX:Y≤X) (hA:X*P≤A) (hA':A<(X+1)*P) (hB:Y*P≤B) (hB':B<(Y+1)*P):∀ (k fuel x y u0 u1 u2 v0 v1 v2:Nat) (e:Bool),k<fuel→x*y<2 ^ k→Lead X Y x y u1 u2 v1 v2 e→Cof A B u0 u1 v0 v1 e→u0<18446744073709551616→u1<18446744073709551616→v0<18446744073709551616→v1<18446744073709551616 →
    ∃ (a1 a2 b1 b2:Nat) (e':Bool),Cof A B a1 a2 b1 b2 e'∧a1<18446744073709551616∧a2<18446744073709551616∧b1<18446744073709551616∧b2<18446744073709551616∧∀ K:LA→Option R,D0 N K fuel (x:Int) (y:Int) (u0:Int) (u1:Int) (u2:Int) (v0:Int) (v1:Int) (v2:Int) e=K (B6w a1 a2 b1 b2 e'):=by
  intro k
  induction k with
  | zero =>
    intro fuel x y u0 u1 u2 v0 v1 v2 e hf hxy L C b1 b2 b3 b4
    obtain ⟨fuel,rfl⟩:∃ F,fuel=F+1:=⟨fuel - 1,by omega⟩
    have hy:y=0:=by
      rcases Nat.eq_zero_or_pos y with h | h
      · exact h
      · have h3:=Nat.mul_le_mul_left x (show 1≤y by omega)
        have h4:=L.le
        rw [Nat.pow_zero] at hxy
        omega
    refine ⟨u0,u1,v0,v1,e,C,b1,b2,b3,b4,fun K=>?_⟩
    rw [D0];unfold Io
    have:=L.pos
    rw [show decide ((y:Int)≥(v2:Int))=false by simp;omega];rfl
  | succ k ih =>
    intro fuel x y u0 u1 u2 v0 v1 v2 e hf hxy L C b1 b2 b3 b4
    obtain ⟨fuel,rfl⟩:∃ F,fuel=F+1:=⟨fuel - 1,by omega⟩
    have hv2:=L.pos
    have hle:=L.le
    by_cases c1:v2≤y
    · have hy:1≤y:=by omega
      have hxX:x≤X:=by
        have:=Nat.mul_le_mul_left x hv2
        have:=L.idV;omega
      have hsum:v1+v2≤X:=by
        have h1:=Nat.mul_le_mul_right v2 (show 1≤x by omega)
        have h2:=Nat.mul_le_mul_right v1 hy
        have:=L.idV;omega
      by_cases c2:v1+v2≤x - y
      · have L':=L.step hy
        have C':=L.cof hA hA' hB hB' c1 c2
        have i1:=L'.idV
        have i2:=L'.idU
        have w1:v1+x/y*v2≤X:=by
          have:=Nat.mul_le_mul_right (v1+x/y*v2) hy;omega
        have w2:u1+x/y*u2≤Y:=by
          have:=Nat.mul_le_mul_right (u1+x/y*u2) hy;omega
        have hu2:u2<18446744073709551616:=by
          have h1:=Nat.mul_le_mul_right u2 (show 1≤x by omega)
          have:=L.idU;omega
        have hv2':v2<18446744073709551616:=by omega
        have hlt:y*(x%y)<2 ^ k:=by
          have:=A00 hy hle
          rw [Nat.pow_succ] at hxy;omega
        obtain ⟨a1,a2,d1,d2,e',r1,r2,r3,r4,r5,r6⟩:=ih fuel y (x%y) u1 u2 (u1+x/y*u2) v1 v2 (v1+x/y*v2) (!e) (by omega) hlt L' C' b2 hu2 b4 hv2'
        refine ⟨a1,a2,d1,d2,e',r1,r2,r3,r4,r5,fun K=>?_⟩
        rw [D0];unfold Io
        have hxy64:x<18446744073709551616:=by omega
        have hdiv:x/y<18446744073709551616:=Nat.lt_of_le_of_lt (Nat.div_le_self _ _) hxy64
        rw [show decide ((y:Int)≥(v2:Int))=true by simp;omega,show ((true:Bool)==true)=true by rfl,ct,Biy hxy64 hle,Ao9,w64 (show v1+v2<18446744073709551616 by omega),show decide (((x - y:Nat):Int)≥((v1+v2:Nat):Int))=true by rw [decide_eq_true_eq];omega,ctB,ct]
        unfold Yg Agm
        dsimp only
        rw [i0F (by omega),cf,cf,A6v,A0x,w64 hdiv,Btp,Btp,w64 (show x/y*u2<18446744073709551616 by omega),w64 (show x/y*v2<18446744073709551616 by omega),Ao9,Ao9,w64 (show u1+x/y*u2<18446744073709551616 by omega),w64 (show v1+x/y*v2<18446744073709551616 by omega)]
        exact r6 K
      · refine ⟨u0,u1,v0,v1,e,C,b1,b2,b3,b4,fun K=>?_⟩
        rw [D0];unfold Io
        rw [show decide ((y:Int)≥(v2:Int))=true by simp;omega,show ((true:Bool)==true)=true by rfl,ct,Biy (by omega) hle,Ao9,w64 (show v1+v2<18446744073709551616 by omega),show decide (((x - y:Nat):Int)≥((v1+v2:Nat):Int))=false by rw [decide_eq_false_iff_not];omega,ctB,cf]
        rfl
    · refine ⟨u0,u1,v0,v1,e,C,b1,b2,b3,b4,fun K=>?_⟩
      rw [D0];unfold Io
      rw [show decide ((y:Int)≥(v2:Int))=false by simp;omega];rfl
end
end Gx

namespace Gx
open Go Go.Proofs
section
variable {R:Type}
theorem Bi4 {N:Nat} {a:List Nat} {n:Nat} {t o:Bool} {i:Nat} {K:Int→Option R} (hn:n=a.length) (ha:Ah a):Jq N (i:Int) (Ae a) n t o K=K ((a.getD i 0:Nat):Int):=by
  subst hn
  rw [Aop];unfold Amg Amf
  by_cases h:i<a.length
  · have:=A3 ha h
    rw [ltT h,ct,Ac h,ct,rdl h,w64 (by omega),List.getD_eq_getElem?_getD,List.getElem?_eq_getElem h];rfl
  · rw [ltF (by omega),cf,List.getD_eq_getElem?_getD,List.getElem?_eq_none (by omega)];rfl
theorem Aex {a:List Nat} (ha:Ah a) (i:Nat):a.getD i 0<4294967296:=by
  by_cases h:i<a.length
  · rw [List.getD_eq_getElem?_getD,List.getElem?_eq_getElem h];exact A3 ha h
  · rw [List.getD_eq_getElem?_getD,List.getElem?_eq_none (by omega)];simp
theorem B9i {a:List Nat} {n:Nat} (hl:a.length≤n+3):val a=val (a.take n)+4294967296 ^ n*((a.getD (n+2) 0*4294967296+a.getD (n+1) 0)*4294967296+a.getD n 0):=by
  have h0:=Rv a (n+2)
  have h1:=Rv a (n+1)
  have h2:=Rv a n
  rw [List.take_of_length_le (by omega)] at h0
  have x1:4294967296 ^ (n+2)*a.getD (n+2) 0=4294967296 ^ n*(a.getD (n+2) 0*4294967296*4294967296):=by rw [Nat.pow_succ (n:=4294967296) (m:=n+1),Nat.pow_succ,pw1,pw1]
  have x2:4294967296 ^ (n+1)*a.getD (n+1) 0=4294967296 ^ n*(a.getD (n+1) 0*4294967296):=by rw [Nat.pow_succ,pw1]
  rw [h0,h1,h2,x1,x2,Nat.add_mul,Nat.mul_add,Nat.mul_add];omega
theorem Bml {N:Nat} {a:List Nat} {m n s:Nat} {t o:Bool} {K:Int→Option R} (hm:m=a.length) (ha:Ah a) (hl:a.length≤n+3) (hs:s≤31) (htop:a.getD (n+2) 0*2 ^ s<4294967296) (hn:n≤1000000000000) :
    Aem N (Ae a) m t o ((n+3:Nat):Int) (s:Int) K=K ((val a/(4294967296 ^ n*2 ^ (32 - s)):Nat):Int)∧val a/(4294967296 ^ n*2 ^ (32 - s))<18446744073709551616:=by
  have hp:0<2 ^ s:=Nat.pow_pos (by omega)
  have hp2:0<2 ^ (32 - s):=Nat.pow_pos (by omega)
  have hP:0<4294967296 ^ n:=Nat.pow_pos (by omega)
  have hpp:2 ^ s*2 ^ (32 - s)=4294967296:=by rw [← Nat.pow_add,show s+(32 - s)=32 by omega]
  have b0:=Aex ha (n+2)
  have b1:=Aex ha (n+1)
  have b2:=Aex ha n
  have tk:=Bn (Cn ha n)
  have tk2:val (a.take n)<4294967296 ^ n:=by
    refine Nat.lt_of_lt_of_le tk (Nat.pow_le_pow_right (by omega) ?_)
    rw [List.length_take];omega
  have hv:=B9i hl
  generalize ha0:a.getD (n+2) 0=a0 at *
  generalize ha1:a.getD (n+1) 0=a1 at *
  generalize ha2:a.getD n 0=a2 at *
  have hd0:a0<2 ^ (32 - s):=by
    rw [← hpp,Nat.mul_comm] at htop;exact Nat.lt_of_mul_lt_mul_left htop
  have hk:(a0*4294967296+a1)*2 ^ s<18446744073709551616:=by
    have x1:(a0+1)*4294967296≤2 ^ (32 - s)*4294967296:=Nat.mul_le_mul_right _ hd0
    have x2:a0*4294967296+a1<2 ^ (32 - s)*4294967296:=by rw [Nat.add_mul] at x1;omega
    have x3:=(Nat.mul_lt_mul_right hp).2 x2
    rw [Nat.mul_right_comm,Nat.mul_comm (2 ^ (32 - s)),hpp] at x3
    exact x3
  have hsh:a2/2 ^ (32 - s)<2 ^ s:=by
    rw [Nat.div_lt_iff_lt_mul hp2,hpp];exact b2
  have hq:val a/(4294967296 ^ n*2 ^ (32 - s))=(a0*4294967296+a1)*2 ^ s+a2/2 ^ (32 - s):=by
    rw [← Nat.div_div_eq_div_mul,hv,Nat.add_mul_div_left _ _ hP,Nat.div_eq_of_lt tk2,Nat.zero_add]
    have:(a0*4294967296+a1)*4294967296+a2=a2+2 ^ (32 - s)*((a0*4294967296+a1)*2 ^ s):=by
      rw [Nat.mul_left_comm,Nat.mul_comm (2 ^ (32 - s)),hpp];omega
    rw [this,Nat.add_mul_div_left _ _ hp2];omega
  have hb:(a0*4294967296+a1)*2 ^ s+a2/2 ^ (32 - s)<18446744073709551616:=by
    have hdv:2 ^ s*2 ^ (64 - s)=18446744073709551616:=by rw [← Nat.pow_add,show s+(64 - s)=64 by omega]
    obtain ⟨r,hr⟩:∃ r,18446744073709551616=2 ^ s*r:=⟨2 ^ (64 - s),hdv.symm⟩
    rw [hr,Nat.mul_comm] at hk
    have x1:=Nat.lt_of_mul_lt_mul_left hk
    have x2:(a0*4294967296+a1+1)*2 ^ s≤r*2 ^ s:=Nat.mul_le_mul_right _ x1
    rw [Nat.add_mul,Nat.mul_comm r,← hr] at x2
    omega
  rw [hq]
  refine ⟨?_,hb⟩
  rw [A56];unfold A9g A9f
  have w1:IntKind.wrap .i64 (((n+3:Nat):Int) - 1)=((n+2:Nat):Int):=by rw [i64 (by omega)];omega
  have w2:IntKind.wrap .i64 (((n+3:Nat):Int) - 2)=((n+1:Nat):Int):=by rw [i64 (by omega)];omega
  have w3:IntKind.wrap .i64 (((n+3:Nat):Int) - 3)=((n:Nat):Int):=by rw [i64 (by omega)];omega
  have w4:IntKind.wrap .i64 ((32:Int) - (s:Int))=((32 - s:Nat):Int):=by rw [i64 (by omega)];omega
  rw [w1,w2,w3,w4,Bi4 hm ha,Bi4 hm ha,show decide (((s:Nat):Int)<0)=false by simp,cf,Bi4 hm ha,show decide (((32 - s:Nat):Int)<0)=false by simp,cf]
  rw [ha0,ha1,ha2,orw b0 b1,Int.toNat_natCast,Int.toNat_natCast,Nat.min_eq_left (by omega),Nat.min_eq_left (by omega),Ur,show (2:Int) ^ s=((2 ^ s:Nat):Int) by simp,Btp,w64 hk,B5s hk (by omega),Bi0 hsh]
theorem B03 {N:Nat} {a b:List Nat} {n m:Nat} {t o t' o':Bool} (hn:n=a.length) (hm:m=b.length) (ha:Ah a) (hb:Ah b) (ha3:3≤a.length) (hla:a.getLast (by intro h;rw [h] at ha3;simp at ha3)≠0) (hlb:b.length≤a.length) (hle:val b≤val a) (hf:fit a.length N) :
    ∃ (a1 a2 b1 b2:Nat) (e:Bool),Cof (val a) (val b) a1 a2 b1 b2 e∧a1<18446744073709551616∧a2<18446744073709551616∧b1<18446744073709551616∧b2<18446744073709551616∧∀ K:LA→Option R,Agn N (Ae a) n t o (Ae b) m t' o' K=K (B6w a1 a2 b1 b2 e):=by
  subst hn hm
  have h1:=hf.1;have h2:=hf.2
  obtain ⟨k,hk⟩:∃ k,a.length=k+3:=⟨a.length - 3,by omega⟩
  have hla2:a[k+2]'(by omega)≠0:=by
    rw [List.getLast_eq_getElem] at hla
    simp only [hk] at hla
    exact hla
  have ak:=A3 ha (show k+2<a.length by omega)
  obtain ⟨s,s1,s2,s3,s4⟩:=B6t (R:=R) (N:=N) (c:=a[k+2]'(by omega)) (by omega) ak
  have hag:a.getD (k+2) 0=a[k+2]'(by omega):=by rw [List.getD_eq_getElem?_getD,List.getElem?_eq_getElem (by omega)];rfl
  have hbtop:b.getD (k+2) 0≤a[k+2]'(by omega):=by
    apply Nat.le_of_not_lt;intro hlt
    have hbl:k+2<b.length:=by
      apply Nat.lt_of_not_le;intro hge
      rw [List.getD_eq_getElem?_getD,List.getElem?_eq_none hge] at hlt;simp at hlt
    have hbg:b.getD (k+2) 0=b[k+2]:=by rw [List.getD_eq_getElem?_getD,List.getElem?_eq_getElem hbl];rfl
    rw [hbg] at hlt
    have x1:=At5 ha (n:=k+2) (by omega)
    have x2:=B5v hbl
    have x3:(a[k+2]+1)*4294967296 ^ (k+2)≤b[k+2]*4294967296 ^ (k+2):=Nat.mul_le_mul_right _ hlt
    rw [Nat.mul_comm] at x2
    omega
  have hbt:b.getD (k+2) 0*2 ^ s<4294967296:=Nat.lt_of_le_of_lt (Nat.mul_le_mul_right _ hbtop) s3
  have hPP:0<4294967296 ^ k*2 ^ (32 - s):=Nat.mul_pos (Nat.pow_pos (by omega)) (Nat.pow_pos (by omega))
  have wa:=fun K=>Bml (R:=R) (N:=N) (a:=a) (m:=a.length) (n:=k) (s:=s) (t:=false) (o:=o) (K:=K) rfl ha (by omega) s1 (by rw [hag];exact s3) (by omega)
  have wb:=fun K=>Bml (R:=R) (N:=N) (a:=b) (m:=b.length) (n:=k) (s:=s) (t:=false) (o:=o') (K:=K) rfl hb (by omega) s1 hbt (by omega)
  have hX:=(wa fun _=>none).2
  generalize hP:4294967296 ^ k*2 ^ (32 - s)=P at *
  have hYX:val b/P≤val a/P:=Nat.div_le_div_right hle
  have q1:∀ z,z/P*P≤z:=fun z=>Nat.div_mul_le_self z P
  have q2:∀ z,z<(z/P+1)*P:=fun z=>by
    have:=Nat.div_add_mod z P;have:=Nat.mod_lt z hPP
    rw [Nat.add_mul,Nat.mul_comm];omega
  obtain ⟨a1,a2,b1,b2,e,r1,r2,r3,r4,r5,r6⟩:=B71 (R:=R) (N:=N) (X:=val a/P) (Y:=val b/P) (A:=val a) (B:=val b) (P:=P) hX hYX (q1 _) (q2 _) (q1 _) (q2 _) 128 N (val a/P) (val b/P) 0 1 0 0 0 1 false (by omega) (by
    have:=Nat.mul_lt_mul'' hX (Nat.lt_of_le_of_lt hYX hX)
    exact this) (Lead.init hYX) (.inl rfl) (by omega) (by omega) (by omega) (by omega)
  refine ⟨a1,a2,b1,b2,e,r1,r2,r3,r4,r5,fun K=>?_⟩
  rw [Ay3];unfold Ay2 Ay1
  have w1:IntKind.wrap .i64 (((a.length:Nat):Int) - 1)=((k+2:Nat):Int):=by rw [i64 (by omega)];omega
  rw [w1,Ac (by omega),ct,rdl (by omega),s4,show ((a.length:Nat):Int)=((k+3:Nat):Int) by rw [hk],(wa _).1,(wb _).1]
  exact r6 K
theorem Adk {N:Nat} {a b:List Nat} {n m:Nat} {x y:Nat} {t o t' o':Bool} (hn:n=a.length) (hm:m=b.length) (ha:Ah a) (hb:Ah b) (hx:x<18446744073709551616) (hy:y<18446744073709551616) (hle:val b*y≤val a*x) (hf:fit (a.length+b.length+4) N) :
    ∃ S,Ah S∧val S=val a*x - val b*y∧∀ K:Nat→LA→Option R,E9 N (Ae a) n t o (x:Int) (Ae b) m t' o' (y:Int) K=K (dig (val a*x - val b*y)).length (Ae S):=by
  subst hn hm
  have h1:=hf.1;have h2:=hf.2
  obtain ⟨Sx,x1,x2,x3⟩:=J3 (R:=R) (N:=N) hx (by omega)
  obtain ⟨Sy,y1,y2,y3⟩:=J3 (R:=R) (N:=N) hy (by omega)
  have lx:=At3 hx
  have ly:=At3 hy
  obtain ⟨P1,p1,p2,p3⟩:=A0w (R:=R) (N:=N) (a:=a) (b:=dig x) (t:=false) (o:=o) (t':=false) (o':=true) rfl rfl ha (Ad _) (hf.le (by omega))
  obtain ⟨P2,q1,q2,q3⟩:=A0w (R:=R) (N:=N) (a:=b) (b:=dig y) (t:=false) (o:=o') (t':=false) (o':=true) rfl rfl hb (Ad _) (hf.le (by omega))
  rw [Ag] at p2 p3 q2 q3
  have l1:(dig (val a*x)).length≤a.length+2:=Dc (by
    have:=Nat.mul_lt_mul'' (Bn ha) hx
    rw [Nat.pow_add];exact this)
  have l2:(dig (val b*y)).length≤b.length+2:=Dc (by
    have:=Nat.mul_lt_mul'' (Bn hb) hy
    rw [Nat.pow_add];exact this)
  obtain ⟨S,s1,s2,s3⟩:=Btx (R:=R) (N:=N) (a:=dig (val a*x)) (b:=dig (val b*y)) (t:=false) (o:=true) (t':=false) (o':=true) rfl rfl (Ad _) (Ad _) (hf.le (by omega)) (by rw [Ag,Ag];exact hle)
  rw [Ag,Ag] at s2 s3
  refine ⟨S,s1,s2,fun K=>?_⟩
  rw [Azb];unfold Aza Ay9
  have tx:List.take ((dig x).length*1) (Ae Sx)=Ae (dig x):=by rw [← x2,K6 x1]
  have ty:List.take ((dig y).length*1) (Ae Sy)=Ae (dig y):=by rw [← y2,K6 y1]
  have t1:List.take ((dig (val a*x)).length*1) (Ae P1)=Ae (dig (val a*x)):=by rw [← p2,K6 p1]
  have t2:List.take ((dig (val b*y)).length*1) (Ae P2)=Ae (dig (val b*y)):=by rw [← q2,K6 q1]
  rw [x3,tx,p3,y3,ty,q3,t1,t2,s3]
end
end Gx

namespace Gx
open Go Go.Proofs
section
variable {R:Type}
theorem B72 {N:Nat} (hN:4≤N):∀ (k fuel x y:Nat),k<fuel→x*y<2 ^ k→y≤x→x<18446744073709551616→∃ S,Ah S∧val S=Nat.gcd x y∧∀ (k1:LA→Nat→Bool→LA→Nat→Bool→Option R) (K:Nat→LA→Option R),Ro N k1 K fuel (x:Int) (y:Int)=K (dig (Nat.gcd x y)).length (Ae S):=by
  have base:∀ (fuel x:Nat),x<18446744073709551616→∃ S,Ah S∧val S=Nat.gcd x 0∧∀ (k1:LA→Nat→Bool→LA→Nat→Bool→Option R) (K:Nat→LA→Option R),Ro N k1 K (fuel+1) (x:Int) ((0:Nat):Int)=K (dig (Nat.gcd x 0)).length (Ae S):=by
    intro fuel x hx
    obtain ⟨S,s1,s2,s3⟩:=J3 (R:=R) (N:=N) hx hN
    refine ⟨S,s1,by rw [s2,Nat.gcd_zero_right],fun k1 K=>?_⟩
    rw [Ro];unfold Ar3
    rw [show (((0:Nat):Int) != 0)=false by rfl,cf,s3,Nat.gcd_zero_right]
  intro k
  induction k with
  | zero =>
    intro fuel x y hf hxy hle hx
    obtain ⟨fuel,rfl⟩:∃ F,fuel=F+1:=⟨fuel - 1,by omega⟩
    have hy:y=0:=by
      rcases Nat.eq_zero_or_pos y with h | h
      · exact h
      · have h3:=Nat.mul_le_mul_left x (show 1≤y by omega)
        rw [Nat.pow_zero] at hxy;omega
    subst hy
    exact base fuel x hx
  | succ k ih =>
    intro fuel x y hf hxy hle hx
    obtain ⟨fuel,rfl⟩:∃ F,fuel=F+1:=⟨fuel - 1,by omega⟩
    rcases Nat.eq_zero_or_pos y with h | h
    · subst h;exact base fuel x hx
    · have hh:=A00 (show 1≤y by omega) hle
      have hm:=Nat.mod_lt x h
      obtain ⟨S,s1,s2,s3⟩:=ih fuel y (x%y) (by omega) (by rw [Nat.pow_succ] at hxy;omega) (by omega) (by omega)
      have hg:Nat.gcd y (x%y)=Nat.gcd x y:=by rw [Nat.gcd_comm,← Nat.gcd_rec,Nat.gcd_comm]
      rw [hg] at s2 s3
      refine ⟨S,s1,s2,fun k1 K=>?_⟩
      rw [Ro];unfold Ar3
      rw [show ((y:Int) != 0)=true by rw [bne_iff_ne];omega,ct,i0F (by omega),cf,A0x]
      exact s3 k1 K
theorem Byl {a b u v s t x y:Nat} (hx:x+v*b=u*a) (hy:y+s*a=t*b) (hdet:u*t=v*s+1):t*x+v*y=a∧s*x+u*y=b:=by
  constructor
  · have h1:t*x+t*v*b=t*u*a:=by rw [Nat.mul_assoc,Nat.mul_assoc,← Nat.mul_add,hx]
    have h2:v*y+v*s*a=v*t*b:=by rw [Nat.mul_assoc,Nat.mul_assoc,← Nat.mul_add,hy]
    have h3:t*u*a=v*s*a+a:=by rw [Nat.mul_comm t u,hdet,Nat.add_mul,Nat.one_mul]
    have h4:t*v*b=v*t*b:=by rw [Nat.mul_comm t v]
    omega
  · have h1:s*x+s*v*b=s*u*a:=by rw [Nat.mul_assoc,Nat.mul_assoc,← Nat.mul_add,hx]
    have h2:u*y+u*s*a=u*t*b:=by rw [Nat.mul_assoc,Nat.mul_assoc,← Nat.mul_add,hy]
    have h3:u*t*b=v*s*b+b:=by rw [hdet,Nat.add_mul,Nat.one_mul]
    have h4:s*u*a=u*s*a:=by rw [Nat.mul_comm s u]
    have h5:s*v*b=v*s*b:=by rw [Nat.mul_comm s v]
    omega
theorem Bym {A B a b p q r s:Nat} (hA:p*a+q*b=A) (hB:r*a+s*b=B) (hp:1≤p) (hq:1≤q) (hr:1≤r) (hba:b≤a):2*(a*b)≤A*B∧a≤A:=by
  have h1:=Nat.mul_le_mul_right a hp
  have h2:=Nat.mul_le_mul_right b hq
  have h3:=Nat.mul_le_mul_right a hr
  have h4:2*b≤A:=by omega
  have h5:a≤B:=by omega
  have:=Nat.mul_le_mul h4 h5
  refine ⟨?_,by omega⟩
  rw [Nat.mul_comm a b,← Nat.mul_assoc];exact this
theorem Cbu {u0 u1 v0 v1:Nat} {e:Bool}:setCells [(.int .u64 0),(.int .u64 0),(.int .u64 0),(.int .u64 0),(.bool false)] 0 (B6w u0 u1 v0 v1 e)=B6w u0 u1 v0 v1 e:=rfl
theorem B3l {N:Nat}:∀ (k fuel A B:Nat) (d f:Bool),k<fuel→A*B<2 ^ k→B≤A→fit (2*(dig A).length+4) N→∃ S,Ah S∧val S=Nat.gcd A B∧∀ K:Nat→LA→Option R,D7 N K fuel (Ae (dig A)) (dig A).length d (Ae (dig B)) (dig B).length f=K (dig (Nat.gcd A B)).length (Ae S):=by
  have base:∀ (fuel A:Nat) (d f:Bool),fit (2*(dig A).length+4) N→∃ S,Ah S∧val S=Nat.gcd A 0∧∀ K:Nat→LA→Option R,D7 N K (fuel+1) (Ae (dig A)) (dig A).length d (Ae (dig 0)) (dig 0).length f=K (dig (Nat.gcd A 0)).length (Ae S):=by
    intro fuel A d f hf
    refine ⟨dig A,Ad _,by rw [Ag,Nat.gcd_zero_right],fun K=>?_⟩
    rw [D7];unfold Agv
    rw [Du,show decide ((((([]:List Nat).length:Nat)):Int)>0)=false by decide,cf,A4m rfl (Ad _) (hf.le (by omega)),Ag,Nat.gcd_zero_right]
  intro k
  induction k with
  | zero =>
    intro fuel A B d f hfu hxy hle hf
    obtain ⟨fuel,rfl⟩:∃ F,fuel=F+1:=⟨fuel - 1,by omega⟩
    have hy:B=0:=by
      rcases Nat.eq_zero_or_pos B with h | h
      · exact h
      · have h3:=Nat.mul_le_mul_left A (show 1≤B by omega)
        rw [Nat.pow_zero] at hxy;omega
    subst hy
    exact base fuel A d f hf
  | succ k ih =>
    intro fuel A B d f hfu hxy hle hf
    have h1:=hf.1;have h2:=hf.2
    obtain ⟨fuel,rfl⟩:∃ F,fuel=F+1:=⟨fuel - 1,by omega⟩
    rcases Nat.eq_zero_or_pos B with h | h
    · subst h;exact base fuel A d f hf
    have hll:=Cc hle
    have hbl:(dig B).length≠0:=fun h0=>by have:=Bz.1 h0;omega
    have hd0:decide ((((dig B).length:Nat):Int)>0)=true:=by rw [decide_eq_true_eq];omega
    by_cases ha2:(dig A).length≤2
    · have av:=Bey ha2
      obtain ⟨S,s1,s2,s3⟩:=B72 (R:=R) (N:=N) (by omega) 128 N A B (by omega) (by have:=Nat.mul_lt_mul'' av (Nat.lt_of_le_of_lt hle av);exact this) hle av
      refine ⟨S,s1,s2,fun K=>?_⟩
      rw [D7];unfold Agv
      rw [hd0,ct,show decide ((((dig A).length:Nat):Int)≤2)=true by rw [decide_eq_true_eq];omega,ct,Apc rfl (Ad _) ha2 (by omega),Apc rfl (Ad _) (by omega) (by omega),Ag,Ag]
      exact s3 _ K
    · have hd2:decide ((((dig A).length:Nat):Int)≤2)=false:=by rw [decide_eq_false_iff_not];omega
      obtain ⟨a1,a2,b1,b2,e,r1,r2,r3,r4,r5,r6⟩:=B03 (R:=R) (N:=N) (a:=dig A) (b:=dig B) (t:=false) (o:=d) (t':=false) (o':=f) rfl rfl (Ad _) (Ad _) (by omega) (Bto _ _) hll (by rw [Ag,Ag];exact hle) (hf.le (by omega))
      rw [Ag,Ag] at r1
      have start:∀ K:Nat→LA→Option R,D7 N K (fuel+1) (Ae (dig A)) (dig A).length d (Ae (dig B)) (dig B).length f=cond ((b1:Int)==0) (Eg N (Ae (dig A)) (dig A).length false d (Ae (dig B)) (dig B).length false f (fun bm ag bn bo ar=>(D7 N K fuel (Ae (dig B)) (dig B).length f (List.take (ag*1) ar) ag false))) (cond e (E9 N (Ae (dig A)) (dig A).length false d (a1:Int) (Ae (dig B)) (dig B).length false f (b1:Int) (fun ah ax=>E9 N (Ae (dig B)) (dig B).length false f (b2:Int) (Ae (dig A)) (dig A).length false d (a2:Int) (fun ai ba=>(D7 N K fuel (List.take (ah*1) ax) ah false (List.take (ai*1) ba) ai false)))) (E9 N (Ae (dig B)) (dig B).length false f (b1:Int) (Ae (dig A)) (dig A).length false d (a1:Int) (fun aj bd=>E9 N (Ae (dig A)) (dig A).length false d (a2:Int) (Ae (dig B)) (dig B).length false f (b2:Int) (fun ak bg=>(D7 N K fuel (List.take (aj*1) bd) aj false (List.take (ak*1) bg) ak false))))):=by
        intro K
        rw [D7];unfold Agv
        rw [hd0,ct,hd2,cf,r6,Cbu]
        rfl
      by_cases hb1:b1=0
      · obtain ⟨Sq,Sr,q1,q2,q3,q4,q5⟩:=A0z (R:=R) (N:=N) (a:=dig A) (b:=dig B) (t:=false) (o:=d) (t':=false) (o':=f) rfl rfl (Ad _) (Ad _) (by rw [Ag];omega) (hf.le (by omega))
        rw [Ag,Ag] at q2 q4 q5
        have hm:=Nat.mod_lt A h
        have hh:=A00 (show 1≤B by omega) hle
        obtain ⟨S,s1,s2,s3⟩:=ih fuel B (A%B) f false (by omega) (by rw [Nat.pow_succ] at hxy;omega) (by omega) (hf.le (by omega))
        have hg:Nat.gcd B (A%B)=Nat.gcd A B:=by rw [Nat.gcd_comm,← Nat.gcd_rec,Nat.gcd_comm]
        rw [hg] at s2 s3
        refine ⟨S,s1,s2,fun K=>?_⟩
        have tk:List.take ((dig (A%B)).length*1) (Ae Sr)=Ae (dig (A%B)):=by rw [← q4,K6 q3]
        rw [start,i0T hb1,ct,q5,tk,s3]
      · rcases r1 with r1 | ⟨p1,p2,r1⟩
        · exact absurd r1 hb1
        cases e with
        | true =>
          obtain ⟨c1,c2,c3,c4⟩:=r1
          obtain ⟨S1,t1,t2,t3⟩:=Adk (R:=R) (N:=N) (a:=dig A) (b:=dig B) (x:=a1) (y:=b1) (t:=false) (o:=d) (t':=false) (o':=f) rfl rfl (Ad _) (Ad _) r2 r4 (by rw [Ag,Ag,Nat.mul_comm,Nat.mul_comm A];exact c1) (hf.le (by omega))
          obtain ⟨S2,w1,w2,w3⟩:=Adk (R:=R) (N:=N) (a:=dig B) (b:=dig A) (x:=b2) (y:=a2) (t:=false) (o:=f) (t':=false) (o':=d) rfl rfl (Ad _) (Ad _) r5 r3 (by rw [Ag,Ag,Nat.mul_comm,Nat.mul_comm B];exact c2) (hf.le (by omega))
          rw [Ag,Ag] at t2 t3 w2 w3
          have g1:(A*a1 - B*b1)+b1*B=a1*A:=by rw [Nat.mul_comm A,Nat.mul_comm B];omega
          have g2:(B*b2 - A*a2)+a2*A=b2*B:=by rw [Nat.mul_comm A,Nat.mul_comm B];omega
          have hba:B*b2 - A*a2≤A*a1 - B*b1:=by rw [Nat.add_mul,Nat.add_mul] at c3;omega
          obtain ⟨i1,i2⟩:=Byl g1 g2 c4
          have hg:=B3b g1 g2 c4
          obtain ⟨i3,i4⟩:=Bym i1 i2 p2 (by omega) p1 hba
          have hl:=Cc i4
          obtain ⟨S,s1,s2,s3⟩:=ih fuel (A*a1 - B*b1) (B*b2 - A*a2) false false (by omega) (by rw [Nat.pow_succ] at hxy;omega) hba (hf.le (by omega))
          rw [hg] at s2 s3
          refine ⟨S,s1,s2,fun K=>?_⟩
          have tk1:List.take ((dig (A*a1 - B*b1)).length*1) (Ae S1)=Ae (dig (A*a1 - B*b1)):=by rw [← t2,K6 t1]
          have tk2:List.take ((dig (B*b2 - A*a2)).length*1) (Ae S2)=Ae (dig (B*b2 - A*a2)):=by rw [← w2,K6 w1]
          rw [start,i0F hb1,cf,ct,t3,w3,tk1,tk2,s3]
        | false =>
          obtain ⟨c1,c2,c3,c4⟩:=r1
          obtain ⟨S1,t1,t2,t3⟩:=Adk (R:=R) (N:=N) (a:=dig B) (b:=dig A) (x:=b1) (y:=a1) (t:=false) (o:=f) (t':=false) (o':=d) rfl rfl (Ad _) (Ad _) r4 r2 (by rw [Ag,Ag,Nat.mul_comm,Nat.mul_comm B];exact c1) (hf.le (by omega))
          obtain ⟨S2,w1,w2,w3⟩:=Adk (R:=R) (N:=N) (a:=dig A) (b:=dig B) (x:=a2) (y:=b2) (t:=false) (o:=d) (t':=false) (o':=f) rfl rfl (Ad _) (Ad _) r3 r5 (by rw [Ag,Ag,Nat.mul_comm,Nat.mul_comm A];exact c2) (hf.le (by omega))
          rw [Ag,Ag] at t2 t3 w2 w3
          have g1:(B*b1 - A*a1)+a1*A=b1*B:=by rw [Nat.mul_comm A,Nat.mul_comm B];omega
          have g2:(A*a2 - B*b2)+b2*B=a2*A:=by rw [Nat.mul_comm A,Nat.mul_comm B];omega
          have hba:A*a2 - B*b2≤B*b1 - A*a1:=by rw [Nat.add_mul,Nat.add_mul] at c3;omega
          obtain ⟨i1,i2⟩:=Byl g2 g1 c4
          have hg:=B3b g2 g1 c4
          rw [Nat.gcd_comm] at hg
          rw [Nat.add_comm] at i1 i2
          obtain ⟨i3,i4⟩:=Bym i1 i2 p2 (by omega) p1 hba
          have hl:=Cc i4
          obtain ⟨S,s1,s2,s3⟩:=ih fuel (B*b1 - A*a1) (A*a2 - B*b2) false false (by omega) (by rw [Nat.pow_succ] at hxy;omega) hba (hf.le (by omega))
          rw [hg] at s2 s3
          refine ⟨S,s1,s2,fun K=>?_⟩
          have tk1:List.take ((dig (B*b1 - A*a1)).length*1) (Ae S1)=Ae (dig (B*b1 - A*a1)):=by rw [← t2,K6 t1]
          have tk2:List.take ((dig (A*a2 - B*b2)).length*1) (Ae S2)=Ae (dig (A*a2 - B*b2)):=by rw [← w2,K6 w1]
          rw [start,i0F hb1,cf,cf,t3,w3,tk1,tk2,s3]
theorem B3m (n m:Nat):4294967296 ^ n*4294967296 ^ m=2 ^ (32*(n+m)):=by
  rw [← Nat.pow_add,show (4294967296:Nat)=2 ^ 32 by rfl,← Nat.pow_mul]
theorem B9j {N:Nat} {a b:List Nat} {n m:Nat} {t o t' o':Bool} (hn:n=a.length) (hm:m=b.length) (ha:Ah a) (hb:Ah b) (hf:fit (2*(a.length+b.length)+4) N) :
    ∃ S,Ah S∧val S=Nat.gcd (val a) (val b)∧∀ K:Nat→LA→Option R,A9q N (Ae a) n t o (Ae b) m t' o' K=K (dig (Nat.gcd (val a) (val b))).length (Ae S):=by
  have h1:=hf.1;have h2:=hf.2
  have la:=(Bs ha).2
  have lb:=(Bs hb).2
  have hprod:val a*val b<2 ^ (32*(a.length+b.length)):=by rw [← B3m];exact Nat.mul_lt_mul'' (Bn ha) (Bn hb)
  have start:∀ K:Nat→LA→Option R,A9q N (Ae a) n t o (Ae b) m t' o' K=cond (decide (Gv (val a) (val b)<0)) (D7 N K N (Ae (dig (val b))) (dig (val b)).length o' (Ae (dig (val a))) (dig (val a)).length o) (D7 N K N (Ae (dig (val a))) (dig (val a)).length o (Ae (dig (val b))) (dig (val b)).length o'):=by
    intro K
    rw [Brq];unfold B0h B0g Bhr A9p
    dsimp only
    rw [Ce hn ha (hf.le (by omega)),Ce hm hb (hf.le (by omega)),Ru rfl rfl (Ad _) (Ad _) (hf.le (by omega)),Ag,Ag]
  by_cases hlt:val a<val b
  · obtain ⟨S,s1,s2,s3⟩:=B3l (R:=R) (N:=N) (32*(a.length+b.length)) N (val b) (val a) o' o (by omega) (by rw [Nat.mul_comm];exact hprod) (by omega) (hf.le (by omega))
    rw [Nat.gcd_comm] at s2
    refine ⟨S,s1,s2,fun K=>?_⟩
    rw [start,show decide (Gv (val a) (val b)<0)=true by (unfold Gv;rw [if_pos hlt];rfl),ct,s3,Nat.gcd_comm]
  · obtain ⟨S,s1,s2,s3⟩:=B3l (R:=R) (N:=N) (32*(a.length+b.length)) N (val a) (val b) o o' (by omega) hprod (by omega) (hf.le (by omega))
    refine ⟨S,s1,s2,fun K=>?_⟩
    rw [start,show decide (Gv (val a) (val b)<0)=false by (unfold Gv;rw [if_neg hlt];split<;>rfl),cf,s3]
end
end Gx
