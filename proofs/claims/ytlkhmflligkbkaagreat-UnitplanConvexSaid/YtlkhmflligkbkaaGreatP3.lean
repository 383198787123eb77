/- A part of the proof: what it holds is said by each theorem. -/
import Derived.IntWalk
import Derived.ProofKit
import Derived.OpenShut
import Derived.ChangeOld
import Derived.Below
import Derived.Test.YtlkhmflligkbkaaGreatP2
set_option linter.unusedVariables false
namespace Gx
open Go Go.Proofs
set_option maxRecDepth 100000
noncomputable section
variable {R:Type}
def Oe (N:Nat) (k0:Int→Int→Int→Option R) (r0:Bool→Option R) (c:LA) (e:Nat) (b:Bool) (d:Int) (a:LA)   (l i m:Int) (j:LA):Option R :=
 (cond ((decide (i>(0:Int)))==true) (rdI .i64 (List.drop 1 j) fun p=>(rdL 2 (List.drop 4 a) fun q r=>(cond (Ak (IntKind.wrap .i64 (i - (1:Int))) r) (rdI .i64 (List.drop 1 (List.drop ((Int.toNat (IntKind.wrap .i64 (i - (1:Int))))*2) q)) fun t=>(cond (cond true (decide (p<t)) false) (r0 false) (rdI .i64 j fun u=>(k0 (IntKind.wrap .i64 (l+u)) d (IntKind.wrap .i64 (m+(1:Int))))))) none))) (rdI .i64 j fun w=>(k0 (IntKind.wrap .i64 (l+w)) d (IntKind.wrap .i64 (m+(1:Int))))))
def I7 (N:Nat) (k0:Int→Int→Int→Option R) (r0:Bool→Option R) (c:LA) (e:Nat) (b:Bool) (d:Int) (a:LA) (l i m:Int) (j:LA):Option R:=(Oe N k0 r0 c e b d a l i m j)
def H8 (N:Nat)  (r0:Bool→Option R) (c:LA) (e:Nat) (b:Bool) (a:LA) (k0:Int→Int→Int→Option R) (q1:Int→Int→Int→LA→Option R) (g d f:Int):Option R :=
 (cond (decide (f<d)) (cond (Ak f e) (cond (Nat.ble 2 (List.length (List.drop ((Int.toNat f)*2) c))) (cond ((!b)||(Bp (List.take 2 (List.drop ((Int.toNat f)*2) c)))) (cond ((Nat.beq (List.length (List.take 2 (List.drop ((Int.toNat f)*2) c))) 2)&&((Nat.ble 2 2)&&(!false))) (rdI .i64 (setCells [(.int .i64 0),(.int .i64 0)] 0 (List.take 2 (List.drop ((Int.toNat f)*2) c))) fun x=>(Dc N 1 1048576 [(.int .i64 x)] 1 false true (fun y=>(cond ((!y)==false) (rdI .i64 (List.drop 1 (setCells [(.int .i64 0),(.int .i64 0)] 0 (List.take 2 (List.drop ((Int.toNat f)*2) c)))) fun z=>(Dc N (-1048576) 1048576 [(.int .i64 z)] 1 false true (fun aa=>(cond (cond false true (!aa)) (r0 false) (q1 g f f (setCells [(.int .i64 0),(.int .i64 0)] 0 (List.take 2 (List.drop ((Int.toNat f)*2) c)))))))) (r0 false))))) none) none) none) none) (rdI .i64 (List.drop 3 a) fun ab=>(rdI .i64 (List.drop 2 a) fun ac=>(r0 (g==(IntKind.wrap .i64 (ab - ac)))))))
def Ci (N:Nat)  (r0:Bool→Option R) (c:LA) (e:Nat) (b:Bool) (a:LA):Nat→Int→Int→Int→Option R
 | 0,_,_,_=>none
 | n+1,g,d,f=>(H8 N r0 c e b a (Ci N r0 c e b a n) (fun l i m j=>(I7 N (Ci N r0 c e b a n) r0 c e b d a l i m j)) g d f)
def V3 (N:Nat) (r0:Bool→Option R) (q0:LA→Nat→Int→Int→Int→Option R) (a:LA) (b:Bool):Option R :=
 (rdL 2 (List.drop 4 a) fun af ad=>(cond (decide (((ad:Nat):Int)>(8:Int))) (r0 false) (rdL 2 (List.drop 4 a) fun c e=>(q0 c e 0 ((e:Nat):Int) 0))))
def V4 (N:Nat) (a:LA) (b:Bool) (r0:Bool→Option R):Option R:=(V3 N r0 (fun c e g d f=>(Ci N r0 c e b a N g d f)) a b)
def Gq:=(Aj (@V4 R)).1
theorem Aby:@Gq R=@V4 R:=(Aj _).2
def I8:Hints:={ H:=(hS (hR [1]) (hS (hS (hR [1,9]) (hN [1] (hS (hR [2]) hL) hL)) (hS (hR [1,3]) (hS (hS (hR [1,3,11,12,13]) (hN [1,3] (hN [1,3,11,12,13] (hS (hR [1,3,11,12,13,14]) (hS (hN [1,3,11,12,13] hL hL) (hS (hN [1,3,11,12,13] (hS (hR [1,3,4,5,11,12,13]) (hJ (hS (hR [1,3,4,5,11,12,13,29]) (hN [1,3,4,5,11,12,13] (hS (hR [2]) hL) hL)) (hS (hS (hR [1,3,5,11,12,13,43]) (hN [1,3,5,11,12,13] (hS (hR [2]) hL) hL)) (hR [1,3,11,12,13])))) hL) (hR [1,3,11,12,13])))) hL) hL)) (hS (hR [2]) hL))))),nils:=[],modes:=[],free:=[],cob:=[] }
def Li (N:Nat):List (Nat×Tw):=[(47,Aas N)]
def Eo (N:Nat):Env:=mkE 56 I8 (Li N)
def A1b (N:Nat) (F:KF R):=Ar (Eo N) Tryz.f49 I8.modes [] F
def I9 (N:Nat) (F:KF R):=atF (Eo N) [] N Tryz.f49 I8 (A1b N F)
def B3  (F:KF R):Bool→Option R:=(fun ae=>F (.bool ae) [])
def Ja (c:LA) (e:Nat) (b:Bool) (d:Int) (a:LA) (l i m:Int) (j:LA):St:={ s:=[(1,(.optr 300000 0)),(3,(.int .i64 l)),(4,(.int .i64 i)),(5,(.optr 300001 0)),(11,(.imm c e 2 false b)),(12,(.int .i64 d)),(13,(.int .i64 m))],h:=[(300000,⟨false,false,true,b,0,a,false⟩),(300001,⟨false,false,true,false,0,j,false⟩)] }
def Adm (N:Nat) (F:KF R) (Q0:St→Option R):St→Option R:=Bh (Eo N) [] N (I9 N F [1,1,1,0,1,0,0,1,1,0,0,1,1] [Q0])
def Adn (N:Nat) (F:KF R) (Q0:St→Option R):St→Option R:=Bk (Eo N) [] N (I9 N F [1,1,1,0,1,0,0,1,1,0,0,1,1] [Q0])
def Cj (c:LA) (e:Nat) (b:Bool) (a:LA) (g d f:Int):St:={ s:=[(1,(.optr 300000 0)),(3,(.int .i64 g)),(11,(.imm c e 2 false b)),(12,(.int .i64 d)),(13,(.int .i64 f))],h:=[(300000,⟨false,false,true,b,0,a,false⟩)] }
def Ado (N:Nat) (F:KF R):St→Option R:=A4 (Eo N) [] N (I9 N F [1,1,1,0,1,0] []) N
def Dd (N:Nat) (F:KF R) (n:Nat):St→Option R:=Av (Eo N) [] N (I9 N F [1,1,1,0,1,0] []) n
theorem Auc (N:Nat) (Q0:St→Option R) (F:KF R) (c:LA) (e:Nat) (b:Bool) (d:Int) (a:LA):∀ (l i m:Int) (j:LA),Adn N F Q0 (Ja c e b d a l i m j)=(I7 N (fun g d f=>Q0 (Cj c e b a g d f)) (B3 F) c e b d a l i m j):=by
 intro l i m j
 have hK:Adn N F Q0 (Ja c e b d a l i m j)=(Oe N (fun g d f=>Q0 (Cj c e b a g d f)) (B3 F) c e b d a l i m j):=by kernel_rfl
 exact hK
theorem Aud (N:Nat)  (F:KF R) (c:LA) (e:Nat) (b:Bool) (a:LA):∀ (n:Nat) (g d f:Int),Dd N F n (Cj c e b a g d f)=(Ci N (B3 F) c e b a n g d f):=by
 intro n
 induction n with
 | zero=>intros;kernel_rfl
 | succ n ih =>
  intro g d f
  have e0:=funext fun g=>funext fun d=>funext fun f=>(show Dd N F n (Cj c e b a g d f)=_ from ih g d f)
  have e1:(fun l i m j=>Adm N F (Dd N F n) (Ja c e b d a l i m j))=(fun l i m j=>(I7 N (Ci N (B3 F) c e b a n) (B3 F) c e b d a l i m j)):=by funext l;funext i;funext m;funext j;exact ((Au ..).trans (Auc N (Dd N F n) F c e b d a l i m j)).trans (by rw [e0])
  have hK:Dd N F (n+1) (Cj c e b a g d f)=(H8 N (B3 F) c e b a (fun g d f=>Dd N F n (Cj c e b a g d f)) (fun l i m j=>Adm N F (Dd N F n) (Ja c e b d a l i m j)) g d f):=by kernel_rfl
  exact hK.trans (by rw [e0,e1];rfl)
theorem Qx (N:Nat) (a:LA) (b:Bool) (F:KF R):Ac Tryz.prog muts (Li N) I8 N 49 [(.pagg a b)] [] F=(Gq N a b (B3 F)):=by
 have e1:=funext fun c=>funext fun e=>funext fun g=>funext fun d=>funext fun f=>(show Ado N F (Cj c e b a g d f)=_ from (An ..).trans (Aud N F c e b a N g d f))
 have hK:Ac Tryz.prog muts (Li N) I8 N 49 [(.pagg a b)] [] F=(V3 N (B3 F) (fun c e g d f=>Ado N F (Cj c e b a g d f)) a b):=by kernel_rfl
 rw [Aby]
 exact hK.trans (by rw [e1];rfl)
def H9 (N:Nat) (args:List AV) (h:Al) (k:KF R):Option R :=
 match args,h with
 | [(.pagg a b)],[]=>(Gq N a b (B3 k))
 | _,_=>none
def Adp (N:Nat):Tw:=⟨H9 N,fun args h k=>by
 unfold H9;split
 exact twE (Qx ..) (Qx ..)
 rfl⟩
theorem A5s (N:Nat):A0 Tryz.prog 49 (Adp N):=fun args h res o hh=>by
 change H9 N args h (fun v o=>some (v,o))=_ at hh
 unfold H9 at hh;split at hh
 exact Aa (T:=Li N) ⟨Aou N,trivial⟩ follows ((Qx ..).trans hh)
 cases hh
def Ps (N:Nat)  (r0:Bool→Option R) (c:LA) (a:Nat) (d e:Bool) (f:Int) (k0:Int→Int→Option R)  (g b:Int):Option R :=
 (cond (decide (b<g)) (cond (Ak b a) (rdI .i64 (List.drop ((Int.toNat b)*1) c) fun i=>(Dc N 0 (IntKind.wrap .i64 (f - (1:Int))) [(.int .i64 i)] 1 false true (fun l=>(cond ((!l)==false) (cond ((decide (b>(0:Int)))==true) (cond (Ak (IntKind.wrap .i64 (b - (1:Int))) a) (rdI .i64 (List.drop ((Int.toNat (IntKind.wrap .i64 (b - (1:Int))))*1) c) fun m=>(cond (cond false true (cond true (decide (i≤m)) false)) (r0 false) (k0 g (IntKind.wrap .i64 (b+(1:Int)))))) none) (k0 g (IntKind.wrap .i64 (b+(1:Int))))) (r0 false))))) none) (r0 true))
def H0 (N:Nat)  (r0:Bool→Option R) (c:LA) (a:Nat) (d e:Bool) (f:Int):Nat→Int→Int→Option R
 | 0,_,_=>none
 | n+1,g,b=>(Ps N r0 c a d e f (H0 N r0 c a d e f n) g b)
def Aov (N:Nat) (r0:Bool→Option R) (q0:Int→Int→Option R) (c:LA) (a:Nat) (d e:Bool) (f:Int):Option R :=
 (q0 ((a:Nat):Int) 0)
def Aow (N:Nat) (c:LA) (a:Nat) (d e:Bool) (f:Int) (r0:Bool→Option R):Option R:=(Aov N r0 (fun g b=>(H0 N r0 c a d e f N g b)) c a d e f)
def Pt:=(Aj (@Aow R)).1
theorem Aql:@Pt R=@Aow R:=(Aj _).2
def Sh:Hints:={ H:=(hS (hR [0,1]) (hS (hS (hR [0,1,7,8,9]) (hS (hN [0,1,7,8,9] (hS (hR [0,1,7,8,9,10]) (hS (hN [0,1,7,8,9] hL hL) (hS (hN [0,1,7,8,9] (hS (hR [0,1,5,6,7,8,9]) (hS (hR [0,1,7,8,9,32]) (hN [0,1,7,8,9] (hS (hR [4]) hL) hL))) hL) (hR [0,1,7,8,9])))) hL) hL)) (hS (hR [4]) hL))),nils:=[],modes:=[],free:=[],cob:=[] }
def V5 (N:Nat):List (Nat×Tw):=[(47,Aas N)]
def V6 (N:Nat):Env:=mkE 34 Sh (V5 N)
def Bjw (N:Nat) (F:KF R):=Ar (V6 N) Tryz.f50 Sh.modes [] F
def Aw8 (N:Nat) (F:KF R):=atF (V6 N) [] N Tryz.f50 Sh (Bjw N F)
def Mg  (F:KF R):Bool→Option R:=(fun o=>F (.bool o) [])
def H1 (c:LA) (a:Nat) (d e:Bool) (f g b:Int):St:={ s:=[(0,(.imm c a 1 d e)),(1,(.int .i64 f)),(7,(.imm c a 1 d e)),(8,(.int .i64 g)),(9,(.int .i64 b))],h:=[] }
def Aw9 (N:Nat) (F:KF R):St→Option R:=A4 (V6 N) [] N (Aw8 N F [1,0,1,0] []) N
def Si (N:Nat) (F:KF R) (n:Nat):St→Option R:=Av (V6 N) [] N (Aw8 N F [1,0,1,0] []) n
theorem Bbq (N:Nat)  (F:KF R) (c:LA) (a:Nat) (d e:Bool) (f:Int):∀ (n:Nat) (g b:Int),Si N F n (H1 c a d e f g b)=(H0 N (Mg F) c a d e f n g b):=by
 intro n
 induction n with
 | zero=>intros;kernel_rfl
 | succ n ih =>
  intro g b
  have e0:=funext fun g=>funext fun b=>(show Si N F n (H1 c a d e f g b)=_ from ih g b)
  have hK:Si N F (n+1) (H1 c a d e f g b)=(Ps N (Mg F) c a d e f (fun g b=>Si N F n (H1 c a d e f g b)) g b):=by kernel_rfl
  exact hK.trans (by rw [e0];rfl)
theorem Acu (N:Nat) (c:LA) (a:Nat) (d e:Bool) (f:Int) (F:KF R):Ac Tryz.prog muts (V5 N) Sh N 50 [(.imm c a 1 d e),(.int .i64 f)] [] F=(Pt N c a d e f (Mg F)):=by
 have e1:=funext fun g=>funext fun b=>(show Aw9 N F (H1 c a d e f g b)=_ from (An ..).trans (Bbq N F c a d e f N g b))
 have hK:Ac Tryz.prog muts (V5 N) Sh N 50 [(.imm c a 1 d e),(.int .i64 f)] [] F=(Aov N (Mg F) (fun g b=>Aw9 N F (H1 c a d e f g b)) c a d e f):=by kernel_rfl
 rw [Aql]
 exact hK.trans (by rw [e1];rfl)
def Pu (N:Nat) (args:List AV) (h:Al) (k:KF R):Option R :=
 match args,h with
 | [(.imm c a 1 d e),(.int .i64 f)],[]=>(Pt N c a d e f (Mg k))
 | _,_=>none
def Axa (N:Nat):Tw:=⟨Pu N,fun args h k=>by
 unfold Pu;split
 exact twE (Acu ..) (Acu ..)
 rfl⟩
theorem Bok (N:Nat):A0 Tryz.prog 50 (Axa N):=fun args h res j hh=>by
 change Pu N args h (fun v j=>some (v,j))=_ at hh
 unfold Pu at hh;split at hh
 exact Aa (T:=V5 N) ⟨Aou N,trivial⟩ follows ((Acu ..).trans hh)
 cases hh
def Aue (N:Nat)  (r0:Bool→Option R) (c:Int) (b:Bool) (a:LA)   :Option R :=
 (rdI .i64 (List.drop 2 a) fun e=>(rdI .i64 (List.drop 3 a) fun f=>(rdI .i64 (List.drop 8 a) fun g=>(rdI .i64 (List.drop 9 a) fun i=>(Dc N e f [(.int .i64 g),(.int .i64 i)] 2 false true (fun j=>(cond (!j) (r0 false) (rdI .i64 (List.drop 5 a) fun l=>(rdI .i64 (List.drop 13 a) fun m=>(rdI .i64 (List.drop 14 a) fun n=>(rdI .i64 (List.drop 17 a) fun o=>(Dc N 0 1048576 [(.int .i64 l),(.int .i64 m),(.int .i64 n),(.int .i64 o)] 4 false true (fun p=>(cond (!p) (r0 false) (rdI .i64 (List.drop 19 a) fun q=>(cond (q==(2:Int)) (rdI .i64 (List.drop 2 a) fun r=>(rdI .i64 (List.drop 3 a) fun t=>(rdI .i64 (List.drop 21 a) fun u=>(Dc N r t [(.int .i64 u)] 1 false true (fun w=>(cond (!w) (r0 false) (cond (Nat.ble 22 (List.length a)) (Gq N (List.take 22 a) b (fun x=>(cond (x==true) (rdL 1 (List.drop 18 a) fun y z=>(Pt N y z false b c (fun aa=>(r0 (cond true aa false))))) (r0 false)))) none))))))) (rdI .i64 (List.drop 21 a) fun ab=>(cond (ab != (0:Int)) (r0 false) (cond (Nat.ble 22 (List.length a)) (Gq N (List.take 22 a) b (fun ac=>(cond (ac==true) (rdL 1 (List.drop 18 a) fun ad ae=>(Pt N ad ae false b c (fun af=>(r0 (cond true af false))))) (r0 false)))) none)))))))))))))))))))
def A1c (N:Nat)  (r0:Bool→Option R) (c:Int) (b:Bool) (a:LA) :Option R:=(Aue N r0 c b a)
def Auf (N:Nat)  (r0:Bool→Option R) (c:Int) (b:Bool) (a:LA)  (q1:Option R) :Option R :=
 (rdI .i64 (List.drop 2 a) fun ag=>(rdI .i64 (List.drop 3 a) fun ah=>(rdI .i64 (List.drop 6 a) fun ai=>(rdI .i64 (List.drop 7 a) fun aj=>(rdI .i64 (List.drop 16 a) fun ak=>(Dc N 0 1048576 [(.int .i64 ag),(.int .i64 ah),(.int .i64 ai),(.int .i64 aj),(.int .i64 ak)] 5 false true (fun al=>(cond ((!al)==false) (rdI .i64 (List.drop 2 a) fun am=>(rdI .i64 (List.drop 3 a) fun an=>(cond (cond false true (decide (am>an))) (r0 false) q1))) (r0 false)))))))))
def A1d (N:Nat)  (r0:Bool→Option R) (c:Int) (b:Bool) (a:LA) :Option R:=(Auf N r0 c b a (A1c N r0 c b a))
def Bjx (N:Nat) (r0:Bool→Option R) (q0:Option R) (a:LA) (b:Bool) (c:Int):Option R :=
 (Dc N 1 24 [(.int .i64 c)] 1 false true (fun ao=>(cond ((!ao)==false) (cond (Nat.ble 22 (List.length a)) (Ro N (List.take 22 a) b (fun ap=>(cond (cond false true (!ap)) (r0 false) q0))) none) (r0 false))))
def Bjy (N:Nat) (a:LA) (b:Bool) (c:Int) (r0:Bool→Option R):Option R:=(Bjx N r0 (A1d N r0 c b a) a b c)
def Ajc:=(Aj (@Bjy R)).1
theorem Be0:@Ajc R=@Bjy R:=(Aj _).2
def Amd:Hints:={ H:=(hS (hR [1,2]) (hJ (hS (hR [1,2,13]) (hN [1,2] (hS (hR [4]) hL) hL)) (hJ (hS (hR [1,2,33]) (hN [1,2] (hS (hR [4]) hL) hL)) (hS (hS (hR [1,2,44]) (hN [1,2] (hS (hR [4]) hL) hL)) (hS (hS (hR [1,2,55]) (hN [1,2] (hS (hR [4]) hL) hL)) (hS (hS (hR [1,2,58]) (hN [1,2] (hS (hR [1,2,67]) (hN [1,2] (hS (hR [4]) hL) hL)) (hS (hR [1,2,70]) (hN [1,2] (hS (hR [4]) hL) hL)))) (hS (hR [4]) hL))))))),nils:=[],modes:=[],free:=[],cob:=[] }
def Aug (N:Nat):List (Nat×Tw):=[(47,Aas N),(48,Ue N),(49,Adp N),(50,Axa N)]
def Y7 (N:Nat):Env:=mkE 79 Amd (Aug N)
def B2b (N:Nat) (F:KF R):=Ar (Y7 N) Tryz.f16 Amd.modes [] F
def Ame (N:Nat) (F:KF R):=atF (Y7 N) [] N Tryz.f16 Amd (B2b N F)
def Of  (F:KF R):Bool→Option R:=(fun aq=>F (.bool aq) [])
def Amf (c:Int) (b:Bool) (a:LA):St:={ s:=[(1,(.int .i64 c)),(2,(.optr 300000 0))],h:=[(300000,⟨false,false,true,b,0,a,false⟩)] }
def Bmy (N:Nat) (F:KF R):St→Option R:=Bh (Y7 N) [] N (Ame N F [1,1,1] [])
def Bmz (N:Nat) (F:KF R):St→Option R:=Bk (Y7 N) [] N (Ame N F [1,1,1] [])
def Amg (c:Int) (b:Bool) (a:LA):St:={ s:=[(1,(.int .i64 c)),(2,(.optr 300000 0))],h:=[(300000,⟨false,false,true,b,0,a,false⟩)] }
def Bm0 (N:Nat) (F:KF R):St→Option R:=Bh (Y7 N) [] N (Ame N F [1,1] [])
def Bm1 (N:Nat) (F:KF R):St→Option R:=Bk (Y7 N) [] N (Ame N F [1,1] [])
theorem Bt4 (N:Nat)  (F:KF R) (c:Int) (b:Bool) (a:LA):Bmz N F (Amf c b a)=(A1c N (Of F) c b a):=by
 have hK:Bmz N F (Amf c b a)=(Aue N (Of F) c b a):=by kernel_rfl
 exact hK
theorem Bt5 (N:Nat)  (F:KF R) (c:Int) (b:Bool) (a:LA):Bm1 N F (Amg c b a)=(A1d N (Of F) c b a):=by
 have e1:=(show Bmy N F (Amf c b a)=_ from (Au ..).trans (Bt4 N F c b a))
 have hK:Bm1 N F (Amg c b a)=(Auf N (Of F) c b a (Bmy N F (Amf c b a))):=by kernel_rfl
 exact hK.trans (by rw [e1];rfl)
theorem A1e (N:Nat) (a:LA) (b:Bool) (c:Int) (F:KF R):Ac Tryz.prog muts (Aug N) Amd N 16 [(.pagg a b),(.int .i64 c)] [] F=(Ajc N a b c (Of F)):=by
 have e1:=(show Bm0 N F (Amg c b a)=_ from (Au ..).trans (Bt5 N F c b a))
 have hK:Ac Tryz.prog muts (Aug N) Amd N 16 [(.pagg a b),(.int .i64 c)] [] F=(Bjx N (Of F) (Bm0 N F (Amg c b a)) a b c):=by kernel_rfl
 rw [Be0]
 exact hK.trans (by rw [e1];rfl)
def Afv (N:Nat) (args:List AV) (h:Al) (k:KF R):Option R :=
 match args,h with
 | [(.pagg a b),(.int .i64 c)],[]=>(Ajc N a b c (Of k))
 | _,_=>none
def Amh (N:Nat):Tw:=⟨Afv N,fun args h k=>by
 unfold Afv;split
 exact twE (A1e ..) (A1e ..)
 rfl⟩
theorem A1f (N:Nat):A0 Tryz.prog 16 (Amh N):=fun args h res d hh=>by
 change Afv N args h (fun v d=>some (v,d))=_ at hh
 unfold Afv at hh;split at hh
 exact Aa (T:=Aug N) ⟨Aou N,Abx N,A5s N,Bok N,trivial⟩ follows ((A1e ..).trans hh)
 cases hh
def Bbr (N:Nat) (r0:Bool→Option R)  (a:LA) (b:Bool) (c d:Int):Option R :=
 (cond (Nat.ble 3 (List.length a)) (Dt N c (fun f=>(Is N (List.take 3 a) b f false (fun g=>(cond ((decide (g≥(0:Int)))==true) (cond (Nat.ble 3 (List.length a)) (Dt N d (fun i=>(Is N (List.take 3 a) b i false (fun j=>(r0 (cond true (decide (j≤(0:Int))) false)))))) none) (r0 false)))))) none)
def Bbs (N:Nat) (a:LA) (b:Bool) (c d:Int) (r0:Bool→Option R):Option R:=(Bbr N r0 a b c d)
def Ag9:=(Aj (@Bbs R)).1
theorem A7h:@Ag9 R=@Bbs R:=(Aj _).2
def Be1:Hints:={ H:=(hS (hR [1,2,3]) (hS (hR [6]) hL)),nils:=[],modes:=[],free:=[],cob:=[] }
def A1g (N:Nat):List (Nat×Tw):=[(60,Rg N),(59,Aae N)]
def Auh  (F:KF R):Bool→Option R:=(fun l=>F (.bool l) [])
theorem Aui (N:Nat) (a:LA) (b:Bool) (c d:Int) (F:KF R):Ac Tryz.prog muts (A1g N) Be1 N 56 [(.pagg a b),(.int .i64 c),(.int .i64 d)] [] F=(Ag9 N a b c d (Auh F)):=by
 have hK:Ac Tryz.prog muts (A1g N) Be1 N 56 [(.pagg a b),(.int .i64 c),(.int .i64 d)] [] F=(Bbr N (Auh F) a b c d):=by kernel_rfl
 rw [A7h]
 exact hK
def Aat (N:Nat) (args:List AV) (h:Al) (k:KF R):Option R :=
 match args,h with
 | [(.pagg a b),(.int .i64 c),(.int .i64 d)],[]=>(Ag9 N a b c d (Auh k))
 | _,_=>none
def Auj (N:Nat):Tw:=⟨Aat N,fun args h k=>by
 unfold Aat;split
 exact twE (Aui ..) (Aui ..)
 rfl⟩
theorem Be2 (N:Nat):A0 Tryz.prog 56 (Auj N):=fun args h res e hh=>by
 change Aat N args h (fun v e=>some (v,e))=_ at hh
 unfold Aat at hh;split at hh
 exact Aa (T:=A1g N) ⟨Z4 N,Aoj N,trivial⟩ follows ((Aui ..).trans hh)
 cases hh
def Bjz (N:Nat) (r0:LA→Option R)  (b:Int) (a:LA) (c:Bool):Option R :=
 (Dt N b (fun f=>(cond (Nat.ble 3 (List.length a)) (Bja N f false (List.take 3 a) c (fun d=>(cond ((Nat.beq 0 0)&&((Nat.beq (List.length d) 3)&&(Nat.beq 3 3))) (cond (Nat.ble 3 (List.length d)) (r0 (List.take 3 d)) none) none))) none)))
def Bj0 (N:Nat) (b:Int) (a:LA) (c:Bool) (r0:LA→Option R):Option R:=(Bjz N r0 b a c)
def A1h:=(Aj (@Bj0 R)).1
theorem Be3:@A1h R=@Bj0 R:=(Aj _).2
def Bm2:Hints:={ H:=(hS (hR [0,3,4]) (hS (hR [4]) hL)),nils:=[],modes:=[(3,0)],free:=[],cob:=[] }
def Bbt (N:Nat):List (Nat×Tw):=[(60,Rg N),(82,Bzq N)]
def A1i  (F:KF R):LA→Option R:=(fun g=>F (.pagg g false) [])
theorem A1j (N:Nat) (b:Int) (a:LA) (c:Bool) (F:KF R):Ac Tryz.prog muts (Bbt N) Bm2 N 86 [(.int .i64 b),(.pagg a c)] [] F=(A1h N b a c (A1i F)):=by
 have hK:Ac Tryz.prog muts (Bbt N) Bm2 N 86 [(.int .i64 b),(.pagg a c)] [] F=(Bjz N (A1i F) b a c):=by kernel_rfl
 rw [Be3]
 exact hK
def Afw (N:Nat) (args:List AV) (h:Al) (k:KF R):Option R :=
 match args,h with
 | [(.int .i64 b),(.pagg a c)],[]=>(A1h N b a c (A1i k))
 | _,_=>none
def Bm3 (N:Nat):Tw:=⟨Afw N,fun args h k=>by
 unfold Afw;split
 exact twE (A1j ..) (A1j ..)
 rfl⟩
theorem B4f (N:Nat):A0 Tryz.prog 86 (Bm3 N):=fun args h res e hh=>by
 change Afw N args h (fun v e=>some (v,e))=_ at hh
 unfold Afw at hh;split at hh
 exact Aa (T:=Bbt N) ⟨Z4 N,B9e N,trivial⟩ follows ((A1j ..).trans hh)
 cases hh
def Lj (N:Nat)  (r0:LA→Option R) (e:LA) (g:Nat) (d:Bool) (k0:Int→Int→LA→LA→Option R)  (f b:Int) (c a:LA):Option R :=
 (cond (decide (b<f)) (cond (Ak b g) (cond (Nat.ble 2 (List.length (List.drop ((Int.toNat b)*2) e))) (cond ((!d)||(Bp (List.take 2 (List.drop ((Int.toNat b)*2) e)))) (cond ((Nat.beq (List.length (List.take 2 (List.drop ((Int.toNat b)*2) e))) 2)&&((Nat.ble 2 2)&&(!false))) (cond (Nat.ble 3 (List.length c)) (Afd N (List.take 3 c) false (fun u=>(cond (decide (u≤(0:Int))) (cond (Nat.ble 3 (List.length a)) (cond ((Nat.beq 0 0)&&((Nat.beq (List.length (List.take 3 a)) 3)&&(Nat.beq 3 3))) (cond (Nat.ble 3 (List.length (List.take 3 a))) (r0 (List.take 3 (List.take 3 a))) none) none) none) (cond (Nat.ble 3 (List.length c)) (rdI .i64 (setCells [(.int .i64 0),(.int .i64 0)] 0 (List.take 2 (List.drop ((Int.toNat b)*2) e))) fun w=>(Dt N w (fun x=>(Bi7 N (List.take 3 c) false x false (fun m=>(cond ((Nat.beq 0 0)&&((Nat.beq (List.length m) 3)&&(Nat.beq 3 3))) (cond (Nat.ble 3 (List.length a)) (rdI .i64 (List.drop 1 (setCells [(.int .i64 0),(.int .i64 0)] 0 (List.take 2 (List.drop ((Int.toNat b)*2) e)))) fun y=>(cond (Nat.ble 3 (List.length m)) (A1h N y (List.take 3 m) false (fun z=>(A0s N (List.take 3 a) false z false (fun o=>(cond ((Nat.beq (List.length o) 3)&&((Nat.ble 3 (List.length a))&&(!false))) (cond (Nat.ble 3 (List.length c)) (cond (Nat.ble 3 (List.length m)) (A0t N (List.take 3 c) false (List.take 3 m) false (fun p=>(cond ((Nat.beq (List.length p) 3)&&((Nat.ble 3 (List.length c))&&(!false))) (k0 f (IntKind.wrap .i64 (b+(1:Int))) (setCells c 0 p) (setCells a 0 o)) none))) none) none) none))))) none)) none) none)))))) none)))) none) none) none) none) none) (cond (Nat.ble 3 (List.length a)) (cond ((Nat.beq 0 0)&&((Nat.beq (List.length (List.take 3 a)) 3)&&(Nat.beq 3 3))) (cond (Nat.ble 3 (List.length (List.take 3 a))) (r0 (List.take 3 (List.take 3 a))) none) none) none))
def E9 (N:Nat)  (r0:LA→Option R) (e:LA) (g:Nat) (d:Bool):Nat→Int→Int→LA→LA→Option R
 | 0,_,_,_,_=>none
 | n+1,f,b,c,a=>(Lj N r0 e g d (E9 N r0 e g d n) f b c a)
def Acv (N:Nat) (r0:LA→Option R) (q0:LA→Nat→Int→Int→LA→LA→Option R) (i:LA) (d:Bool) (j:LA) (l:Bool):Option R :=
 (cond (Nat.ble 3 (List.length j)) (rdI .i64 (List.drop 2 i) fun aa=>(Dt N aa (fun ab=>(A0t N (List.take 3 j) l ab false (fun q=>(cond ((Nat.beq 0 0)&&((Nat.beq (List.length q) 3)&&(Nat.beq 3 3))) (Dt N 0 (fun r=>(cond ((Nat.beq 0 0)&&((Nat.beq (List.length r) 3)&&(Nat.beq 3 3))) (rdL 2 (List.drop 4 i) fun e g=>(q0 e g ((g:Nat):Int) 0 q r)) none))) none)))))) none)
def Acw (N:Nat) (i:LA) (d:Bool) (j:LA) (l:Bool) (r0:LA→Option R):Option R:=(Acv N r0 (fun e g f b c a=>(E9 N r0 e g d N f b c a)) i d j l)
def Og:=(Aj (@Acw R)).1
theorem Ajd:@Og R=@Acw R:=(Aj _).2
def Np:Hints:={ H:=(hS (hR [2,3,4]) (hS (hR [2,4,5]) (hS (hR [2,4,5,6]) (hS (hS (hR [4,5,6,17,18,19]) (hN [4,6] (hN [4,5,6,17,18,19] (hS (hR [4,5,6,17,18,19,20]) (hS (hN [4,5,6,17,18,19] hL hL) (hS (hN [4,5,6,17,18,19] (hS (hR [4,5,6,8,17,18,19]) (hS (hS (hR [4,5,6,8,17,18,19,25]) (hN [4,5,6,8,17,18,19] hL hL)) (hS (hR [4,5,6,8,9,17,18,19]) (hS (hR [4,5,6,9,17,18,19]) (hR [4,5,6,17,18,19]))))) hL) (hR [4,5,6,17,18,19])))) hL) hL)) (hS (hR [4]) hL))))),nils:=[],modes:=[(3,0)],free:=[],cob:=[] }
def Pv (N:Nat):List (Nat×Tw):=[(60,Rg N),(83,Bzk N),(95,Ast N),(96,Bzm N),(86,Bm3 N),(81,Bi4 N)]
def Pw (N:Nat):Env:=mkE 42 Np (Pv N)
def Bbu (N:Nat) (F:KF R):=Ar (Pw N) Tryz.f57 Np.modes [] F
def Ami (N:Nat) (F:KF R):=atF (Pw N) [] N Tryz.f57 Np (Bbu N F)
def Ia  (F:KF R):LA→Option R:=(fun ac=>F (.pagg ac false) [])
def Fa (e:LA) (g:Nat) (d:Bool) (f b:Int) (c a:LA):St:={ s:=[(4,(.optr 300000 0)),(5,(.optr 300001 0)),(6,(.optr 300002 0)),(17,(.imm e g 2 false d)),(18,(.int .i64 f)),(19,(.int .i64 b))],h:=[(300000,⟨false,false,false,false,0,[(.bool false),.nsl,.nsl],false⟩),(300001,⟨false,false,true,false,0,c,false⟩),(300002,⟨false,false,true,false,0,a,false⟩)] }
def Amj (N:Nat) (F:KF R):St→Option R:=A4 (Pw N) [] N (Ami N F [1,1,1,0,1,0] []) N
def Nq (N:Nat) (F:KF R) (n:Nat):St→Option R:=Av (Pw N) [] N (Ami N F [1,1,1,0,1,0] []) n
theorem A1k (N:Nat)  (F:KF R) (e:LA) (g:Nat) (d:Bool):∀ (n:Nat) (f b:Int) (c a:LA),Nq N F n (Fa e g d f b c a)=(E9 N (Ia F) e g d n f b c a):=by
 intro n
 induction n with
 | zero=>intros;kernel_rfl
 | succ n ih =>
  intro f b c a
  have e0:=funext fun f=>funext fun b=>funext fun c=>funext fun a=>(show Nq N F n (Fa e g d f b c a)=_ from ih f b c a)
  have hK:Nq N F (n+1) (Fa e g d f b c a)=(Lj N (Ia F) e g d (fun f b c a=>Nq N F n (Fa e g d f b c a)) f b c a):=by kernel_rfl
  exact hK.trans (by rw [e0];rfl)
theorem V7 (N:Nat) (i:LA) (d:Bool) (j:LA) (l:Bool) (F:KF R):Ac Tryz.prog muts (Pv N) Np N 57 [(.pagg i d),(.pagg j l)] [] F=(Og N i d j l (Ia F)):=by
 have e1:=funext fun e=>funext fun g=>funext fun f=>funext fun b=>funext fun c=>funext fun a=>(show Amj N F (Fa e g d f b c a)=_ from (An ..).trans (A1k N F e g d N f b c a))
 have hK:Ac Tryz.prog muts (Pv N) Np N 57 [(.pagg i d),(.pagg j l)] [] F=(Acv N (Ia F) (fun e g f b c a=>Amj N F (Fa e g d f b c a)) i d j l):=by kernel_rfl
 rw [Ajd]
 exact hK.trans (by rw [e1];rfl)
def Lk (N:Nat) (args:List AV) (h:Al) (k:KF R):Option R :=
 match args,h with
 | [(.pagg i d),(.pagg j l)],[]=>(Og N i d j l (Ia k))
 | _,_=>none
def Amk (N:Nat):Tw:=⟨Lk N,fun args h k=>by
 unfold Lk;split
 exact twE (V7 ..) (V7 ..)
 rfl⟩
theorem Be4 (N:Nat):A0 Tryz.prog 57 (Amk N):=fun args h res t hh=>by
 change Lk N args h (fun v t=>some (v,t))=_ at hh
 unfold Lk at hh;split at hh
 exact Aa (T:=Pv N) ⟨Z4 N,B9c N,A95 N,B9d N,B4f N,Bzi N,trivial⟩ follows ((V7 ..).trans hh)
 cases hh
def Acx (N:Nat) (r0:LA→Int→Option R)  (a:LA) (c:Bool) (b:LA) (d:Bool):Option R :=
 (cond (Nat.ble 22 (List.length a)) (Ajc N (List.take 22 a) c 24 (fun g=>(cond (!g) (r0 [(.bool false),.nsl,.nsl] 1) (cond (Nat.ble 3 (List.length b)) (rdI .i64 (List.drop 2 a) fun i=>(rdI .i64 (List.drop 3 a) fun j=>(Ag9 N (List.take 3 b) d i j (fun l=>(cond (!l) (r0 [(.bool false),.nsl,.nsl] 3) (cond (Nat.ble 22 (List.length a)) (cond (Nat.ble 3 (List.length b)) (Og N (List.take 22 a) c (List.take 3 b) d (fun e=>(cond ((Nat.beq 0 0)&&((Nat.beq (List.length e) 3)&&(Nat.beq 3 3))) (cond (Nat.ble 3 (List.length e)) (r0 (List.take 3 e) 0) none) none))) none) none)))))) none)))) none)
def Acy (N:Nat) (a:LA) (c:Bool) (b:LA) (d:Bool) (r0:LA→Int→Option R):Option R:=(Acx N r0 a c b d)
def E2:=(Aj (@Acy R)).1
theorem Aje:@E2 R=@Acy R:=(Aj _).2
def Aml:Hints:={ H:=(hS (hR [2,3,4]) (hS (hS (hR [2,3,4,8]) (hN [2,3,4] (hS (hR [4,5]) hL) hL)) (hS (hS (hR [2,3,4,16]) (hN [2,3,4] (hS (hR [4,5]) hL) hL)) (hS (hR [4,5]) hL)))),nils:=[],modes:=[(3,0),(0,0)],free:=[],cob:=[] }
def Y8 (N:Nat):List (Nat×Tw):=[(16,Amh N),(56,Auj N),(57,Amk N)]
def V8  (F:KF R):LA→Int→Option R:=(fun m n=>F (.tup [(.pagg m false),(.int .i64 n)]) [])
theorem V9 (N:Nat) (a:LA) (c:Bool) (b:LA) (d:Bool) (F:KF R):Ac Tryz.prog muts (Y8 N) Aml N 21 [(.pagg a c),(.pagg b d)] [] F=(E2 N a c b d (V8 F)):=by
 have hK:Ac Tryz.prog muts (Y8 N) Aml N 21 [(.pagg a c),(.pagg b d)] [] F=(Acx N (V8 F) a c b d):=by kernel_rfl
 rw [Aje]
 exact hK
def Ll (N:Nat) (args:List AV) (h:Al) (k:KF R):Option R :=
 match args,h with
 | [(.pagg a c),(.pagg b d)],[]=>(E2 N a c b d (V8 k))
 | _,_=>none
def Wa (N:Nat):Tw:=⟨Ll N,fun args h k=>by
 unfold Ll;split
 exact twE (V9 ..) (V9 ..)
 rfl⟩
theorem Amm (N:Nat):A0 Tryz.prog 21 (Wa N):=fun args h res f hh=>by
 change Ll N args h (fun v f=>some (v,f))=_ at hh
 unfold Ll at hh;split at hh
 exact Aa (T:=Y8 N) ⟨A1f N,Be2 N,Be4 N,trivial⟩ follows ((V9 ..).trans hh)
 cases hh
end
end Gx

namespace Gx
open Go Go.Proofs
set_option maxRecDepth 100000
noncomputable section
variable {R:Type}
def Acz (N:Nat) (k1:Bool→Bool→Int→Int→Int→LA→LA→Option R) (r0:LA→LA→Bool→Bool→Option R) (i:Bool) (q r:Int) (f:LA) (j:Nat) (c:Bool) (g d:Int) (b:Bool) (a e:LA)   (t:Bool) (u:Int) (w x:LA):Option R :=
 (cond ((decide (q≥(0:Int)))==true) (cond (cond true (decide (r<(0:Int))) false) (rdI .i64 (List.drop 1 x) fun ac=>(Dt N ac (fun z=>(cond ((Nat.beq (List.length z) 3)&&((Nat.ble 3 (List.length e))&&(!false))) (k1 t true u g (IntKind.wrap .i64 (d+(1:Int))) w (setCells e 0 z)) none)))) (k1 t i u g (IntKind.wrap .i64 (d+(1:Int))) w e)) (k1 t i u g (IntKind.wrap .i64 (d+(1:Int))) w e))
def Oh (N:Nat) (k1:Bool→Bool→Int→Int→Int→LA→LA→Option R) (r0:LA→LA→Bool→Bool→Option R) (i:Bool) (q r:Int) (f:LA) (j:Nat) (c:Bool) (g d:Int) (b:Bool) (a e:LA) (t:Bool) (u:Int) (w x:LA):Option R:=(Acz N k1 r0 i q r f j c g d b a e t u w x)
def Sj (N:Nat)  (r0:LA→LA→Bool→Bool→Option R) (f:LA) (j:Nat) (c b:Bool) (a:LA) (k1:Bool→Bool→Int→Int→Int→LA→LA→Option R) (q2:Int→Int→Bool→Int→LA→LA→Option R) (o i:Bool) (m g d:Int) (l e:LA):Option R :=
 (cond (decide (d<g)) (cond (Ak d j) (cond (Nat.ble 2 (List.length (List.drop ((Int.toNat d)*2) f))) (cond ((!c)||(Bp (List.take 2 (List.drop ((Int.toNat d)*2) f)))) (cond ((Nat.beq (List.length (List.take 2 (List.drop ((Int.toNat d)*2) f))) 2)&&((Nat.ble 2 2)&&(!false))) (rdI .i64 (setCells [(.int .i64 0),(.int .i64 0)] 0 (List.take 2 (List.drop ((Int.toNat d)*2) f))) fun y=>(cond (Nat.ble 3 (List.length a)) (Dt N m (fun ad=>(Is N (List.take 3 a) b ad false (fun q=>(cond (Nat.ble 3 (List.length a)) (Dt N (IntKind.wrap .i64 (m+y)) (fun ae=>(Is N (List.take 3 a) b ae false (fun r=>(cond ((decide (q>(0:Int)))==true) (cond (cond true (decide (r≤(0:Int))) false) (rdI .i64 (List.drop 1 (setCells [(.int .i64 0),(.int .i64 0)] 0 (List.take 2 (List.drop ((Int.toNat d)*2) f)))) fun af=>(Dt N af (fun aa=>(cond ((Nat.beq (List.length aa) 3)&&((Nat.ble 3 (List.length l))&&(!false))) (q2 q r true (IntKind.wrap .i64 (m+y)) (setCells l 0 aa) (setCells [(.int .i64 0),(.int .i64 0)] 0 (List.take 2 (List.drop ((Int.toNat d)*2) f)))) none)))) (q2 q r o (IntKind.wrap .i64 (m+y)) l (setCells [(.int .i64 0),(.int .i64 0)] 0 (List.take 2 (List.drop ((Int.toNat d)*2) f))))) (q2 q r o (IntKind.wrap .i64 (m+y)) l (setCells [(.int .i64 0),(.int .i64 0)] 0 (List.take 2 (List.drop ((Int.toNat d)*2) f))))))))) none))))) none)) none) none) none) none) (cond (Nat.ble 3 (List.length l)) (cond (Nat.ble 3 (List.length e)) (cond ((Nat.beq (List.length (List.take 3 l)) 3)&&((Nat.ble 3 (List.length l))&&(!false))) (cond ((Nat.beq (List.length (List.take 3 e)) 3)&&((Nat.ble 3 (List.length e))&&(!false))) (cond (Nat.ble 3 (List.length (setCells l 0 (List.take 3 l)))) (cond (Nat.ble 3 (List.length (setCells e 0 (List.take 3 e)))) (r0 (List.take 3 (setCells l 0 (List.take 3 l))) (List.take 3 (setCells e 0 (List.take 3 e))) o i) none) none) none) none) none) none))
def D4 (N:Nat)  (r0:LA→LA→Bool→Bool→Option R) (f:LA) (j:Nat) (c b:Bool) (a:LA):Nat→Bool→Bool→Int→Int→Int→LA→LA→Option R
 | 0,_,_,_,_,_,_,_=>none
 | n+1,o,i,m,g,d,l,e=>(Sj N r0 f j c b a (D4 N r0 f j c b a n) (fun q r t u w x=>(Oh N (D4 N r0 f j c b a n) r0 i q r f j c g d b a e t u w x)) o i m g d l e)
def Ac0 (N:Nat)  (r0:LA→LA→Bool→Bool→Option R) (c:Bool) (p:LA) (b:Bool) (a:LA)  (q1:LA→Nat→Bool→Bool→Int→Int→Int→LA→LA→Option R) :Option R :=
 (rdI .i64 (List.drop 2 p) fun ag=>(rdL 2 (List.drop 4 p) fun f j=>(q1 f j false false ag ((j:Nat):Int) 0 [(.bool false),.nsl,.nsl] [(.bool false),.nsl,.nsl])))
def Ajf (N:Nat)  (r0:LA→LA→Bool→Bool→Option R) (c:Bool) (p:LA) (b:Bool) (a:LA) :Option R:=(Ac0 N r0 c p b a (fun f j o i m g d l e=>(D4 N r0 f j c b a N o i m g d l e)))
def Auk (N:Nat) (r0:LA→LA→Bool→Bool→Option R) (q0:Option R) (p:LA) (c:Bool) (a:LA) (b:Bool):Option R :=
 (cond (Nat.ble 22 (List.length p)) (Ajc N (List.take 22 p) c 24 (fun ah=>(cond ((!ah)==false) (cond (Nat.ble 3 (List.length a)) (rdI .i64 (List.drop 2 p) fun ai=>(rdI .i64 (List.drop 3 p) fun aj=>(Ag9 N (List.take 3 a) b ai aj (fun ak=>(cond (cond false true (!ak)) (r0 [(.bool false),.nsl,.nsl] [(.bool false),.nsl,.nsl] false false) q0))))) none) (r0 [(.bool false),.nsl,.nsl] [(.bool false),.nsl,.nsl] false false)))) none)
def Aul (N:Nat) (p:LA) (c:Bool) (a:LA) (b:Bool) (r0:LA→LA→Bool→Bool→Option R):Option R:=(Auk N r0 (Ajf N r0 c p b a) p c a b)
def Uf:=(Aj (@Aul R)).1
theorem Axb:@Uf R=@Aul R:=(Aj _).2
def Wb:Hints:={ H:=(hS (hR [2,3,4,5,6,7]) (hJ (hS (hR [2,3,4,5,6,7,25]) (hN [2,3,4,5,6,7] (hS (hR [4,5,6,7]) hL) hL)) (hS (hR [2,3,4,5,6,7,8]) (hS (hS (hR [3,4,5,6,7,8,31,32,33]) (hN [4,5,6,7] (hN [3,4,5,6,7,8,31,32,33] (hS (hR [3,4,5,6,7,8,31,32,33,34]) (hS (hN [3,4,5,6,7,8,31,32,33] hL hL) (hS (hN [3,4,5,6,7,8,31,32,33] (hS (hR [3,4,5,6,7,8,10,31,32,33]) (hS (hR [3,4,5,6,7,8,10,11,31,32,33]) (hS (hR [3,4,5,6,7,10,11,12,31,32,33]) (hS (hR [3,4,5,6,7,10,11,12,13,31,32,33]) (hJ (hS (hR [3,4,5,6,7,10,11,12,13,31,32,33,54]) (hN [3,4,5,6,7,10,11,12,13,31,32,33] (hR [3,4,5,6,7,10,11,12,13,31,32,33]) hL)) (hS (hS (hR [3,4,5,6,7,10,11,31,32,33,63]) (hN [3,4,5,6,7,11,31,32,33] (hR [3,4,5,6,7,11,31,32,33]) hL)) (hR [3,4,5,6,7,8,31,32,33]))))))) hL) (hR [3,4,5,6,7,8,31,32,33])))) hL) hL)) (hS (hR [4,5,6,7]) hL))))),nils:=[],modes:=[(3,0),(3,0),(0,0),(0,0)],free:=[],cob:=[4,5,10] }
def Aau (N:Nat):List (Nat×Tw):=[(16,Amh N),(56,Auj N),(60,Rg N),(59,Aae N)]
def Gd (N:Nat):Env:=mkE 73 Wb (Aau N)
def Bol (N:Nat) (F:KF R):=Ar (Gd N) Tryz.f23 Wb.modes [] F
def Kc (N:Nat) (F:KF R):=atF (Gd N) [] N Tryz.f23 Wb (Bol N F)
def Cy  (F:KF R):LA→LA→Bool→Bool→Option R:=(fun al am an ao=>F (.tup [(.pagg al false),(.pagg am false),(.bool an),(.bool ao)]) [])
def Wc (i:Bool) (q r:Int) (f:LA) (j:Nat) (c:Bool) (g d:Int) (b:Bool) (a e:LA) (t:Bool) (u:Int) (w x:LA):St:={ s:=[(3,(.optr 300000 0)),(4,(.optr 300001 0)),(5,(.optr 300002 0)),(6,(.bool t)),(7,(.bool i)),(10,(.optr 300003 0)),(11,(.int .i64 u)),(12,(.int .i64 q)),(13,(.int .i64 r)),(31,(.imm f j 2 false c)),(32,(.int .i64 g)),(33,(.int .i64 d))],h:=[(300000,⟨false,false,true,b,0,a,false⟩),(300001,⟨false,false,true,false,0,w,false⟩),(300002,⟨false,false,true,false,0,e,false⟩),(300003,⟨false,false,true,false,0,x,false⟩)] }
def A1l (N:Nat) (F:KF R) (Q1:St→Option R):St→Option R:=Bh (Gd N) [] N (Kc N F [1,1,1,0,1,0,0,1,1,0,0,1,1,1,1,1] [Q1])
def A1m (N:Nat) (F:KF R) (Q1:St→Option R):St→Option R:=Bk (Gd N) [] N (Kc N F [1,1,1,0,1,0,0,1,1,0,0,1,1,1,1,1] [Q1])
def E3 (f:LA) (j:Nat) (c b:Bool) (a:LA) (o i:Bool) (m g d:Int) (l e:LA):St:={ s:=[(3,(.optr 300000 0)),(4,(.optr 300001 0)),(5,(.optr 300002 0)),(6,(.bool o)),(7,(.bool i)),(8,(.int .i64 m)),(31,(.imm f j 2 false c)),(32,(.int .i64 g)),(33,(.int .i64 d))],h:=[(300000,⟨false,false,true,b,0,a,false⟩),(300001,⟨false,false,true,false,0,l,false⟩),(300002,⟨false,false,true,false,0,e,false⟩)] }
def A1n (N:Nat) (F:KF R):St→Option R:=A4 (Gd N) [] N (Kc N F [1,1,1,0,1,0] []) N
def G8 (N:Nat) (F:KF R) (n:Nat):St→Option R:=Av (Gd N) [] N (Kc N F [1,1,1,0,1,0] []) n
def Wd (c:Bool) (p:LA) (b:Bool) (a:LA):St:={ s:=[(2,(.optr 300000 0)),(3,(.optr 300001 0)),(4,(.optr 300002 0)),(5,(.optr 300003 0)),(6,(.bool false)),(7,(.bool false))],h:=[(300000,⟨false,false,true,c,0,p,false⟩),(300001,⟨false,false,true,b,0,a,false⟩),(300002,⟨false,false,true,false,0,[(.bool false),.nsl,.nsl],false⟩),(300003,⟨false,false,true,false,0,[(.bool false),.nsl,.nsl],false⟩)] }
def A1o (N:Nat) (F:KF R):St→Option R:=Bh (Gd N) [] N (Kc N F [1,1] [])
def A1p (N:Nat) (F:KF R):St→Option R:=Bk (Gd N) [] N (Kc N F [1,1] [])
theorem Be5 (N:Nat) (Q1:St→Option R) (F:KF R) (i:Bool) (q r:Int) (f:LA) (j:Nat) (c:Bool) (g d:Int) (b:Bool) (a e:LA):∀ (t:Bool) (u:Int) (w x:LA),A1m N F Q1 (Wc i q r f j c g d b a e t u w x)=(Oh N (fun o i m g d l e=>Q1 (E3 f j c b a o i m g d l e)) (Cy F) i q r f j c g d b a e t u w x):=by
 intro t u w x
 have hK:A1m N F Q1 (Wc i q r f j c g d b a e t u w x)=(Acz N (fun o i m g d l e=>Q1 (E3 f j c b a o i m g d l e)) (Cy F) i q r f j c g d b a e t u w x):=by kernel_rfl
 exact hK
theorem Be6 (N:Nat)  (F:KF R) (f:LA) (j:Nat) (c b:Bool) (a:LA):∀ (n:Nat) (o i:Bool) (m g d:Int) (l e:LA),G8 N F n (E3 f j c b a o i m g d l e)=(D4 N (Cy F) f j c b a n o i m g d l e):=by
 intro n
 induction n with
 | zero=>intros;kernel_rfl
 | succ n ih =>
  intro o i m g d l e
  have e0:=funext fun o=>funext fun i=>funext fun m=>funext fun g=>funext fun d=>funext fun l=>funext fun e=>(show G8 N F n (E3 f j c b a o i m g d l e)=_ from ih o i m g d l e)
  have e1:(fun q r t u w x=>A1l N F (G8 N F n) (Wc i q r f j c g d b a e t u w x))=(fun q r t u w x=>(Oh N (D4 N (Cy F) f j c b a n) (Cy F) i q r f j c g d b a e t u w x)):=by funext q;funext r;funext t;funext u;funext w;funext x;exact ((Au ..).trans (Be5 N (G8 N F n) F i q r f j c g d b a e t u w x)).trans (by rw [e0])
  have hK:G8 N F (n+1) (E3 f j c b a o i m g d l e)=(Sj N (Cy F) f j c b a (fun o i m g d l e=>G8 N F n (E3 f j c b a o i m g d l e)) (fun q r t u w x=>A1l N F (G8 N F n) (Wc i q r f j c g d b a e t u w x)) o i m g d l e):=by kernel_rfl
  exact hK.trans (by rw [e0,e1];rfl)
theorem Be7 (N:Nat)  (F:KF R) (c:Bool) (p:LA) (b:Bool) (a:LA):A1p N F (Wd c p b a)=(Ajf N (Cy F) c p b a):=by
 have e1:=funext fun f=>funext fun j=>funext fun o=>funext fun i=>funext fun m=>funext fun g=>funext fun d=>funext fun l=>funext fun e=>(show A1n N F (E3 f j c b a o i m g d l e)=_ from (An ..).trans (Be6 N F f j c b a N o i m g d l e))
 have hK:A1p N F (Wd c p b a)=(Ac0 N (Cy F) c p b a (fun f j o i m g d l e=>A1n N F (E3 f j c b a o i m g d l e))):=by kernel_rfl
 exact hK.trans (by rw [e1];rfl)
theorem Ajg (N:Nat) (p:LA) (c:Bool) (a:LA) (b:Bool) (F:KF R):Ac Tryz.prog muts (Aau N) Wb N 23 [(.pagg p c),(.pagg a b)] [] F=(Uf N p c a b (Cy F)):=by
 have e1:=(show A1o N F (Wd c p b a)=_ from (Au ..).trans (Be7 N F c p b a))
 have hK:Ac Tryz.prog muts (Aau N) Wb N 23 [(.pagg p c),(.pagg a b)] [] F=(Auk N (Cy F) (A1o N F (Wd c p b a)) p c a b):=by kernel_rfl
 rw [Axb]
 exact hK.trans (by rw [e1];rfl)
def Sk (N:Nat) (args:List AV) (h:Al) (k:KF R):Option R :=
 match args,h with
 | [(.pagg p c),(.pagg a b)],[]=>(Uf N p c a b (Cy k))
 | _,_=>none
def Ajh (N:Nat):Tw:=⟨Sk N,fun args h k=>by
 unfold Sk;split
 exact twE (Ajg ..) (Ajg ..)
 rfl⟩
theorem A1q (N:Nat):A0 Tryz.prog 23 (Ajh N):=fun args h res ab hh=>by
 change Sk N args h (fun v ab=>some (v,ab))=_ at hh
 unfold Sk at hh;split at hh
 exact Aa (T:=Aau N) ⟨A1f N,Be2 N,Z4 N,Aoj N,trivial⟩ follows ((Ajg ..).trans hh)
 cases hh
def Bm4 (N:Nat)  (r0:LA→Option R) (f:LA) (e:Nat) (a:Bool) (k0:Int→Int→LA→Option R)  (c b:Int) (d:LA):Option R :=
 (cond (decide (b<c)) (cond (Ak b e) (rdI .i64 (List.drop ((Int.toNat b)*1) f) fun j=>(k0 c (IntKind.wrap .i64 (b+(1:Int))) (B8w d j))) none) (r0 d))
def Bbv (N:Nat)  (r0:LA→Option R) (f:LA) (e:Nat) (a:Bool):Nat→Int→Int→LA→Option R
 | 0,_,_,_=>none
 | n+1,c,b,d=>(Bm4 N r0 f e a (Bbv N r0 f e a n) c b d)
def B4g (N:Nat) (r0:LA→Option R) (q0:LA→Nat→Int→Int→LA→Option R) (g:LA) (a:Bool):Option R :=
 (rdL 1 (List.drop 18 g) fun f e=>(q0 f e ((e:Nat):Int) 0 []))
def B4h (N:Nat) (g:LA) (a:Bool) (r0:LA→Option R):Option R:=(B4g N r0 (fun f e c b d=>(Bbv N r0 f e a N c b d)) g a)
def Be8:=(Aj (@B4h R)).1
theorem Bm5:@Be8 R=@B4h R:=(Aj _).2
def Aum:Hints:={ H:=(hS (hR [1]) (hS (hR [1,3]) (hS (hS (hR [3,8,9,10]) (hN [3] (hN [3,8,9,10] (hS (hR [3,8,9,10,11]) (hS (hN [3,8,9,10] hL hL) (hS (hN [3,8,9,10] (hS (hR [3,5,8,9,10]) (hR [3,8,9,10])) hL) (hR [3,8,9,10])))) hL) hL)) (hS (hR [2]) hL)))),nils:=[],modes:=[],free:=[],cob:=[] }
def A42 (N:Nat):List (Nat×Tw):=[]
def A43 (N:Nat):Env:=mkE 18 Aum (A42 N)
def B4i (N:Nat) (F:KF R):=Ar (A43 N) Tryz.f117 Aum.modes [] F
def Bt6 (N:Nat) (F:KF R):=atF (A43 N) [] N Tryz.f117 Aum (B4i N F)
def Aji  (F:KF R):LA→Option R:=(fun l=>F (.omap 300000) [(300000,⟨false,false,true,false,0,l,true⟩)])
def Y9 (f:LA) (e:Nat) (a:Bool) (c b:Int) (d:LA):St:={ s:=[(3,(.omap 300000)),(8,(.imm f e 1 false a)),(9,(.int .i64 c)),(10,(.int .i64 b))],h:=[(300000,⟨false,false,true,false,0,d,true⟩)] }
def Bt7 (N:Nat) (F:KF R):St→Option R:=A4 (A43 N) [] N (Bt6 N F [1,1,0,1,0] []) N
def Aun (N:Nat) (F:KF R) (n:Nat):St→Option R:=Av (A43 N) [] N (Bt6 N F [1,1,0,1,0] []) n
theorem Bxh (N:Nat)  (F:KF R) (f:LA) (e:Nat) (a:Bool):∀ (n:Nat) (c b:Int) (d:LA),Aun N F n (Y9 f e a c b d)=(Bbv N (Aji F) f e a n c b d):=by
 intro n
 induction n with
 | zero=>intros;kernel_rfl
 | succ n ih =>
  intro c b d
  have e0:=funext fun c=>funext fun b=>funext fun d=>(show Aun N F n (Y9 f e a c b d)=_ from ih c b d)
  have hK:Aun N F (n+1) (Y9 f e a c b d)=(Bm4 N (Aji F) f e a (fun c b d=>Aun N F n (Y9 f e a c b d)) c b d):=by kernel_rfl
  exact hK.trans (by rw [e0];rfl)
theorem Bbw (N:Nat) (g:LA) (a:Bool) (F:KF R):Ac Tryz.prog muts (A42 N) Aum N 117 [(.pagg g a)] [] F=(Be8 N g a (Aji F)):=by
 have e1:=funext fun f=>funext fun e=>funext fun c=>funext fun b=>funext fun d=>(show Bt7 N F (Y9 f e a c b d)=_ from (An ..).trans (Bxh N F f e a N c b d))
 have hK:Ac Tryz.prog muts (A42 N) Aum N 117 [(.pagg g a)] [] F=(B4g N (Aji F) (fun f e c b d=>Bt7 N F (Y9 f e a c b d)) g a):=by kernel_rfl
 rw [Bm5]
 exact hK.trans (by rw [e1];rfl)
def Amn (N:Nat) (args:List AV) (h:Al) (k:KF R):Option R :=
 match args,h with
 | [(.pagg g a)],[]=>(Be8 N g a (Aji k))
 | _,_=>none
def Bt8 (N:Nat):Tw:=⟨Amn N,fun args h k=>by
 unfold Amn;split
 exact twE (Bbw ..) (Bbw ..)
 rfl⟩
theorem B6z (N:Nat):A0 Tryz.prog 117 (Bt8 N):=fun args h res i hh=>by
 change Amn N args h (fun v i=>some (v,i))=_ at hh
 unfold Amn at hh;split at hh
 exact Aa (T:=A42 N) trivial follows ((Bbw ..).trans hh)
 cases hh
def Bt9 (N:Nat) (r0:Int→Int→Option R)  (a:LA) (b:Bool):Option R :=
 (cond (Nat.ble 22 (List.length a)) (Ro N (List.take 22 a) b (fun d=>(cond (!d) (r0 0 0) (rdI .i64 (List.drop 11 a) fun e=>(rdI .i64 (List.drop 15 a) fun f=>(rdI .i64 (List.drop 10 a) fun g=>(r0 (Ahh (Ahh e (IntKind.wrap .i64 (f+(1:Int)))) (1:Int)) (Ahh g (1:Int))))))))) none)
def Bua (N:Nat) (a:LA) (b:Bool) (r0:Int→Int→Option R):Option R:=(Bt9 N r0 a b)
def Auo:=(Aj (@Bua R)).1
theorem Bm6:@Auo R=@Bua R:=(Aj _).2
def Bub:Hints:={ H:=(hS (hR [1]) (hS (hS (hR [1,6]) (hN [1] (hS (hR [2,3]) hL) hL)) (hS (hR [2,3]) hL))),nils:=[],modes:=[],free:=[],cob:=[] }
def Bj1 (N:Nat):List (Nat×Tw):=[(48,Ue N)]
def Bbx  (F:KF R):Int→Int→Option R:=(fun i j=>F (.tup [(.int .i64 i),(.int .i64 j)]) [])
theorem Bby (N:Nat) (a:LA) (b:Bool) (F:KF R):Ac Tryz.prog muts (Bj1 N) Bub N 136 [(.pagg a b)] [] F=(Auo N a b (Bbx F)):=by
 have hK:Ac Tryz.prog muts (Bj1 N) Bub N 136 [(.pagg a b)] [] F=(Bt9 N (Bbx F) a b):=by kernel_rfl
 rw [Bm6]
 exact hK
def Amo (N:Nat) (args:List AV) (h:Al) (k:KF R):Option R :=
 match args,h with
 | [(.pagg a b)],[]=>(Auo N a b (Bbx k))
 | _,_=>none
def Aup (N:Nat):Tw:=⟨Amo N,fun args h k=>by
 unfold Amo;split
 exact twE (Bby ..) (Bby ..)
 rfl⟩
theorem Bbz (N:Nat):A0 Tryz.prog 136 (Aup N):=fun args h res c hh=>by
 change Amo N args h (fun v c=>some (v,c))=_ at hh
 unfold Amo at hh;split at hh
 exact Aa (T:=Bj1 N) ⟨Abx N,trivial⟩ follows ((Bby ..).trans hh)
 cases hh
def A1r (N:Nat) (r0:LA→Option R)  (a:LA) (b:Bool):Option R :=
 (cond (Nat.ble 22 (List.length a)) (Ro N (List.take 22 a) b (fun f=>(cond (!f) (r0 [(.int .i64 0),(.int .i64 0)]) (cond (Nat.ble 22 (List.length a)) (Auo N (List.take 22 a) b (fun g i=>(rdI .i64 (List.drop 19 a) fun c=>(rdI .i64 (List.drop 20 a) fun d=>(cond (c==(0:Int)) (r0 [(.int .i64 c),(.int .i64 (Ut d g))]) (cond (c==(2:Int)) (r0 [(.int .i64 c),(.int .i64 (Ut d i))]) (r0 [(.int .i64 c),(.int .i64 d)]))))))) none)))) none)
def A1s (N:Nat) (a:LA) (b:Bool) (r0:LA→Option R):Option R:=(A1r N r0 a b)
def Ajj:=(Aj (@A1s R)).1
theorem A1t:@Ajj R=@A1s R:=(Aj _).2
def A7i:Hints:={ H:=(hS (hR [1,2]) (hS (hS (hR [1,2,8]) (hN [1,2] (hS (hR [2]) hL) hL)) (hS (hR [1,2,3,4]) (hS (hR [2,3,4,5]) (hS (hS (hR [2,3,4,5,21]) (hN [2,5] (hS (hR [2,3,4,5,21,22]) (hN [2,5] (hR [2,5]) (hS (hR [2,4,5,29]) (hN [2,5] (hR [2,5]) hL)))) hL)) (hS (hR [2]) hL)))))),nils:=[],modes:=[(3,0)],free:=[],cob:=[] }
def Auq (N:Nat):List (Nat×Tw):=[(48,Ue N),(136,Aup N)]
def Aox  (F:KF R):LA→Option R:=(fun j=>F (.pagg j false) [])
theorem Aoy (N:Nat) (a:LA) (b:Bool) (F:KF R):Ac Tryz.prog muts (Auq N) A7i N 84 [(.pagg a b)] [] F=(Ajj N a b (Aox F)):=by
 have hK:Ac Tryz.prog muts (Auq N) A7i N 84 [(.pagg a b)] [] F=(A1r N (Aox F) a b):=by kernel_rfl
 rw [A1t]
 exact hK
def We (N:Nat) (args:List AV) (h:Al) (k:KF R):Option R :=
 match args,h with
 | [(.pagg a b)],[]=>(Ajj N a b (Aox k))
 | _,_=>none
def A7j (N:Nat):Tw:=⟨We N,fun args h k=>by
 unfold We;split
 exact twE (Aoy ..) (Aoy ..)
 rfl⟩
theorem Bxi (N:Nat):A0 Tryz.prog 84 (A7j N):=fun args h res e hh=>by
 change We N args h (fun v e=>some (v,e))=_ at hh
 unfold We at hh;split at hh
 exact Aa (T:=Auq N) ⟨Abx N,Bbz N,trivial⟩ follows ((Aoy ..).trans hh)
 cases hh
def Axc (N:Nat)  (r0:Int→Option R) (e f:Int) (c:Bool) (b:LA) (d:Bool) (a:LA)   (g:Bool):Option R :=
 (cond g (rdI .i64 (List.drop 1 a) fun l=>(r0 (IntKind.wrap .i64 ((IntKind.wrap .i64 (e+l)) - (1:Int))))) (rdI .i64 a fun m=>(cond ((m==(2:Int))==true) (rdI .i64 (List.drop 1 a) fun n=>(cond (cond true (decide (n≤f)) false) (rdI .i64 (List.drop 12 b) fun o=>(rdI .i64 (List.drop 1 a) fun p=>(r0 (IntKind.wrap .i64 ((IntKind.wrap .i64 ((IntKind.wrap .i64 (e+o))+p)) - (1:Int)))))) (r0 (-1)))) (r0 (-1)))))
def A1u (N:Nat)  (r0:Int→Option R) (e f:Int) (c:Bool) (b:LA) (d:Bool) (a:LA) (g:Bool):Option R:=(Axc N r0 e f c b d a g)
def Axd (N:Nat)  (r0:Int→Option R) (e f:Int) (c:Bool) (b:LA) (d:Bool) (a:LA)  (q2:Bool→Option R) (i:Bool):Option R :=
 (cond i (rdI .i64 (List.drop 1 a) fun q=>(r0 (IntKind.wrap .i64 (q - (1:Int))))) (rdI .i64 a fun r=>(cond ((r==(1:Int))==true) (rdI .i64 (List.drop 1 a) fun t=>(rdI .i64 (List.drop 12 b) fun u=>(q2 (cond true (decide (t≤u)) false)))) (q2 false))))
def A1v (N:Nat)  (r0:Int→Option R) (e f:Int) (c:Bool) (b:LA) (d:Bool) (a:LA) (i:Bool):Option R:=(Axd N r0 e f c b d a (fun g=>(A1u N r0 e f c b d a g)) i)
def Ac1 (N:Nat)  (r0:Int→Option R) (c:Bool) (b:LA) (d:Bool) (a:LA)  (q1:Int→Int→Bool→Option R) :Option R :=
 (cond (Nat.ble 22 (List.length b)) (Auo N (List.take 22 b) c (fun e f=>(rdI .i64 a fun w=>(cond ((w==(0:Int))==true) (rdI .i64 (List.drop 1 a) fun x=>(q1 e f (cond true (decide (x≤e)) false))) (q1 e f false))))) none)
def Ajk (N:Nat)  (r0:Int→Option R) (c:Bool) (b:LA) (d:Bool) (a:LA) :Option R:=(Ac1 N r0 c b d a (fun e f i=>(A1v N r0 e f c b d a i)))
def Aur (N:Nat) (r0:Int→Option R) (q0:Option R) (b:LA) (c:Bool) (a:LA) (d:Bool):Option R :=
 (cond (Nat.ble 22 (List.length b)) (Ro N (List.take 22 b) c (fun y=>(cond ((!y)==false) (rdI .i64 (List.drop 1 a) fun z=>(cond (cond false true (decide (z<(1:Int)))) (r0 (-1)) q0)) (r0 (-1))))) none)
def Aus (N:Nat) (b:LA) (c:Bool) (a:LA) (d:Bool) (r0:Int→Option R):Option R:=(Aur N r0 (Ajk N r0 c b d a) b c a d)
def Abz:=(Aj (@Aus R)).1
theorem Axe:@Abz R=@Aus R:=(Aj _).2
def Wf:Hints:={ H:=(hS (hR [2,3]) (hJ (hS (hR [2,3,14]) (hN [2,3] (hS (hR [4]) hL) hL)) (hS (hR [2,3,5,6]) (hS (hS (hJ (hR [2,3,5,6,20]) (hS (hS (hR [4]) hL) (hJ (hR [2,3,5,6,33]) (hS (hS (hR [4]) hL) (hS (hR [2,3,5,49]) (hS (hS (hR [4]) hL) hL)))))) hL) (hS (hR [4]) hL))))),nils:=[],modes:=[],free:=[],cob:=[] }
def Aav (N:Nat):List (Nat×Tw):=[(48,Ue N),(136,Aup N)]
def Ge (N:Nat):Env:=mkE 67 Wf (Aav N)
def Bom (N:Nat) (F:KF R):=Ar (Ge N) Tryz.f167 Wf.modes [] F
def Kd (N:Nat) (F:KF R):=atF (Ge N) [] N Tryz.f167 Wf (Bom N F)
def D5  (F:KF R):Int→Option R:=(fun aa=>F (.int .i64 aa) [])
def Wg (e f:Int) (c:Bool) (b:LA) (d:Bool) (a:LA) (g:Bool):St:={ s:=[(2,(.optr 300000 0)),(3,(.optr 300001 0)),(5,(.int .i64 e)),(6,(.int .i64 f)),(33,(.bool g))],h:=[(300000,⟨false,false,true,c,0,b,false⟩),(300001,⟨false,false,true,d,0,a,false⟩)] }
def A1w (N:Nat) (F:KF R):St→Option R:=Bh (Ge N) [] N (Kd N F [1,1,1,0,0,1,1,1] [])
def A1x (N:Nat) (F:KF R):St→Option R:=Bk (Ge N) [] N (Kd N F [1,1,1,0,0,1,1,1] [])
def Wh (e f:Int) (c:Bool) (b:LA) (d:Bool) (a:LA) (i:Bool):St:={ s:=[(2,(.optr 300000 0)),(3,(.optr 300001 0)),(5,(.int .i64 e)),(6,(.int .i64 f)),(20,(.bool i))],h:=[(300000,⟨false,false,true,c,0,b,false⟩),(300001,⟨false,false,true,d,0,a,false⟩)] }
def A1y (N:Nat) (F:KF R):St→Option R:=Bh (Ge N) [] N (Kd N F [1,1,1,0,0,1] [])
def A1z (N:Nat) (F:KF R):St→Option R:=Bk (Ge N) [] N (Kd N F [1,1,1,0,0,1] [])
def Wi (c:Bool) (b:LA) (d:Bool) (a:LA):St:={ s:=[(2,(.optr 300000 0)),(3,(.optr 300001 0))],h:=[(300000,⟨false,false,true,c,0,b,false⟩),(300001,⟨false,false,true,d,0,a,false⟩)] }
def A10 (N:Nat) (F:KF R):St→Option R:=Bh (Ge N) [] N (Kd N F [1,1] [])
def A11 (N:Nat) (F:KF R):St→Option R:=Bk (Ge N) [] N (Kd N F [1,1] [])
theorem Be9 (N:Nat)  (F:KF R) (e f:Int) (c:Bool) (b:LA) (d:Bool) (a:LA):∀ (g:Bool),A1x N F (Wg e f c b d a g)=(A1u N (D5 F) e f c b d a g):=by
 intro g
 have hK:A1x N F (Wg e f c b d a g)=(Axc N (D5 F) e f c b d a g):=by kernel_rfl
 exact hK
theorem Bfa (N:Nat)  (F:KF R) (e f:Int) (c:Bool) (b:LA) (d:Bool) (a:LA):∀ (i:Bool),A1z N F (Wh e f c b d a i)=(A1v N (D5 F) e f c b d a i):=by
 intro i
 have e1:=funext fun g=>(show A1w N F (Wg e f c b d a g)=_ from (Au ..).trans (Be9 N F e f c b d a g))
 have hK:A1z N F (Wh e f c b d a i)=(Axd N (D5 F) e f c b d a (fun g=>A1w N F (Wg e f c b d a g)) i):=by kernel_rfl
 exact hK.trans (by rw [e1];rfl)
theorem Bfb (N:Nat)  (F:KF R) (c:Bool) (b:LA) (d:Bool) (a:LA):A11 N F (Wi c b d a)=(Ajk N (D5 F) c b d a):=by
 have e1:=funext fun e=>funext fun f=>funext fun i=>(show A1y N F (Wh e f c b d a i)=_ from (Au ..).trans (Bfa N F e f c b d a i))
 have hK:A11 N F (Wi c b d a)=(Ac1 N (D5 F) c b d a (fun e f i=>A1y N F (Wh e f c b d a i))):=by kernel_rfl
 exact hK.trans (by rw [e1];rfl)
theorem Ajl (N:Nat) (b:LA) (c:Bool) (a:LA) (d:Bool) (F:KF R):Ac Tryz.prog muts (Aav N) Wf N 167 [(.pagg b c),(.pagg a d)] [] F=(Abz N b c a d (D5 F)):=by
 have e1:=(show A10 N F (Wi c b d a)=_ from (Au ..).trans (Bfb N F c b d a))
 have hK:Ac Tryz.prog muts (Aav N) Wf N 167 [(.pagg b c),(.pagg a d)] [] F=(Aur N (D5 F) (A10 N F (Wi c b d a)) b c a d):=by kernel_rfl
 rw [Axe]
 exact hK.trans (by rw [e1];rfl)
def Sm (N:Nat) (args:List AV) (h:Al) (k:KF R):Option R :=
 match args,h with
 | [(.pagg b c),(.pagg a d)],[]=>(Abz N b c a d (D5 k))
 | _,_=>none
def A12 (N:Nat):Tw:=⟨Sm N,fun args h k=>by
 unfold Sm;split
 exact twE (Ajl ..) (Ajl ..)
 rfl⟩
theorem Buc (N:Nat):A0 Tryz.prog 167 (A12 N):=fun args h res j hh=>by
 change Sm N args h (fun v j=>some (v,j))=_ at hh
 unfold Sm at hh;split at hh
 exact Aa (T:=Aav N) ⟨Abx N,Bbz N,trivial⟩ follows ((Ajl ..).trans hh)
 cases hh
def Bm7 (N:Nat)  (r0:LA→Nat→Option R) (c:Bool) (b:LA) (d:Bool) (a:LA)   (f:Bool) (e:LA):Option R :=
 (cond f (r0 (List.take 4 ((List.take 2 e)++[(.int .i64 1),(.int .i64 1)])) 2) (rdI .i64 (List.drop 1 a) fun n=>(rdI .i64 (List.drop 11 b) fun o=>(cond (decide (n≥o)) (r0 (List.take 4 ((List.take 2 e)++[(.int .i64 2),(.int .i64 1)])) 2) (r0 (List.take 2 e) 1)))))
def Bud (N:Nat)  (r0:LA→Nat→Option R) (c:Bool) (b:LA) (d:Bool) (a:LA) (f:Bool) (e:LA):Option R:=(Bm7 N r0 c b d a f e)
def Bue (N:Nat) (r0:LA→Nat→Option R) (q0:Bool→LA→Option R) (b:LA) (c:Bool) (a:LA) (d:Bool):Option R :=
 (cond (Nat.ble 22 (List.length b)) (cond (Nat.ble 2 (List.length a)) (cond ((!d)||(Bp (List.take 2 a))) (Abz N (List.take 22 b) c (List.take 2 a) false (fun p=>(cond (decide (p<(0:Int))) (r0 [] 0) (cond (Nat.ble 22 (List.length b)) (Auo N (List.take 22 b) c (fun i j=>(rdI .i64 a fun g=>(cond (g==(0:Int)) (rdI .i64 (List.drop 1 a) fun l=>(rdI .i64 (List.drop 1 a) fun q=>(rdI .i64 (List.drop 11 b) fun r=>(cond ((decide (q≥r))==true) (rdI .i64 (List.drop 12 b) fun t=>(q0 (cond true (decide (t>(0:Int))) false) [(.int .i64 0),(.int .i64 (Ut (IntKind.wrap .i64 (l+(1:Int))) i))])) (q0 false [(.int .i64 0),(.int .i64 (Ut (IntKind.wrap .i64 (l+(1:Int))) i))]))))) (cond (g==(1:Int)) (rdI .i64 (List.drop 1 a) fun u=>(rdI .i64 (List.drop 12 b) fun w=>(cond (decide (u<w)) (rdI .i64 (List.drop 1 a) fun x=>(r0 [(.int .i64 1),(.int .i64 (IntKind.wrap .i64 (x+(1:Int))))] 1)) (r0 [(.int .i64 2),(.int .i64 1)] 1)))) (cond (g==(2:Int)) (rdI .i64 (List.drop 1 a) fun y=>(rdI .i64 (List.drop 10 b) fun z=>(cond (decide (y≥z)) (rdI .i64 (List.drop 1 a) fun aa=>(r0 [(.int .i64 0),(.int .i64 1),(.int .i64 2),(.int .i64 (Ut (IntKind.wrap .i64 (aa+(1:Int))) j))] 2)) (rdI .i64 (List.drop 1 a) fun ab=>(r0 [(.int .i64 2),(.int .i64 (Ut (IntKind.wrap .i64 (ab+(1:Int))) j))] 1))))) (r0 [] 0))))))) none)))) none) none) none)
def Buf (N:Nat) (b:LA) (c:Bool) (a:LA) (d:Bool) (r0:LA→Nat→Option R):Option R:=(Bue N r0 (fun f e=>(Bud N r0 c b d a f e)) b c a d)
def Amp:=(Aj (@Buf R)).1
theorem Bm8:@Amp R=@Buf R:=(Aj _).2
def Aut:Hints:={ H:=(hS (hR [2,3]) (hS (hS (hR [2,3,11]) (hN [2,3] (hS (hR [4]) hL) hL)) (hS (hR [2,3,5,6]) (hS (hR [2,3,5,6,7]) (hS (hS (hR [2,3,5,6,7,18]) (hN [7] (hS (hR [2,3,5,6,7,18,19]) (hN [7] (hS (hR [2,3,7]) (hJ (hR [2,3,7,39]) (hN [7] (hR [7]) (hS (hR [7,48]) (hN [7] (hR [7]) hL))))) (hS (hR [2,3,6,7,18,53]) (hN [7] (hS (hR [3,7,59]) (hN [7] (hR [7]) (hR [7]))) (hS (hR [2,3,6,7,71]) (hN [7] (hS (hS (hR [3,6,7,77]) (hN [3,6,7] (hR [3,6,7]) hL)) (hR [7])) hL)))))) hL)) (hS (hR [4]) hL)))))),nils:=[(4,2),(7,2)],modes:=[(1,2)],free:=[],cob:=[] }
def A44 (N:Nat):List (Nat×Tw):=[(167,A12 N),(136,Aup N)]
def A45 (N:Nat):Env:=mkE 92 Aut (A44 N)
def B4j (N:Nat) (F:KF R):=Ar (A45 N) Tryz.f118 Aut.modes [] F
def Bug (N:Nat) (F:KF R):=atF (A45 N) [] N Tryz.f118 Aut (B4j N F)
def Ajm  (F:KF R):LA→Nat→Option R:=(fun ac ad=>F (.imm ac ad 2 false false) [])
def Auu (c:Bool) (b:LA) (d:Bool) (a:LA) (f:Bool) (e:LA):St:={ s:=[(2,(.optr 300000 0)),(3,(.optr 300001 0)),(7,(.own 464 0 1)),(39,(.bool f))],h:=[(464,⟨false,false,true,false,2,e,false⟩),(300000,⟨false,false,true,c,0,b,false⟩),(300001,⟨false,false,true,d,0,a,false⟩)] }
def Buh (N:Nat) (F:KF R):St→Option R:=Bh (A45 N) [] N (Bug N F [1,1,1,1,0,1,0,1,0,1,1] [])
def Bui (N:Nat) (F:KF R):St→Option R:=Bk (A45 N) [] N (Bug N F [1,1,1,1,0,1,0,1,0,1,1] [])
theorem Bxj (N:Nat)  (F:KF R) (c:Bool) (b:LA) (d:Bool) (a:LA):∀ (f:Bool) (e:LA),Bui N F (Auu c b d a f e)=(Bud N (Ajm F) c b d a f e):=by
 intro f e
 have hK:Bui N F (Auu c b d a f e)=(Bm7 N (Ajm F) c b d a f e):=by kernel_rfl
 exact hK
theorem Bb0 (N:Nat) (b:LA) (c:Bool) (a:LA) (d:Bool) (F:KF R):Ac Tryz.prog muts (A44 N) Aut N 118 [(.pagg b c),(.pagg a d)] [] F=(Amp N b c a d (Ajm F)):=by
 have e1:=funext fun f=>funext fun e=>(show Buh N F (Auu c b d a f e)=_ from (Au ..).trans (Bxj N F c b d a f e))
 have hK:Ac Tryz.prog muts (A44 N) Aut N 118 [(.pagg b c),(.pagg a d)] [] F=(Bue N (Ajm F) (fun f e=>Buh N F (Auu c b d a f e)) b c a d):=by kernel_rfl
 rw [Bm8]
 exact hK.trans (by rw [e1];rfl)
def Amq (N:Nat) (args:List AV) (h:Al) (k:KF R):Option R :=
 match args,h with
 | [(.pagg b c),(.pagg a d)],[]=>(Amp N b c a d (Ajm k))
 | _,_=>none
def Buj (N:Nat):Tw:=⟨Amq N,fun args h k=>by
 unfold Amq;split
 exact twE (Bb0 ..) (Bb0 ..)
 rfl⟩
theorem B60 (N:Nat):A0 Tryz.prog 118 (Buj N):=fun args h res m hh=>by
 change Amq N args h (fun v m=>some (v,m))=_ at hh
 unfold Amq at hh;split at hh
 exact Aa (T:=A44 N) ⟨Buc N,Bbz N,trivial⟩ follows ((Bb0 ..).trans hh)
 cases hh
def Bm9 (N:Nat) (r0:Bool→Option R)  (b:LA) (c:Bool) (a:Int):Option R :=
 (rdI .i64 b fun e=>(r0 (e==a)))
def Bna (N:Nat) (b:LA) (c:Bool) (a:Int) (r0:Bool→Option R):Option R:=(Bm9 N r0 b c a)
def Oi:=(Aj (@Bna R)).1
theorem A13:@Oi R=@Bna R:=(Aj _).2
def A7k:Hints:={ H:=(hS (hR [1,2]) (hS (hR [3]) hL)),nils:=[],modes:=[],free:=[],cob:=[] }
def Auv (N:Nat):List (Nat×Tw):=[]
def Aoz (a:Int) (F:KF R):Bool→Option R:=(fun f=>F (.bool f) [(100000,⟨false,false,false,false,0,[(.int .i64 a)],false⟩)])
theorem Ao0 (N:Nat) (b:LA) (c:Bool) (a:Int) (F:KF R):Ac Tryz.prog muts (Auv N) A7k N 120 [(.pagg b c),(.optr 100000 0)] [(100000,⟨false,false,false,false,0,[(.int .i64 a)],false⟩)] F=(Oi N b c a (Aoz a F)):=by
 have hK:Ac Tryz.prog muts (Auv N) A7k N 120 [(.pagg b c),(.optr 100000 0)] [(100000,⟨false,false,false,false,0,[(.int .i64 a)],false⟩)] F=(Bm9 N (Aoz a F) b c a):=by kernel_rfl
 rw [A13]
 exact hK
def Wj (N:Nat) (args:List AV) (h:Al) (k:KF R):Option R :=
 match args,h with
 | [(.pagg b c),(.optr 100000 0)],[(100000,⟨false,false,false,false,0,[(.int .i64 a)],false⟩)]=>(Oi N b c a (Aoz a k))
 | _,_=>none
def A7l (N:Nat):Tw:=⟨Wj N,fun args h k=>by
 unfold Wj;split
 exact twE (Ao0 ..) (Ao0 ..)
 rfl⟩
theorem Bxk (N:Nat):A0 Tryz.prog 120 (A7l N):=fun args h res d hh=>by
 change Wj N args h (fun v d=>some (v,d))=_ at hh
 unfold Wj at hh;split at hh
 exact Aa (T:=Auv N) trivial follows ((Ao0 ..).trans hh)
 cases hh
end
end Gx

namespace Gx
open Go Go.Proofs
set_option maxRecDepth 100000
noncomputable section
variable {R:Type}
def C5 (N:Nat)  (r0:Int→Option R) (b:LA) (d:Nat) (f e:Bool) (a:Int) (k0:Int→Int→Option R)  (g c:Int):Option R :=
 (cond (decide (c<g)) (cond (Ak c d) (cond (Nat.ble 2 (List.length (List.drop ((Int.toNat c)*2) b))) (cond ((!e)||(Bp (List.take 2 (List.drop ((Int.toNat c)*2) b)))) (Oi N (List.take 2 (List.drop ((Int.toNat c)*2) b)) false a (fun j=>(cond j (r0 c) (k0 g (IntKind.wrap .i64 (c+(1:Int))))))) none) none) none) (r0 (-1)))
def Bw (N:Nat)  (r0:Int→Option R) (b:LA) (d:Nat) (f e:Bool) (a:Int):Nat→Int→Int→Option R
 | 0,_,_=>none
 | n+1,g,c=>(C5 N r0 b d f e a (Bw N r0 b d f e a n) g c)
def Dp (N:Nat) (r0:Int→Option R) (q0:Int→Int→Option R) (b:LA) (d:Nat) (f e:Bool) (a:Int):Option R :=
 (q0 ((d:Nat):Int) 0)
def Dq (N:Nat) (b:LA) (d:Nat) (f e:Bool) (a:Int) (r0:Int→Option R):Option R:=(Dp N r0 (fun g c=>(Bw N r0 b d f e a N g c)) b d f e a)
def Aq:=(Aj (@Dq R)).1
theorem Bt:@Aq R=@Dq R:=(Aj _).2
def A7:Hints:={ H:=(hS (hR [0,1]) (hS (hS (hR [0,1,7,8]) (hS (hN [0,1,7,8] (hS (hR [0,1,7,8,9]) (hS (hN [0,1,7,8] hL hL) (hS (hN [0,1,7,8] (hS (hR [0,1,5,7,8]) (hS (hR [0,1,5,7,8,16]) (hN [0,1,7,8] (hS (hR [4]) hL) hL))) hL) (hR [0,1,7,8])))) hL) hL)) (hS (hR [4]) hL))),nils:=[],modes:=[],free:=[],cob:=[] }
def Ba (N:Nat):List (Nat×Tw):=[(120,A7l N)]
def Bb (N:Nat):Env:=mkE 19 A7 (Ba N)
def Ho (N:Nat) (F:KF R):=Ar (Bb N) Tryz.f119 A7.modes [100000] F
def C8 (N:Nat) (F:KF R):=atF (Bb N) [100000] N Tryz.f119 A7 (Ho N F)
def A2 (a:Int) (F:KF R):Int→Option R:=(fun l=>F (.int .i64 l) [(100000,⟨false,false,false,false,0,[(.int .i64 a)],false⟩)])
def Ax (b:LA) (d:Nat) (f e:Bool) (a g c:Int):St:={ s:=[(0,(.imm b d 2 f e)),(1,(.fn 120 [(.optr 100000 0)])),(7,(.int .i64 g)),(8,(.int .i64 c))],h:=[(100000,⟨false,false,false,false,0,[(.int .i64 a)],false⟩)] }
def C9 (N:Nat) (F:KF R):St→Option R:=A4 (Bb N) [100000] N (C8 N F [1,0,1,0] []) N
def A8 (N:Nat) (F:KF R) (n:Nat):St→Option R:=Av (Bb N) [100000] N (C8 N F [1,0,1,0] []) n
theorem Gr (N:Nat)  (F:KF R) (b:LA) (d:Nat) (f e:Bool) (a:Int):∀ (n:Nat) (g c:Int),A8 N F n (Ax b d f e a g c)=(Bw N (A2 a F) b d f e a n g c):=by
 intro n
 induction n with
 | zero=>intros;kernel_rfl
 | succ n ih =>
  intro g c
  have e0:=funext fun g=>funext fun c=>(show A8 N F n (Ax b d f e a g c)=_ from ih g c)
  have hK:A8 N F (n+1) (Ax b d f e a g c)=(C5 N (A2 a F) b d f e a (fun g c=>A8 N F n (Ax b d f e a g c)) g c):=by kernel_rfl
  exact hK.trans (by rw [e0];rfl)
theorem Bx (N:Nat) (b:LA) (d:Nat) (f e:Bool) (a:Int) (F:KF R):Ac Tryz.prog muts (Ba N) A7 N 119 [(.imm b d 2 f e),(.fn 120 [(.optr 100000 0)])] [(100000,⟨false,false,false,false,0,[(.int .i64 a)],false⟩)] F=(Aq N b d f e a (A2 a F)):=by
 have e1:=funext fun g=>funext fun c=>(show C9 N F (Ax b d f e a g c)=_ from (An ..).trans (Gr N F b d f e a N g c))
 have hK:Ac Tryz.prog muts (Ba N) A7 N 119 [(.imm b d 2 f e),(.fn 120 [(.optr 100000 0)])] [(100000,⟨false,false,false,false,0,[(.int .i64 a)],false⟩)] F=(Dp N (A2 a F) (fun g c=>C9 N F (Ax b d f e a g c)) b d f e a):=by kernel_rfl
 rw [Bt]
 exact hK.trans (by rw [e1];rfl)
def A5 (N:Nat) (args:List AV) (h:Al) (k:KF R):Option R :=
 match args,h with
 | [(.imm b d 2 f e),(.fn 120 [(.optr 100000 0)])],[(100000,⟨false,false,false,false,0,[(.int .i64 a)],false⟩)]=>(Aq N b d f e a (A2 a k))
 | _,_=>none
def Da (N:Nat):Tw:=⟨A5 N,fun args h k=>by
 unfold A5;split
 exact twE (Bx ..) (Bx ..)
 rfl⟩
theorem Hs (N:Nat):A0 Tryz.prog 119 (Da N):=fun args h res i hh=>by
 change A5 N args h (fun v i=>some (v,i))=_ at hh
 unfold A5 at hh;split at hh
 exact Aa (T:=Ba N) ⟨Bxk N,trivial⟩ follows ((Bx ..).trans hh)
 cases hh
def Bnb (N:Nat)  (r0:Nat→Int→Int→LA→Option R) (g:LA) (c:Nat) (i j e:Bool) (a o:LA) (k0:Nat→Int→Int→LA→LA→Option R)  (d:Nat) (l f:Int) (m b:LA):Option R :=
 (cond (decide (f<l)) (cond (Ak f c) (rdI .i64 (List.drop ((Int.toNat f)*1) g) fun t=>(cond (Nat.ble 22 (List.length a)) (cond (Nat.ble 2 (List.length b)) (Amp N (List.take 22 a) e (List.take 2 b) false (fun q r=>(Aq N q r false false t (fun p=>(cond ((decide (p<(0:Int)))==false) (cond ((t != (0:Int))==true) (cond (cond false true (cond true (Bob o f) false)) (r0 0 f 16 []) (cond (Ak p r) (cond (Nat.ble 2 (List.length (List.drop ((Int.toNat p)*2) q))) (cond ((Nat.beq (List.length (List.take 2 (List.drop ((Int.toNat p)*2) q))) 2)&&((Nat.ble 2 (List.length b))&&(!false))) (cond (Nat.ble 2 (List.length (setCells b 0 (List.take 2 (List.drop ((Int.toNat p)*2) q))))) (cond ((Nat.beq (List.length (List.take 2 (setCells b 0 (List.take 2 (List.drop ((Int.toNat p)*2) q))))) 2)&&(Nat.ble 2 2)) (cond ((Nat.ble (d+1) 140737488355328)&&(Nat.ble ((d+1)*16) 140737488355328)) (k0 (d+1) l (IntKind.wrap .i64 (f+(1:Int))) ((List.take (d*2) m)++(List.take 2 (setCells [(.int .i64 0),(.int .i64 0)] 0 (List.take 2 (setCells b 0 (List.take 2 (List.drop ((Int.toNat p)*2) q))))))) (setCells b 0 (List.take 2 (List.drop ((Int.toNat p)*2) q)))) none) none) none) none) none) none)) (cond (Ak p r) (cond (Nat.ble 2 (List.length (List.drop ((Int.toNat p)*2) q))) (cond ((Nat.beq (List.length (List.take 2 (List.drop ((Int.toNat p)*2) q))) 2)&&((Nat.ble 2 (List.length b))&&(!false))) (cond (Nat.ble 2 (List.length (setCells b 0 (List.take 2 (List.drop ((Int.toNat p)*2) q))))) (cond ((Nat.beq (List.length (List.take 2 (setCells b 0 (List.take 2 (List.drop ((Int.toNat p)*2) q))))) 2)&&(Nat.ble 2 2)) (cond ((Nat.ble (d+1) 140737488355328)&&(Nat.ble ((d+1)*16) 140737488355328)) (k0 (d+1) l (IntKind.wrap .i64 (f+(1:Int))) ((List.take (d*2) m)++(List.take 2 (setCells [(.int .i64 0),(.int .i64 0)] 0 (List.take 2 (setCells b 0 (List.take 2 (List.drop ((Int.toNat p)*2) q))))))) (setCells b 0 (List.take 2 (List.drop ((Int.toNat p)*2) q)))) none) none) none) none) none) none)) (r0 0 f 16 [])))))) none) none)) none) (r0 d ((c:Nat):Int) 0 m))
def Bb1 (N:Nat)  (r0:Nat→Int→Int→LA→Option R) (g:LA) (c:Nat) (i j e:Bool) (a o:LA):Nat→Nat→Int→Int→LA→LA→Option R
 | 0,_,_,_,_,_=>none
 | n+1,d,l,f,m,b=>(Bnb N r0 g c i j e a o (Bb1 N r0 g c i j e a o n) d l f m b)
def Buk (N:Nat) (r0:Nat→Int→Int→LA→Option R) (q0:LA→Nat→Int→Int→LA→LA→Option R) (a:LA) (e:Bool) (g:LA) (c:Nat) (i j:Bool):Option R :=
 (cond (Nat.ble 22 (List.length a)) (Ro N (List.take 22 a) e (fun x=>(cond (!x) (r0 0 0 1 []) (cond (Nat.ble 22 (List.length a)) (Be8 N (List.take 22 a) e (fun o=>(cond ((decide ((0:Int)≤(0:Int)))&&((decide ((0:Int)≤((c:Nat):Int)))&&((decide (((c:Nat):Int)≤(140737488355328:Int)))&&(decide ((((c:Nat):Int)*((16:Nat):Int))≤(140737488355328:Int)))))) (cond (Nat.ble 22 (List.length a)) (Ajj N (List.take 22 a) e (fun u=>(cond ((Nat.beq (List.length u) 2)&&((Nat.ble 2 2)&&(!false))) (q0 o 0 ((c:Nat):Int) 0 [] (setCells [(.int .i64 0),(.int .i64 0)] 0 u)) none))) none) none))) none)))) none)
def Bul (N:Nat) (a:LA) (e:Bool) (g:LA) (c:Nat) (i j:Bool) (r0:Nat→Int→Int→LA→Option R):Option R:=(Buk N r0 (fun o d l f m b=>(Bb1 N r0 g c i j e a o N d l f m b)) a e g c i j)
def Bfc:=(Aj (@Bul R)).1
theorem Bnc:@Bfc R=@Bul R:=(Aj _).2
def Auw:Hints:={ H:=(hS (hR [1,2]) (hS (hS (hR [1,2,16]) (hN [1,2] (hS (hR [4,5,6]) hL) hL)) (hS (hR [1,2,7]) (hS (hR [1,2,7,8]) (hS (hR [1,2,7,8,9]) (hS (hS (hR [1,2,7,8,9,24,25,26]) (hN [1,8] (hN [1,2,7,8,9,24,25,26] (hS (hR [1,2,7,8,9,24,25,26,27]) (hS (hN [1,2,7,8,9,24,25,26] hL hL) (hS (hN [1,2,7,8,9,24,25,26] (hS (hR [1,2,7,8,9,10,11,24,25,26]) (hS (hR [1,2,7,8,9,10,11,12,24,25,26]) (hS (hR [1,2,7,8,9,10,11,12,13,24,25,26]) (hS (hS (hR [1,2,7,8,9,10,12,13,24,25,26,47]) (hN [1,2,7,8,9,12,13,24,25,26] (hS (hR [4,5,6]) hL) hL)) (hS (hR [1,2,7,8,9,24,25,26]) (hR [1,2,7,8,9,24,25,26])))))) hL) (hR [1,2,7,8,9,24,25,26])))) hL) hL)) (hS (hR [4,5,6]) hL))))))),nils:=[(4,2)],modes:=[(2,2),(0,0),(0,0)],free:=[],cob:=[] }
def A46 (N:Nat):List (Nat×Tw):=[(48,Ue N),(117,Bt8 N),(84,A7j N),(118,Buj N),(119,Da N)]
def A47 (N:Nat):Env:=mkE 61 Auw (A46 N)
def B4k (N:Nat) (F:KF R):=Ar (A47 N) Tryz.f64 Auw.modes [] F
def Bum (N:Nat) (F:KF R):=atF (A47 N) [] N Tryz.f64 Auw (B4k N F)
def Ajn  (F:KF R):Nat→Int→Int→LA→Option R:=(fun y z aa ab=>F (.tup [(.own 300000 0 y),(.int .i64 z),(.int .i64 aa)]) [(300000,⟨false,false,true,false,2,ab,false⟩)])
def Za (g:LA) (c:Nat) (i j e:Bool) (a o:LA) (d:Nat) (l f:Int) (m b:LA):St:={ s:=[(1,(.imm g c 1 i j)),(2,(.optr 300000 0)),(7,(.omap 300001)),(8,(.own 300002 0 d)),(9,(.optr 300003 0)),(24,(.imm g c 1 i j)),(25,(.int .i64 l)),(26,(.int .i64 f))],h:=[(300000,⟨false,false,true,e,0,a,false⟩),(300001,⟨false,false,true,false,0,o,true⟩),(300002,⟨false,false,true,false,2,m,false⟩),(300003,⟨false,false,true,false,0,b,false⟩)] }
def Bun (N:Nat) (F:KF R):St→Option R:=A4 (A47 N) [] N (Bum N F [1,1,1,1,1,0,1,0] []) N
def Aux (N:Nat) (F:KF R) (n:Nat):St→Option R:=Av (A47 N) [] N (Bum N F [1,1,1,1,1,0,1,0] []) n
theorem Bxl (N:Nat)  (F:KF R) (g:LA) (c:Nat) (i j e:Bool) (a o:LA):∀ (n d:Nat) (l f:Int) (m b:LA),Aux N F n (Za g c i j e a o d l f m b)=(Bb1 N (Ajn F) g c i j e a o n d l f m b):=by
 intro n
 induction n with
 | zero=>intros;kernel_rfl
 | succ n ih =>
  intro d l f m b
  have e0:=funext fun d=>funext fun l=>funext fun f=>funext fun m=>funext fun b=>(show Aux N F n (Za g c i j e a o d l f m b)=_ from ih d l f m b)
  have hK:Aux N F (n+1) (Za g c i j e a o d l f m b)=(Bnb N (Ajn F) g c i j e a o (fun d l f m b=>Aux N F n (Za g c i j e a o d l f m b)) d l f m b):=by kernel_rfl
  exact hK.trans (by rw [e0];rfl)
theorem Bb2 (N:Nat) (a:LA) (e:Bool) (g:LA) (c:Nat) (i j:Bool) (F:KF R):Ac Tryz.prog muts (A46 N) Auw N 64 [(.pagg a e),(.imm g c 1 i j)] [] F=(Bfc N a e g c i j (Ajn F)):=by
 have e1:=funext fun o=>funext fun d=>funext fun l=>funext fun f=>funext fun m=>funext fun b=>(show Bun N F (Za g c i j e a o d l f m b)=_ from (An ..).trans (Bxl N F g c i j e a o N d l f m b))
 have hK:Ac Tryz.prog muts (A46 N) Auw N 64 [(.pagg a e),(.imm g c 1 i j)] [] F=(Buk N (Ajn F) (fun o d l f m b=>Bun N F (Za g c i j e a o d l f m b)) a e g c i j):=by kernel_rfl
 rw [Bnc]
 exact hK.trans (by rw [e1];rfl)
def Amr (N:Nat) (args:List AV) (h:Al) (k:KF R):Option R :=
 match args,h with
 | [(.pagg a e),(.imm g c 1 i j)],[]=>(Bfc N a e g c i j (Ajn k))
 | _,_=>none
def Buo (N:Nat):Tw:=⟨Amr N,fun args h k=>by
 unfold Amr;split
 exact twE (Bb2 ..) (Bb2 ..)
 rfl⟩
theorem B61 (N:Nat):A0 Tryz.prog 64 (Buo N):=fun args h res w hh=>by
 change Amr N args h (fun v w=>some (v,w))=_ at hh
 unfold Amr at hh;split at hh
 exact Aa (T:=A46 N) ⟨Abx N,B6z N,Bxi N,B60 N,Hs N,trivial⟩ follows ((Bb2 ..).trans hh)
 cases hh
def A14 (N:Nat) (k0:Nat→Bool→Int→LA→LA→Option R) (r0:Nat→LA→Option R) (f:LA) (g:Nat) (i j:Bool) (d:Nat) (c:Int) (l:Bool) (b a e:LA)   (m:Int) (q:Bool) (r:Int) (t:Bool):Option R :=
 (cond t (rdI .i64 (List.drop 2 b) fun u=>(rdI .i64 e fun w=>(rdI .i64 (List.drop 7 b) fun x=>(rdI .i64 (List.drop 3 b) fun y=>(rdI .i64 (List.drop 1 e) fun z=>(rdI .i64 (List.drop 6 b) fun aa=>(cond (Ak m d) (cond ((Nat.beq 2 2)&&((Nat.ble ((0+((Int.toNat m)*2))+2) (List.length a))&&(!false))) (cond (Ak m d) (cond (Nat.ble 2 (List.length (List.drop (0+((Int.toNat m)*2)) (Eh a (0+((Int.toNat m)*2)) [(.int .i64 (Ahh u (IntKind.wrap .i64 (w - x)))),(.int .i64 (Ut y (IntKind.wrap .i64 (z+aa))))])))) (cond ((Nat.beq (List.length (List.take 2 (List.drop (0+((Int.toNat m)*2)) (Eh a (0+((Int.toNat m)*2)) [(.int .i64 (Ahh u (IntKind.wrap .i64 (w - x)))),(.int .i64 (Ut y (IntKind.wrap .i64 (z+aa))))])))) 2)&&((Nat.ble 2 (List.length e))&&(!false))) (k0 d q (IntKind.wrap .i64 (r+(1:Int))) (Eh a (0+((Int.toNat m)*2)) [(.int .i64 (Ahh u (IntKind.wrap .i64 (w - x)))),(.int .i64 (Ut y (IntKind.wrap .i64 (z+aa))))]) (setCells e 0 (List.take 2 (List.drop (0+((Int.toNat m)*2)) (Eh a (0+((Int.toNat m)*2)) [(.int .i64 (Ahh u (IntKind.wrap .i64 (w - x)))),(.int .i64 (Ut y (IntKind.wrap .i64 (z+aa))))]))))) none) none) none) none) none))))))) (cond q (rdI .i64 (List.drop 2 b) fun ab=>(rdI .i64 (List.drop 8 b) fun ac=>(cond (Ak m d) (cond ((Nat.beq 2 2)&&((Nat.ble ((0+((Int.toNat m)*2))+2) (List.length a))&&(!false))) (cond (Ak m d) (cond (Nat.ble 2 (List.length (List.drop (0+((Int.toNat m)*2)) (Eh a (0+((Int.toNat m)*2)) [(.int .i64 ab),(.int .i64 ac)])))) (cond ((Nat.beq (List.length (List.take 2 (List.drop (0+((Int.toNat m)*2)) (Eh a (0+((Int.toNat m)*2)) [(.int .i64 ab),(.int .i64 ac)])))) 2)&&((Nat.ble 2 (List.length e))&&(!false))) (k0 d q (IntKind.wrap .i64 (r+(1:Int))) (Eh a (0+((Int.toNat m)*2)) [(.int .i64 ab),(.int .i64 ac)]) (setCells e 0 (List.take 2 (List.drop (0+((Int.toNat m)*2)) (Eh a (0+((Int.toNat m)*2)) [(.int .i64 ab),(.int .i64 ac)]))))) none) none) none) none) none))) (cond (Ak m d) (cond (Nat.ble 2 (List.length (List.drop (0+((Int.toNat m)*2)) a))) (cond ((Nat.beq (List.length (List.take 2 (List.drop (0+((Int.toNat m)*2)) a))) 2)&&((Nat.ble 2 (List.length e))&&(!false))) (k0 d q (IntKind.wrap .i64 (r+(1:Int))) a (setCells e 0 (List.take 2 (List.drop (0+((Int.toNat m)*2)) a)))) none) none) none)))
def Ao1 (N:Nat) (k0:Nat→Bool→Int→LA→LA→Option R) (r0:Nat→LA→Option R) (f:LA) (g:Nat) (i j:Bool) (d:Nat) (c:Int) (l:Bool) (b a e:LA) (m:Int) (q:Bool) (r:Int) (t:Bool):Option R:=(A14 N k0 r0 f g i j d c l b a e m q r t)
def A15 (N:Nat)  (r0:Nat→LA→Option R) (f:LA) (g:Nat) (i j:Bool) (c:Int) (l:Bool) (b:LA) (k0:Nat→Bool→Int→LA→LA→Option R) (q1:Int→Bool→Int→Bool→Option R) (d:Nat) (p:Bool) (o:Int) (a e:LA):Option R :=
 (cond (decide (o<c)) (cond (Ak o g) (rdI .i64 (List.drop ((Int.toNat o)*1) f) fun ad=>(cond ((ad==(2:Int))==true) (q1 o (ad==(2:Int)) o (cond true p false)) (q1 o (ad==(2:Int)) o false))) none) (r0 d a))
def Rp (N:Nat)  (r0:Nat→LA→Option R) (f:LA) (g:Nat) (i j:Bool) (c:Int) (l:Bool) (b:LA):Nat→Nat→Bool→Int→LA→LA→Option R
 | 0,_,_,_,_,_=>none
 | n+1,d,p,o,a,e=>(A15 N r0 f g i j c l b (Rp N r0 f g i j c l b n) (fun m q r t=>(Ao1 N (Rp N r0 f g i j c l b n) r0 f g i j d c l b a e m q r t)) d p o a e)
def Bnd (N:Nat) (r0:Nat→LA→Option R) (q0:Nat→Bool→Int→LA→LA→Option R) (b:LA) (l:Bool) (c:Int) (f:LA) (g:Nat) (i j:Bool):Option R :=
 (cond ((decide ((0:Int)≤c))&&((decide (c≤c))&&((decide (c≤(140737488355328:Int)))&&(decide ((c*((16:Nat):Int))≤(140737488355328:Int)))))) (rdI .i64 (List.drop 19 b) fun af=>(rdI .i64 (List.drop 21 b) fun ag=>(rdI .i64 (List.drop 21 b) fun ah=>(q0 (Int.toNat c) (af==(2:Int)) 0 (List.flatten (List.replicate (Int.toNat c) [(.int .i64 0),(.int .i64 0)])) [(.int .i64 ag),(.int .i64 ah)])))) none)
def Bne (N:Nat) (b:LA) (l:Bool) (c:Int) (f:LA) (g:Nat) (i j:Bool) (r0:Nat→LA→Option R):Option R:=(Bnd N r0 (fun d p o a e=>(Rp N r0 f g i j c l b N d p o a e)) b l c f g i j)
def Ajo:=(Aj (@Bne R)).1
theorem A16:@Ajo R=@Bne R:=(Aj _).2
def Aaw:Hints:={ H:=(hS (hR [1,2,3]) (hS (hR [1,2,3,7]) (hS (hR [1,2,3,7,8,9]) (hS (hS (hR [2,3,7,8,9,22,23]) (hN [7] (hN [2,3,7,8,9,22,23] (hS (hR [2,3,7,8,9,22,23,24]) (hS (hN [2,3,7,8,9,22,23] hL hL) (hS (hN [2,3,7,8,9,22,23] (hS (hR [2,3,7,8,9,10,22,23]) (hS (hR [2,3,7,8,9,10,11,22,23]) (hS (hJ (hR [2,3,7,9,10,11,22,23,34]) (hN [2,3,7,9,10,11,22,23] (hR [2,3,7,9,10,11,22,23]) (hS (hR [2,3,7,9,10,11,22,23,55]) (hN [2,3,7,9,10,11,22,23] (hR [2,3,7,9,10,11,22,23]) hL)))) (hR [2,3,7,8,9,22,23])))) hL) (hR [2,3,7,8,9,22,23])))) hL) hL)) (hS (hR [6]) hL))))),nils:=[(6,2)],modes:=[(2,2)],free:=[],cob:=[] }
def Afx (N:Nat):List (Nat×Tw):=[]
def Px (N:Nat):Env:=mkE 71 Aaw (Afx N)
def Bup (N:Nat) (F:KF R):=Ar (Px N) Tryz.f65 Aaw.modes [] F
def Aax (N:Nat) (F:KF R):=atF (Px N) [] N Tryz.f65 Aaw (Bup N F)
def Eu  (F:KF R):Nat→LA→Option R:=(fun ai aj=>F (.own 300000 0 ai) [(300000,⟨false,false,true,false,2,aj,false⟩)])
def Aay (f:LA) (g:Nat) (i j:Bool) (d:Nat) (c:Int) (l:Bool) (b a e:LA) (m:Int) (q:Bool) (r:Int) (t:Bool):St:={ s:=[(2,(.imm f g 1 i j)),(3,(.optr 300000 0)),(7,(.own 300001 0 d)),(9,(.optr 300002 0)),(10,(.int .i64 m)),(11,(.bool q)),(22,(.int .i64 c)),(23,(.int .i64 r)),(34,(.bool t))],h:=[(300000,⟨false,false,true,l,0,b,false⟩),(300001,⟨false,false,true,false,2,a,false⟩),(300002,⟨false,false,true,false,0,e,false⟩)] }
def A7m (N:Nat) (F:KF R) (Q0:St→Option R):St→Option R:=Bh (Px N) [] N (Aax N F [1,1,1,0,1,0,0,1,1,0,0,1,1,0,1] [Q0])
def A7n (N:Nat) (F:KF R) (Q0:St→Option R):St→Option R:=Bk (Px N) [] N (Aax N F [1,1,1,0,1,0,0,1,1,0,0,1,1,0,1] [Q0])
def Gf (f:LA) (g:Nat) (i j:Bool) (c:Int) (l:Bool) (b:LA) (d:Nat) (p:Bool) (o:Int) (a e:LA):St:={ s:=[(2,(.imm f g 1 i j)),(3,(.optr 300000 0)),(7,(.own 300001 0 d)),(8,(.bool p)),(9,(.optr 300002 0)),(22,(.int .i64 c)),(23,(.int .i64 o))],h:=[(300000,⟨false,false,true,l,0,b,false⟩),(300001,⟨false,false,true,false,2,a,false⟩),(300002,⟨false,false,true,false,0,e,false⟩)] }
def A7o (N:Nat) (F:KF R):St→Option R:=A4 (Px N) [] N (Aax N F [1,1,1,0,1,0] []) N
def Iu (N:Nat) (F:KF R) (n:Nat):St→Option R:=Av (Px N) [] N (Aax N F [1,1,1,0,1,0] []) n
theorem Bj2 (N:Nat) (Q0:St→Option R) (F:KF R) (f:LA) (g:Nat) (i j:Bool) (d:Nat) (c:Int) (l:Bool) (b a e:LA):∀ (m:Int) (q:Bool) (r:Int) (t:Bool),A7n N F Q0 (Aay f g i j d c l b a e m q r t)=(Ao1 N (fun d p o a e=>Q0 (Gf f g i j c l b d p o a e)) (Eu F) f g i j d c l b a e m q r t):=by
 intro m q r t
 have hK:A7n N F Q0 (Aay f g i j d c l b a e m q r t)=(A14 N (fun d p o a e=>Q0 (Gf f g i j c l b d p o a e)) (Eu F) f g i j d c l b a e m q r t):=by kernel_rfl
 exact hK
theorem Bj3 (N:Nat)  (F:KF R) (f:LA) (g:Nat) (i j:Bool) (c:Int) (l:Bool) (b:LA):∀ (n d:Nat) (p:Bool) (o:Int) (a e:LA),Iu N F n (Gf f g i j c l b d p o a e)=(Rp N (Eu F) f g i j c l b n d p o a e):=by
 intro n
 induction n with
 | zero=>intros;kernel_rfl
 | succ n ih =>
  intro d p o a e
  have e0:=funext fun d=>funext fun p=>funext fun o=>funext fun a=>funext fun e=>(show Iu N F n (Gf f g i j c l b d p o a e)=_ from ih d p o a e)
  have e1:(fun m q r t=>A7m N F (Iu N F n) (Aay f g i j d c l b a e m q r t))=(fun m q r t=>(Ao1 N (Rp N (Eu F) f g i j c l b n) (Eu F) f g i j d c l b a e m q r t)):=by funext m;funext q;funext r;funext t;exact ((Au ..).trans (Bj2 N (Iu N F n) F f g i j d c l b a e m q r t)).trans (by rw [e0])
  have hK:Iu N F (n+1) (Gf f g i j c l b d p o a e)=(A15 N (Eu F) f g i j c l b (fun d p o a e=>Iu N F n (Gf f g i j c l b d p o a e)) (fun m q r t=>A7m N F (Iu N F n) (Aay f g i j d c l b a e m q r t)) d p o a e):=by kernel_rfl
  exact hK.trans (by rw [e0,e1];rfl)
theorem Ao2 (N:Nat) (b:LA) (l:Bool) (c:Int) (f:LA) (g:Nat) (i j:Bool) (F:KF R):Ac Tryz.prog muts (Afx N) Aaw N 65 [(.pagg b l),(.int .i64 c),(.imm f g 1 i j)] [] F=(Ajo N b l c f g i j (Eu F)):=by
 have e1:=funext fun d=>funext fun p=>funext fun o=>funext fun a=>funext fun e=>(show A7o N F (Gf f g i j c l b d p o a e)=_ from (An ..).trans (Bj3 N F f g i j c l b N d p o a e))
 have hK:Ac Tryz.prog muts (Afx N) Aaw N 65 [(.pagg b l),(.int .i64 c),(.imm f g 1 i j)] [] F=(Bnd N (Eu F) (fun d p o a e=>A7o N F (Gf f g i j c l b d p o a e)) b l c f g i j):=by kernel_rfl
 rw [A16]
 exact hK.trans (by rw [e1];rfl)
def Wk (N:Nat) (args:List AV) (h:Al) (k:KF R):Option R :=
 match args,h with
 | [(.pagg b l),(.int .i64 c),(.imm f g 1 i j)],[]=>(Ajo N b l c f g i j (Eu k))
 | _,_=>none
def A7p (N:Nat):Tw:=⟨Wk N,fun args h k=>by
 unfold Wk;split
 exact twE (Ao2 ..) (Ao2 ..)
 rfl⟩
theorem Bxm (N:Nat):A0 Tryz.prog 65 (A7p N):=fun args h res ae hh=>by
 change Wk N args h (fun v ae=>some (v,ae))=_ at hh
 unfold Wk at hh;split at hh
 exact Aa (T:=Afx N) trivial follows ((Ao2 ..).trans hh)
 cases hh
def Axf (N:Nat)  (r0:LA→Option R) (c:Nat) (e:LA) (f:Nat) (g i j:Bool) (d:LA) (k0:Int→LA→Option R)  (a:Int) (b:LA):Option R :=
 (cond (decide (a≥(0:Int))) (cond (Ak a f) (rdI .i64 (List.drop ((Int.toNat a)*1) e) fun o=>(cond (o != (2:Int)) (k0 (IntKind.wrap .i64 (a - (1:Int))) b) (cond (Ak a c) (cond (Nat.ble 2 (List.length (List.drop (0+((Int.toNat a)*2)) b))) (cond (Ak (IntKind.wrap .i64 (a+(1:Int))) c) (cond (Nat.ble 2 (List.length (List.drop (0+((Int.toNat (IntKind.wrap .i64 (a+(1:Int))))*2)) b))) (cond ((Nat.beq (List.length (List.take 2 (List.drop (0+((Int.toNat a)*2)) b))) 2)&&((Nat.ble 2 2)&&(!false))) (cond ((Nat.beq (List.length (List.take 2 (List.drop (0+((Int.toNat (IntKind.wrap .i64 (a+(1:Int))))*2)) b))) 2)&&((Nat.ble 2 2)&&(!false))) (cond (Ak (IntKind.wrap .i64 (a+(1:Int))) f) (rdI .i64 (List.drop ((Int.toNat (IntKind.wrap .i64 (a+(1:Int))))*1) e) fun p=>(cond (p != (2:Int)) (rdI .i64 (setCells [(.int .i64 0),(.int .i64 0)] 0 (List.take 2 (List.drop (0+((Int.toNat a)*2)) b))) fun q=>(rdI .i64 (List.drop 1 (setCells [(.int .i64 0),(.int .i64 0)] 0 (List.take 2 (List.drop (0+((Int.toNat a)*2)) b)))) fun r=>(rdI .i64 (List.drop 9 d) fun t=>(cond (Ak a c) (cond ((Nat.beq 2 2)&&((Nat.ble ((0+((Int.toNat a)*2))+2) (List.length b))&&(!false))) (k0 (IntKind.wrap .i64 (a - (1:Int))) (Eh b (0+((Int.toNat a)*2)) [(.int .i64 q),(.int .i64 (Ut r t))])) none) none)))) (rdI .i64 (setCells [(.int .i64 0),(.int .i64 0)] 0 (List.take 2 (List.drop (0+((Int.toNat a)*2)) b))) fun u=>(rdI .i64 (setCells [(.int .i64 0),(.int .i64 0)] 0 (List.take 2 (List.drop (0+((Int.toNat (IntKind.wrap .i64 (a+(1:Int))))*2)) b))) fun w=>(rdI .i64 (List.drop 6 d) fun x=>(rdI .i64 (List.drop 1 (setCells [(.int .i64 0),(.int .i64 0)] 0 (List.take 2 (List.drop (0+((Int.toNat a)*2)) b)))) fun y=>(rdI .i64 (List.drop 1 (setCells [(.int .i64 0),(.int .i64 0)] 0 (List.take 2 (List.drop (0+((Int.toNat (IntKind.wrap .i64 (a+(1:Int))))*2)) b)))) fun z=>(rdI .i64 (List.drop 7 d) fun aa=>(cond (Ak a c) (cond ((Nat.beq 2 2)&&((Nat.ble ((0+((Int.toNat a)*2))+2) (List.length b))&&(!false))) (k0 (IntKind.wrap .i64 (a - (1:Int))) (Eh b (0+((Int.toNat a)*2)) [(.int .i64 (Ahh u (IntKind.wrap .i64 (w - x)))),(.int .i64 (Ut y (IntKind.wrap .i64 (z+aa))))])) none) none))))))))) none) none) none) none) none) none) none))) none) (r0 b))
def Ajp (N:Nat)  (r0:LA→Option R) (c:Nat) (e:LA) (f:Nat) (g i j:Bool) (d:LA):Nat→Int→LA→Option R
 | 0,_,_=>none
 | n+1,a,b=>(Axf N r0 c e f g i j d (Ajp N r0 c e f g i j d n) a b)
def Bfd (N:Nat) (r0:LA→Option R) (q0:Int→LA→Option R) (d:LA) (j:Bool) (c:Nat) (e:LA) (f:Nat) (g i:Bool) (l:LA):Option R :=
 (q0 (IntKind.wrap .i64 (((c:Nat):Int) - (2:Int))) l)
def Bfe (N:Nat) (d:LA) (j:Bool) (c:Nat) (e:LA) (f:Nat) (g i:Bool) (l:LA) (r0:LA→Option R):Option R:=(Bfd N r0 (fun a b=>(Ajp N r0 c e f g i j d N a b)) d j c e f g i l)
def Ab0:=(Aj (@Bfe R)).1
theorem Axg:@Ab0 R=@Bfe R:=(Aj _).2
def Wl:Hints:={ H:=(hS (hR [1,2,3]) (hS (hR [1,2,3,6]) (hS (hN [1,2,3,6] (hS (hS (hR [1,2,3,6,13]) (hN [1,2,3,6] hL hL)) (hS (hN [1,2,3,6] (hS (hS (hR [1,2,3,6,20]) (hN [1,2,3,6] hL hL)) (hS (hR [1,2,3,6,7,8]) (hS (hR [1,2,3,6,7,8,35]) (hN [1,2,3,6] (hR [1,2,3,6]) (hR [1,2,3,6]))))) hL) (hR [1,2,3,6]))) hL) hL))),nils:=[],modes:=[],free:=[],cob:=[] }
def Aaz (N:Nat):List (Nat×Tw):=[]
def Aa0 (N:Nat):Env:=mkE 67 Wl (Aaz N)
def Bon (N:Nat) (F:KF R):=Ar (Aa0 N) Tryz.f66 Wl.modes [100000] F
def A17 (N:Nat) (F:KF R):=atF (Aa0 N) [100000] N Tryz.f66 Wl (Bon N F)
def Oj  (F:KF R):LA→Option R:=(fun ab=>F (.tup []) [(100000,⟨false,false,true,false,2,ab,false⟩)])
def Ke (c:Nat) (e:LA) (f:Nat) (g i j:Bool) (d:LA) (a:Int) (b:LA):St:={ s:=[(1,(.own 100000 0 c)),(2,(.imm e f 1 g i)),(3,(.optr 300000 0)),(6,(.int .i64 a))],h:=[(100000,⟨false,false,true,false,2,b,false⟩),(300000,⟨false,false,true,j,0,d,false⟩)] }
def A18 (N:Nat) (F:KF R):St→Option R:=A4 (Aa0 N) [100000] N (A17 N F [1,1,0] []) N
def Wm (N:Nat) (F:KF R) (n:Nat):St→Option R:=Av (Aa0 N) [100000] N (A17 N F [1,1,0] []) n
theorem Bff (N:Nat)  (F:KF R) (c:Nat) (e:LA) (f:Nat) (g i j:Bool) (d:LA):∀ (n:Nat) (a:Int) (b:LA),Wm N F n (Ke c e f g i j d a b)=(Ajp N (Oj F) c e f g i j d n a b):=by
 intro n
 induction n with
 | zero=>intros;kernel_rfl
 | succ n ih =>
  intro a b
  have e0:=funext fun a=>funext fun b=>(show Wm N F n (Ke c e f g i j d a b)=_ from ih a b)
  have hK:Wm N F (n+1) (Ke c e f g i j d a b)=(Axf N (Oj F) c e f g i j d (fun a b=>Wm N F n (Ke c e f g i j d a b)) a b):=by kernel_rfl
  exact hK.trans (by rw [e0];rfl)
theorem Ajq (N:Nat) (d:LA) (j:Bool) (c:Nat) (e:LA) (f:Nat) (g i:Bool) (l:LA) (F:KF R):Ac Tryz.prog muts (Aaz N) Wl N 66 [(.pagg d j),(.own 100000 0 c),(.imm e f 1 g i)] [(100000,⟨false,false,true,false,2,l,false⟩)] F=(Ab0 N d j c e f g i l (Oj F)):=by
 have e1:=funext fun a=>funext fun b=>(show A18 N F (Ke c e f g i j d a b)=_ from (An ..).trans (Bff N F c e f g i j d N a b))
 have hK:Ac Tryz.prog muts (Aaz N) Wl N 66 [(.pagg d j),(.own 100000 0 c),(.imm e f 1 g i)] [(100000,⟨false,false,true,false,2,l,false⟩)] F=(Bfd N (Oj F) (fun a b=>A18 N F (Ke c e f g i j d a b)) d j c e f g i l):=by kernel_rfl
 rw [Axg]
 exact hK.trans (by rw [e1];rfl)
def Sn (N:Nat) (args:List AV) (h:Al) (k:KF R):Option R :=
 match args,h with
 | [(.pagg d j),(.own 100000 0 c),(.imm e f 1 g i)],[(100000,⟨false,false,true,false,2,l,false⟩)]=>(Ab0 N d j c e f g i l (Oj k))
 | _,_=>none
def A19 (N:Nat):Tw:=⟨Sn N,fun args h k=>by
 unfold Sn;split
 exact twE (Ajq ..) (Ajq ..)
 rfl⟩
theorem Buq (N:Nat):A0 Tryz.prog 66 (A19 N):=fun args h res m hh=>by
 change Sn N args h (fun v m=>some (v,m))=_ at hh
 unfold Sn at hh;split at hh
 exact Aa (T:=Aaz N) trivial follows ((Ajq ..).trans hh)
 cases hh
end
end Gx

namespace Gx
open Go Go.Proofs
set_option maxRecDepth 100000
noncomputable section
variable {R:Type}
def Axh (N:Nat)  (r0:Nat→Int→LA→Option R) (b:LA) (a:Nat) (d c:Bool) (i:Nat) (k1:Int→Int→LA→Option R)  (m e:Int) (g:LA):Option R :=
 (cond (decide (e<m)) (cond (Ak e i) (cond (Nat.ble 2 (List.length (List.drop (0+((Int.toNat e)*2)) g))) (cond ((Nat.beq (List.length (List.take 2 (List.drop (0+((Int.toNat e)*2)) g))) 2)&&((Nat.ble 2 2)&&(!false))) (rdI .i64 (setCells [(.int .i64 0),(.int .i64 0)] 0 (List.take 2 (List.drop (0+((Int.toNat e)*2)) g))) fun p=>(rdI .i64 (List.drop 1 (setCells [(.int .i64 0),(.int .i64 0)] 0 (List.take 2 (List.drop (0+((Int.toNat e)*2)) g)))) fun q=>(cond (decide (p>q)) (r0 0 7 []) (cond (Ak e a) (rdI .i64 (List.drop ((Int.toNat e)*1) b) fun r=>(cond (r != (2:Int)) (cond (Ak e i) (cond ((Nat.beq 2 2)&&((Nat.ble ((0+((Int.toNat e)*2))+2) (List.length g))&&(!false))) (k1 m (IntKind.wrap .i64 (e+(1:Int))) (Eh g (0+((Int.toNat e)*2)) [(.int .i64 0),(.int .i64 0)])) none) none) (k1 m (IntKind.wrap .i64 (e+(1:Int))) g))) none)))) none) none) none) (r0 i 0 g))
def Ajr (N:Nat)  (r0:Nat→Int→LA→Option R) (b:LA) (a:Nat) (d c:Bool) (i:Nat):Nat→Int→Int→LA→Option R
 | 0,_,_,_=>none
 | n+1,m,e,g=>(Axh N r0 b a d c i (Ajr N r0 b a d c i n) m e g)
def Ac2 (N:Nat)  (r0:Nat→Int→LA→Option R) (l:Int) (b:LA) (a:Nat) (d c j:Bool) (f:LA)  (q1:Nat→Int→Int→LA→Option R) :Option R :=
 (cond (Nat.ble 22 (List.length f)) (Ajo N (List.take 22 f) j l b a false c (fun i t=>(cond (Nat.ble 22 (List.length f)) (Ab0 N (List.take 22 f) j i b a false c t (fun u=>(q1 i ((i:Nat):Int) 0 u))) none))) none)
def Ajs (N:Nat)  (r0:Nat→Int→LA→Option R) (l:Int) (b:LA) (a:Nat) (d c j:Bool) (f:LA) :Option R:=(Ac2 N r0 l b a d c j f (fun i m e g=>(Ajr N r0 b a d c i N m e g)))
def Auy (N:Nat) (r0:Nat→Int→LA→Option R) (q0:Option R) (f:LA) (j:Bool) (l:Int) (b:LA) (a:Nat) (d c:Bool):Option R :=
 (cond (Nat.ble 22 (List.length f)) (Ajc N (List.take 22 f) j l (fun w=>(cond (!w) (r0 0 1 []) (cond (((a:Nat):Int) != l) (r0 0 4 []) (cond (Nat.ble 22 (List.length f)) (Bfc N (List.take 22 f) j b a false c (fun af ag x ah=>(cond (x != (0:Int)) (r0 0 16 []) (rdI .i64 (List.drop 19 f) fun y=>(cond ((y==(2:Int))==true) (cond (Ak (0:Int) a) (rdI .i64 b fun z=>(cond ((cond true (z != (2:Int)) false)==true) (rdI .i64 (List.drop 21 f) fun aa=>(rdI .i64 (List.drop 9 f) fun ab=>(cond (cond true (decide (aa>ab)) false) (r0 0 7 []) q0))) q0)) none) q0))))) none))))) none)
def Auz (N:Nat) (f:LA) (j:Bool) (l:Int) (b:LA) (a:Nat) (d c:Bool) (r0:Nat→Int→LA→Option R):Option R:=(Auy N r0 (Ajs N r0 l b a d c j f) f j l b a d c)
def Ab1:=(Aj (@Auz R)).1
theorem Axi:@Ab1 R=@Auz R:=(Aj _).2
def Wn:Hints:={ H:=(hS (hR [1,2,3]) (hS (hS (hR [1,2,3,17]) (hN [1,2,3] (hS (hR [6,7]) hL) hL)) (hS (hS (hR [1,2,3,21]) (hN [1,2,3] (hS (hR [6,7]) hL) hL)) (hS (hS (hR [1,2,3,10]) (hS (hR [1,2,3,30]) (hN [1,2,3] (hS (hR [6,7]) hL) hL))) (hJ (hS (hR [1,2,3,46]) (hN [1,2,3] (hS (hR [6,7]) hL) hL)) (hS (hR [2,3,11]) (hS (hR [2,11]) (hS (hS (hR [2,11,55,56,57]) (hN [11] (hN [2,11,55,56,57] (hS (hR [2,11,55,56,57,58]) (hS (hN [2,11,55,56,57] hL hL) (hS (hN [2,11,55,56,57] (hS (hR [2,11,12,13,55,56,57]) (hS (hS (hR [2,11,12,55,56,57,66]) (hN [2,11,12,55,56,57] (hS (hR [6,7]) hL) hL)) (hS (hR [2,11,12,55,56,57,71]) (hN [2,11,55,56,57] (hR [2,11,55,56,57]) hL)))) hL) (hR [2,11,55,56,57])))) hL) hL)) (hS (hR [6,7]) hL))))))))),nils:=[(6,2)],modes:=[(2,2),(0,0)],free:=[],cob:=[] }
def Aa1 (N:Nat):List (Nat×Tw):=[(16,Amh N),(64,Buo N),(65,A7p N),(66,A19 N)]
def Mu (N:Nat):Env:=mkE 78 Wn (Aa1 N)
def Boo (N:Nat) (F:KF R):=Ar (Mu N) Tryz.f29 Wn.modes [] F
def Wo (N:Nat) (F:KF R):=atF (Mu N) [] N Tryz.f29 Wn (Boo N F)
def G9  (F:KF R):Nat→Int→LA→Option R:=(fun ac ad ae=>F (.tup [(.own 300000 0 ac),(.int .i64 ad)]) [(300000,⟨false,false,true,false,2,ae,false⟩)])
def Kf (b:LA) (a:Nat) (d c:Bool) (i:Nat) (m e:Int) (g:LA):St:={ s:=[(2,(.imm b a 1 d c)),(11,(.own 300000 0 i)),(55,(.own 300000 0 i)),(56,(.int .i64 m)),(57,(.int .i64 e))],h:=[(300000,⟨false,false,true,false,2,g,false⟩)] }
def A2a (N:Nat) (F:KF R):St→Option R:=A4 (Mu N) [] N (Wo N F [1,1,1,1,1,1,1,0,1,0] []) N
def Wp (N:Nat) (F:KF R) (n:Nat):St→Option R:=Av (Mu N) [] N (Wo N F [1,1,1,1,1,1,1,0,1,0] []) n
def Wq (l:Int) (b:LA) (a:Nat) (d c j:Bool) (f:LA):St:={ s:=[(1,(.int .i64 l)),(2,(.imm b a 1 d c)),(3,(.optr 300000 0))],h:=[(300000,⟨false,false,true,j,0,f,false⟩)] }
def A2b (N:Nat) (F:KF R):St→Option R:=Bh (Mu N) [] N (Wo N F [1,1,1,1,1] [])
def A2c (N:Nat) (F:KF R):St→Option R:=Bk (Mu N) [] N (Wo N F [1,1,1,1,1] [])
theorem Bfg (N:Nat)  (F:KF R) (b:LA) (a:Nat) (d c:Bool) (i:Nat):∀ (n:Nat) (m e:Int) (g:LA),Wp N F n (Kf b a d c i m e g)=(Ajr N (G9 F) b a d c i n m e g):=by
 intro n
 induction n with
 | zero=>intros;kernel_rfl
 | succ n ih =>
  intro m e g
  have e0:=funext fun m=>funext fun e=>funext fun g=>(show Wp N F n (Kf b a d c i m e g)=_ from ih m e g)
  have hK:Wp N F (n+1) (Kf b a d c i m e g)=(Axh N (G9 F) b a d c i (fun m e g=>Wp N F n (Kf b a d c i m e g)) m e g):=by kernel_rfl
  exact hK.trans (by rw [e0];rfl)
theorem Bfh (N:Nat)  (F:KF R) (l:Int) (b:LA) (a:Nat) (d c j:Bool) (f:LA):A2c N F (Wq l b a d c j f)=(Ajs N (G9 F) l b a d c j f):=by
 have e1:=funext fun i=>funext fun m=>funext fun e=>funext fun g=>(show A2a N F (Kf b a d c i m e g)=_ from (An ..).trans (Bfg N F b a d c i N m e g))
 have hK:A2c N F (Wq l b a d c j f)=(Ac2 N (G9 F) l b a d c j f (fun i m e g=>A2a N F (Kf b a d c i m e g))):=by kernel_rfl
 exact hK.trans (by rw [e1];rfl)
theorem Ajt (N:Nat) (f:LA) (j:Bool) (l:Int) (b:LA) (a:Nat) (d c:Bool) (F:KF R):Ac Tryz.prog muts (Aa1 N) Wn N 29 [(.pagg f j),(.int .i64 l),(.imm b a 1 d c)] [] F=(Ab1 N f j l b a d c (G9 F)):=by
 have e1:=(show A2b N F (Wq l b a d c j f)=_ from (Au ..).trans (Bfh N F l b a d c j f))
 have hK:Ac Tryz.prog muts (Aa1 N) Wn N 29 [(.pagg f j),(.int .i64 l),(.imm b a 1 d c)] [] F=(Auy N (G9 F) (A2b N F (Wq l b a d c j f)) f j l b a d c):=by kernel_rfl
 rw [Axi]
 exact hK.trans (by rw [e1];rfl)
def So (N:Nat) (args:List AV) (h:Al) (k:KF R):Option R :=
 match args,h with
 | [(.pagg f j),(.int .i64 l),(.imm b a 1 d c)],[]=>(Ab1 N f j l b a d c (G9 k))
 | _,_=>none
def A2d (N:Nat):Tw:=⟨So N,fun args h k=>by
 unfold So;split
 exact twE (Ajt ..) (Ajt ..)
 rfl⟩
theorem Bur (N:Nat):A0 Tryz.prog 29 (A2d N):=fun args h res o hh=>by
 change So N args h (fun v o=>some (v,o))=_ at hh
 unfold So at hh;split at hh
 exact Aa (T:=Aa1 N) ⟨A1f N,B61 N,Bxm N,Buq N,trivial⟩ follows ((Ajt ..).trans hh)
 cases hh
def Au0 (N:Nat) (r0:Bool→Option R)  :Option R :=
 (Rm N (fun b=>(cond ((Nat.beq 0 0)&&((Nat.beq (List.length b) 22)&&(Nat.beq 22 22))) (cond (Nat.ble 22 (List.length b)) (E1 N 35 (fun i=>(E2 N (List.take 22 b) false i false (fun c j=>(cond ((Nat.beq 0 0)&&((Nat.beq (List.length c) 3)&&(Nat.beq 3 3))) (cond (Nat.ble 22 (List.length b)) (E1 N 30 (fun l=>(Uf N (List.take 22 b) false l false (fun d e m n=>(cond ((Nat.beq 0 0)&&((Nat.beq (List.length d) 3)&&(Nat.beq 3 3))) (cond ((Nat.beq 0 0)&&((Nat.beq (List.length e) 3)&&(Nat.beq 3 3))) (cond (Nat.ble 22 (List.length b)) (Ab1 N (List.take 22 b) false 3 [(.int .i64 2),(.int .i64 2),(.int .i64 0)] 3 false true (fun f o a=>(cond (Nat.ble 3 (List.length c)) (E1 N 85 (fun p=>(Ef N (List.take 3 c) false p false (fun q=>(cond ((q==(0:Int))==true) (cond ((cond true (j==(0:Int)) false)==true) (cond (Nat.ble 3 (List.length d)) (E1 N 3 (fun r=>(Ef N (List.take 3 d) false r false (fun s=>(cond ((cond true (s==(0:Int)) false)==true) (cond (Nat.ble 3 (List.length e)) (E1 N 5 (fun t=>(Ef N (List.take 3 e) false t false (fun u=>(cond ((cond true (u==(0:Int)) false)==true) (cond ((cond true m false)==true) (cond ((cond true n false)==true) (cond ((cond true (o==(0:Int)) false)==true) (cond ((cond true (((f:Nat):Int)==(3:Int)) false)==true) (cond (Ak (0:Int) f) (cond (Nat.ble 2 (List.length a)) (cond ((Nat.ble 1 2)&&((Nat.beq (List.length (List.take 2 a)) 2)&&((Nat.beq 2 2)&&(true&&(!false))))) (rdI .i64 (List.take 2 a) fun w=>(rdI .i64 (List.drop 1 (List.take 2 a)) fun x=>(cond ((cond true ((w==(10:Int))&&((x==(17:Int))&&true)) false)==true) (cond (Ak (1:Int) f) (cond (Nat.ble 2 (List.length (List.drop 2 a))) (cond ((Nat.ble 1 2)&&((Nat.beq (List.length (List.take 2 (List.drop 2 a))) 2)&&((Nat.beq 2 2)&&(true&&(!false))))) (rdI .i64 (List.take 2 (List.drop 2 a)) fun y=>(rdI .i64 (List.drop 1 (List.take 2 (List.drop 2 a))) fun z=>(r0 (cond true ((y==(10:Int))&&((z==(15:Int))&&true)) false)))) none) none) none) (r0 false)))) none) none) none) (r0 false)) (r0 false)) (r0 false)) (r0 false)) (r0 false)))))) none) (r0 false)))))) none) (r0 false)) (r0 false)))))) none))) none) none) none))))) none) none))))) none) none)))
def Au1 (N:Nat)  (r0:Bool→Option R):Option R:=(Au0 N r0)
def Ab2:=(Aj (@Au1 R)).1
theorem Axj:@Ab2 R=@Au1 R:=(Aj _).2
def A2e:Hints:={ H:=(hS hL (hS (hR [1]) (hS (hR [1,2,3]) (hS (hR [1,2,3,4,5,6,7]) (hS (hR [2,3,4,5,6,7,8,9]) (hS (hR [0]) hL)))))),nils:=[],modes:=[],free:=[],cob:=[] }
def Ao3 (N:Nat):List (Nat×Tw):=[(46,Aqk N),(20,Ah6 N),(21,Wa N),(23,Ajh N),(29,A2d N),(25,Ajb N)]
def Aju  (F:KF R):Bool→Option R:=(fun aa=>F (.bool aa) [])
theorem Ajv (N:Nat)  (F:KF R):Ac Tryz.prog muts (Ao3 N) A2e N 15 [] [] F=(Ab2 N (Aju F)):=by
 have hK:Ac Tryz.prog muts (Ao3 N) A2e N 15 [] [] F=(Au0 N (Aju F)):=by kernel_rfl
 rw [Axj]
 exact hK
def Sp (N:Nat) (args:List AV) (h:Al) (k:KF R):Option R :=
 match args,h with
 | [],[]=>(Ab2 N (Aju k))
 | _,_=>none
def A2f (N:Nat):Tw:=⟨Sp N,fun args h k=>by
 unfold Sp;split
 exact twE (Ajv ..) (Ajv ..)
 rfl⟩
theorem Bus (N:Nat):A0 Tryz.prog 15 (A2f N):=fun args h res g hh=>by
 change Sp N args h (fun v g=>some (v,g))=_ at hh
 unfold Sp at hh;split at hh
 exact Aa (T:=Ao3 N) ⟨Bjs N,Azo N,Amm N,A1q N,Bur N,A00 N,trivial⟩ follows ((Ajv ..).trans hh)
 cases hh
end
end Gx

namespace Gx
open Go
theorem wrap_u8 (a:Nat):IntKind.wrap .u8 (a:Int)=((a%256:Nat):Int):=by rw [IntKind.wrap_u8];omega
theorem wrap_u32 (a:Nat) (h:a<4294967296):IntKind.wrap .u32 (a:Int)=(a:Int):=IntWalk.u32_in _ (by omega)
theorem B9g (a:Nat):IntKind.wrap .u32 (a:Int)=((a%4294967296:Nat):Int):=by rw [IntKind.wrap_u32];omega
theorem Cal (a:Int) (h:-9223372036854775808≤a∧a≤9223372036854775807):IntKind.wrap .i64 a=a:=IntWalk.i64_in _ h
theorem wrap_u64 (a:Nat) (h:a<18446744073709551616):IntKind.wrap .u64 (a:Int)=(a:Int):=IntWalk.u64_in _ (by omega)
theorem A48 (w a:Nat):BitVec.ofInt w (a:Int)=BitVec.ofNat w a:=by simp
theorem B62 {k:IntKind} (hs:k.signed=false) {a b:Nat} (ha:a<2 ^ k.bits) (hb:b<2 ^ k.bits):B6h k a b=((a &&& b:Nat):Int):=by
  unfold B6h
  rw [A48,A48]
  have h1:(BitVec.ofNat k.bits a &&& BitVec.ofNat k.bits b).toNat=a &&& b:=by
    rw [BitVec.toNat_and,BitVec.toNat_ofNat,BitVec.toNat_ofNat,Nat.mod_eq_of_lt ha,Nat.mod_eq_of_lt hb]
  rw [h1]
  have h2:a &&& b<2 ^ k.bits:=Nat.and_lt_two_pow _ hb
  unfold IntKind.wrap
  simp only [hs,Bool.false_and,Bool.false_eq_true,if_false]
  have:(2 ^ k.bits:Int)=((2 ^ k.bits:Nat):Int):=by simp
  rw [this,← Int.natCast_emod,Nat.mod_eq_of_lt h2]
theorem Bzt {k:IntKind} (hs:k.signed=false) {a b:Nat} (ha:a<2 ^ k.bits) (hb:b<2 ^ k.bits):T2 k a b=((a ||| b:Nat):Int):=by
  unfold T2
  rw [A48,A48]
  have h1:(BitVec.ofNat k.bits a ||| BitVec.ofNat k.bits b).toNat=a ||| b:=by
    rw [BitVec.toNat_or,BitVec.toNat_ofNat,BitVec.toNat_ofNat,Nat.mod_eq_of_lt ha,Nat.mod_eq_of_lt hb]
  rw [h1]
  have h2:a ||| b<2 ^ k.bits:=Nat.or_lt_two_pow ha hb
  unfold IntKind.wrap
  simp only [hs,Bool.false_and,Bool.false_eq_true,if_false]
  have:(2 ^ k.bits:Int)=((2 ^ k.bits:Nat):Int):=by simp
  rw [this,← Int.natCast_emod,Nat.mod_eq_of_lt h2]
theorem Wr (a k:Nat):Int.fdiv (a:Int) (2 ^ k)=((a/2 ^ k:Nat):Int):=by
  have:(2 ^ k:Int)=((2 ^ k:Nat):Int):=by simp
  rw [this,Int.fdiv_eq_ediv_of_nonneg (a:Int) (Int.natCast_nonneg (2 ^ k))]
  rfl
theorem B5 {R:Type} {k:IntKind} {n:Int} {r:List AV} {f:Int→Option R}:rdI k (.int k n::r) f=f n:=by simp [rdI,Bk0,Us]
theorem Am {i n:Nat} (h:i<n):Ak (i:Int) n=true:=by simp [Ak];omega
end Gx

namespace Gx
def val:List Nat→Nat
  | []=>0
  | x::r=>x+4294967296*val r
def Ai (l:List Nat):Prop:=∀ x ∈ l,x<4294967296
def B4l:Nat→Nat→List Nat
  | 0,_=>[]
  | f+1,n=>if n=0 then [] else n%4294967296::B4l f (n/4294967296)
def dig (n:Nat):List Nat:=B4l n n
theorem B8a:∀ (f n:Nat),n≤f→∀ g,n≤g→B4l f n=B4l g n
  | 0,n,h,g,_=>by
    have:n=0:=by omega
    subst this;cases g<;>simp [B4l]
  | f+1,n,h,g,hg=>by
    by_cases h0:n=0
    · subst h0;cases g<;>simp [B4l]
    · cases g with
      | zero=>omega
      | succ g=>simp only [B4l,h0,if_false];rw [B8a f _ (by omega) g (by omega)]
theorem Dx:dig 0=[]:=rfl
theorem Au2 {n:Nat} (h:n≠0):dig n=n%4294967296::dig (n/4294967296):=by
  unfold dig
  cases n with
  | zero=>omega
  | succ n=>simp only [B4l,h,if_false];rw [B8a n _ (by omega) ((n+1)/4294967296) (by omega)]
theorem Ah:∀ n,val (dig n)=n:=by
  intro n
  induction n using Nat.strongRecOn with
  | _ n ih =>
    by_cases h:n=0
    · subst h;rfl
    · rw [Au2 h,val,ih _ (by omega)];omega
theorem Ad:∀ n,Ai (dig n):=by
  intro n
  induction n using Nat.strongRecOn with
  | _ n ih =>
    by_cases h:n=0
    · subst h;intro x hx;simp [Dx] at hx
    · rw [Au2 h];intro x hx
      simp at hx
      rcases hx with rfl | hx
      · omega
      · exact ih _ (by omega) x hx
theorem Zb:Ai []:=by intro x hx;simp at hx
theorem De {x:Nat} {r:List Nat}:Ai (x::r)↔x<4294967296∧Ai r:=by simp [Ai]
theorem Bfi {a b:List Nat}:Ai (a++b)↔Ai a∧Ai b:=by simp [Ai,or_imp,forall_and]
theorem Ca {a:List Nat} (h:Ai a) (n:Nat):Ai (a.take n):=fun x hx=>h x (List.mem_of_mem_take hx)
theorem Au3 {a:List Nat} (h:Ai a) (n:Nat):Ai (a.drop n):=fun x hx=>h x (List.mem_of_mem_drop hx)
theorem A3 {a:List Nat} (h:Ai a) {i:Nat} (hi:i<a.length):a[i]<4294967296:=h _ (List.getElem_mem hi)
theorem Ch {a:List Nat} (h:Ai a) {v:Nat} (hv:v<4294967296) (i:Nat):Ai (a.set i v):=fun x hx=>by
  rcases List.mem_or_eq_of_mem_set hx with h1 | h1
  · exact h x h1
  · omega
theorem Ce (n:Nat):Ai (List.replicate n 0):=fun x hx=>by simp at hx;omega
theorem Tr:∀ (a b:List Nat),val (a++b)=val a+4294967296 ^ a.length*val b
  | [],b=>by simp [val]
  | x::r,b=>by
    simp only [List.cons_append,val,List.length_cons,Tr r b,Nat.pow_succ]
    rw [Nat.mul_add,← Nat.add_assoc,← Nat.mul_assoc];congr 2;rw [Nat.mul_comm]
theorem D3:∀ n,val (List.replicate n 0)=0
  | 0=>rfl
  | n+1=>by rw [List.replicate_succ,val,D3 n]
theorem Be:∀ {a:List Nat},Ai a→val a<4294967296 ^ a.length
  | [],_=>by simp [val]
  | x::r,h=>by
    have h1:=De.1 h
    have h2:=Be h1.2
    rw [val,List.length_cons,Nat.pow_succ]
    omega
theorem B63 (a:List Nat) (x:Nat):val (a++[x])=val a+4294967296 ^ a.length*x:=by rw [Tr];simp [val]
theorem Bb3 {n:Nat} (h:n≠0):dig n≠[]:=by rw [Au2 h];simp
theorem But {n:Nat}:dig n=[]↔n=0:=by
  constructor
  · intro h;by_cases h0:n=0;exact h0;exact absurd h (Bb3 h0)
  · intro h;rw [h];rfl
theorem Bo {n:Nat}:(dig n).length=0↔n=0:=by rw [List.length_eq_zero_iff,But]
theorem Bn:∀ {l:List Nat},Ai l→l=dig (val l)++List.replicate (l.length - (dig (val l)).length) 0∧(dig (val l)).length≤l.length
  | [],_=>by simp [val,Dx]
  | x::r,h=>by
    have h1:=De.1 h
    obtain ⟨h2,h3⟩:=Bn h1.2
    rw [val]
    by_cases h0:x+4294967296*val r=0
    · have hx:x=0:=by omega
      have hr:val r=0:=by omega
      rw [h0,Dx]
      rw [hr,Dx] at h2
      simp at h2
      subst hx
      refine ⟨?_,by simp⟩
      rw [List.nil_append,List.length_nil,Nat.sub_zero,List.length_cons,List.replicate_succ,← h2]
    · rw [Au2 h0,show (x+4294967296*val r)%4294967296=x by omega,show (x+4294967296*val r)/4294967296=val r by omega]
      refine ⟨?_,by simp;exact h3⟩
      rw [List.cons_append,List.length_cons,List.length_cons,Nat.add_sub_add_right,← h2]
theorem Buu:∀ (n:Nat) (h:dig n≠[]),(dig n).getLast h≠0:=by
  intro n
  induction n using Nat.strongRecOn with
  | _ n ih =>
    intro h
    have h0:n≠0:=fun e=>h (by rw [e];rfl)
    have e:=Au2 h0
    by_cases h1:n/4294967296=0
    · rw [h1,Dx] at e
      have:n<4294967296:=by omega
      simp [e];omega
    · have h2:=Bb3 h1
      have:=ih _ (by omega) h2
      have h3:(dig n).getLast h=(dig (n/4294967296)).getLast h2:=by
        simp only [e];rw [List.getLast_cons h2]
      rw [h3];exact this
theorem Ccy:∀ {l:List Nat},Ai l→(∀ h:l≠[],l.getLast h≠0)→dig (val l)=l:=by
  intro l h hl
  obtain ⟨h1,h2⟩:=Bn h
  by_cases hk:l.length - (dig (val l)).length=0
  · rw [hk] at h1;simpa using h1.symm
  · exfalso
    obtain ⟨k,hk⟩:=Nat.exists_eq_succ_of_ne_zero hk
    rw [hk,List.replicate_succ',← List.append_assoc] at h1
    have hne:l≠[]:=by intro e;rw [e] at h1;simp at h1
    apply hl hne
    have h3:l.getLast?=some 0:=by rw [h1,List.getLast?_append];rfl
    rw [List.getLast?_eq_some_getLast hne] at h3
    simpa using h3
theorem B6 {n k:Nat} (h:n<4294967296 ^ k):(dig n).length≤k:=by
  induction k generalizing n with
  | zero => have : n = 0 := by simpa using h
            subst this;simp [Dx]
  | succ k ih =>
    by_cases h0:n=0
    · subst h0;simp [Dx]
    · rw [Au2 h0,List.length_cons]
      have:n/4294967296<4294967296 ^ k:=by
        rw [Nat.pow_succ] at h
        exact Nat.div_lt_of_lt_mul (by rw [Nat.mul_comm];exact h)
      have:=ih this
      omega
theorem Bv {a b:Nat} (h:a≤b):(dig a).length≤(dig b).length:=by
  apply B6
  have:=Be (Ad b)
  rw [Ah] at this
  omega
end Gx

namespace Gx
theorem Bzu {U V U3 V2 P d:Nat} (hV:V2*P≤V) (hU:U<(U3+1)*P) (h:U3<d*V2) (hv:0<V):U/V<d:=by
  rw [Nat.div_lt_iff_lt_mul hv]
  have h1:(U3+1)*P≤d*V2*P:=Nat.mul_le_mul_right _ h
  have h2:d*(V2*P)≤d*V:=Nat.mul_le_mul_left _ hV
  rw [← Nat.mul_assoc] at h2
  omega
theorem Bzv {U V U3 V2 P d:Nat} (hV:V<(V2+1)*P) (hU:U3*P≤U) (h:d*V2≤U3) (hd:d≤V2+1) (hv:0<V):d≤U/V+1:=by
  cases d with
  | zero=>exact Nat.zero_le _
  | succ d =>
    have:d≤U/V:=by
      rw [Nat.le_div_iff_mul_le hv]
      have h1:(d+1)*V2*P≤U3*P:=Nat.mul_le_mul_right _ h
      have h2:d*V≤d*((V2+1)*P):=Nat.mul_le_mul_left _ (by omega)
      have h3:d*((V2+1)*P)≤(d+1)*V2*P:=by
        rw [← Nat.mul_assoc]
        apply Nat.mul_le_mul_right
        rw [Nat.mul_add,Nat.add_mul];omega
      omega
    omega
theorem B4m {a b u v s t x y:Nat} (hx:x+v*b=u*a) (hy:y+s*a=t*b) (hdet:u*t=v*s+1):Nat.gcd x y=Nat.gcd a b:=by
  have e1:t*x+v*y=a:=by
    have h1:t*x+t*v*b=t*u*a:=by rw [← Nat.mul_assoc t u a |>.symm,Nat.mul_assoc t v b,← Nat.mul_add,hx]
    have h2:v*y+v*s*a=v*t*b:=by rw [Nat.mul_assoc,Nat.mul_assoc,← Nat.mul_add,hy]
    have h3:t*u*a=v*s*a+a:=by rw [Nat.mul_comm t u,hdet,Nat.add_mul,Nat.one_mul]
    have h4:t*v*b=v*t*b:=by rw [Nat.mul_comm t v]
    omega
  have e2:s*x+u*y=b:=by
    have h1:s*x+s*v*b=s*u*a:=by rw [Nat.mul_assoc,Nat.mul_assoc,← Nat.mul_add,hx]
    have h2:u*y+u*s*a=u*t*b:=by rw [Nat.mul_assoc,Nat.mul_assoc,← Nat.mul_add,hy]
    have h3:u*t*b=v*s*b+b:=by rw [hdet,Nat.add_mul,Nat.one_mul]
    have h4:s*u*a=u*s*a:=by rw [Nat.mul_comm s u]
    have h5:s*v*b=v*s*b:=by rw [Nat.mul_comm s v]
    omega
  apply Nat.dvd_antisymm
  · apply Nat.dvd_gcd
    · rw [← e1];exact Nat.dvd_add (Nat.dvd_mul_left_of_dvd (Nat.gcd_dvd_left x y) t) (Nat.dvd_mul_left_of_dvd (Nat.gcd_dvd_right x y) v)
    · rw [← e2];exact Nat.dvd_add (Nat.dvd_mul_left_of_dvd (Nat.gcd_dvd_left x y) s) (Nat.dvd_mul_left_of_dvd (Nat.gcd_dvd_right x y) u)
  · apply Nat.dvd_gcd
    · have h1:Nat.gcd a b∣x+v*b:=by rw [hx];exact Nat.dvd_mul_left_of_dvd (Nat.gcd_dvd_left a b) u
      exact (Nat.dvd_add_left (Nat.dvd_mul_left_of_dvd (Nat.gcd_dvd_right a b) v)).1 h1
    · have h1:Nat.gcd a b∣y+s*a:=by rw [hy];exact Nat.dvd_mul_left_of_dvd (Nat.gcd_dvd_right a b) t
      exact (Nat.dvd_add_left (Nat.dvd_mul_left_of_dvd (Nat.gcd_dvd_left a b) s)).1 h1
theorem Ams {a b x y P u v w:Nat} (ha:x*P≤a) (hb:b<(y+1)*P) (hw:u*x=w+v*y) (hv:v≤w):v*b≤u*a:=by
  have h1:u*(x*P)≤u*a:=Nat.mul_le_mul_left _ ha
  have h2:v*b≤v*((y+1)*P):=Nat.mul_le_mul_left _ (by omega)
  have h3:v*((y+1)*P)≤u*(x*P):=by
    rw [← Nat.mul_assoc,← Nat.mul_assoc]
    apply Nat.mul_le_mul_right
    rw [hw,Nat.mul_add];omega
  omega
end Gx

namespace Gx
open Go
section
variable {R:Type}
def Ae (l:List Nat):List AV:=l.map fun n:Nat=>.int .u32 (n:Int)
theorem Aha (x:Nat) (l:List Nat):Ae (x::l)=.int .u32 (x:Int)::Ae l:=rfl
theorem Br (l:List Nat):(Ae l).length=l.length:=by simp [Ae]
theorem B9h (l:List Nat) (n:Nat):(Ae l).drop n=Ae (l.drop n):=by simp [Ae,List.map_drop]
theorem Zc (l:List Nat) (n:Nat):(Ae l).take n=Ae (l.take n):=by simp [Ae,List.map_take]
theorem Bfj (l:List Nat) (j:Nat) (v:Nat):List.set (Ae l) j (.int .u32 (v:Int))=Ae (l.set j v):=by simp [Ae,List.map_set]
theorem Cz (n:Nat):List.replicate n (AV.int .u32 0)=Ae (List.replicate n 0):=by simp [Ae]
theorem B4n {l:List Nat} {i:Nat} (h:i<l.length) {f:Int→Option R}:rdI .u32 (List.drop i (Ae l)) f=f (l[i]:Nat):=by
  rw [B9h,List.drop_eq_getElem_cons h,Aha,B5]
theorem Amt:∀ l:List Nat,Bp (Ae l)=true
  | []=>rfl
  | x::r=>by rw [Aha,Bp];exact Amt r
theorem Aqm (a b:Nat):(a:Int)+(b:Int)=((a+b:Nat):Int):=by omega
theorem Buv (a b:Nat):(a:Int)*(b:Int)=((a*b:Nat):Int):=by simp
theorem w64 {a:Nat} (h:a<18446744073709551616):IntKind.wrap .u64 (a:Int)=(a:Int):=wrap_u64 a h
theorem w32 {a:Nat} (h:a<4294967296):IntKind.wrap .u32 (a:Int)=(a:Int):=wrap_u32 a h
theorem Bb4 (a:Nat):IntKind.wrap .u32 (a:Int)=((a%4294967296:Nat):Int):=B9g a
theorem Bb5 (a:Int):IntKind.wrap .u64 a=a%18446744073709551616:=IntKind.wrap_u64 a
theorem Bj4 {a b:Nat} (ha:a<18446744073709551616) (hb:b≤a):IntKind.wrap .u64 ((a:Int) - (b:Int))=((a - b:Nat):Int):=by rw [Bb5];omega
theorem Cam {a b:Nat} (h:a<b) (hb:b≤18446744073709551616):IntKind.wrap .u64 ((a:Int) - (b:Int))=((18446744073709551616+a - b:Nat):Int):=by rw [Bb5];omega
theorem Bj5 (a:Nat):Int.fdiv (a:Int) (2 ^ 32)=((a/4294967296:Nat):Int):=Wr a 32
theorem Cdk (a:Nat):Int.fdiv (a:Int) (2 ^ 63)=((a/9223372036854775808:Nat):Int):=Wr a 63
theorem i64 {a:Int} (h:-9223372036854775808≤a∧a≤9223372036854775807):IntKind.wrap .i64 a=a:=Cal a h
theorem B64 {a b:Nat} (ha:a<18446744073709551616) (hb:b<18446744073709551616):T2 .u64 (a:Int) (b:Int)=((a ||| b:Nat):Int):=Bzt rfl ha hb
theorem Bj6 {a b k:Nat} (h:b<2 ^ k):a*2 ^ k ||| b=a*2 ^ k+b:=by
  rw [← Nat.shiftLeft_eq,Nat.shiftLeft_add_eq_or_of_lt h]
end
end Gx

namespace Gx
open Go Go.Proofs
section
variable {R:Type}
def fit (k N:Nat):Prop:=100*k+1000≤N∧k≤1000000000
theorem fit.le {j k N:Nat} (h:fit k N) (hj:j≤k):fit j N:=⟨by have:=h.1;omega,by have:=h.2;omega⟩
theorem ct (x y:Option R):cond true x y=x:=rfl
theorem cf (x y:Option R):cond false x y=y:=rfl
theorem ctB (x y:Bool):cond true x y=x:=rfl
theorem cfB (x y:Bool):cond false x y=y:=rfl
theorem Can (c:Nat):((decide (((c+1:Nat):Int)>(0:Int)))==true)=true:=by simp
theorem ltT {j n:Nat} (h:j<n):decide ((j:Int)<(n:Int))=true:=by simp;omega
theorem ltF {j n:Nat} (h:n≤j):decide ((j:Int)<(n:Int))=false:=by simp;omega
theorem wS {j:Nat} (h:j≤1000000000000):IntKind.wrap .i64 ((j:Int)+1)=((j+1:Nat):Int):=by rw [i64 (by omega)];omega
theorem wP {j:Nat} (h:j≤1000000000000):IntKind.wrap .i64 (((j+1:Nat):Int) - 1)=(j:Int):=by rw [i64 (by omega)];omega
theorem wA {j k:Nat} (h:j+k≤1000000000000):IntKind.wrap .i64 ((j:Int)+(k:Int))=((j+k:Nat):Int):=by rw [i64 (by omega)];omega
theorem rdl {l:List Nat} {j:Nat} (h:j<l.length) {f:Int→Option R}:rdI .u32 (List.drop ((Int.toNat (j:Int))*1) (Ae l)) f=f (l[j]:Nat):=by
  rw [Int.toNat_natCast,Nat.mul_one,B4n h]
theorem Bfk {l:List Nat} {j:Nat} (h:j<l.length) {f:Int→Option R}:rdI .u32 (List.drop (0+((Int.toNat (j:Int))*1)) (Ae l)) f=f (l[j]:Nat):=by
  rw [Nat.zero_add,rdl h]
theorem sl0 {c a:Nat} (h:c≤a):((decide ((0:Int)≤(0:Int)))&&((decide ((0:Int)≤(c:Int)))&&((decide ((c:Int)≤(a:Int)))&&(decide ((a:Int)≤(a:Int))))))=true:=by
  simp;omega
theorem mk4 {n:Nat} (h:n≤1000000000000):((decide ((0:Int)≤(n:Int)))&&((decide ((n:Int)≤(n:Int)))&&((decide ((n:Int)≤(140737488355328:Int)))&&(decide (((n:Int)*((4:Nat):Int))≤(140737488355328:Int))))))=true:=by
  simp;omega
theorem st1 {x:Nat} {m:List Nat} (h:x<m.length):((Nat.beq 1 1)&&((Nat.ble ((0+((Int.toNat (x:Int))*1))+1) (List.length (Ae m)))&&(!false)))=true:=by
  rw [Br,Int.toNat_natCast];simp;omega
theorem A2g {x v:Nat} {m:List Nat}:List.set (Ae m) (0+((Int.toNat (x:Int))*1)) (.int .u32 (v:Int))=Ae (m.set x v):=by
  rw [Int.toNat_natCast,Nat.mul_one,Nat.zero_add,Bfj]
theorem B4o {l:List Nat} (h:Ai l):l.take (dig (val l)).length=dig (val l):=by
  obtain ⟨h1,h2⟩:=Bn h
  rw [congrArg (List.take (dig (val l)).length) h1,List.take_left]
theorem Mv {l:List Nat} (h:Ai l):List.take ((dig (val l)).length*1) (Ae l)=Ae (dig (val l)):=by rw [Nat.mul_one,Zc,B4o h]
theorem Az {l:List Nat} {c:Nat} (h:c<l.length):val (l.take (c+1))=val (l.take c)+4294967296 ^ c*l[c]:=by
  rw [List.take_succ_eq_append_getElem h,B63,List.length_take,Nat.min_eq_left (by omega)]
theorem B2c {l:List Nat} {c:Nat} (hl:Ai l) (h:c<l.length) (h0:l[c]≠0):dig (val (l.take (c+1)))=l.take (c+1):=by
  apply Ccy (Ca hl _)
  intro hne
  rw [List.getLast_eq_getElem]
  simp only [List.length_take,Nat.min_eq_left (show c+1≤l.length by omega),Nat.add_sub_cancel,List.getElem_take]
  exact h0
theorem Buw {N:Nat} {l:List Nat} {K:Nat→Option R} (hl:Ai l) (hs:l.length≤1000000000000):∀ (c fuel:Nat),c≤l.length→c<fuel →
    Agv N K l.length (Ae l) fuel (c:Int)=K (dig (val (l.take c))).length
  | 0,fuel+1,hc,_=>by
    rw [Agv];unfold Ask
    rw [show decide (((0:Nat):Int)>0)=false by simp]
    rw [show ((false:Bool)==true)=false by rfl,cf,sl0 (by omega),ct,Int.toNat_natCast];rfl
  | c+1,fuel+1,hc,hf=>by
    rw [Agv];unfold Ask
    rw [Can,ct,wP (by omega),Am (by omega),ct,Bfk (by omega),ctB,sl0 (by omega),ct,Buw hl hs c fuel (by omega) (by omega),Int.toNat_natCast]
    by_cases h0:l[c]=0
    · rw [Az (by omega),h0];simp
    · rw [B2c hl (by omega) h0,List.length_take,Nat.min_eq_left hc]
      rw [show (((l[c]:Nat):Int)==0)=false by simp;exact h0,cf]
theorem Aqn {N:Nat} {l:List Nat} {n:Nat} {K:Nat→Option R} (hn:n=l.length) (hl:Ai l) (hf:fit l.length N):Acl N n (Ae l) K=K (dig (val l)).length:=by
  subst hn
  have h1:=hf.1;have h2:=hf.2
  rw [A9s];unfold Bpl Bpk
  dsimp only
  rw [Buw hl (by omega) l.length N (Nat.le_refl _) (by omega),List.take_length]
theorem Bzw {N:Nat} {l:List Nat} {t o:Bool} {K:LA→Nat→Option R} (hl:Ai l) (hs:l.length≤1000000000000):∀ (c fuel:Nat),c≤l.length→c<fuel →
    Pb N K (Ae l) l.length t o fuel (c:Int)=K (Ae (dig (val (l.take c)))) (dig (val (l.take c))).length
  | 0,fuel+1,hc,_=>by
    rw [Pb];unfold Z5
    rw [show decide (((0:Nat):Int)>0)=false by simp]
    rw [show ((false:Bool)==true)=false by rfl,cf,sl0 (by omega),ct,Int.toNat_natCast];rfl
  | c+1,fuel+1,hc,hf=>by
    rw [Pb];unfold Z5
    rw [Can,ct,wP (by omega),Am (by omega),ct,rdl (by omega),ctB,sl0 (by omega),ct,Bzw hl hs c fuel (by omega) (by omega),Int.toNat_natCast,Nat.mul_one,Zc]
    by_cases h0:l[c]=0
    · rw [Az (by omega),h0];simp
    · rw [B2c hl (by omega) h0,List.length_take,Nat.min_eq_left hc]
      rw [show (((l[c]:Nat):Int)==0)=false by simp;exact h0,cf]
theorem By {N:Nat} {l:List Nat} {n:Nat} {t o:Bool} {K:LA→Nat→Option R} (hn:n=l.length) (hl:Ai l) (hf:fit l.length N):B9 N (Ae l) n t o K=K (Ae (dig (val l))) (dig (val l)).length:=by
  subst hn
  have h1:=hf.1;have h2:=hf.2
  rw [A6q];unfold A9w A9v
  dsimp only
  rw [Bzw hl (by omega) l.length N (Nat.le_refl _) (by omega),List.take_length]
theorem B9i {N:Nat} {K:LA→Option R} (hN:1≤N):Apy N K=K []:=by
  rw [A6s];unfold A9y A9x
  cases N with
  | zero=>omega
  | succ N=>rw [Ae7];rfl
end
end Gx

namespace Gx
open Go Go.RowKit
theorem B9j {P:Program} {f:Nat} {t:Tw} (hok:A0 P f t) {W:World} {avs:List AV} {vs:List Value} (hr:Reps (fun _ k=>k<W.heap.size) (fun _=>none) [] W avs vs)
    (hrun:(t.runK avs [] fun v h=>some (v,h))=some (.bool true,[])):Calls P f vs.toArray W fun e w'=>e=.returned (.bool true)∧Below W.heap.size W w':=by
  have S:SimH (fun _ k=>k<W.heap.size) (fun _=>none) [] W:=⟨fun _ _ h=>h,fun _ h=>h,fun b x hb=>by simp [Ap] at hb,fun b x hb=>by simp [Ap] at hb,fun b b' x x' k o o' hb=>by simp [Ap] at hb⟩
  refine Calls.mono (hok avs [] _ _ hrun _ _ W vs S hr) ?_
  rintro e w' ⟨vc,J',β',rfl,F,hv⟩
  rw [Rep] at hv;subst hv
  refine ⟨rfl,F.os,F.tape,F.output,F.size,fun k hk=>F.frame k hk ?_⟩
  rintro ⟨b,x,o,hb,_⟩
  change Ap [] b=some x at hb
  simp [Ap] at hb
structure Opens (P:Program) (t:TypeId) {α:Type} (e:α→List AV) (n:Nat):Prop where
  size:P.cellsOf t=n
  pos:0<n
  len:∀ a,(e a).length=n
  read:∀ {H:Type} (enc:TypeId×Value→H) (W:World) (fuel:Nat) (cs:List Value) (d:DataW H) (ps:List MemPlace),DataW.trod enc P W 0 (fun _=>true) true fuel t cs=some (d,ps) →
    cs.length=n∧∃ a,RepCs (fun k=>k<W.heap.size) W (e a) (fun j=>cs[j]?) 0
theorem B9k {P:Program} {t:TypeId} {k:IntKind} (hu:P.underlying t=some (.int k)) (hc:P.cellsOf t=1):Opens P t (α:={ n:Int // (Lit.int k n).wf=true }) (fun n=>[.int k n.1]) 1:=by
  refine ⟨hc,by omega,fun _=>rfl,fun enc W fuel cs d ps h=>?_⟩
  obtain ⟨n,rfl,_,hw⟩:=DataW.trod_int hu h
  exact ⟨rfl,⟨n,hw⟩,by simp [RepCs,RepC]⟩
theorem Bnf {α β:Type} {e:α→List β} {n:Nat} (hn:0<n) (he:∀ a,(e a).length=n):∀ (l:List α) (j:Nat),(l.flatMap e)[j]?=(l[j/n]?).bind fun a=>(e a)[j%n]?
  | [],j=>by simp
  | a::r,j=>by
    rw [List.flatMap_cons]
    by_cases hj:j<n
    · rw [List.getElem?_append_left (by rw [he];exact hj),Nat.div_eq_of_lt hj,Nat.mod_eq_of_lt hj];simp
    · rw [List.getElem?_append_right (by rw [he];omega),he,Bnf hn he r (j - n)]
      have h1:j/n=(j - n)/n+1:=by
        have:=Nat.add_div_right (j - n) hn
        rw [show j - n+n=j by omega] at this;exact this
      have h2:j%n=(j - n)%n:=by
        have:=Nat.add_mod_right (j - n) n
        rw [show j - n+n=j by omega] at this;exact this
      rw [h1,h2];simp
theorem Bng {α β:Type} {e:α→List β} {n:Nat} (he:∀ a,(e a).length=n):∀ (l:List α),(l.flatMap e).length=l.length*n
  | []=>by simp
  | a::r=>by rw [List.flatMap_cons,List.length_append,he,Bng he r,List.length_cons,Nat.succ_mul];omega
theorem B4p {α β:Type} {f:α→Option β}:∀ {l:List α} {r:List β},l.mapM f=some r→r.length=l.length∧∀ (i:Nat) (a:α),l[i]?=some a→f a=r[i]?
  | [],r,h=>by simp at h;subst h;simp
  | x::l,r,h=>by
    rw [List.mapM_cons] at h
    cases hx:f x with
    | none=>simp [hx] at h
    | some y =>
      cases hl:l.mapM f with
      | none=>simp [hx,hl] at h
      | some ys =>
        simp [hx,hl] at h
        subst h
        obtain ⟨h1,h2⟩:=B4p hl
        refine ⟨by simp [h1],fun i a hi=>?_⟩
        cases i with
        | zero=>simp at hi;subst hi;simpa using hx
        | succ i=>simpa using h2 i a (by simpa using hi)
theorem B4q {P:Program} {t el:TypeId} {α:Type} {e:α→List AV} {n:Nat} (hu:P.underlying t=some (.slice el)) (hc:P.cellsOf t=1) (he:Opens P el e n) :
    Opens P t (α:={ l:List α // l.length≤maxLen }) (fun l=>[.imm (l.1.flatMap e) l.1.length n false false]) 1:=by
  refine ⟨hc,by omega,fun _=>rfl,fun enc W fuel cs d ps h=>?_⟩
  cases fuel with
  | zero=>simp [DataW.trod] at h
  | succ fuel =>
    unfold DataW.trod at h
    simp only [hu] at h
    split at h
    all_goals first | (rename_i hx;simp at hx;done) | (rename_i hx _;simp at hx;done) | (rename_i hx _ _;simp at hx;done) | skip
    · refine ⟨rfl,⟨[],by simp⟩,?_⟩
      simp [RepCs,RepC]
    · rename_i e' a len cap hx
      simp at hx;subst hx
      split at h
      · rename_i hcond
        obtain ⟨hb,hlc,hcm⟩:=hcond
        refine ⟨rfl,?_⟩
        cases hm:(List.range len).mapM (fun i=>(W.cells? 0 (a.add (i*P.cellsOf el)) (P.cellsOf el)).bind (DataW.trod enc P W 0 (fun _=>true) true fuel el)) with
        | none=>rw [hm] at h;simp at h
        | some Byb =>
          obtain ⟨h1,h2⟩:=B4p hm
          rw [he.size] at h2
          have each:∀ i:Nat,i<len→∃ x:α,∃ cs,W.cells? 0 (a.add (i*n)) n=some cs∧RepCs (fun k=>k<W.heap.size) W (e x) (fun j=>cs[j]?) 0:=by
            intro i hi
            have h3:=h2 i i (by simp [hi])
            rw [List.getElem?_eq_getElem (by rw [h1];simpa using hi)] at h3
            cases hcs:W.cells? 0 (a.add (i*n)) n with
            | none=>rw [hcs] at h3;simp at h3
            | some cs =>
              rw [hcs] at h3
              obtain ⟨_,x,hx⟩:=he.read enc W fuel cs _ _ h3
              exact ⟨x,cs,rfl,hx⟩
          have build:∀ m,m≤len→∃ l:List α,l.length=m∧∀ i x,l[i]?=some x→∃ cs,W.cells? 0 (a.add (i*n)) n=some cs∧RepCs (fun k=>k<W.heap.size) W (e x) (fun j=>cs[j]?) 0:=by
            intro m
            induction m with
            | zero=>intro _;exact ⟨[],rfl,by simp⟩
            | succ m ih =>
              intro hm
              obtain ⟨l,hl,hl2⟩:=ih (by omega)
              obtain ⟨x,cs,hx1,hx2⟩:=each m (by omega)
              refine ⟨l++[x],by simp [hl],fun i y hy=>?_⟩
              rw [List.getElem?_append] at hy
              split at hy
              · exact hl2 i y hy
              · have : i = m := by
                  have:=(List.getElem?_eq_some_iff.1 hy).1
                  simp at this;omega
                subst this
                simp [hl] at hy;subst hy
                exact ⟨cs,hx1,hx2⟩
          obtain ⟨l,hl,hl2⟩:=build len (Nat.le_refl _)
          refine ⟨⟨l,by omega⟩,?_⟩
          simp only [RepCs,RepC,and_true]
          refine ⟨_,rfl,?_,some a,cap,by rw [hl],by omega,by simp,?_⟩
          · exact Bng he.len l
          · by_cases h0:l.length=0
            · exact .inl h0
            · right
              refine ⟨a,rfl,?_,?_⟩
              · obtain ⟨x,cs,hx,_⟩:=each 0 (by omega)
                have:=World.cells?_block hx he.pos
                rwa [Xz] at this
              · rw [Cp]
                intro j x hj
                rw [Bnf he.pos he.len] at hj
                cases hq:l[j/n]? with
                | none=>rw [hq] at hj;simp at hj
                | some y =>
                  rw [hq] at hj
                  simp at hj
                  obtain ⟨cs,hcs,hrep⟩:=hl2 (j/n) y hq
                  rw [Cp] at hrep
                  obtain ⟨u,hu1,hu2⟩:=hrep (j%n) x hj
                  refine ⟨u,?_,hu2⟩
                  obtain ⟨_,hlen,hcell⟩:=World.cells?_some hcs
                  have hlt:j%n<n:=Nat.mod_lt _ he.pos
                  have:=hcell (j%n) hlt
                  rw [Addr.add_add,show j/n*n+j%n=j by rw [Nat.mul_comm];exact Nat.div_add_mod j n] at this
                  simp only [Nat.zero_add] at hu1 ⊢
                  rw [this];exact hu1
      · simp at h
    · simp at h
end Gx

namespace Gx
open Go Go.RowKit
section
variable {P:Program} {W:World} {H:Type} {enc:TypeId×Value→H} {β:Cv} {h:Al}
theorem Cbm {t el:TypeId} {α:Type} {e:α→List AV} {n:Nat} {a:Option Addr} {len cap:Nat} {d:DataW H} {p:List MemPlace} (hu:P.underlying t=some (.slice el)) (hc:P.cellsOf t=1) (he:Opens P el e n)
    (hd:DataW.Trod enc P W 0 (fun _=>true) true t (.slice a len cap) d p):∃ l:List α,l.length≤maxLen∧Rep (fun _ k=>k<W.heap.size) β h W (.imm (l.flatMap e) l.length n false false) (.slice a len cap):=by
  obtain ⟨fuel,hf⟩:=hd
  obtain ⟨_,⟨l,hl⟩,hr⟩:=(B4q hu hc he).read enc W fuel _ _ _ hf
  refine ⟨l,hl,?_⟩
  simp only [RepCs,Value.cells,and_true] at hr
  obtain ⟨u,hu,hr⟩:=hr
  simp at hu;subst hu
  rw [Rep];exact hr
theorem B8b {k:IntKind} {n:Int}:Rep (fun _ k=>k<W.heap.size) β h W (.int k n) (.int k n):=by rw [Rep]
theorem Cao:Reps (fun _ k=>k<W.heap.size) β h W [] []:=by rw [Reps]
theorem Bj7 {x:AV} {xs:List AV} {v:Value} {vs:List Value} (h1:Rep (fun _ k=>k<W.heap.size) β h W x v) (h2:Reps (fun _ k=>k<W.heap.size) β h W xs vs):Reps (fun _ k=>k<W.heap.size) β h W (x::xs) (v::vs):=by
  rw [Reps];exact ⟨v,vs,rfl,h1,h2⟩
end
end Gx

namespace Gx
open Go Go.Proofs
inductive Sl (α:Type) where
  | nil
  | of (l:List α) (t o:Bool)
def Sl.l {α:Type}:Sl α→List α
  | .nil=>[]
  | .of l _ _=>l
def Sl.av {α:Type} (sz:Nat) (e:α→List AV):Sl α→AV
  | .nil=>.nsl
  | .of l t o=>.imm (l.flatMap e) l.length sz t o
def intE (n:Int):List AV:=[.int .i64 n]
def ints (l:List Int):List AV:=l.map fun n=>.int .i64 n
theorem Bzx:∀ l:List Int,l.flatMap intE=ints l
  | []=>rfl
  | a::r=>by rw [List.flatMap_cons,Bzx r];rfl
structure SegD where
  width:Int
  price:Int
structure UnitD where
  name:List UInt8
  bus:Int
  min:Int
  max:Int
  segs:Sl SegD
  noLoad:Int
  rampUp:Int
  rampDown:Int
  startRamp:Int
  stopRamp:Int
  upTime:Int
  downTime:Int
  startTime:Int
  hotCost:Int
  coldCost:Int
  hotHours:Int
  reserve:Int
  reservePrice:Int
  away:Sl Int
  state:Int
  hours:Int
  output:Int
def SegD.av (s:SegD):List AV:=[.int .i64 s.width,.int .i64 s.price]
def UnitD.av (u:UnitD):List AV:=[.str u.name,.int .i64 u.bus,.int .i64 u.min,.int .i64 u.max,u.segs.av 2 SegD.av,.int .i64 u.noLoad,.int .i64 u.rampUp,.int .i64 u.rampDown,.int .i64 u.startRamp,.int .i64 u.stopRamp,.int .i64 u.upTime,.int .i64 u.downTime,.int .i64 u.startTime,.int .i64 u.hotCost,.int .i64 u.coldCost,.int .i64 u.hotHours,.int .i64 u.reserve,.int .i64 u.reservePrice,u.away.av 1 intE,.int .i64 u.state,.int .i64 u.hours,.int .i64 u.output]
section
variable {R:Type}
theorem rdL_sl {α:Type} {sz:Nat} {e:α→List AV} {s:Sl α} {r:List AV} {f:List AV→Nat→Option R}:rdL sz (s.av sz e::r) f=f (s.l.flatMap e) s.l.length:=by
  cases s<;>simp [rdL,Sl.av,Sl.l,B94]
theorem Bzy {α:Type} {e:α→List AV} {sz:Nat} (he:∀ a,(e a).length=sz):∀ (l:List α) (j:Nat) (h:j<l.length),List.drop (j*sz) (l.flatMap e)=e l[j]++(l.drop (j+1)).flatMap e
  | a::r,0,_=>by simp
  | a::r,j+1,h=>by
    have:=Bzy he r j (by simpa using h)
    rw [List.flatMap_cons,List.drop_append,he,show (j+1)*sz - sz=j*sz by rw [Nat.add_mul];omega,List.drop_eq_nil_of_le (by rw [he,Nat.add_mul];omega)]
    simpa using this
theorem Cap {l:List Int} {i:Nat} (h:i<l.length) {f:Int→Option R}:rdI .i64 (List.drop i (ints l)) f=f l[i]:=by
  rw [ints,List.drop_eq_getElem_cons (by simpa using h)];simp [B5]
theorem Bux {l:List Int} {i:Nat} (h:i<l.length) {f:Int→Option R}:rdI .i64 (List.drop ((Int.toNat (i:Int))*1) (ints l)) f=f l[i]:=by
  rw [Int.toNat_natCast,Nat.mul_one,Cap h]
theorem B4r {α:Type} {l:List α} {j:Nat} (h:j<l.length):l.drop j=l[j]::l.drop (j+1):=List.drop_eq_getElem_cons h
theorem B4s {α:Type} {l:List α} {j:Nat} (h:l.length≤j):l.drop j=[]:=List.drop_eq_nil_of_le h
theorem cK {α:Type} (K:α→Option R) (c:Bool) (a b:α):cond c (K a) (K b)=K (cond c a b):=by cases c<;>rfl
theorem Ws (u:UnitD):List.take 22 u.av=u.av:=rfl
theorem Amu (u:UnitD):Nat.ble 22 (List.length u.av)=true:=rfl
theorem u2 {u:UnitD} {f:Int→Option R}:rdI .i64 (List.drop 2 u.av) f=f u.min:=B5
theorem u3 {u:UnitD} {f:Int→Option R}:rdI .i64 (List.drop 3 u.av) f=f u.max:=B5
theorem u5 {u:UnitD} {f:Int→Option R}:rdI .i64 (List.drop 5 u.av) f=f u.noLoad:=B5
theorem u6 {u:UnitD} {f:Int→Option R}:rdI .i64 (List.drop 6 u.av) f=f u.rampUp:=B5
theorem u7 {u:UnitD} {f:Int→Option R}:rdI .i64 (List.drop 7 u.av) f=f u.rampDown:=B5
theorem u8 {u:UnitD} {f:Int→Option R}:rdI .i64 (List.drop 8 u.av) f=f u.startRamp:=B5
theorem u9 {u:UnitD} {f:Int→Option R}:rdI .i64 (List.drop 9 u.av) f=f u.stopRamp:=B5
theorem u10 {u:UnitD} {f:Int→Option R}:rdI .i64 (List.drop 10 u.av) f=f u.upTime:=B5
theorem u11 {u:UnitD} {f:Int→Option R}:rdI .i64 (List.drop 11 u.av) f=f u.downTime:=B5
theorem u12 {u:UnitD} {f:Int→Option R}:rdI .i64 (List.drop 12 u.av) f=f u.startTime:=B5
theorem u13 {u:UnitD} {f:Int→Option R}:rdI .i64 (List.drop 13 u.av) f=f u.hotCost:=B5
theorem u14 {u:UnitD} {f:Int→Option R}:rdI .i64 (List.drop 14 u.av) f=f u.coldCost:=B5
theorem u15 {u:UnitD} {f:Int→Option R}:rdI .i64 (List.drop 15 u.av) f=f u.hotHours:=B5
theorem u16 {u:UnitD} {f:Int→Option R}:rdI .i64 (List.drop 16 u.av) f=f u.reserve:=B5
theorem u17 {u:UnitD} {f:Int→Option R}:rdI .i64 (List.drop 17 u.av) f=f u.reservePrice:=B5
theorem u19 {u:UnitD} {f:Int→Option R}:rdI .i64 (List.drop 19 u.av) f=f u.state:=B5
theorem u20 {u:UnitD} {f:Int→Option R}:rdI .i64 (List.drop 20 u.av) f=f u.hours:=B5
theorem u21 {u:UnitD} {f:Int→Option R}:rdI .i64 (List.drop 21 u.av) f=f u.output:=B5
theorem u4 {u:UnitD} {f:List AV→Nat→Option R}:rdL 2 (List.drop 4 u.av) f=f (u.segs.l.flatMap SegD.av) u.segs.l.length:=rdL_sl
theorem u18 {u:UnitD} {f:List AV→Nat→Option R}:rdL 1 (List.drop 18 u.av) f=f (ints u.away.l) u.away.l.length:=by rw [← Bzx];exact rdL_sl
def inR (lo hi x:Int):Bool:=decide (lo≤x)&&decide (x≤hi)
theorem Bfl {N:Nat} {b c:Int} {e f:Bool} {K:Bool→Option R} (l:List Int) (hs:l.length≤1000000000000):∀ (m j fuel:Nat),j+m=l.length→m<fuel →
    Ms N K b c (ints l) l.length e f fuel (l.length:Int) (j:Int)=K ((l.drop j).all (inR b c))
  | 0,j,fuel+1,hj,_=>by
    rw [Ms];unfold V0
    rw [ltF (by omega),cf,B4s (by omega),List.all_nil]
  | m+1,j,fuel+1,hj,hf=>by
    rw [Ms];unfold V0
    have h:j<l.length:=by omega
    rw [ltT h,ct,Am h,ct,Bux h,wS (by omega),Bfl l hs m (j+1) fuel (by omega) (by omega),B4r h,List.all_cons]
    simp only [cK];congr 1
    generalize (List.drop (j+1) l).all (inR b c)=t
    rw [Bool.eq_iff_iff];cases t<;>simp [inR]<;>omega
theorem Afy {N:Nat} {b c:Int} {e f:Bool} {K:Bool→Option R} (l:List Int) (n:Nat) (hn:n=l.length) (hN:l.length<N) (hs:l.length≤1000000000000):Dc N b c (ints l) n e f K=K (l.all (inR b c)):=by
  subst hn
  rw [A09];unfold A08 A07
  have:=Bfl (N:=N) (b:=b) (c:=c) (e:=e) (f:=f) (K:=K) l hs l.length 0 N (by omega) hN
  simpa using this
def Buy (u:UnitD):Bool:=inR 0 24 u.upTime&&(inR 0 24 u.downTime&&(inR 0 24 u.startTime&&(inR 0 24 u.hotHours&&((u.state==0||(u.state==1||u.state==2))&&(inR 1 48 u.hours&&(!(u.state==1)||decide (u.hours≤u.startTime)))))))
theorem Bj8 {N:Nat} {u:UnitD} {b:Bool} {K:Bool→Option R}:Al8 N K b u.av=K (inR 1 48 u.hours&&(!(u.state==1)||decide (u.hours≤u.startTime))):=by
  unfold Al8 At9
  simp only [u20,u19,u12,cK];congr 1
  rw [Bool.eq_iff_iff];simp [inR];omega
theorem Bj9 {N n:Nat} {u:UnitD} {d e f g:Int} {b:Bool} {K:Bool→Option R}:Abw N K d e f g b u.av (n+5) 0 =
    K (inR 0 24 d&&(inR 0 24 e&&(inR 0 24 f&&(inR 0 24 g&&((u.state==0||(u.state==1||u.state==2))&&(inR 1 48 u.hours&&(!(u.state==1)||decide (u.hours≤u.startTime)))))))):=by
  have a1:IntKind.wrap .i64 ((0:Int)+1)=1:=by decide
  have a2:IntKind.wrap .i64 ((1:Int)+1)=2:=by decide
  have a3:IntKind.wrap .i64 ((2:Int)+1)=3:=by decide
  have a4:IntKind.wrap .i64 ((3:Int)+1)=4:=by decide
  simp only [Abw,Aua,Bj8,a1,a2,a3,a4,u19]
  simp [Ak,cK];congr 1
  generalize (decide (u.hours≤u.startTime))=t
  generalize inR 1 48 u.hours=s
  by_cases h0:u.state=0<;>by_cases h1:u.state=1<;>by_cases h2:u.state=2<;>first | omega | skip
  all_goals (rw [Bool.eq_iff_iff];cases s<;>cases t<;>simp [inR,h0,h1,h2]<;>omega)
theorem A7q {N:Nat} {u:UnitD} {b:Bool} {K:Bool→Option R} (hN:64≤N):Ro N u.av b K=K (Buy u):=by
  rw [Bez];unfold Bjv Bju
  obtain ⟨n,rfl⟩:∃ n,N=n+5:=⟨N - 5,by omega⟩
  simp only [u10,u11,u12,u15,Bj9];rfl
end
end Gx

namespace Gx
open Go Go.Proofs
section
variable {R:Type}
theorem in1 {N:Nat} {b c x:Int} {e f:Bool} {K:Bool→Option R} (hN:64≤N):Dc N b c [(.int .i64 x)] 1 e f K=K (inR b c x):=by
  have:=Afy (N:=N) (b:=b) (c:=c) (e:=e) (f:=f) (K:=K) [x] 1 rfl (by simp;omega) (by simp)
  simpa [ints] using this
theorem in2 {N:Nat} {b c x y:Int} {e f:Bool} {K:Bool→Option R} (hN:64≤N):Dc N b c [(.int .i64 x),(.int .i64 y)] 2 e f K=K (inR b c x&&inR b c y):=by
  have:=Afy (N:=N) (b:=b) (c:=c) (e:=e) (f:=f) (K:=K) [x,y] 2 rfl (by simp;omega) (by simp)
  simpa [ints] using this
theorem in4 {N:Nat} {b c x y z w:Int} {e f:Bool} {K:Bool→Option R} (hN:64≤N):Dc N b c [(.int .i64 x),(.int .i64 y),(.int .i64 z),(.int .i64 w)] 4 e f K=K (inR b c x&&(inR b c y&&(inR b c z&&inR b c w))):=by
  have:=Afy (N:=N) (b:=b) (c:=c) (e:=e) (f:=f) (K:=K) [x,y,z,w] 4 rfl (by simp;omega) (by simp)
  simpa [ints] using this
theorem in5 {N:Nat} {b c x y z w v:Int} {e f:Bool} {K:Bool→Option R} (hN:64≤N):Dc N b c [(.int .i64 x),(.int .i64 y),(.int .i64 z),(.int .i64 w),(.int .i64 v)] 5 e f K=K (inR b c x&&(inR b c y&&(inR b c z&&(inR b c w&&inR b c v)))):=by
  have:=Afy (N:=N) (b:=b) (c:=c) (e:=e) (f:=f) (K:=K) [x,y,z,w,v] 5 rfl (by simp;omega) (by simp)
  simpa [ints] using this
def segOk (p:Int):List SegD→Bool
  | []=>true
  | s::r=>inR 1 1048576 s.width&&(inR (-1048576) 1048576 s.price&&(decide (p≤s.price)&&segOk s.price r))
def Ao4:List SegD→Int
  | []=>0
  | s::r=>s.width+Ao4 r
def B4t (l:List SegD):Nat→Int
  | 0=>-1048576
  | j+1=>((l[j]?).map (·.price)).getD 0
theorem Buz {l:List SegD} {j:Nat} (h:j<l.length):B4t l (j+1)=l[j].price:=by simp [B4t,h]
theorem B2d {l:List SegD} {j:Nat} (h:j<l.length):List.drop ((Int.toNat (j:Int))*2) (l.flatMap SegD.av)=(.int .i64 l[j].width)::(.int .i64 l[j].price)::(l.drop (j+1)).flatMap SegD.av:=by
  rw [Int.toNat_natCast,Bzy (e:=SegD.av) (sz:=2) (fun _=>rfl) _ _ h];rfl
theorem B2e {x y:Int} {f:Int→Option R}:rdI .i64 (setCells [(.int .i64 0),(.int .i64 0)] 0 [(.int .i64 x),(.int .i64 y)]) f=f x:=rfl
theorem Bfm {x y:Int} {f:Int→Option R}:rdI .i64 (List.drop 1 (setCells [(.int .i64 0),(.int .i64 0)] 0 [(.int .i64 x),(.int .i64 y)])) f=f y:=rfl
theorem B8c {N:Nat} {u:UnitD} {b:Bool} {K:Bool→Option R} (hN:64≤N) (h2:0≤u.min∧u.min≤1048576) (h3:0≤u.max∧u.max≤1048576) (hl:u.segs.l.length≤8):∀ (m j fuel:Nat) (g:Int),j+m=u.segs.l.length→m<fuel→(0≤g∧g≤1048576*(j:Int)) →
    Ci N K (u.segs.l.flatMap SegD.av) u.segs.l.length b u.av fuel g (u.segs.l.length:Int) (j:Int)=K (segOk (B4t u.segs.l j) (u.segs.l.drop j)&&(g+Ao4 (u.segs.l.drop j)==u.max - u.min))
  | 0,j,fuel+1,g,hj,_,_=>by
    rw [Ci];unfold H8
    rw [ltF (by omega),cf,u3,u2,i64 (by omega),B4s (l:=u.segs.l) (by omega)]
    simp [segOk,Ao4]
  | m+1,j,fuel+1,g,hj,hf,hg=>by
    rw [Ci];unfold H8
    have h:j<u.segs.l.length:=by omega
    rw [ltT h,ct,Am h,ct,B2d h]
    have p0:List.take 2 ((AV.int .i64 u.segs.l[j].width)::(AV.int .i64 u.segs.l[j].price)::(u.segs.l.drop (j+1)).flatMap SegD.av)=[(.int .i64 u.segs.l[j].width),(.int .i64 u.segs.l[j].price)]:=rfl
    rw [p0,show Nat.ble 2 (List.length ((AV.int .i64 u.segs.l[j].width)::(AV.int .i64 u.segs.l[j].price)::(u.segs.l.drop (j+1)).flatMap SegD.av))=true by simp,ct]
    rw [show ((!b)||Bp [(AV.int .i64 u.segs.l[j].width),(.int .i64 u.segs.l[j].price)])=true by cases b<;>rfl,ct]
    rw [show ((Nat.beq (List.length [(AV.int .i64 u.segs.l[j].width),(.int .i64 u.segs.l[j].price)]) 2)&&((Nat.ble 2 2)&&(!false)))=true from rfl,ct,B2e,Bfm,in1 hN]
    simp only [in1 hN]
    rw [B4r h,segOk,Ao4]
    cases hw:inR 1 1048576 u.segs.l[j].width with
    | false=>simp
    | true =>
      cases hp:inR (-1048576) 1048576 u.segs.l[j].price with
      | false=>simp
      | true =>
        simp only [inR,Bool.and_eq_true,decide_eq_true_eq] at hw hp
        have step:=B8c (b:=b) (K:=K) hN h2 h3 hl m (j+1) fuel (g+u.segs.l[j].width) (by omega) (by omega) (by omega)
        rw [Buz h] at step
        have e1:IntKind.wrap .i64 (g+u.segs.l[j].width)=g+u.segs.l[j].width:=i64 (by omega)
        have e2:IntKind.wrap .i64 ((j:Int)+1)=((j+1:Nat):Int):=wS (by omega)
        unfold I7 Oe
        simp only [u4,Bfm,B2e,e1,e2,step]
        rcases j with _ | j
        · simp [B4t,hp.1,Int.add_assoc]
        · have hj':j<u.segs.l.length:=by omega
          rw [wP (by omega),Am hj',ct,B2d hj',Can,ct]
          rw [show ∀ r:List AV,List.drop 1 ((AV.int .i64 u.segs.l[j].width)::(AV.int .i64 u.segs.l[j].price)::r)=(AV.int .i64 u.segs.l[j].price)::r from fun _=>rfl,B5,Buz hj']
          simp only [Bool.not_true,beq_self_eq_true,cK,Int.add_assoc,Bool.true_and]
          simp only [cond_true,cond_false]
          congr 1
          by_cases hlt:u.segs.l[j+1].price<u.segs.l[j].price
          · simp [hlt,show ¬ u.segs.l[j].price≤u.segs.l[j+1].price by omega]
          · simp [hlt,show u.segs.l[j].price≤u.segs.l[j+1].price by omega]
def Bu0 (u:UnitD):Bool:=decide (u.segs.l.length≤8)&&(segOk (-1048576) u.segs.l&&(Ao4 u.segs.l==u.max - u.min))
theorem Cbn {N:Nat} {u:UnitD} {b:Bool} {K:Bool→Option R} (hN:64≤N) (h2:0≤u.min∧u.min≤1048576) (h3:0≤u.max∧u.max≤1048576):Gq N u.av b K=K (Bu0 u):=by
  rw [Aby];unfold V4 V3
  rw [u4]
  by_cases hl:u.segs.l.length≤8
  · rw [show decide ((u.segs.l.length:Int)>8)=false by simp;omega,cf,u4]
    have:=B8c (b:=b) (K:=K) hN h2 h3 hl u.segs.l.length 0 N 0 (by omega) (by omega) (by omega)
    simpa [Bu0,hl,B4t] using this
  · rw [show decide ((u.segs.l.length:Int)>8)=true by simp;omega,ct]
    simp [Bu0,hl]
end
end Gx

namespace Gx
open Go Go.Proofs
section
variable {R:Type}
def Au4 (hi p:Int):List Int→Bool
  | []=>true
  | x::r=>inR 0 hi x&&(decide (p<x)&&Au4 hi x r)
def B4u (l:List Int):Nat→Int
  | 0=>-1
  | j+1=>(l[j]?).getD 0
theorem Bu1 {l:List Int} {j:Nat} (h:j<l.length):B4u l (j+1)=l[j]:=by simp [B4u,h]
theorem B8d {N:Nat} {l:List Int} {e e':Bool} {f hi:Int} {K:Bool→Option R} (hN:64≤N) (hl:l.length≤1000000000000) (hf:IntKind.wrap .i64 (f - 1)=hi):∀ (m j fuel:Nat),j+m=l.length→m<fuel →
    H0 N K (ints l) l.length e e' f fuel (l.length:Int) (j:Int)=K (Au4 hi (B4u l j) (l.drop j))
  | 0,j,fuel+1,hj,_=>by
    rw [H0];unfold Ps
    rw [ltF (by omega),cf,B4s (l:=l) (by omega),Au4]
  | m+1,j,fuel+1,hj,hfu=>by
    rw [H0];unfold Ps
    have h:j<l.length:=by omega
    rw [ltT h,ct,Am h,ct,Bux h,in1 hN,hf,wS (by omega),B8d hN hl hf m (j+1) fuel (by omega) (by omega),B4r h,Au4,Bu1 h]
    cases hw:inR 0 hi l[j] with
    | false=>simp
    | true =>
      simp only [inR,Bool.and_eq_true,decide_eq_true_eq] at hw
      rcases j with _ | j
      · simp [B4u,show (-1:Int)<l[0] by omega]
      · have hj':j<l.length:=by omega
        rw [wP (by omega),Am hj',ct,Bux hj',Can,ct,Bu1 hj']
        by_cases hlt:l[j]<l[j+1]
        · simp [hlt,show ¬ l[j+1]≤l[j] by omega]
        · simp [hlt,show l[j+1]≤l[j] by omega]
theorem Cbo {N:Nat} {l:List Int} {n:Nat} {e e':Bool} {f hi:Int} {K:Bool→Option R} (hN:64≤N) (hl:l.length≤1000000000000) (hln:l.length<N) (hn:n=l.length) (hf:IntKind.wrap .i64 (f - 1)=hi):Pt N (ints l) n e e' f K=K (Au4 hi (-1) l):=by
  subst hn
  rw [Aql];unfold Aow Aov
  have:=B8d (N:=N) (e:=e) (e':=e') (K:=K) hN hl hf l.length 0 N (by omega) hln
  simpa [B4u] using this
def Cbp (u:UnitD):Bool:=cond (u.state==2) (inR u.min u.max u.output) (u.output==0)
def Fo (u:UnitD) (hours:Int):Bool :=
  inR 1 24 hours&&(Buy u&&(inR 0 1048576 u.min&&(inR 0 1048576 u.max&&(inR 0 1048576 u.rampUp&&(inR 0 1048576 u.rampDown&&(inR 0 1048576 u.reserve&&(decide (u.min≤u.max)&&(inR u.min u.max u.startRamp&&(inR u.min u.max u.stopRamp &&
  (inR 0 1048576 u.noLoad&&(inR 0 1048576 u.hotCost&&(inR 0 1048576 u.coldCost&&(inR 0 1048576 u.reservePrice&&(Cbp u&&(Bu0 u&&Au4 (hours - 1) (-1) u.away.l)))))))))))))))
theorem Ao5 {N:Nat} {u:UnitD} {b:Bool} {hours:Int} {K:Bool→Option R} (hN:64≤N) (hl:u.away.l.length≤1000000000000) (hln:u.away.l.length<N):Ajc N u.av b hours K=K (Fo u hours):=by
  rw [Be0];unfold Bjy Bjx
  rw [in1 hN]
  unfold Fo
  cases h0:inR 1 24 hours with
  | false=>simp
  | true =>
    have hh:1≤hours∧hours≤24:=by simpa [inR] using h0
    rw [Ws,Amu,ct,A7q hN]
    cases Buy u with
    | false=>simp
    | true =>
      unfold A1d Auf
      simp only [u2,u3,u6,u7,u16,in5 hN]
      cases h1:inR 0 1048576 u.min with
      | false=>simp
      | true =>
        cases h2:inR 0 1048576 u.max with
        | false=>simp
        | true =>
          unfold A1c Aue
          simp only [inR,Bool.and_eq_true,decide_eq_true_eq] at h1 h2
          simp only [u2,u3,u5,u8,u9,u13,u14,u17,u19,u21,u18,Ws,Amu,in2 hN,in4 hN,in1 hN,ct,Cbn hN h1 h2,Cbo hN hl hln rfl (i64 (a:=hours - 1) (by omega))]
          simp [cK];congr 1
          unfold Cbp
          by_cases hs:u.state=2
          · rw [Bool.eq_iff_iff];simp [hs];grind
          · rw [Bool.eq_iff_iff];simp [hs];grind
end
end Gx

namespace Gx
open Go Go.Proofs
section
variable {R:Type}
theorem B65 {v n:Int} (hn:0<n):Int.tmod (Int.tmod v n+n) n=v%n:=by
  have h1:0≤Int.tmod v n+n:=by
    have:=Int.lt_tmod_of_pos v hn;omega
  rw [Int.tmod_eq_emod_of_nonneg h1,Int.tmod_def,show v - n*v.tdiv n+n=v+n*(1 - v.tdiv n) by rw [Int.mul_sub];omega,Int.add_mul_emod_self_left]
theorem B9l {v n:Int} (hn:0<n) (h2:n≤4611686018427387904):IntKind.wrap .i64 (Int.tmod v n+n)=Int.tmod v n+n:=by
  have h1:=Int.lt_tmod_of_pos v hn
  have h3:=Int.tmod_lt_of_pos v hn
  exact i64 (by omega)
theorem Cdl {N:Nat} {v n:Int} {K:Int→Option R} (hn:0<n) (h2:n≤4611686018427387904):Ag8 N v n K=K (v%n):=by
  rw [A7e];unfold Bbp Bbo
  rw [B9l hn h2,B65 hn,show (n==0)=false by simp;omega,cf,cf]
end
end Gx

namespace Gx
open Go Go.Proofs
section
variable {R:Type}
theorem B8e (v:Int) {n:Int} (h:0<n):0≤v%n∧v%n<n:=⟨Int.emod_nonneg v (by omega),Int.emod_lt_of_pos v h⟩
end
end Gx

namespace Gx
open Go Go.Proofs
section
variable {R:Type}
def Hp (x y:Nat):Int:=if x<y then -1 else if y<x then 1 else 0
theorem Ahb (x:Nat):Hp x x=0:=by unfold Hp;simp
theorem Au5 {a b:Nat} (h:(dig a).length<(dig b).length):a<b:=Nat.lt_of_not_le fun h2=>by
  have:=Bv h2;omega
theorem Bpt {u w p q P:Nat} (hu:u<P) (hw:w<P) (h:p<q):u+P*p<w+P*q:=by
  have:P*(p+1)≤P*q:=Nat.mul_le_mul_left _ h
  rw [Nat.mul_add] at this
  omega
theorem Bzz {N:Nat} {x y:List Nat} {t u:Bool} {K:Int→Option R} (hx:Ai x) (hy:Ai y) (hs:x.length≤1000000000000) (he:x.length=y.length):∀ (i fuel:Nat),i≤x.length→i<fuel →
    Gk N K (Ae x) x.length t (Ae y) y.length u fuel ((i:Int) - 1)=K (Hp (val (x.take i)) (val (y.take i)))
  | 0,fuel+1,_,_=>by
    rw [Gk];unfold Nd
    rw [show decide ((((0:Nat):Int) - 1)≥0)=false by simp,cf]
    simp [Ahb]
  | i+1,fuel+1,hi,hf=>by
    rw [Gk];unfold Nd
    rw [show (((i+1:Nat):Int) - 1)=(i:Int) by omega,show decide ((i:Int)≥0)=true by simp,ct,Am (by omega),ct,rdl (by omega),Am (by omega),ct,rdl (by omega),ct,rdl (by omega),ct,rdl (by omega),i64 (by omega),
      Bzz hx hy hs he i fuel (by omega) (by omega),Az (by omega),Az (by omega)]
    have h1:=Be (Ca hx i)
    have h2:=Be (Ca hy i)
    rw [List.length_take,Nat.min_eq_left (by omega)] at h1 h2
    by_cases c1:x[i]<y[i]
    · have:=Bpt h1 h2 c1
      rw [show decide (((x[i]:Nat):Int)<((y[i]:Nat):Int))=true by simp;exact c1,ct]
      unfold Hp;rw [if_pos this]
    · by_cases c2:y[i]<x[i]
      · have:=Bpt h2 h1 c2
        rw [show decide (((x[i]:Nat):Int)<((y[i]:Nat):Int))=false by simp;omega,cf,show decide (((x[i]:Nat):Int)>((y[i]:Nat):Int))=true by simp;exact c2,ct]
        unfold Hp;rw [if_neg (by omega),if_pos this]
      · have:x[i]=y[i]:=by omega
        rw [show decide (((x[i]:Nat):Int)<((y[i]:Nat):Int))=false by simp;omega,cf,show decide (((x[i]:Nat):Int)>((y[i]:Nat):Int))=false by simp;omega,cf,this]
        unfold Hp
        congr 1
        by_cases a1:val (x.take i)<val (y.take i)
        · rw [if_pos a1,if_pos (by omega)]
        · by_cases a2:val (y.take i)<val (x.take i)
          · rw [if_neg a1,if_pos a2,if_neg (by omega),if_pos (by omega)]
          · rw [if_neg a1,if_neg a2,if_neg (by omega),if_neg (by omega)]
theorem Ug {N:Nat} {a b:List Nat} {n m:Nat} {t o t' o':Bool} {K:Int→Option R} (hn:n=a.length) (hm:m=b.length) (ha:Ai a) (hb:Ai b) (hf:fit (a.length+b.length) N) :
    D1 N (Ae a) n t o (Ae b) m t' o' K=K (Hp (val a) (val b)):=by
  subst hn hm
  have h1:=hf.1;have h2:=hf.2
  rw [Alq];unfold Ail Aik
  dsimp only
  rw [By rfl ha (hf.le (by omega)),By rfl hb (hf.le (by omega))]
  have la:=(Bn ha).2
  have lb:=(Bn hb).2
  by_cases he:(dig (val a)).length=(dig (val b)).length
  · rw [show ((((dig (val a)).length:Nat):Int) != (((dig (val b)).length:Nat):Int))=false by simp;omega,cf,i64 (by omega),Bzz (Ad _) (Ad _) (by omega) he _ N (Nat.le_refl _) (by omega),List.take_length,he,List.take_length,Ah,Ah]
  · rw [show ((((dig (val a)).length:Nat):Int) != (((dig (val b)).length:Nat):Int))=true by simp;omega,ct]
    by_cases hl:(dig (val a)).length<(dig (val b)).length
    · have:=Au5 hl
      rw [show decide ((((dig (val a)).length:Nat):Int)<(((dig (val b)).length:Nat):Int))=true by simp;omega,ct]
      unfold Hp;rw [if_pos this]
    · have:=Au5 (show (dig (val b)).length<(dig (val a)).length by omega)
      rw [show decide ((((dig (val a)).length:Nat):Int)<(((dig (val b)).length:Nat):Int))=false by simp;omega,cf]
      unfold Hp;rw [if_neg (by omega),if_pos this]
theorem Bu2 {N:Nat} {a:List Nat} {n:Nat} {t o:Bool} {K:Int→Option R} (hn:n=a.length) (ha:Ai a) (hf:fit a.length N):Yc N (Ae a) n t o K=K (Hp (val a) 0):=by
  subst hn
  have h1:=hf.1;have h2:=hf.2
  rw [Azz];unfold Azy Azx
  dsimp only
  rw [By rfl ha hf,B9i (by omega)]
  by_cases h0:val a=0
  · rw [h0,Dx,Ahb]
    cases N with
    | zero=>omega
    | succ N =>
      rw [Z7];unfold Aia
      rw [i64 (by simp)];simp
  · have hl:(dig (val a)).length≠0:=fun h=>h0 (Bo.1 h)
    rw [show ((((dig (val a)).length:Nat):Int) != (0:Int))=true by simp;exact fun h=>h0 (But.1 h),ct]
    rw [show decide ((((dig (val a)).length:Nat):Int)<(0:Int))=false by simp,cf]
    unfold Hp;rw [if_neg (by omega),if_pos (by omega)]
end
end Gx

namespace Gx
open Go Go.Proofs
section
variable {R:Type}
theorem Bfn:∀ {S:List Nat} {d v:Nat} (h:d<S.length),val (S.set d v)+4294967296 ^ d*S[d]=val S+4294967296 ^ d*v
  | x::r,0,v,_=>by simp [val];omega
  | x::r,d+1,v,h=>by
    have ih:=Bfn (S:=r) (d:=d) (v:=v) (by simpa using h)
    simp only [List.set_cons_succ,val,List.getElem_cons_succ,Nat.pow_succ]
    have e1:∀ y,4294967296 ^ d*4294967296*y=4294967296*(4294967296 ^ d*y):=fun y=>by rw [Nat.mul_comm (4294967296 ^ d),Nat.mul_assoc]
    rw [e1,e1]
    omega
theorem Uh (b:List Nat) (d:Nat):val (b.take (d+1))=val (b.take d)+4294967296 ^ d*b.getD d 0:=by
  by_cases h:d<b.length
  · rw [Az h,List.getD_eq_getElem?_getD,List.getElem?_eq_getElem h];rfl
  · rw [List.take_of_length_le (by omega),List.take_of_length_le (by omega),List.getD_eq_getElem?_getD,List.getElem?_eq_none (by omega)];simp
theorem Ok (P s:Nat):P*(s%4294967296)+P*4294967296*(s/4294967296)=P*s:=by
  rw [Nat.mul_assoc,← Nat.mul_add,Nat.add_comm,Nat.div_add_mod]
def zer (S:List Nat) (d:Nat):Prop:=∀ j (h:j<S.length),d≤j→S[j]=0
theorem Amv {S:List Nat} {d v:Nat} (h:zer S d):zer (S.set d v) (d+1):=fun j hj hd=>by
  rw [List.getElem_set]
  rw [if_neg (by omega)]
  exact h j (by simpa using hj) (by omega)
theorem Mw (n:Nat):zer (List.replicate n 0) 0:=fun j hj _=>by simp
theorem Aa2 {S:List Nat} {d v:Nat} (h:zer S d) (hd:d<S.length):val (S.set d v)=val S+4294967296 ^ d*v:=by
  have:=Bfn (v:=v) hd
  rw [h d hd (Nat.le_refl _)] at this;simpa using this
theorem wmk {a:Nat} (h:a≤1000000000000):IntKind.wrap .i64 (((a:Nat):Int)+(1:Int))=((a+1:Nat):Int):=wS h
theorem Cdm {x:Nat} {m:List Nat} (h:x<m.length):((Nat.beq 1 1)&&((Nat.ble ((0+(x*1))+1) (List.length (Ae m)))&&(!false)))=true:=by
  rw [Br];simp;omega
theorem Ccg {x v:Nat} {m:List Nat}:List.set (Ae m) (0+(x*1)) (.int .u32 (v:Int))=Ae (m.set x v):=by rw [Nat.mul_one,Nat.zero_add,Bfj]
theorem Bu3 {N:Nat} {a b:List Nat} {t u:Bool} (ha:Ai a) (hb:Ai b) (hf:fit (a.length+1) N) (hab:b.length≤a.length):∀ (m d fuel:Nat) (S:List Nat) (c:Nat),d+m=a.length→m<fuel→Ai S→S.length=a.length+1→zer S d→c≤1 →
    val S+4294967296 ^ d*c=val (a.take d)+val (b.take d) →
    ∃ S',Ai S'∧S'.length=a.length+1∧val S'=val a+val b∧∀ K:Nat→LA→Option R,Yz N K (Ae a) a.length t (Ae b) b.length u fuel (a.length+1) (c:Int) (a.length:Int) (d:Int) (Ae S)=K (dig (val a+val b)).length (Ae S')
  | 0,d,fuel+1,S,c,hd,_,hS,hl,hz,hc,hv=>by
    have h1:=hf.1;have h2:=hf.2
    have hd':d=a.length:=by omega
    subst hd'
    have hv2:val (S.set a.length c)=val a+val b:=by
      rw [Aa2 hz (by omega),hv,List.take_length,List.take_of_length_le hab]
    have hl2:=Ch hS (show c<4294967296 by omega) a.length
    refine ⟨S.set a.length c,hl2,by simpa using hl,hv2,fun K=>?_⟩
    rw [Yz];unfold Ai7
    rw [ltF (Nat.le_refl _),cf,Am (by omega),ct,Cdm (by omega),ct,w32 (by omega),Ccg,Aqn (by simp;omega) hl2 (by simp only [List.length_set,hl];exact hf),hv2]
  | m+1,d,fuel+1,S,c,hd,hfu,hS,hl,hz,hc,hv=>by
    have h1:=hf.1;have h2:=hf.2
    have hda:d<a.length:=by omega
    have ad:=A3 ha hda
    have step:∀ s:Nat,s<8589934592→s=c+a[d]+b.getD d 0→val (S.set d (s%4294967296))+4294967296 ^ (d+1)*(s/4294967296)=val (a.take (d+1))+val (b.take (d+1)):=by
      intro s _ hs
      rw [Aa2 hz (by omega),Az hda,Uh b d,Nat.pow_succ]
      have e:=Ok (4294967296 ^ d) s
      have e2:4294967296 ^ d*s=4294967296 ^ d*c+4294967296 ^ d*a[d]+4294967296 ^ d*b.getD d 0:=by rw [hs,Nat.mul_add,Nat.mul_add]
      omega
    by_cases hdb:d<b.length
    · have bd:=A3 hb hdb
      have hg:b.getD d 0=b[d]:=by rw [List.getD_eq_getElem?_getD,List.getElem?_eq_getElem hdb];rfl
      obtain ⟨S',q1,q2,q3,q4⟩:=Bu3 (t:=t) (u:=u) ha hb hf hab m (d+1) fuel (S.set d ((c+a[d]+b[d])%4294967296)) ((c+a[d]+b[d])/4294967296) (by omega) (by omega) (Ch hS (by omega) d) (by simpa using hl) (Amv hz) (by omega) (step _ (by omega) (by rw [hg]))
      refine ⟨S',q1,q2,q3,fun K=>?_⟩
      rw [Yz];unfold Ai7
      rw [ltT hda,ct,Am hda,ct,rdl hda,ltT hdb,ct,Am hdb,ct,rdl hdb,Am (by omega),ct,st1 (by omega),ct,w64 (by omega),w64 (by omega),Aqm,w64 (by omega),Aqm,w64 (by omega),Bj5,Bb4,A2g,wS (by omega)]
      exact q4 K
    · have hg:b.getD d 0=0:=by rw [List.getD_eq_getElem?_getD,List.getElem?_eq_none (by omega)];rfl
      obtain ⟨S',q1,q2,q3,q4⟩:=Bu3 (t:=t) (u:=u) ha hb hf hab m (d+1) fuel (S.set d ((c+a[d])%4294967296)) ((c+a[d])/4294967296) (by omega) (by omega) (Ch hS (by omega) d) (by simpa using hl) (Amv hz) (by omega) (step _ (by omega) (by rw [hg];rfl))
      refine ⟨S',q1,q2,q3,fun K=>?_⟩
      rw [Yz];unfold Ai7
      rw [ltT hda,ct,Am hda,ct,rdl hda,ltF (by omega),cf,Am (by omega),ct,st1 (by omega),ct,w64 (by omega),Aqm,w64 (by omega),Bj5,Bb4,A2g,wS (by omega)]
      exact q4 K
theorem Caq {N:Nat} {a b:List Nat} {t u:Bool} (ha:Ai a) (hb:Ai b) (hf:fit (a.length+1) N) (hab:b.length≤a.length) :
    ∃ S',Ai S'∧val S'=val a+val b∧∀ K:Nat→LA→Option R,A4p N K (Ae a) a.length t (Ae b) b.length u=K (dig (val a+val b)).length (Ae S'):=by
  have h1:=hf.1;have h2:=hf.2
  obtain ⟨S',q1,_,q3,q4⟩:=Bu3 (R:=R) (t:=t) (u:=u) ha hb hf hab a.length 0 N (List.replicate (a.length+1) 0) 0 (by omega) (by omega) (Ce _) (by simp) (Mw _) (by omega) (by rw [D3];simp [val])
  refine ⟨S',q1,q3,fun K=>?_⟩
  unfold A4p Baz
  rw [wmk (by omega),mk4 (by omega),ct,Int.toNat_natCast,Cz]
  exact q4 K
theorem Car {N:Nat} {a b:List Nat} {n m:Nat} {t o t' o':Bool} (hn:n=a.length) (hm:m=b.length) (ha:Ai a) (hb:Ai b) (hf:fit (a.length+b.length+1) N) :
    ∃ S',Ai S'∧val S'=val a+val b∧∀ K:Nat→LA→Option R,Bsz N (Ae a) n t o (Ae b) m t' o' K=K (dig (val a+val b)).length (Ae S'):=by
  subst hn hm
  have la:=(Bn ha).2
  have lb:=(Bn hb).2
  by_cases hl:(dig (val a)).length<(dig (val b)).length
  · obtain ⟨S',q1,q2,q3⟩:=Caq (R:=R) (N:=N) (a:=dig (val b)) (b:=dig (val a)) (t:=o') (u:=o) (Ad _) (Ad _) (hf.le (by omega)) (by omega)
    rw [Ah,Ah,Nat.add_comm] at q2
    refine ⟨S',q1,q2,fun K=>?_⟩
    rw [Ba0];unfold Bpp Bpo
    dsimp only
    rw [By rfl ha (hf.le (by omega)),By rfl hb (hf.le (by omega)),ltT hl,ct,q3,Ah,Ah,Nat.add_comm (val b)]
  · obtain ⟨S',q1,q2,q3⟩:=Caq (R:=R) (N:=N) (a:=dig (val a)) (b:=dig (val b)) (t:=o) (u:=o') (Ad _) (Ad _) (hf.le (by omega)) (by omega)
    rw [Ah,Ah] at q2
    refine ⟨S',q1,q2,fun K=>?_⟩
    rw [Ba0];unfold Bpp Bpo
    dsimp only
    rw [By rfl ha (hf.le (by omega)),By rfl hb (hf.le (by omega)),ltF (by omega),cf,q3,Ah,Ah]
end
end Gx

namespace Gx
open Go Go.Proofs
section
variable {R:Type}
theorem A49 {x y:Nat} (hx:x<4294967296) (hy:y≤4294967296):∃ d c:Nat,d<4294967296∧c≤1∧x+4294967296*c=d+y∧IntKind.wrap .u32 (IntKind.wrap .u64 ((x:Int) - (y:Int)))=(d:Int)∧Int.fdiv (IntKind.wrap .u64 ((x:Int) - (y:Int))) (2 ^ 63)=(c:Int):=by
  by_cases h:y≤x
  · refine ⟨x - y,0,by omega,by omega,by omega,?_,?_⟩
    · rw [Bj4 (by omega) h,w32 (by omega)]
    · rw [Bj4 (by omega) h,Cdk,Nat.div_eq_of_lt (by omega)]
  · refine ⟨x+4294967296 - y,1,by omega,by omega,by omega,?_,?_⟩
    · rw [Cam (by omega) (by omega),Bb4];congr 1;omega
    · rw [Cam (by omega) (by omega),Cdk];congr 1;omega
theorem Cbq {x c w:Nat} (hx:x<4294967296) (hc:c≤1) (hw:w<4294967296):IntKind.wrap .u64 ((IntKind.wrap .u64 ((x:Int) - (c:Int))) - (w:Int))=IntKind.wrap .u64 ((x:Int) - ((c+w:Nat):Int)):=by
  rw [Bb5,Bb5,Bb5];omega
theorem Bu4 {N:Nat} {a b:List Nat} {t u:Bool} (ha:Ai a) (hb:Ai b) (hf:fit a.length N) (hab:b.length≤a.length) (hle:val b≤val a):∀ (m d fuel:Nat) (S:List Nat) (c:Nat),d+m=a.length→m<fuel→Ai S→S.length=a.length→zer S d→c≤1 →
    val S+val (b.take d)=val (a.take d)+4294967296 ^ d*c →
    ∃ S',Ai S'∧val S'=val a - val b∧∀ K:Nat→Bool→LA→Option R,Yx N K (Ae b) b.length t a.length (Ae a) u fuel (c:Int) (a.length:Int) (d:Int) (Ae S)=K (dig (val a - val b)).length true (Ae S')
  | 0,d,fuel+1,S,c,hd,_,hS,hl,hz,hc,hv=>by
    have hd':d=a.length:=by omega
    subst hd'
    rw [List.take_length,List.take_of_length_le hab] at hv
    have hlt:=Be hS
    rw [hl] at hlt
    have hc0:c=0:=by
      rcases Nat.lt_or_ge 0 c with h | h
      · exfalso
        have:c=1:=by omega
        subst this
        omega
      · omega
    subst hc0
    have hv2:val S=val a - val b:=by omega
    refine ⟨S,hS,hv2,fun K=>?_⟩
    rw [Yx];unfold Ai5
    rw [ltF (Nat.le_refl _),cf,Aqn hl.symm hS (by rw [hl];exact hf),hv2]
  | m+1,d,fuel+1,S,c,hd,hfu,hS,hl,hz,hc,hv=>by
    have h1:=hf.1;have h2:=hf.2
    have hda:d<a.length:=by omega
    have ad:=A3 ha hda
    have step:∀ y g c':Nat,y=c+b.getD d 0→a[d]+4294967296*c'=g+y→val (S.set d g)+val (b.take (d+1))=val (a.take (d+1))+4294967296 ^ (d+1)*c':=by
      intro y g c' hy hg
      rw [Aa2 hz (by omega),Az hda,Uh b d,Nat.pow_succ,Nat.mul_assoc]
      have e:4294967296 ^ d*(a[d]+4294967296*c')=4294967296 ^ d*(g+(c+b.getD d 0)):=by rw [hg,hy]
      rw [Nat.mul_add,Nat.mul_add,Nat.mul_add] at e
      omega
    by_cases hdb:d<b.length
    · have bd:=A3 hb hdb
      have hg:b.getD d 0=b[d]:=by rw [List.getD_eq_getElem?_getD,List.getElem?_eq_getElem hdb];rfl
      obtain ⟨g,c',g1,g2,g3,g4,g5⟩:=A49 ad (show c+b[d]≤4294967296 by omega)
      obtain ⟨S',q1,q3,q4⟩:=Bu4 (t:=t) (u:=u) ha hb hf hab hle m (d+1) fuel (S.set d g) c' (by omega) (by omega) (Ch hS g1 d) (by simpa using hl) (Amv hz) g2 (step _ _ _ (by rw [hg]) g3)
      refine ⟨S',q1,q3,fun K=>?_⟩
      rw [Yx];unfold Ai5
      rw [ltT hda,ct,Am hda,ct,rdl hda,ltT hdb,ct,Am hdb,ct,rdl hdb,ct,st1 (by omega),ct,w64 (show a[d]<18446744073709551616 by omega),w64 (show b[d]<18446744073709551616 by omega),Cbq ad hc bd,g4,g5,A2g,wS (by omega)]
      exact q4 K
    · have hg:b.getD d 0=0:=by rw [List.getD_eq_getElem?_getD,List.getElem?_eq_none (by omega)];rfl
      obtain ⟨g,c',g1,g2,g3,g4,g5⟩:=A49 ad (show c≤4294967296 by omega)
      obtain ⟨S',q1,q3,q4⟩:=Bu4 (t:=t) (u:=u) ha hb hf hab hle m (d+1) fuel (S.set d g) c' (by omega) (by omega) (Ch hS g1 d) (by simpa using hl) (Amv hz) g2 (step _ _ _ (by rw [hg];rfl) g3)
      refine ⟨S',q1,q3,fun K=>?_⟩
      rw [Yx];unfold Ai5
      rw [ltT hda,ct,Am hda,ct,rdl hda,ltF (by omega),cf,ct,st1 (by omega),ct,w64 (show a[d]<18446744073709551616 by omega),g4,g5,A2g,wS (by omega)]
      exact q4 K
theorem Bu5 {N:Nat} {a b:List Nat} {n m:Nat} {t o t' o':Bool} (hn:n=a.length) (hm:m=b.length) (ha:Ai a) (hb:Ai b) (hf:fit (a.length+b.length) N) (hle:val b≤val a) :
    ∃ S',Ai S'∧val S'=val a - val b∧∀ K:Nat→Bool→LA→Option R,A0m N (Ae a) n t o (Ae b) m t' o' K=K (dig (val a - val b)).length true (Ae S'):=by
  subst hn hm
  have h1:=hf.1;have h2:=hf.2
  have la:=(Bn ha).2
  have lb:=(Bn hb).2
  have hll:=Bv hle
  obtain ⟨S',q1,q2,q3⟩:=Bu4 (R:=R) (N:=N) (a:=dig (val a)) (b:=dig (val b)) (t:=o') (u:=o) (Ad _) (Ad _) (hf.le (by omega)) hll (by rw [Ah,Ah];exact hle) (dig (val a)).length 0 N (List.replicate (dig (val a)).length 0) 0 (by omega) (by omega) (Ce _) (by simp) (Mw _) (by omega) (by rw [D3];simp [val])
  rw [Ah,Ah] at q2
  refine ⟨S',q1,q2,fun K=>?_⟩
  rw [Bar];unfold Bpn Bpm
  dsimp only
  rw [By rfl ha (hf.le (by omega)),By rfl hb (hf.le (by omega)),Ug rfl rfl (Ad _) (Ad _) (hf.le (by omega)),Ah,Ah]
  have:decide (Hp (val a) (val b)<0)=false:=by unfold Hp;split<;>(try split)<;>simp<;>omega
  rw [this,cf,mk4 (by omega),ct,Cz]
  have:=q3 K
  rw [Ah,Ah] at this
  exact this
theorem Cas {N:Nat} {a b:List Nat} {n m:Nat} {t o t' o':Bool} {K:Nat→Bool→LA→Option R} (hn:n=a.length) (hm:m=b.length) (ha:Ai a) (hb:Ai b) (hf:fit (a.length+b.length) N) (hle:val a<val b) :
    A0m N (Ae a) n t o (Ae b) m t' o' K=K 0 false []:=by
  subst hn hm
  have la:=(Bn ha).2
  have lb:=(Bn hb).2
  rw [Bar];unfold Bpn Bpm
  dsimp only
  rw [By rfl ha (hf.le (by omega)),By rfl hb (hf.le (by omega)),Ug rfl rfl (Ad _) (Ad _) (hf.le (by omega)),Ah,Ah]
  have:decide (Hp (val a) (val b)<0)=true:=by unfold Hp;rw [if_pos hle];rfl
  rw [this,ct]
end
end Gx

namespace Gx
open Go Go.Proofs
section
variable {R:Type}
theorem i0F {n:Nat} (h:n≠0):(((n:Nat):Int)==(0:Int))=false:=by rw [beq_eq_false_iff_ne];omega
theorem i0T {n:Nat} (h:n=0):(((n:Nat):Int)==(0:Int))=true:=by subst h;rfl
theorem B66:∀ {S:List Nat} {j:Nat} (h:j<S.length),4294967296 ^ j*S[j]≤val S
  | x::r,0,_=>by simp [val]
  | x::r,j+1,h=>by
    have:=B66 (S:=r) (j:=j) (by simpa using h)
    simp only [List.getElem_cons_succ,val,Nat.pow_succ]
    rw [Nat.mul_comm (4294967296 ^ j),Nat.mul_assoc]
    omega
theorem Cat {S:List Nat} {k:Nat} (h:val S<4294967296 ^ k):zer S k:=fun j hj hk=>by
  have h1:=B66 hj
  have h2:4294967296 ^ k≤4294967296 ^ j:=Nat.pow_le_pow_right (by omega) hk
  rcases Nat.eq_zero_or_pos S[j] with h0 | h0
  · exact h0
  · have:=Nat.le_mul_of_pos_right (4294967296 ^ j) h0
    omega
theorem B4v {p q y s:Nat} (hp:p<4294967296) (hq:q<4294967296) (hy:y<4294967296) (hs:s<4294967296):p+(q*y+s)<18446744073709551616:=by
  have:q*y≤4294967295*4294967295:=Nat.mul_le_mul (by omega) (by omega)
  omega
theorem Cau {N:Nat} {x y:List Nat} {c d:Bool} {f q J:Nat} (hy:Ai y) (hq:q<4294967296) (hf:f<x.length) (hs:x.length+y.length≤1000000000000):∀ (m l fuel:Nat) (S:List Nat) (p:Nat) (v:Nat),l+m=y.length→m<fuel→Ai S→S.length=x.length+y.length→zer S (f+y.length)→p<4294967296 →
    val S+4294967296 ^ (f+l)*p=v+4294967296 ^ f*(q*val (y.take l)) →
    ∃ S',Ai S'∧S'.length=x.length+y.length∧val S'=v+4294967296 ^ f*(q*val y)∧∀ (k1:Nat→Int→Int→LA→Option R) (K:Nat→LA→Option R),Yk N k1 K (Ae y) y.length d (x.length+y.length) (f:Int) (q:Int) (Ae x) x.length c (J:Int) fuel (p:Int) (y.length:Int) (l:Int) (Ae S)=k1 (x.length+y.length) J ((f+1:Nat):Int) (Ae S')
  | 0,l,fuel+1,S,p,v,hl,_,hS,hlen,hz,hp,hv=>by
    have hl':l=y.length:=by omega
    subst hl'
    rw [List.take_length] at hv
    refine ⟨S.set (f+y.length) p,Ch hS hp _,by simpa using hlen,by rw [Aa2 hz (by omega),hv],fun k1 K=>?_⟩
    rw [Yk];unfold As1
    rw [ltF (Nat.le_refl _),cf,wA (by omega),Am (by omega),ct,st1 (by omega),ct,w32 hp,A2g,wS (by omega)]
  | m+1,l,fuel+1,S,p,v,hl,hfu,hS,hlen,hz,hp,hv=>by
    have hly:l<y.length:=by omega
    have yl:=A3 hy hly
    have hi:f+l<S.length:=by omega
    have sl:=A3 hS hi
    have hw:=B4v hp hq yl sl
    have hqy:q*y[l]<18446744073709551616:=by omega
    generalize hsd:p+(q*y[l]+S[f+l])=s at *
    have hset:=Bfn (v:=s%4294967296) hi
    have key:val (S.set (f+l) (s%4294967296))+4294967296 ^ (f+(l+1))*(s/4294967296)=v+4294967296 ^ f*(q*val (y.take (l+1))):=by
      rw [Az hly,← Nat.add_assoc f l 1,Nat.pow_succ]
      have e:=Ok (4294967296 ^ (f+l)) s
      have e2:4294967296 ^ (f+l)*s=4294967296 ^ (f+l)*p+(4294967296 ^ (f+l)*(q*y[l])+4294967296 ^ (f+l)*S[f+l]):=by rw [← hsd,Nat.mul_add,Nat.mul_add]
      have e3:4294967296 ^ f*(q*(val (y.take l)+4294967296 ^ l*y[l]))=4294967296 ^ f*(q*val (y.take l))+4294967296 ^ (f+l)*(q*y[l]):=by
        rw [Nat.mul_add,Nat.mul_add,Nat.pow_add]
        congr 1
        rw [Nat.mul_assoc];congr 1
        rw [← Nat.mul_assoc,← Nat.mul_assoc,Nat.mul_comm q]
      omega
    obtain ⟨S',q1,q2,q3,q4⟩:=Cau (N:=N) (x:=x) (c:=c) (d:=d) (J:=J) hy hq hf hs m (l+1) fuel (S.set (f+l) (s%4294967296)) (s/4294967296) v (by omega) (by omega) (Ch hS (by omega) _) (by simpa using hlen) (fun j hj hk=>by
      rw [List.getElem_set,if_neg (by omega)];exact hz j (by simpa using hj) hk) (by omega) key
    refine ⟨S',q1,q2,q3,fun k1 K=>?_⟩
    rw [Yk];unfold As1
    rw [ltT hly,ct,Am hly,ct,rdl hly,wA (by omega),Am (by omega),ct,Bfk hi,ct,st1 hi,ct,w64 (show q<18446744073709551616 by omega),w64 (show y[l]<18446744073709551616 by omega),w64 (show S[f+l]<18446744073709551616 by omega),Buv,w64 hqy,Aqm,w64 (by omega),Aqm,hsd,w64 hw,Bj5,Bb4,A2g,wS (by omega)]
    exact q4 k1 K
theorem B2f {N:Nat} {x y:List Nat} {c d:Bool} (hx:Ai x) (hy:Ai y) (hfit:fit (x.length+y.length) N):∀ (m f fuel:Nat) (S:List Nat),f+m=x.length→m<fuel→Ai S→S.length=x.length+y.length →
    val S=val (x.take f)*val y →
    ∃ S',Ai S'∧val S'=val x*val y∧∀ K:Nat→LA→Option R,Mn N K (Ae y) y.length d (Ae x) x.length c fuel (x.length+y.length) (x.length:Int) (f:Int) (Ae S)=K (dig (val x*val y)).length (Ae S')
  | 0,f,fuel+1,S,hf,_,hS,hlen,hv=>by
    have hf':f=x.length:=by omega
    subst hf'
    rw [List.take_length] at hv
    refine ⟨S,hS,hv,fun K=>?_⟩
    rw [Mn];unfold Aij
    rw [ltF (Nat.le_refl _),cf,Aqn hlen.symm hS (by rw [hlen];exact hfit),hv]
  | m+1,f,fuel+1,S,hf,hfu,hS,hlen,hv=>by
    have h1:=hfit.1;have h2:=hfit.2
    have hfx:f<x.length:=by omega
    have xf:=A3 hx hfx
    have b1:=Be (Ca hx f)
    rw [List.length_take,Nat.min_eq_left (by omega)] at b1
    have b2:=Be hy
    have hbound:val S<4294967296 ^ (f+y.length):=by
      rw [hv,Nat.pow_add];exact Nat.mul_lt_mul'' b1 b2
    have hnext:val (x.take (f+1))*val y=val S+4294967296 ^ f*(x[f]*val y):=by
      rw [Az hfx,Nat.add_mul,hv,Nat.mul_assoc]
    by_cases h0:x[f]=0
    · obtain ⟨S',q1,q2,q3⟩:=B2f (c:=c) (d:=d) hx hy hfit m (f+1) fuel S (by omega) (by omega) hS hlen (by rw [hnext,h0];simp)
      refine ⟨S',q1,q2,fun K=>?_⟩
      rw [Mn];unfold Aij
      rw [ltT hfx,ct,Am hfx,ct,rdl hfx,show (((x[f]:Nat):Int)==0)=true by simp [h0],ct,wS (by omega)]
      exact q3 K
    · obtain ⟨S1,p1,p2,p3,p4⟩:=Cau (R:=R) (N:=N) (x:=x) (y:=y) (c:=c) (d:=d) (f:=f) (q:=x[f]) (J:=x.length) hy xf hfx (by omega) y.length 0 N S 0 (val S) (by omega) (by omega) hS hlen (Cat hbound) (by omega) (by simp [val])
      obtain ⟨S',q1,q2,q3⟩:=B2f (c:=c) (d:=d) hx hy hfit m (f+1) fuel S1 (by omega) (by omega) p1 p2 (by rw [p3,hnext])
      refine ⟨S',q1,q2,fun K=>?_⟩
      rw [Mn];unfold Aij
      rw [ltT hfx,ct,Am hfx,ct,rdl hfx,show (((x[f]:Nat):Int)==0)=false by simp;exact h0,cf]
      have:=p4 (Mn N K (Ae y) y.length d (Ae x) x.length c fuel) K
      simp only [Int.natCast_zero] at this
      dsimp only
      rw [this]
      exact q3 K
theorem A2h {N:Nat} {a b:List Nat} {n m:Nat} {t o t' o':Bool} (hn:n=a.length) (hm:m=b.length) (ha:Ai a) (hb:Ai b) (hf:fit (a.length+b.length) N) :
    ∃ S',Ai S'∧val S'=val a*val b∧∀ K:Nat→LA→Option R,As2 N (Ae a) n t o (Ae b) m t' o' K=K (dig (val a*val b)).length (Ae S'):=by
  subst hn hm
  have h1:=hf.1;have h2:=hf.2
  have la:=(Bn ha).2
  have lb:=(Bn hb).2
  by_cases ha0:val a=0
  · refine ⟨[],Zb,by rw [ha0];simp [val],fun K=>?_⟩
    rw [As3];unfold Bd0 Bdz
    dsimp only
    rw [By rfl ha (hf.le (by omega)),By rfl hb (hf.le (by omega)),ha0,Nat.zero_mul,Dx];rfl
  · by_cases hb0:val b=0
    · refine ⟨[],Zb,by rw [hb0];simp [val],fun K=>?_⟩
      rw [As3];unfold Bd0 Bdz
      dsimp only
      rw [By rfl ha (hf.le (by omega)),By rfl hb (hf.le (by omega)),hb0,Nat.mul_zero,Dx]
      cases ((((dig (val a)).length:Nat):Int)==0)<;>rfl
    · obtain ⟨S',q1,q2,q3⟩:=B2f (R:=R) (N:=N) (x:=dig (val a)) (y:=dig (val b)) (c:=o) (d:=o') (Ad _) (Ad _) (hf.le (by omega)) (dig (val a)).length 0 N (List.replicate ((dig (val a)).length+(dig (val b)).length) 0) (by omega) (by omega) (Ce _) (by simp) (by rw [D3];simp [val])
      rw [Ah,Ah] at q2
      refine ⟨S',q1,q2,fun K=>?_⟩
      rw [As3];unfold Bd0 Bdz
      dsimp only
      have n1:(dig (val a)).length≠0:=fun h=>ha0 (Bo.1 h)
      have n2:(dig (val b)).length≠0:=fun h=>hb0 (Bo.1 h)
      rw [By rfl ha (hf.le (by omega)),By rfl hb (hf.le (by omega)),i0F n1,show ((false:Bool)==false)=true by rfl,ct,cfB,i0F n2,cf]
      unfold Big Bac
      rw [wA (by omega),mk4 (by omega),ct,Int.toNat_natCast,Cz]
      have:=q3 K
      rw [Ah,Ah] at this
      exact this
end
end Gx

namespace Gx
open Go Go.Proofs
section
variable {R:Type}
theorem Bfo {v:Nat} (h:(dig v).length≤2):v<18446744073709551616:=by
  have:=Be (Ad v)
  rw [Ah] at this
  have h2:4294967296 ^ (dig v).length≤4294967296 ^ 2:=Nat.pow_le_pow_right (by omega) h
  omega
theorem Afz {v:Nat} (h:v<18446744073709551616):(dig v).length≤2:=B6 (by simpa using h)
theorem Aqo {N:Nat} {l:List Nat} {n:Nat} {t o:Bool} {K:Int→Option R} (hn:n=l.length) (hl:Ai l) (h2:l.length≤2) (hN:4≤N):Vj N (Ae l) n t o K=K (val l:Int):=by
  subst hn
  obtain ⟨M,rfl⟩:∃ M,N=M+4:=⟨N - 4,by omega⟩
  rw [Bmd];unfold Bsg Bsf
  match l,hl,h2 with
  | [],_,_ =>
    dsimp only
    rw [La];unfold Kz
    simp [val]
  | [x],hl,_ =>
    have hx:=(De.1 hl).1
    dsimp only
    rw [La];unfold Kz
    simp only [List.length_cons,List.length_nil,Int.toNat_zero,Nat.zero_mul,List.drop_zero,Aha,B5]
    rw [show decide ((0:Int)<((0+1:Nat):Int))=true by decide,ct,show Ak 0 (0+1)=true by decide,ct,show IntKind.wrap .i64 ((32:Int)*0)=0 by decide,show decide ((0:Int)<0)=false by decide,cf]
    rw [La];unfold Kz
    rw [show IntKind.wrap .i64 ((0:Int)+1)=1 by decide,show decide ((1:Int)<((0+1:Nat):Int))=false by decide,cf]
    have e:IntKind.wrap .u64 ((IntKind.wrap .u64 (x:Int))*2 ^ (min (Int.toNat 0) 64))=(x:Int):=by rw [w64 (by omega)];simp;exact w64 (by omega)
    rw [e,show (0:Int)=((0:Nat):Int) by rfl,B64 (by omega) (by omega)]
    simp [val]
  | [x,y],hl,_ =>
    have hx:=(De.1 hl).1
    have hy:=(De.1 (De.1 hl).2).1
    dsimp only
    rw [La];unfold Kz
    simp only [List.length_cons,List.length_nil,Int.toNat_zero,Nat.zero_mul,List.drop_zero,Aha,B5]
    rw [show decide ((0:Int)<((0+1+1:Nat):Int))=true by decide,ct,show Ak 0 (0+1+1)=true by decide,ct,show IntKind.wrap .i64 ((32:Int)*0)=0 by decide,show decide ((0:Int)<0)=false by decide,cf]
    rw [La];unfold Kz
    rw [show IntKind.wrap .i64 ((0:Int)+1)=1 by decide,show decide ((1:Int)<((0+1+1:Nat):Int))=true by decide,ct,show Ak 1 (0+1+1)=true by decide,ct,show IntKind.wrap .i64 ((32:Int)*1)=32 by decide,show decide ((32:Int)<0)=false by decide]
    simp only [show Int.toNat 1*1=1 by rfl,List.drop_succ_cons,List.drop_zero,B5,cf]
    rw [La];unfold Kz
    rw [show IntKind.wrap .i64 ((1:Int)+1)=2 by decide,show decide ((2:Int)<((0+1+1:Nat):Int))=false by decide,cf]
    have e:IntKind.wrap .u64 ((IntKind.wrap .u64 (x:Int))*2 ^ (min (Int.toNat 0) 64))=(x:Int):=by rw [w64 (by omega)];simp;exact w64 (by omega)
    have e2:IntKind.wrap .u64 ((IntKind.wrap .u64 (y:Int))*2 ^ (min (Int.toNat 32) 64))=((y*2 ^ 32:Nat):Int):=by
      rw [w64 (by omega),show (2:Int) ^ (min (Int.toNat 32) 64)=((2 ^ 32:Nat):Int) by rfl,Buv,w64 (by omega)]
    rw [e,e2,show (0:Int)=((0:Nat):Int) by rfl,B64 (by omega) (by omega),B64 (by simp;omega) (by omega),Nat.zero_or,Nat.or_comm,Bj6 (by omega)]
    congr 1;simp only [val];omega
theorem Lm {N:Nat} {v:Nat} (hv:v<18446744073709551616) (hN:4≤N):∃ S,Ai S∧val S=v∧∀ K:Nat→LA→Option R,Bu N (v:Int) K=K (dig v).length (Ae S):=by
  have hl:Ai [v%4294967296,v/4294967296]:=De.2 ⟨by omega,De.2 ⟨by omega,Zb⟩⟩
  have hval:val [v%4294967296,v/4294967296]=v:=by simp [val];omega
  refine ⟨_,hl,hval,fun K=>?_⟩
  rw [Alf];unfold Ah8 Ah7
  rw [Bb4,Bj5,w32 (show v/4294967296<4294967296 by omega)]
  have:=Buw (R:=R) (N:=N) (l:=[v%4294967296,v/4294967296]) (K:=fun c=>K c (Ae [v%4294967296,v/4294967296])) hl (by simp) 2 N (by simp) (by omega)
  rw [show [v%4294967296,v/4294967296].take 2=[v%4294967296,v/4294967296] by rfl,hval] at this
  rw [A9s];unfold Bpl Bpk
  exact this
theorem Ol {N:Nat} {l:List Nat} {n:Nat} {t o:Bool} {K:Int→Bool→Option R} (hn:n=l.length) (hl:Ai l) (hf:fit l.length N):Agz N (Ae l) n t o K=if val l<18446744073709551616 then K (val l:Int) true else K 0 false:=by
  have h1:=hf.1
  rw [A6w];unfold Baa A99
  rw [By hn hl hf]
  by_cases h:val l<18446744073709551616
  · have:=Afz h
    rw [if_pos h,show decide ((((dig (val l)).length:Nat):Int)>2)=false by simp;omega,cf,Aqo rfl (Ad _) this (by omega),Ah]
  · have:¬ (dig (val l)).length≤2:=fun h2=>h (Bfo h2)
    rw [if_neg h,show decide ((((dig (val l)).length:Nat):Int)>2)=true by simp;omega,ct]
theorem A5a {N:Nat} {l:List Nat} {n:Nat} {t o:Bool} {K:Nat→LA→Option R} (hn:n=l.length) (hl:Ai l) (hf:fit l.length N):Afi N (Ae l) n t o K=K (dig (val l)).length (Ae (dig (val l))):=by
  have h1:=hf.1;have h2:=hf.2
  have:=(Bn hl).2
  rw [Bmh];unfold Bso Bsn
  rw [By hn hl hf,mk4 (by omega),ct,Amt,Bool.or_true,ct]
  congr 1
  unfold Eh
  rw [Nat.min_self,Nat.mul_one,List.take_zero,List.nil_append,List.take_of_length_le (by rw [Br];exact Nat.le_refl _),List.drop_eq_nil_of_le (by simp [Br]),List.append_nil]
end
end Gx

namespace Gx
open Go Go.Proofs
section
variable {R:Type}
def Cd0:List UInt8:=[0,1,2,2,3,3,3,3,4,4,4,4,4,4,4,4,5,5,5,5,5,5,5,5,5,5,5,5,5,5,5,5,6,6,6,6,6,6,6,6,6,6,6,6,6,6,6,6,6,6,6,6,6,6,6,6,6,6,6,6,6,6,6,6,7,7,7,7,7,7,7,7,7,7,7,7,7,7,7,7,7,7,7,7,7,7,7,7,7,7,7,7,7,7,7,7,7,7,7,7,7,7,7,7,7,7,7,7,7,7,7,7,7,7,7,7,7,7,7,7,7,7,7,7,7,7,7,7,8,8,8,8,8,8,8,8,8,8,8,8,8,8,8,8,8,8,8,8,8,8,8,8,8,8,8,8,8,8,8,8,8,8,8,8,8,8,8,8,8,8,8,8,8,8,8,8,8,8,8,8,8,8,8,8,8,8,8,8,8,8,8,8,8,8,8,8,8,8,8,8,8,8,8,8,8,8,8,8,8,8,8,8,8,8,8,8,8,8,8,8,8,8,8,8,8,8,8,8,8,8,8,8,8,8,8,8,8,8,8,8,8,8,8,8,8,8,8,8,8,8,8,8,8,8,8,8]
theorem Cbr:∀ i:Fin 256,0<i.1→2 ^ (Cd0.getD i.1 0).toNat≤2*i.1∧i.1<2 ^ (Cd0.getD i.1 0).toNat:=by decide +kernel
theorem Bu6 {k y x m:Nat} (h:2 ^ k≤2*y∧y<2 ^ k) (hy:y=x/2 ^ m):2 ^ (k+m)≤2*x∧x<2 ^ (k+m):=by
  have hp:0<2 ^ m:=Nat.pow_pos (by omega)
  have h1:x<2 ^ m*(y+1):=by rw [hy];have:=Nat.div_add_mod x (2 ^ m);have:=Nat.mod_lt x hp;rw [Nat.mul_add];omega
  have h2:2 ^ m*y≤x:=by rw [hy];exact Nat.mul_div_le x _
  have h3:2 ^ m*(y+1)≤2 ^ m*2 ^ k:=Nat.mul_le_mul_left _ h.2
  have h4:2 ^ m*2 ^ k≤2 ^ m*(2*y):=Nat.mul_le_mul_left _ h.1
  rw [Nat.pow_add,Nat.mul_comm (2 ^ k)]
  have h5:2 ^ m*(2*y)=2*(2 ^ m*y):=by rw [Nat.mul_left_comm]
  omega
theorem Cch {a:Nat} (h:a<256):IntKind.wrap .u8 (a:Int)=(a:Int):=by rw [wrap_u8];congr 1;omega
theorem Cci {N:Nat} {a b:Nat} {K:Int→Option R} (h0:0<a) (h1:a<65536) (hb:b≤16):∃ k:Nat,2 ^ k≤2*a∧a<2 ^ k∧k≤16∧G4 N K (a:Int) (b:Int)=K ((b+k:Nat):Int):=by
  have small:∀ i:Nat,0<i→i<256→∃ k:Nat,(2 ^ k≤2*i∧i<2 ^ k)∧k≤8∧(Cd0.getD i 0).toNat=k:=by
    intro i hi hi2
    have:=Cbr ⟨i,hi2⟩ hi
    refine ⟨_,this,?_,rfl⟩
    rcases Nat.lt_or_ge 8 (Cd0.getD i 0).toNat with h | h
    · have h3:=this.1
      have h4:2 ^ 9≤2 ^ (Cd0.getD i 0).toNat:=Nat.pow_le_pow_right (by omega) h
      simp only at h3
      omega
    · exact h
  by_cases h:a≥256
  · obtain ⟨k,p1,p2,p3⟩:=small (a/256) (by omega) (by omega)
    have p4:=Bu6 (m:=8) p1 (show a/256=a/2 ^ 8 by rfl)
    refine ⟨k+8,p4.1,p4.2,by omega,?_⟩
    unfold G4 I3
    rw [show decide (((a:Nat):Int)≥256)=true by simp;omega,ct,Wr a 8,show a/2 ^ 8=a/256 by rfl,Cch (by omega),Am (by omega),ct,Int.toNat_natCast]
    change K (IntKind.wrap .i64 (IntKind.wrap .i64 ((b:Int)+8)+IntKind.wrap .i64 (((Cd0.getD (a/256) 0).toNat:Nat):Int)))=_
    rw [p3,i64 (a:=(b:Int)+8) (by omega),i64 (a:=(k:Int)) (by omega),i64 (by omega)]
    congr 1;omega
  · obtain ⟨k,p1,p2,p3⟩:=small a (by omega) (by omega)
    refine ⟨k,p1.1,p1.2,by omega,?_⟩
    unfold G4 I3
    rw [show decide (((a:Nat):Int)≥256)=false by simp;omega,cf,Cch (by omega),Am (by omega),ct,Int.toNat_natCast]
    change K (IntKind.wrap .i64 ((b:Int)+IntKind.wrap .i64 (((Cd0.getD a 0).toNat:Nat):Int)))=_
    rw [p3,i64 (a:=(k:Int)) (by omega),i64 (by omega)]
    congr 1
theorem B67 {N:Nat} {c:Nat} {K:Int→Option R} (h0:0<c) (h1:c<4294967296):∃ k:Nat,2 ^ k≤2*c∧c<2 ^ k∧k≤32∧Md N (c:Int) K=K (k:Int):=by
  rw [Adk];unfold Yo Yn
  by_cases h:c≥65536
  · obtain ⟨k,p1,p2,p3,p4⟩:=Cci (R:=R) (N:=N) (a:=c/65536) (b:=16) (K:=K) (by omega) (by omega) (by omega)
    have p5:=Bu6 (m:=16) ⟨p1,p2⟩ (show c/65536=c/2 ^ 16 by rfl)
    refine ⟨k+16,p5.1,p5.2,by omega,?_⟩
    rw [show decide (((c:Nat):Int)≥65536)=true by simp;omega,ct,Wr c 16,show c/2 ^ 16=c/65536 by rfl]
    rw [Nat.add_comm k];exact p4
  · obtain ⟨k,p1,p2,p3,p4⟩:=Cci (R:=R) (N:=N) (a:=c) (b:=0) (K:=K) (by omega) (by omega) (by omega)
    refine ⟨k,p1,p2,by omega,?_⟩
    rw [show decide (((c:Nat):Int)≥65536)=false by simp;omega,cf]
    rw [Nat.zero_add] at p4;exact p4
theorem B8f {N:Nat} {c:Nat} (h0:0<c) (h1:c<4294967296):∃ s:Nat,s≤31∧2147483648≤c*2 ^ s∧c*2 ^ s<4294967296∧∀ K:Int→Option R,B0 N (c:Int) K=K (s:Int):=by
  have key:∀ K:Int→Option R,∃ s:Nat,(s≤31∧2147483648≤c*2 ^ s∧c*2 ^ s<4294967296)∧B0 N (c:Int) K=K (s:Int):=by
    intro K
    rw [Me];unfold Hr Hq
    obtain ⟨k,p1,p2,p3,p4⟩:=B67 (R:=R) (N:=N) (K:=fun c=>K (IntKind.wrap .i64 ((32:Int) - c))) h0 h1
    have e:2 ^ k*2 ^ (32 - k)=4294967296:=by rw [← Nat.pow_add,show k+(32 - k)=32 by omega]
    have hk:1≤k:=by
      rcases Nat.eq_zero_or_pos k with h | h
      · subst h;simp at p2;omega
      · exact h
    refine ⟨32 - k,⟨by omega,?_,?_⟩,?_⟩
    · have:=Nat.mul_le_mul_right (2 ^ (32 - k)) p1
      rw [e,Nat.mul_assoc] at this;omega
    · have:=(Nat.mul_lt_mul_right (show 0<2 ^ (32 - k) from Nat.pow_pos (by omega))).2 p2
      rw [e] at this;exact this
    · rw [p4,i64 (by omega)];congr 1;omega
  obtain ⟨s,hs,_⟩:=key fun _=>none
  refine ⟨s,hs.1,hs.2.1,hs.2.2,fun K=>?_⟩
  obtain ⟨s',hs',e⟩:=key K
  have:s'=s:=by
    rcases Nat.lt_trichotomy s s' with h | h | h
    · exfalso
      have h2:2 ^ (s+1)≤2 ^ s':=Nat.pow_le_pow_right (by omega) h
      have h3:=Nat.mul_le_mul_left c h2
      rw [Nat.pow_succ,← Nat.mul_assoc] at h3
      omega
    · exact h.symm
    · exfalso
      have h2:2 ^ (s'+1)≤2 ^ s:=Nat.pow_le_pow_right (by omega) h
      have h3:=Nat.mul_le_mul_left c h2
      rw [Nat.pow_succ,← Nat.mul_assoc] at h3
      omega
  rw [e,this]
theorem B2g {s:Nat} (h:s≤31):2 ^ s≤2147483648:=Nat.pow_le_pow_right (n:=2) (by omega) h
theorem Cav {x c s:Nat} (hx:x<4294967296) (hc:c<2 ^ s) (hs:s≤31):T2 .u64 (c:Int) (IntKind.wrap .u64 ((IntKind.wrap .u64 (x:Int))*2 ^ (min (Int.toNat (s:Int)) 64)))=((x*2 ^ s+c:Nat):Int)∧x*2 ^ s+c<4294967296*2 ^ s:=by
  have hp:=B2g hs
  have h1:x*2 ^ s≤4294967295*2 ^ s:=Nat.mul_le_mul_right _ (by omega)
  have h2:(x+1)*2 ^ s≤4294967296*2 ^ s:=Nat.mul_le_mul_right _ (by omega)
  rw [Nat.add_mul] at h2
  refine ⟨?_,by omega⟩
  rw [w64 (by omega),Int.toNat_natCast,Nat.min_eq_left (by omega),show (2:Int) ^ s=((2 ^ s:Nat):Int) by simp,Buv,w64 (by omega),B64 (by omega) (by omega),Nat.or_comm,Bj6 hc]
theorem Bfp {N:Nat} {a:List Nat} {t o:Bool} {s:Nat} (ha:Ai a) (hs:s≤31) (hz':a.length≤1000000000000):∀ (m d fuel:Nat) (S:List Nat) (c:Nat),d+m=a.length→m<fuel→Ai S→S.length=a.length+1→zer S d→c<2 ^ s →
    val S+4294967296 ^ d*c=val (a.take d)*2 ^ s →
    ∃ S',Ai S'∧S'.length=a.length+1∧val S'=val a*2 ^ s∧∀ K:Nat→LA→Option R,Mp N K (Ae a) a.length t o (s:Int) fuel (a.length+1) (c:Int) (a.length:Int) (d:Int) (Ae S)=K (a.length+1) (Ae S')
  | 0,d,fuel+1,S,c,hd,_,hS,hl,hz,hc,hv=>by
    have hd':d=a.length:=by omega
    subst hd'
    have hp:=B2g hs
    rw [List.take_length] at hv
    refine ⟨S.set a.length c,Ch hS (by omega) _,by simpa using hl,by rw [Aa2 hz (by omega),hv],fun K=>?_⟩
    rw [Mp];unfold Vt
    rw [ltF (Nat.le_refl _),cf,Am (by omega),ct,Cdm (by omega),ct,w32 (by omega),Ccg]
  | m+1,d,fuel+1,S,c,hd,hfu,hS,hl,hz,hc,hv=>by
    have hda:d<a.length:=by omega
    have ad:=A3 ha hda
    obtain ⟨w1,w2⟩:=Cav ad hc hs
    generalize hsd:a[d]*2 ^ s+c=w at *
    have hpos:0<2 ^ s:=Nat.pow_pos (by omega)
    have key:val (S.set d (w%4294967296))+4294967296 ^ (d+1)*(w/4294967296)=val (a.take (d+1))*2 ^ s:=by
      rw [Aa2 hz (by omega),Az hda,Nat.pow_succ,Nat.add_mul,Nat.mul_assoc _ a[d]]
      have e:=Ok (4294967296 ^ d) w
      have e2:4294967296 ^ d*w=4294967296 ^ d*(a[d]*2 ^ s)+4294967296 ^ d*c:=by rw [← hsd,Nat.mul_add]
      omega
    obtain ⟨S',q1,q2,q3,q4⟩:=Bfp (t:=t) (o:=o) ha hs hz' m (d+1) fuel (S.set d (w%4294967296)) (w/4294967296) (by omega) (by omega) (Ch hS (by omega) d) (by simpa using hl) (Amv hz) (Nat.div_lt_of_lt_mul w2) key
    refine ⟨S',q1,q2,q3,fun K=>?_⟩
    rw [Mp];unfold Vt
    rw [ltT hda,ct,Am hda,ct,rdl hda,show decide (((s:Nat):Int)<0)=false by simp,cf,Am (by omega),ct,st1 (by omega),ct,w1,Bj5,Bb4,A2g,wS (by omega)]
    exact q4 K
theorem Bfq {N:Nat} {a:List Nat} {n:Nat} {t o:Bool} {s:Nat} (hn:n=a.length) (ha:Ai a) (hs:s≤31) (hf:fit a.length N) :
    ∃ S',Ai S'∧S'.length=a.length+1∧val S'=val a*2 ^ s∧∀ K:Nat→LA→Option R,Yr N (Ae a) n t o (s:Int) K=K (a.length+1) (Ae S'):=by
  subst hn
  have h1:=hf.1;have h2:=hf.2
  obtain ⟨S',q1,q2,q3,q4⟩:=Bfp (R:=R) (N:=N) (t:=t) (o:=o) ha hs (by omega) a.length 0 N (List.replicate (a.length+1) 0) 0 (by omega) (by omega) (Ce _) (by simp) (Mw _) (Nat.pow_pos (by omega)) (by rw [D3];simp [val])
  refine ⟨S',q1,q2,q3,fun K=>?_⟩
  rw [A0k];unfold A0j A0i
  rw [wmk (by omega),mk4 (by omega),ct,Int.toNat_natCast,Cz]
  exact q4 K
end
end Gx

namespace Gx
open Go Go.Proofs
section
variable {R:Type}
theorem rdw {P U Q:List Nat} {i:Nat} (h:i<U.length) {f:Int→Option R}:rdI .u32 (List.drop (P.length+((Int.toNat (i:Int))*1)) (Ae (P++(U++Q)))) f=f (U[i]:Nat):=by
  rw [Int.toNat_natCast,Nat.mul_one,B4n (by simp;omega)]
  congr 2
  rw [List.getElem_append_right (by omega)]
  simp only [Nat.add_sub_cancel_left]
  rw [List.getElem_append_left h]
theorem stw {P U Q:List Nat} {i:Nat} (h:i<U.length):((Nat.beq 1 1)&&((Nat.ble ((P.length+((Int.toNat (i:Int))*1))+1) (List.length (Ae (P++(U++Q)))))&&(!false)))=true:=by
  rw [Br,Int.toNat_natCast];simp;omega
theorem Caw {P U Q:List Nat} {i v:Nat} (h:i<U.length):List.set (Ae (P++(U++Q))) (P.length+((Int.toNat (i:Int))*1)) (.int .u32 (v:Int))=Ae (P++(U.set i v++Q)):=by
  rw [Int.toNat_natCast,Nat.mul_one,Bfj,List.set_append_right _ _ (by omega),Nat.add_sub_cancel_left,List.set_append_left _ _ h]
theorem Cdw {P U Q:List Nat} {i:Nat} (h:i<U.length) {f:Int→Option R}:rdI .u32 (List.drop (P.length+(i*1)) (Ae (P++(U++Q)))) f=f (U[i]:Nat):=by
  have:=rdw (R:=R) (P:=P) (Q:=Q) (f:=f) h;rw [Int.toNat_natCast] at this;exact this
theorem Bfr {X:List Nat} {p g:Nat} (h:p<X.length):val ((X.set p g).take (p+1))=val (X.take p)+4294967296 ^ p*g:=by
  rw [Az (by simpa using h),List.getElem_set_self,List.take_set_of_le (Nat.le_refl _)]
theorem Aqp {X:List Nat} {n:Nat} (h:X.length=n+1):val X=val (X.take n)+4294967296 ^ n*X[n]:=by
  have:=Az (l:=X) (c:=n) (by omega)
  rwa [List.take_of_length_le (by omega)] at this
theorem B8g {D:Nat} (h:1≤D) (h2:D<18446744073709551616):IntKind.wrap .u64 ((D:Int) - 1)=((D - 1:Nat):Int):=by rw [Bb5];omega
theorem Cbs {D y t:Nat} (hD:D<4294967296) (hy:y<4294967296) (ht:t≤4294967296):D*y+t<18446744073709551616∧(D*y+t)/4294967296+1≤4294967296:=by
  have:D*y≤4294967295*4294967295:=Nat.mul_le_mul (by omega) (by omega)
  omega
theorem B8h {N:Nat} {P Q X v:List Nat} {n D:Nat} {f g:Bool} (hv:Ai v) (hn:v.length=n) (hX:Ai X) (hXl:X.length=n+1) (hs:n≤1000000000000) (hD:D<4294967296) (hD1:1≤D) {r:Nat} (hr:val X+val v=4294967296 ^ (n+1)+r) (hrv:r<4294967296 ^ n) :
    ∀ (m o fuel:Nat) (Y:List Nat) (c:Nat),o+m=n→m<fuel→Ai Y→Y.length=n+1→(∀ j (h1:j<Y.length) (h2:j<X.length),o≤j→Y[j]=X[j])→c≤1→val (Y.take o)+4294967296 ^ o*c=val (X.take o)+val (v.take o) →
    ∃ Y',Ai Y'∧Y'.length=n+1∧val Y'=r∧∀ K:Int→LA→Option R,Hw N K P.length (n+1) (n:Int) (D:Int) (Ae v) n f g fuel (c:Int) (n:Int) (o:Int) (Ae (P++(Y++Q)))=K ((D - 1:Nat):Int) (Ae (P++(Y'++Q)))
  | 0,o,fuel+1,Y,c,ho,_,hY,hYl,hag,hc,hval=>by
    have ho':o=n:=by omega
    subst ho'
    rw [show v.take o=v by rw [← hn];exact List.take_length] at hval
    have e1:=Aqp hXl
    have eq:val (Y.take o)+4294967296 ^ o*(X[o]+c)=4294967296 ^ o*4294967296+r:=by
      rw [Nat.mul_add,← Nat.pow_succ];omega
    have yt:=Be (Ca hY o)
    rw [List.length_take,Nat.min_eq_left (by omega)] at yt
    have hP:0<4294967296 ^ o:=Nat.pow_pos (by omega)
    have hw:X[o]+c=4294967296:=by
      have h1:(val (Y.take o)+4294967296 ^ o*(X[o]+c))/4294967296 ^ o=X[o]+c:=by rw [Nat.add_mul_div_left _ _ hP,Nat.div_eq_of_lt yt,Nat.zero_add]
      have h2:(4294967296 ^ o*4294967296+r)/4294967296 ^ o=4294967296:=by rw [Nat.mul_add_div hP,Nat.div_eq_of_lt hrv,Nat.add_zero]
      rw [← h1,eq,h2]
    have hyr:val (Y.take o)=r:=by rw [hw] at eq;omega
    have hyo:Y[o]=X[o]:=hag o (by omega) (by omega) (Nat.le_refl _)
    have hl2:(Y.set o 0).length=o+1:=by simpa using hYl
    refine ⟨Y.set o 0,Ch hY (by omega) o,hl2,?_,fun K=>?_⟩
    · have:=Bfr (X:=Y) (p:=o) (g:=0) (by omega)
      rw [List.take_of_length_le (by omega),hyr] at this;simpa using this
    · rw [Hw];unfold Pj
      have hXo:=A3 hX (show o<X.length by omega)
      rw [ltF (Nat.le_refl _),cf,Am (by omega),ct,rdw (by omega),ct,stw (by omega),ct,hyo,w32 (show c<4294967296 by omega),Aqm,hw,Bb4,Caw (by omega),B8g hD1 (by omega),w32 (by omega)]
  | m+1,o,fuel+1,Y,c,ho,hfu,hY,hYl,hag,hc,hval=>by
    have hon:o<n:=by omega
    have hov:o<v.length:=by omega
    have vo:=A3 hv hov
    have hoy:o<Y.length:=by omega
    have yo:=A3 hY hoy
    have hyo:Y[o]=X[o]:=hag o (by omega) (by omega) (Nat.le_refl _)
    have hs1:c+(Y[o]+v[o])<18446744073709551616:=by omega
    have hs2:(c+(Y[o]+v[o]))/4294967296≤1:=by omega
    generalize hsd:c+(Y[o]+v[o])=s at *
    have key:val ((Y.set o (s%4294967296)).take (o+1))+4294967296 ^ (o+1)*(s/4294967296)=val (X.take (o+1))+val (v.take (o+1)):=by
      rw [Bfr hoy,Az (l:=X) (by omega),Az hov,Nat.pow_succ]
      have e:=Ok (4294967296 ^ o) s
      have e2:4294967296 ^ o*s=4294967296 ^ o*c+(4294967296 ^ o*X[o]+4294967296 ^ o*v[o]):=by rw [← hsd,Nat.mul_add,Nat.mul_add,hyo]
      omega
    obtain ⟨Y',q1,q2,q3,q4⟩:=B8h (N:=N) (P:=P) (Q:=Q) (f:=f) (g:=g) hv hn hX hXl hs hD hD1 hr hrv m (o+1) fuel (Y.set o (s%4294967296)) (s/4294967296) (by omega) (by omega) (Ch hY (by omega) o) (by simpa using hYl) (fun j h1 h2 hj=>by rw [List.getElem_set,if_neg (by omega)];exact hag j (by simpa using h1) h2 (by omega)) hs2 key
    refine ⟨Y',q1,q2,q3,fun K=>?_⟩
    rw [Hw];unfold Pj
    rw [ltT hon,ct,Am hon,ct,rdl hov,Am (by omega),ct,rdw hoy,ct,stw hoy,ct,w64 (show v[o]<18446744073709551616 by omega),w64 (show Y[o]<18446744073709551616 by omega),Aqm,w64 (by omega),Aqm,hsd,w64 hs1,Bj5,Bb4,Caw hoy,wS (by omega)]
    exact q4 K
theorem Cax {N:Nat} {P Q U v:List Nat} {n D:Nat} {f g:Bool} (hv:Ai v) (hn:v.length=n) (hU:Ai U) (hUl:U.length=n+1) (hs:n≤1000000000000) (hN:n+2<N) (hD:D<4294967296) (hv0:0<val v) (hq1:val U/val v≤D) (hq2:D≤val U/val v+1) :
    ∀ (m p fuel:Nat) (X:List Nat) (t:Nat),p+m=n→m<fuel→Ai X→X.length=n+1→(∀ j (h1:j<X.length) (h2:j<U.length),p≤j→X[j]=U[j])→t≤4294967296→val (X.take p)+D*val (v.take p)=val (U.take p)+4294967296 ^ p*t →
    ∃ X',Ai X'∧X'.length=n+1∧val X'=val U%val v∧∀ K:Int→LA→Option R,Fl N K P.length (n+1) (Ae v) n f g (n:Int) (D:Int) fuel (t:Int) (n:Int) (p:Int) (Ae (P++(X++Q)))=K ((val U/val v:Nat):Int) (Ae (P++(X'++Q)))
  | 0,p,fuel+1,X,t,hp,_,hX,hXl,hag,ht,hval=>by
    have hp':p=n:=by omega
    subst hp'
    rw [show v.take p=v by rw [← hn];exact List.take_length] at hval
    have hXp:X[p]=U[p]:=hag p (by omega) (by omega) (Nat.le_refl _)
    have up:=A3 hU (show p<U.length by omega)
    obtain ⟨d,c,g1,g2,g3,g4,g5⟩:=A49 up ht
    have hl2:(X.set p d).length=p+1:=by simpa using hXl
    have hX2:=Ch hX g1 p
    have hv2:val (X.set p d)=val (X.take p)+4294967296 ^ p*d:=by
      have:=Bfr (X:=X) (p:=p) (g:=d) (by omega)
      rwa [List.take_of_length_le (by omega)] at this
    have eU:=Aqp hUl
    have main:val (X.set p d)+D*val v=val U+4294967296 ^ (p+1)*c:=by
      have e:4294967296 ^ p*(U[p]+4294967296*c)=4294967296 ^ p*(d+t):=by rw [g3]
      rw [Nat.mul_add,Nat.mul_add,← Nat.mul_assoc] at e
      rw [hv2,eU,Nat.pow_succ];omega
    have hlt:=Be hX2
    rw [hl2] at hlt
    have hdm:=Nat.div_add_mod (val U) (val v)
    have hmod:=Nat.mod_lt (val U) hv0
    have vlt:=Be hv
    rw [hn] at vlt
    by_cases hc:c=0
    · subst hc
      have hDq:D=val U/val v:=by
        have:D≤val U/val v:=by rw [Nat.le_div_iff_mul_le hv0];omega
        omega
      refine ⟨X.set p d,hX2,hl2,?_,fun K=>?_⟩
      · rw [hDq,Nat.mul_comm] at main;omega
      · rw [Fl];unfold J7
        rw [ltF (Nat.le_refl _),cf,Am (by omega),ct,rdw (by omega),ct,stw (by omega),ct,hXp,w64 (show U[p]<18446744073709551616 by omega),g4,g5,show (((0:Nat):Int)==0)=true by rfl,ct,w32 hD,Caw (by omega),hDq]
    · have hc1:c=1:=by omega
      subst hc1
      have hDq:D=val U/val v+1:=by
        have:¬ D≤val U/val v:=fun h=>by
          have:=Nat.mul_le_mul_left (val v) h
          rw [Nat.mul_comm] at this
          omega
        omega
      have hr:val (X.set p d)+val v=4294967296 ^ (p+1)+val U%val v:=by
        rw [hDq,Nat.add_mul,Nat.mul_comm (val U/val v)] at main;omega
      obtain ⟨Y',q1,q2,q3,q4⟩:=B8h (R:=R) (N:=N) (P:=P) (Q:=Q) (f:=f) (g:=g) (X:=X.set p d) hv hn hX2 hl2 hs hD (by rw [hDq];exact Nat.le_add_left 1 _) hr (by omega) p 0 N (X.set p d) 0 (by omega) (by omega) hX2 hl2 (fun _ _ _ _=>rfl) (by omega) (by simp [val])
      refine ⟨Y',q1,q2,q3,fun K=>?_⟩
      rw [Fl];unfold J7
      rw [ltF (Nat.le_refl _),cf,Am (by omega),ct,rdw (by omega),ct,stw (by omega),ct,hXp,w64 (show U[p]<18446744073709551616 by omega),g4,g5,show (((1:Nat):Int)==0)=false by rfl,cf,Caw (by omega)]
      have:=q4 K
      rw [show D - 1=val U/val v by rw [hDq];rfl] at this
      exact this
  | m+1,p,fuel+1,X,t,hp,hfu,hX,hXl,hag,ht,hval=>by
    have hpn:p<n:=by omega
    have hpv:p<v.length:=by omega
    have vp:=A3 hv hpv
    have hpx:p<X.length:=by omega
    have hXp:X[p]=U[p]:=hag p (by omega) (by omega) (Nat.le_refl _)
    have up:=A3 hU (show p<U.length by omega)
    obtain ⟨hw1,hw2⟩:=Cbs hD vp ht
    have hDv:D*v[p]<18446744073709551616:=by omega
    generalize hpp:D*v[p]+t=w at *
    obtain ⟨d,c,g1,g2,g3,g4,g5⟩:=A49 up (show w%4294967296≤4294967296 by omega)
    have key:val ((X.set p d).take (p+1))+D*val (v.take (p+1))=val (U.take (p+1))+4294967296 ^ (p+1)*(w/4294967296+c):=by
      rw [Bfr hpx,Az hpv,Az (l:=U) (by omega),Nat.pow_succ]
      have e:=Ok (4294967296 ^ p) w
      have e2:4294967296 ^ p*w=4294967296 ^ p*(D*v[p])+4294967296 ^ p*t:=by rw [← hpp,Nat.mul_add]
      have e3:4294967296 ^ p*(U[p]+4294967296*c)=4294967296 ^ p*(d+w%4294967296):=by rw [g3]
      rw [Nat.mul_add,Nat.mul_add,← Nat.mul_assoc] at e3
      have e4:D*(val (v.take p)+4294967296 ^ p*v[p])=D*val (v.take p)+4294967296 ^ p*(D*v[p]):=by rw [Nat.mul_add,Nat.mul_left_comm]
      rw [e4,Nat.mul_add]
      omega
    obtain ⟨X',q1,q2,q3,q4⟩:=Cax (N:=N) (P:=P) (Q:=Q) (f:=f) (g:=g) hv hn hU hUl hs hN hD hv0 hq1 hq2 m (p+1) fuel (X.set p d) (w/4294967296+c) (by omega) (by omega) (Ch hX g1 p) (by simpa using hXl) (fun j h1 h2 hj=>by rw [List.getElem_set,if_neg (by omega)];exact hag j (by simpa using h1) h2 (by omega)) (by omega) key
    refine ⟨X',q1,q2,q3,fun K=>?_⟩
    rw [Fl];unfold J7
    rw [ltT hpn,ct,Am hpn,ct,rdl hpv,Am (by omega),ct,rdw hpx,ct,stw hpx,ct,hXp,w64 (show v[p]<18446744073709551616 by omega),Buv,w64 hDv,Aqm,hpp,w64 hw1,Bb4,w64 (show w%4294967296<18446744073709551616 by omega),w64 (show U[p]<18446744073709551616 by omega),g4,g5,Bj5,Aqm,w64 (by omega),Caw hpx,wS (by omega)]
    exact q4 K
end
end Gx

namespace Gx
open Go Go.Proofs
section
variable {R:Type}
theorem A7r (a b:Nat):Int.tdiv (a:Int) (b:Int)=((a/b:Nat):Int):=rfl
theorem A2i (a b:Nat):Int.tmod (a:Int) (b:Int)=((a%b:Nat):Int):=rfl
theorem Ccj {l:Nat} (h:l<4294967296):(((Int.fdiv (l:Int) (2 ^ 32)) != (0:Int)))=false:=by rw [Bj5,Nat.div_eq_of_lt h];rfl
theorem Cck {l:Nat} (h:4294967296≤l):(((Int.fdiv (l:Int) (2 ^ 32)) != (0:Int)))=true:=by
  have h1:l/4294967296≠0:=by omega
  rw [Bj5];rw [bne_iff_ne];omega
theorem orw {a b:Nat} (ha:a<4294967296) (hb:b<4294967296):T2 .u64 (IntKind.wrap .u64 ((a:Int)*2 ^ 32)) (b:Int)=((a*4294967296+b:Nat):Int):=by
  rw [show (2:Int) ^ 32=((2 ^ 32:Nat):Int) by rfl,Buv,w64 (by omega),B64 (by omega) (by omega),Bj6 (by omega)]
theorem Ccz {B l v1 v2 m u2:Nat} (h:m*B+u2<l*v2):(l*v1+m)*B+u2<l*(v1*B+v2):=by rw [Nat.add_mul,Nat.mul_add,← Nat.mul_assoc l v1];omega
theorem Cc0 {B l v1 v2 m u2:Nat} (h:l*v2≤m*B+u2):l*(v1*B+v2)≤(l*v1+m)*B+u2:=by rw [Nat.add_mul,Nat.mul_add,← Nat.mul_assoc l v1];omega
theorem Cc1 {B u0 u1 u2 v1 v2:Nat} (h2:v2<B) (h:(u0*B+u1)*B+u2<(v1*B+v2+1)*B):u0*B+u1<v1*B+B:=by
  have:u0*B+u1<v1*B+v2+1:=Nat.lt_of_mul_lt_mul_right (Nat.lt_of_le_of_lt (Nat.le_add_right _ u2) h)
  omega
theorem pw1 (P x:Nat):P*4294967296*x=P*(x*4294967296):=by rw [Nat.mul_assoc,Nat.mul_comm 4294967296]
theorem Cay {N:Nat} {P Q U v:List Nat} {n:Nat} {f g:Bool} {K:Int→LA→Option R} (hn:v.length=n+2) (hv:Ai v) (hU:Ai U) (hUl:U.length=n+3) (hs:n≤1000000000000) {v1 v2 u2 top:Nat}
    (e1:v[n+1]'(by omega)=v1) (e2:v[n]'(by omega)=v2) (e3:U[n]'(by omega)=u2) (hv1:2147483648≤v1) (htop:top<v1*4294967296+4294967296)
    (hV:(v1*4294967296+v2)*4294967296 ^ n≤val v) (hV':val v<(v1*4294967296+v2+1)*4294967296 ^ n) (hUU:(top*4294967296+u2)*4294967296 ^ n≤val U) (hUU':val U<(top*4294967296+u2+1)*4294967296 ^ n) (hq:val U/val v<4294967296) :
    ∀ (k fuel l m:Nat),k<fuel→4294967296≤m+k*2147483648→m<4294967296→l*v1+m=top→val U/val v≤l→∃ D,D<4294967296∧val U/val v≤D∧D≤val U/val v+1 ∧
      Ed N K P.length (n+3) (Ae v) (n+2) f g (Ae (P++(U++Q))) fuel ((n+2:Nat):Int) (l:Int) (m:Int)=Ec N K P.length (n+3) (Ae v) (n+2) f g ((n+2:Nat):Int) (Ae (P++(U++Q))) (D:Int):=by
  have b1:=A3 hv (show n+1<v.length by omega)
  have b2:=A3 hv (show n<v.length by omega)
  have b3:=A3 hU (show n<U.length by omega)
  rw [e1] at b1;rw [e2] at b2;rw [e3] at b3
  have hP:0<4294967296 ^ n:=Nat.pow_pos (by omega)
  have hv0:0<val v:=Nat.lt_of_lt_of_le (Nat.mul_pos (by omega) hP) hV
  intro k
  induction k with
  | zero=>intro fuel l m _ h1 h2;omega
  | succ k ih =>
    intro fuel l m hf hm hm2 htm hql
    obtain ⟨fuel,rfl⟩:∃ F,fuel=F+1:=⟨fuel - 1,by omega⟩
    generalize hqq:val U/val v=q at *
    have wi1:IntKind.wrap .i64 (((n+2:Nat):Int) - 1)=((n+1:Nat):Int):=by rw [i64 (by omega)];omega
    have wi2:IntKind.wrap .i64 (((n+2:Nat):Int) - 2)=((n:Nat):Int):=by rw [i64 (by omega)];omega
    have lower : q < l → l < 18446744073709551616 → ∃ D, D < 4294967296 ∧ q ≤ D ∧ D ≤ q + 1 ∧
        Mf N (Ed N K P.length (n+3) (Ae v) (n+2) f g (Ae (P++(U++Q))) fuel) K P.length (n+3) (Ae v) (n+2) f g ((n+2:Nat):Int) (l:Int) (m:Int) (Ae (P++(U++Q)))=Ec N K P.length (n+3) (Ae v) (n+2) f g ((n+2:Nat):Int) (Ae (P++(U++Q))) (D:Int):=by
      intro hlt hl64
      have hsum:(l - 1)*v1+(m+v1)=top:=by
        have:l*v1=(l - 1)*v1+v1:=by
          obtain ⟨l',rfl⟩:∃ l',l=l'+1:=⟨l - 1,by omega⟩
          rw [Nat.add_mul];simp
        omega
      unfold Mf Yt
      rw [wi1,Am (by omega),ct,rdl (show n+1<v.length by omega),e1,w64 (show v1<18446744073709551616 by omega),Aqm,w64 (show m+v1<18446744073709551616 by omega),B8g (by omega) hl64]
      by_cases hbig:4294967296≤m+v1
      · have hDB : l - 1 < 4294967296 := by
          apply Nat.lt_of_not_le;intro hge
          have:=Nat.mul_le_mul_right v1 hge
          rw [Nat.mul_comm 4294967296] at this
          omega
        have hest:(l - 1)*(v1*4294967296+v2)≤top*4294967296+u2:=by
          have x1:(l - 1)*v2≤4294967295*4294967295:=Nat.mul_le_mul (by omega) (by omega)
          rw [← hsum,Nat.add_mul,Nat.mul_add,← Nat.mul_assoc]
          omega
        have hlo:=Bzv hV' hUU hest (by omega) hv0
        rw [hqq] at hlo
        exact ⟨l - 1,hDB,by omega,hlo,by rw [Cck hbig,ct]⟩
      · obtain ⟨D,d1,d2,d3,d4⟩:=ih fuel (l - 1) (m+v1) (by omega) (by omega) (by omega) hsum (by omega)
        exact ⟨D,d1,d2,d3,by rw [Ccj (by omega),cf,d4]⟩
    rw [Ed];unfold Yu
    by_cases hlB:l<4294967296
    · rw [Ccj hlB,show ((false:Bool)==false)=true by rfl,ct,wi2,Am (by omega),ct,rdl (show n<v.length by omega),Am (by omega),ct,rdw (show n<U.length by omega),cfB,e2,e3,w64 (show v2<18446744073709551616 by omega),w64 (show u2<18446744073709551616 by omega),Buv]
      have x1:l*v2≤4294967295*4294967295:=Nat.mul_le_mul (by omega) (by omega)
      rw [w64 (show l*v2<18446744073709551616 by omega),orw hm2 b3]
      by_cases hgt:m*4294967296+u2<l*v2
      · rw [show decide (((l*v2:Nat):Int)>((m*4294967296+u2:Nat):Int))=true by rw [decide_eq_true_eq];omega,ct]
        have hup:val U/val v<l:=Bzu hV hUU' (by rw [← htm];exact Ccz hgt) hv0
        rw [hqq] at hup
        exact lower hup (by omega)
      · rw [show decide (((l*v2:Nat):Int)>((m*4294967296+u2:Nat):Int))=false by rw [decide_eq_false_iff_not];omega,cf]
        have hest:l*(v1*4294967296+v2)≤top*4294967296+u2:=by
          rw [← htm];exact Cc0 (Nat.le_of_not_lt hgt)
        have hlo:=Bzv hV' hUU hest (by omega) hv0
        rw [hqq] at hlo
        exact ⟨l,hlB,hql,hlo,rfl⟩
    · rw [Cck (by omega),show ((true:Bool)==false)=false by rfl,cf]
      have hl64:l<18446744073709551616:=by
        have:l*2147483648≤l*v1:=Nat.mul_le_mul_left _ hv1
        omega
      exact lower (by omega) hl64
theorem Bu7 {N:Nat} {P Q U v:List Nat} {n:Nat} {f g:Bool} (hn:v.length=n+2) (hv:Ai v) (hU:Ai U) (hUl:U.length=n+3) (hs:n≤1000000000) (hN:n+8<N) (hv1:2147483648≤v[n+1]'(by omega)) (hlt:val U<val v*4294967296) :
    ∃ U',Ai U'∧U'.length=n+3∧val U'=val U%val v∧∀ K:Int→LA→Option R,Pk N P.length (n+3) (Ae v) (n+2) f g (Ae (P++(U++Q))) K=K ((val U/val v:Nat):Int) (Ae (P++(U'++Q))):=by
  have b1:=A3 hv (show n+1<v.length by omega)
  have b2:=A3 hv (show n<v.length by omega)
  have b3:=A3 hU (show n<U.length by omega)
  have b4:=A3 hU (show n+1<U.length by omega)
  have b5:=A3 hU (show n+2<U.length by omega)
  have hP:0<4294967296 ^ n:=Nat.pow_pos (by omega)
  have vv:val v=val (v.take n)+4294967296 ^ n*(v[n+1]'(by omega)*4294967296+v[n]'(by omega)):=by
    have h1:=Az (l:=v) (c:=n+1) (by omega)
    have h2:=Az (l:=v) (c:=n) (by omega)
    rw [List.take_of_length_le (by omega)] at h1
    rw [h1,h2,Nat.pow_succ,Nat.mul_add,Nat.mul_assoc,Nat.mul_comm 4294967296 v[n+1]];omega
  have uu:val U=val (U.take n)+4294967296 ^ n*((U[n+2]'(by omega)*4294967296+U[n+1]'(by omega))*4294967296+U[n]'(by omega)):=by
    have h0:=Az (l:=U) (c:=n+2) (by omega)
    have h1:=Az (l:=U) (c:=n+1) (by omega)
    have h2:=Az (l:=U) (c:=n) (by omega)
    rw [List.take_of_length_le (by omega)] at h0
    have x1:4294967296 ^ (n+2)*U[n+2]=4294967296 ^ n*(U[n+2]*4294967296*4294967296):=by rw [Nat.pow_succ (n:=4294967296) (m:=n+1),Nat.pow_succ,pw1,pw1]
    have x2:4294967296 ^ (n+1)*U[n+1]=4294967296 ^ n*(U[n+1]*4294967296):=by rw [Nat.pow_succ,pw1]
    rw [h0,h1,h2,x1,x2,Nat.add_mul,Nat.mul_add,Nat.mul_add];omega
  have tv:=Be (Ca hv n)
  have tu:=Be (Ca hU n)
  rw [List.length_take,Nat.min_eq_left (by omega)] at tv tu
  generalize e1:v[n+1]'(by omega)=v1 at *
  generalize e2:v[n]'(by omega)=v2 at *
  generalize e3:U[n]'(by omega)=u2 at *
  generalize e4:U[n+1]'(by omega)=u1 at *
  generalize e5:U[n+2]'(by omega)=u0 at *
  have hv0:0<val v:=by
    have:0<4294967296 ^ n*(v1*4294967296+v2):=Nat.mul_pos hP (by omega)
    omega
  have hV:(v1*4294967296+v2)*4294967296 ^ n≤val v:=by rw [Nat.mul_comm];omega
  have hV':val v<(v1*4294967296+v2+1)*4294967296 ^ n:=by rw [Nat.mul_comm,Nat.mul_add];omega
  have hUU:((u0*4294967296+u1)*4294967296+u2)*4294967296 ^ n≤val U:=by rw [Nat.mul_comm];omega
  have hUU':val U<((u0*4294967296+u1)*4294967296+u2+1)*4294967296 ^ n:=by rw [Nat.mul_comm,Nat.mul_add];omega
  have hq:val U/val v<4294967296:=Nat.div_lt_of_lt_mul hlt
  have htop:u0*4294967296+u1<v1*4294967296+4294967296:=by
    have h1:((u0*4294967296+u1)*4294967296+u2)*4294967296 ^ n<(v1*4294967296+v2+1)*4294967296 ^ n*4294967296:=by
      have:=(Nat.mul_lt_mul_right (show 0<4294967296 by omega)).2 hV'
      omega
    rw [Nat.mul_right_comm] at h1
    exact Cc1 b2 (Nat.lt_of_mul_lt_mul_right h1)
  obtain ⟨top,htp⟩:∃ top,u0*4294967296+u1=top:=⟨_,rfl⟩
  rw [htp] at hUU hUU' htop
  have hdm:=Nat.div_add_mod top v1
  have hmod:=Nat.mod_lt top (show 0<v1 by omega)
  have hq0:val U/val v≤top/v1:=by
    have h1:val U/val v<top/v1+1:=by
      apply Bzu hV hUU' _ hv0
      have h2:top<v1*(top/v1+1):=by rw [Nat.mul_add];omega
      have h3:(top+1)*4294967296≤v1*(top/v1+1)*4294967296:=Nat.mul_le_mul_right _ h2
      rw [Nat.mul_add,← Nat.mul_assoc,Nat.mul_comm _ v1]
      omega
    omega
  have key:∀ K:Int→LA→Option R,∃ D,D<4294967296∧val U/val v≤D∧D≤val U/val v+1∧Pk N P.length (n+3) (Ae v) (n+2) f g (Ae (P++(U++Q))) K=Ec N K P.length (n+3) (Ae v) (n+2) f g ((n+2:Nat):Int) (Ae (P++(U++Q))) (D:Int):=by
    intro K
    obtain ⟨D,d1,d2,d3,d4⟩:=Cay (R:=R) (N:=N) (P:=P) (Q:=Q) (f:=f) (g:=g) (K:=K) hn hv hU hUl (by omega) e1 e2 e3 hv1 htop hV hV' hUU hUU' hq 2 N (top/v1) (top%v1) (by omega) (by omega) (by omega) (by rw [Nat.mul_comm];exact hdm) hq0
    refine ⟨D,d1,d2,d3,?_⟩
    rw [← d4,Ap7];unfold Aop Aoo
    have wi1:IntKind.wrap .i64 (((n+2:Nat):Int) - 1)=((n+1:Nat):Int):=by rw [i64 (by omega)];omega
    rw [Am (by omega),ct,Cdw (show n+2<U.length by omega),wi1,Am (by omega),ct,rdw (show n+1<U.length by omega),Am (by omega),ct,rdl (show n+1<v.length by omega),e1,e4,e5,w64 (show v1<18446744073709551616 by omega),i0F (by omega),cf,ct,rdl (show n+1<v.length by omega),e1,w64 (show v1<18446744073709551616 by omega),i0F (by omega),cf,w64 (show u0<18446744073709551616 by omega),w64 (show u1<18446744073709551616 by omega),orw b5 b4,htp,A7r,A2i,w64 (show top/v1<18446744073709551616 from Nat.lt_of_le_of_lt (Nat.div_le_self _ _) (by omega))]
  have fin:∀ D,D<4294967296→val U/val v≤D→D≤val U/val v+1→∃ U',Ai U'∧U'.length=n+3∧val U'=val U%val v∧∀ K:Int→LA→Option R,Ec N K P.length (n+3) (Ae v) (n+2) f g ((n+2:Nat):Int) (Ae (P++(U++Q))) (D:Int)=K ((val U/val v:Nat):Int) (Ae (P++(U'++Q))):=by
    intro D d1 d2 d3
    obtain ⟨X',q1,q2,q3,q4⟩:=Cax (R:=R) (N:=N) (P:=P) (Q:=Q) (U:=U) (v:=v) (n:=n+2) (D:=D) (f:=f) (g:=g) hv hn hU hUl (by omega) (by omega) d1 hv0 d2 d3 (n+2) 0 N U 0 (by omega) (by omega) hU hUl (fun _ _ _ _=>rfl) (by omega) (by simp [val])
    exact ⟨X',q1,q2,q3,fun K=>by unfold Ec Ys;exact q4 K⟩
  by_cases hz:val U/val v+1<4294967296
  · obtain ⟨U1,a1,a2,a3,a4⟩:=fin (val U/val v) hq (Nat.le_refl _) (by omega)
    obtain ⟨U2,c1,c2,c3,c4⟩:=fin (val U/val v+1) hz (by omega) (Nat.le_refl _)
    have:U1=U2:=by
      have h1:=(Bn a1).1;have h2:=(Bn c1).1
      rw [a3] at h1;rw [c3] at h2;rw [h1,h2,a2,c2]
    subst this
    refine ⟨U1,a1,a2,a3,fun K=>?_⟩
    obtain ⟨D,d1,d2,d3,d4⟩:=key K
    have:D=val U/val v∨D=val U/val v+1:=by
      generalize val U/val v=q at *;omega
    rcases this with rfl | rfl
    · rw [d4,a4 K]
    · rw [d4,c4 K]
  · obtain ⟨U1,a1,a2,a3,a4⟩:=fin (val U/val v) hq (Nat.le_refl _) (by omega)
    refine ⟨U1,a1,a2,a3,fun K=>?_⟩
    obtain ⟨D,d1,d2,d3,d4⟩:=key K
    have:D=val U/val v:=by
      generalize val U/val v=q at *;omega
    subst this
    rw [d4,a4 K]
end
end Gx

namespace Gx
open Go Go.Proofs
section
variable {R:Type}
theorem A2j {l:List Nat} {d:Nat} (h:d<l.length):val (l.drop d)=l[d]+4294967296*val (l.drop (d+1)):=by
  rw [List.drop_eq_getElem_cons h,val]
theorem B4w {S:List Nat} {d v:Nat} (h:d<S.length):(S.set d v).drop d=v::S.drop (d+1):=by
  rw [List.drop_eq_getElem_cons (by simpa using h),List.getElem_set_self,List.drop_set_of_lt (by omega)]
theorem Bnh {N:Nat} {a:List Nat} {t o:Bool} {b:Nat} (ha:Ai a) (hb0:0<b) (hb:b<4294967296) (hf:fit a.length N):∀ (c fuel:Nat) (S:List Nat) (r:Nat),c<fuel→c≤a.length→Ai S→S.length=a.length→r<b→val (S.drop c)*b+r=val (a.drop c) →
    ∃ S' S2,Ai S'∧val S'=val a/b∧Ai S2∧val S2=val a%b∧∀ K:Nat→Nat→LA→LA→Option R,Ek N K (Ae a) a.length t o (b:Int) fuel (r:Int) ((c:Int) - 1) (Ae S)=K (dig (val a/b)).length (dig (val a%b)).length (Ae S') (Ae S2)
  | 0,fuel+1,S,r,_,_,hS,hl,hr,hv=>by
    have h1:=hf.1
    rw [List.drop_zero,List.drop_zero] at hv
    have hq:val a/b=val S:=by
      rw [← hv,Nat.mul_comm,Nat.mul_add_div hb0,Nat.div_eq_of_lt hr,Nat.add_zero]
    have hm:val a%b=r:=by rw [← hv,Nat.mul_comm,Nat.mul_add_mod,Nat.mod_eq_of_lt hr]
    obtain ⟨S2,s1,s2,s3⟩:=Lm (R:=R) (N:=N) (v:=r) (by omega) (by omega)
    refine ⟨S,S2,hS,hq.symm,s1,by rw [hm,s2],fun K=>?_⟩
    rw [Ek];unfold I5
    rw [show decide ((((0:Nat):Int) - 1)≥0)=false by simp,cf,Aqn hl.symm hS (by rw [hl];exact hf),s3,hq,hm]
  | c+1,fuel+1,S,r,hfu,hc,hS,hl,hr,hv=>by
    have h1:=hf.1;have h2:=hf.2
    have hca:c<a.length:=by omega
    have ac:=A3 ha hca
    have hrB:r<4294967296:=by omega
    have hw:r*4294967296+a[c]<b*4294967296:=by
      have:(r+1)*4294967296≤b*4294967296:=Nat.mul_le_mul_right _ hr
      rw [Nat.add_mul] at this;omega
    have hw2:r*4294967296+a[c]<18446744073709551616:=by omega
    obtain ⟨w,hwd⟩:∃ w,r*4294967296+a[c]=w:=⟨_,rfl⟩
    rw [hwd] at hw hw2
    have hqB:w/b<4294967296:=Nat.div_lt_of_lt_mul hw
    have hdm:=Nat.div_add_mod w b
    obtain ⟨S',S2,q1,q2,q3,q4,q5⟩:=Bnh (t:=t) (o:=o) ha hb0 hb hf c fuel (S.set c (w/b)) (w%b) (by omega) (by omega) (Ch hS hqB c) (by simpa using hl) (Nat.mod_lt _ hb0) (by
      rw [B4w (by omega),val,A2j hca,Nat.add_mul,Nat.mul_assoc,← hv,Nat.mul_add,Nat.mul_comm (w/b)]
      omega)
    refine ⟨S',S2,q1,q2,q3,q4,fun K=>?_⟩
    rw [Ek];unfold I5
    rw [show (((c+1:Nat):Int) - 1)=(c:Int) by omega,show decide ((c:Int)≥0)=true by simp,ct,Am hca,ct,rdl hca,w64 (show b<18446744073709551616 by omega),i0F (by omega),cf,ct,st1 (by omega),ct,cf,w64 (show a[c]<18446744073709551616 by omega),orw hrB ac,hwd,A7r,A2i,w64 (show w/b<18446744073709551616 by omega),w32 hqB,A2g,i64 (by omega)]
    exact q5 K
theorem B4x {N:Nat} {a:List Nat} {n:Nat} {t o:Bool} {b:Nat} (hn:n=a.length) (ha:Ai a) (hb0:0<b) (hb:b<4294967296) (hf:fit a.length N) :
    ∃ S' S2,Ai S'∧val S'=val a/b∧Ai S2∧val S2=val a%b∧∀ K:Nat→Nat→LA→LA→Option R,Hv N (Ae a) n t o (b:Int) K=K (dig (val a/b)).length (dig (val a%b)).length (Ae S') (Ae S2):=by
  subst hn
  have h1:=hf.1;have h2:=hf.2
  obtain ⟨S',S2,q1,q2,q3,q4,q5⟩:=Bnh (R:=R) (t:=t) (o:=o) ha hb0 hb hf a.length N (List.replicate a.length 0) 0 (by omega) (Nat.le_refl _) (Ce _) (by simp) hb0 (by rw [List.drop_eq_nil_of_le (by simp),List.drop_eq_nil_of_le (by simp)];simp [val])
  refine ⟨S',S2,q1,q2,q3,q4,fun K=>?_⟩
  rw [Adl];unfold Yq Yp
  rw [mk4 (by omega),ct,i64 (by omega),Cz]
  exact q5 K
theorem Caz {x V s:Nat} (hx:x<4294967296) (hs:s≤31):(x+4294967296*V)/2 ^ s=(x+4294967296*(V%4294967296))/2 ^ s%4294967296+4294967296*(V/2 ^ s):=by
  have hp:0<2 ^ s:=Nat.pow_pos (by omega)
  have hd:2 ^ s∣4294967296:=⟨2 ^ (32 - s),by rw [← Nat.pow_add,show s+(32 - s)=32 by omega]⟩
  have key:∀ W,(x+4294967296*W)/2 ^ s=(x+4294967296*(W%2 ^ s))/2 ^ s+4294967296*(W/2 ^ s):=by
    intro W
    have e:x+4294967296*W=x+4294967296*(W%2 ^ s)+2 ^ s*(4294967296*(W/2 ^ s)):=by
      have h:=Nat.div_add_mod W (2 ^ s)
      have:4294967296*W=4294967296*(2 ^ s*(W/2 ^ s)+W%2 ^ s):=by rw [h]
      rw [this,Nat.mul_add,Nat.mul_left_comm];omega
    rw [e,Nat.add_mul_div_left _ _ hp]
  have hlt:(x+4294967296*(V%2 ^ s))/2 ^ s<4294967296:=by
    rw [Nat.div_lt_iff_lt_mul hp]
    have:V%2 ^ s+1≤2 ^ s:=Nat.mod_lt _ hp
    have:=Nat.mul_le_mul_left 4294967296 this
    rw [Nat.mul_add] at this
    omega
  rw [key V,key (V%4294967296),Nat.mod_mod_of_dvd _ hd,Nat.add_mul_mod_self_left,Nat.mod_eq_of_lt hlt]
theorem Cbt:∀ {l:List Nat},Ai l→val l%4294967296=l.getD 0 0
  | [],_=>rfl
  | x::r,h=>by
    have:=(De.1 h).1
    simp [val];omega
theorem B4y {N:Nat} {a:List Nat} {o:Bool} {s:Nat} (ha:Ai a) (hs:s≤31) (hf:fit a.length N):∀ (m d fuel:Nat) (S:List Nat),d+m=a.length→m<fuel→Ai S→S.length=a.length→zer S d→val S+4294967296 ^ d*(val (a.drop d)/2 ^ s)=val a/2 ^ s →
    ∃ S',Ai S'∧val S'=val a/2 ^ s∧∀ K:Nat→Bool→LA→Option R,Dw N K o fuel (Ae a) a.length (s:Int) a.length (Ae a) a.length (a.length:Int) (d:Int) (Ae S)=K (dig (val a/2 ^ s)).length true (Ae S')
  | 0,d,fuel+1,S,hd,_,hS,hl,hz,hv=>by
    have hd':d=a.length:=by omega
    subst hd'
    rw [List.drop_length] at hv
    simp [val] at hv
    refine ⟨S,hS,hv,fun K=>?_⟩
    rw [Dw];unfold H7
    rw [ltF (Nat.le_refl _),cf,Aqn hl.symm hS (by rw [hl];exact hf),hv]
  | m+1,d,fuel+1,S,hd,hfu,hS,hl,hz,hv=>by
    have h1:=hf.1;have h2:=hf.2
    have hda:d<a.length:=by omega
    have ad:=A3 ha hda
    have step:=Caz (V:=val (a.drop (d+1))) ad hs
    rw [Cbt (Au3 ha _),← A2j hda] at step
    have hg:(a.drop (d+1)).getD 0 0=a.getD (d+1) 0:=by simp [List.getD_eq_getElem?_getD,List.getElem?_drop]
    rw [hg] at step
    have go:∀ w,(a[d]+4294967296*a.getD (d+1) 0)/2 ^ s=w→∃ S',Ai S'∧val S'=val a/2 ^ s∧∀ K:Nat→Bool→LA→Option R,Dw N K o fuel (Ae a) a.length (s:Int) a.length (Ae a) a.length (a.length:Int) ((d+1:Nat):Int) (Ae (S.set d (w%4294967296)))=K (dig (val a/2 ^ s)).length true (Ae S'):=by
      intro w hw
      refine B4y (o:=o) ha hs hf m (d+1) fuel (S.set d (w%4294967296)) (by omega) (by omega) (Ch hS (by omega) d) (by simpa using hl) (Amv hz) ?_
      rw [Aa2 hz (by omega),← hv,step,hw,Nat.pow_succ,Nat.mul_add,Nat.mul_assoc];omega
    by_cases hn:d+1<a.length
    · have an:=A3 ha hn
      have hg2:a.getD (d+1) 0=a[d+1]:=by rw [List.getD_eq_getElem?_getD,List.getElem?_eq_getElem hn];rfl
      rw [hg2] at go
      obtain ⟨S',q1,q2,q3⟩:=go _ rfl
      refine ⟨S',q1,q2,fun K=>?_⟩
      rw [Dw];unfold H7
      have e:T2 .u64 ((a[d]:Nat):Int) (IntKind.wrap .u64 (((a[d+1]:Nat):Int)*2 ^ 32))=((a[d]+4294967296*a[d+1]:Nat):Int):=by
        rw [show (2:Int) ^ 32=((2 ^ 32:Nat):Int) by rfl,Buv,w64 (by omega),B64 (by omega) (by omega),Nat.or_comm,Bj6 (by omega)]
        congr 1;omega
      rw [ltT hda,ct,Am hda,ct,rdl hda,wS (by omega),ltT hn,ct,Am hn,ct,rdl hn,show decide (((s:Nat):Int)<0)=false by simp,cf,ct,st1 (by omega),ct,w64 (show a[d]<18446744073709551616 by omega),w64 (show a[d+1]<18446744073709551616 by omega),e,Int.toNat_natCast s,Nat.min_eq_left (by omega),Wr,Bb4,A2g]
      exact q3 K
    · have hg2:a.getD (d+1) 0=0:=by rw [List.getD_eq_getElem?_getD,List.getElem?_eq_none (by omega)];rfl
      rw [hg2,Nat.mul_zero,Nat.add_zero] at go
      obtain ⟨S',q1,q2,q3⟩:=go _ rfl
      refine ⟨S',q1,q2,fun K=>?_⟩
      rw [Dw];unfold H7
      rw [ltT hda,ct,Am hda,ct,rdl hda,wS (by omega),ltF (by omega),cf,show decide (((s:Nat):Int)<0)=false by simp,cf,ct,st1 (by omega),ct,w64 (show a[d]<18446744073709551616 by omega),Int.toNat_natCast s,Nat.min_eq_left (by omega),Wr,Bb4,A2g]
      exact q3 K
theorem Ca0 {N:Nat} {a:List Nat} {n:Nat} {t o:Bool} {s:Nat} (hn:n=a.length) (ha:Ai a) (hs:s≤31) (hf:fit a.length N) :
    ∃ S',Ai S'∧val S'=val a/2 ^ s∧∀ K:Nat→Bool→LA→Option R,Rl N (Ae a) n t o (s:Int) K=K (dig (val a/2 ^ s)).length true (Ae S'):=by
  have h1:=hf.1;have h2:=hf.2
  have la:=(Bn ha).2
  have e0:IntKind.wrap .i64 (Int.tdiv ((s:Nat):Int) 32)=((0:Nat):Int):=by
    rw [show (32:Int)=((32:Nat):Int) by rfl,A7r,Nat.div_eq_of_lt (by omega)];decide
  have e1:Int.tmod ((s:Nat):Int) 32=(s:Int):=by rw [show (32:Int)=((32:Nat):Int) by rfl,A2i,Nat.mod_eq_of_lt (by omega)]
  by_cases h0:val a=0
  · refine ⟨[],Zb,by rw [h0];simp [val],fun K=>?_⟩
    rw [Vy];unfold Vx Vw
    rw [show decide (((s:Nat):Int)<0)=false by simp,cf,By hn ha hf,h0,e0,Nat.zero_div,Dx];rfl
  · obtain ⟨S',q1,q2,q3⟩:=B4y (R:=R) (o:=o) (a:=dig (val a)) (Ad _) hs (hf.le la) (dig (val a)).length 0 N (List.replicate (dig (val a)).length 0) (by omega) (by omega) (Ce _) (by simp) (Mw _) (by rw [D3];simp)
    rw [Ah] at q2
    refine ⟨S',q1,q2,fun K=>?_⟩
    rw [Vy];unfold Vx Vw
    have hne:(dig (val a)).length≠0:=fun h=>h0 (Bo.1 h)
    rw [show decide (((s:Nat):Int)<0)=false by simp,cf,By hn ha hf,e0,e1,show decide (((0:Nat):Int)≥(((dig (val a)).length:Nat):Int))=false by rw [decide_eq_false_iff_not];omega,cf]
    have c1:((decide ((0:Int)≤((0:Nat):Int)))&&((decide (((0:Nat):Int)≤(((dig (val a)).length:Nat):Int)))&&((decide ((((dig (val a)).length:Nat):Int)≤(((dig (val a)).length:Nat):Int)))&&(decide ((((dig (val a)).length:Nat):Int)≤(((dig (val a)).length:Nat):Int))))))=true:=by simp
    rw [c1,ct,Int.toNat_natCast,Nat.sub_zero,mk4 (by omega),ct,Nat.zero_mul,List.drop_zero,Nat.mul_one,Zc,List.take_length,Cz]
    have:=q3 K
    rw [Ah] at this
    exact this
end
end Gx

namespace Gx
open Go Go.Proofs
section
variable {R:Type}
theorem Au6 {S:List Nat} {k:Nat} (h:val S<4294967296 ^ k):val (S.take k)=val S:=by
  by_cases hk:k≤S.length
  · have h1:=Tr (S.take k) (S.drop k)
    rw [List.take_append_drop,List.length_take,Nat.min_eq_left hk] at h1
    rcases Nat.eq_zero_or_pos (val (S.drop k)) with h0 | h0
    · rw [h0] at h1;simpa using h1.symm
    · have:=Nat.le_mul_of_pos_right (4294967296 ^ k) h0
      omega
  · rw [List.take_of_length_le (by omega)]
theorem Au7 {S:List Nat} {n:Nat} (hS:Ai S) (h:S.length=n+1):val S<(S[n]+1)*4294967296 ^ n:=by
  have h1:=Aqp h
  have h2:=Be (Ca hS n)
  rw [List.length_take,Nat.min_eq_left (by omega)] at h2
  rw [Nat.add_mul,Nat.mul_comm S[n]];omega
theorem sl3 {a b c:Nat} (h1:a≤b) (h2:b≤c):((decide ((0:Int)≤(a:Int)))&&((decide ((a:Int)≤(b:Int)))&&((decide ((b:Int)≤(c:Int)))&&(decide ((c:Int)≤(c:Int))))))=true:=by simp;omega
theorem Bz0 {N:Nat} {v u0 Sv:List Nat} {n D s:Nat} (hn:v.length=n+2) (hv:Ai v) (hv1:2147483648≤v[n+1]'(by omega)) (hSv:List.take ((n+2)*1) (Ae Sv)=Ae v) (hu:Ai u0) (hul:u0.length=D+(n+2)) (hs:s≤31) (hf:fit (D+n+4) N) :
    ∀ (j fuel c:Nat) (W q:List Nat),j<fuel→c+j=D→Ai W→W.length=u0.length→Ai q→q.length=D→W.take j=u0.take j→val (W.drop j)<val v→val (q.drop j)*val v+val (W.drop j)=val (u0.drop j) →
    ∃ Sq Sr,Ai Sq∧val Sq=val u0/val v∧Ai Sr∧val Sr=val u0%val v/2 ^ s∧∀ K:Nat→Nat→LA→LA→Option R,Em N K (s:Int) (n+2) u0.length (Ae Sv) fuel D ((n+2:Nat):Int) (D:Int) (D:Int) (c:Int) (Ae q) (Ae W)=K (dig (val u0/val v)).length (dig (val u0%val v/2 ^ s)).length (Ae Sq) (Ae Sr)
  | 0,fuel+1,c,W,q,_,hc,hW,hWl,hq,hql,htk,hr,hval=>by
    have h1:=hf.1;have h2:=hf.2
    simp only [List.drop_zero] at hval hr
    have hv0:0<val v:=by omega
    have vlt:=Be hv
    rw [hn] at vlt
    have hq2:val u0/val v=val q:=by rw [← hval,Nat.mul_comm,Nat.mul_add_div hv0,Nat.div_eq_of_lt hr,Nat.add_zero]
    have hm:val u0%val v=val W:=by rw [← hval,Nat.mul_comm,Nat.mul_add_mod,Nat.mod_eq_of_lt hr]
    have ht:val (W.take (n+2))=val W:=Au6 (by omega)
    have htl:(W.take (n+2)).length=n+2:=by rw [List.length_take];omega
    obtain ⟨S',q1,q3,q4⟩:=Ca0 (R:=R) (N:=N) (a:=W.take (n+2)) (n:=n+2) (t:=false) (o:=true) (s:=s) htl.symm (Ca hW _) hs (hf.le (by rw [htl];omega))
    rw [ht,← hm] at q3 q4
    refine ⟨q,S',hq,hq2.symm,q1,q3,fun K=>?_⟩
    have hcD:c=D:=by omega
    subst hcD
    rw [Em];unfold Nm
    rw [ltF (Nat.le_refl _),cf,sl0 (by omega),ct,Int.toNat_natCast,Nat.mul_one,Zc,q4,Aqn hql.symm hq (by rw [hql];exact hf.le (by omega)),← hq2]
  | j+1,fuel+1,c,W,q,hfu,hc,hW,hWl,hq,hql,htk,hr,hval=>by
    have h1:=hf.1;have h2:=hf.2
    have vlt:=Be hv
    rw [hn] at vlt
    have hjW:j<W.length:=by omega
    have hju:j<u0.length:=by omega
    have hjq:j<q.length:=by omega
    have hWj:W[j]=u0[j]:=by
      have:=congrArg (fun l=>l[j]?) htk
      simp only [List.getElem?_take_of_lt (show j<j+1 by omega),List.getElem?_eq_getElem hjW,List.getElem?_eq_getElem hju] at this
      exact Option.some.inj this
    have wj:=A3 hW hjW
    have eW:=A2j hjW
    have eu:=A2j hju
    have hUl:((W.drop j).take (n+3)).length=n+3:=by rw [List.length_take,List.length_drop];omega
    have hbound:val (W.drop j)<val v*4294967296:=by rw [eW];omega
    have hB:val (W.drop j)<4294967296 ^ (n+3):=by
      have:=(Nat.mul_lt_mul_right (show 0<4294967296 by omega)).2 vlt
      rw [← Nat.pow_succ] at this;exact Nat.lt_trans hbound this
    have hU:val ((W.drop j).take (n+3))=val (W.drop j):=Au6 hB
    have hsplit:W=W.take j++((W.drop j).take (n+3)++(W.drop j).drop (n+3)):=by rw [List.take_append_drop,List.take_append_drop]
    have hPl:(W.take j).length=j:=by rw [List.length_take];omega
    obtain ⟨U',u1,u2,u3,u4⟩:=Bu7 (R:=R) (N:=N) (P:=W.take j) (Q:=(W.drop j).drop (n+3)) (U:=(W.drop j).take (n+3)) (v:=v) (n:=n) (f:=false) (g:=true) hn hv (Ca (Au3 hW _) _) hUl (by omega) (by omega) hv1 (by rw [hU];exact hbound)
    rw [hU] at u3 u4
    have hQ0:val ((W.drop j).drop (n+3))=0:=by
      have:=Tr ((W.drop j).take (n+3)) ((W.drop j).drop (n+3))
      rw [List.take_append_drop,hU,hUl] at this
      have hp:0<4294967296 ^ (n+3):=Nat.pow_pos (by omega)
      rcases Nat.eq_zero_or_pos (val ((W.drop j).drop (n+3))) with h | h
      · exact h
      · have:=Nat.le_mul_of_pos_right (4294967296 ^ (n+3)) h;omega
    have hv0:0<val v:=by omega
    have hqd:val (W.drop j)/val v<4294967296:=Nat.div_lt_of_lt_mul hbound
    have hdm:=Nat.div_add_mod (val (W.drop j)) (val v)
    have hmd:=Nat.mod_lt (val (W.drop j)) hv0
    have hW':Ai (W.take j++(U'++(W.drop j).drop (n+3))):=Bfi.2 ⟨Ca hW _,Bfi.2 ⟨u1,Au3 (Au3 hW _) _⟩⟩
    have hWl':(W.take j++(U'++(W.drop j).drop (n+3))).length=u0.length:=by
      rw [List.length_append,List.length_append,hPl,u2,List.length_drop,List.length_drop];omega
    have hWd:(W.take j++(U'++(W.drop j).drop (n+3))).drop j=U'++(W.drop j).drop (n+3):=by
      rw [List.drop_append,hPl,Nat.sub_self,List.drop_zero,List.drop_eq_nil_of_le (by omega),List.nil_append]
    have hWt:(W.take j++(U'++(W.drop j).drop (n+3))).take j=u0.take j:=by
      rw [List.take_append,hPl,Nat.sub_self,List.take_zero,List.append_nil,List.take_take,Nat.min_self]
      have:=congrArg (List.take j) htk
      rwa [List.take_take,List.take_take,Nat.min_eq_left (by omega)] at this
    have hWv:val (U'++(W.drop j).drop (n+3))=val (W.drop j)%val v:=by rw [Tr,hQ0,u3];simp
    obtain ⟨Sq,Sr,a1,a2,a3,a4,a5⟩:=Bz0 (N:=N) hn hv hv1 hSv hu hul hs hf j fuel (c+1) (W.take j++(U'++(W.drop j).drop (n+3))) (q.set j (val (W.drop j)/val v)) (by omega) (by omega) hW' hWl' (Ch hq hqd j) (by simpa using hql) hWt (by rw [hWd,hWv];exact hmd) (by
      rw [hWd,hWv,B4w hjq,val,eu,← hval,← hWj,Nat.add_mul,Nat.mul_assoc,Nat.mul_add,Nat.mul_comm (val (W.drop j)/val v)]
      omega)
    refine ⟨Sq,Sr,a1,a2,a3,a4,fun K=>?_⟩
    have w0:IntKind.wrap .i64 (IntKind.wrap .i64 (((D:Nat):Int) - 1) - (c:Int))=(j:Int):=by
      rw [i64 (a:=((D:Nat):Int) - 1) (by omega),i64 (by omega)];omega
    have w1:IntKind.wrap .i64 (IntKind.wrap .i64 ((j:Int)+((n+2:Nat):Int))+1)=((j+(n+3):Nat):Int):=by
      rw [i64 (a:=(j:Int)+((n+2:Nat):Int)) (by omega),i64 (by omega)];omega
    have:=u4 fun z aa=>cond (Ak (j:Int) D) (cond ((Nat.beq 1 1)&&((Nat.ble ((0+((Int.toNat (j:Int))*1))+1) (List.length (Ae q)))&&(!false))) (Em N K (s:Int) (n+2) u0.length (Ae Sv) fuel D ((n+2:Nat):Int) (D:Int) (D:Int) (IntKind.wrap .i64 ((c:Int)+1)) (List.set (Ae q) (0+((Int.toNat (j:Int))*1)) (.int .u32 z)) aa) none) none
    rw [← hsplit,hPl] at this
    rw [Em];unfold Nm
    rw [ltT (by omega),ct,w0,w1,sl3 (by omega) (by omega),ct,hSv,Int.toNat_natCast,Int.toNat_natCast,Nat.mul_one,Nat.zero_add,show j+(n+3) - j=n+3 by omega]
    rw [Int.toNat_natCast,Nat.mul_one,Nat.zero_add] at this
    rw [this,Am (by omega),ct,show ((Nat.beq 1 1)&&((Nat.ble (j+1) (List.length (Ae q)))&&(!false)))=true by (rw [Br];simp;omega),ct,Bfj,wS (by omega)]
    exact a5 K
theorem B9m {N:Nat} {a b:List Nat} {n m:Nat} {t o t' o':Bool} (hn:n=a.length) (hm:m=b.length) (ha:Ai a) (hb:Ai b) (hb2:2≤b.length) (hlen:b.length≤a.length) (hbl:b.getLast (by intro h;rw [h] at hb2;simp at hb2)≠0) (hf:fit (a.length+b.length+4) N) :
    ∃ Sq Sr,Ai Sq∧val Sq=val a/val b∧Ai Sr∧val Sr=val a%val b∧∀ K:Nat→Nat→LA→LA→Option R,Mr N (Ae a) n t o (Ae b) m t' o' K=K (dig (val a/val b)).length (dig (val a%val b)).length (Ae Sq) (Ae Sr):=by
  subst hn hm
  have h1:=hf.1;have h2:=hf.2
  obtain ⟨k,hk⟩:∃ k,b.length=k+2:=⟨b.length - 2,by omega⟩
  have hbl2:b[k+1]'(by omega)≠0:=by
    rw [List.getLast_eq_getElem] at hbl
    simp only [hk] at hbl
    exact hbl
  have bk:=A3 hb (show k+1<b.length by omega)
  obtain ⟨s,s1,s2,s3,s4⟩:=B8f (R:=R) (N:=N) (c:=b[k+1]'(by omega)) (by omega) bk
  obtain ⟨Sv,v1,v2,v3,v4⟩:=Bfq (R:=R) (N:=N) (a:=b) (t:=false) (o:=o') (s:=s) rfl hb s1 (hf.le (by omega))
  obtain ⟨Su,p1,p2,p3,p4⟩:=Bfq (R:=R) (N:=N) (a:=a) (t:=false) (o:=o) (s:=s) rfl ha s1 (hf.le (by omega))
  have hp:0<2 ^ s:=Nat.pow_pos (by omega)
  have hP:0<4294967296 ^ (k+1):=Nat.pow_pos (by omega)
  have bt:=Au7 hb hk
  have bf:=Aqp hk
  have hVlt:val b*2 ^ s<4294967296 ^ (k+2):=by
    have x1:val b*2 ^ s<(b[k+1]+1)*4294967296 ^ (k+1)*2 ^ s:=(Nat.mul_lt_mul_right hp).2 bt
    have hd:2 ^ s∣4294967296:=⟨2 ^ (32 - s),by rw [← Nat.pow_add,show s+(32 - s)=32 by omega]⟩
    have x2:(b[k+1]+1)*2 ^ s≤4294967296:=by
      obtain ⟨r,hr⟩:=hd
      have x3:b[k+1]<r:=by
        rw [hr,Nat.mul_comm] at s3
        exact Nat.lt_of_mul_lt_mul_left s3
      have x4:(b[k+1]+1)*2 ^ s≤r*2 ^ s:=Nat.mul_le_mul_right _ x3
      have x5:r*2 ^ s=4294967296:=by rw [Nat.mul_comm];exact hr.symm
      omega
    have x6:=Nat.mul_le_mul_right (4294967296 ^ (k+1)) x2
    rw [Nat.mul_right_comm] at x1
    rw [Nat.pow_succ,Nat.mul_comm _ 4294967296]
    exact Nat.lt_of_lt_of_le x1 x6
  have hvl:(Sv.take (k+2)).length=k+2:=by rw [List.length_take];omega
  have hvv:val (Sv.take (k+2))=val b*2 ^ s:=by rw [Au6 (by rw [v3];exact hVlt),v3]
  have hvlow:2147483648*4294967296 ^ (k+1)≤val b*2 ^ s:=by
    have x1:4294967296 ^ (k+1)*b[k+1]≤val b:=by omega
    have x2:=Nat.mul_le_mul_right (2 ^ s) x1
    rw [Nat.mul_assoc,Nat.mul_comm (4294967296 ^ (k+1))] at x2
    have x3:=Nat.mul_le_mul_right (4294967296 ^ (k+1)) s2
    omega
  have hvtop:2147483648≤(Sv.take (k+2))[k+1]'(by omega):=by
    have x1:=Au7 (Ca v1 (k+2)) hvl
    rw [hvv] at x1
    have x2:=Nat.lt_of_mul_lt_mul_right (Nat.lt_of_le_of_lt hvlow x1)
    omega
  have hDl:Su.length=(a.length+1 - (k+2))+(k+2):=by omega
  have hinit:val (Su.drop (a.length+1 - (k+2)))<val (Sv.take (k+2)):=by
    have x1:=Tr (Su.take (a.length+1 - (k+2))) (Su.drop (a.length+1 - (k+2)))
    rw [List.take_append_drop,p3,List.length_take,Nat.min_eq_left (by omega)] at x1
    have x2:=Be ha
    have x3:val a*2 ^ s<4294967296 ^ a.length*2 ^ s:=(Nat.mul_lt_mul_right hp).2 x2
    have x4:a.length=(a.length+1 - (k+2))+(k+1):=by omega
    generalize hE:a.length+1 - (k+2)=E at *
    have x5:4294967296 ^ a.length=4294967296 ^ E*4294967296 ^ (k+1):=by rw [← Nat.pow_add];congr 1
    rw [x5,Nat.mul_assoc] at x3
    have x6:4294967296 ^ E*val (Su.drop E)<4294967296 ^ E*(4294967296 ^ (k+1)*2 ^ s):=by omega
    have x7:=Nat.lt_of_mul_lt_mul_left x6
    have x8:4294967296 ^ (k+1)*2 ^ s≤2147483648*4294967296 ^ (k+1):=by rw [Nat.mul_comm];exact Nat.mul_le_mul_right _ (B2g s1)
    rw [hvv];omega
  obtain ⟨Sq,Sr,a1,a2,a3,a4,a5⟩:=Bz0 (R:=R) (N:=N) (v:=Sv.take (k+2)) (u0:=Su) (Sv:=Sv) (n:=k) (D:=a.length+1 - (k+2)) (s:=s) hvl (Ca v1 _) hvtop (by rw [Nat.mul_one,Zc]) p1 hDl s1 (hf.le (by omega)) (a.length+1 - (k+2)) N 0 Su (List.replicate (a.length+1 - (k+2)) 0) (by omega) (by omega) p1 rfl (Ce _) (by simp) rfl hinit (by
    rw [List.drop_eq_nil_of_le (show (List.replicate (a.length+1 - (k+2)) 0).length≤a.length+1 - (k+2) by simp)];simp [val])
  have hq:val Su/val (Sv.take (k+2))=val a/val b:=by rw [p3,hvv,Nat.mul_div_mul_right _ _ hp]
  have hr:val Su%val (Sv.take (k+2))/2 ^ s=val a%val b:=by rw [p3,hvv,Nat.mul_mod_mul_right,Nat.mul_div_cancel _ hp]
  rw [hq] at a2;rw [hr] at a4
  refine ⟨Sq,Sr,a1,a2,a3,a4,fun K=>?_⟩
  rw [Alt];unfold Ai4 Ai3
  have w1:IntKind.wrap .i64 (((b.length:Nat):Int) - 1)=((k+1:Nat):Int):=by rw [i64 (by omega)];omega
  have w2:IntKind.wrap .i64 (((a.length+1:Nat):Int) - ((b.length:Nat):Int))=((a.length+1 - (k+2):Nat):Int):=by rw [i64 (by omega)];omega
  rw [w1,Am (by omega),ct,rdl (by omega),s4,v4,sl0 (by omega),ct,p4,w2,mk4 (by omega),ct,Int.toNat_natCast,Cz]
  have:=a5 K
  rw [hq,hr,p2] at this
  rw [hk]
  exact this
theorem A2k {N:Nat} {a b:List Nat} {n m:Nat} {t o t' o':Bool} (hn:n=a.length) (hm:m=b.length) (ha:Ai a) (hb:Ai b) (hb0:val b≠0) (hf:fit (a.length+b.length+4) N) :
    ∃ Sq Sr,Ai Sq∧val Sq=val a/val b∧Ai Sr∧val Sr=val a%val b∧∀ K:Nat→Nat→Bool→LA→LA→Option R,En N (Ae a) n t o (Ae b) m t' o' K=K (dig (val a/val b)).length (dig (val a%val b)).length true (Ae Sq) (Ae Sr):=by
  have h1:=hf.1;have h2:=hf.2
  have la:=(Bn ha).2
  have lb:=(Bn hb).2
  have hbl:(dig (val b)).length≠0:=fun h=>hb0 (Bo.1 h)
  have start:∀ K:Nat→Nat→Bool→LA→LA→Option R,En N (Ae a) n t o (Ae b) m t' o' K=cond (decide (Hp (val a) (val b)<0)) (Afi N (Ae (dig (val a))) (dig (val a)).length false o (fun s t=>(K 0 s true [] t))) (cond (decide ((((dig (val a)).length:Nat):Int)≤(2:Int))) (Vj N (Ae (dig (val a))) (dig (val a)).length false o (fun p=>(Vj N (Ae (dig (val b))) (dig (val b)).length false o' (fun o=>(cond (o==(0:Int)) none (Bu N (IntKind.wrap .u64 (Int.tdiv p o)) (fun u w=>(cond (o==(0:Int)) none (Bu N (Int.tmod p o) (fun x y=>(K u x true w y))))))))))) (cond ((((dig (val b)).length:Nat):Int)==(1:Int)) (cond (Ak (0:Int) (dig (val b)).length) (rdI .u32 (Ae (dig (val b))) fun z=>(Hv N (Ae (dig (val a))) (dig (val a)).length false o z (fun aa ab ac ad=>(K aa ab true ac ad)))) none) (Mr N (Ae (dig (val a))) (dig (val a)).length false o (Ae (dig (val b))) (dig (val b)).length false o' (fun ae af ag ah=>(K ae af true ag ah))))):=by
    intro K
    rw [A7a];unfold Baq Bap
    rw [By hn ha (hf.le (by omega)),By hm hb (hf.le (by omega)),i0F hbl,cf,Ug rfl rfl (Ad _) (Ad _) (hf.le (by omega)),Ah,Ah]
  by_cases hlt:val a<val b
  · refine ⟨[],dig (val a),Zb,by rw [Nat.div_eq_of_lt hlt];rfl,Ad _,by rw [Nat.mod_eq_of_lt hlt,Ah],fun K=>?_⟩
    rw [start,show decide (Hp (val a) (val b)<0)=true by (unfold Hp;rw [if_pos hlt];rfl),ct,A5a rfl (Ad _) (hf.le (by omega)),Ah,Nat.div_eq_of_lt hlt,Nat.mod_eq_of_lt hlt,Dx];rfl
  · have hcmp:decide (Hp (val a) (val b)<0)=false:=by unfold Hp;rw [if_neg hlt];split<;>rfl
    have hll:=Bv (Nat.le_of_not_lt hlt)
    by_cases ha2:(dig (val a)).length≤2
    · have av:=Bfo ha2
      have bv:=Bfo (Nat.le_trans hll ha2)
      have q64:val a/val b<18446744073709551616:=Nat.lt_of_le_of_lt (Nat.div_le_self _ _) av
      have r64:val a%val b<18446744073709551616:=Nat.lt_of_le_of_lt (Nat.mod_le _ _) av
      obtain ⟨Sq,a1,a2,a3⟩:=Lm (R:=R) (N:=N) q64 (by omega)
      obtain ⟨Sr,b1,b2,b3⟩:=Lm (R:=R) (N:=N) r64 (by omega)
      refine ⟨Sq,Sr,a1,a2,b1,b2,fun K=>?_⟩
      rw [start,hcmp,cf,show decide ((((dig (val a)).length:Nat):Int)≤2)=true by simp;omega,ct,Aqo rfl (Ad _) ha2 (by omega),Aqo rfl (Ad _) (by omega) (by omega),Ah,Ah,i0F hb0,cf,A7r,w64 q64,a3,cf,A2i,b3]
    · have hd2:decide ((((dig (val a)).length:Nat):Int)≤2)=false:=by simp;omega
      by_cases hb1:(dig (val b)).length=1
      · obtain ⟨x, hx⟩ : ∃ x, dig (val b) = [x] := by
          match h:dig (val b),hb1 with
          | [x],_=>exact ⟨x,rfl⟩
        have hxv:x=val b:=by have:=Ah (val b);rw [hx] at this;simpa [val] using this
        have xl:x<4294967296:=by have:=Ad (val b);rw [hx] at this;exact (De.1 this).1
        obtain ⟨Sq,Sr,a1,a2,a3,a4,a5⟩:=B4x (R:=R) (N:=N) (a:=dig (val a)) (t:=false) (o:=o) (b:=x) rfl (Ad _) (by omega) xl (hf.le (by omega))
        rw [Ah,hxv] at a2 a4 a5
        refine ⟨Sq,Sr,a1,a2,a3,a4,fun K=>?_⟩
        rw [start,hcmp,cf,hd2,cf,hx]
        simp only [List.length_cons,List.length_nil,Aha,B5]
        rw [show ((((0+1:Nat)):Int)==1)=true by rfl,ct,show Ak 0 (0+1)=true by decide,ct,hxv,a5]
      · obtain ⟨Sq,Sr,a1,a2,a3,a4,a5⟩:=B9m (R:=R) (N:=N) (a:=dig (val a)) (b:=dig (val b)) (t:=false) (o:=o) (t':=false) (o':=o') rfl rfl (Ad _) (Ad _) (by omega) hll (Buu _ _) (hf.le (by omega))
        rw [Ah,Ah] at a2 a4 a5
        refine ⟨Sq,Sr,a1,a2,a3,a4,fun K=>?_⟩
        rw [start,hcmp,cf,hd2,cf,show ((((dig (val b)).length:Nat):Int)==1)=false by rw [beq_eq_false_iff_ne];omega,cf,a5]
end
end Gx

namespace Gx
open Go Go.Proofs
section
variable {R:Type}
def Cof (A B u0 u1 v0 v1:Nat) (e:Bool):Prop:=v0=0∨(1≤u1∧1≤v1∧match e with
  | true=>v0*B≤u0*A∧u1*A≤v1*B∧(v0+v1)*B≤(u0+u1)*A∧u0*v1=v0*u1+1
  | false=>u0*A≤v0*B∧v1*B≤u1*A∧(u0+u1)*A≤(v0+v1)*B∧u1*v0=v1*u0+1)
structure Lead (X Y x y u1 u2 v1 v2:Nat) (e:Bool):Prop where
  le:y≤x
  idV:x*v2+y*v1=X
  idU:x*u2+y*u1=Y
  pos:1≤v2
  par:match e with
    | false=>x+v1*Y=u1*X∧y+u2*X=v2*Y∧u1*v2=v1*u2+1
    | true=>x+u1*X=v1*Y∧y+v2*Y=u2*X∧u2*v1=v2*u1+1
  small:(v1=0∧u1=1∧u2=0∧v2=1∧e=false)∨(1≤v1∧u1≤v1∧u2≤v2∧1≤u2)
theorem Lead.init {X Y:Nat} (h:Y≤X):Lead X Y X Y 1 0 0 1 false:=⟨h,by simp,by simp,by omega,by simp,.inl ⟨rfl,rfl,rfl,rfl,rfl⟩⟩
theorem Lead.step {X Y x y u1 u2 v1 v2:Nat} {e:Bool} (L:Lead X Y x y u1 u2 v1 v2 e) (hy:1≤y):Lead X Y y (x%y) u2 (u1+x/y*u2) v2 (v1+x/y*v2) (!e):=by
  have hdm:=Nat.div_add_mod x y
  have hmod:=Nat.mod_lt x (show 0<y by omega)
  have hq:1≤x/y:=by rw [Nat.le_div_iff_mul_le (by omega)];have:=L.le;omega
  generalize x/y=q at *
  generalize x%y=r at *
  have hv2:=L.pos
  refine ⟨by omega,?_,?_,?_,?_,?_⟩
  · rw [← L.idV,← hdm,Nat.mul_add,Nat.add_mul,Nat.mul_assoc];omega
  · rw [← L.idU,← hdm,Nat.mul_add,Nat.add_mul,Nat.mul_assoc];omega
  · have:=Nat.mul_le_mul hq hv2;omega
  · have p:=L.par
    cases e with
    | false =>
      obtain ⟨p1,p2,p3⟩:=p
      refine ⟨p2,?_,?_⟩
      · have e1:q*(y+u2*X)=q*(v2*Y):=by rw [p2]
        rw [Nat.mul_add,← Nat.mul_assoc,← Nat.mul_assoc] at e1
        rw [Nat.mul_comm y q] at hdm
        rw [Nat.add_mul,Nat.add_mul];omega
      · rw [Nat.add_mul,Nat.add_mul,Nat.mul_right_comm q u2,p3];omega
    | true =>
      obtain ⟨p1,p2,p3⟩:=p
      refine ⟨p2,?_,?_⟩
      · have e1:q*(y+v2*Y)=q*(u2*X):=by rw [p2]
        rw [Nat.mul_add,← Nat.mul_assoc,← Nat.mul_assoc] at e1
        rw [Nat.mul_comm y q] at hdm
        rw [Nat.add_mul,Nat.add_mul];omega
      · rw [Nat.mul_add,Nat.mul_add,p3,Nat.mul_left_comm u2 q,Nat.mul_left_comm v2 q,Nat.mul_comm u2 v2];omega
  · right
    rcases L.small with ⟨s1,s2,s3,s4,_⟩ | ⟨s1,s2,s3,s4⟩
    · subst s1 s2 s3 s4;exact ⟨by omega,by omega,by omega,by omega⟩
    · have h1:q*u2≤q*v2:=Nat.mul_le_mul_left _ s3
      exact ⟨hv2,s3,by omega,by have:=Nat.mul_le_mul hq s4;omega⟩
theorem Lead.cof {X Y x y u1 u2 v1 v2 A B P:Nat} {e:Bool} (L:Lead X Y x y u1 u2 v1 v2 e) (hA:X*P≤A) (hA':A<(X+1)*P) (hB:Y*P≤B) (hB':B<(Y+1)*P) (c1:v2≤y) (c2:v1+v2≤x - y):Cof A B u1 u2 v1 v2 (!e):=by
  have p:=L.par
  have hle:=L.le
  rcases L.small with ⟨s1,_⟩ | ⟨s1,s2,s3,s4⟩
  · exact .inl s1
  · refine .inr ⟨s4,L.pos,?_⟩
    cases e with
    | false =>
      obtain ⟨p1,p2,p3⟩:=p
      have n1:u2*A≤v2*B:=Ams hB hA' (w:=y) (by omega) (by omega)
      have n2:(v1+v2)*B≤(u1+u2)*A:=Ams hA hB' (w:=x - y) (by rw [Nat.add_mul,Nat.add_mul];omega) c2
      refine ⟨?_,n1,n2,p3⟩
      rw [Nat.add_mul,Nat.add_mul] at n2;omega
    | true =>
      obtain ⟨p1,p2,p3⟩:=p
      have n1:v2*B≤u2*A:=Ams hA hB' (w:=y) (by omega) (by omega)
      have n2:(u1+u2)*A≤(v1+v2)*B:=Ams hB hA' (w:=x - y) (by rw [Nat.add_mul,Nat.add_mul];omega) (by omega)
      refine ⟨?_,n1,n2,p3⟩
      rw [Nat.add_mul,Nat.add_mul] at n2;omega
theorem A2l {x y:Nat} (hy:1≤y) (h:y≤x):2*(y*(x%y))≤x*y:=by
  have h1:=Nat.div_add_mod x y
  have h2:=Nat.mod_lt x (show 0<y by omega)
  have hq:1≤x/y:=by rw [Nat.le_div_iff_mul_le (by omega)];omega
  have h3:y*1≤y*(x/y):=Nat.mul_le_mul_left _ hq
  have h4:2*(x%y)≤x:=by omega
  have:=Nat.mul_le_mul_left y h4
  rw [Nat.mul_comm x y,Nat.mul_left_comm];exact this
def B8i (u0 u1 v0 v1:Nat) (e:Bool):List AV:=[.int .u64 (u0:Int),.int .u64 (u1:Int),.int .u64 (v0:Int),.int .u64 (v1:Int),.bool e]
theorem B9n {N:Nat} {X Y A B P:Nat} (hX:X<18446744073709551616) (hYX:Y≤X) (hA:X*P≤A) (hA':A<(X+1)*P) (hB:Y*P≤B) (hB':B<(Y+1)*P):∀ (k fuel x y u0 u1 u2 v0 v1 v2:Nat) (e:Bool),k<fuel→x*y<2 ^ k→Lead X Y x y u1 u2 v1 v2 e→Cof A B u0 u1 v0 v1 e→u0<18446744073709551616→u1<18446744073709551616→v0<18446744073709551616→v1<18446744073709551616 →
    ∃ (a1 a2 b1 b2:Nat) (e':Bool),Cof A B a1 a2 b1 b2 e'∧a1<18446744073709551616∧a2<18446744073709551616∧b1<18446744073709551616∧b2<18446744073709551616∧∀ K:LA→Option R,D2 N K fuel (x:Int) (y:Int) (u0:Int) (u1:Int) (u2:Int) (v0:Int) (v1:Int) (v2:Int) e=K (B8i a1 a2 b1 b2 e'):=by
  intro k
  induction k with
  | zero =>
    intro fuel x y u0 u1 u2 v0 v1 v2 e hf hxy L C b1 b2 b3 b4
    obtain ⟨fuel,rfl⟩:∃ F,fuel=F+1:=⟨fuel - 1,by omega⟩
    have hy:y=0:=by
      rcases Nat.eq_zero_or_pos y with h | h
      · exact h
      · have h3:=Nat.mul_le_mul_left x (show 1≤y by omega)
        have h4:=L.le
        rw [Nat.pow_zero] at hxy
        omega
    refine ⟨u0,u1,v0,v1,e,C,b1,b2,b3,b4,fun K=>?_⟩
    rw [D2];unfold J6
    have:=L.pos
    rw [show decide ((y:Int)≥(v2:Int))=false by simp;omega];rfl
  | succ k ih =>
    intro fuel x y u0 u1 u2 v0 v1 v2 e hf hxy L C b1 b2 b3 b4
    obtain ⟨fuel,rfl⟩:∃ F,fuel=F+1:=⟨fuel - 1,by omega⟩
    have hv2:=L.pos
    have hle:=L.le
    by_cases c1:v2≤y
    · have hy:1≤y:=by omega
      have hxX:x≤X:=by
        have:=Nat.mul_le_mul_left x hv2
        have:=L.idV;omega
      have hsum:v1+v2≤X:=by
        have h1:=Nat.mul_le_mul_right v2 (show 1≤x by omega)
        have h2:=Nat.mul_le_mul_right v1 hy
        have:=L.idV;omega
      by_cases c2:v1+v2≤x - y
      · have L':=L.step hy
        have C':=L.cof hA hA' hB hB' c1 c2
        have i1:=L'.idV
        have i2:=L'.idU
        have w1:v1+x/y*v2≤X:=by
          have:=Nat.mul_le_mul_right (v1+x/y*v2) hy;omega
        have w2:u1+x/y*u2≤Y:=by
          have:=Nat.mul_le_mul_right (u1+x/y*u2) hy;omega
        have hu2:u2<18446744073709551616:=by
          have h1:=Nat.mul_le_mul_right u2 (show 1≤x by omega)
          have:=L.idU;omega
        have hv2':v2<18446744073709551616:=by omega
        have hlt:y*(x%y)<2 ^ k:=by
          have:=A2l hy hle
          rw [Nat.pow_succ] at hxy;omega
        obtain ⟨a1,a2,d1,d2,e',r1,r2,r3,r4,r5,r6⟩:=ih fuel y (x%y) u1 u2 (u1+x/y*u2) v1 v2 (v1+x/y*v2) (!e) (by omega) hlt L' C' b2 hu2 b4 hv2'
        refine ⟨a1,a2,d1,d2,e',r1,r2,r3,r4,r5,fun K=>?_⟩
        rw [D2];unfold J6
        have hxy64:x<18446744073709551616:=by omega
        have hdiv:x/y<18446744073709551616:=Nat.lt_of_le_of_lt (Nat.div_le_self _ _) hxy64
        rw [show decide ((y:Int)≥(v2:Int))=true by simp;omega,show ((true:Bool)==true)=true by rfl,ct,Bj4 hxy64 hle,Aqm,w64 (show v1+v2<18446744073709551616 by omega),show decide (((x - y:Nat):Int)≥((v1+v2:Nat):Int))=true by rw [decide_eq_true_eq];omega,ctB,ct]
        unfold Aah Aix
        dsimp only
        rw [i0F (by omega),cf,cf,A7r,A2i,w64 hdiv,Buv,Buv,w64 (show x/y*u2<18446744073709551616 by omega),w64 (show x/y*v2<18446744073709551616 by omega),Aqm,Aqm,w64 (show u1+x/y*u2<18446744073709551616 by omega),w64 (show v1+x/y*v2<18446744073709551616 by omega)]
        exact r6 K
      · refine ⟨u0,u1,v0,v1,e,C,b1,b2,b3,b4,fun K=>?_⟩
        rw [D2];unfold J6
        rw [show decide ((y:Int)≥(v2:Int))=true by simp;omega,show ((true:Bool)==true)=true by rfl,ct,Bj4 (by omega) hle,Aqm,w64 (show v1+v2<18446744073709551616 by omega),show decide (((x - y:Nat):Int)≥((v1+v2:Nat):Int))=false by rw [decide_eq_false_iff_not];omega,ctB,cf]
        rfl
    · refine ⟨u0,u1,v0,v1,e,C,b1,b2,b3,b4,fun K=>?_⟩
      rw [D2];unfold J6
      rw [show decide ((y:Int)≥(v2:Int))=false by simp;omega];rfl
end
end Gx

namespace Gx
open Go Go.Proofs
section
variable {R:Type}
theorem Bka {N:Nat} {a:List Nat} {n:Nat} {t o:Bool} {i:Nat} {K:Int→Option R} (hn:n=a.length) (ha:Ai a):Ld N (i:Int) (Ae a) n t o K=K ((a.getD i 0:Nat):Int):=by
  subst hn
  rw [Ap6];unfold Aol Aok
  by_cases h:i<a.length
  · have:=A3 ha h
    rw [ltT h,ct,Am h,ct,rdl h,w64 (by omega),List.getD_eq_getElem?_getD,List.getElem?_eq_getElem h];rfl
  · rw [ltF (by omega),cf,List.getD_eq_getElem?_getD,List.getElem?_eq_none (by omega)];rfl
theorem Ahc {a:List Nat} (ha:Ai a) (i:Nat):a.getD i 0<4294967296:=by
  by_cases h:i<a.length
  · rw [List.getD_eq_getElem?_getD,List.getElem?_eq_getElem h];exact A3 ha h
  · rw [List.getD_eq_getElem?_getD,List.getElem?_eq_none (by omega)];simp
theorem Ca1 {a:List Nat} {n:Nat} (hl:a.length≤n+3):val a=val (a.take n)+4294967296 ^ n*((a.getD (n+2) 0*4294967296+a.getD (n+1) 0)*4294967296+a.getD n 0):=by
  have h0:=Uh a (n+2)
  have h1:=Uh a (n+1)
  have h2:=Uh a n
  rw [List.take_of_length_le (by omega)] at h0
  have x1:4294967296 ^ (n+2)*a.getD (n+2) 0=4294967296 ^ n*(a.getD (n+2) 0*4294967296*4294967296):=by rw [Nat.pow_succ (n:=4294967296) (m:=n+1),Nat.pow_succ,pw1,pw1]
  have x2:4294967296 ^ (n+1)*a.getD (n+1) 0=4294967296 ^ n*(a.getD (n+1) 0*4294967296):=by rw [Nat.pow_succ,pw1]
  rw [h0,h1,h2,x1,x2,Nat.add_mul,Nat.mul_add,Nat.mul_add];omega
theorem Bni {N:Nat} {a:List Nat} {m n s:Nat} {t o:Bool} {K:Int→Option R} (hm:m=a.length) (ha:Ai a) (hl:a.length≤n+3) (hs:s≤31) (htop:a.getD (n+2) 0*2 ^ s<4294967296) (hn:n≤1000000000000) :
    Ag2 N (Ae a) m t o ((n+3:Nat):Int) (s:Int) K=K ((val a/(4294967296 ^ n*2 ^ (32 - s)):Nat):Int)∧val a/(4294967296 ^ n*2 ^ (32 - s))<18446744073709551616:=by
  have hp:0<2 ^ s:=Nat.pow_pos (by omega)
  have hp2:0<2 ^ (32 - s):=Nat.pow_pos (by omega)
  have hP:0<4294967296 ^ n:=Nat.pow_pos (by omega)
  have hpp:2 ^ s*2 ^ (32 - s)=4294967296:=by rw [← Nat.pow_add,show s+(32 - s)=32 by omega]
  have b0:=Ahc ha (n+2)
  have b1:=Ahc ha (n+1)
  have b2:=Ahc ha n
  have tk:=Be (Ca ha n)
  have tk2:val (a.take n)<4294967296 ^ n:=by
    refine Nat.lt_of_lt_of_le tk (Nat.pow_le_pow_right (by omega) ?_)
    rw [List.length_take];omega
  have hv:=Ca1 hl
  generalize ha0:a.getD (n+2) 0=a0 at *
  generalize ha1:a.getD (n+1) 0=a1 at *
  generalize ha2:a.getD n 0=a2 at *
  have hd0:a0<2 ^ (32 - s):=by
    rw [← hpp,Nat.mul_comm] at htop;exact Nat.lt_of_mul_lt_mul_left htop
  have hk:(a0*4294967296+a1)*2 ^ s<18446744073709551616:=by
    have x1:(a0+1)*4294967296≤2 ^ (32 - s)*4294967296:=Nat.mul_le_mul_right _ hd0
    have x2:a0*4294967296+a1<2 ^ (32 - s)*4294967296:=by rw [Nat.add_mul] at x1;omega
    have x3:=(Nat.mul_lt_mul_right hp).2 x2
    rw [Nat.mul_right_comm,Nat.mul_comm (2 ^ (32 - s)),hpp] at x3
    exact x3
  have hsh:a2/2 ^ (32 - s)<2 ^ s:=by
    rw [Nat.div_lt_iff_lt_mul hp2,hpp];exact b2
  have hq:val a/(4294967296 ^ n*2 ^ (32 - s))=(a0*4294967296+a1)*2 ^ s+a2/2 ^ (32 - s):=by
    rw [← Nat.div_div_eq_div_mul,hv,Nat.add_mul_div_left _ _ hP,Nat.div_eq_of_lt tk2,Nat.zero_add]
    have:(a0*4294967296+a1)*4294967296+a2=a2+2 ^ (32 - s)*((a0*4294967296+a1)*2 ^ s):=by
      rw [Nat.mul_left_comm,Nat.mul_comm (2 ^ (32 - s)),hpp];omega
    rw [this,Nat.add_mul_div_left _ _ hp2];omega
  have hb:(a0*4294967296+a1)*2 ^ s+a2/2 ^ (32 - s)<18446744073709551616:=by
    have hdv:2 ^ s*2 ^ (64 - s)=18446744073709551616:=by rw [← Nat.pow_add,show s+(64 - s)=64 by omega]
    obtain ⟨r,hr⟩:∃ r,18446744073709551616=2 ^ s*r:=⟨2 ^ (64 - s),hdv.symm⟩
    rw [hr,Nat.mul_comm] at hk
    have x1:=Nat.lt_of_mul_lt_mul_left hk
    have x2:(a0*4294967296+a1+1)*2 ^ s≤r*2 ^ s:=Nat.mul_le_mul_right _ x1
    rw [Nat.add_mul,Nat.mul_comm r,← hr] at x2
    omega
  rw [hq]
  refine ⟨?_,hb⟩
  rw [A62];unfold Baj Bai
  have w1:IntKind.wrap .i64 (((n+3:Nat):Int) - 1)=((n+2:Nat):Int):=by rw [i64 (by omega)];omega
  have w2:IntKind.wrap .i64 (((n+3:Nat):Int) - 2)=((n+1:Nat):Int):=by rw [i64 (by omega)];omega
  have w3:IntKind.wrap .i64 (((n+3:Nat):Int) - 3)=((n:Nat):Int):=by rw [i64 (by omega)];omega
  have w4:IntKind.wrap .i64 ((32:Int) - (s:Int))=((32 - s:Nat):Int):=by rw [i64 (by omega)];omega
  rw [w1,w2,w3,w4,Bka hm ha,Bka hm ha,show decide (((s:Nat):Int)<0)=false by simp,cf,Bka hm ha,show decide (((32 - s:Nat):Int)<0)=false by simp,cf]
  rw [ha0,ha1,ha2,orw b0 b1,Int.toNat_natCast,Int.toNat_natCast,Nat.min_eq_left (by omega),Nat.min_eq_left (by omega),Wr,show (2:Int) ^ s=((2 ^ s:Nat):Int) by simp,Buv,w64 hk,B64 hk (by omega),Bj6 hsh]
theorem B2h {N:Nat} {a b:List Nat} {n m:Nat} {t o t' o':Bool} (hn:n=a.length) (hm:m=b.length) (ha:Ai a) (hb:Ai b) (ha3:3≤a.length) (hla:a.getLast (by intro h;rw [h] at ha3;simp at ha3)≠0) (hlb:b.length≤a.length) (hle:val b≤val a) (hf:fit a.length N) :
    ∃ (a1 a2 b1 b2:Nat) (e:Bool),Cof (val a) (val b) a1 a2 b1 b2 e∧a1<18446744073709551616∧a2<18446744073709551616∧b1<18446744073709551616∧b2<18446744073709551616∧∀ K:LA→Option R,Aiy N (Ae a) n t o (Ae b) m t' o' K=K (B8i a1 a2 b1 b2 e):=by
  subst hn hm
  have h1:=hf.1;have h2:=hf.2
  obtain ⟨k,hk⟩:∃ k,a.length=k+3:=⟨a.length - 3,by omega⟩
  have hla2:a[k+2]'(by omega)≠0:=by
    rw [List.getLast_eq_getElem] at hla
    simp only [hk] at hla
    exact hla
  have ak:=A3 ha (show k+2<a.length by omega)
  obtain ⟨s,s1,s2,s3,s4⟩:=B8f (R:=R) (N:=N) (c:=a[k+2]'(by omega)) (by omega) ak
  have hag:a.getD (k+2) 0=a[k+2]'(by omega):=by rw [List.getD_eq_getElem?_getD,List.getElem?_eq_getElem (by omega)];rfl
  have hbtop:b.getD (k+2) 0≤a[k+2]'(by omega):=by
    apply Nat.le_of_not_lt;intro hlt
    have hbl:k+2<b.length:=by
      apply Nat.lt_of_not_le;intro hge
      rw [List.getD_eq_getElem?_getD,List.getElem?_eq_none hge] at hlt;simp at hlt
    have hbg:b.getD (k+2) 0=b[k+2]:=by rw [List.getD_eq_getElem?_getD,List.getElem?_eq_getElem hbl];rfl
    rw [hbg] at hlt
    have x1:=Au7 ha (n:=k+2) (by omega)
    have x2:=B66 hbl
    have x3:(a[k+2]+1)*4294967296 ^ (k+2)≤b[k+2]*4294967296 ^ (k+2):=Nat.mul_le_mul_right _ hlt
    rw [Nat.mul_comm] at x2
    omega
  have hbt:b.getD (k+2) 0*2 ^ s<4294967296:=Nat.lt_of_le_of_lt (Nat.mul_le_mul_right _ hbtop) s3
  have hPP:0<4294967296 ^ k*2 ^ (32 - s):=Nat.mul_pos (Nat.pow_pos (by omega)) (Nat.pow_pos (by omega))
  have wa:=fun K=>Bni (R:=R) (N:=N) (a:=a) (m:=a.length) (n:=k) (s:=s) (t:=false) (o:=o) (K:=K) rfl ha (by omega) s1 (by rw [hag];exact s3) (by omega)
  have wb:=fun K=>Bni (R:=R) (N:=N) (a:=b) (m:=b.length) (n:=k) (s:=s) (t:=false) (o:=o') (K:=K) rfl hb (by omega) s1 hbt (by omega)
  have hX:=(wa fun _=>none).2
  generalize hP:4294967296 ^ k*2 ^ (32 - s)=P at *
  have hYX:val b/P≤val a/P:=Nat.div_le_div_right hle
  have q1:∀ z,z/P*P≤z:=fun z=>Nat.div_mul_le_self z P
  have q2:∀ z,z<(z/P+1)*P:=fun z=>by
    have:=Nat.div_add_mod z P;have:=Nat.mod_lt z hPP
    rw [Nat.add_mul,Nat.mul_comm];omega
  obtain ⟨a1,a2,b1,b2,e,r1,r2,r3,r4,r5,r6⟩:=B9n (R:=R) (N:=N) (X:=val a/P) (Y:=val b/P) (A:=val a) (B:=val b) (P:=P) hX hYX (q1 _) (q2 _) (q1 _) (q2 _) 128 N (val a/P) (val b/P) 0 1 0 0 0 1 false (by omega) (by
    have:=Nat.mul_lt_mul'' hX (Nat.lt_of_le_of_lt hYX hX)
    exact this) (Lead.init hYX) (.inl rfl) (by omega) (by omega) (by omega) (by omega)
  refine ⟨a1,a2,b1,b2,e,r1,r2,r3,r4,r5,fun K=>?_⟩
  rw [A0h];unfold A0g A0f
  have w1:IntKind.wrap .i64 (((a.length:Nat):Int) - 1)=((k+2:Nat):Int):=by rw [i64 (by omega)];omega
  rw [w1,Am (by omega),ct,rdl (by omega),s4,show ((a.length:Nat):Int)=((k+3:Nat):Int) by rw [hk],(wa _).1,(wb _).1]
  exact r6 K
theorem Af0 {N:Nat} {a b:List Nat} {n m:Nat} {x y:Nat} {t o t' o':Bool} (hn:n=a.length) (hm:m=b.length) (ha:Ai a) (hb:Ai b) (hx:x<18446744073709551616) (hy:y<18446744073709551616) (hle:val b*y≤val a*x) (hf:fit (a.length+b.length+4) N) :
    ∃ S,Ai S∧val S=val a*x - val b*y∧∀ K:Nat→LA→Option R,Fn N (Ae a) n t o (x:Int) (Ae b) m t' o' (y:Int) K=K (dig (val a*x - val b*y)).length (Ae S):=by
  subst hn hm
  have h1:=hf.1;have h2:=hf.2
  obtain ⟨Sx,x1,x2,x3⟩:=Lm (R:=R) (N:=N) hx (by omega)
  obtain ⟨Sy,y1,y2,y3⟩:=Lm (R:=R) (N:=N) hy (by omega)
  have lx:=Afz hx
  have ly:=Afz hy
  obtain ⟨P1,p1,p2,p3⟩:=A2h (R:=R) (N:=N) (a:=a) (b:=dig x) (t:=false) (o:=o) (t':=false) (o':=true) rfl rfl ha (Ad _) (hf.le (by omega))
  obtain ⟨P2,q1,q2,q3⟩:=A2h (R:=R) (N:=N) (a:=b) (b:=dig y) (t:=false) (o:=o') (t':=false) (o':=true) rfl rfl hb (Ad _) (hf.le (by omega))
  rw [Ah] at p2 p3 q2 q3
  have l1:(dig (val a*x)).length≤a.length+2:=B6 (by
    have:=Nat.mul_lt_mul'' (Be ha) hx
    rw [Nat.pow_add];exact this)
  have l2:(dig (val b*y)).length≤b.length+2:=B6 (by
    have:=Nat.mul_lt_mul'' (Be hb) hy
    rw [Nat.pow_add];exact this)
  obtain ⟨S,s1,s2,s3⟩:=Bu5 (R:=R) (N:=N) (a:=dig (val a*x)) (b:=dig (val b*y)) (t:=false) (o:=true) (t':=false) (o':=true) rfl rfl (Ad _) (Ad _) (hf.le (by omega)) (by rw [Ah,Ah];exact hle)
  rw [Ah,Ah] at s2 s3
  refine ⟨S,s1,s2,fun K=>?_⟩
  rw [A0p];unfold A0o A0n
  have tx:List.take ((dig x).length*1) (Ae Sx)=Ae (dig x):=by rw [← x2,Mv x1]
  have ty:List.take ((dig y).length*1) (Ae Sy)=Ae (dig y):=by rw [← y2,Mv y1]
  have t1:List.take ((dig (val a*x)).length*1) (Ae P1)=Ae (dig (val a*x)):=by rw [← p2,Mv p1]
  have t2:List.take ((dig (val b*y)).length*1) (Ae P2)=Ae (dig (val b*y)):=by rw [← q2,Mv q1]
  rw [x3,tx,p3,y3,ty,q3,t1,t2,s3]
end
end Gx

namespace Gx
open Go Go.Proofs
section
variable {R:Type}
theorem B9o {N:Nat} (hN:4≤N):∀ (k fuel x y:Nat),k<fuel→x*y<2 ^ k→y≤x→x<18446744073709551616→∃ S,Ai S∧val S=Nat.gcd x y∧∀ (k1:LA→Nat→Bool→LA→Nat→Bool→Option R) (K:Nat→LA→Option R),Ua N k1 K fuel (x:Int) (y:Int)=K (dig (Nat.gcd x y)).length (Ae S):=by
  have base:∀ (fuel x:Nat),x<18446744073709551616→∃ S,Ai S∧val S=Nat.gcd x 0∧∀ (k1:LA→Nat→Bool→LA→Nat→Bool→Option R) (K:Nat→LA→Option R),Ua N k1 K (fuel+1) (x:Int) ((0:Nat):Int)=K (dig (Nat.gcd x 0)).length (Ae S):=by
    intro fuel x hx
    obtain ⟨S,s1,s2,s3⟩:=Lm (R:=R) (N:=N) hx hN
    refine ⟨S,s1,by rw [s2,Nat.gcd_zero_right],fun k1 K=>?_⟩
    rw [Ua];unfold Ati
    rw [show (((0:Nat):Int) != 0)=false by rfl,cf,s3,Nat.gcd_zero_right]
  intro k
  induction k with
  | zero =>
    intro fuel x y hf hxy hle hx
    obtain ⟨fuel,rfl⟩:∃ F,fuel=F+1:=⟨fuel - 1,by omega⟩
    have hy:y=0:=by
      rcases Nat.eq_zero_or_pos y with h | h
      · exact h
      · have h3:=Nat.mul_le_mul_left x (show 1≤y by omega)
        rw [Nat.pow_zero] at hxy;omega
    subst hy
    exact base fuel x hx
  | succ k ih =>
    intro fuel x y hf hxy hle hx
    obtain ⟨fuel,rfl⟩:∃ F,fuel=F+1:=⟨fuel - 1,by omega⟩
    rcases Nat.eq_zero_or_pos y with h | h
    · subst h;exact base fuel x hx
    · have hh:=A2l (show 1≤y by omega) hle
      have hm:=Nat.mod_lt x h
      obtain ⟨S,s1,s2,s3⟩:=ih fuel y (x%y) (by omega) (by rw [Nat.pow_succ] at hxy;omega) (by omega) (by omega)
      have hg:Nat.gcd y (x%y)=Nat.gcd x y:=by rw [Nat.gcd_comm,← Nat.gcd_rec,Nat.gcd_comm]
      rw [hg] at s2 s3
      refine ⟨S,s1,s2,fun k1 K=>?_⟩
      rw [Ua];unfold Ati
      rw [show ((y:Int) != 0)=true by rw [bne_iff_ne];omega,ct,i0F (by omega),cf,A2i]
      exact s3 k1 K
theorem Bz1 {a b u v s t x y:Nat} (hx:x+v*b=u*a) (hy:y+s*a=t*b) (hdet:u*t=v*s+1):t*x+v*y=a∧s*x+u*y=b:=by
  constructor
  · have h1:t*x+t*v*b=t*u*a:=by rw [Nat.mul_assoc,Nat.mul_assoc,← Nat.mul_add,hx]
    have h2:v*y+v*s*a=v*t*b:=by rw [Nat.mul_assoc,Nat.mul_assoc,← Nat.mul_add,hy]
    have h3:t*u*a=v*s*a+a:=by rw [Nat.mul_comm t u,hdet,Nat.add_mul,Nat.one_mul]
    have h4:t*v*b=v*t*b:=by rw [Nat.mul_comm t v]
    omega
  · have h1:s*x+s*v*b=s*u*a:=by rw [Nat.mul_assoc,Nat.mul_assoc,← Nat.mul_add,hx]
    have h2:u*y+u*s*a=u*t*b:=by rw [Nat.mul_assoc,Nat.mul_assoc,← Nat.mul_add,hy]
    have h3:u*t*b=v*s*b+b:=by rw [hdet,Nat.add_mul,Nat.one_mul]
    have h4:s*u*a=u*s*a:=by rw [Nat.mul_comm s u]
    have h5:s*v*b=v*s*b:=by rw [Nat.mul_comm s v]
    omega
theorem Bz2 {A B a b p q r s:Nat} (hA:p*a+q*b=A) (hB:r*a+s*b=B) (hp:1≤p) (hq:1≤q) (hr:1≤r) (hba:b≤a):2*(a*b)≤A*B∧a≤A:=by
  have h1:=Nat.mul_le_mul_right a hp
  have h2:=Nat.mul_le_mul_right b hq
  have h3:=Nat.mul_le_mul_right a hr
  have h4:2*b≤A:=by omega
  have h5:a≤B:=by omega
  have:=Nat.mul_le_mul h4 h5
  refine ⟨?_,by omega⟩
  rw [Nat.mul_comm a b,← Nat.mul_assoc];exact this
theorem Cc2 {u0 u1 v0 v1:Nat} {e:Bool}:setCells [(.int .u64 0),(.int .u64 0),(.int .u64 0),(.int .u64 0),(.bool false)] 0 (B8i u0 u1 v0 v1 e)=B8i u0 u1 v0 v1 e:=rfl
theorem B4z {N:Nat}:∀ (k fuel A B:Nat) (d f:Bool),k<fuel→A*B<2 ^ k→B≤A→fit (2*(dig A).length+4) N→∃ S,Ai S∧val S=Nat.gcd A B∧∀ K:Nat→LA→Option R,D8 N K fuel (Ae (dig A)) (dig A).length d (Ae (dig B)) (dig B).length f=K (dig (Nat.gcd A B)).length (Ae S):=by
  have base:∀ (fuel A:Nat) (d f:Bool),fit (2*(dig A).length+4) N→∃ S,Ai S∧val S=Nat.gcd A 0∧∀ K:Nat→LA→Option R,D8 N K (fuel+1) (Ae (dig A)) (dig A).length d (Ae (dig 0)) (dig 0).length f=K (dig (Nat.gcd A 0)).length (Ae S):=by
    intro fuel A d f hf
    refine ⟨dig A,Ad _,by rw [Ah,Nat.gcd_zero_right],fun K=>?_⟩
    rw [D8];unfold Ai6
    rw [Dx,show decide ((((([]:List Nat).length:Nat)):Int)>0)=false by decide,cf,A5a rfl (Ad _) (hf.le (by omega)),Ah,Nat.gcd_zero_right]
  intro k
  induction k with
  | zero =>
    intro fuel A B d f hfu hxy hle hf
    obtain ⟨fuel,rfl⟩:∃ F,fuel=F+1:=⟨fuel - 1,by omega⟩
    have hy:B=0:=by
      rcases Nat.eq_zero_or_pos B with h | h
      · exact h
      · have h3:=Nat.mul_le_mul_left A (show 1≤B by omega)
        rw [Nat.pow_zero] at hxy;omega
    subst hy
    exact base fuel A d f hf
  | succ k ih =>
    intro fuel A B d f hfu hxy hle hf
    have h1:=hf.1;have h2:=hf.2
    obtain ⟨fuel,rfl⟩:∃ F,fuel=F+1:=⟨fuel - 1,by omega⟩
    rcases Nat.eq_zero_or_pos B with h | h
    · subst h;exact base fuel A d f hf
    have hll:=Bv hle
    have hbl:(dig B).length≠0:=fun h0=>by have:=Bo.1 h0;omega
    have hd0:decide ((((dig B).length:Nat):Int)>0)=true:=by rw [decide_eq_true_eq];omega
    by_cases ha2:(dig A).length≤2
    · have av:=Bfo ha2
      obtain ⟨S,s1,s2,s3⟩:=B9o (R:=R) (N:=N) (by omega) 128 N A B (by omega) (by have:=Nat.mul_lt_mul'' av (Nat.lt_of_le_of_lt hle av);exact this) hle av
      refine ⟨S,s1,s2,fun K=>?_⟩
      rw [D8];unfold Ai6
      rw [hd0,ct,show decide ((((dig A).length:Nat):Int)≤2)=true by rw [decide_eq_true_eq];omega,ct,Aqo rfl (Ad _) ha2 (by omega),Aqo rfl (Ad _) (by omega) (by omega),Ah,Ah]
      exact s3 _ K
    · have hd2:decide ((((dig A).length:Nat):Int)≤2)=false:=by rw [decide_eq_false_iff_not];omega
      obtain ⟨a1,a2,b1,b2,e,r1,r2,r3,r4,r5,r6⟩:=B2h (R:=R) (N:=N) (a:=dig A) (b:=dig B) (t:=false) (o:=d) (t':=false) (o':=f) rfl rfl (Ad _) (Ad _) (by omega) (Buu _ _) hll (by rw [Ah,Ah];exact hle) (hf.le (by omega))
      rw [Ah,Ah] at r1
      have start:∀ K:Nat→LA→Option R,D8 N K (fuel+1) (Ae (dig A)) (dig A).length d (Ae (dig B)) (dig B).length f=cond ((b1:Int)==0) (En N (Ae (dig A)) (dig A).length false d (Ae (dig B)) (dig B).length false f (fun bm ag bn bo ar=>(D8 N K fuel (Ae (dig B)) (dig B).length f (List.take (ag*1) ar) ag false))) (cond e (Fn N (Ae (dig A)) (dig A).length false d (a1:Int) (Ae (dig B)) (dig B).length false f (b1:Int) (fun ah ax=>Fn N (Ae (dig B)) (dig B).length false f (b2:Int) (Ae (dig A)) (dig A).length false d (a2:Int) (fun ai ba=>(D8 N K fuel (List.take (ah*1) ax) ah false (List.take (ai*1) ba) ai false)))) (Fn N (Ae (dig B)) (dig B).length false f (b1:Int) (Ae (dig A)) (dig A).length false d (a1:Int) (fun aj bd=>Fn N (Ae (dig A)) (dig A).length false d (a2:Int) (Ae (dig B)) (dig B).length false f (b2:Int) (fun ak bg=>(D8 N K fuel (List.take (aj*1) bd) aj false (List.take (ak*1) bg) ak false))))):=by
        intro K
        rw [D8];unfold Ai6
        rw [hd0,ct,hd2,cf,r6,Cc2]
        rfl
      by_cases hb1:b1=0
      · obtain ⟨Sq,Sr,q1,q2,q3,q4,q5⟩:=A2k (R:=R) (N:=N) (a:=dig A) (b:=dig B) (t:=false) (o:=d) (t':=false) (o':=f) rfl rfl (Ad _) (Ad _) (by rw [Ah];omega) (hf.le (by omega))
        rw [Ah,Ah] at q2 q4 q5
        have hm:=Nat.mod_lt A h
        have hh:=A2l (show 1≤B by omega) hle
        obtain ⟨S,s1,s2,s3⟩:=ih fuel B (A%B) f false (by omega) (by rw [Nat.pow_succ] at hxy;omega) (by omega) (hf.le (by omega))
        have hg:Nat.gcd B (A%B)=Nat.gcd A B:=by rw [Nat.gcd_comm,← Nat.gcd_rec,Nat.gcd_comm]
        rw [hg] at s2 s3
        refine ⟨S,s1,s2,fun K=>?_⟩
        have tk:List.take ((dig (A%B)).length*1) (Ae Sr)=Ae (dig (A%B)):=by rw [← q4,Mv q3]
        rw [start,i0T hb1,ct,q5,tk,s3]
      · rcases r1 with r1 | ⟨p1,p2,r1⟩
        · exact absurd r1 hb1
        cases e with
        | true =>
          obtain ⟨c1,c2,c3,c4⟩:=r1
          obtain ⟨S1,t1,t2,t3⟩:=Af0 (R:=R) (N:=N) (a:=dig A) (b:=dig B) (x:=a1) (y:=b1) (t:=false) (o:=d) (t':=false) (o':=f) rfl rfl (Ad _) (Ad _) r2 r4 (by rw [Ah,Ah,Nat.mul_comm,Nat.mul_comm A];exact c1) (hf.le (by omega))
          obtain ⟨S2,w1,w2,w3⟩:=Af0 (R:=R) (N:=N) (a:=dig B) (b:=dig A) (x:=b2) (y:=a2) (t:=false) (o:=f) (t':=false) (o':=d) rfl rfl (Ad _) (Ad _) r5 r3 (by rw [Ah,Ah,Nat.mul_comm,Nat.mul_comm B];exact c2) (hf.le (by omega))
          rw [Ah,Ah] at t2 t3 w2 w3
          have g1:(A*a1 - B*b1)+b1*B=a1*A:=by rw [Nat.mul_comm A,Nat.mul_comm B];omega
          have g2:(B*b2 - A*a2)+a2*A=b2*B:=by rw [Nat.mul_comm A,Nat.mul_comm B];omega
          have hba:B*b2 - A*a2≤A*a1 - B*b1:=by rw [Nat.add_mul,Nat.add_mul] at c3;omega
          obtain ⟨i1,i2⟩:=Bz1 g1 g2 c4
          have hg:=B4m g1 g2 c4
          obtain ⟨i3,i4⟩:=Bz2 i1 i2 p2 (by omega) p1 hba
          have hl:=Bv i4
          obtain ⟨S,s1,s2,s3⟩:=ih fuel (A*a1 - B*b1) (B*b2 - A*a2) false false (by omega) (by rw [Nat.pow_succ] at hxy;omega) hba (hf.le (by omega))
          rw [hg] at s2 s3
          refine ⟨S,s1,s2,fun K=>?_⟩
          have tk1:List.take ((dig (A*a1 - B*b1)).length*1) (Ae S1)=Ae (dig (A*a1 - B*b1)):=by rw [← t2,Mv t1]
          have tk2:List.take ((dig (B*b2 - A*a2)).length*1) (Ae S2)=Ae (dig (B*b2 - A*a2)):=by rw [← w2,Mv w1]
          rw [start,i0F hb1,cf,ct,t3,w3,tk1,tk2,s3]
        | false =>
          obtain ⟨c1,c2,c3,c4⟩:=r1
          obtain ⟨S1,t1,t2,t3⟩:=Af0 (R:=R) (N:=N) (a:=dig B) (b:=dig A) (x:=b1) (y:=a1) (t:=false) (o:=f) (t':=false) (o':=d) rfl rfl (Ad _) (Ad _) r4 r2 (by rw [Ah,Ah,Nat.mul_comm,Nat.mul_comm B];exact c1) (hf.le (by omega))
          obtain ⟨S2,w1,w2,w3⟩:=Af0 (R:=R) (N:=N) (a:=dig A) (b:=dig B) (x:=a2) (y:=b2) (t:=false) (o:=d) (t':=false) (o':=f) rfl rfl (Ad _) (Ad _) r3 r5 (by rw [Ah,Ah,Nat.mul_comm,Nat.mul_comm A];exact c2) (hf.le (by omega))
          rw [Ah,Ah] at t2 t3 w2 w3
          have g1:(B*b1 - A*a1)+a1*A=b1*B:=by rw [Nat.mul_comm A,Nat.mul_comm B];omega
          have g2:(A*a2 - B*b2)+b2*B=a2*A:=by rw [Nat.mul_comm A,Nat.mul_comm B];omega
          have hba:A*a2 - B*b2≤B*b1 - A*a1:=by rw [Nat.add_mul,Nat.add_mul] at c3;omega
          obtain ⟨i1,i2⟩:=Bz1 g2 g1 c4
          have hg:=B4m g2 g1 c4
          rw [Nat.gcd_comm] at hg
          rw [Nat.add_comm] at i1 i2
          obtain ⟨i3,i4⟩:=Bz2 i1 i2 p2 (by omega) p1 hba
          have hl:=Bv i4
          obtain ⟨S,s1,s2,s3⟩:=ih fuel (B*b1 - A*a1) (A*a2 - B*b2) false false (by omega) (by rw [Nat.pow_succ] at hxy;omega) hba (hf.le (by omega))
          rw [hg] at s2 s3
          refine ⟨S,s1,s2,fun K=>?_⟩
          have tk1:List.take ((dig (B*b1 - A*a1)).length*1) (Ae S1)=Ae (dig (B*b1 - A*a1)):=by rw [← t2,Mv t1]
          have tk2:List.take ((dig (A*a2 - B*b2)).length*1) (Ae S2)=Ae (dig (A*a2 - B*b2)):=by rw [← w2,Mv w1]
          rw [start,i0F hb1,cf,cf,t3,w3,tk1,tk2,s3]
theorem B40 (n m:Nat):4294967296 ^ n*4294967296 ^ m=2 ^ (32*(n+m)):=by
  rw [← Nat.pow_add,show (4294967296:Nat)=2 ^ 32 by rfl,← Nat.pow_mul]
theorem Ca2 {N:Nat} {a b:List Nat} {n m:Nat} {t o t' o':Bool} (hn:n=a.length) (hm:m=b.length) (ha:Ai a) (hb:Ai b) (hf:fit (2*(a.length+b.length)+4) N) :
    ∃ S,Ai S∧val S=Nat.gcd (val a) (val b)∧∀ K:Nat→LA→Option R,Bat N (Ae a) n t o (Ae b) m t' o' K=K (dig (Nat.gcd (val a) (val b))).length (Ae S):=by
  have h1:=hf.1;have h2:=hf.2
  have la:=(Bn ha).2
  have lb:=(Bn hb).2
  have hprod:val a*val b<2 ^ (32*(a.length+b.length)):=by rw [← B40];exact Nat.mul_lt_mul'' (Be ha) (Be hb)
  have start:∀ K:Nat→LA→Option R,Bat N (Ae a) n t o (Ae b) m t' o' K=cond (decide (Hp (val a) (val b)<0)) (D8 N K N (Ae (dig (val b))) (dig (val b)).length o' (Ae (dig (val a))) (dig (val a)).length o) (D8 N K N (Ae (dig (val a))) (dig (val a)).length o (Ae (dig (val b))) (dig (val b)).length o'):=by
    intro K
    rw [Bsw];unfold B1w B1v Biw Bas
    dsimp only
    rw [By hn ha (hf.le (by omega)),By hm hb (hf.le (by omega)),Ug rfl rfl (Ad _) (Ad _) (hf.le (by omega)),Ah,Ah]
  by_cases hlt:val a<val b
  · obtain ⟨S,s1,s2,s3⟩:=B4z (R:=R) (N:=N) (32*(a.length+b.length)) N (val b) (val a) o' o (by omega) (by rw [Nat.mul_comm];exact hprod) (by omega) (hf.le (by omega))
    rw [Nat.gcd_comm] at s2
    refine ⟨S,s1,s2,fun K=>?_⟩
    rw [start,show decide (Hp (val a) (val b)<0)=true by (unfold Hp;rw [if_pos hlt];rfl),ct,s3,Nat.gcd_comm]
  · obtain ⟨S,s1,s2,s3⟩:=B4z (R:=R) (N:=N) (32*(a.length+b.length)) N (val a) (val b) o o' (by omega) hprod (by omega) (hf.le (by omega))
    refine ⟨S,s1,s2,fun K=>?_⟩
    rw [start,show decide (Hp (val a) (val b)<0)=false by (unfold Hp;rw [if_neg hlt];split<;>rfl),cf,s3]
end
end Gx

namespace Gx
open Go Go.Proofs
section
variable {R:Type}
theorem Cdn {c:Nat} (h:c≤1000000000000):((Nat.ble (0+c) 140737488355328)&&(Nat.ble ((0+c)*4) 140737488355328))=true:=by simp;omega
theorem Bb6 {N:Nat} {l:List Nat} {t o:Bool} {K:Nat→LA→Option R} (hl:Ai l) (hs:l.length≤1000000000000):∀ (c fuel:Nat),c≤l.length→c<fuel →
    T3 N K (Ae l) l.length t o fuel (c:Int)=K (dig (val (l.take c))).length (Ae (dig (val (l.take c))))
  | 0,fuel+1,hc,_=>by
    rw [T3];unfold Aep
    rw [show decide (((0:Nat):Int)>0)=false by simp]
    rw [show ((false:Bool)==true)=false by rfl,cf,sl0 (by omega),ct,Int.toNat_natCast,Nat.mul_one,Zc,Amt,Bool.or_true,ct,Cdn (by omega),ct];rfl
  | c+1,fuel+1,hc,hf=>by
    rw [T3];unfold Aep
    rw [Can,ct,wP (by omega),Am (by omega),ct,rdl (by omega),ctB,sl0 (by omega),ct,Bb6 hl hs c fuel (by omega) (by omega),Int.toNat_natCast,Nat.mul_one,Zc,Amt,Bool.or_true,ct,Cdn (by omega),ct,Nat.zero_add]
    by_cases h0:l[c]=0
    · rw [Az (by omega),h0];simp
    · rw [B2c hl (by omega) h0,List.length_take,Nat.min_eq_left hc]
      rw [i0F h0,cf]
theorem Df {N:Nat} {l:List Nat} {n:Nat} {t o:Bool} {K:Nat→LA→Option R} (hn:n=l.length) (hl:Ai l) (hf:fit l.length N):Du N (Ae l) n t o K=K (dig (val l)).length (Ae (dig (val l))):=by
  subst hn
  have h1:=hf.1;have h2:=hf.2
  rw [Arr];unfold A31 A30
  dsimp only
  rw [Bb6 hl (by omega) l.length N (Nat.le_refl _) (by omega),List.take_length]
theorem B41 {N:Nat} {a b:List Nat} {t o t' o':Bool} {K:Bool→Option R} (hs:a.length≤1000000000000) (he:a.length=b.length):∀ (m j fuel:Nat),j+m=a.length→m<fuel →
    O9 N K (Ae a) a.length t o (Ae b) b.length t' o' fuel (j:Int)=K (decide (a.drop j=b.drop j))
  | 0,j,fuel+1,hj,_=>by
    rw [O9];unfold Zt
    rw [ltF (by omega),cf,List.drop_eq_nil_of_le (by omega),List.drop_eq_nil_of_le (by omega)];simp
  | m+1,j,fuel+1,hj,hf=>by
    have h1:j<a.length:=by omega
    have h2:j<b.length:=by omega
    rw [O9];unfold Zt
    rw [ltT h1,ct,Am h1,ct,rdl h1,Am h2,ct,rdl h2,wS (by omega),B41 hs he m (j+1) fuel (by omega) (by omega),List.drop_eq_getElem_cons h1,List.drop_eq_getElem_cons h2]
    by_cases h:a[j]=b[j]
    · rw [show ((((a[j]:Nat):Int) != ((b[j]:Nat):Int)))=false by simp [h],cf];congr 1;rw [decide_eq_decide,List.cons.injEq];exact ⟨fun hh=>⟨h,hh⟩,fun hh=>hh.2⟩
    · rw [show ((((a[j]:Nat):Int) != ((b[j]:Nat):Int)))=true by rw [bne_iff_ne];omega,ct];congr 1;symm;rw [decide_eq_false_iff_not,List.cons.injEq];exact fun hh=>h hh.1
theorem Ca3 {N:Nat} {a b:List Nat} {n m:Nat} {t o t' o':Bool} {K:Bool→Option R} (hn:n=a.length) (hm:m=b.length) (hf:fit a.length N):Apw N (Ae a) n t o (Ae b) m t' o' K=K (decide (a=b)):=by
  subst hn hm
  have h1:=hf.1;have h2:=hf.2
  rw [A6a];unfold A88 A87
  by_cases he:a.length=b.length
  · rw [show (((a.length:Nat):Int) != ((b.length:Nat):Int))=false by simp [he],cf]
    have:=B41 (R:=R) (N:=N) (t:=t) (o:=o) (t':=t') (o':=o') (K:=K) (by omega) he a.length 0 N (by omega) (by omega)
    simpa using this
  · rw [show (((a.length:Nat):Int) != ((b.length:Nat):Int))=true by rw [bne_iff_ne];omega,ct]
    congr 1;symm;rw [decide_eq_false_iff_not];intro h;exact he (by rw [h])
theorem Amw {N:Nat} {v:Nat} {K:Nat→LA→Option R} (hv:v<18446744073709551616) (hN:4≤N):Ey N (v:Int) K=K (dig v).length (Ae (dig v)):=by
  have hl:Ai [v%4294967296,v/4294967296]:=De.2 ⟨by omega,De.2 ⟨by omega,Zb⟩⟩
  have hval:val [v%4294967296,v/4294967296]=v:=by simp [val];omega
  rw [Ahs];unfold Ack Acj
  rw [Bb4,Bj5,w32 (show v/4294967296<4294967296 by omega)]
  have:=Bb6 (R:=R) (N:=N) (l:=[v%4294967296,v/4294967296]) (t:=false) (o:=true) (K:=K) hl (by simp) 2 N (by simp) (by omega)
  rw [show [v%4294967296,v/4294967296].take 2=[v%4294967296,v/4294967296] by rfl,hval] at this
  rw [Arr];unfold A31 A30
  exact this
theorem Au8 {N:Nat} {l:List Nat} {n:Nat} {t o:Bool} {K:Int→Bool→Option R} (hn:n=l.length) (hl:Ai l) (hf:fit l.length N):X6 N (Ae l) n t o K=if val l<18446744073709551616 then K (val l:Int) true else K 0 false:=by
  have h1:=hf.1
  rw [Ay7];unfold Ay6 Ay5
  rw [Df hn hl hf]
  by_cases h:val l<18446744073709551616
  · have hd:=Afz h
    rw [if_pos h,show decide ((((dig (val l)).length:Nat):Int)>2)=false by simp;omega,cf]
    have hv:=Ah (val l)
    have hb:=Ad (val l)
    obtain ⟨M,hM⟩:∃ M,N=M+4:=⟨N - 4,by omega⟩
    rw [hM]
    generalize dig (val l)=d at *
    match d,hd,hv,hb with
    | [],_,hv,_ =>
      dsimp only
      rw [Er];unfold Ez
      rw [← hv,i64 (by simp)];rfl
    | [x],_,hv,hb =>
      have hx:=(De.1 hb).1
      have hxv:val l=x:=by rw [← hv];simp [val]
      dsimp only
      rw [Er];unfold Ez
      rw [i64 (by simp),show ((([x]:List Nat).length:Nat):Int) - 1=((0:Nat):Int) by rfl,show decide (((0:Nat):Int)≥0)=true by rfl,ct,Am (by simp),ct,Bfk (by simp)]
      rw [Er];unfold Ez
      rw [i64 (by simp),show decide ((((0:Nat):Int) - 1)≥0)=false by rfl,cf]
      have:=orw (a:=0) (b:=x) (by omega) hx
      simp only [List.getElem_cons_zero]
      rw [w64 (show x<18446744073709551616 by omega),show (0:Int)=((0:Nat):Int) by rfl,this,hxv];simp
    | [x,y],_,hv,hb =>
      have hx:=(De.1 hb).1
      have hy:=(De.1 (De.1 hb).2).1
      have hxv:val l=y*4294967296+x:=by rw [← hv];simp [val];omega
      dsimp only
      rw [Er];unfold Ez
      rw [i64 (by simp),show ((([x,y]:List Nat).length:Nat):Int) - 1=((1:Nat):Int) by rfl,show decide (((1:Nat):Int)≥0)=true by rfl,ct,Am (by simp),ct,Bfk (by simp)]
      rw [Er];unfold Ez
      rw [i64 (by simp),show (((1:Nat):Int) - 1)=((0:Nat):Int) by rfl,show decide (((0:Nat):Int)≥0)=true by rfl,ct,Am (by simp),ct,Bfk (by simp)]
      rw [Er];unfold Ez
      rw [i64 (by simp),show decide ((((0:Nat):Int) - 1)≥0)=false by rfl,cf]
      have o1:=orw (a:=0) (b:=y) (by omega) hy
      have o2:=orw (a:=y) (b:=x) hy hx
      simp only [List.getElem_cons_zero,List.getElem_cons_succ]
      rw [w64 (show y<18446744073709551616 by omega),w64 (show x<18446744073709551616 by omega),show (0:Int)=((0:Nat):Int) by rfl,o1,Nat.zero_mul,Nat.zero_add,o2,hxv]
  · have:¬ (dig (val l)).length≤2:=fun h2=>h (Bfo h2)
    rw [if_neg h,show decide ((((dig (val l)).length:Nat):Int)>2)=true by simp;omega,ct]
theorem Bz3 {N:Nat} {x y:List Nat} {K:Int→Option R} (hx:Ai x) (hy:Ai y) (hs:x.length≤1000000000000) (he:x.length=y.length):∀ (i fuel:Nat),i≤x.length→i<fuel →
    Jw N K x.length y.length (Ae x) (Ae y) fuel ((i:Int) - 1)=K (Hp (val (x.take i)) (val (y.take i)))
  | 0,fuel+1,_,_=>by
    rw [Jw];unfold Rx
    rw [show decide ((((0:Nat):Int) - 1)≥0)=false by simp,cf]
    simp [Ahb]
  | i+1,fuel+1,hi,hf=>by
    rw [Jw];unfold Rx
    rw [show (((i+1:Nat):Int) - 1)=(i:Int) by omega,show decide ((i:Int)≥0)=true by simp,ct,Am (by omega),ct,Bfk (by omega),Am (by omega),ct,Bfk (by omega),ct,Bfk (by omega),ct,Bfk (by omega),i64 (by omega),
      Bz3 hx hy hs he i fuel (by omega) (by omega),Az (by omega),Az (by omega)]
    have h1:=Be (Ca hx i)
    have h2:=Be (Ca hy i)
    rw [List.length_take,Nat.min_eq_left (by omega)] at h1 h2
    by_cases c1:x[i]<y[i]
    · have:=Bpt h1 h2 c1
      rw [show decide (((x[i]:Nat):Int)<((y[i]:Nat):Int))=true by simp;exact c1,ct]
      unfold Hp;rw [if_pos this]
    · by_cases c2:y[i]<x[i]
      · have:=Bpt h2 h1 c2
        rw [show decide (((x[i]:Nat):Int)<((y[i]:Nat):Int))=false by simp;omega,cf,show decide (((x[i]:Nat):Int)>((y[i]:Nat):Int))=true by simp;exact c2,ct]
        unfold Hp;rw [if_neg (by omega),if_pos this]
      · have:x[i]=y[i]:=by omega
        rw [show decide (((x[i]:Nat):Int)<((y[i]:Nat):Int))=false by simp;omega,cf,show decide (((x[i]:Nat):Int)>((y[i]:Nat):Int))=false by simp;omega,cf,this]
        unfold Hp
        congr 1
        by_cases a1:val (x.take i)<val (y.take i)
        · rw [if_pos a1,if_pos (by omega)]
        · by_cases a2:val (y.take i)<val (x.take i)
          · rw [if_neg a1,if_pos a2,if_neg (by omega),if_pos (by omega)]
          · rw [if_neg a1,if_neg a2,if_neg (by omega),if_neg (by omega)]
theorem B9p {N:Nat} {a b:List Nat} {n m:Nat} {t o t' o':Bool} {K:Int→Option R} (hn:n=a.length) (hm:m=b.length) (ha:Ai a) (hb:Ai b) (hf:fit (a.length+b.length) N) :
    Abm N (Ae a) n t o (Ae b) m t' o' K=K (Hp (val a) (val b)):=by
  subst hn hm
  have h1:=hf.1;have h2:=hf.2
  rw [Awv];unfold Ar5 Ar4
  dsimp only
  rw [Df rfl ha (hf.le (by omega)),Df rfl hb (hf.le (by omega))]
  have la:=(Bn ha).2
  have lb:=(Bn hb).2
  by_cases he:(dig (val a)).length=(dig (val b)).length
  · rw [show ((((dig (val a)).length:Nat):Int) != (((dig (val b)).length:Nat):Int))=false by simp;omega,cf,i64 (by omega),Bz3 (Ad _) (Ad _) (by omega) he _ N (Nat.le_refl _) (by omega),List.take_length,he,List.take_length,Ah,Ah]
  · rw [show ((((dig (val a)).length:Nat):Int) != (((dig (val b)).length:Nat):Int))=true by simp;omega,ct]
    by_cases hl:(dig (val a)).length<(dig (val b)).length
    · have:=Au5 hl
      rw [ltT hl,ct]
      unfold Hp;rw [if_pos this]
    · have:=Au5 (show (dig (val b)).length<(dig (val a)).length by omega)
      rw [ltF (by omega),cf]
      unfold Hp;rw [if_neg (by omega),if_pos this]
end
end Gx

namespace Gx
open Go Go.Proofs
section
variable {R:Type}
theorem Cdo (a b:Nat):Ahh (a:Int) (b:Int)=((max a b:Nat):Int):=by
  unfold Ahh
  by_cases h:(b:Int)>(a:Int)
  · rw [decide_eq_true h];show (b:Int)=_;omega
  · rw [decide_eq_false h];show (a:Int)=_;omega
theorem Bz4 {N:Nat} {a b:List Nat} {t o t' o':Bool} {n:Nat} (ha:Ai a) (hb:Ai b) (hla:a.length<n) (hlb:b.length<n) (hn:n≤max a.length b.length+1) (hf:fit n N):∀ (m d fuel:Nat) (S:List Nat) (c:Nat),d+m=n→m<fuel→Ai S→S.length=n→zer S d→c≤1 →
    val S+4294967296 ^ d*c=val (a.take d)+val (b.take d) →
    ∀ K:Nat→LA→Option R,Ip N K (Ae a) a.length t o (Ae b) b.length t' o' fuel n (c:Int) (d:Int) (Ae S)=K (dig (val a+val b)).length (Ae (dig (val a+val b)))
  | 0,d,fuel+1,S,c,hd,_,hS,hl,hz,hc,hv=>by
    intro K
    have hd':d=n:=by omega
    subst hd'
    rw [List.take_of_length_le (by omega),List.take_of_length_le (by omega)] at hv
    have hc0:c=0:=by
      rcases Nat.eq_zero_or_pos c with h | h
      · exact h
      · exfalso
        have hc1:c=1:=by omega
        subst hc1
        obtain ⟨e,rfl⟩:∃ e,d=e+1:=⟨d - 1,by omega⟩
        have x1:=Be ha
        have x2:=Be hb
        have y1:4294967296 ^ a.length≤4294967296 ^ e:=Nat.pow_le_pow_right (by omega) (by omega)
        have y2:4294967296 ^ b.length≤4294967296 ^ e:=Nat.pow_le_pow_right (by omega) (by omega)
        rw [Nat.pow_succ] at hv
        omega
    subst hc0
    have hv2:val S=val a+val b:=by omega
    rw [Ip];unfold Ak2
    rw [ltF (Nat.le_refl _),cf,Nat.mul_one,List.take_of_length_le (by rw [Br];omega),Df hl.symm hS (by rw [hl];exact hf),hv2]
  | m+1,d,fuel+1,S,c,hd,hfu,hS,hl,hz,hc,hv=>by
    intro K
    have h1:=hf.1;have h2:=hf.2
    have ga:=Ahc ha d
    have gb:=Ahc hb d
    have step:∀ s:Nat,s=c+a.getD d 0+b.getD d 0→val (S.set d (s%4294967296))+4294967296 ^ (d+1)*(s/4294967296)=val (a.take (d+1))+val (b.take (d+1)):=by
      intro s hs
      rw [Aa2 hz (by omega),Uh a d,Uh b d,Nat.pow_succ]
      have e:=Ok (4294967296 ^ d) s
      have e2:4294967296 ^ d*s=4294967296 ^ d*c+4294967296 ^ d*a.getD d 0+4294967296 ^ d*b.getD d 0:=by rw [hs,Nat.mul_add,Nat.mul_add]
      omega
    have next:∀ s:Nat,s=c+a.getD d 0+b.getD d 0→Ip N K (Ae a) a.length t o (Ae b) b.length t' o' fuel n ((s/4294967296:Nat):Int) ((d+1:Nat):Int) (Ae (S.set d (s%4294967296)))=K (dig (val a+val b)).length (Ae (dig (val a+val b))):=by
      intro s hs
      exact Bz4 ha hb hla hlb hn hf m (d+1) fuel (S.set d (s%4294967296)) (s/4294967296) (by omega) (by omega) (Ch hS (by omega) d) (by simpa using hl) (Amv hz) (by omega) (step s hs) K
    have second:∀ w:Nat,w=c+a.getD d 0→Ahy N (Ip N K (Ae a) a.length t o (Ae b) b.length t' o' fuel) K (Ae a) a.length t o (Ae b) b.length t' o' n (Ae S) (w:Int) (d:Int)=K (dig (val a+val b)).length (Ae (dig (val a+val b))):=by
      intro w hw
      unfold Ahy Aza
      by_cases hdb:d<b.length
      · have hg:b.getD d 0=b[d]:=by rw [List.getD_eq_getElem?_getD,List.getElem?_eq_getElem hdb];rfl
        rw [ltT hdb,ct,Am hdb,ct,rdl hdb,Am (by omega),ct,st1 (by omega),ct,w64 (show b[d]<18446744073709551616 by omega),Aqm,w64 (show w+b[d]<18446744073709551616 by omega),Bj5,Bb4,A2g,wS (by omega)]
        exact next _ (by rw [hw,hg])
      · have hg:b.getD d 0=0:=by rw [List.getD_eq_getElem?_getD,List.getElem?_eq_none (by omega)];rfl
        rw [ltF (by omega),cf,Am (by omega),ct,st1 (by omega),ct,Bj5,Bb4,A2g,wS (by omega)]
        exact next _ (by rw [hw,hg];rfl)
    rw [Ip];unfold Ak2
    rw [ltT (by omega),ct]
    by_cases hda:d<a.length
    · have hg:a.getD d 0=a[d]:=by rw [List.getD_eq_getElem?_getD,List.getElem?_eq_getElem hda];rfl
      rw [ltT hda,ct,Am hda,ct,rdl hda,w64 (show a[d]<18446744073709551616 by omega),Aqm,w64 (show c+a[d]<18446744073709551616 by omega)]
      exact second _ (by rw [hg])
    · have hg:a.getD d 0=0:=by rw [List.getD_eq_getElem?_getD,List.getElem?_eq_none (by omega)];rfl
      rw [ltF (by omega),cf]
      exact second _ (by rw [hg];rfl)
theorem Bkb {N:Nat} {a b:List Nat} {n m:Nat} {t o t' o':Bool} {K:Nat→LA→Option R} (hn:n=a.length) (hm:m=b.length) (ha:Ai a) (hb:Ai b) (hf:fit (a.length+b.length+1) N) :
    Ar0 N (Ae a) n t o (Ae b) m t' o' K=K (dig (val a+val b)).length (Ae (dig (val a+val b))):=by
  subst hn hm
  have h1:=hf.1;have h2:=hf.2
  rw [Bl0];unfold Bq6 Bq5
  rw [Cdo,wS (by omega),mk4 (by omega),ct,Int.toNat_natCast,Cz]
  exact Bz4 ha hb (n:=max a.length b.length+1) (by omega) (by omega) (Nat.le_refl _) (hf.le (by omega)) (max a.length b.length+1) 0 N (List.replicate (max a.length b.length+1) 0) 0 (by omega) (by omega) (Ce _) (by simp) (Mw _) (by omega) (by rw [D3];simp [val]) K
theorem Bz5 {N:Nat} {a b:List Nat} (ha:Ai a) (hb:Ai b) (hf:fit a.length N) (hab:b.length≤a.length) (hle:val b≤val a):∀ (m d fuel:Nat) (S:List Nat) (c:Nat),d+m=a.length→m<fuel→Ai S→S.length=a.length→zer S d→c≤1 →
    val S+val (b.take d)=val (a.take d)+4294967296 ^ d*c →
    ∀ K:Nat→Bool→LA→Option R,Iq N K a.length b.length (Ae a) (Ae b) fuel (c:Int) (d:Int) (Ae S)=K (dig (val a - val b)).length true (Ae (dig (val a - val b)))
  | 0,d,fuel+1,S,c,hd,_,hS,hl,hz,hc,hv=>by
    intro K
    have hd':d=a.length:=by omega
    subst hd'
    rw [List.take_length,List.take_of_length_le hab] at hv
    have hlt:=Be hS
    rw [hl] at hlt
    have hc0:c=0:=by
      rcases Nat.lt_or_ge 0 c with h | h
      · exfalso
        have:c=1:=by omega
        subst this
        omega
      · omega
    subst hc0
    have hv2:val S=val a - val b:=by omega
    rw [Iq];unfold Ak5
    rw [ltF (Nat.le_refl _),cf,Nat.mul_one,List.take_of_length_le (by rw [Br];omega),Df hl.symm hS (by rw [hl];exact hf),hv2]
  | m+1,d,fuel+1,S,c,hd,hfu,hS,hl,hz,hc,hv=>by
    intro K
    have h1:=hf.1;have h2:=hf.2
    have hda:d<a.length:=by omega
    have ad:=A3 ha hda
    have gb:=Ahc hb d
    have step:∀ y g c':Nat,y=c+b.getD d 0→a[d]+4294967296*c'=g+y→val (S.set d g)+val (b.take (d+1))=val (a.take (d+1))+4294967296 ^ (d+1)*c':=by
      intro y g c' hy hg
      rw [Aa2 hz (by omega),Az hda,Uh b d,Nat.pow_succ,Nat.mul_assoc]
      have e:4294967296 ^ d*(a[d]+4294967296*c')=4294967296 ^ d*(g+(c+b.getD d 0)):=by rw [hg,hy]
      rw [Nat.mul_add,Nat.mul_add,Nat.mul_add] at e
      omega
    have next:∀ y g c':Nat,g<4294967296→c'≤1→y=c+b.getD d 0→a[d]+4294967296*c'=g+y→Iq N K a.length b.length (Ae a) (Ae b) fuel (c':Int) ((d+1:Nat):Int) (Ae (S.set d g))=K (dig (val a - val b)).length true (Ae (dig (val a - val b))):=by
      intro y g c' hg hc' hy he
      exact Bz5 ha hb hf hab hle m (d+1) fuel (S.set d g) c' (by omega) (by omega) (Ch hS hg d) (by simpa using hl) (Amv hz) hc' (step y g c' hy he) K
    have second:∀ y:Nat,y=c+b.getD d 0→Ah0 N (Iq N K a.length b.length (Ae a) (Ae b) fuel) K a.length b.length (Ae a) (Ae b) (Ae S) (d:Int) (y:Int)=K (dig (val a - val b)).length true (Ae (dig (val a - val b))):=by
      intro y hy
      unfold Ah0 Aze
      rw [Am hda,ct,Bfk hda,w64 (show a[d]<18446744073709551616 by omega)]
      by_cases hlt:a[d]<y
      · rw [ltT hlt,ct,ct,st1 (by omega),ct,show ((a[d]:Nat):Int)+4294967296=((a[d]+4294967296:Nat):Int) by omega,w64 (show a[d]+4294967296<18446744073709551616 by omega),Bj4 (by omega) (by omega),w32 (by omega),A2g,wS (by omega)]
        exact next y (a[d]+4294967296 - y) 1 (by omega) (by omega) hy (by omega)
      · rw [ltF (by omega),cf,ct,st1 (by omega),ct,Bj4 (by omega) (by omega),w32 (by omega),A2g,wS (by omega)]
        exact next y (a[d] - y) 0 (by omega) (by omega) hy (by omega)
    rw [Iq];unfold Ak5
    rw [ltT hda,ct]
    by_cases hdb:d<b.length
    · have hg:b.getD d 0=b[d]:=by rw [List.getD_eq_getElem?_getD,List.getElem?_eq_getElem hdb];rfl
      rw [ltT hdb,ct,Am hdb,ct,Bfk hdb,w64 (show b[d]<18446744073709551616 by omega),Aqm,w64 (show c+b[d]<18446744073709551616 by omega)]
      exact second _ (by rw [hg])
    · have hg:b.getD d 0=0:=by rw [List.getD_eq_getElem?_getD,List.getElem?_eq_none (by omega)];rfl
      rw [ltF (by omega),cf]
      exact second _ (by rw [hg];rfl)
theorem Bkc {N:Nat} {a b:List Nat} {n m:Nat} {t o t' o':Bool} {K:Nat→Bool→LA→Option R} (hn:n=a.length) (hm:m=b.length) (ha:Ai a) (hb:Ai b) (hf:fit (a.length+b.length) N) :
    Ar6 N (Ae a) n t o (Ae b) m t' o' K=if val b≤val a then K (dig (val a - val b)).length true (Ae (dig (val a - val b))) else K 0 false []:=by
  subst hn hm
  have h1:=hf.1;have h2:=hf.2
  have la:=(Bn ha).2
  have lb:=(Bn hb).2
  rw [Bl2];unfold Brh Brg
  dsimp only
  rw [B9p rfl rfl ha hb hf]
  by_cases hle:val b≤val a
  · have hll:=Bv hle
    rw [if_pos hle,show decide (Hp (val a) (val b)<0)=false by (unfold Hp;rw [if_neg (by omega)];split<;>rfl),cf,Df rfl ha (hf.le (by omega)),Df rfl hb (hf.le (by omega)),mk4 (by omega),ct,Cz]
    have:=Bz5 (R:=R) (N:=N) (a:=dig (val a)) (b:=dig (val b)) (Ad _) (Ad _) (hf.le (by omega)) hll (by rw [Ah,Ah];exact hle) (dig (val a)).length 0 N (List.replicate (dig (val a)).length 0) 0 (by omega) (by omega) (Ce _) (by simp) (Mw _) (by omega) (by rw [D3];simp [val]) K
    rw [Ah,Ah] at this
    exact this
  · rw [if_neg hle,show decide (Hp (val a) (val b)<0)=true by (unfold Hp;rw [if_pos (by omega)];rfl),ct]
theorem B8j {N:Nat} {x y:List Nat} {c d c' d':Bool} {f:Nat} (hx:Ai x) (hy:Ai y) (hf:f<x.length) (hs:x.length+y.length≤1000000000000):∀ (m l fuel:Nat) (S:List Nat) (p:Nat) (v:Nat),l+m=y.length→m<fuel→Ai S→S.length=x.length+y.length→zer S (f+y.length)→p<4294967296 →
    val S+4294967296 ^ (f+l)*p=v+4294967296 ^ f*(x[f]*val (y.take l)) →
    ∃ S',Ai S'∧S'.length=x.length+y.length∧val S'=v+4294967296 ^ f*(x[f]*val y)∧∀ (k1:Nat→Int→LA→Option R) (K:Nat→LA→Option R),Tp N k1 K (Ae x) x.length c d (Ae y) y.length c' d' (x.length+y.length) fuel (f:Int) (p:Int) (l:Int) (Ae S)=k1 (x.length+y.length) ((f+1:Nat):Int) (Ae S')
  | 0,l,fuel+1,S,p,v,hl,_,hS,hlen,hz,hp,hv=>by
    have hl':l=y.length:=by omega
    subst hl'
    rw [List.take_length] at hv
    refine ⟨S.set (f+y.length) p,Ch hS hp _,by simpa using hlen,by rw [Aa2 hz (by omega),hv],fun k1 K=>?_⟩
    rw [Tp];unfold Aly
    rw [ltF (Nat.le_refl _),cf,wA (by omega),Am (by omega),ct,st1 (by omega),ct,w32 hp,A2g,wS (by omega)]
  | m+1,l,fuel+1,S,p,v,hl,hfu,hS,hlen,hz,hp,hv=>by
    have hly:l<y.length:=by omega
    have yl:=A3 hy hly
    have hq:=A3 hx hf
    have hi:f+l<S.length:=by omega
    have sl:=A3 hS hi
    have hw:=B4v hp hq yl sl
    have hqy:x[f]*y[l]<18446744073709551616:=by omega
    generalize hsd:p+(x[f]*y[l]+S[f+l])=s at *
    have hset:=Bfn (v:=s%4294967296) hi
    have key:val (S.set (f+l) (s%4294967296))+4294967296 ^ (f+(l+1))*(s/4294967296)=v+4294967296 ^ f*(x[f]*val (y.take (l+1))):=by
      rw [Az hly,← Nat.add_assoc f l 1,Nat.pow_succ]
      have e:=Ok (4294967296 ^ (f+l)) s
      have e2:4294967296 ^ (f+l)*s=4294967296 ^ (f+l)*p+(4294967296 ^ (f+l)*(x[f]*y[l])+4294967296 ^ (f+l)*S[f+l]):=by rw [← hsd,Nat.mul_add,Nat.mul_add]
      have e3:4294967296 ^ f*(x[f]*(val (y.take l)+4294967296 ^ l*y[l]))=4294967296 ^ f*(x[f]*val (y.take l))+4294967296 ^ (f+l)*(x[f]*y[l]):=by
        rw [Nat.mul_add,Nat.mul_add,Nat.pow_add]
        congr 1
        rw [Nat.mul_assoc];congr 1
        rw [← Nat.mul_assoc,← Nat.mul_assoc,Nat.mul_comm x[f]]
      omega
    obtain ⟨S',q1,q2,q3,q4⟩:=B8j (N:=N) (c:=c) (d:=d) (c':=c') (d':=d') hx hy hf hs m (l+1) fuel (S.set (f+l) (s%4294967296)) (s/4294967296) v (by omega) (by omega) (Ch hS (by omega) _) (by simpa using hlen) (fun j hj hk=>by
      rw [List.getElem_set,if_neg (by omega)];exact hz j (by simpa using hj) hk) (by omega) key
    refine ⟨S',q1,q2,q3,fun k1 K=>?_⟩
    rw [Tp];unfold Aly
    rw [ltT hly,ct,wA (by omega),Am (by omega),ct,Bfk hi,Am hf,ct,rdl hf,Am hly,ct,rdl hly,ct,st1 hi,ct,w64 (show x[f]<18446744073709551616 by omega),w64 (show y[l]<18446744073709551616 by omega),w64 (show S[f+l]<18446744073709551616 by omega),Buv,w64 hqy,Aqm,Nat.add_comm S[f+l],w64 (by omega),Aqm,hsd,w64 hw,Bj5,Bb4,A2g,wS (by omega)]
    exact q4 k1 K
theorem B42 {N:Nat} {x y:List Nat} {c d c' d':Bool} (hx:Ai x) (hy:Ai y) (hfit:fit (x.length+y.length) N):∀ (m f fuel:Nat) (S:List Nat),f+m=x.length→m<fuel→Ai S→S.length=x.length+y.length →
    val S=val (x.take f)*val y →
    ∀ K:Nat→LA→Option R,Lg N K (Ae x) x.length c d (Ae y) y.length c' d' fuel (x.length+y.length) (f:Int) (Ae S)=K (dig (val x*val y)).length (Ae (dig (val x*val y)))
  | 0,f,fuel+1,S,hf,_,hS,hlen,hv=>by
    intro K
    have hf':f=x.length:=by omega
    subst hf'
    rw [List.take_length] at hv
    rw [Lg];unfold Alz
    rw [ltF (Nat.le_refl _),cf,Nat.mul_one,List.take_of_length_le (by rw [Br];omega),Df hlen.symm hS (by rw [hlen];exact hfit),hv]
  | m+1,f,fuel+1,S,hf,hfu,hS,hlen,hv=>by
    intro K
    have h1:=hfit.1;have h2:=hfit.2
    have hfx:f<x.length:=by omega
    have b1:=Be (Ca hx f)
    rw [List.length_take,Nat.min_eq_left (by omega)] at b1
    have b2:=Be hy
    have hbound:val S<4294967296 ^ (f+y.length):=by
      rw [hv,Nat.pow_add];exact Nat.mul_lt_mul'' b1 b2
    have hnext:val (x.take (f+1))*val y=val S+4294967296 ^ f*(x[f]*val y):=by
      rw [Az hfx,Nat.add_mul,hv,Nat.mul_assoc]
    obtain ⟨S1,p1,p2,p3,p4⟩:=B8j (R:=R) (N:=N) (x:=x) (y:=y) (c:=c) (d:=d) (c':=c') (d':=d') (f:=f) hx hy hfx (by omega) y.length 0 N S 0 (val S) (by omega) (by omega) hS hlen (Cat hbound) (by omega) (by simp [val])
    rw [Lg];unfold Alz
    rw [ltT hfx,ct]
    have:=p4 (Lg N K (Ae x) x.length c d (Ae y) y.length c' d' fuel) K
    simp only [Int.natCast_zero] at this
    dsimp only
    rw [this]
    exact B42 hx hy hfit m (f+1) fuel S1 (by omega) (by omega) p1 p2 (by rw [p3,hnext]) K
theorem B9q {N:Nat} {a b:List Nat} {n m:Nat} {t o t' o':Bool} {K:Nat→LA→Option R} (hn:n=a.length) (hm:m=b.length) (ha:Ai a) (hb:Ai b) (hf:fit (a.length+b.length) N) :
    Beu N (Ae a) n t o (Ae b) m t' o' K=K (dig (val a*val b)).length (Ae (dig (val a*val b))):=by
  subst hn hm
  have h1:=hf.1;have h2:=hf.2
  rw [Bmm];unfold Btc Btb
  rw [wA (by omega),mk4 (by omega),ct,Int.toNat_natCast,Cz]
  exact B42 ha hb hf a.length 0 N (List.replicate (a.length+b.length) 0) (by omega) (by omega) (Ce _) (by simp) (by rw [D3];simp [val]) K
end
end Gx
