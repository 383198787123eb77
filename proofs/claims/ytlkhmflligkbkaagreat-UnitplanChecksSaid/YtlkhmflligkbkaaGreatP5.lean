/- A part of the proof: what it holds is said by each theorem. -/
import Derived.Test.YtlkhmflligkbkaaGreatP4
set_option linter.unusedVariables false
namespace Gx
open Go Go.Proofs
set_option maxRecDepth 100000
noncomputable section
variable {R:Type}
def Zk (N:Nat)  (r0:LA→Int→Option R) (d:LA) (e:Nat) (l i:Bool) (f:LA) (g:Nat) (m j:Bool) (a:Int) (c:Bool) (b o:LA) (k1:Int→LA→Option R)  (p:Int) (q:LA):Option R :=
 (cond (decide (p<a)) (cond (Nat.ble 3 (List.length q)) (cond (Aj p e) (cond (Nat.ble 3 (List.length (List.drop ((Int.toNat p)*3) d))) (rdL 3 (List.drop 1 b) fun x ad=>(cond (Aj p ad) (cond (Nat.ble 3 (List.length (List.drop ((Int.toNat p)*3) x))) (Ash N (List.take 3 (List.drop ((Int.toNat p)*3) d)) i (List.take 3 (List.drop ((Int.toNat p)*3) x)) c (fun ae=>(Mi N (List.take 3 q) false ae false (fun u=>(cond ((Nat.beq (List.length u) 3)&&((Nat.ble 3 (List.length q))&&(!false))) (cond (Nat.ble 3 (List.length (setCells q 0 u))) (cond (Aj p g) (cond (Nat.ble 3 (List.length (List.drop ((Int.toNat p)*3) f))) (rdL 3 (List.drop 2 b) fun y af=>(cond (Aj p af) (cond (Nat.ble 3 (List.length (List.drop ((Int.toNat p)*3) y))) (Ash N (List.take 3 (List.drop ((Int.toNat p)*3) f)) j (List.take 3 (List.drop ((Int.toNat p)*3) y)) c (fun ag=>(Mi N (List.take 3 (setCells q 0 u)) false ag false (fun z=>(cond ((Nat.beq (List.length z) 3)&&((Nat.ble 3 (List.length (setCells q 0 u)))&&(!false))) (k1 (IntKind.wrap .i64 (p+(1:Int))) (setCells (setCells q 0 u) 0 z)) none))))) none) none)) none) none) none) none))))) none) none)) none) none) none) (cond (Nat.ble 3 (List.length q)) (cond (Nat.ble 3 (List.length o)) (Agx N (List.take 3 q) false (List.take 3 o) false (fun w=>(cond ((Nat.beq 0 0)&&((Nat.beq (List.length w) 3)&&(Nat.beq 3 3))) (cond (Nat.ble 3 (List.length w)) (r0 (List.take 3 w) 0) none) none))) none) none))
def Ol (N:Nat)  (r0:LA→Int→Option R) (d:LA) (e:Nat) (l i:Bool) (f:LA) (g:Nat) (m j:Bool) (a:Int) (c:Bool) (b o:LA):Nat→Int→LA→Option R
 | 0,_,_=>none
 | n+1,p,q=>(Zk N r0 d e l i f g m j a c b o (Ol N r0 d e l i f g m j a c b o n) p q)
def Ant (N:Nat)  (r0:LA→Int→Option R) (a:Int) (d:LA) (e:Nat) (l i:Bool) (f:LA) (g:Nat) (m j c:Bool) (b o:LA)  (q1:Int→LA→Option R) :Option R :=
 (B0 N 0 (fun aa=>(cond ((Nat.beq 0 0)&&((Nat.beq (List.length aa) 3)&&(Nat.beq 3 3))) (q1 0 aa) none)))
def Au5 (N:Nat)  (r0:LA→Int→Option R) (a:Int) (d:LA) (e:Nat) (l i:Bool) (f:LA) (g:Nat) (m j c:Bool) (b o:LA) :Option R:=(Ant N r0 a d e l i f g m j c b o (fun p q=>(Ol N r0 d e l i f g m j a c b o N p q)))
def Bbp (N:Nat) (r0:LA→Int→Option R) (q0:LA→Option R) (r:LA) (t:Bool) (a:Int) (b:LA) (c:Bool) (d:LA) (e:Nat) (l i:Bool) (f:LA) (g:Nat) (m j:Bool):Option R :=
 (cond (Nat.ble 22 (List.length r)) (cond (Nat.ble 3 (List.length b)) (A4q N (List.take 22 r) t a (List.take 3 b) c (fun o ab=>(cond ((Nat.beq 0 0)&&((Nat.beq (List.length o) 3)&&(Nat.beq 3 3))) (cond (ab != (0:Int)) (r0 [(.bool false),.nsl,.nsl] ab) (cond ((((e:Nat):Int) != a)==false) (cond (cond false true (((g:Nat):Int) != a)) (r0 [(.bool false),.nsl,.nsl] 4) (q0 o)) (r0 [(.bool false),.nsl,.nsl] 4))) none))) none) none)
def Bbq (N:Nat) (r:LA) (t:Bool) (a:Int) (b:LA) (c:Bool) (d:LA) (e:Nat) (l i:Bool) (f:LA) (g:Nat) (m j:Bool) (r0:LA→Int→Option R):Option R:=(Bbp N r0 (fun o=>(Au5 N r0 a d e l i f g m j c b o)) r t a b c d e l i f g m j)
def Aps:=(Ai (@Bbq R)).1
theorem A7g:@Aps R=@Bbq R:=(Ai _).2
def Ad4:Hints:={ H:=(hS (hR [1,3,4,5,7,10]) (hS (hR [1,3,4,7,10,12,13]) (hS (hS (hR [1,3,4,7,10,12,13,24]) (hN [1,3,4,7,10,12] (hS (hR [10,11]) hL) hL)) (hJ (hS (hR [1,3,4,7,10,12,36]) (hN [1,3,4,7,10,12] (hS (hR [10,11]) hL) hL)) (hS (hR [1,3,4,7,10,12,14]) (hS (hS (hR [3,4,7,10,12,14,39,40]) (hN [10,12,14] (hN [3,4,7,10,12,14,39,40] (hS (hR [3,4,7,10,12,14,39,40,41]) (hS (hN [3,4,7,10,12,14,39,40] hL hL) (hS (hN [3,4,7,10,12,14,39,40] (hS (hR [3,4,7,10,12,14,15,39,40]) (hS (hR [3,4,7,10,12,14,15,39,40]) (hR [3,4,7,10,12,14,39,40]))) hL) (hR [3,4,7,10,12,14,39,40])))) hL) hL)) (hS (hR [10,11]) hL))))))),nils:=[],modes:=[(3,0),(0,0)],free:=[],cob:=[] }
def Alp (N:Nat):List (Nat×Tw):=[(43,Bbn N),(60,Dy N),(82,Bh6 N),(81,Wx N),(83,A3x N)]
def R8 (N:Nat):Env:=mkE 71 Ad4 (Alp N)
def Bwn (N:Nat) (F:KF R):=Ao (R8 N) Tryz.f42 Ad4.modes [] F
def Ad5 (N:Nat) (F:KF R):=atF (R8 N) [] N Tryz.f42 Ad4 (Bwn N F)
def J8  (F:KF R):LA→Int→Option R:=(fun ah ai=>F (.tup [(.pagg ah false),(.int .i64 ai)]) [])
def Om (d:LA) (e:Nat) (l i:Bool) (f:LA) (g:Nat) (m j:Bool) (a:Int) (c:Bool) (b o:LA) (p:Int) (q:LA):St:={ s:=[(3,(.imm d e 3 l i)),(4,(.imm f g 3 m j)),(7,(.optr 300000 0)),(10,(.optr 300001 0)),(12,(.optr 300002 0)),(14,(.optr 300003 0)),(39,(.int .i64 a)),(40,(.int .i64 p))],h:=[(300000,⟨false,false,true,c,0,b,false⟩),(300001,⟨false,false,false,false,0,[(.bool false),.nsl,.nsl],false⟩),(300002,⟨false,false,true,false,0,o,false⟩),(300003,⟨false,false,true,false,0,q,false⟩)] }
def Bfq (N:Nat) (F:KF R):St→Option R:=Bq (R8 N) [] N (Ad5 N F [1,1,1,1,1,0,1,0] []) N
def Ad6 (N:Nat) (F:KF R) (n:Nat):St→Option R:=A4 (R8 N) [] N (Ad5 N F [1,1,1,1,1,0,1,0] []) n
def Ad7 (a:Int) (d:LA) (e:Nat) (l i:Bool) (f:LA) (g:Nat) (m j c:Bool) (b o:LA):St:={ s:=[(1,(.int .i64 a)),(3,(.imm d e 3 l i)),(4,(.imm f g 3 m j)),(7,(.optr 300000 0)),(10,(.optr 300001 0)),(12,(.optr 300002 0))],h:=[(300000,⟨false,false,true,c,0,b,false⟩),(300001,⟨false,false,false,false,0,[(.bool false),.nsl,.nsl],false⟩),(300002,⟨false,false,true,false,0,o,false⟩)] }
def Bfr (N:Nat) (F:KF R):St→Option R:=Cg (R8 N) [] N (Ad5 N F [1,1,1,1] [])
def Bfs (N:Nat) (F:KF R):St→Option R:=Ck (R8 N) [] N (Ad5 N F [1,1,1,1] [])
theorem Bn1 (N:Nat)  (F:KF R) (d:LA) (e:Nat) (l i:Bool) (f:LA) (g:Nat) (m j:Bool) (a:Int) (c:Bool) (b o:LA):∀ (n:Nat) (p:Int) (q:LA),Ad6 N F n (Om d e l i f g m j a c b o p q)=(Ol N (J8 F) d e l i f g m j a c b o n p q):=by
 intro n
 induction n with
 | zero=>intros;kernel_rfl
 | succ n ih =>
  intro p q
  have e0:=funext fun p=>funext fun q=>(show Ad6 N F n (Om d e l i f g m j a c b o p q)=_ from ih p q)
  have hK:Ad6 N F (n+1) (Om d e l i f g m j a c b o p q)=(Zk N (J8 F) d e l i f g m j a c b o (fun p q=>Ad6 N F n (Om d e l i f g m j a c b o p q)) p q):=by kernel_rfl
  exact hK.trans (by rw [e0];rfl)
theorem Bn2 (N:Nat)  (F:KF R) (a:Int) (d:LA) (e:Nat) (l i:Bool) (f:LA) (g:Nat) (m j c:Bool) (b o:LA):Bfs N F (Ad7 a d e l i f g m j c b o)=(Au5 N (J8 F) a d e l i f g m j c b o):=by
 have e1:=funext fun p=>funext fun q=>(show Bfq N F (Om d e l i f g m j a c b o p q)=_ from (Ap ..).trans (Bn1 N F d e l i f g m j a c b o N p q))
 have hK:Bfs N F (Ad7 a d e l i f g m j c b o)=(Ant N (J8 F) a d e l i f g m j c b o (fun p q=>Bfq N F (Om d e l i f g m j a c b o p q))):=by kernel_rfl
 exact hK.trans (by rw [e1];rfl)
theorem Au6 (N:Nat) (r:LA) (t:Bool) (a:Int) (b:LA) (c:Bool) (d:LA) (e:Nat) (l i:Bool) (f:LA) (g:Nat) (m j:Bool) (F:KF R):Ab Tryz.prog muts (Alp N) Ad4 N 42 [(.pagg r t),(.int .i64 a),(.pagg b c),(.imm d e 3 l i),(.imm f g 3 m j)] [] F=(Aps N r t a b c d e l i f g m j (J8 F)):=by
 have e1:=funext fun o=>(show Bfr N F (Ad7 a d e l i f g m j c b o)=_ from (Aw ..).trans (Bn2 N F a d e l i f g m j c b o))
 have hK:Ab Tryz.prog muts (Alp N) Ad4 N 42 [(.pagg r t),(.int .i64 a),(.pagg b c),(.imm d e 3 l i),(.imm f g 3 m j)] [] F=(Bbp N (J8 F) (fun o=>Bfr N F (Ad7 a d e l i f g m j c b o)) r t a b c d e l i f g m j):=by kernel_rfl
 rw [A7g]
 exact hK.trans (by rw [e1];rfl)
def Zl (N:Nat) (args:List AV) (h:Ak) (k:KF R):Option R :=
 match args,h with
 | [(.pagg r t),(.int .i64 a),(.pagg b c),(.imm d e 3 l i),(.imm f g 3 m j)],[]=>(Aps N r t a b c d e l i f g m j (J8 k))
 | _,_=>none
def Bft (N:Nat):Tw:=⟨Zl N,fun args h k=>by
 unfold Zl;split
 exact twE (Au6 ..) (Au6 ..)
 rfl⟩
theorem B1j (N:Nat):Ax Tryz.prog 42 (Bft N):=fun args h res ac hh=>by
 change Zl N args h (fun v ac=>some (v,ac))=_ at hh
 unfold Zl at hh;split at hh
 exact Aa (T:=Alp N) ⟨But N,Ek N,Bx8 N,Aer N,Bh1 N,trivial⟩ follows ((Au6 ..).trans hh)
 cases hh
def Aie (N:Nat)  (r0:LA→Int→Option R) (e:LA) (c:Nat) (j f:Bool) (g:LA) (d:Nat) (l i b:Bool) (a m:LA)   :Option R :=
 (rdL 3 (List.drop 1 a) fun x y=>(A33 N e c false f x y false b (fun q ae=>(cond ((Nat.beq 0 0)&&((Nat.beq (List.length q) 3)&&(Nat.beq 3 3))) (rdL 3 (List.drop 2 a) fun z aa=>(A33 N g d false i z aa false b (fun r af=>(cond ((Nat.beq 0 0)&&((Nat.beq (List.length r) 3)&&(Nat.beq 3 3))) (cond (Nat.ble 3 (List.length q)) (cond (Nat.ble 3 (List.length r)) (Lw N (List.take 3 q) false (List.take 3 r) false (fun ab=>(cond (Nat.ble 3 (List.length m)) (Tt N ab false (List.take 3 m) false (fun t=>(cond ((Nat.beq 0 0)&&((Nat.beq (List.length t) 3)&&(Nat.beq 3 3))) (cond (Nat.ble 3 (List.length t)) (r0 (List.take 3 t) 0) none) none))) none))) none) none) none)))) none))))
def Anu (N:Nat)  (r0:LA→Int→Option R) (e:LA) (c:Nat) (j f:Bool) (g:LA) (d:Nat) (l i b:Bool) (a m:LA) :Option R:=(Aie N r0 e c j f g d l i b a m)
def A2d (N:Nat) (r0:LA→Int→Option R) (q0:LA→Option R) (o:LA) (p:Bool) (n:Int) (a:LA) (b:Bool) (e:LA) (c:Nat) (j f:Bool) (g:LA) (d:Nat) (l i:Bool):Option R :=
 (cond (Nat.ble 22 (List.length o)) (cond (Nat.ble 3 (List.length a)) (Apr N (List.take 22 o) p n (List.take 3 a) b (fun m u=>(cond ((Nat.beq 0 0)&&((Nat.beq (List.length m) 3)&&(Nat.beq 3 3))) (cond (u != (0:Int)) (r0 [(.bool false),.nsl,.nsl] u) (cond ((((c:Nat):Int) != n)==false) (cond (cond false true (((d:Nat):Int) != n)) (r0 [(.bool false),.nsl,.nsl] 4) (q0 m)) (r0 [(.bool false),.nsl,.nsl] 4))) none))) none) none)
def A2e (N:Nat) (o:LA) (p:Bool) (n:Int) (a:LA) (b:Bool) (e:LA) (c:Nat) (j f:Bool) (g:LA) (d:Nat) (l i:Bool) (r0:LA→Int→Option R):Option R:=(A2d N r0 (fun m=>(Anu N r0 e c j f g d l i b a m)) o p n a b e c j f g d l i)
def Aif:=(Ai (@A2e R)).1
theorem A2f:@Aif R=@A2e R:=(Ai _).2
def Zm:Hints:={ H:=(hS (hR [1,3,4,5,7,10]) (hS (hR [1,3,4,7,10,12,13]) (hS (hS (hR [1,3,4,7,10,12,13,26]) (hN [1,3,4,7,10,12] (hS (hR [10,11]) hL) hL)) (hJ (hS (hR [3,4,7,10,12,38]) (hN [3,4,7,10,12] (hS (hR [10,11]) hL) hL)) (hS (hR [4,7,10,12,14]) (hS (hR [10,12,14,16]) (hS (hR [10,11]) hL))))))),nils:=[],modes:=[(3,0),(0,0)],free:=[],cob:=[] }
def Ad8 (N:Nat):List (Nat×Tw):=[(79,A2c N),(129,Bsv N),(32,Ml N),(33,Agy N)]
def Ad9 (N:Nat):Env:=mkE 59 Zm (Ad8 N)
def Bux (N:Nat) (F:KF R):=Ao (Ad9 N) Tryz.f80 Zm.modes [] F
def A7h (N:Nat) (F:KF R):=atF (Ad9 N) [] N Tryz.f80 Zm (Bux N F)
def Ph  (F:KF R):LA→Int→Option R:=(fun ac ad=>F (.tup [(.pagg ac false),(.int .i64 ad)]) [])
def Zn (e:LA) (c:Nat) (j f:Bool) (g:LA) (d:Nat) (l i b:Bool) (a m:LA):St:={ s:=[(3,(.imm e c 3 j f)),(4,(.imm g d 3 l i)),(7,(.optr 300000 0)),(10,(.optr 300001 0)),(12,(.optr 300002 0))],h:=[(300000,⟨false,false,true,b,0,a,false⟩),(300001,⟨false,false,false,false,0,[(.bool false),.nsl,.nsl],false⟩),(300002,⟨false,false,true,false,0,m,false⟩)] }
def A7i (N:Nat) (F:KF R):St→Option R:=Cg (Ad9 N) [] N (A7h N F [1,1,1,1] [])
def A7j (N:Nat) (F:KF R):St→Option R:=Ck (Ad9 N) [] N (A7h N F [1,1,1,1] [])
theorem Bjz (N:Nat)  (F:KF R) (e:LA) (c:Nat) (j f:Bool) (g:LA) (d:Nat) (l i b:Bool) (a m:LA):A7j N F (Zn e c j f g d l i b a m)=(Anu N (Ph F) e c j f g d l i b a m):=by
 have hK:A7j N F (Zn e c j f g d l i b a m)=(Aie N (Ph F) e c j f g d l i b a m):=by kernel_rfl
 exact hK
theorem Anv (N:Nat) (o:LA) (p:Bool) (n:Int) (a:LA) (b:Bool) (e:LA) (c:Nat) (j f:Bool) (g:LA) (d:Nat) (l i:Bool) (F:KF R):Ab Tryz.prog muts (Ad8 N) Zm N 80 [(.pagg o p),(.int .i64 n),(.pagg a b),(.imm e c 3 j f),(.imm g d 3 l i)] [] F=(Aif N o p n a b e c j f g d l i (Ph F)):=by
 have e1:=funext fun m=>(show A7i N F (Zn e c j f g d l i b a m)=_ from (Aw ..).trans (Bjz N F e c j f g d l i b a m))
 have hK:Ab Tryz.prog muts (Ad8 N) Zm N 80 [(.pagg o p),(.int .i64 n),(.pagg a b),(.imm e c 3 j f),(.imm g d 3 l i)] [] F=(A2d N (Ph F) (fun m=>A7i N F (Zn e c j f g d l i b a m)) o p n a b e c j f g d l i):=by kernel_rfl
 rw [A2f]
 exact hK.trans (by rw [e1];rfl)
def Vi (N:Nat) (args:List AV) (h:Ak) (k:KF R):Option R :=
 match args,h with
 | [(.pagg o p),(.int .i64 n),(.pagg a b),(.imm e c 3 j f),(.imm g d 3 l i)],[]=>(Aif N o p n a b e c j f g d l i (Ph k))
 | _,_=>none
def A7k (N:Nat):Tw:=⟨Vi N,fun args h k=>by
 unfold Vi;split
 exact twE (Anv ..) (Anv ..)
 rfl⟩
theorem Bwo (N:Nat):Ax Tryz.prog 80 (A7k N):=fun args h res w hh=>by
 change Vi N args h (fun v w=>some (v,w))=_ at hh
 unfold Vi at hh;split at hh
 exact Aa (T:=Ad8 N) ⟨Bm7 N,B5n N,Q5 N,Aso N,trivial⟩ follows ((Anv ..).trans hh)
 cases hh
def Anw (N:Nat) (r0:Bool→Option R)  (a:LA) (c:Bool) (d:Int) (b:LA) (e:Bool) (f:LA) (g:Nat) (n i:Bool) (j:LA) (l:Nat) (o m:Bool):Option R :=
 (cond (Nat.ble 22 (List.length a)) (cond (Nat.ble 3 (List.length b)) (Apk N (List.take 22 a) c d (List.take 3 b) e (fun u w=>(cond (Nat.ble 22 (List.length a)) (cond (Nat.ble 3 (List.length b)) (Ae2 N (List.take 22 a) c d (List.take 3 b) e (fun x y=>(cond (Nat.ble 22 (List.length a)) (cond (Nat.ble 3 (List.length b)) (A4q N (List.take 22 a) c d (List.take 3 b) e (fun p z=>(cond ((Nat.beq 0 0)&&((Nat.beq (List.length p) 3)&&(Nat.beq 3 3))) (cond (Nat.ble 22 (List.length a)) (cond (Nat.ble 3 (List.length b)) (Apr N (List.take 22 a) c d (List.take 3 b) e (fun q aa=>(cond ((Nat.beq 0 0)&&((Nat.beq (List.length q) 3)&&(Nat.beq 3 3))) (cond (Nat.ble 22 (List.length a)) (cond (Nat.ble 3 (List.length b)) (Aps N (List.take 22 a) c d (List.take 3 b) e f g false i j l false m (fun r ab=>(cond ((Nat.beq 0 0)&&((Nat.beq (List.length r) 3)&&(Nat.beq 3 3))) (cond (Nat.ble 22 (List.length a)) (cond (Nat.ble 3 (List.length b)) (Aif N (List.take 22 a) c d (List.take 3 b) e f g false i j l false m (fun s ac=>(cond ((Nat.beq 0 0)&&((Nat.beq (List.length s) 3)&&(Nat.beq 3 3))) (cond ((u==x)==true) (cond ((cond true (w==y) false)==true) (cond ((cond true (z==aa) false)==true) (cond ((cond true (ab==ac) false)==true) (cond (Nat.ble 3 (List.length p)) (cond (Nat.ble 3 (List.length q)) (Cf N (List.take 3 p) false (List.take 3 q) false (fun ad=>(cond ((cond true (ad==(0:Int)) false)==true) (cond (Nat.ble 3 (List.length r)) (cond (Nat.ble 3 (List.length s)) (Cf N (List.take 3 r) false (List.take 3 s) false (fun ae=>(r0 (cond true (ae==(0:Int)) false)))) none) none) (r0 false)))) none) none) (r0 false)) (r0 false)) (r0 false)) (r0 false)) none))) none) none) none))) none) none) none))) none) none) none))) none) none))) none) none))) none) none)
def Anx (N:Nat) (a:LA) (c:Bool) (d:Int) (b:LA) (e:Bool) (f:LA) (g:Nat) (n i:Bool) (j:LA) (l:Nat) (o m:Bool) (r0:Bool→Option R):Option R:=(Anw N r0 a c d b e f g n i j l o m)
def Vj:=(Ai (@Anx R)).1
theorem Apt:@Vj R=@Anx R:=(Ai _).2
def Awp:Hints:={ H:=(hS (hR [1,3,4,5,7]) (hS (hR [1,3,4,5,7,11,12]) (hS (hR [1,3,4,5,7,11,12,13,14]) (hS (hR [1,3,4,5,7,11,12,13,14,15,16]) (hS (hR [1,3,4,5,7,11,12,13,14,15,16,17,18]) (hS (hR [1,3,4,5,7,11,12,13,14,15,16,17,18,19,20]) (hS (hR [11,12,13,14,15,16,17,18,19,20,21,22]) (hS (hR [10]) hL)))))))),nils:=[],modes:=[],free:=[],cob:=[] }
def Aig (N:Nat):List (Nat×Tw):=[(38,A1h N),(78,Auw N),(43,Bbn N),(79,A2c N),(42,Bft N),(80,A7k N),(25,Gl N)]
def Abk  (F:KF R):Bool→Option R:=(fun af=>F (.bool af) [])
theorem Abl (N:Nat) (a:LA) (c:Bool) (d:Int) (b:LA) (e:Bool) (f:LA) (g:Nat) (n i:Bool) (j:LA) (l:Nat) (o m:Bool) (F:KF R):Ab Tryz.prog muts (Aig N) Awp N 39 [(.pagg a c),(.int .i64 d),(.pagg b e),(.imm f g 3 n i),(.imm j l 3 o m)] [] F=(Vj N a c d b e f g n i j l o m (Abk F)):=by
 have hK:Ab Tryz.prog muts (Aig N) Awp N 39 [(.pagg a c),(.int .i64 d),(.pagg b e),(.imm f g 3 n i),(.imm j l 3 o m)] [] F=(Anw N (Abk F) a c d b e f g n i j l o m):=by kernel_rfl
 rw [Apt]
 exact hK
def On (N:Nat) (args:List AV) (h:Ak) (k:KF R):Option R :=
 match args,h with
 | [(.pagg a c),(.int .i64 d),(.pagg b e),(.imm f g 3 n i),(.imm j l 3 o m)],[]=>(Vj N a c d b e f g n i j l o m (Abk k))
 | _,_=>none
def Awq (N:Nat):Tw:=⟨On N,fun args h k=>by
 unfold On;split
 exact twE (Abl ..) (Abl ..)
 rfl⟩
theorem Bn3 (N:Nat):Ax Tryz.prog 39 (Awq N):=fun args h res t hh=>by
 change On N args h (fun v t=>some (v,t))=_ at hh
 unfold On at hh;split at hh
 exact Aa (T:=Aig N) ⟨Bmu N,Bfl N,But N,Bm7 N,B1j N,Bwo N,Iu N,trivial⟩ follows ((Abl ..).trans hh)
 cases hh
def Lg (N:Nat) (r0:Bool→Option R)  (e:List UInt8) (f g i:Int) (j:LA) (l:Nat) (av a:Bool) (m n o p q r s t u w x y z:Int) (aa:LA) (ab:Nat) (aw b:Bool) (ac ad ae ar:Int) (au:LA) (af:Nat) (ax ag:Bool) (ah:LA) (ai:Nat) (ay c:Bool) (aj:LA) (ak:Nat) (az d:Bool) (al:LA) (am:Nat) (ba an:Bool) (ao:LA) (ap:Nat) (bb aq:Bool):Option R :=
 (Z5 N [(.str e),(.int .i64 f),(.int .i64 g),(.int .i64 i),(.imm j l 2 false a),(.int .i64 m),(.int .i64 n),(.int .i64 o),(.int .i64 p),(.int .i64 q),(.int .i64 r),(.int .i64 s),(.int .i64 t),(.int .i64 u),(.int .i64 w),(.int .i64 x),(.int .i64 y),(.int .i64 z),(.imm aa ab 1 false b),(.int .i64 ac),(.int .i64 ad),(.int .i64 ae)] (a||(b||false)) (fun bd=>(cond ((!bd)==false) (cond ((cond false true (decide (((af:Nat):Int)>(30:Int))))==false) (A04 N ah ai false c (fun be=>(cond ((cond false true (!be))==false) (A04 N aj ak false d (fun bf=>(cond ((cond false true (!bf))==false) (A04 N al am false an (fun bg=>(cond ((cond false true (!bg))==false) (A04 N ao ap false aq (fun bh=>(cond (cond false true (!bh)) (r0 true) (Aae N (fun bi=>(cond (bi==true) (Vj N [(.str e),(.int .i64 f),(.int .i64 g),(.int .i64 i),(.imm j l 2 false a),(.int .i64 m),(.int .i64 n),(.int .i64 o),(.int .i64 p),(.int .i64 q),(.int .i64 r),(.int .i64 s),(.int .i64 t),(.int .i64 u),(.int .i64 w),(.int .i64 x),(.int .i64 y),(.int .i64 z),(.imm aa ab 1 false b),(.int .i64 ac),(.int .i64 ad),(.int .i64 ae)] (a||(b||false)) ar [(.imm au af 1 false ag),(.imm ah ai 3 false c),(.imm aj ak 3 false d)] (ag||(c||(d||false))) al am false an ao ap false aq (fun bj=>(r0 (cond true bj false)))) (r0 false))))))) (r0 true)))) (r0 true)))) (r0 true)))) (r0 true)) (r0 true))))
def Lh (N:Nat) (e:List UInt8) (f g i:Int) (j:LA) (l:Nat) (av a:Bool) (m n o p q r s t u w x y z:Int) (aa:LA) (ab:Nat) (aw b:Bool) (ac ad ae ar:Int) (au:LA) (af:Nat) (ax ag:Bool) (ah:LA) (ai:Nat) (ay c:Bool) (aj:LA) (ak:Nat) (az d:Bool) (al:LA) (am:Nat) (ba an:Bool) (ao:LA) (ap:Nat) (bb aq:Bool) (r0:Bool→Option R):Option R:=(Lg N r0 e f g i j l av a m n o p q r s t u w x y z aa ab aw b ac ad ae ar au af ax ag ah ai ay c aj ak az d al am ba an ao ap bb aq)
def Ho:=(Ai (@Lh R)).1
theorem Pi:@Ho R=@Lh R:=(Ai _).2
def R9:Hints:={ H:=(hS (hR [1,3,4,5,7]) (hS (hS (hR [1,3,4,5,7,41]) (hN [1,3,4,5,7] (hS (hR [10]) hL) hL)) (hS (hR [10]) hL))),nils:=[],modes:=[],free:=[],cob:=[] }
def J9 (N:Nat):List (Nat×Tw):=[(11,Azl N),(18,Byx N),(15,A0u N),(39,Awq N)]
def I7  (F:KF R):Bool→Option R:=(fun bk=>F (.bool bk) [])
theorem I8 (N:Nat) (e:List UInt8) (f g i:Int) (j:LA) (l:Nat) (av a:Bool) (m n o p q r s t u w x y z:Int) (aa:LA) (ab:Nat) (aw b:Bool) (ac ad ae ar:Int) (au:LA) (af:Nat) (ax ag:Bool) (ah:LA) (ai:Nat) (ay c:Bool) (aj:LA) (ak:Nat) (az d:Bool) (al:LA) (am:Nat) (ba an:Bool) (ao:LA) (ap:Nat) (bb aq:Bool) (F:KF R):Ab Tryz.prog muts (J9 N) R9 N 8 [(.agg [(.str e),(.int .i64 f),(.int .i64 g),(.int .i64 i),(.imm j l 2 av a),(.int .i64 m),(.int .i64 n),(.int .i64 o),(.int .i64 p),(.int .i64 q),(.int .i64 r),(.int .i64 s),(.int .i64 t),(.int .i64 u),(.int .i64 w),(.int .i64 x),(.int .i64 y),(.int .i64 z),(.imm aa ab 1 aw b),(.int .i64 ac),(.int .i64 ad),(.int .i64 ae)]),(.int .i64 ar),(.agg [(.imm au af 1 ax ag),(.imm ah ai 3 ay c),(.imm aj ak 3 az d)]),(.imm al am 3 ba an),(.imm ao ap 3 bb aq)] [] F=(Ho N e f g i j l av a m n o p q r s t u w x y z aa ab aw b ac ad ae ar au af ax ag ah ai ay c aj ak az d al am ba an ao ap bb aq (I7 F)):=by
 have hK:Ab Tryz.prog muts (J9 N) R9 N 8 [(.agg [(.str e),(.int .i64 f),(.int .i64 g),(.int .i64 i),(.imm j l 2 av a),(.int .i64 m),(.int .i64 n),(.int .i64 o),(.int .i64 p),(.int .i64 q),(.int .i64 r),(.int .i64 s),(.int .i64 t),(.int .i64 u),(.int .i64 w),(.int .i64 x),(.int .i64 y),(.int .i64 z),(.imm aa ab 1 aw b),(.int .i64 ac),(.int .i64 ad),(.int .i64 ae)]),(.int .i64 ar),(.agg [(.imm au af 1 ax ag),(.imm ah ai 3 ay c),(.imm aj ak 3 az d)]),(.imm al am 3 ba an),(.imm ao ap 3 bb aq)] [] F=(Lg N (I7 F) e f g i j l av a m n o p q r s t u w x y z aa ab aw b ac ad ae ar au af ax ag ah ai ay c aj ak az d al am ba an ao ap bb aq):=by kernel_rfl
 rw [Pi]
 exact hK
def Ep (N:Nat) (args:List AV) (h:Ak) (k:KF R):Option R :=
 match args,h with
 | [(.agg [(.str e),(.int .i64 f),(.int .i64 g),(.int .i64 i),(.imm j l 2 av a),(.int .i64 m),(.int .i64 n),(.int .i64 o),(.int .i64 p),(.int .i64 q),(.int .i64 r),(.int .i64 s),(.int .i64 t),(.int .i64 u),(.int .i64 w),(.int .i64 x),(.int .i64 y),(.int .i64 z),(.imm aa ab 1 aw b),(.int .i64 ac),(.int .i64 ad),(.int .i64 ae)]),(.int .i64 ar),(.agg [(.imm au af 1 ax ag),(.imm ah ai 3 ay c),(.imm aj ak 3 az d)]),(.imm al am 3 ba an),(.imm ao ap 3 bb aq)],[]=>(Ho N e f g i j l av a m n o p q r s t u w x y z aa ab aw b ac ad ae ar au af ax ag ah ai ay c aj ak az d al am ba an ao ap bb aq (I7 k))
 | _,_=>none
def Sa (N:Nat):Tw:=⟨Ep N,fun args h k=>by
 unfold Ep;split
 exact twE (I8 ..) (I8 ..)
 rfl⟩
theorem Apu (N:Nat):Ax Tryz.prog 8 (Sa N):=fun args h res bc hh=>by
 change Ep N args h (fun v bc=>some (v,bc))=_ at hh
 unfold Ep at hh;split at hh
 exact Aa (T:=J9 N) ⟨Bsw N,B8c N,Btk N,Bn3 N,trivial⟩ follows ((I8 ..).trans hh)
 cases hh
end
end Gx

namespace Gx
open Go Go.Proofs
section
variable {R:Type}
structure StD where
  k:Int
  h:Int
def StD.av (s:StD):List AV:=[.int .i64 s.k,.int .i64 s.h]
def Hv (u:UnitD):Int:=Qp (Qp u.downTime (u.hotHours+1)) 1
def Aih (u:UnitD):Int:=Qp u.upTime 1
def Fx (u:UnitD) (s:StD):List StD :=
  cond (s.k==0) (⟨0,O0 (s.h+1) (Hv u)⟩::cond (decide (s.h<u.downTime)) [] (cond (decide (u.startTime>0)) [⟨1,1⟩] [⟨2,1⟩]))
    (cond (s.k==1) (cond (decide (s.h<u.startTime)) [⟨1,s.h+1⟩] [⟨2,1⟩]) (cond (decide (s.h≥u.upTime)) [⟨0,1⟩,⟨2,O0 (s.h+1) (Aih u)⟩] [⟨2,O0 (s.h+1) (Aih u)⟩]))
def Vk (u:UnitD) (s:StD):Prop:=1≤s.h∧((s.k=0∧s.h≤Hv u)∨(s.k=1∧s.h≤u.startTime)∨(s.k=2∧s.h≤Aih u))
theorem B65 (a b:Int):O0 a b=min a b:=by unfold O0;by_cases h:b<a<;>simp [h]<;>omega
theorem B66 (a b:Int):Qp a b=max a b:=by unfold Qp;by_cases h:b>a<;>simp [h]<;>omega
theorem Oo {u:UnitD} (h:Cx u=true):(0≤u.upTime∧u.upTime≤24)∧(0≤u.downTime∧u.downTime≤24)∧(0≤u.startTime∧u.startTime≤24)∧(0≤u.hotHours∧u.hotHours≤24)∧(u.state=0∨u.state=1∨u.state=2)∧(1≤u.hours∧u.hours≤48)∧(u.state=1→u.hours≤u.startTime):=by
  simp [Cx,inR] at h;omega
theorem Au7 {u:UnitD} (h:Cx u=true):1≤Hv u∧Hv u≤25∧1≤Aih u∧Aih u≤24:=by
  have:=Oo h
  simp only [Hv,Aih,B66];omega
theorem Buy {u:UnitD} {s:StD} (h:Cx u=true) (hs:Vk u s):1≤s.h∧s.h≤25∧(s.k=0∨s.k=1∨s.k=2):=by
  have:=Oo h;have:=Au7 h;unfold Vk at hs;omega
theorem Bfu {u:UnitD} {s:StD} (h:Cx u=true) (hs:Vk u s):∀ t ∈ Fx u s,Vk u t:=by
  intro t ht
  have h1:=Oo h;have h2:=Au7 h;have h3:=Buy h hs
  have hon:Aih u=max u.upTime 1:=by rw [Aih,B66]
  unfold Vk at hs ⊢
  unfold Fx at ht
  rcases h3.2.2 with hk | hk | hk<;>simp only [hk,B65] at ht hs
  · by_cases hd:s.h<u.downTime<;>by_cases hq:u.startTime>0<;>simp [hd,hq] at ht<;>first | (subst ht;simp;omega) | (rcases ht with rfl | rfl<;>simp<;>omega)
  · by_cases hd:s.h<u.startTime<;>simp [hd] at ht<;>(subst ht;simp;omega)
  · by_cases hd:u.upTime≤s.h<;>simp [hd] at ht<;>first | (subst ht;simp;omega) | (rcases ht with rfl | rfl<;>simp<;>omega)
theorem A4t {u:UnitD} {s:StD}:(Fx u s).length≤2:=by
  unfold Fx
  cases (s.k==0)<;>cases (s.k==1)<;>cases decide (s.h<u.downTime)<;>cases decide (u.startTime>0)<;>cases decide (s.h<u.startTime)<;>cases decide (s.h≥u.upTime)<;>simp
theorem A2g {s:StD} {f:Int→Option R}:rdI .i64 s.av f=f s.k:=Bv
theorem Aii {s:StD} {f:Int→Option R}:rdI .i64 (List.drop 1 s.av) f=f s.h:=Bv
theorem st2 (s:StD):Nat.ble 2 (List.length s.av)=true:=rfl
theorem stt (s:StD):List.take 2 s.av=s.av:=rfl
theorem Bfv (s t:StD):setCells s.av 0 t.av=t.av:=rfl
theorem st0 (t:StD):setCells [(.int .i64 0),(.int .i64 0)] 0 t.av=t.av:=rfl
theorem Au8 {N:Nat} {u:UnitD} {o:Bool} {K:Int→Int→Option R} (hN:64≤N) (hs:Cx u=true):Akp N u.av o K=K (Hv u) (Aih u):=by
  rw [Az8];unfold Bd5 Bd4
  have h1:=Oo hs
  rw [Cz,ct,Bt,K7 hN,hs,show (!true)=false from rfl,cf,u11,u15,u10,i64 (by omega)];rfl
theorem Any {N:Nat} {u:UnitD} {o:Bool} {K:Int→Int→Option R} (hs:Cx u=true):Ahv N u.av o K=K (Hv u) (Aih u):=by
  rw [Bff];unfold Bji Bjh
  have h1:=Oo hs
  rw [Cz,ct,Bt,Mt,hs,show (!true)=false from rfl,cf,u11,u15,u10,i64 (by omega)];rfl
def Ca (u:UnitD):StD:=⟨u.state,cond (u.state==0) (O0 u.hours (Hv u)) (cond (u.state==2) (O0 u.hours (Aih u)) u.hours)⟩
theorem Sb {u:UnitD} (h:Cx u=true):Vk u (Ca u):=by
  have h1:=Oo h;have h2:=Au7 h
  unfold Vk Ca
  rcases h1.2.2.2.2.1 with hk | hk | hk<;>simp only [hk,B65]<;>simp<;>omega
theorem Awr {N:Nat} {u:UnitD} {o:Bool} {K:LA→Option R} (hN:64≤N) (hs:Cx u=true):Q6 N u.av o K=K (Ca u).av:=by
  rw [Ag9];unfold Aks Akr
  rw [Cz,ct,Bt,K7 hN,hs,show (!true)=false from rfl,cf,ct,Au8 hN hs,u19,u20]
  unfold Ca
  cases (u.state==0)<;>cases (u.state==2)<;>rfl
theorem Xo {N:Nat} {u:UnitD} {o:Bool} {K:LA→Option R} (hs:Cx u=true):M6 N u.av o K=K (Ca u).av:=by
  rw [Awh];unfold Aum Aul
  rw [Cz,ct,Bt,Mt,hs,show (!true)=false from rfl,cf,ct,Any hs,u19]
  have h1:=Oo hs
  simp only [u20]
  unfold Ca
  rcases h1.2.2.2.2.1 with hk | hk | hk<;>rw [hk]<;>rfl
theorem Bj0 {N:Nat} {u:UnitD} {s:StD} {o o':Bool} (hN:64≤N) (hs:Cx u=true) (hst:Vk u s):∃ p:Int,0≤p∧∀ K:Int→Option R,Mr N u.av o s.av o' K=K p:=by
  have h1:=Oo hs;have h2:=Au7 hs;have h3:=Buy hs hst
  have key:∀ K:Int→Option R,Mr N u.av o s.av o' K=K (cond (s.k==0) (s.h - 1) (cond (s.k==1) (Hv u+s.h - 1) (Hv u+u.startTime+s.h - 1))):=by
    intro K
    rw [Aa7];unfold Ada Ac9
    rw [Cz,ct,Bt,K7 hN,hs,show ((!true)==false)=true from rfl,ct,Aii,show decide (s.h<1)=false by simp;omega,cfB,cf]
    unfold T9 P9
    rw [Cz,ct,Bt,Au8 hN hs,A2g]
    unfold Ahb Aa6 Aha Aa5
    simp only [A2g,Aii,u12]
    unfold Vk at hst
    have e1:IntKind.wrap .i64 (s.h - 1)=s.h - 1:=i64 (by omega)
    have e2:IntKind.wrap .i64 (IntKind.wrap .i64 (Hv u+s.h) - 1)=Hv u+s.h - 1:=by rw [i64 (a:=Hv u+s.h) (by omega),i64 (by omega)]
    have e3:IntKind.wrap .i64 (IntKind.wrap .i64 (IntKind.wrap .i64 (Hv u+u.startTime)+s.h) - 1)=Hv u+u.startTime+s.h - 1:=by rw [i64 (a:=Hv u+u.startTime) (by omega),i64 (a:=Hv u+u.startTime+s.h) (by omega),i64 (by omega)]
    rw [e1,e2,e3]
    rcases h3.2.2 with hk | hk | hk<;>rw [hk] at hst ⊢
    · rw [show decide (s.h≤Hv u)=true by simp;omega];rfl
    · rw [show decide (s.h≤u.startTime)=true by simp;omega];rfl
    · rw [show decide (s.h≤Aih u)=true by simp;omega];rfl
  refine ⟨_,?_,key⟩
  cases (s.k==0)<;>cases (s.k==1)<;>simp<;>omega
theorem Bfw {N:Nat} {u:UnitD} {s:StD} {o:Bool} {K:LA→Nat→Option R} (hN:64≤N) (hs:Cx u=true) (hst:Vk u s):Yv N u.av o s.av false K=K ((Fx u s).flatMap StD.av) (Fx u s).length:=by
  have h1:=Oo hs;have h2:=Au7 hs;have h3:=Buy hs hst
  obtain ⟨p,hp,e⟩:=Bj0 (R:=R) (o:=o) (o':=false) hN hs hst
  rw [A0h];unfold Bea Bd9
  rw [Cz,ct,st2,ct,show ((!false)||Bm (List.take 2 s.av))=true from rfl,ct,Bt,stt,e,show decide (p<0)=false by simp;omega,cf,ct,Au8 hN hs]
  simp only [A2g,Aii,u10,u11,u12]
  unfold Bau A0g
  simp only [Aii,u11]
  rw [i64 (a:=s.h+1) (by omega)]
  unfold Fx
  rcases h3.2.2 with hk | hk | hk<;>rw [hk]
  · by_cases hd:s.h<u.downTime
    · simp [hd,show ¬ u.downTime≤s.h by omega,StD.av]
    · by_cases ht:u.startTime>0
      · simp [hd,show u.downTime≤s.h by omega,ht,StD.av]
      · simp [hd,show u.downTime≤s.h by omega,ht,StD.av]
  · by_cases hd:s.h<u.startTime<;>simp [hd,StD.av]
  · by_cases hd:s.h≥u.upTime<;>simp [hd,StD.av]
end
end Gx

namespace Gx
open Go Go.Proofs
section
variable {R:Type}
theorem Ca1 (s:List StD):(s.flatMap StD.av).length=s.length*2:=by
  induction s with
  | nil=>rfl
  | cons a r ih=>rw [List.flatMap_cons,List.length_append,ih];simp [StD.av];omega
theorem Ca2 (s:List StD):List.take (s.length*2) (s.flatMap StD.av)=s.flatMap StD.av:=by rw [← Ca1,List.take_length]
theorem A2h (s:List StD) (t:StD):List.take (s.length*2) (s.flatMap StD.av)++t.av=(s++[t]).flatMap StD.av:=by rw [Ca2];simp
theorem B67 {l:List StD} {j:Nat} (h:j<l.length):List.drop ((Int.toNat (j:Int))*2) (l.flatMap StD.av)=l[j].av++(l.drop (j+1)).flatMap StD.av:=by
  rw [Int.toNat_natCast,A4i (e:=StD.av) (sz:=2) (fun _=>rfl) _ _ h]
theorem Bj1 {l:List StD} {j:Nat} (h:j<l.length):List.drop (0+((Int.toNat (j:Int))*2)) (l.flatMap StD.av)=l[j].av++(l.drop (j+1)).flatMap StD.av:=by rw [Nat.zero_add,B67 h]
theorem Au9 (s:StD) (r:List AV):Nat.ble 2 (List.length (s.av++r))=true:=rfl
theorem Ava (s:StD) (r:List AV):List.take 2 (s.av++r)=s.av:=rfl
theorem Cb7 {s:StD} {r:List AV} {f:Int→Option R}:rdI .i64 (s.av++r) f=f s.k:=Bv
theorem Apv (c:Bool) (s:StD):((!c)||Bm s.av)=true:=by cases c<;>rfl
theorem B1k (s t:StD):((Nat.ble 1 2)&&((Nat.beq (List.length s.av) 2)&&((Nat.beq (List.length t.av) 2)&&(true&&(!false)))))=true:=rfl
theorem By2 (s t:StD):((s.k==t.k)&&((s.h==t.h)&&true))=true↔s=t:=by
  cases s;cases t;simp
def Aak (k:Int):Int→Nat→List StD
  | _,0=>[]
  | i,m+1=>⟨k,i+1⟩::Aak k (i+1) m
theorem Boo {k h:Int}:∀ {m:Nat} {i:Int},i+1≤h→h≤i+m→(⟨k,h⟩:StD) ∈ Aak k i m
  | 0,i,h1,h2=>by omega
  | m+1,i,h1,h2=>by
    rw [Aak]
    by_cases e:h=i+1
    · subst e;exact List.mem_cons_self ..
    · exact List.mem_cons_of_mem _ (Boo (by omega) (by omega))
theorem B68 {k:Int}:∀ {m:Nat} {i:Int},(Aak k i m).length=m
  | 0,_=>rfl
  | m+1,_=>by rw [Aak,List.length_cons,B68]
theorem By3 {N:Nat} {K:Nat→LA→Option R} {a:Int} (ha:a≤1000):∀ (m fuel:Nat) (i:Int) (l:List StD),i+m=a→0≤i→m<fuel→l.length+m≤10000 →
    K9 N K a fuel l.length (i+1) (l.flatMap StD.av)=K (l++Aak 2 i m).length ((l++Aak 2 i m).flatMap StD.av)
  | 0,fuel+1,i,l,hi,h0,_,hl=>by
    rw [K9];unfold U4
    rw [show decide (i+1≤a)=false by simp;omega,cf,Aak,List.append_nil]
  | m+1,fuel+1,i,l,hi,h0,hf,hl=>by
    rw [K9];unfold U4
    rw [show decide (i+1≤a)=true by simp;omega,ct,B86 (by omega),ct,i64 (by omega),show [(AV.int .i64 2),(.int .i64 (i+1))]=(StD.mk 2 (i+1)).av from rfl,A2h]
    have:=By3 (N:=N) (K:=K) ha m fuel (i+1) (l++[⟨2,i+1⟩]) (by omega) (by omega) (by omega) (by simp;omega)
    rw [List.length_append] at this
    simp only [List.length_cons,List.length_nil,Nat.zero_add] at this
    rw [this,Aak,List.append_assoc];rfl
theorem By4 {N:Nat} {K:Nat→LA→Option R} {u:UnitD} {c:Bool} {a:Int} {m2:Nat} (ha:a=m2) (h2:m2≤1000) (hN:1100≤N) (hst:u.startTime≤1000):∀ (m fuel:Nat) (i:Int) (l:List StD),i+m=u.startTime→0≤i→m<fuel→l.length+m≤8000 →
    La N K a c u.av fuel l.length (i+1) (l.flatMap StD.av)=K (l++Aak 1 i m++Aak 2 0 m2).length ((l++Aak 1 i m++Aak 2 0 m2).flatMap StD.av)
  | 0,fuel+1,i,l,hi,h0,_,hl=>by
    rw [La];unfold U5
    rw [u12,show decide (i+1≤u.startTime)=false by simp;omega,cf,Aak,List.append_nil]
    exact By3 (by omega) m2 N 0 l (by omega) (by omega) (by omega) (by omega)
  | m+1,fuel+1,i,l,hi,h0,hf,hl=>by
    rw [La];unfold U5
    rw [u12,show decide (i+1≤u.startTime)=true by simp;omega,ct,B86 (by omega),ct,i64 (by omega),show [(AV.int .i64 1),(.int .i64 (i+1))]=(StD.mk 1 (i+1)).av from rfl,A2h]
    have:=By4 (N:=N) (K:=K) (c:=c) ha h2 hN hst m fuel (i+1) (l++[⟨1,i+1⟩]) (by omega) (by omega) (by omega) (by simp;omega)
    rw [List.length_append] at this
    simp only [List.length_cons,List.length_nil,Nat.zero_add] at this
    rw [this,Aak];simp only [List.append_assoc,List.cons_append,List.nil_append]
theorem By5 {N:Nat} {K:Nat→LA→Option R} {u:UnitD} {c:Bool} {a p:Int} {m1 m2:Nat} (ha:a=m2) (h2:m2≤1000) (h1:u.startTime=m1) (hm1:m1≤1000) (hN:1100≤N) (hp:p≤1000):∀ (m fuel:Nat) (i:Int) (l:List StD),i+m=p→0≤i→m<fuel→l.length+m≤6000 →
    Lb N K p a c u.av fuel l.length (i+1) (l.flatMap StD.av)=K (l++Aak 0 i m++Aak 1 0 m1++Aak 2 0 m2).length ((l++Aak 0 i m++Aak 1 0 m1++Aak 2 0 m2).flatMap StD.av)
  | 0,fuel+1,i,l,hi,h0,_,hl=>by
    rw [Lb];unfold U6
    rw [show decide (i+1≤p)=false by simp;omega,cf,Aak,List.append_nil]
    exact By4 ha h2 hN (by omega) m1 N 0 l (by omega) (by omega) (by omega) (by omega)
  | m+1,fuel+1,i,l,hi,h0,hf,hl=>by
    rw [Lb];unfold U6
    rw [show decide (i+1≤p)=true by simp;omega,ct,B86 (by omega),ct,i64 (by omega),show [(AV.int .i64 0),(.int .i64 (i+1))]=(StD.mk 0 (i+1)).av from rfl,A2h]
    have:=By5 (N:=N) (K:=K) (c:=c) ha h2 h1 hm1 hN hp m fuel (i+1) (l++[⟨0,i+1⟩]) (by omega) (by omega) (by omega) (by simp;omega)
    rw [List.length_append] at this
    simp only [List.length_cons,List.length_nil,Nat.zero_add] at this
    rw [this,Aak];simp only [List.append_assoc,List.cons_append,List.nil_append]
def B1l (u:UnitD):List StD:=Aak 0 0 (Hv u).toNat++Aak 1 0 u.startTime.toNat++Aak 2 0 (Aih u).toNat
theorem Bn4 {N:Nat} {u:UnitD} {o:Bool} {K:Nat→LA→Option R} (hN:1100≤N) (hs:Cx u=true):Ahz N u.av o K=K (B1l u).length ((B1l u).flatMap StD.av):=by
  have h1:=Oo hs;have h2:=Au7 hs
  rw [A1o];unfold A1n A1m
  rw [Cz,ct,Bt,Any hs,ct,Mt,hs,show (!true)=false from rfl,cf]
  have:=By5 (N:=N) (K:=K) (u:=u) (c:=o) (a:=Aih u) (p:=Hv u) (m1:=u.startTime.toNat) (m2:=(Aih u).toNat) (by omega) (by omega) (by omega) (by omega) hN (by omega) (Hv u).toNat N 0 [] (by omega) (by omega) (by omega) (by simp;omega)
  simpa [B1l] using this
theorem B94 {u:UnitD} {s:StD} (hs:Cx u=true) (h:Vk u s):s ∈ B1l u:=by
  have h1:=Oo hs;have h2:=Au7 hs
  obtain ⟨k,h'⟩:=s
  unfold Vk at h;simp only at h
  unfold B1l
  rcases h with ⟨h0,⟨rfl,h3⟩ | ⟨rfl,h3⟩ | ⟨rfl,h3⟩⟩
  · exact List.mem_append_left _ (List.mem_append_left _ (Boo (by omega) (by omega)))
  · exact List.mem_append_left _ (List.mem_append_right _ (Boo (by omega) (by omega)))
  · exact List.mem_append_right _ (Boo (by omega) (by omega))
theorem B31 {N:Nat} {L:List StD} {s:StD} {c:Bool} (hL:L.length≤10000):∀ (m j fuel:Nat),j+m=L.length→m<fuel→s ∈ L.drop j→∃ p:Int,0≤p∧∀ K:Int→Option R,Ha N K L.length c s.av (L.flatMap StD.av) fuel (j:Int)=K p
  | 0,j,fuel+1,hj,_,hm=>by rw [Km (by omega)] at hm;simp at hm
  | m+1,j,fuel+1,hj,hf,hm=>by
    have h:j<L.length:=by omega
    by_cases e:L[j]=s
    · refine ⟨j,by omega,fun K=>?_⟩
      rw [Ha];unfold Oe
      simp only [ltT h,ct,Ac h,Bj1 h,Au9,Ava,st2,stt,Apv,B1k,A2g,Aii]
      rw [(By2 _ _).2 e,ct]
    · rw [Dw h] at hm
      have hm':s ∈ L.drop (j+1):=by
        rcases List.mem_cons.1 hm with rfl | hm
        · exact absurd rfl e
        · exact hm
      obtain ⟨p,hp,ih⟩:=B31 hL m (j+1) fuel (by omega) (by omega) hm'
      refine ⟨p,hp,fun K=>?_⟩
      rw [Ha];unfold Oe
      simp only [ltT h,ct,Ac h,Bj1 h,Au9,Ava,st2,stt,Apv,B1k,A2g,Aii]
      have:((L[j].k==s.k)&&((L[j].h==s.h)&&true))=false:=by
        cases hb:((L[j].k==s.k)&&((L[j].h==s.h)&&true)) with
        | false=>rfl
        | true=>exact absurd ((By2 _ _).1 hb) e
      rw [this,cf,wS (by omega),ih]
theorem B32 {N:Nat} {u:UnitD} {s:StD} {o d:Bool} {K:Bool→Option R} (hN:1100≤N) (hs:Cx u=true) (hst:Vk u s):Buj N u.av o s.av d K=K true:=by
  have h1:=Oo hs;have h2:=Au7 hs
  rw [Buk];unfold B1f B1e
  rw [Cz,ct,st2,ct,stt,Apv,ct,Bt,Apl];unfold Ani Anh
  rw [Cz,ct,Bt,Bn4 hN hs]
  have hl:(B1l u).length≤100:=by unfold B1l;simp [B68];omega
  obtain ⟨p,hp,e⟩:=B31 (R:=R) (N:=N) (L:=B1l u) (s:=s) (c:=false) (by omega) (B1l u).length 0 N (by omega) (by omega) (by rw [List.drop_zero];exact B94 hs hst)
  have e':=e fun f=>K (decide (f≥0))
  rw [show ((0:Nat):Int)=0 from rfl] at e'
  dsimp only
  rw [e',show decide (p≥0)=true by simp;omega]
theorem A7l {N:Nat} {u:UnitD} {s:StD} {o d:Bool} {K:Nat→LA→Option R} (hN:1100≤N) (hs:Cx u=true) (hst:Vk u s):Apm N u.av o s.av d K=K (Fx u s).length ((Fx u s).flatMap StD.av):=by
  have h1:=Oo hs;have h2:=Au7 hs;have h3:=Buy hs hst
  rw [Bfg];unfold Bjq Bjp
  rw [Cz,ct,st2,ct,stt,Apv,ct,Bt,B32 hN hs hst,show (!true)=false from rfl,cf,ct,Any hs]
  simp only [A2g,Aii,u10,u11,u12]
  rw [i64 (a:=s.h+1) (by omega)]
  unfold Fx
  rcases h3.2.2 with hk | hk | hk<;>rw [hk]
  · by_cases hd:s.h<u.downTime
    · simp [hd,StD.av]
    · by_cases ht:u.startTime>0
      · simp [hd,ht,StD.av]
      · simp [hd,ht,StD.av]
  · by_cases hd:s.h<u.startTime<;>simp [hd,StD.av]
  · by_cases hd:s.h≥u.upTime<;>simp [hd,StD.av]
end
end Gx

namespace Gx
open Go Go.Proofs
section
variable {R:Type}
def Bfx (u:UnitD) (h kind:Int):Bool:=kind==0||!(decide (h ∈ u.away.l))
def Aws (l:List StD) (v:Int):Option StD:=l.find? fun s=>s.k==v
def Vo (u:UnitD) (h:Int) (s:StD) (kind:Int):Option StD:=cond (Bfx u h kind) (Aws (Fx u s) kind) none
def C8 (u:UnitD):Int→StD→List Int→List StD×Bool
  | _,_,[]=>([],true)
  | h,s,k::r=>match Vo u h s k with
    | none=>([],false)
    | some t=>(t::(C8 u (h+1) t r).1,(C8 u (h+1) t r).2)
theorem B8h {l:List StD} {v:Int} {t:StD} (h:Aws l v=some t):t ∈ l∧t.k=v:=by
  unfold Aws at h
  exact ⟨List.mem_of_find?_eq_some h,by simpa using List.find?_some h⟩
theorem B33 {u:UnitD} {h kind:Int} {s t:StD} (h1:Bfx u h kind=true) (h2:Aws (Fx u s) kind=some t):Vo u h s kind=some t:=by unfold Vo;rw [h1,h2];rfl
theorem A2i {u:UnitD} {h kind:Int} {s t:StD} (hs:Cx u=true) (hst:Vk u s) (e:Vo u h s kind=some t):Vk u t∧t.k=kind∧t ∈ Fx u s∧Bfx u h kind=true:=by
  unfold Vo at e
  cases hb:Bfx u h kind with
  | false=>rw [hb] at e;cases e
  | true =>
    rw [hb] at e
    have:=B8h (l:=Fx u s) e
    exact ⟨Bfu hs hst t this.1,this.2,this.1,rfl⟩
theorem Ca3 {N:Nat} {s:StD} {v:Int} {o:Bool} {K:Bool→Option R}:Jz N s.av o v K=K (s.k==v):=by
  rw [Ahe];rfl
theorem B34 {N:Nat} {X:Option R} {K:Int→Option R} {L:List StD} {a b:Bool} {v:Int} (hL:L.length≤1000):∀ (m j fuel:Nat),j+m=L.length→m<fuel→(Aws (L.drop j) v=none→K (-1)=X)→(∀ i (h:i<L.length),Aws (L.drop j) v=some L[i]→K (i:Int)=X) →
    At N K (L.flatMap StD.av) L.length a b v fuel (L.length:Int) (j:Int)=X
  | 0,j,fuel+1,hj,_,h1,_=>by
    rw [At];unfold Bb
    rw [ltF (by omega),cf]
    exact h1 (by rw [Km (by omega)];rfl)
  | m+1,j,fuel+1,hj,hf,h1,h2=>by
    rw [At];unfold Bb
    have h:j<L.length:=by omega
    rw [ltT h,ct,Ac h,ct,B67 h,Au9,ct,Ava,Apv,ct,Ca3]
    rw [Dw h] at h1 h2
    unfold Aws at h1 h2
    simp only [List.find?_cons] at h1 h2
    cases hb:(L[j].k==v) with
    | true=>rw [hb] at h2;rw [ct];exact h2 j h rfl
    | false =>
      rw [hb] at h1 h2
      rw [cf,wS (by omega)]
      exact B34 hL m (j+1) fuel (by omega) (by omega) h1 h2
theorem Cb8 {N:Nat} {X:Option R} {K:Int→Option R} {L:List StD} {a b:Bool} {v:Int} (hL:L.length≤10) (hN:64≤N) (h1:Aws L v=none→K (-1)=X) (h2:∀ i (h:i<L.length),Aws L v=some L[i]→K (i:Int)=X) :
    Am N (L.flatMap StD.av) L.length a b v K=X:=by
  rw [Bc];unfold Cj Ci
  exact B34 (by omega) L.length 0 N (by omega) (by omega) h1 h2
theorem Bj2 {N:Nat} {X:Option R} {K:LA→Option R} {l:List Int} {a:Bool} (hl:l.length≤1000000):∀ (m j fuel:Nat) (d:List Int),j+m=l.length→m<fuel→(∀ e:List Int,(∀ x,x ∈ e↔x ∈ d∨x ∈ l.drop j)→K (Hy e)=X) →
    W7 N K (Hy l) l.length a fuel (l.length:Int) (j:Int) (Hy d)=X
  | 0,j,fuel+1,d,hj,_,h1=>by
    rw [W7];unfold Akn
    rw [ltF (by omega),cf]
    exact h1 d (by intro x;rw [Km (by omega)];simp)
  | m+1,j,fuel+1,d,hj,hf,h1=>by
    rw [W7];unfold Akn
    have h:j<l.length:=by omega
    rw [ltT h,ct,Ac h,ct,Ew h,wS (by omega)]
    rw [Dw h] at h1
    unfold B4i
    cases hb:Bbx (Hy d) l[j] with
    | true =>
      have hm:l[j] ∈ d:=(Aoa d _).1 hb
      refine Bj2 hl m (j+1) fuel d (by omega) (by omega) fun e he=>h1 e fun x=>?_
      rw [he x,List.mem_cons]
      constructor
      · rintro (h | h)
        · exact .inl h
        · exact .inr (.inr h)
      · rintro (h | h | h)
        · exact .inl h
        · exact .inl (h▸hm)
        · exact .inr h
    | false =>
      rw [show cond false (Hy d) (Hy d++[.int .i64 l[j]])=Hy (d++[l[j]]) by simp [Hy]]
      refine Bj2 hl m (j+1) fuel (d++[l[j]]) (by omega) (by omega) fun e he=>h1 e fun x=>?_
      rw [he x,List.mem_cons,List.mem_append,List.mem_singleton,or_assoc]
theorem Ca4 {N:Nat} {X:Option R} {K:LA→Option R} {u:UnitD} {a:Bool} (hl:u.away.l.length≤1000) (hN:1100≤N) (h:∀ e:List Int,(∀ x,x ∈ e↔x ∈ u.away.l)→K (Hy e)=X):A4a N u.av a K=X:=by
  rw [Az7];unfold Bs5 Bs4
  rw [u18]
  exact Bj2 (by omega) u.away.l.length 0 N [] (by omega) (by omega) fun e he=>h e fun x=>by rw [he x];simp
theorem Cb9 (e:List Int) (n:Int):Bbx (Hy e) n=decide (n ∈ e):=by
  rw [Bool.eq_iff_iff,decide_eq_true_eq];exact Aoa e n
theorem Buz (s t:StD):((Nat.beq (List.length s.av) 2)&&((Nat.ble 2 (List.length t.av))&&(!false)))=true:=rfl
theorem Cbj (s:StD):((Nat.beq (List.length s.av) 2)&&(Nat.ble 2 2))=true:=rfl
theorem Bm8 (s:StD):((Nat.beq (List.length s.av) 2)&&((Nat.ble 2 2)&&(!false)))=true:=rfl
theorem B1m {N:Nat} {X:Option R} {K:Nat→Int→Int→LA→Option R} {u:UnitD} {ks:List Int} {i j o:Bool} {e:List Int} (hN:1100≤N) (hs:Cx u=true) (hk:ks.length≤1000) (he:∀ x,x ∈ e↔x ∈ u.away.l):∀ (m h fuel:Nat) (s:StD) (l:List StD),h+m=ks.length→m<fuel→l.length=h→Vk u s →
    ((C8 u h s (ks.drop h)).2=true→K ks.length ks.length 0 ((l++(C8 u h s (ks.drop h)).1).flatMap StD.av)=X)→((C8 u h s (ks.drop h)).2=false→K 0 ((l++(C8 u h s (ks.drop h)).1).length:Nat) 16 []=X) →
    Q7 N K (Hy ks) ks.length i j o u.av (Hy e) fuel l.length (ks.length:Int) (h:Int) (l.flatMap StD.av) s.av=X:=by
  intro m
  induction m with
  | zero =>
    intro h fuel s l hh hf hl hst h1 _
    obtain ⟨fuel,rfl⟩:∃ k,fuel=k+1:=⟨fuel - 1,by omega⟩
    rw [Q7];unfold Aku
    rw [ltF (by omega),cf,show l.length=ks.length by omega]
    rw [Km (by omega)] at h1
    simpa [C8] using h1 rfl
  | succ m ih =>
    intro h fuel s l hh hf hl hst h1 h2
    obtain ⟨fuel,rfl⟩:∃ k,fuel=k+1:=⟨fuel - 1,by omega⟩
    rw [Q7];unfold Aku
    have hlt:h<ks.length:=by omega
    rw [ltT hlt,ct,Ac hlt,ct,Ew hlt,Cz,ct,st2,ct,Bt,stt,Bfw (by omega) hs hst,Cb9]
    rw [Dw hlt,C8] at h1 h2
    have hd:decide ((h:Int) ∈ e)=decide ((h:Int) ∈ u.away.l):=by rw [decide_eq_decide];exact he _
    rw [hd]
    refine Cb8 (Nat.le_trans A4t (by omega)) (by omega) (fun hnone=>?_) (fun p hp hsome=>?_)
    · rw [show (decide ((-1:Int)<0)==false)=false from rfl,cf]
      have hstep:Vo u h s ks[h]=none:=by unfold Vo;rw [hnone];cases Bfx u h ks[h]<;>rfl
      rw [hstep] at h2
      simpa [hl] using h2 rfl
    · rw [show (decide ((p:Int)<0)==false)=true by simp,ct]
      have go:Vo u h s ks[h]=some (Fx u s)[p]→(cond (Aj (p:Int) (Fx u s).length) (cond (Nat.ble 2 (List.length (List.drop ((Int.toNat (p:Int))*2) ((Fx u s).flatMap StD.av)))) (cond ((Nat.beq (List.length (List.take 2 (List.drop ((Int.toNat (p:Int))*2) ((Fx u s).flatMap StD.av)))) 2)&&((Nat.ble 2 (List.length s.av))&&(!false))) (cond (Nat.ble 2 (List.length (setCells s.av 0 (List.take 2 (List.drop ((Int.toNat (p:Int))*2) ((Fx u s).flatMap StD.av)))))) (cond ((Nat.beq (List.length (List.take 2 (setCells s.av 0 (List.take 2 (List.drop ((Int.toNat (p:Int))*2) ((Fx u s).flatMap StD.av)))))) 2)&&(Nat.ble 2 2)) (cond ((Nat.ble (l.length+1) 140737488355328)&&(Nat.ble ((l.length+1)*16) 140737488355328)) (Q7 N K (Hy ks) ks.length i j o u.av (Hy e) fuel (l.length+1) (ks.length:Int) (IntKind.wrap .i64 ((h:Int)+(1:Int))) ((List.take (l.length*2) (l.flatMap StD.av))++(List.take 2 (setCells [(.int .i64 0),(.int .i64 0)] 0 (List.take 2 (setCells s.av 0 (List.take 2 (List.drop ((Int.toNat (p:Int))*2) ((Fx u s).flatMap StD.av)))))))) (setCells s.av 0 (List.take 2 (List.drop ((Int.toNat (p:Int))*2) ((Fx u s).flatMap StD.av))))) none) none) none) none) none) none)=X:=by
        intro hstep
        rw [Ac hp,ct,B67 hp,Au9,ct,Ava,Buz,ct,Bfv,st2,ct,stt,Cbj,ct,B86 (by omega),ct,st0,stt,A2h,wS (by omega)]
        rw [hstep] at h1 h2
        have:=ih (h+1) fuel (Fx u s)[p] (l++[(Fx u s)[p]]) (by omega) (by omega) (by simp;omega) (A2i hs hst hstep).1
          (fun hw=>by have:=h1 hw;simpa using this) (fun hw=>by have:=h2 hw;simpa using this)
        simpa using this
      by_cases h0:ks[h]=0
      · rw [show ((ks[h] != 0)==true)=false by simp [h0],cf]
        exact go (B33 (by unfold Bfx;simp [h0]) hsome)
      · rw [show ((ks[h] != 0)==true)=true by simp [h0],ct]
        cases ha:decide ((h:Int) ∈ u.away.l) with
        | true =>
          have hstep:Vo u h s ks[h]=none:=by unfold Vo Bfx;rw [ha,show (ks[h]==0)=false by simpa using h0];rfl
          rw [hstep] at h2
          simpa [hl] using h2 rfl
        | false =>
          rw [show (cond false true (cond true false false))=false from rfl,cf]
          exact go (B33 (by unfold Bfx;rw [ha];simp) hsome)
theorem Bu0 {N:Nat} {X:Option R} {K:Nat→Int→Int→LA→Option R} {u:UnitD} {ks:List Int} {n:Nat} {i j o:Bool} (hN:1100≤N) (hs:Cx u=true) (hl:u.away.l.length≤1000) (hk:ks.length≤1000) (hn:n=ks.length)
    (h1:(C8 u 0 (Ca u) ks).2=true→K ks.length ks.length 0 ((C8 u 0 (Ca u) ks).1.flatMap StD.av)=X) (h2:(C8 u 0 (Ca u) ks).2=false→K 0 ((C8 u 0 (Ca u) ks).1.length:Nat) 16 []=X) :
    Akv N u.av o (Hy ks) n i j K=X:=by
  subst hn
  rw [A0i];unfold Bec Beb
  rw [Cz,ct,Bt,K7 (by omega),hs,show (!true)=false from rfl,cf,ct]
  refine Ca4 hl hN fun e he=>?_
  rw [show ((decide ((0:Int)≤(0:Int)))&&((decide ((0:Int)≤((ks.length:Nat):Int)))&&((decide (((ks.length:Nat):Int)≤(140737488355328:Int)))&&(decide ((((ks.length:Nat):Int)*((16:Nat):Int))≤(140737488355328:Int))))))=true by simp;omega,ct,ct,Awr (by omega) hs,Bm8,ct,st0]
  exact B1m hN hs hk he ks.length 0 N (Ca u) [] (by omega) (by omega) rfl (Sb hs) (by simpa using h1) (by simpa using h2)
end
end Gx

namespace Gx
open Go Go.Proofs
section
variable {R:Type}
def B95 (x:RatD):Bool:=decide (x.ns.l.length≤4)&&decide (x.ds.l.length≤4)
def B35 (l:List RatD):Bool:=decide (l.length≤30)&&l.all B95
theorem Li {l:List RatD} {j:Nat} (h:j<l.length):List.drop ((Int.toNat (j:Int))*3) (l.flatMap RatD.av)=l[j].av++(l.drop (j+1)).flatMap RatD.av:=by
  rw [Int.toNat_natCast,A4i (e:=RatD.av) (sz:=3) (fun _=>rfl) _ _ h]
theorem Ccj {x:RatD} {r:List AV} {f:List AV→Nat→Option R}:rdL 1 (List.drop 1 (x.av++r)) f=f (Ae x.ns.l) x.ns.l.length:=by
  rw [show List.drop 1 (x.av++r)=x.ns.av::x.ds.av::r from rfl,Bt1]
theorem Cck {x:RatD} {r:List AV} {f:List AV→Nat→Option R}:rdL 1 (List.drop 2 (x.av++r)) f=f (Ae x.ds.l) x.ds.l.length:=by
  rw [show List.drop 2 (x.av++r)=x.ds.av::r from rfl,Bt1]
theorem B36 {N:Nat} {l:List RatD} {d e:Bool} {K:Bool→Option R} (hl:l.length≤1000):∀ (m j fuel:Nat),j+m=l.length→m<fuel →
    Aez N K (l.flatMap RatD.av) l.length d e fuel (j:Int)=K ((l.drop j).all B95)
  | 0,j,fuel+1,hj,_=>by
    rw [Aez];unfold Aua
    rw [ltF (by omega),cf,Km (by omega),List.all_nil]
  | m+1,j,fuel+1,hj,hf=>by
    rw [Aez];unfold Aua
    have h:j<l.length:=by omega
    rw [ltT h,ct,Ac h,ct,Li h,Ccj,ct,Cck,wS (by omega),B36 hl m (j+1) fuel (by omega) (by omega),Dw h,List.all_cons]
    generalize (List.drop (j+1) l).all B95=t
    unfold B95
    by_cases h1:l[j].ns.l.length≤4
    · rw [show (decide ((l[j].ns.l.length:Int)>4)==false)=true by simp;omega,ct,decide_eq_true h1]
      by_cases h2:l[j].ds.l.length≤4
      · rw [show decide ((l[j].ds.l.length:Int)>4)=false by simp;omega,cfB,cf,decide_eq_true h2];cases t<;>rfl
      · rw [show decide ((l[j].ds.l.length:Int)>4)=true by simp;omega,decide_eq_false h2];cases t<;>rfl
    · rw [show (decide ((l[j].ns.l.length:Int)>4)==false)=false by simp;omega,cf,decide_eq_false h1];rfl
theorem Bfy {N:Nat} {l:List RatD} {n:Nat} {d e:Bool} {K:Bool→Option R} (hn:n=l.length) (hN:1000≤N):A04 N (l.flatMap RatD.av) n d e K=K (B35 l):=by
  subst hn
  rw [Bt8];unfold B05 B04 B35
  by_cases h:l.length≤30
  · rw [show decide ((l.length:Int)>30)=false by simp;omega,cf,decide_eq_true h,Bool.true_and]
    have:=B36 (N:=N) (l:=l) (d:=d) (e:=e) (K:=K) (by omega) l.length 0 N (by omega) (by omega)
    rw [List.drop_zero] at this;exact this
  · rw [show decide ((l.length:Int)>30)=true by simp;omega,ct,decide_eq_false h];rfl
end
end Gx

namespace Gx
open Go Go.Proofs
section
variable {R:Type}
theorem B37 {N:Nat} {K:Bool→Option R} {l:List Int} {d e:Bool} {c:Int} (hl:l.length≤1000000000000):∀ (m j fuel:Nat),j+m=l.length→m<fuel→Aet N K (Hy l) l.length d e c fuel (j:Int)=K (decide (c ∈ l.drop j))
  | 0,j,fuel+1,hj,_=>by
    rw [Aet];unfold Asw
    rw [ltF (by omega),cf,Km (by omega)];rfl
  | m+1,j,fuel+1,hj,hf=>by
    rw [Aet];unfold Asw
    have h:j<l.length:=by omega
    rw [ltT h,ct,Ac h,ct,Ew h,wS (by omega),B37 hl m (j+1) fuel (by omega) (by omega),Dw h]
    by_cases e:l[j]=c
    · rw [show (l[j]==c)=true by simpa using e,ct];congr 1;simp [e]
    · rw [show (l[j]==c)=false by simpa using e,cf];congr 1;rw [decide_eq_decide,List.mem_cons]
      constructor
      · exact .inr
      · rintro (h | h)
        · exact absurd h.symm e
        · exact h
theorem Ca5 {N:Nat} {K:Bool→Option R} {l:List Int} {n:Nat} {d e:Bool} {c:Int} (hn:n=l.length) (hl:l.length≤1000) (hN:1100≤N):Bii N (Hy l) n d e c K=K (decide (c ∈ l)):=by
  subst hn
  rw [Bsx];unfold B0t B0s
  exact B37 (by omega) l.length 0 N (by omega) (by omega)
theorem B1n {N:Nat} {K:Bool→Option R} {u:UnitD} {o:Bool} {h k:Int} (hl:u.away.l.length≤1000) (hN:1100≤N) (hk:k=0∨k=1∨k=2):Aag N u.av o h k K=K (Bfx u h k):=by
  rw [Awl];unfold Aup Auo
  simp only [u18,Ca5 rfl hl hN]
  unfold Bfx
  rcases hk with rfl | rfl | rfl
  · rfl
  · rw [show (((1:Int)==0)==false)=true from rfl,ct,show (((1:Int)==1)==false)=false from rfl,cf];rfl
  · rfl
theorem Ca6 {u:UnitD} {s:StD} {t:StD} (hs:Cx u=true) (hst:Vk u s) (h:t ∈ Fx u s):t.k=0∨t.k=1∨t.k=2:=(Buy hs (Bfu hs hst t h)).2.2
theorem Bj3 {N:Nat} {X:Option R} {K:LA→Bool→Option R} {u:UnitD} {L:List StD} {o:Bool} {h k:Int} (hl:u.away.l.length≤1000) (hN:1100≤N) (hL:L.length≤1000) (hk:∀ t ∈ L,t.k=0∨t.k=1∨t.k=2):∀ (m j fuel:Nat),j+m=L.length→m<fuel →
    (cond (Bfx u h k) (Aws (L.drop j) k) none=none→K [(.int .i64 0),(.int .i64 0)] false=X)→(∀ t,cond (Bfx u h k) (Aws (L.drop j) k) none=some t→K t.av true=X) →
    Ry N K h k L.length o u.av (L.flatMap StD.av) fuel (j:Int)=X
  | 0,j,fuel+1,hj,_,h1,_=>by
    rw [Ry];unfold Ads
    rw [ltF (by omega),cf]
    exact h1 (by rw [Km (by omega)];cases Bfx u h k<;>rfl)
  | m+1,j,fuel+1,hj,hf,h1,h2=>by
    rw [Ry];unfold Ads
    have hj':j<L.length:=by omega
    rw [ltT hj',ct,Ac hj',ct,Bj1 hj',Cb7,Au9,Ava,Bm8,st0,st2,stt,wS (by omega)]
    rw [Dw hj'] at h1 h2
    unfold Aws at h1 h2
    simp only [List.find?_cons] at h1 h2
    cases hb:(L[j].k==k) with
    | true =>
      rw [hb] at h1 h2
      have hkk:k=0∨k=1∨k=2:=by
        have:=hk L[j] (List.getElem_mem hj')
        rwa [show L[j].k=k by simpa using hb] at this
      rw [show (true==true)=true from rfl,ct,Cz,ct,Bt,B1n hl hN hkk]
      cases ho:Bfx u h k with
      | true=>rw [ho] at h2;exact h2 _ rfl
      | false =>
        rw [ho] at h1
        rw [show (cond true false false)=false from rfl,cf]
        exact Bj3 hl hN hL hk m (j+1) fuel (by omega) (by omega) (fun _=>h1 rfl) (fun t ht=>by rw [ho] at ht;cases ht)
    | false =>
      rw [hb] at h1 h2
      rw [show (false==true)=false from rfl,cf]
      exact Bj3 hl hN hL hk m (j+1) fuel (by omega) (by omega) h1 h2
theorem B69 {N:Nat} {X:Option R} {K:LA→Bool→Option R} {u:UnitD} {s:StD} {o d:Bool} {h k:Int} (hs:Cx u=true) (hst:Vk u s) (hl:u.away.l.length≤1000) (hN:1100≤N)
    (h1:Vo u h s k=none→K [(.int .i64 0),(.int .i64 0)] false=X) (h2:∀ t,Vo u h s k=some t→K t.av true=X):Apn N u.av o h s.av d k K=X:=by
  rw [Bfh];unfold Bjs Bjr
  rw [Cz,ct,st2,ct,stt,Apv,ct,Bt,A7l hN hs hst]
  have:=A4t (u:=u) (s:=s)
  exact Bj3 hl hN (by omega) (fun t ht=>Ca6 hs hst ht) (Fx u s).length 0 N (by omega) (by omega) h1 h2
theorem Cbk:((Nat.beq (List.length [(AV.int .i64 0),(.int .i64 0)]) 2)&&((Nat.ble 2 2)&&(!false)))=true:=rfl
theorem Bwp {N:Nat} {X:Option R} {K:Nat→Int→Int→LA→Option R} {u:UnitD} {ks:List Int} {i j o:Bool} (hN:1100≤N) (hs:Cx u=true) (hk:ks.length≤1000) (hl:u.away.l.length≤1000):∀ (m h fuel:Nat) (s:StD) (l:List StD),h+m=ks.length→m<fuel→l.length=h→Vk u s →
    ((C8 u h s (ks.drop h)).2=true→K ks.length ks.length 0 ((l++(C8 u h s (ks.drop h)).1).flatMap StD.av)=X)→((C8 u h s (ks.drop h)).2=false→K 0 ((l++(C8 u h s (ks.drop h)).1).length:Nat) 16 []=X) →
    R4 N K (Hy ks) ks.length i j o u.av fuel l.length (h:Int) (l.flatMap StD.av) s.av=X:=by
  intro m
  induction m with
  | zero =>
    intro h fuel s l hh hf hll hst h1 _
    obtain ⟨fuel,rfl⟩:∃ k,fuel=k+1:=⟨fuel - 1,by omega⟩
    rw [R4];unfold Ad0
    rw [ltF (by omega),cf,show l.length=ks.length by omega]
    rw [Km (by omega)] at h1
    simpa [C8] using h1 rfl
  | succ m ih =>
    intro h fuel s l hh hf hll hst h1 h2
    obtain ⟨fuel,rfl⟩:∃ k,fuel=k+1:=⟨fuel - 1,by omega⟩
    rw [R4];unfold Ad0
    have hlt:h<ks.length:=by omega
    rw [ltT hlt,ct,Cz,ct,st2,ct,Ac hlt,ct,Ew hlt,Bt,stt]
    rw [Dw hlt,C8] at h1 h2
    refine B69 hs hst hl hN (fun hn=>?_) (fun t ht=>?_)
    · rw [hn] at h2
      rw [Cbk,ct]
      simpa [hll] using h2 rfl
    · rw [ht] at h1 h2
      rw [Bm8,ct,show (!true)=false from rfl,cf,st0,st2,ct,stt,Cbj,ct,B86 (by omega),ct,ct,show ∀ t:StD,((Nat.beq (List.length t.av) 2)&&(true&&(!false)))=true from fun _=>rfl,ct,st0,stt,Bfv,A2h,wS (by omega)]
      have:=ih (h+1) fuel t (l++[t]) (by omega) (by omega) (by simp;omega) (A2i hs hst ht).1
        (fun hw=>by have:=h1 hw;simpa using this) (fun hw=>by have:=h2 hw;simpa using this)
      simpa using this
theorem B38 {N:Nat} {X:Option R} {K:Nat→Int→Int→LA→Option R} {u:UnitD} {ks:List Int} {n:Nat} {i j o:Bool} (hN:1100≤N) (hs:Cx u=true) (hl:u.away.l.length≤1000) (hk:ks.length≤1000) (hn:n=ks.length)
    (h1:(C8 u 0 (Ca u) ks).2=true→K ks.length ks.length 0 ((C8 u 0 (Ca u) ks).1.flatMap StD.av)=X) (h2:(C8 u 0 (Ca u) ks).2=false→K 0 ((C8 u 0 (Ca u) ks).1.length:Nat) 16 []=X) :
    A15 N u.av o (Hy ks) n i j K=X:=by
  subst hn
  rw [Bfm];unfold Bjv Bju
  rw [Cz,ct,Bt,Mt,hs,show (!true)=false from rfl,cf,ct,Xo hs,Bm8,ct,st0]
  exact Bwp hN hs hk hl ks.length 0 N (Ca u) [] (by omega) (by omega) rfl (Sb hs) (by simpa using h1) (by simpa using h2)
def Ou (u:UnitD) (s t:StD):Int:=cond (s.k==0&&!(t.k==0)) (cond (decide (s.h≤u.hotHours)) u.hotCost u.coldCost) 0
theorem B96 {N:Nat} {s t:StD} {d b:Bool} {K:Bool→Option R}:Kp N s.av d b t.av K=K ((s.k==t.k)&&((s.h==t.h)&&true)):=by
  rw [Abx];unfold Xj Xi
  simp only [st2,stt,Apv,B1k,ct,A2g,Aii]
theorem Ccl {s t:StD} (e:¬ s=t):((s.k==t.k)&&((s.h==t.h)&&true))=false:=by
  cases hb:((s.k==t.k)&&((s.h==t.h)&&true)) with
  | false=>rfl
  | true=>exact absurd ((By2 _ _).1 hb) e
theorem By6 {N:Nat} {X:Option R} {K:Int→Option R} {L:List StD} {a b c:Bool} {t:StD} (hL:L.length≤1000) (hX:∀ i:Nat,K (i:Int)=X):∀ (m j fuel:Nat),j+m=L.length→m<fuel→t ∈ L.drop j →
    Az N K (L.flatMap StD.av) L.length a b c t.av fuel (L.length:Int) (j:Int)=X
  | 0,j,fuel+1,hj,_,h1=>by rw [Km (by omega)] at h1;simp at h1
  | m+1,j,fuel+1,hj,hf,h1=>by
    rw [Az];unfold Bu
    have h:j<L.length:=by omega
    rw [ltT h,ct,Ac h,ct,B67 h,Au9,ct,Ava,Apv,ct,B96]
    by_cases e:L[j]=t
    · rw [(By2 _ _).2 e,ct];exact hX j
    · rw [Ccl e,cf,wS (by omega)]
      rw [Dw h] at h1
      exact By6 hL hX m (j+1) fuel (by omega) (by omega) (by
        rcases List.mem_cons.1 h1 with h1 | h1
        · exact absurd h1.symm e
        · exact h1)
theorem Bu1 {N:Nat} {K:Int→Option R} {u:UnitD} {s t:StD} {o d f:Bool} (hN:1100≤N) (hs:Cx u=true) (hst:Vk u s) (ht:t ∈ Fx u s):Ve N u.av o s.av d t.av f K=K (Ou u s t):=by
  rw [Apo];unfold Ans Anr
  rw [A2g,A2g]
  unfold Ou
  by_cases h0:s.k=0
  · rw [show ((s.k != 0)==false)=true by simp [h0],ct,show (s.k==0)=true by simpa using h0]
    by_cases h1:t.k=0
    · rw [show (t.k==0)=true by simpa using h1];rfl
    · rw [show (t.k==0)=false by simpa using h1,show ((cond false true false)==false)=true from rfl,ct,Cz,ct,st2,ct,stt,Apv,ct,Bt,Bfw (by omega) hs hst]
      rw [C1];unfold B9 B8
      rw [C0];unfold B7 B6
      have:=A4t (u:=u) (s:=s)
      refine By6 (by omega) (fun i=>?_) (Fx u s).length 0 N (by omega) (by omega) ht
      rw [show decide ((i:Int)≥0)=true by simp]
      dsimp only
      rw [show (cond false true (!true))=false from rfl,cf,Aii,u15,u13,u14]
      cases decide (s.h≤u.hotHours)<;>rfl
  · rw [show ((s.k != 0)==false)=false by simp [h0],cf,show (s.k==0)=false by simpa using h0];rfl
theorem B39 {N:Nat} {K:Bool→Option R} {L:List StD} {t:StD} {c:Bool} (hL:L.length≤10000):∀ (m j fuel:Nat),j+m=L.length→m<fuel→t ∈ L.drop j→M7 N K L.length c t.av (L.flatMap StD.av) fuel (j:Int)=K true
  | 0,j,fuel+1,hj,_,hm=>by rw [Km (by omega)] at hm;simp at hm
  | m+1,j,fuel+1,hj,hf,hm=>by
    have h:j<L.length:=by omega
    rw [M7];unfold Abg
    simp only [ltT h,ct,Ac h,Bj1 h,Au9,Ava,st2,stt,Apv,B1k,A2g,Aii]
    by_cases e:L[j]=t
    · rw [(By2 _ _).2 e,ct]
    · have : ((L[j].k == t.k) && ((L[j].h == t.h) && true)) = false := by
        cases hb:((L[j].k==t.k)&&((L[j].h==t.h)&&true)) with
        | false=>rfl
        | true=>exact absurd ((By2 _ _).1 hb) e
      rw [this,cf,wS (by omega)]
      rw [Dw h] at hm
      exact B39 hL m (j+1) fuel (by omega) (by omega) (by
        rcases List.mem_cons.1 hm with h1 | h1
        · exact absurd h1.symm e
        · exact h1)
theorem Bn5 {N:Nat} {K:Int→Option R} {u:UnitD} {s t:StD} {o d f:Bool} (hN:1100≤N) (hs:Cx u=true) (hst:Vk u s) (ht:t ∈ Fx u s):Pg N u.av o s.av d t.av f K=K (Ou u s t):=by
  rw [Alj];unfold Aic Aib
  rw [Cz,ct,st2,ct,stt,Apv,ct,st2,ct,stt,Apv,ct,Bt,Awo];unfold Au2 Au1
  rw [Cz,ct,st2,ct,stt,Apv,ct,Bt,A7l hN hs hst]
  have:=A4t (u:=u) (s:=s)
  have e:=B39 (N:=N) (c:=false) (K:=fun i=>(cond ((!i)==false) (rdI .i64 s.av fun j=>(cond ((cond false true (j != (0:Int)))==false) (rdI .i64 t.av fun l=>(cond (cond false true (l==(0:Int))) (K 0) (rdI .i64 (List.drop 1 s.av) fun m=>(rdI .i64 (List.drop 15 u.av) fun n=>(cond (decide (m≤n)) (rdI .i64 (List.drop 13 u.av) fun o=>(K o)) (rdI .i64 (List.drop 14 u.av) fun p=>(K p))))))) (K 0))) (K 0))) (L:=Fx u s) (t:=t) (by omega) (Fx u s).length 0 N (by omega) (by omega) ht
  refine Eq.trans e ?_
  simp only [A2g,Aii,u13,u14,u15]
  unfold Ou
  by_cases h0:s.k=0
  · rw [show (s.k != 0)=false by simp [h0],show (s.k==0)=true by simpa using h0]
    cases (t.k==0)<;>cases decide (s.h≤u.hotHours)<;>rfl
  · rw [show (s.k != 0)=true by simp [h0],show (s.k==0)=false by simpa using h0];rfl
end
end Gx

namespace Gx
open Go Go.Proofs
section
variable {R:Type}
structure PlanD where
  st:Sl Int
  en:Sl RatD
  re:Sl RatD
def PlanD.av (p:PlanD):List AV:=[p.st.av 1 B84,p.en.av 3 RatD.av,p.re.av 3 RatD.av]
theorem p0 {p:PlanD} {f:List AV→Nat→Option R}:rdL 1 p.av f=f (Hy p.st.l) p.st.l.length:=by rw [← Xc];exact Btr
theorem p1 {p:PlanD} {f:List AV→Nat→Option R}:rdL 3 (List.drop 1 p.av) f=f (p.en.l.flatMap RatD.av) p.en.l.length:=Btr
theorem p2 {p:PlanD} {f:List AV→Nat→Option R}:rdL 3 (List.drop 2 p.av) f=f (p.re.l.flatMap RatD.av) p.re.l.length:=Btr
theorem pl3 (p:PlanD):Nat.ble 3 (List.length p.av)=true:=rfl
theorem plt (p:PlanD):List.take 3 p.av=p.av:=rfl
theorem Bfz (x:RatD) (r:List AV):Nat.ble 3 (List.length (x.av++r))=true:=rfl
theorem Avb (x:RatD) (r:List AV):List.take 3 (x.av++r)=x.av:=rfl
def okR (l:List RatD):Prop:=∀ x ∈ l,x.is x.q 4
theorem okR.at {l:List RatD} (h:okR l) {i:Nat} (hi:i<l.length):(l[i]).is (l[i]).q 4:=h _ (List.getElem_mem hi)
def uR (u:UnitD):Prop:=(0≤u.min∧u.min≤1048576)∧(0≤u.max∧u.max≤1048576)∧(0≤u.rampUp∧u.rampUp≤1048576)∧(0≤u.rampDown∧u.rampDown≤1048576)∧(0≤u.reserve∧u.reserve≤1048576)∧(0≤u.startRamp∧u.startRamp≤1048576)∧(0≤u.stopRamp∧u.stopRamp≤1048576)∧(0≤u.noLoad∧u.noLoad≤1048576)∧(0≤u.hotCost∧u.hotCost≤1048576)∧(0≤u.coldCost∧u.coldCost≤1048576)∧(0≤u.reservePrice∧u.reservePrice≤1048576)∧(0≤u.output∧u.output≤1048576)
theorem Zo {u:UnitD} {h:Int} (hv:Ei u h=true):Cx u=true∧uR u∧(1≤h∧h≤24):=by
  simp only [Ei,Bool.and_eq_true,inR,decide_eq_true_eq] at hv
  obtain ⟨h1,h2,h3,h4,h5,h6,h7,h8,h9,h10,h11,h12,h13,h14,h15,h16⟩:=hv
  refine ⟨h2,?_,by omega⟩
  have ho:0≤u.output∧u.output≤1048576:=by
    unfold Cai at h15
    cases hb:(u.state==2) with
    | true=>rw [hb] at h15;simp [inR] at h15;omega
    | false=>rw [hb] at h15;simp at h15;omega
  unfold uR;omega
def Anz (u:UnitD) (on:Bool) (e r:Rat):Bool:=cond on (decide ((u.min:Rat)≤e)&&(inQ r 0 u.reserve&&decide (e+r≤(u.max:Rat)))) (decide (e=0)&&decide (r=0))
def Bf0 (u:UnitD) (was on:Bool) (v e r:Rat):Bool:=cond (on&&was) (decide (e+r - v≤(u.rampUp:Rat))&&decide (v - e≤(u.rampDown:Rat))) (cond on (decide (e+r≤(u.startRamp:Rat))) (cond was (decide (v≤(u.stopRamp:Rat))) true))
theorem A4u {q:Rat}:(q.num.sign==0)=decide (q=0):=by
  rw [Bool.eq_iff_iff];simp [Int.sign_eq_zero_iff_zero,Rat.num_eq_zero]
section
variable {N:Nat} {K:Bool→Option R} {x y z:RatD} {e r v:Rat} {m:Nat} {o o' o'':Bool} {u:UnitD} {c:Int}
theorem Ccm (hx:x.is e m) (hf:fit m N) {K:Int→Option R}:Po N x.av o K=K e.num.sign:=by
  rw [J4 hx.1 (hf.le hx.2.2),hx.2.1]
theorem Ccn (hx:x.is e m) (hf:fit (8*m+10) N) {K:Int→Option R}:Z4 N x.av o K=K e.num.sign:=by
  rw [Bmn hx.1 (hf.le (by have:=hx.2.2;omega)),hx.2.1]
theorem Aal (hx:x.is e m) (hc:-9223372036854775808≤c∧c≤9223372036854775807) (hf:fit (4*(m+2)+10) N):Oc N x.av o c K=K (decide (e≤(c:Rat))):=by
  rw [A62];unfold Bbe Bbd
  rw [b3,ct,tk3]
  refine Gt hc (by have:=hf.1;omega) fun a ha=>?_
  rw [B8d hx (ha.is (qi hc)) hf,A1b]
theorem Bop {X:Option R} {K:LA→Option R} {n:Nat} (hx:x.is e m) (hy:y.is r n) (hf:fit (8*(m+n)+40) N) (h:∀ d:RatD,d.can (e+r)→K d.av=X):Mi N x.av o y.av o' K=X:=by
  obtain ⟨d,hd,e'⟩:=Bi9 (R:=R) (N:=N) (o:=o) (o':=o') hx.1 hy.1 (hf.le (by have:=hx.2.2;have:=hy.2.2;omega))
  rw [e'];exact h d (by rw [hx.2.1,hy.2.1] at hd;exact hd)
theorem B1o {X:Option R} {K:LA→Option R} {n:Nat} (hx:x.is e m) (hy:y.is r n) (hf:fit (8*(m+n)+40) N) (h:∀ d:RatD,d.can (e*r)→K d.av=X):Ash N x.av o y.av o' K=X:=by
  obtain ⟨d,hd,e'⟩:=Byt (R:=R) (N:=N) (o:=o) (o':=o') hx.1 hy.1 (hf.le (by have:=hx.2.2;have:=hy.2.2;omega))
  rw [e'];exact h d (by rw [hx.2.1,hy.2.1] at hd;exact hd)
theorem Bn6 {on:Bool} (hx:x.is e 4) (hy:y.is r 4) (hu:uR u) (hf:fit 2000 N):Pe N u.av o'' on x.av o y.av o' K=K (Anz u on e r):=by
  unfold uR at hu
  have hqa:=Fb e r
  have:=hx.qm;have:=hy.qm
  rw [Ak5];unfold Ahu Aht Anz
  simp only [b3,tk3,ct,u2,u3,u16]
  cases on with
  | false =>
    rw [show (!false)=true from rfl,ct,Ccm hx (hf.le (by omega)),Ccm hy (hf.le (by omega)),A4u,A4u]
    cases decide (e=0)<;>rfl
  | true =>
    rw [show (!true)=false from rfl,cf]
    refine Gt (by omega) (by have:=hf.1;omega) fun a ha=>?_
    rw [B8d hx (ha.is (qi (by omega))) (hf.le (by omega)),B07,A1c hy (by omega) (by omega) (hf.le (by omega)) (by have:=hf.1;omega)]
    rw [Bop (X:=K (decide (e+r≤(u.max:Rat)))) hx hy (hf.le (by omega)) fun d hd=>by rw [Aal (hd.is (m:=12) (by omega)) (by omega) (hf.le (by omega))];rfl]
    cases decide ((u.min:Rat)≤e)<;>cases inQ r 0 u.reserve<;>rfl
theorem Bu2 {was on:Bool} (hz:z.is v 4) (hx:x.is e 4) (hy:y.is r 4) (hu:uR u) (hf:fit 2000 N) {f1 f2 f3:Bool}:Ux N u.av o'' was on z.av f1 x.av f2 y.av f3 K=K (Bf0 u was on v e r):=by
  unfold uR at hu
  have hqa:=Fb e r;have hqs:=Xe (e+r) v;have hqt:=Xe v e
  have:=hx.qm;have:=hy.qm;have:=hz.qm
  rw [Apj];unfold Ane And
  rw [b3,ct,b3,ct,tk3,tk3]
  refine Bop hx hy (hf.le (by omega)) fun d hd=>?_
  have hd':d.is (e+r) 12:=hd.is (by omega)
  rw [c3,ct]
  unfold Abb Xh Bf0
  simp only [b3,tk3,ct,u6,u7,u8,u9]
  rw [Aal hd' (by omega) (hf.le (by omega)),Aal hz (by omega) (hf.le (by omega))]
  rw [Bon (X:=cond (decide (e+r - v≤(u.rampUp:Rat))) (K (decide (v - e≤(u.rampDown:Rat)))) (K false)) hd' hz (hf.le (by omega)) fun a ha=>by
    rw [Aal (ha.is (m:=20) (by omega)) (by omega) (hf.le (by omega))]
    rw [Bon (X:=K (decide (v - e≤(u.rampDown:Rat)))) hz hx (hf.le (by omega)) fun b hb=>by rw [Aal (hb.is (m:=20) (by omega)) (by omega) (hf.le (by omega))];rfl]
    cases decide (e+r - v≤(u.rampUp:Rat))<;>rfl]
  cases on<;>cases was<;>(try rfl)
  cases decide (e+r - v≤(u.rampUp:Rat))<;>rfl
end
end
end Gx

namespace Gx
open Go Go.Proofs
section
variable {R:Type}
def chk (u:UnitD):Int→StD→Bool→Rat→List Int→List RatD→List RatD→Int×Int
  | h,s,was,v,k::ks,e::es,r::rs=>match Vo u h s k with
    | none=>(h,16)
    | some t=>cond (Anz u (k==2) e.q r.q) (cond (Bf0 u was (k==2) v e.q r.q) (chk u (h+1) t (k==2) e.q ks es rs) (h,64)) (h,3)
  | h,_,_,_,_,_,_=>(h,0)
section
variable {N n:Nat} {K:Int→Int→Option R} {u:UnitD} {p:PlanD} {f e:Bool}
theorem Bwq {j lf:Int} (hN:1100≤N) (hf:fit 2000 N) (hs:Cx u=true) (hu:uR u) (hk:p.st.l.length=n) (he:p.en.l.length=n) (hr:p.re.l.length=n) (hn:n≤1000) (oe:okR p.en.l) (or:okR p.re.l):∀ (m h fuel:Nat) (s:StD) (was:Bool) (v:Rat) (x:RatD) (g:Bool),h+m=n→m<fuel→Vk u s→x.is v 4 →
    lf=cond (C8 u h s (p.st.l.drop h)).2 0 16→((C8 u h s (p.st.l.drop h)).2=false→j=h+(C8 u h s (p.st.l.drop h)).1.length) →
    Hl N K (n:Int) j lf f u.av e p.av fuel was (h:Int) g x.av=K (chk u h s was v (p.st.l.drop h) (p.en.l.drop h) (p.re.l.drop h)).1 (chk u h s was v (p.st.l.drop h) (p.en.l.drop h) (p.re.l.drop h)).2:=by
  intro m
  induction m with
  | zero =>
    intro h fuel s was v x g hh hfu _ _ _ _
    obtain ⟨fuel,rfl⟩:∃ k,fuel=k+1:=⟨fuel - 1,by omega⟩
    rw [Hl];unfold Adm
    rw [ltF (by omega),cf,Km (l:=p.st.l) (by omega),chk,show n=h by omega]
    · intro k ks e es r rs h1;cases h1
  | succ m ih =>
    intro h fuel s was v x g hh hfu hst hx hlf hj
    obtain ⟨fuel,rfl⟩:∃ k,fuel=k+1:=⟨fuel - 1,by omega⟩
    rw [Hl];unfold Adm
    have h1:h<p.st.l.length:=by omega
    have h2:h<p.en.l.length:=by omega
    have h3:h<p.re.l.length:=by omega
    have e1:=oe.at h2
    have r1:=or.at h3
    rw [Dw h1,Dw h2,Dw h3,chk]
    rw [Dw h1,C8] at hlf hj
    rw [ltT (by omega),ct]
    cases hst':Vo u h s p.st.l[h] with
    | none =>
      rw [hst'] at hlf hj
      have hj':=hj rfl
      simp only [cond_false] at hlf
      subst hlf
      rw [show (((16:Int) != 0)==true)=true from rfl,ct,show (cond true (decide ((h:Int)≥j)) false)=true by rw [ctB];simp at hj';simp;omega,ct]
    | some t =>
      rw [hst'] at hlf hj
      dsimp only at hlf hj ⊢
      have hok:=A2i hs hst hst'
      have hskip:∀ Y:Option R,(cond ((lf != (0:Int))==true) (cond (cond true (decide ((h:Int)≥j)) false) (K (h:Int) 16) Y) Y)=Y:=by
        intro Y
        cases hw:(C8 u ((h:Int)+1) t (p.st.l.drop (h+1))).2 with
        | true=>rw [hw] at hlf;subst hlf;rfl
        | false =>
          have hj':=hj hw
          rw [hw] at hlf;subst hlf
          rw [show (cond true (decide ((h:Int)≥j)) false)=false by rw [ctB];simp at hj';simp;omega];rfl
      rw [hskip]
      unfold Ak6 Aui
      simp only [p0,p1,p2,Ac h1,Ac h2,Ac h3,Ew h1,Li h2,Li h3,Bfz,Avb,Cz,Bt,b3,tk3,ct]
      rw [Bn6 e1 r1 hu hf,Bu2 hx e1 r1 hu hf]
      cases Anz u (p.st.l[h]==2) p.en.l[h].q p.re.l[h].q with
      | false=>rfl
      | true =>
        rw [show (!true)=false from rfl,cf]
        cases Bf0 u was (p.st.l[h]==2) v p.en.l[h].q p.re.l[h].q with
        | false=>rfl
        | true =>
          rw [show (!true)=false from rfl,cf,show ∀ y:RatD,((Nat.beq (List.length y.av) 3)&&(true&&(!false)))=true from fun _=>rfl,ct,A43,wS (by omega)]
          rw [ih (h+1) fuel t (p.st.l[h]==2) p.en.l[h].q p.en.l[h] (g||e) (by omega) (by omega) hok.1 e1 (by simpa using hlf) (by intro hw;have:=hj (by simpa using hw);simp at this ⊢;omega)]
          rfl
theorem B4a {K:Bool→Option R} {h:Nat} (hf:fit 2000 N) (hN:4000≤N) (hu:uR u) (h1:h<p.st.l.length) (h2:h<p.en.l.length) (h3:h<p.re.l.length) (oe:okR p.en.l) (or:okR p.re.l):Ah2 N u.av f p.av e (h:Int) K=K (Anz u (p.st.l[h]==2) p.en.l[h].q p.re.l[h].q):=by
  unfold uR at hu
  have e1:=oe.at h2
  have r1:=or.at h3
  have hqa:=Fb p.en.l[h].q p.re.l[h].q
  have:=e1.qm;have:=r1.qm
  rw [A1y];unfold A1x A1w
  simp only [p0,p1,p2,Ac h1,Ac h2,Ac h3,Ew h1,Li h2,Li h3,Bfz,Avb,b3,tk3,c3,ct,u2,u3,u16]
  unfold Anz
  by_cases hk:p.st.l[h]=2
  · rw [show (p.st.l[h] != 2)=false by simp [hk],cf,show (p.st.l[h]==2)=true by simpa using hk]
    rw [Rw (by omega) hN,Bjc e1 (qiI (by omega)) (hf.le (by omega)),B07,B3v r1 (by omega) (by omega) (hf.le (by omega)) hN,B3u e1 r1 (hf.le (by omega)),Rw (by omega) hN,Bjc (Hx (m:=12) (by omega)) (qiI (by omega)) (hf.le (by omega)),A1b]
    cases decide ((u.min:Rat)≤p.en.l[h].q)<;>cases inQ p.re.l[h].q 0 u.reserve<;>rfl
  · rw [show (p.st.l[h] != 2)=true by simp [hk],ct,show (p.st.l[h]==2)=false by simpa using hk]
    rw [Ccn e1 (hf.le (by omega)),Ccn r1 (hf.le (by omega)),A4u,A4u]
    cases decide (p.en.l[h].q=0)<;>rfl
def Bf1 (u:UnitD) (ks:List Int):Nat→Bool
  | 0=>u.state==2
  | h+1=>(ks[h]?.getD 0)==2
def Avc (u:UnitD) (es:List RatD):Nat→Rat
  | 0=>(u.output:Rat)
  | h+1=>((es[h]?).map RatD.q).getD 0
theorem B8i {X:Option R} {K:Bool→LA→Bool→Option R} {h:Nat} (hN:4000≤N) (hu:uR u) (h1:h<p.st.l.length) (h2:h<p.en.l.length) (hn:h≤1000) (oe:okR p.en.l)
    (hX:∀ (x:RatD) (g:Bool),x.is (Avc u p.en.l h) 4→K (Bf1 u p.st.l h) x.av g=X):Ah3 N u.av f p.av e (h:Int) K=X:=by
  unfold uR at hu
  rw [A11];unfold A10 A1z
  rcases h with _ | h
  · rw [show (((0:Nat):Int)==0)=true from rfl,ct,u19,u21,Rw (by omega) hN,c3,ct,b3,ct,tk3]
    exact hX _ _ (Hx (by have:=qi (v:=u.output) (by omega);show qm (u.output:Rat)≤4;omega))
  · have h1':h<p.st.l.length:=by omega
    have h2':h<p.en.l.length:=by omega
    rw [show (((h+1:Nat):Int)==0)=false by simp;omega,cf,p0,wP (by omega),Ac h1',ct,Ew h1',p1,Ac h2',ct,Li h2',Bfz,ct,Avb,c3,ct,b3,ct,tk3]
    have:=hX p.en.l[h] e (by simp only [Avc,List.getElem?_eq_getElem h2',Option.map_some,Option.getD_some];exact oe.at h2')
    simpa [Bf1,h1'] using this
theorem B4b {K:Bool→Option R} {h:Nat} (hf:fit 2000 N) (hN:4000≤N) (hu:uR u) (h1:h<p.st.l.length) (h2:h<p.en.l.length) (h3:h<p.re.l.length) (hn:h≤1000) (oe:okR p.en.l) (or:okR p.re.l):Ah5 N u.av f p.av e (h:Int) K=K (Bf0 u (Bf1 u p.st.l h) (p.st.l[h]==2) (Avc u p.en.l h) p.en.l[h].q p.re.l[h].q):=by
  have hu':=hu
  unfold uR at hu
  have e1:=oe.at h2
  have r1:=or.at h3
  rw [A14];unfold A13 A12
  rw [Cz,ct,pl3,ct,Bt,plt]
  refine B8i hN hu' h1 h2 hn oe fun x g hx=>?_
  generalize Bf1 u p.st.l h=was
  generalize Avc u p.en.l h=v at hx
  have hqa:=Fb p.en.l[h].q p.re.l[h].q
  have hqs:=Xe (p.en.l[h].q+p.re.l[h].q) v
  have hqt:=Xe v p.en.l[h].q
  have:=e1.qm;have:=r1.qm;have:=hx.qm
  have hd:(cqD (p.en.l[h].q+p.re.l[h].q)).is (p.en.l[h].q+p.re.l[h].q) 12:=Hx (by omega)
  simp only [p0,p1,p2,Ac h1,Ac h2,Ac h3,Ew h1,Li h2,Li h3,Bfz,Avb,b3,tk3,c3,ct]
  rw [B3u e1 r1 (hf.le (by omega)),c3,ct]
  unfold Ano Ah4 Bf0
  simp only [b3,tk3,ct,u6,u7,u8,u9]
  rw [B9y hd hx (hf.le (by omega)),B9y hx e1 (hf.le (by omega)),Rw (by omega) hN,Rw (by omega) hN,Rw (by omega) hN,Rw (by omega) hN]
  rw [Bjc (Hx (m:=20) (by omega)) (qiI (by omega)) (hf.le (by omega)),Bjc (Hx (m:=20) (by omega)) (qiI (by omega)) (hf.le (by omega)),Bjc hd (qiI (by omega)) (hf.le (by omega)),Bjc hx (qiI (by omega)) (hf.le (by omega)),A1b,A1b,A1b,A1b]
  cases (p.st.l[h]==2)<;>cases was<;>(try rfl)
  cases decide (p.en.l[h].q+p.re.l[h].q - v≤(u.rampUp:Rat))<;>rfl
theorem Bu3 (hN:4000≤N) (hf:fit 2000 N) (hs:Cx u=true) (hu:uR u) (ha:u.away.l.length≤1000) (hk:p.st.l.length=n) (he:p.en.l.length=n) (hr:p.re.l.length=n) (hn:n≤1000) (oe:okR p.en.l) (or:okR p.re.l):∀ (m h fuel:Nat) (s:StD),h+m=n→m<fuel→Vk u s →
    Og N K (n:Int) f u.av e p.av fuel (h:Int) s.av=K (chk u h s (Bf1 u p.st.l h) (Avc u p.en.l h) (p.st.l.drop h) (p.en.l.drop h) (p.re.l.drop h)).1 (chk u h s (Bf1 u p.st.l h) (Avc u p.en.l h) (p.st.l.drop h) (p.en.l.drop h) (p.re.l.drop h)).2:=by
  intro m
  induction m with
  | zero =>
    intro h fuel s hh hfu _
    obtain ⟨fuel,rfl⟩:∃ k,fuel=k+1:=⟨fuel - 1,by omega⟩
    rw [Og];unfold Zg
    rw [ltF (by omega),cf,Km (l:=p.st.l) (by omega),chk,show n=h by omega]
    · intro k ks e es r rs h1;cases h1
  | succ m ih =>
    intro h fuel s hh hfu hst
    obtain ⟨fuel,rfl⟩:∃ k,fuel=k+1:=⟨fuel - 1,by omega⟩
    rw [Og];unfold Zg
    have h1:h<p.st.l.length:=by omega
    have h2:h<p.en.l.length:=by omega
    have h3:h<p.re.l.length:=by omega
    rw [ltT (by omega),ct,Cz,ct,st2,ct,p0,Ac h1,ct,Ew h1,Bt,stt]
    rw [Dw h1,Dw h2,Dw h3,chk]
    refine B69 hs hst ha (by omega) (fun hnone=>?_) (fun t ht=>?_)
    · rw [hnone,Cbk,ct];rfl
    · rw [ht,Bm8,ct,show (!true)=false from rfl,cf,ct,pl3,ct,plt,B4a hf hN hu h1 h2 h3 oe or,B4b hf hN hu h1 h2 h3 (by omega) oe or]
      dsimp only
      cases Anz u (p.st.l[h]==2) p.en.l[h].q p.re.l[h].q with
      | false=>rfl
      | true =>
        rw [show (!true)=false from rfl,cf]
        cases Bf0 u (Bf1 u p.st.l h) (p.st.l[h]==2) (Avc u p.en.l h) p.en.l[h].q p.re.l[h].q with
        | false=>rfl
        | true =>
          rw [show (!true)=false from rfl,cf,st0,st2,stt,show ∀ t:StD,((Nat.beq (List.length t.av) 2)&&(true&&(!false)))=true from fun _=>rfl,Bfv,wS (by omega),ct,ct,ct,ct]
          rw [ih (h+1) fuel t (by omega) (by omega) (A2i hs hst ht).1]
          have w1:Bf1 u p.st.l (h+1)=(p.st.l[h]==2):=by simp [Bf1,h1]
          have w2:Avc u p.en.l (h+1)=p.en.l[h].q:=by simp [Avc,h2]
          rw [w1,w2];rfl
end
end
end Gx

namespace Gx
open Go Go.Proofs
section
variable {R:Type}
def Bu4 (p:PlanD) (c:Int):Bool:=decide ((p.st.l.length:Int)=c)&&(decide ((p.en.l.length:Int)=c)&&decide ((p.re.l.length:Int)=c))
def ckR (u:UnitD) (c:Int) (p:PlanD):Int×Int:=cond (Ei u c) (cond (Bu4 p c) (chk u 0 (Ca u) (u.state==2) (u.output:Rat) p.st.l p.en.l p.re.l) (0,4)) (0,1)
theorem Abm (a b:Int):(a != b)=!decide (a=b):=by by_cases h:a=b<;>simp [h]
theorem Bf2 {u:UnitD}:∀ {ks:List Int} {es rs:List RatD} {h:Int} {s:StD} {was:Bool} {v:Rat},es.length=ks.length→rs.length=ks.length→(chk u h s was v ks es rs).2=0→(C8 u h s ks).2=true
  | [],_,_,_,_,_,_,_,_,_=>rfl
  | k::ks,e::es,r::rs,h,s,was,v,h1,h2,h3=>by
    rw [chk] at h3
    rw [C8]
    cases hst:Vo u h s k with
    | none=>rw [hst] at h3;simp at h3
    | some t =>
      rw [hst] at h3
      dsimp only at h3 ⊢
      cases hr:Anz u (k==2) e.q r.q with
      | false=>rw [hr] at h3;simp at h3
      | true =>
        cases hq:Bf0 u was (k==2) v e.q r.q with
        | false=>rw [hr,hq] at h3;simp at h3
        | true =>
          rw [hr,hq] at h3
          exact Bf2 (by simpa using h1) (by simpa using h2) h3
  | k::ks,[],_,_,_,_,_,h1,_,_=>by simp at h1
  | k::ks,e::es,[],_,_,_,_,_,h2,_=>by simp at h2
theorem B7a {u:UnitD}:∀ {ks:List Int} {es rs:List RatD} {h:Int} {s:StD} {was:Bool} {v:Rat},es.length=ks.length→rs.length=ks.length→(chk u h s was v ks es rs).2=0→∀ i (h1:i<ks.length) (h2:i<es.length),ks[i]=2→(u.min:Rat)≤es[i].q
  | [],_,_,_,_,_,_,_,_,_,i,h,_,_=>by simp at h
  | k::ks,e::es,r::rs,h,s,was,v,h1,h2,h3,i,hi,hi2,hk=>by
    rw [chk] at h3
    cases hst:Vo u h s k with
    | none=>rw [hst] at h3;simp at h3
    | some t =>
      rw [hst] at h3
      dsimp only at h3
      cases hr:Anz u (k==2) e.q r.q with
      | false=>rw [hr] at h3;simp at h3
      | true =>
        cases hq:Bf0 u was (k==2) v e.q r.q with
        | false=>rw [hr,hq] at h3;simp at h3
        | true =>
          rw [hr,hq] at h3
          rcases i with _ | i
          · simp only [List.getElem_cons_zero] at hk ⊢
            unfold Anz at hr
            rw [show (k==2)=true by simpa using hk] at hr
            simp only [cond_true,Bool.and_eq_true,decide_eq_true_eq] at hr
            exact hr.1
          · exact B7a (by simpa using h1) (by simpa using h2) h3 i (by simpa using hi) (by simpa using hi2) (by simpa using hk)
  | k::ks,[],_,_,_,_,_,h1,_,_,_,_,_,_=>by simp at h1
  | k::ks,e::es,[],_,_,_,_,_,h2,_,_,_,_,_=>by simp at h2
def B1p (u:UnitD):StD→List StD→Prop
  | _,[]=>True
  | s,t::r=>t ∈ Fx u s∧B1p u t r
theorem Bbr {u:UnitD} (hs:Cx u=true):∀ {ks:List Int} {h:Int} {s:StD},Vk u s→B1p u s (C8 u h s ks).1
  | [],_,_,_=>trivial
  | k::ks,h,s,hst=>by
    rw [C8]
    cases hst':Vo u h s k with
    | none=>trivial
    | some t =>
      have:=A2i hs hst hst'
      exact ⟨this.2.2.1,Bbr hs this.1⟩
theorem A2j {u:UnitD}:∀ {ks:List Int} {h:Int} {s:StD},(C8 u h s ks).2=true→(C8 u h s ks).1.length=ks.length
  | [],_,_,_=>rfl
  | k::ks,h,s,hw=>by
    rw [C8] at hw ⊢
    cases hst':Vo u h s k with
    | none=>rw [hst'] at hw;cases hw
    | some t =>
      rw [hst'] at hw
      dsimp only at hw ⊢
      rw [List.length_cons,A2j hw,List.length_cons]
section
variable {N:Nat} {u:UnitD} {p:PlanD} {f e:Bool} {c:Int}
theorem A7m {K:Int→Int→Option R} (hN:4000≤N) (hf:fit 2000 N) (ha:u.away.l.length≤1000) (oe:okR p.en.l) (or:okR p.re.l):Apk N u.av f c p.av e K=K (ckR u c p).1 (ckR u c p).2:=by
  rw [Bfe];unfold Bjg Bjf ckR
  rw [Cz,ct,Bt,Y5 (by omega) (by omega) (by omega)]
  cases hv:Ei u c with
  | false=>rfl
  | true =>
    obtain ⟨hs,hu,hc⟩:=Zo hv
    rw [show (!true)=false from rfl,cf,p0,p1,p2,Abm,Abm,Abm]
    unfold Bu4
    by_cases h1:(p.st.l.length:Int)=c
    · by_cases h2:(p.en.l.length:Int)=c
      · by_cases h3:(p.re.l.length:Int)=c
        · simp only [h1,h2,h3,decide_true,Bool.not_true,beq_self_eq_true,ct,cfB,cf,Bool.and_self,cond_true]
          unfold A1f Auj
          rw [Cz,ct,p0,Bt]
          have hu':=hu
          unfold uR at hu'
          have fin:∀ (j lf:Int),lf=cond (C8 u 0 (Ca u) p.st.l).2 0 16→((C8 u 0 (Ca u) p.st.l).2=false→j=(C8 u 0 (Ca u) p.st.l).1.length)→(rdI .i64 (List.drop 19 u.av) fun ak=>(rdI .i64 (List.drop 21 u.av) fun al=>(B0 N al (fun x=>(cond ((Nat.beq 0 0)&&((Nat.beq (List.length x) 3)&&(Nat.beq 3 3))) (Hl N K c j lf f u.av e p.av N (ak==(2:Int)) 0 false x) none)))))=K (chk u 0 (Ca u) (u.state==2) (u.output:Rat) p.st.l p.en.l p.re.l).1 (chk u 0 (Ca u) (u.state==2) (u.output:Rat) p.st.l p.en.l p.re.l).2:=by
            intro j lf h4 h5
            rw [u19,u21]
            refine Gt (by omega) (by omega) fun x hx=>?_
            rw [c3,ct]
            have:=Bwq (R:=R) (N:=N) (n:=p.st.l.length) (K:=K) (f:=f) (e:=e) (j:=j) (lf:=lf) (by omega) hf hs hu rfl (by omega) (by omega) (by omega) oe or p.st.l.length 0 N (Ca u) (u.state==2) (u.output:Rat) x false (by omega) (by omega) (Sb hs) (hx.is (by have:=qi (v:=u.output) (by omega);omega)) (by simpa using h4) (by simpa using h5)
            rw [h1] at this
            exact this
          refine Bu0 (by omega) hs ha (by omega) rfl (fun hw=>?_) (fun hw=>?_)
          · exact fin _ _ (by rw [hw];rfl) (fun h=>by rw [hw] at h;cases h)
          · exact fin _ _ (by rw [hw];rfl) (fun _=>rfl)
        · simp [h1,h2,h3]
      · simp [h1,h2]
    · simp [h1]
theorem A2k {K:Int→Int→Option R} (hN:4000≤N) (hf:fit 2000 N) (ha:u.away.l.length≤1000) (oe:okR p.en.l) (or:okR p.re.l):Ae2 N u.av f c p.av e K=K (ckR u c p).1 (ckR u c p).2:=by
  rw [A7f];unfold Bbk Bbj ckR
  rw [Cz,ct,Bt,Btt (by omega) (by omega) (by omega)]
  cases hv:Ei u c with
  | false=>rfl
  | true =>
    obtain ⟨hs,hu,hc⟩:=Zo hv
    rw [show (!true)=false from rfl,cf,p0,p1,p2,Abm,Abm,Abm]
    unfold Bu4
    by_cases h1:(p.st.l.length:Int)=c
    · by_cases h2:(p.en.l.length:Int)=c
      · by_cases h3:(p.re.l.length:Int)=c
        · simp only [h1,h2,h3,decide_true,Bool.not_true,beq_self_eq_true,ct,cfB,cf,Bool.and_self,cond_true]
          unfold Auu Anq
          rw [Cz,ct,Bt,Xo hs,Bm8,ct,st0]
          have:=Bu3 (R:=R) (N:=N) (n:=p.st.l.length) (K:=K) (f:=f) (e:=e) hN hf hs hu ha rfl (by omega) (by omega) (by omega) oe or p.st.l.length 0 N (Ca u) (by omega) (by omega) (Sb hs)
          rw [h1] at this
          exact this
        · simp [h1,h2,h3]
      · simp [h1,h2]
    · simp [h1]
end
end
end Gx

namespace Gx
open Go Go.Proofs
set_option maxRecDepth 100000
section
variable {R:Type}
def onQ (u:UnitD) (e r:Rat):Rat:=(u.noLoad:Rat)+Ot (e - (u.min:Rat)) u.segs.l+(u.reservePrice:Rat)*r
def Kq (u:UnitD):StD→List StD→List Int→List RatD→List RatD→Rat
  | s,t::ts,k::ks,e::es,r::rs=>((Ou u s t:Int):Rat)+cond (k==2) (onQ u e.q r.q) 0+Kq u t ts ks es rs
  | _,_,_,_,_=>0
def Rb (u:UnitD):StD→List StD→Int
  | _,[]=>0
  | s,t::ts=>Ou u s t+Rb u t ts
def B4c (u:UnitD):List Int→List RatD→List RatD→Rat
  | k::ks,e::es,r::rs=>cond (k==2) (onQ u e.q r.q) 0+B4c u ks es rs
  | _,_,_=>0
theorem B4d {u:UnitD}:∀ {ts:List StD} {s:StD} {ks:List Int} {es rs:List RatD},ks.length=ts.length→es.length=ts.length→rs.length=ts.length→Kq u s ts ks es rs=((Rb u s ts:Int):Rat)+B4c u ks es rs
  | [],x,[],[],[],_,_,_=>by
    have h1:Kq u x [] [] [] []=0:=by rw [Kq];intros;simp_all
    have h2:B4c u [] [] []=0:=by rw [B4c];intros;simp_all
    rw [h1,h2,Rb,Rat.add_zero];rfl
  | t::ts,s,k::ks,e::es,r::rs,h1,h2,h3=>by
    rw [Kq,Rb,B4c,B4d (by simpa using h1) (by simpa using h2) (by simpa using h3),Rat.intCast_add]
    grind
theorem Boq {u:UnitD} (hu:uR u) (s t:StD):0≤Ou u s t∧Ou u s t≤1048576:=by
  unfold uR at hu;unfold Ou
  cases (s.k==0&&!(t.k==0))<;>cases decide (s.h≤u.hotHours)<;>simp<;>omega
theorem B1q {u:UnitD} {c:Int} {e:Rat} (hv:Ei u c=true) (he:qm e≤5):qm (Ot (e - (u.min:Rat)) u.segs.l)≤600:=by
  have h1:=A4p hv
  have h2:=Mz hv
  have hq:qm (e - (u.min:Rat))≤8:=by have:=Xe e (u.min:Rat);have:=qi (v:=u.min) (by omega);omega
  have:=Bud (A:=8) u.segs.l _ (Ae1 hv) (by omega) hq
  have h3:u.segs.l.length*(8+3*u.segs.l.length+31)≤8*(8+24+31):=Nat.mul_le_mul h2.1 (by omega)
  omega
theorem Bj4 (s:StD):((Nat.beq (List.length s.av) 2)&&(true&&(!false)))=true:=rfl
section
variable {N n:Nat} {u:UnitD} {p:PlanD} {f e:Bool} {c:Int}
theorem B1r {X:Option R} {K:LA→Int→Option R} {ts:List StD} (hN:4000≤N) (hf:fit 1000000 N) (hv:Ei u c=true) (hc:c=n) (hk:p.st.l.length=n) (he:p.en.l.length=n) (hr:p.re.l.length=n) (ht:ts.length=n) (oe:okR p.en.l) (or:okR p.re.l):∀ (m h fuel:Nat) (s:StD) (x:RatD) (q:Rat),h+m=n→m<fuel→Vk u s→B1p u s (ts.drop h)→x.can q→qm q≤2+h*700 →
    (∀ d:RatD,d.can (q+Kq u s (ts.drop h) (p.st.l.drop h) (p.en.l.drop h) (p.re.l.drop h))→K d.av 0=X) →
    Xk N K n c f u.av e p.av (ts.flatMap StD.av) fuel (h:Int) x.av s.av=X:=by
  obtain ⟨hs,hu,hc24⟩:=Zo hv
  intro m
  induction m with
  | zero =>
    intro h fuel s x q hh hfu _ _ hx _ hX
    obtain ⟨fuel,rfl⟩:∃ k,fuel=k+1:=⟨fuel - 1,by omega⟩
    rw [Xk];unfold Ale
    rw [show decide ((h:Int)<c)=false by simp;omega,cf]
    refine hX x ?_
    rw [Km (l:=ts) (by omega),Kq,Rat.add_zero]
    · exact hx
    · intro t ts k ks e es r rs h1;cases h1
  | succ m ih =>
    intro h fuel s x q hh hfu hst hch hx hq hX
    obtain ⟨fuel,rfl⟩:∃ k,fuel=k+1:=⟨fuel - 1,by omega⟩
    rw [Xk];unfold Ale
    have h1:h<p.st.l.length:=by omega
    have h2:h<p.en.l.length:=by omega
    have h3:h<p.re.l.length:=by omega
    have h4:h<ts.length:=by omega
    have e1:=oe.at h2
    have r1:=or.at h3
    have hsr:=Boq hu s ts[h]
    have hu':=hu
    unfold uR at hu'
    rw [Dw h4] at hch hX
    rw [Dw h1,Dw h2,Dw h3,Kq] at hX
    have hst':Vk u ts[h]:=Bfu hs hst _ hch.1
    have hhn:h*700≤24*700:=Nat.mul_le_mul_right _ (by omega)
    rw [show decide ((h:Int)<c)=true by simp;omega,ct,b3,ct,Cz,ct,st2,ct,Ac (show h<n by omega),ct,Bj1 h4,Au9,ct,Bt,stt,Ava,Bu1 (by omega) hs hst hch.1]
    refine Gt (by omega) (by omega) fun a ha=>?_
    rw [tk3]
    refine Bua hx ha (hf.le (by have:=qi (v:=Ou u s ts[h]) (by omega);omega)) fun y hy=>?_
    have hqy:qm (q+((Ou u s ts[h]:Int):Rat))≤2+h*700+3:=by have:=Fb q ((Ou u s ts[h]:Int):Rat);have:=qi (v:=Ou u s ts[h]) (by omega);omega
    simp only [c3,c4,c4',b3,tk3,ct,A43,st2,stt,Bfv,Buz,Bj4]
    rw [p0,Ac h1,ct,Ew h1,wS (by omega)]
    by_cases hon:p.st.l[h]=2
    · rw [show (p.st.l[h] != 2)=false by simp [hon],cf,u5]
      rw [show (p.st.l[h]==2)=true by simpa using hon] at hX
      refine Gt (by omega) (by omega) fun b hb=>?_
      refine Bua hy hb (hf.le (by have:=qi (v:=u.noLoad) (by omega);omega)) fun y2 hy2=>?_
      have hq2:qm (q+((Ou u s ts[h]:Int):Rat)+(u.noLoad:Rat))≤2+h*700+6:=by have:=Fb (q+((Ou u s ts[h]:Int):Rat)) (u.noLoad:Rat);have:=qi (v:=u.noLoad) (by omega);omega
      simp only [c3,c4,c4',b3,tk3,ct,A43,st2,stt,Bfv,Buz,Bj4]
      rw [p1,Ac h2,ct,Li h2,Bfz,ct,Avb]
      refine Bub e1 (Ae1 hv) (Mz hv).1 (by omega) (hf.le (by omega)) fun sc hsc=>?_
      have hqs:=B1q (e:=p.en.l[h].q) hv (by have:=e1.qm;omega)
      refine Bua hy2 hsc (hf.le (by omega)) fun y3 hy3=>?_
      have hq3:=Fb (q+((Ou u s ts[h]:Int):Rat)+(u.noLoad:Rat)) (Ot (p.en.l[h].q - (u.min:Rat)) u.segs.l)
      simp only [c3,c4,c4',b3,tk3,ct,A43,st2,stt,Bfv,Buz,Bj4]
      rw [u17,p2,Ac h3,ct,Li h3,Bfz,ct,Avb]
      rw [As9];unfold A39 A38
      refine Gt (by omega) (by omega) fun rp hrp=>?_
      rw [b3,ct,tk3]
      refine B1o (hrp.is (qi (by omega))) r1 (hf.le (by omega)) fun mu hmu=>?_
      have hqm:=Ana ((u.reservePrice:Int):Rat) p.re.l[h].q
      have hqr:=r1.qm
      have hqp:=qi (v:=u.reservePrice) (by omega)
      simp only [c3,c4,c4',b3,tk3,ct,A43,st2,stt,Bfv,Buz,Bj4]
      refine Bua hy3 hmu (hf.le (by omega)) fun y4 hy4=>?_
      have hq4:=Fb (q+((Ou u s ts[h]:Int):Rat)+(u.noLoad:Rat)+Ot (p.en.l[h].q - (u.min:Rat)) u.segs.l) ((u.reservePrice:Rat)*p.re.l[h].q)
      simp only [c3,c4,c4',b3,tk3,ct,A43,st2,stt,Bfv,Buz,Bj4]
      refine ih (h+1) fuel ts[h] y4 _ (by omega) (by omega) hst' hch.2 hy4 (by rw [Nat.add_mul];omega) fun d hd=>hX d ?_
      have:q+(((Ou u s ts[h]:Int):Rat)+cond true (onQ u p.en.l[h].q p.re.l[h].q) 0+Kq u ts[h] (ts.drop (h+1)) (p.st.l.drop (h+1)) (p.en.l.drop (h+1)) (p.re.l.drop (h+1)))=q+((Ou u s ts[h]:Int):Rat)+(u.noLoad:Rat)+Ot (p.en.l[h].q - (u.min:Rat)) u.segs.l+(u.reservePrice:Rat)*p.re.l[h].q+Kq u ts[h] (ts.drop (h+1)) (p.st.l.drop (h+1)) (p.en.l.drop (h+1)) (p.re.l.drop (h+1)):=by
        rw [cond_true,onQ];grind
      rw [this];exact hd
    · rw [show (p.st.l[h] != 2)=true by simp [hon],ct]
      rw [show (p.st.l[h]==2)=false by simpa using hon] at hX
      refine ih (h+1) fuel ts[h] y _ (by omega) (by omega) hst' hch.2 hy (by rw [Nat.add_mul];omega) fun d hd=>hX d ?_
      rw [cond_false,Rat.add_zero,← Rat.add_assoc];exact hd
theorem B97 {K:Int→Option R} {ts:List StD} (hN:1100≤N) (hs:Cx u=true) (hu:uR u) (ht:ts.length≤1000):∀ (m h fuel:Nat) (s:StD) (g:Int),h+m=ts.length→m<fuel→Vk u s→B1p u s (ts.drop h)→(0≤g∧g≤1048576*(h:Int)) →
    E3 N K ts.length f u.av (ts.flatMap StD.av) fuel g (h:Int) s.av=K (g+Rb u s (ts.drop h)):=by
  intro m
  induction m with
  | zero =>
    intro h fuel s g hh hfu _ _ _
    obtain ⟨fuel,rfl⟩:∃ k,fuel=k+1:=⟨fuel - 1,by omega⟩
    rw [E3];unfold J6
    rw [ltF (by omega),cf,Km (l:=ts) (by omega),Rb,Int.add_zero]
  | succ m ih =>
    intro h fuel s g hh hfu hst hch hg
    obtain ⟨fuel,rfl⟩:∃ k,fuel=k+1:=⟨fuel - 1,by omega⟩
    rw [E3];unfold J6
    have h4:h<ts.length:=by omega
    have hsr:=Boq hu s ts[h]
    rw [Dw h4] at hch
    have hst':Vk u ts[h]:=Bfu hs hst _ hch.1
    rw [ltT h4,ct,Cz,ct,st2,ct,Ac h4,ct,Bj1 h4,Au9,ct,Bt,stt,Ava,Bn5 hN hs hst hch.1]
    simp only [ct,Bj4,Buz,Bfv]
    rw [i64 (by omega),wS (by omega),ih (h+1) fuel ts[h] _ (by omega) (by omega) hst' hch.2 (by omega),Dw h4,Rb,Int.add_assoc]
theorem Bn7 {K:Int→Option R} {ks:List Int} {i j:Bool} (hN:1100≤N) (hs:Cx u=true) (hu:uR u) (ha:u.away.l.length≤1000) (hk:ks.length≤1000) (hw:(C8 u 0 (Ca u) ks).2=true):M9 N u.av f (Hy ks) ks.length i j K=K (Rb u (Ca u) (C8 u 0 (Ca u) ks).1):=by
  rw [Aid];unfold Abj Abi
  rw [Cz,ct,Bt]
  refine B38 hN hs ha hk rfl (fun _=>?_) (fun h=>by rw [hw] at h;cases h)
  rw [ct,Xo hs,Bm8,ct,st0]
  have hl:=A2j hw
  have:=B97 (R:=R) (N:=N) (K:=K) (f:=f) (ts:=(C8 u 0 (Ca u) ks).1) hN hs hu (by omega) (C8 u 0 (Ca u) ks).1.length 0 N (Ca u) 0 (by omega) (by omega) (Sb hs) (by rw [List.drop_zero];exact Bbr hs (Sb hs)) (by omega)
  rw [List.drop_zero,Int.zero_add,hl] at this
  exact this
theorem Bwr {K:LA→Int→Option R} (hN:4000≤N) (hf:fit 1000000 N) (hv:Ei u c=true) (hc:c=n) (hk:p.st.l.length=n) (he:p.en.l.length=n) (hr:p.re.l.length=n) (oe:okR p.en.l) (or:okR p.re.l) (hmin:∀ i (h1:i<p.st.l.length) (h2:i<p.en.l.length),p.st.l[i]=2→(u.min:Rat)≤p.en.l[i].q):∀ (m h fuel:Nat) (q:Rat),h+m=n→m<fuel→qm q≤2+h*700 →
    R6 N K c f u.av e p.av fuel (h:Int) (cqD q).av=K (cqD (q+B4c u (p.st.l.drop h) (p.en.l.drop h) (p.re.l.drop h))).av 0:=by
  obtain ⟨hs,hu,hc24⟩:=Zo hv
  intro m
  induction m with
  | zero =>
    intro h fuel q hh hfu _
    obtain ⟨fuel,rfl⟩:∃ k,fuel=k+1:=⟨fuel - 1,by omega⟩
    rw [R6];unfold Ad2
    rw [show decide ((h:Int)<c)=false by simp;omega,cf,Km (l:=p.st.l) (by omega),B4c,Rat.add_zero]
    · rfl
    · intro k ks e es r rs h1;cases h1
  | succ m ih =>
    intro h fuel q hh hfu hq
    obtain ⟨fuel,rfl⟩:∃ k,fuel=k+1:=⟨fuel - 1,by omega⟩
    rw [R6];unfold Ad2
    have h1:h<p.st.l.length:=by omega
    have h2:h<p.en.l.length:=by omega
    have h3:h<p.re.l.length:=by omega
    have e1:=oe.at h2
    have r1:=or.at h3
    have hu':=hu
    unfold uR at hu'
    have hhn:h*700≤24*700:=Nat.mul_le_mul_right _ (by omega)
    rw [show decide ((h:Int)<c)=true by simp;omega,ct,p0,Ac h1,ct,Ew h1,wS (by omega)]
    rw [Dw h1,Dw h2,Dw h3,B4c]
    by_cases hon:p.st.l[h]=2
    · rw [show (p.st.l[h]==2)=true by simpa using hon,ct,cond_true]
      simp only [b3,tk3,ct,Cz,Bt,u5,u17,p1,p2,Ac h2,Ac h3,Li h2,Li h3,Bfz,Avb]
      have hqn:=qi (v:=u.noLoad) (by omega)
      have hqp:=qi (v:=u.reservePrice) (by omega)
      have hq1:=Fb q (u.noLoad:Rat)
      rw [Rw (by omega) hN,B3u (Hx hq) (Hx hqn) (hf.le (by omega)),B08 e1 (Ae1 hv) (Mz hv).1 (by omega) (hf.le (by omega)) hN,Rw (by omega) hN]
      have hp:0≤p.en.l[h].q - (u.min:Rat):=(Rat.le_iff_sub_nonneg _ _).1 (hmin h h1 h2 hon)
      rw [B3w (fun s hs=>by have:=B09 (Mz hv).2.1 s hs;omega) hp]
      have hqs:=B1q (e:=p.en.l[h].q) hv (by have:=e1.qm;omega)
      have hqm:=Ana ((u.reservePrice:Int):Rat) p.re.l[h].q
      have hqr:=r1.qm
      rw [Cb0 (Hx hqp) r1 (hf.le (by omega))]
      have hq2:=Fb (Ot (p.en.l[h].q - (u.min:Rat)) u.segs.l) ((u.reservePrice:Rat)*p.re.l[h].q)
      rw [B3u (Hx hqs) (Hx (m:=7) (by omega)) (hf.le (by omega))]
      rw [B3u (Hx (m:=2+h*700+3) (by omega)) (Hx (m:=608) (by omega)) (hf.le (by omega))]
      have hq3:=Fb (q+(u.noLoad:Rat)) (Ot (p.en.l[h].q - (u.min:Rat)) u.segs.l+(u.reservePrice:Rat)*p.re.l[h].q)
      simp only [c4',c4,ct,A43]
      rw [ih (h+1) fuel _ (by omega) (by omega) (by rw [Nat.add_mul];omega)]
      congr 2
      unfold onQ
      grind
    · rw [show (p.st.l[h]==2)=false by simpa using hon,cf,cond_false,Rat.zero_add,ih (h+1) fuel q (by omega) (by omega) (by rw [Nat.add_mul];omega)]
theorem B4e (h:(ckR u c p).2=0):Ei u c=true∧Bu4 p c=true∧(chk u 0 (Ca u) (u.state==2) (u.output:Rat) p.st.l p.en.l p.re.l).2=0:=by
  unfold ckR at h
  cases hv:Ei u c with
  | false=>rw [hv] at h;simp at h
  | true =>
    cases hl:Bu4 p c with
    | false=>rw [hv,hl] at h;simp at h
    | true=>rw [hv,hl] at h;exact ⟨rfl,rfl,h⟩
theorem Bu5 (h:Bu4 p c=true):(p.st.l.length:Int)=c∧(p.en.l.length:Int)=c∧(p.re.l.length:Int)=c:=by
  simpa [Bu4] using h
def coQ (u:UnitD) (c:Int) (p:PlanD):Rat:=cond ((ckR u c p).2==0) (Kq u (Ca u) (C8 u 0 (Ca u) p.st.l).1 p.st.l p.en.l p.re.l) 0
theorem Bu6 {X:Option R} {K:LA→Int→Option R} (hN:4000≤N) (hf:fit 1000000 N) (ha:u.away.l.length≤1000) (oe:okR p.en.l) (or:okR p.re.l) (h:∀ d:RatD,d.is (coQ u c p) (qm (coQ u c p))→K d.av (ckR u c p).2=X):A4q N u.av f c p.av e K=X:=by
  rw [Bm1];unfold Buq Bup
  rw [Cz,ct,pl3,ct,Bt,plt,A7m hN (hf.le (by omega)) ha oe or]
  by_cases hz:(ckR u c p).2=0
  · obtain ⟨hv,hl,hck⟩:=B4e hz
    obtain ⟨hs,hu,hc⟩:=Zo hv
    obtain ⟨l1,l2,l3⟩:=Bu5 hl
    have hw:=Bf2 (by omega) (by omega) hck
    have hwl:=A2j hw
    rw [show ((ckR u c p).2 != 0)=false by simp [hz],cf,ct,p0]
    refine Bu0 (by omega) hs ha (by omega) rfl (fun _=>?_) (fun h=>by rw [hw] at h;cases h)
    rw [show ((0:Int) != 0)=false from rfl,cf]
    refine Gt (by omega) (by omega) fun x hx=>?_
    rw [c3,ct,ct,Awr (by omega) hs,Bm8,ct,st0]
    refine B1r (n:=p.st.l.length) hN hf hv (by omega) rfl (by omega) (by omega) hwl oe or p.st.l.length 0 N (Ca u) x ((0:Int):Rat) (by omega) (by omega) (Sb hs) (by rw [List.drop_zero];exact Bbr hs (Sb hs)) hx (by have:=qi (v:=0) (by omega);omega) fun d hd=>?_
    simp only [List.drop_zero] at hd
    rw [show (((0:Int):Rat))=0 from rfl,Rat.zero_add] at hd
    have e:coQ u c p=Kq u (Ca u) (C8 u 0 (Ca u) p.st.l).1 p.st.l p.en.l p.re.l:=by unfold coQ;rw [hz];rfl
    have:=h d (by rw [e];exact hd.is (Nat.le_refl _))
    rw [hz] at this;exact this
  · rw [show ((ckR u c p).2 != 0)=true by simp [hz],ct]
    have e:coQ u c p=0:=by unfold coQ;rw [show ((ckR u c p).2==0)=false by simpa using hz];rfl
    exact h Apg (by rw [e];exact Ia)
theorem Bm9 {X:Option R} {K:LA→Int→Option R} (hN:4000≤N) (hf:fit 1000000 N) (ha:u.away.l.length≤1000) (oe:okR p.en.l) (or:okR p.re.l) (h:∀ d:RatD,d.is (coQ u c p) (qm (coQ u c p))→K d.av (ckR u c p).2=X):Apr N u.av f c p.av e K=X:=by
  rw [Bfp];unfold Bjy Bjx
  rw [Cz,ct,pl3,ct,Bt,plt,A2k hN (hf.le (by omega)) ha oe or]
  by_cases hz:(ckR u c p).2=0
  · obtain ⟨hv,hl,hck⟩:=B4e hz
    obtain ⟨hs,hu,hc⟩:=Zo hv
    obtain ⟨l1,l2,l3⟩:=Bu5 hl
    have hw:=Bf2 (by omega) (by omega) hck
    have hwl:=A2j hw
    rw [show ((ckR u c p).2 != 0)=false by simp [hz],cf,ct,p0,Bn7 (by omega) hs hu ha (by omega) hw]
    have hsum:∀ (ts:List StD) (s:StD),ts.length≤24→-9223372036854775808≤Rb u s ts∧Rb u s ts≤9223372036854775807:=by
      have key:∀ (ts:List StD) (s:StD),0≤Rb u s ts∧Rb u s ts≤1048576*(ts.length:Int):=by
        intro ts
        induction ts with
        | nil=>intro s;simp [Rb]
        | cons t ts ih=>intro s;have:=ih t;have:=Boq hu s t;simp only [Rb,List.length_cons];omega
      intro ts s ht
      have:=key ts s;omega
    have hb:=hsum (C8 u 0 (Ca u) p.st.l).1 (Ca u) (by omega)
    rw [Rw hb hN,c3,ct]
    have:=Bwr (R:=R) (N:=N) (n:=p.st.l.length) (K:=K) (f:=f) (e:=e) hN hf hv (by omega) rfl (by omega) (by omega) oe or (B7a (by omega) (by omega) hck) p.st.l.length 0 N ((Rb u (Ca u) (C8 u 0 (Ca u) p.st.l).1:Int):Rat) (by omega) (by omega) (by have:=qi hb;omega)
    simp only [List.drop_zero] at this
    refine Eq.trans this ?_
    rw [← B4d (by omega) (by omega) (by omega)]
    have e:coQ u c p=Kq u (Ca u) (C8 u 0 (Ca u) p.st.l).1 p.st.l p.en.l p.re.l:=by unfold coQ;rw [hz];rfl
    have:=h (cqD (coQ u c p)) (Hx (Nat.le_refl _))
    rw [hz,e] at this;exact this
  · rw [show ((ckR u c p).2 != 0)=true by simp [hz],ct]
    have e:coQ u c p=0:=by unfold coQ;rw [show ((ckR u c p).2==0)=false by simpa using hz];rfl
    exact h Apg (by rw [e];exact Ia)
end
end
end Gx

namespace Gx
open Go Go.Proofs
set_option maxRecDepth 100000
section
variable {R:Type}
def Rc:List RatD→List RatD→Rat
  | a::az9',b::bs=>a.q*b.q+Rc az9' bs
  | _,_=>0
def Bu7:List RatD→List RatD→List RatD→List RatD→Rat
  | a::az9',e::es,b::bs,r::rs=>a.q*e.q+b.q*r.q+Bu7 az9' es bs rs
  | _,_,_,_=>0
theorem B7b:∀ {a e b r:List RatD},e.length=a.length→b.length=a.length→r.length=a.length→Bu7 a e b r=Rc a e+Rc b r
  | [],[],[],[],_,_,_=>by
    have h1:Bu7 [] [] [] []=0:=by rw [Bu7];intros;simp_all
    have h2:Rc [] []=0:=by rw [Rc];intros;simp_all
    rw [h1,h2,Rat.add_zero]
  | a::az9',e::es,b::bs,r::rs,h1,h2,h3=>by
    rw [Bu7,Rc,Rc,B7b (by simpa using h1) (by simpa using h2) (by simpa using h3)]
    grind
theorem Zp:qm (0:Rat)≤2:=qi (v:=0) (by omega)
theorem Bf3:∀ {a b:List RatD},okR a→okR b→qm (Rc a b)≤2+a.length*11
  | [],b,_,_=>by rw [show Rc [] b=0 by rw [Rc];intros;simp_all];have:=Zp;omega
  | a::az9',[],_,_=>by rw [show Rc (a::az9') []=0 by rw [Rc];intros;simp_all];have:=Zp;omega
  | a::az9',b::bs,h1,h2=>by
    have h3:=Bf3 (a:=az9') (b:=bs) (fun x hx=>h1 x (by simp [hx])) (fun x hx=>h2 x (by simp [hx]))
    have h4:=(h1 a (by simp)).qm
    have h5:=(h2 b (by simp)).qm
    have h6:=Ana a.q b.q
    have h7:=Fb (a.q*b.q) (Rc az9' bs)
    rw [Rc,List.length_cons,Nat.add_mul];omega
theorem B4f {u:UnitD} {c:Int} (hv:Ei u c=true):∀ {ts:List StD} {s:StD} {ks:List Int} {es rs:List RatD},okR es→okR rs→qm (Kq u s ts ks es rs)≤2+ts.length*620
  | [],s,ks,es,rs,_,_=>by rw [show Kq u s [] ks es rs=0 by rw [Kq];intros;simp_all];have:=Zp;omega
  | t::ts,s,[],es,rs,_,_=>by rw [show Kq u s (t::ts) [] es rs=0 by rw [Kq];intros;simp_all];have:=Zp;omega
  | t::ts,s,k::ks,[],rs,_,_=>by rw [show Kq u s (t::ts) (k::ks) [] rs=0 by rw [Kq];intros;simp_all];have:=Zp;omega
  | t::ts,s,k::ks,e::es,[],_,_=>by rw [show Kq u s (t::ts) (k::ks) (e::es) []=0 by rw [Kq];intros;simp_all];have:=Zp;omega
  | t::ts,s,k::ks,e::es,r::rs,h1,h2=>by
    obtain ⟨hs,hu,hc24⟩:=Zo hv
    have hsc:=Boq hu s t
    have hu':=hu
    unfold uR at hu'
    have h3:=B4f hv (ts:=ts) (s:=t) (ks:=ks) (es:=es) (rs:=rs) (fun x hx=>h1 x (by simp [hx])) (fun x hx=>h2 x (by simp [hx]))
    have h4:=(h1 e (by simp)).qm
    have h5:=(h2 r (by simp)).qm
    have hq1:=qi (v:=Ou u s t) (by omega)
    have hq2:=qi (v:=u.noLoad) (by omega)
    have hq3:=qi (v:=u.reservePrice) (by omega)
    have hq4:=B1q (e:=e.q) hv (by omega)
    have hq5:=Ana ((u.reservePrice:Int):Rat) r.q
    have hq6:=Fb (u.noLoad:Rat) (Ot (e.q - (u.min:Rat)) u.segs.l)
    have hq7:=Fb ((u.noLoad:Rat)+Ot (e.q - (u.min:Rat)) u.segs.l) ((u.reservePrice:Rat)*r.q)
    have hq8:qm (cond (k==2) (onQ u e.q r.q) 0)≤612:=by
      cases (k==2) with
      | true=>rw [cond_true,onQ];omega
      | false=>rw [cond_false];have:=Zp;omega
    have hq9:=Fb ((Ou u s t:Int):Rat) (cond (k==2) (onQ u e.q r.q) 0)
    have hq10:=Fb (((Ou u s t:Int):Rat)+cond (k==2) (onQ u e.q r.q) 0) (Kq u t ts ks es rs)
    rw [Kq,List.length_cons,Nat.add_mul];omega
section
variable {N n:Nat} {u:UnitD} {p:PlanD} {f e:Bool} {c:Int}
theorem B1s (oe:okR p.en.l) (or:okR p.re.l):qm (coQ u c p)≤15000:=by
  by_cases hz:(ckR u c p).2=0
  · obtain ⟨hv,hl,hck⟩:=B4e hz
    obtain ⟨hs,hu,hc⟩:=Zo hv
    obtain ⟨l1,l2,l3⟩:=Bu5 hl
    have hwl:=A2j (Bf2 (by omega) (by omega) hck)
    have e:coQ u c p=Kq u (Ca u) (C8 u 0 (Ca u) p.st.l).1 p.st.l p.en.l p.re.l:=by unfold coQ;rw [hz];rfl
    have:=B4f hv (ts:=(C8 u 0 (Ca u) p.st.l).1) (s:=Ca u) (ks:=p.st.l) oe or
    rw [e];omega
  · have e:coQ u c p=0:=by unfold coQ;rw [show ((ckR u c p).2==0)=false by simpa using hz];rfl
    rw [e];have:=Zp;omega
theorem Bu8 {X:Option R} {K:LA→Int→Option R} {A B:List RatD} {f1 f2 f3 f4:Bool} {z:RatD} {w:Rat} (hN:4000≤N) (hf:fit 1000000 N) (hc:c=n) (hn:n≤24) (hA:A.length=n) (hB:B.length=n) (he:p.en.l.length=n) (hr:p.re.l.length=n) (oA:okR A) (oB:okR B) (oe:okR p.en.l) (or:okR p.re.l) (hz:z.is w 15000):∀ (m h fuel:Nat) (x:RatD) (q:Rat),h+m=n→m<fuel→x.can q→qm q≤2+h*30 →
    (∀ d:RatD,d.can (q+Bu7 (A.drop h) (p.en.l.drop h) (B.drop h) (p.re.l.drop h) - w)→K d.av 0=X) →
    Ol N K (A.flatMap RatD.av) n f1 f2 (B.flatMap RatD.av) n f3 f4 c e p.av z.av fuel (h:Int) x.av=X:=by
  intro m
  induction m with
  | zero =>
    intro h fuel x q hh hfu hx hq hX
    obtain ⟨fuel,rfl⟩:∃ k,fuel=k+1:=⟨fuel - 1,by omega⟩
    have hhn:h*30≤24*30:=Nat.mul_le_mul_right _ (by omega)
    rw [Ol];unfold Zk
    rw [show decide ((h:Int)<c)=false by simp;omega,cf,b3,ct,b3,ct,tk3,tk3]
    refine Bon (hx.is hq) hz (hf.le (by omega)) fun d hd=>?_
    rw [c3,ct,b3,ct,tk3]
    refine hX d ?_
    rw [Km (l:=A) (by omega),show Bu7 [] (p.en.l.drop h) (B.drop h) (p.re.l.drop h)=0 by rw [Bu7];intros;simp_all,Rat.add_zero]
    exact hd
  | succ m ih =>
    intro h fuel x q hh hfu hx hq hX
    obtain ⟨fuel,rfl⟩:∃ k,fuel=k+1:=⟨fuel - 1,by omega⟩
    have hhn:h*30≤24*30:=Nat.mul_le_mul_right _ (by omega)
    rw [Ol];unfold Zk
    have h1:h<A.length:=by omega
    have h2:h<p.en.l.length:=by omega
    have h3:h<p.re.l.length:=by omega
    have h4:h<B.length:=by omega
    have a1:=oA.at h1
    have b1:=oB.at h4
    have e1:=oe.at h2
    have r1:=or.at h3
    have q1:=a1.qm;have q2:=b1.qm;have q3:=e1.qm;have q4:=r1.qm
    have q5:=Ana A[h].q p.en.l[h].q
    have q6:=Ana B[h].q p.re.l[h].q
    rw [Dw h1,Dw h2,Dw h3,Dw h4,Bu7] at hX
    rw [show decide ((h:Int)<c)=true by simp;omega,ct]
    simp only [b3,tk3,ct,Ac (show h<n by omega),Li h1,Li h2,Li h3,Li h4,Bfz,Avb,p1,p2,Ac h2,Ac h3]
    refine B1o a1 e1 (hf.le (by omega)) fun m1 hm1=>?_
    refine Bop (hx.is hq) (hm1.is (m:=10) (by omega)) (hf.le (by omega)) fun s1 hs1=>?_
    have q7:=Fb q (A[h].q*p.en.l[h].q)
    simp only [c3,c4,c4',b3,tk3,ct,A43]
    refine B1o b1 r1 (hf.le (by omega)) fun m2 hm2=>?_
    refine Bop (hs1.is (m:=2+h*30+11) (by omega)) (hm2.is (m:=10) (by omega)) (hf.le (by omega)) fun s2 hs2=>?_
    have q8:=Fb (q+A[h].q*p.en.l[h].q) (B[h].q*p.re.l[h].q)
    simp only [c3,c4,c4',b3,tk3,ct,A43]
    rw [wS (by omega)]
    refine ih (h+1) fuel s2 _ (by omega) (by omega) hs2 (by rw [Nat.add_mul];omega) fun d hd=>hX d ?_
    have:q+(A[h].q*p.en.l[h].q+B[h].q*p.re.l[h].q+Bu7 (A.drop (h+1)) (p.en.l.drop (h+1)) (B.drop (h+1)) (p.re.l.drop (h+1))) - w=q+A[h].q*p.en.l[h].q+B[h].q*p.re.l[h].q+Bu7 (A.drop (h+1)) (p.en.l.drop (h+1)) (B.drop (h+1)) (p.re.l.drop (h+1)) - w:=by grind
    rw [this];exact hd
theorem B98 {K:LA→Bool→Option R} {A B:List RatD} {f1 f2 f3 f4:Bool} (hN:4000≤N) (hf:fit 1000000 N) (hn:n≤24) (hA:A.length=n) (hB:B.length=n) (oA:okR A) (oB:okR B):∀ (m h fuel:Nat) (q:Rat),h+m=n→m<fuel→qm q≤2+h*30 →
    Wz N K (A.flatMap RatD.av) n f1 f2 (B.flatMap RatD.av) n f3 f4 fuel (h:Int) (cqD q).av=K (cqD (q+Rc (A.drop h) (B.drop h))).av true:=by
  intro m
  induction m with
  | zero =>
    intro h fuel q hh hfu hq
    obtain ⟨fuel,rfl⟩:∃ k,fuel=k+1:=⟨fuel - 1,by omega⟩
    rw [Wz];unfold Aj5
    rw [ltF (by omega),cf,Km (l:=A) (by omega),show Rc [] (B.drop h)=0 by rw [Rc];intros;simp_all,Rat.add_zero];rfl
  | succ m ih =>
    intro h fuel q hh hfu hq
    obtain ⟨fuel,rfl⟩:∃ k,fuel=k+1:=⟨fuel - 1,by omega⟩
    have hhn:h*30≤24*30:=Nat.mul_le_mul_right _ (by omega)
    rw [Wz];unfold Aj5
    have h1:h<A.length:=by omega
    have h4:h<B.length:=by omega
    have a1:=oA.at h1
    have b1:=oB.at h4
    have q1:=a1.qm;have q2:=b1.qm
    have q5:=Ana A[h].q B[h].q
    rw [ltT (show h<n by omega),ct]
    simp only [b3,tk3,ct,Ac (show h<n by omega),Li h1,Li h4,Bfz,Avb]
    rw [Cb0 a1 b1 (hf.le (by omega)),B3u (Hx hq) (Hx (m:=10) (by omega)) (hf.le (by omega))]
    have q7:=Fb q (A[h].q*B[h].q)
    simp only [c3,c4,c4',b3,tk3,ct,A43]
    rw [wS (by omega),ih (h+1) fuel _ (by omega) (by omega) (by rw [Nat.add_mul];omega),Dw h1,Dw h4,Rc,Rat.add_assoc]
theorem B4g {K:LA→Bool→Option R} {A B:List RatD} {f1 f2 f3 f4:Bool} (hN:4000≤N) (hf:fit 1000000 N) (hn:A.length≤24) (hB:B.length=A.length) (oA:okR A) (oB:okR B):A33 N (A.flatMap RatD.av) A.length f1 f2 (B.flatMap RatD.av) B.length f3 f4 K=K (cqD (Rc A B)).av true:=by
  rw [Bl0];unfold Bss Bsr
  rw [hB,show ((A.length:Int) != (A.length:Int))=false by simp,cf,Bbc,show cq 0=(cqD 0).av from rfl,c3,ct]
  have:=B98 (R:=R) (N:=N) (n:=A.length) (K:=K) (f1:=f1) (f2:=f2) (f3:=f3) (f4:=f4) hN hf hn rfl hB oA oB A.length 0 N 0 (by omega) (by omega) (by have:=Zp;omega)
  simp only [List.drop_zero,Rat.zero_add] at this
  exact this
def plB (A B:List RatD) (c:Int):Bool:=decide ((A.length:Int)=c)&&decide ((B.length:Int)=c)
def prE (u:UnitD) (c:Int) (p:PlanD) (A B:List RatD):Int:=cond ((ckR u c p).2==0) (cond (plB A B c) 0 4) (ckR u c p).2
def prQ (u:UnitD) (c:Int) (p:PlanD) (A B:List RatD):Rat:=cond ((ckR u c p).2==0&&plB A B c) (Rc A p.en.l+Rc B p.re.l - coQ u c p) 0
theorem B99 {A B:List RatD} (oA:okR A) (oB:okR B) (oe:okR p.en.l) (or:okR p.re.l) (hA:A.length≤30) (hB:B.length≤30):qm (prQ u c p A B)≤20000:=by
  have h1:=Bf3 oA oe
  have h2:=Bf3 oB or
  have h3:=B1s (u:=u) (c:=c) oe or
  have h4:=Fb (Rc A p.en.l) (Rc B p.re.l)
  have h5:=Xe (Rc A p.en.l+Rc B p.re.l) (coQ u c p)
  have h6:=Zp
  unfold prQ
  cases ((ckR u c p).2==0&&plB A B c) with
  | true=>rw [cond_true];omega
  | false=>rw [cond_false];omega
theorem B1t {X:Option R} {K:LA→Int→Option R} {A B:List RatD} {f1 f2 f3 f4:Bool} (hN:4000≤N) (hf:fit 1000000 N) (ha:u.away.l.length≤1000) (hA:A.length≤30) (hB:B.length≤30) (oA:okR A) (oB:okR B) (oe:okR p.en.l) (or:okR p.re.l)
    (h:∀ d:RatD,d.is (prQ u c p A B) 20000→K d.av (prE u c p A B)=X):Aps N u.av f c p.av e (A.flatMap RatD.av) A.length f1 f2 (B.flatMap RatD.av) B.length f3 f4 K=X:=by
  have hqm:=B99 (u:=u) (c:=c) (p:=p) oA oB oe or hA hB
  rw [A7g];unfold Bbq Bbp
  rw [Cz,ct,pl3,ct,Bt,plt]
  refine Bu6 hN hf ha oe or fun z hz=>?_
  rw [c3,ct,Abm,Abm,Abm]
  by_cases h0:(ckR u c p).2=0
  · obtain ⟨hv,hl,hck⟩:=B4e h0
    obtain ⟨hs,hu,hc⟩:=Zo hv
    obtain ⟨l1,l2,l3⟩:=Bu5 hl
    rw [decide_eq_true h0,show (!true)=false from rfl,cf]
    unfold prE prQ plB at h
    rw [show ((ckR u c p).2==0)=true by simpa using h0] at h
    by_cases g1:(A.length:Int)=c
    · by_cases g2:(B.length:Int)=c
      · rw [decide_eq_true g1,decide_eq_true g2] at h ⊢
        rw [show ((!true)==false)=true from rfl,ct,show (cond false true (!true))=false from rfl,cf]
        unfold Au5 Ant
        refine Gt (by omega) (by omega) fun x hx=>?_
        rw [c3,ct]
        have hlB:B.length=A.length:=by omega
        rw [hlB]
        refine Bu8 (n:=A.length) hN hf (by omega) (by omega) rfl (by omega) (by omega) (by omega) oA oB oe or (⟨hz.1,hz.2.1,Nat.le_trans hz.2.2 (B1s oe or)⟩) A.length 0 N x ((0:Int):Rat) (by omega) (by omega) hx (by have:=qi (v:=0) (by omega);omega) fun d hd=>?_
        simp only [List.drop_zero] at hd
        rw [show (((0:Int):Rat))=0 from rfl,Rat.zero_add,B7b (by omega) (by omega) (by omega)] at hd
        refine h d ?_
        have e:prQ u c p A B=Rc A p.en.l+Rc B p.re.l - coQ u c p:=by unfold prQ plB;rw [show ((ckR u c p).2==0)=true by simpa using h0,decide_eq_true g1,decide_eq_true g2];rfl
        rw [e] at hqm
        exact hd.is hqm
      · rw [decide_eq_true g1,decide_eq_false g2] at h ⊢
        exact h Apg Ia
    · rw [decide_eq_false g1] at h ⊢
      exact h Apg Ia
  · rw [decide_eq_false h0,show (!false)=true from rfl,ct]
    unfold prE prQ at h
    rw [show ((ckR u c p).2==0)=false by simpa using h0] at h
    exact h Apg Ia
theorem Bws {X:Option R} {K:LA→Int→Option R} {A B:List RatD} {f1 f2 f3 f4:Bool} (hN:4000≤N) (hf:fit 1000000 N) (ha:u.away.l.length≤1000) (hA:A.length≤30) (hB:B.length≤30) (oA:okR A) (oB:okR B) (oe:okR p.en.l) (or:okR p.re.l)
    (h:∀ d:RatD,d.is (prQ u c p A B) 20000→K d.av (prE u c p A B)=X):Aif N u.av f c p.av e (A.flatMap RatD.av) A.length f1 f2 (B.flatMap RatD.av) B.length f3 f4 K=X:=by
  have hqm:=B99 (u:=u) (c:=c) (p:=p) oA oB oe or hA hB
  rw [A2f];unfold A2e A2d
  rw [Cz,ct,pl3,ct,Bt,plt]
  refine Bm9 hN hf ha oe or fun z hz=>?_
  rw [c3,ct,Abm,Abm,Abm]
  by_cases h0:(ckR u c p).2=0
  · obtain ⟨hv,hl,hck⟩:=B4e h0
    obtain ⟨hs,hu,hc⟩:=Zo hv
    obtain ⟨l1,l2,l3⟩:=Bu5 hl
    rw [decide_eq_true h0,show (!true)=false from rfl,cf]
    unfold prE prQ plB at h
    rw [show ((ckR u c p).2==0)=true by simpa using h0] at h
    by_cases g1:(A.length:Int)=c
    · by_cases g2:(B.length:Int)=c
      · rw [decide_eq_true g1,decide_eq_true g2] at h ⊢
        rw [show ((!true)==false)=true from rfl,ct,show (cond false true (!true))=false from rfl,cf]
        unfold Anu Aie
        dsimp only
        have d1:=Bf3 oA oe
        have d2:=Bf3 oB or
        have d3:=Fb (Rc A p.en.l) (Rc B p.re.l)
        have d4:=B1s (u:=u) (c:=c) oe or
        rw [p1,B4g hN hf (by omega) (by omega) oA oe,c3,ct,p2,B4g hN hf (by omega) (by omega) oB or,c3,ct]
        simp only [b3,tk3,ct]
        rw [B3u (Hx (m:=400) (by omega)) (Hx (m:=400) (by omega)) (hf.le (by omega)),B9y (Hx (m:=801) (by omega)) (show z.is (coQ u c p) 15000 from ⟨hz.1,hz.2.1,Nat.le_trans hz.2.2 d4⟩) (hf.le (by omega)),c3,ct,b3,ct,tk3]
        refine h _ (Hx ?_)
        have e:prQ u c p A B=Rc A p.en.l+Rc B p.re.l - coQ u c p:=by unfold prQ plB;rw [show ((ckR u c p).2==0)=true by simpa using h0,decide_eq_true g1,decide_eq_true g2];rfl
        rw [e] at hqm
        exact hqm
      · rw [decide_eq_true g1,decide_eq_false g2] at h ⊢
        exact h Apg Ia
    · rw [decide_eq_false g1] at h ⊢
      exact h Apg Ia
  · rw [decide_eq_false h0,show (!false)=true from rfl,ct]
    unfold prE prQ at h
    rw [show ((ckR u c p).2==0)=false by simpa using h0] at h
    exact h Apg Ia
end
end
end Gx

namespace Gx
open Go Go.Proofs
set_option maxRecDepth 100000
section
variable {R:Type}
variable {N:Nat} {u:UnitD} {p:PlanD} {f e:Bool} {c:Int}
theorem B4h {K:Bool→Option R} {A B:List RatD} {f1 f2 f3 f4:Bool} (hN:4000≤N) (hf:fit 1000000 N) (ha:u.away.l.length≤1000) (hA:A.length≤30) (hB:B.length≤30) (oA:okR A) (oB:okR B) (oe:okR p.en.l) (or:okR p.re.l) :
    Vj N u.av f c p.av e (A.flatMap RatD.av) A.length f1 f2 (B.flatMap RatD.av) B.length f3 f4 K=K true:=by
  rw [Apt];unfold Anx Anw
  simp only [Cz,ct,Bt,pl3,plt]
  rw [A7m hN (hf.le (by omega)) ha oe or,A2k hN (hf.le (by omega)) ha oe or]
  have hqc:=B1s (u:=u) (c:=c) oe or
  refine Bu6 hN hf ha oe or fun d1 h1=>?_
  rw [c3,ct]
  refine Bm9 hN hf ha oe or fun d2 h2=>?_
  rw [c3,ct]
  refine B1t hN hf ha hA hB oA oB oe or fun d3 h3=>?_
  rw [c3,ct]
  refine Bws hN hf ha hA hB oA oB oe or fun d4 h4=>?_
  rw [c3,ct]
  simp only [b3,tk3,ct,beq_self_eq_true,ctB]
  rw [Bjc h1 h2 (hf.le (by omega)),A1d,Bjc h3 h4 (hf.le (by omega)),A1d]
  rfl
theorem Bor {l:List RatD} (hl:∀ x ∈ l,x.ok) (h:B35 l=true):okR l∧l.length≤30:=by
  simp only [B35,Bool.and_eq_true,decide_eq_true_eq,List.all_eq_true] at h
  refine ⟨fun x hx=>⟨hl x hx,rfl,?_⟩,h.1⟩
  have:=h.2 x hx
  simp only [B95,Bool.and_eq_true,decide_eq_true_eq] at this
  unfold RatD.m;omega
def mkP (ks:List Int) (en re:List RatD) (a b c:Bool):PlanD:=⟨.of ks false a,.of en false b,.of re false c⟩
theorem Cca {ks:List Int} {en re:List RatD} {a b c:Bool}:[AV.imm (Hy ks) ks.length 1 false a,.imm (en.flatMap RatD.av) en.length 3 false b,.imm (re.flatMap RatD.av) re.length 3 false c]=(mkP ks en re a b c).av:=by
  rw [← Xc];rfl
theorem A44 {K:Bool→Option R} (hf:fit 1000000 N) {ea:List UInt8} {fa g i:Int} {sg:List SegD} {av a:Bool} {m n o p' q r s t u' w x y z:Int} {aw:List Int} {aw' b:Bool} {ac ad ae ar:Int} {ks:List Int} {ax ag:Bool} {en:List RatD} {ay ca:Bool} {re:List RatD} {az da:Bool} {A:List RatD} {ba an:Bool} {B:List RatD} {bb aq:Bool}
    (h1:∀ x ∈ en,x.ok) (h2:∀ x ∈ re,x.ok) (h3:∀ x ∈ A,x.ok) (h4:∀ x ∈ B,x.ok) :
    Ho N ea fa g i (sg.flatMap SegD.av) sg.length av a m n o p' q r s t u' w x y z (Hy aw) aw.length aw' b ac ad ae ar (Hy ks) ks.length ax ag (en.flatMap RatD.av) en.length ay ca (re.flatMap RatD.av) re.length az da (A.flatMap RatD.av) A.length ba an (B.flatMap RatD.av) B.length bb aq K=K true:=by
  have hN:4000≤N:=by have:=hf.1;omega
  rw [Pi];unfold Lh Lg
  rw [Cb6,Cca,B56]
  rw [show (mkU ea fa g i sg a m n o p' q r s t u' w x y z aw b ac ad ae).away.l=aw from rfl,show (mkU ea fa g i sg a m n o p' q r s t u' w x y z aw b ac ad ae).segs.l=sg from rfl]
  by_cases g1:aw.length≤40
  · by_cases g2:sg.length≤20
    · rw [decide_eq_true g1,decide_eq_true g2,show ((!(true&&true))==false)=true from rfl,ct]
      by_cases g3:ks.length≤30
      · rw [show decide ((ks.length:Int)>30)=false by simp;omega,show ((cond false true false)==false)=true from rfl,ct,Bfy rfl (by omega)]
        cases r1:B35 en with
        | false=>rfl
        | true =>
          rw [show ((cond false true (!true))==false)=true from rfl,ct,Bfy rfl (by omega)]
          cases r2:B35 re with
          | false=>rfl
          | true =>
            rw [show ((cond false true (!true))==false)=true from rfl,ct,Bfy rfl (by omega)]
            cases r3:B35 A with
            | false=>rfl
            | true =>
              rw [show ((cond false true (!true))==false)=true from rfl,ct,Bfy rfl (by omega)]
              cases r4:B35 B with
              | false=>rfl
              | true =>
                rw [show (cond false true (!true))=false from rfl,cf,B55 (hf.le (by omega)),show (true==true)=true from rfl,ct]
                have o1:=Bor h1 r1
                have o2:=Bor h2 r2
                have o3:=Bor h3 r3
                have o4:=Bor h4 r4
                rw [B4h hN hf (by show aw.length≤1000;omega) o3.2 o4.2 o3.1 o4.1 (by exact o1.1) (by exact o2.1)]
                rfl
      · rw [show decide ((ks.length:Int)>30)=true by simp;omega];rfl
    · rw [decide_eq_false g2,Bool.and_false];rfl
  · rw [decide_eq_false g1,Bool.false_and];rfl
end
end Gx

namespace Gx
open Go Go.Proofs Go.RowKit
theorem Bj5:∀ l:List { x:RatD // x.ok },l.flatMap (fun x=>x.1.av)=(l.map (·.1)).flatMap RatD.av
  | []=>rfl
  | a::r=>by rw [List.flatMap_cons,Bj5 r];rfl
theorem B7c (l:List { x:RatD // x.ok }):∀ x ∈ l.map (·.1),x.ok:=fun x hx=>by obtain ⟨y,_,rfl⟩:=List.mem_map.1 hx;exact y.2
section
variable {W:World} {H:Type} {enc:TypeId×Value→H} {β:Cw} {h:Ak}
theorem Bu9:Opens Tryz.prog 39 (α:={ l:List RatD // ∀ x ∈ l,x.ok }) (fun l=>[.imm (l.1.flatMap RatD.av) l.1.length 3 false false]) 1 :=
  (Rt Tryz.underlying39 (by kernel_rfl) Byz).map _ (fun l=>⟨l.1.map (·.1),B7c l.1⟩) (fun l=>by show [AV.imm (l.1.flatMap (fun x=>x.1.av)) l.1.length 3 false false]=[AV.imm ((l.1.map (·.1)).flatMap RatD.av) (l.1.map (·.1)).length 3 false false];rw [Bj5,List.length_map]) (fun _=>rfl)
theorem By7 {a:Option Addr} {len cap:Nat} {d:DataW H} {p:List MemPlace} (hd:DataW.Trod enc Tryz.prog W 0 (fun _=>true) true 39 (.slice a len cap) d p) :
    ∃ l:List RatD,(∀ x ∈ l,x.ok)∧Rep (fun _ k=>k<W.heap.size) β h W (.imm (l.flatMap RatD.av) l.length 3 false false) (.slice a len cap):=by
  obtain ⟨l,_,hr⟩:=Cad (β:=β) (h:=h) Tryz.underlying39 (by kernel_rfl) Byz hd
  refine ⟨l.map (·.1),B7c l,?_⟩
  rw [← Bj5,List.length_map];exact hr
theorem B8j {v:Value} {d:DataW H} {p:List MemPlace} (hv:∃ cs,v=.agg cs) (hd:DataW.Trod enc Tryz.prog W 0 (fun _=>true) true 53 v d p) :
    ∃ (ks:List Int) (en re:List RatD),(∀ x ∈ en,x.ok)∧(∀ x ∈ re,x.ok)∧Rep (fun _ k=>k<W.heap.size) β h W (.agg [.imm (Hy ks) ks.length 1 false false,.imm (en.flatMap RatD.av) en.length 3 false false,.imm (re.flatMap RatD.av) re.length 3 false false]) v:=by
  obtain ⟨cs,rfl⟩:=hv
  obtain ⟨⟨⟨ks,_⟩,⟨en,h1⟩,⟨re,h2⟩,_⟩,hr⟩:=B3f (β:=β) (h:=h) (Uw Tryz.underlying53 (by kernel_rfl) (by decide) (A1 rfl (Rt Tryz.underlying23 (by kernel_rfl) D6) (A1 rfl Bu9 (A1 rfl Bu9 Ahs)))) hd
  refine ⟨ks,en,re,h1,h2,?_⟩
  rw [← Xc]
  exact B64 hr
end
end Gx
