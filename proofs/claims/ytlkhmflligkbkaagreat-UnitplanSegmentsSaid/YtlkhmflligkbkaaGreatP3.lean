/- A part of the proof: what it holds is said by each theorem. -/
import Derived.IntWalk
import Derived.ProofKit
import Derived.OpenShut
import Derived.ChangeOld
import Derived.Below
import Derived.Test.YtlkhmflligkbkaaGreatP2
set_option linter.unusedVariables false
namespace Gx
open Go Go.Proofs
set_option maxRecDepth 100000
noncomputable section
variable {R:Type}
def Alx (N:Nat) (r0:Bool→Option R)  (a:LA) (b:Bool):Option R :=
 (rdL 1 (List.drop 18 a) fun g d=>(cond ((decide (((d:Nat):Int)≤(40:Int)))==true) (rdL 2 (List.drop 4 a) fun i e=>(r0 (cond true (decide (((e:Nat):Int)≤(20:Int))) false))) (r0 false)))
def Aly (N:Nat) (a:LA) (b:Bool) (r0:Bool→Option R):Option R:=(Alx N r0 a b)
def Wg:=(Ai (@Aly R)).1
theorem Aoj:@Wg R=@Aly R:=(Ai _).2
def Ar1:Hints:={ H:=(hS (hR [1]) (hS (hR [2]) hL)),nils:=[],modes:=[],free:=[],cob:=[] }
def Agq (N:Nat):List (Nat×Tw):=[]
def Ab7  (F:KF R):Bool→Option R:=(fun f=>F (.bool f) [])
theorem Ab8 (N:Nat) (a:LA) (b:Bool) (F:KF R):Ac Tryz.prog muts (Agq N) Ar1 N 11 [(.pagg a b)] [] F=(Wg N a b (Ab7 F)):=by
 have hK:Ac Tryz.prog muts (Agq N) Ar1 N 11 [(.pagg a b)] [] F=(Alx N (Ab7 F) a b):=by kernel_rfl
 rw [Aoj]
 exact hK
def Oa (N:Nat) (args:List AV) (h:Aj) (k:KF R):Option R :=
 match args,h with
 | [(.pagg a b)],[]=>(Wg N a b (Ab7 k))
 | _,_=>none
def Ar2 (N:Nat):Tw:=⟨Oa N,fun args h k=>by
 unfold Oa;split
 exact twE (Ab8 ..) (Ab8 ..)
 rfl⟩
theorem Bhw (N:Nat):A1 Tryz.prog 11 (Ar2 N):=fun args h res c hh=>by
 change Oa N args h (fun v c=>some (v,c))=_ at hh
 unfold Oa at hh;split at hh
 exact Aa (T:=Agq N) trivial follows ((Ab8 ..).trans hh)
 cases hh
def A1c (N:Nat) (r0:Int→Option R)  (b a:Int):Option R :=
 (cond (a==(0:Int)) none (cond (a==(0:Int)) none (r0 (Int.tmod (IntKind.wrap .i64 ((Int.tmod b a)+a)) a))))
def A1d (N:Nat) (b a:Int) (r0:Int→Option R):Option R:=(A1c N r0 b a)
def Aw:=(Ai (@A1d R)).1
theorem Axo:@Aw R=@A1d R:=(Ai _).2
def A4d:Hints:={ H:=(hS (hR [0,1]) (hS (hR [4]) hL)),nils:=[],modes:=[],free:=[],cob:=[] }
def Ar3 (N:Nat):List (Nat×Tw):=[]
def Alz  (F:KF R):Int→Option R:=(fun d=>F (.int .i64 d) [])
theorem Al0 (N:Nat) (b a:Int) (F:KF R):Ac Tryz.prog muts (Ar3 N) A4d N 12 [(.int .i64 b),(.int .i64 a)] [] F=(Aw N b a (Alz F)):=by
 have hK:Ac Tryz.prog muts (Ar3 N) A4d N 12 [(.int .i64 b),(.int .i64 a)] [] F=(A1c N (Alz F) b a):=by kernel_rfl
 rw [Axo]
 exact hK
def Vg (N:Nat) (args:List AV) (h:Aj) (k:KF R):Option R :=
 match args,h with
 | [(.int .i64 b),(.int .i64 a)],[]=>(Aw N b a (Alz k))
 | _,_=>none
def Al1 (N:Nat):Tw:=⟨Vg N,fun args h k=>by
 unfold Vg;split
 exact twE (Al0 ..) (Al0 ..)
 rfl⟩
theorem A4e (N:Nat):A1 Tryz.prog 12 (Al1 N):=fun args h res c hh=>by
 change Vg N args h (fun v c=>some (v,c))=_ at hh
 unfold Vg at hh;split at hh
 exact Aa (T:=Ar3 N) trivial follows ((Al0 ..).trans hh)
 cases hh
def A1e (N:Nat) (r0:Int→Option R)  (b a:Int):Option R :=
 (cond (a==(0:Int)) none (cond (a==(0:Int)) none (r0 (Int.tmod (IntKind.wrap .i64 ((Int.tmod b a)+a)) a))))
def A1f (N:Nat) (b a:Int) (r0:Int→Option R):Option R:=(A1e N r0 b a)
def Fi:=(Ai (@A1f R)).1
theorem Axp:@Fi R=@A1f R:=(Ai _).2
def A4f:Hints:={ H:=(hS (hR [0,1]) (hS (hR [4]) hL)),nils:=[],modes:=[],free:=[],cob:=[] }
def Ar4 (N:Nat):List (Nat×Tw):=[]
def Al2  (F:KF R):Int→Option R:=(fun d=>F (.int .i64 d) [])
theorem Al3 (N:Nat) (b a:Int) (F:KF R):Ac Tryz.prog muts (Ar4 N) A4f N 87 [(.int .i64 b),(.int .i64 a)] [] F=(Fi N b a (Al2 F)):=by
 have hK:Ac Tryz.prog muts (Ar4 N) A4f N 87 [(.int .i64 b),(.int .i64 a)] [] F=(A1e N (Al2 F) b a):=by kernel_rfl
 rw [Axp]
 exact hK
def Vh (N:Nat) (args:List AV) (h:Aj) (k:KF R):Option R :=
 match args,h with
 | [(.int .i64 b),(.int .i64 a)],[]=>(Fi N b a (Al2 k))
 | _,_=>none
def A4g (N:Nat):Tw:=⟨Vh N,fun args h k=>by
 unfold Vh;split
 exact twE (Al3 ..) (Al3 ..)
 rfl⟩
theorem Bot (N:Nat):A1 Tryz.prog 87 (A4g N):=fun args h res c hh=>by
 change Vh N args h (fun v c=>some (v,c))=_ at hh
 unfold Vh at hh;split at hh
 exact Aa (T:=Ar4 N) trivial follows ((Al3 ..).trans hh)
 cases hh
def Al4 (N:Nat) (k1:Nat→Int→LA→Option R) (r0:Int→Int→Int→Int→Nat→Int→Int→LA→Option R) (a:List UInt8) (b c d:Int) (e:LA) (f:Nat) (g i:Bool) (j l m o p ac ad af q r ae t u:Int) (y:LA) (x:Nat) (z aa:Bool) (ab ag w:Int)   (ak:Nat) (al:Int) (am:LA):Option R :=
 (cond (Am al x) (rdI .i64 (List.drop ((Int.toNat al)*1) y) fun ay=>(Fi N ay 12 (fun az=>(cond ((Nat.ble (ak+1) 140737488355328)&&(Nat.ble ((ak+1)*8) 140737488355328)) (k1 (ak+1) (IntKind.wrap .i64 (al+(1:Int))) ((List.take (ak*1) am)++[(.int .i64 az)])) none)))) none)
def Aen (N:Nat) (k1:Nat→Int→LA→Option R) (r0:Int→Int→Int→Int→Nat→Int→Int→LA→Option R) (a:List UInt8) (b c d:Int) (e:LA) (f:Nat) (g i:Bool) (j l m o p ac ad af q r ae t u:Int) (y:LA) (x:Nat) (z aa:Bool) (ab ag w:Int) (ak:Nat) (al:Int) (am:LA):Option R:=(Al4 N k1 r0 a b c d e f g i j l m o p ac ad af q r ae t u y x z aa ab ag w ak al am)
def Al5 (N:Nat)  (r0:Int→Int→Int→Int→Nat→Int→Int→LA→Option R) (a:List UInt8) (b c d:Int) (e:LA) (f:Nat) (g i:Bool) (j l m o p ac ad af q r ae t u:Int) (y:LA) (x:Nat) (z aa:Bool) (ab ag w:Int) (k1:Nat→Int→LA→Option R) (q2:Nat→Int→LA→Option R) (ah:Nat) (ai:Int) (aj:LA):Option R :=
 (cond ((decide (ai<((x:Nat):Int)))==true) (cond (cond true (decide (ai<(4:Int))) false) (q2 ah ai aj) (r0 ac ad af ae ah ab ag aj)) (r0 ac ad af ae ah ab ag aj))
def Ii (N:Nat)  (r0:Int→Int→Int→Int→Nat→Int→Int→LA→Option R) (a:List UInt8) (b c d:Int) (e:LA) (f:Nat) (g i:Bool) (j l m o p ac ad af q r ae t u:Int) (y:LA) (x:Nat) (z aa:Bool) (ab ag w:Int):Nat→Nat→Int→LA→Option R
 | 0,_,_,_=>none
 | n+1,ah,ai,aj=>(Al5 N r0 a b c d e f g i j l m o p ac ad af q r ae t u y x z aa ab ag w (Ii N r0 a b c d e f g i j l m o p ac ad af q r ae t u y x z aa ab ag w n) (fun ak al am=>(Aen N (Ii N r0 a b c d e f g i j l m o p ac ad af q r ae t u y x z aa ab ag w n) r0 a b c d e f g i j l m o p ac ad af q r ae t u y x z aa ab ag w ak al am)) ah ai aj)
def Al6 (N:Nat)  (r0:Int→Int→Int→Int→Nat→Int→Int→LA→Option R) (a:List UInt8) (b c d:Int) (e:LA) (f:Nat) (g i:Bool) (j l m o p ac ad q r ae t u:Int) (y:LA) (x:Nat) (z aa:Bool) (ab w:Int)  (q1:Nat→Int→LA→Option R) (af ag:Int):Option R :=
 (q1 0 0 [])
def Ar5 (N:Nat)  (r0:Int→Int→Int→Int→Nat→Int→Int→LA→Option R) (a:List UInt8) (b c d:Int) (e:LA) (f:Nat) (g i:Bool) (j l m o p ac ad q r ae t u:Int) (y:LA) (x:Nat) (z aa:Bool) (ab w af ag:Int):Option R:=(Al6 N r0 a b c d e f g i j l m o p ac ad q r ae t u y x z aa ab w (fun ah ai aj=>(Ii N r0 a b c d e f g i j l m o p ac ad af q r ae t u y x z aa ab ag w N ah ai aj)) af ag)
def A8h (N:Nat) (r0:Int→Int→Int→Int→Nat→Int→Int→LA→Option R) (q0:Int→Int→Int→Int→Int→Int→Option R) (a:List UInt8) (b c d:Int) (e:LA) (f:Nat) (g i:Bool) (j l m o p an ao ap q r aq t u:Int) (y:LA) (x:Nat) (z aa:Bool) (ar au w:Int):Option R :=
 (Fi N an 4 (fun ac=>(Fi N ao 4 (fun ad=>(Fi N ap 3 (fun av=>(Fi N aq 4 (fun ae=>(Fi N ar 3 (fun ab=>(Fi N au 6 (fun aw=>(cond (ab==(1:Int)) (cond (av==(0:Int)) (Fi N (IntKind.wrap .i64 ((1:Int)+aw)) 1 (fun ba=>(q0 ac ad ae ab 1 (IntKind.wrap .i64 ((1:Int)+ba))))) (Fi N (IntKind.wrap .i64 ((1:Int)+aw)) av (fun bb=>(q0 ac ad ae ab av (IntKind.wrap .i64 ((1:Int)+bb)))))) (q0 ac ad ae ab av (IntKind.wrap .i64 ((1:Int)+aw))))))))))))))))
def A8i (N:Nat) (a:List UInt8) (b c d:Int) (e:LA) (f:Nat) (g i:Bool) (j l m o p an ao ap q r aq t u:Int) (y:LA) (x:Nat) (z aa:Bool) (ar au w:Int) (r0:Int→Int→Int→Int→Nat→Int→Int→LA→Option R):Option R:=(A8h N r0 (fun ac ad ae ab af ag=>(Ar5 N r0 a b c d e f g i j l m o p ac ad q r ae t u y x z aa ab w af ag)) a b c d e f g i j l m o p an ao ap q r aq t u y x z aa ar au w)
def Ar6:=(Ai (@A8i R)).1
theorem A4h:@Ar6 R=@A8i R:=(Ai _).2
def Aeo:Hints:={ H:=(hS (hR [1,2]) (hS (hR [1,2]) (hS (hR [1,2]) (hJ (hS (hR [1,2,32]) (hN [1,2] (hS (hS (hR [1,2,35]) (hN [1,2] (hR [1,2]) hL)) (hR [1,2])) hL)) (hS (hR [1,2,3]) (hS (hS (hR [1,2,3,4]) (hN [1,2,3] (hN [1,2,3,4] (hJ (hS (hR [1,2,3,4,52]) (hN [1,2,3,4] hL hL)) (hS (hN [1,2,3,4] (hR [1,2,3,4]) hL) (hR [1,2,3,4]))) hL) hL)) (hS (hR [1,2]) (hS (hR [2]) hL)))))))),nils:=[(3,1)],modes:=[],free:=[],cob:=[] }
def Al7 (N:Nat):List (Nat×Tw):=[(87,A4g N)]
def K6 (N:Nat):Env:=mkE 67 Aeo (Al7 N)
def Bou (N:Nat) (F:KF R):=Aq (K6 N) Tryz.f44 Aeo.modes [] F
def Pm (N:Nat) (F:KF R):=atF (K6 N) [] N Tryz.f44 Aeo (Bou N F)
def Ea (a:List UInt8) (b c d:Int) (e:LA) (f:Nat) (g i:Bool) (j l m o p q r t u w:Int) (F:KF R):Int→Int→Int→Int→Nat→Int→Int→LA→Option R:=(fun bc bd be bf bg bh bi bj=>F (.agg [(.str a),(.int .i64 b),(.int .i64 c),(.int .i64 d),(.imm e f 2 g i),(.int .i64 j),(.int .i64 l),(.int .i64 m),(.int .i64 o),(.int .i64 p),(.int .i64 bc),(.int .i64 bd),(.int .i64 be),(.int .i64 q),(.int .i64 r),(.int .i64 bf),(.int .i64 t),(.int .i64 u),(.own 300000 0 bg),(.int .i64 bh),(.int .i64 bi),(.int .i64 w)]) [(300000,⟨false,false,true,false,1,bj,false⟩)])
def Aep (a:List UInt8) (b c d:Int) (e:LA) (f:Nat) (g i:Bool) (j l m o p ac ad af q r ae t u:Int) (y:LA) (x:Nat) (z aa:Bool) (ab ag w:Int) (ak:Nat) (al:Int) (am:LA):St:={ s:=[(1,(.optr 300000 0)),(2,(.optr 300001 0)),(3,(.own 300002 0 ak)),(4,(.int .i64 al))],h:=[(300000,⟨false,false,false,false,0,[(.str a),(.int .i64 b),(.int .i64 c),(.int .i64 d),(.imm e f 2 g i),(.int .i64 j),(.int .i64 l),(.int .i64 m),(.int .i64 o),(.int .i64 p),(.int .i64 ac),(.int .i64 ad),(.int .i64 af),(.int .i64 q),(.int .i64 r),(.int .i64 ae),(.int .i64 t),(.int .i64 u),(.imm y x 1 z aa),(.int .i64 ab),(.int .i64 ag),(.int .i64 w)],false⟩),(300001,⟨false,false,false,false,0,[(.str ([]:List UInt8)),(.int .i64 0),(.int .i64 0),(.int .i64 0),.nsl,(.int .i64 0),(.int .i64 0),(.int .i64 0),(.int .i64 0),(.int .i64 0),(.int .i64 0),(.int .i64 0),(.int .i64 0),(.int .i64 0),(.int .i64 0),(.int .i64 0),(.int .i64 0),(.int .i64 0),.nsl,(.int .i64 0),(.int .i64 0),(.int .i64 0)],false⟩),(300002,⟨false,false,true,false,1,am,false⟩)] }
def Bbd (N:Nat) (F:KF R) (Q1:St→Option R):St→Option R:=Bm (K6 N) [] N (Pm N F [1,1,1,1,1,0,1,0,0,1] [Q1])
def Bbe (N:Nat) (F:KF R) (Q1:St→Option R):St→Option R:=Bq (K6 N) [] N (Pm N F [1,1,1,1,1,0,1,0,0,1] [Q1])
def Ij (a:List UInt8) (b c d:Int) (e:LA) (f:Nat) (g i:Bool) (j l m o p ac ad af q r ae t u:Int) (y:LA) (x:Nat) (z aa:Bool) (ab ag w:Int) (ah:Nat) (ai:Int) (aj:LA):St:={ s:=[(1,(.optr 300000 0)),(2,(.optr 300001 0)),(3,(.own 300002 0 ah)),(4,(.int .i64 ai))],h:=[(300000,⟨false,false,false,false,0,[(.str a),(.int .i64 b),(.int .i64 c),(.int .i64 d),(.imm e f 2 g i),(.int .i64 j),(.int .i64 l),(.int .i64 m),(.int .i64 o),(.int .i64 p),(.int .i64 ac),(.int .i64 ad),(.int .i64 af),(.int .i64 q),(.int .i64 r),(.int .i64 ae),(.int .i64 t),(.int .i64 u),(.imm y x 1 z aa),(.int .i64 ab),(.int .i64 ag),(.int .i64 w)],false⟩),(300001,⟨false,false,false,false,0,[(.str ([]:List UInt8)),(.int .i64 0),(.int .i64 0),(.int .i64 0),.nsl,(.int .i64 0),(.int .i64 0),(.int .i64 0),(.int .i64 0),(.int .i64 0),(.int .i64 0),(.int .i64 0),(.int .i64 0),(.int .i64 0),(.int .i64 0),(.int .i64 0),(.int .i64 0),(.int .i64 0),.nsl,(.int .i64 0),(.int .i64 0),(.int .i64 0)],false⟩),(300002,⟨false,false,true,false,1,aj,false⟩)] }
def Bbf (N:Nat) (F:KF R):St→Option R:=Bx (K6 N) [] N (Pm N F [1,1,1,1,1,0,1,0] []) N
def K7 (N:Nat) (F:KF R) (n:Nat):St→Option R:=Ba (K6 N) [] N (Pm N F [1,1,1,1,1,0,1,0] []) n
def Aeq (a:List UInt8) (b c d:Int) (e:LA) (f:Nat) (g i:Bool) (j l m o p ac ad q r ae t u:Int) (y:LA) (x:Nat) (z aa:Bool) (ab w af ag:Int):St:={ s:=[(1,(.optr 300000 0)),(2,(.optr 300001 0))],h:=[(300000,⟨false,false,false,false,0,[(.str a),(.int .i64 b),(.int .i64 c),(.int .i64 d),(.imm e f 2 g i),(.int .i64 j),(.int .i64 l),(.int .i64 m),(.int .i64 o),(.int .i64 p),(.int .i64 ac),(.int .i64 ad),(.int .i64 af),(.int .i64 q),(.int .i64 r),(.int .i64 ae),(.int .i64 t),(.int .i64 u),(.imm y x 1 z aa),(.int .i64 ab),(.int .i64 ag),(.int .i64 w)],false⟩),(300001,⟨false,false,false,false,0,[(.str ([]:List UInt8)),(.int .i64 0),(.int .i64 0),(.int .i64 0),.nsl,(.int .i64 0),(.int .i64 0),(.int .i64 0),(.int .i64 0),(.int .i64 0),(.int .i64 0),(.int .i64 0),(.int .i64 0),(.int .i64 0),(.int .i64 0),(.int .i64 0),(.int .i64 0),(.int .i64 0),.nsl,(.int .i64 0),(.int .i64 0),(.int .i64 0)],false⟩)] }
def Bbg (N:Nat) (F:KF R):St→Option R:=Bm (K6 N) [] N (Pm N F [1,1,1,1] [])
def Bbh (N:Nat) (F:KF R):St→Option R:=Bq (K6 N) [] N (Pm N F [1,1,1,1] [])
theorem Bhx (N:Nat) (Q1:St→Option R) (F:KF R) (a:List UInt8) (b c d:Int) (e:LA) (f:Nat) (g i:Bool) (j l m o p ac ad af q r ae t u:Int) (y:LA) (x:Nat) (z aa:Bool) (ab ag w:Int):∀ (ak:Nat) (al:Int) (am:LA),Bbe N F Q1 (Aep a b c d e f g i j l m o p ac ad af q r ae t u y x z aa ab ag w ak al am)=(Aen N (fun ah ai aj=>Q1 (Ij a b c d e f g i j l m o p ac ad af q r ae t u y x z aa ab ag w ah ai aj)) (Ea a b c d e f g i j l m o p q r t u w F) a b c d e f g i j l m o p ac ad af q r ae t u y x z aa ab ag w ak al am):=by
 intro ak al am
 have hK:Bbe N F Q1 (Aep a b c d e f g i j l m o p ac ad af q r ae t u y x z aa ab ag w ak al am)=(Al4 N (fun ah ai aj=>Q1 (Ij a b c d e f g i j l m o p ac ad af q r ae t u y x z aa ab ag w ah ai aj)) (Ea a b c d e f g i j l m o p q r t u w F) a b c d e f g i j l m o p ac ad af q r ae t u y x z aa ab ag w ak al am):=by kernel_rfl
 exact hK
theorem Bhy (N:Nat)  (F:KF R) (a:List UInt8) (b c d:Int) (e:LA) (f:Nat) (g i:Bool) (j l m o p ac ad af q r ae t u:Int) (y:LA) (x:Nat) (z aa:Bool) (ab ag w:Int):∀ (n ah:Nat) (ai:Int) (aj:LA),K7 N F n (Ij a b c d e f g i j l m o p ac ad af q r ae t u y x z aa ab ag w ah ai aj)=(Ii N (Ea a b c d e f g i j l m o p q r t u w F) a b c d e f g i j l m o p ac ad af q r ae t u y x z aa ab ag w n ah ai aj):=by
 intro n
 induction n with
 | zero=>intros;kernel_rfl
 | succ n ih =>
  intro ah ai aj
  have e0:=funext fun ah=>funext fun ai=>funext fun aj=>(show K7 N F n (Ij a b c d e f g i j l m o p ac ad af q r ae t u y x z aa ab ag w ah ai aj)=_ from ih ah ai aj)
  have e1:(fun ak al am=>Bbd N F (K7 N F n) (Aep a b c d e f g i j l m o p ac ad af q r ae t u y x z aa ab ag w ak al am))=(fun ak al am=>(Aen N (Ii N (Ea a b c d e f g i j l m o p q r t u w F) a b c d e f g i j l m o p ac ad af q r ae t u y x z aa ab ag w n) (Ea a b c d e f g i j l m o p q r t u w F) a b c d e f g i j l m o p ac ad af q r ae t u y x z aa ab ag w ak al am)):=by funext ak;funext al;funext am;exact ((As ..).trans (Bhx N (K7 N F n) F a b c d e f g i j l m o p ac ad af q r ae t u y x z aa ab ag w ak al am)).trans (by rw [e0])
  have hK:K7 N F (n+1) (Ij a b c d e f g i j l m o p ac ad af q r ae t u y x z aa ab ag w ah ai aj)=(Al5 N (Ea a b c d e f g i j l m o p q r t u w F) a b c d e f g i j l m o p ac ad af q r ae t u y x z aa ab ag w (fun ah ai aj=>K7 N F n (Ij a b c d e f g i j l m o p ac ad af q r ae t u y x z aa ab ag w ah ai aj)) (fun ak al am=>Bbd N F (K7 N F n) (Aep a b c d e f g i j l m o p ac ad af q r ae t u y x z aa ab ag w ak al am)) ah ai aj):=by kernel_rfl
  exact hK.trans (by rw [e0,e1];rfl)
theorem Bhz (N:Nat)  (F:KF R) (a:List UInt8) (b c d:Int) (e:LA) (f:Nat) (g i:Bool) (j l m o p ac ad q r ae t u:Int) (y:LA) (x:Nat) (z aa:Bool) (ab w:Int):∀ (af ag:Int),Bbh N F (Aeq a b c d e f g i j l m o p ac ad q r ae t u y x z aa ab w af ag)=(Ar5 N (Ea a b c d e f g i j l m o p q r t u w F) a b c d e f g i j l m o p ac ad q r ae t u y x z aa ab w af ag):=by
 intro af ag
 have e1:=funext fun ah=>funext fun ai=>funext fun aj=>(show Bbf N F (Ij a b c d e f g i j l m o p ac ad af q r ae t u y x z aa ab ag w ah ai aj)=_ from (Ar ..).trans (Bhy N F a b c d e f g i j l m o p ac ad af q r ae t u y x z aa ab ag w N ah ai aj))
 have hK:Bbh N F (Aeq a b c d e f g i j l m o p ac ad q r ae t u y x z aa ab w af ag)=(Al6 N (Ea a b c d e f g i j l m o p q r t u w F) a b c d e f g i j l m o p ac ad q r ae t u y x z aa ab w (fun ah ai aj=>Bbf N F (Ij a b c d e f g i j l m o p ac ad af q r ae t u y x z aa ab ag w ah ai aj)) af ag):=by kernel_rfl
 exact hK.trans (by rw [e1];rfl)
theorem Ar7 (N:Nat) (a:List UInt8) (b c d:Int) (e:LA) (f:Nat) (g i:Bool) (j l m o p an ao ap q r aq t u:Int) (y:LA) (x:Nat) (z aa:Bool) (ar au w:Int) (F:KF R):Ac Tryz.prog muts (Al7 N) Aeo N 44 [(.agg [(.str a),(.int .i64 b),(.int .i64 c),(.int .i64 d),(.imm e f 2 g i),(.int .i64 j),(.int .i64 l),(.int .i64 m),(.int .i64 o),(.int .i64 p),(.int .i64 an),(.int .i64 ao),(.int .i64 ap),(.int .i64 q),(.int .i64 r),(.int .i64 aq),(.int .i64 t),(.int .i64 u),(.imm y x 1 z aa),(.int .i64 ar),(.int .i64 au),(.int .i64 w)])] [] F=(Ar6 N a b c d e f g i j l m o p an ao ap q r aq t u y x z aa ar au w (Ea a b c d e f g i j l m o p q r t u w F)):=by
 have e1:=funext fun ac=>funext fun ad=>funext fun ae=>funext fun ab=>funext fun af=>funext fun ag=>(show Bbg N F (Aeq a b c d e f g i j l m o p ac ad q r ae t u y x z aa ab w af ag)=_ from (As ..).trans (Bhz N F a b c d e f g i j l m o p ac ad q r ae t u y x z aa ab w af ag))
 have hK:Ac Tryz.prog muts (Al7 N) Aeo N 44 [(.agg [(.str a),(.int .i64 b),(.int .i64 c),(.int .i64 d),(.imm e f 2 g i),(.int .i64 j),(.int .i64 l),(.int .i64 m),(.int .i64 o),(.int .i64 p),(.int .i64 an),(.int .i64 ao),(.int .i64 ap),(.int .i64 q),(.int .i64 r),(.int .i64 aq),(.int .i64 t),(.int .i64 u),(.imm y x 1 z aa),(.int .i64 ar),(.int .i64 au),(.int .i64 w)])] [] F=(A8h N (Ea a b c d e f g i j l m o p q r t u w F) (fun ac ad ae ab af ag=>Bbg N F (Aeq a b c d e f g i j l m o p ac ad q r ae t u y x z aa ab w af ag)) a b c d e f g i j l m o p an ao ap q r aq t u y x z aa ar au w):=by kernel_rfl
 rw [A4h]
 exact hK.trans (by rw [e1];rfl)
def Yz (N:Nat) (args:List AV) (h:Aj) (k:KF R):Option R :=
 match args,h with
 | [(.agg [(.str a),(.int .i64 b),(.int .i64 c),(.int .i64 d),(.imm e f 2 g i),(.int .i64 j),(.int .i64 l),(.int .i64 m),(.int .i64 o),(.int .i64 p),(.int .i64 an),(.int .i64 ao),(.int .i64 ap),(.int .i64 q),(.int .i64 r),(.int .i64 aq),(.int .i64 t),(.int .i64 u),(.imm y x 1 z aa),(.int .i64 ar),(.int .i64 au),(.int .i64 w)])],[]=>(Ar6 N a b c d e f g i j l m o p an ao ap q r aq t u y x z aa ar au w (Ea a b c d e f g i j l m o p q r t u w k))
 | _,_=>none
def Bbi (N:Nat):Tw:=⟨Yz N,fun args h k=>by
 unfold Yz;split
 exact twE (Ar7 ..) (Ar7 ..)
 rfl⟩
theorem Bqv (N:Nat):A1 Tryz.prog 44 (Bbi N):=fun args h res ax hh=>by
 change Yz N args h (fun v ax=>some (v,ax))=_ at hh
 unfold Yz at hh;split at hh
 exact Aa (T:=Al7 N) ⟨Bot N,trivial⟩ follows ((Ar7 ..).trans hh)
 cases hh
def Al8 (N:Nat)  (r0:Bool→Option R) (b:LA) (a:Nat) (d e:Bool) (c:Int) (k0:Int→Option R)  (f:Int):Option R :=
 (cond (decide (f<((a:Nat):Int))) (cond (Am f a) (rdI .i64 (List.drop ((Int.toNat f)*1) b) fun i=>(cond (i==c) (r0 true) (k0 (IntKind.wrap .i64 (f+(1:Int)))))) none) (r0 false))
def Z2 (N:Nat)  (r0:Bool→Option R) (b:LA) (a:Nat) (d e:Bool) (c:Int):Nat→Int→Option R
 | 0,_=>none
 | n+1,f=>(Al8 N r0 b a d e c (Z2 N r0 b a d e c n) f)
def Bov (N:Nat) (r0:Bool→Option R) (q0:Int→Option R) (b:LA) (a:Nat) (d e:Bool) (c:Int):Option R :=
 (q0 0)
def Bow (N:Nat) (b:LA) (a:Nat) (d e:Bool) (c:Int) (r0:Bool→Option R):Option R:=(Bov N r0 (fun f=>(Z2 N r0 b a d e c N f)) b a d e c)
def Bh0:=(Ai (@Bow R)).1
theorem Bh1:@Bh0 R=@Bow R:=(Ai _).2
def Avo:Hints:={ H:=(hS (hR [0,1]) (hS (hS (hR [0,1,5]) (hS (hN [0,1,5] (hS (hS (hR [0,1,5,9]) (hN [0,1,5] hL hL)) (hS (hN [0,1,5] (hS (hR [0,1,5,17]) (hN [0,1,5] (hS (hR [4]) hL) hL)) hL) (hR [0,1,5]))) hL) hL)) (hS (hR [4]) hL))),nils:=[],modes:=[],free:=[],cob:=[] }
def A4i (N:Nat):List (Nat×Tw):=[]
def A4j (N:Nat):Env:=mkE 18 Avo (A4i N)
def Bs2 (N:Nat) (F:KF R):=Aq (A4j N) Tryz.f45 Avo.modes [] F
def Bmf (N:Nat) (F:KF R):=atF (A4j N) [] N Tryz.f45 Avo (Bs2 N F)
def Aik  (F:KF R):Bool→Option R:=(fun j=>F (.bool j) [])
def Z3 (b:LA) (a:Nat) (d e:Bool) (c f:Int):St:={ s:=[(0,(.imm b a 1 d e)),(1,(.int .i64 c)),(5,(.int .i64 f))],h:=[] }
def Bmg (N:Nat) (F:KF R):St→Option R:=Bx (A4j N) [] N (Bmf N F [1,0,1,0] []) N
def Avp (N:Nat) (F:KF R) (n:Nat):St→Option R:=Ba (A4j N) [] N (Bmf N F [1,0,1,0] []) n
theorem Box (N:Nat)  (F:KF R) (b:LA) (a:Nat) (d e:Bool) (c:Int):∀ (n:Nat) (f:Int),Avp N F n (Z3 b a d e c f)=(Z2 N (Aik F) b a d e c n f):=by
 intro n
 induction n with
 | zero=>intros;kernel_rfl
 | succ n ih =>
  intro f
  have e0:=funext fun f=>(show Avp N F n (Z3 b a d e c f)=_ from ih f)
  have hK:Avp N F (n+1) (Z3 b a d e c f)=(Al8 N (Aik F) b a d e c (fun f=>Avp N F n (Z3 b a d e c f)) f):=by kernel_rfl
  exact hK.trans (by rw [e0];rfl)
theorem A8j (N:Nat) (b:LA) (a:Nat) (d e:Bool) (c:Int) (F:KF R):Ac Tryz.prog muts (A4i N) Avo N 45 [(.imm b a 1 d e),(.int .i64 c)] [] F=(Bh0 N b a d e c (Aik F)):=by
 have e1:=funext fun f=>(show Bmg N F (Z3 b a d e c f)=_ from (Ar ..).trans (Box N F b a d e c N f))
 have hK:Ac Tryz.prog muts (A4i N) Avo N 45 [(.imm b a 1 d e),(.int .i64 c)] [] F=(Bov N (Aik F) (fun f=>Bmg N F (Z3 b a d e c f)) b a d e c):=by kernel_rfl
 rw [Bh1]
 exact hK.trans (by rw [e1];rfl)
def Al9 (N:Nat) (args:List AV) (h:Aj) (k:KF R):Option R :=
 match args,h with
 | [(.imm b a 1 d e),(.int .i64 c)],[]=>(Bh0 N b a d e c (Aik k))
 | _,_=>none
def Bmh (N:Nat):Tw:=⟨Al9 N,fun args h k=>by
 unfold Al9;split
 exact twE (A8j ..) (A8j ..)
 rfl⟩
theorem Bve (N:Nat):A1 Tryz.prog 45 (Bmh N):=fun args h res g hh=>by
 change Al9 N args h (fun v g=>some (v,g))=_ at hh
 unfold Al9 at hh;split at hh
 exact Aa (T:=A4i N) trivial follows ((A8j ..).trans hh)
 cases hh
end
end Gx

namespace Gx
open Go Go.Proofs
set_option maxRecDepth 100000
noncomputable section
variable {R:Type}
def Ama (N:Nat) (k2:Nat→Int→Int→LA→Option R) (r0:Int→Int→Int→Int→Nat→Int→Int→LA→Option R) (r1:Int→Int→Nat→Int→Int→Int→Int→Int→Int→Int→Int→Int→Int→Int→Int→Int→Nat→Int→Int→Int→LA→LA→Option R) (a:List UInt8) (b af:Int) (d:LA) (c:Nat) (r t:Bool) (e f g i j y z aa l m ab o p:Int) (ad:Nat) (x ac q:Int) (ae:LA) (u w:Int)   (am:Nat) (an ar:Int) (aq:LA):Option R :=
 (cond (Am an c) (rdI .i64 (List.drop ((Int.toNat an)*2) d) fun ci=>(Aw N ci 20 (fun be=>(cond (Am an c) (rdI .i64 (List.drop 1 (List.drop ((Int.toNat an)*2) d)) fun cj=>(Aw N cj 8 (fun bn=>(cond (decide (an>(0:Int))) (cond (Am (IntKind.wrap .i64 (an - (1:Int))) am) (rdI .i64 (List.drop ((0+((Int.toNat (IntKind.wrap .i64 (an - (1:Int))))*2))+1) aq) fun ck=>(cond ((Nat.ble (am+1) 140737488355328)&&(Nat.ble ((am+1)*16) 140737488355328)) (k2 (am+1) (IntKind.wrap .i64 (an+(1:Int))) (IntKind.wrap .i64 (ar+(IntKind.wrap .i64 ((1:Int)+be)))) ((List.take (am*2) aq)++[(.int .i64 (IntKind.wrap .i64 ((1:Int)+be))),(.int .i64 (IntKind.wrap .i64 (bn+ck)))])) none)) none) (cond ((Nat.ble (am+1) 140737488355328)&&(Nat.ble ((am+1)*16) 140737488355328)) (k2 (am+1) (IntKind.wrap .i64 (an+(1:Int))) (IntKind.wrap .i64 (ar+(IntKind.wrap .i64 ((1:Int)+be)))) ((List.take (am*2) aq)++[(.int .i64 (IntKind.wrap .i64 ((1:Int)+be))),(.int .i64 (IntKind.wrap .i64 (bn - (3:Int))))])) none))))) none)))) none)
def Aer (N:Nat) (k2:Nat→Int→Int→LA→Option R) (r0:Int→Int→Int→Int→Nat→Int→Int→LA→Option R) (r1:Int→Int→Nat→Int→Int→Int→Int→Int→Int→Int→Int→Int→Int→Int→Int→Int→Nat→Int→Int→Int→LA→LA→Option R) (a:List UInt8) (b af:Int) (d:LA) (c:Nat) (r t:Bool) (e f g i j y z aa l m ab o p:Int) (ad:Nat) (x ac q:Int) (ae:LA) (u w:Int) (am:Nat) (an ar:Int) (aq:LA):Option R:=(Ama N k2 r0 r1 a b af d c r t e f g i j y z aa l m ab o p ad x ac q ae u w am an ar aq)
def Amb (N:Nat)  (r0:Int→Int→Int→Int→Nat→Int→Int→LA→Option R) (r1:Int→Int→Nat→Int→Int→Int→Int→Int→Int→Int→Int→Int→Int→Int→Int→Int→Nat→Int→Int→Int→LA→LA→Option R) (a:List UInt8) (b af:Int) (d:LA) (c:Nat) (r t:Bool) (e f g i j y z aa l m ab o p:Int) (ad:Nat) (x ac q:Int) (ae:LA) (u w:Int) (k2:Nat→Int→Int→LA→Option R) (q3:Nat→Int→Int→LA→Option R) (ak:Nat) (ao aj:Int) (al:LA):Option R :=
 (cond ((decide (ao<((c:Nat):Int)))==true) (cond (cond true (decide (ao<(3:Int))) false) (q3 ak ao aj al) (Aw N f 25 (fun bo=>(Aw N g 25 (fun bp=>(Aw N i (IntKind.wrap .i64 ((IntKind.wrap .i64 (aj - af))+(1:Int))) (fun bq=>(Aw N j (IntKind.wrap .i64 ((IntKind.wrap .i64 (aj - af))+(1:Int))) (fun br=>(Aw N e 30 (fun bs=>(Aw N l 50 (fun bt=>(Aw N m 90 (fun bu=>(Aw N p 4 (fun bv=>(Aw N o 12 (fun bw=>(cond (x==(2:Int)) (Aw N q (IntKind.wrap .i64 ((IntKind.wrap .i64 (aj - af))+(1:Int))) (fun cl=>(r1 af aj ak bs (IntKind.wrap .i64 ((1:Int)+bo)) (IntKind.wrap .i64 ((1:Int)+bp)) (IntKind.wrap .i64 (af+bq)) (IntKind.wrap .i64 (af+br)) y z aa bt bu ab bw bv ad x ac (IntKind.wrap .i64 (af+cl)) al ae))) (r1 af aj ak bs (IntKind.wrap .i64 ((1:Int)+bo)) (IntKind.wrap .i64 ((1:Int)+bp)) (IntKind.wrap .i64 (af+bq)) (IntKind.wrap .i64 (af+br)) y z aa bt bu ab bw bv ad x ac 0 al ae))))))))))))))))))))) (Aw N f 25 (fun bx=>(Aw N g 25 (fun bz=>(Aw N i (IntKind.wrap .i64 ((IntKind.wrap .i64 (aj - af))+(1:Int))) (fun ca=>(Aw N j (IntKind.wrap .i64 ((IntKind.wrap .i64 (aj - af))+(1:Int))) (fun cb=>(Aw N e 30 (fun cc=>(Aw N l 50 (fun cd=>(Aw N m 90 (fun ce=>(Aw N p 4 (fun cf=>(Aw N o 12 (fun cg=>(cond (x==(2:Int)) (Aw N q (IntKind.wrap .i64 ((IntKind.wrap .i64 (aj - af))+(1:Int))) (fun cm=>(r1 af aj ak cc (IntKind.wrap .i64 ((1:Int)+bx)) (IntKind.wrap .i64 ((1:Int)+bz)) (IntKind.wrap .i64 (af+ca)) (IntKind.wrap .i64 (af+cb)) y z aa cd ce ab cg cf ad x ac (IntKind.wrap .i64 (af+cm)) al ae))) (r1 af aj ak cc (IntKind.wrap .i64 ((1:Int)+bx)) (IntKind.wrap .i64 ((1:Int)+bz)) (IntKind.wrap .i64 (af+ca)) (IntKind.wrap .i64 (af+cb)) y z aa cd ce ab cg cf ad x ac 0 al ae)))))))))))))))))))))
def Ik (N:Nat)  (r0:Int→Int→Int→Int→Nat→Int→Int→LA→Option R) (r1:Int→Int→Nat→Int→Int→Int→Int→Int→Int→Int→Int→Int→Int→Int→Int→Int→Nat→Int→Int→Int→LA→LA→Option R) (a:List UInt8) (b af:Int) (d:LA) (c:Nat) (r t:Bool) (e f g i j y z aa l m ab o p:Int) (ad:Nat) (x ac q:Int) (ae:LA) (u w:Int):Nat→Nat→Int→Int→LA→Option R
 | 0,_,_,_,_=>none
 | n+1,ak,ao,aj,al=>(Amb N r0 r1 a b af d c r t e f g i j y z aa l m ab o p ad x ac q ae u w (Ik N r0 r1 a b af d c r t e f g i j y z aa l m ab o p ad x ac q ae u w n) (fun am an ar aq=>(Aer N (Ik N r0 r1 a b af d c r t e f g i j y z aa l m ab o p ad x ac q ae u w n) r0 r1 a b af d c r t e f g i j y z aa l m ab o p ad x ac q ae u w am an ar aq)) ak ao aj al)
def Y0 (N:Nat)  (r0:Int→Int→Int→Int→Nat→Int→Int→LA→Option R) (r1:Int→Int→Nat→Int→Int→Int→Int→Int→Int→Int→Int→Int→Int→Int→Int→Int→Nat→Int→Int→Int→LA→LA→Option R) (ag:Int) (a:List UInt8) (b u w:Int) (d:LA) (c:Nat) (r t:Bool) (e f g i j y z aa l m ab o p:Int) (ah:Nat) (x ac q:Int) (ai:LA) (k1:Nat→Int→LA→Option R) (q2:Int→Nat→Int→Int→LA→Option R) (ad:Nat) (ap:Int) (ae:LA):Option R :=
 (cond (decide (ap<ag)) (cond ((decide (((ad:Nat):Int)<(2:Int)))==true) (Bh0 N (List.take (ah*1) ai) ah false true ap (fun cn=>(cond (cond true cn false) (cond ((Nat.ble (ad+1) 140737488355328)&&(Nat.ble ((ad+1)*8) 140737488355328)) (k1 (ad+1) (IntKind.wrap .i64 (ap+(1:Int))) ((List.take (ad*1) ae)++[(.int .i64 ap)])) none) (k1 ad (IntKind.wrap .i64 (ap+(1:Int))) ae)))) (k1 ad (IntKind.wrap .i64 (ap+(1:Int))) ae)) (Aw N u 20 (fun af=>(q2 af 0 0 af []))))
def K8 (N:Nat)  (r0:Int→Int→Int→Int→Nat→Int→Int→LA→Option R) (r1:Int→Int→Nat→Int→Int→Int→Int→Int→Int→Int→Int→Int→Int→Int→Int→Int→Nat→Int→Int→Int→LA→LA→Option R) (ag:Int) (a:List UInt8) (b u w:Int) (d:LA) (c:Nat) (r t:Bool) (e f g i j y z aa l m ab o p:Int) (ah:Nat) (x ac q:Int) (ai:LA):Nat→Nat→Int→LA→Option R
 | 0,_,_,_=>none
 | n+1,ad,ap,ae=>(Y0 N r0 r1 ag a b u w d c r t e f g i j y z aa l m ab o p ah x ac q ai (K8 N r0 r1 ag a b u w d c r t e f g i j y z aa l m ab o p ah x ac q ai n) (fun af ak ao aj al=>(Ik N r0 r1 a b af d c r t e f g i j y z aa l m ab o p ad x ac q ae u w N ak ao aj al)) ad ap ae)
def Amc (N:Nat)  (r0:Int→Int→Int→Int→Nat→Int→Int→LA→Option R) (r1:Int→Int→Nat→Int→Int→Int→Int→Int→Int→Int→Int→Int→Int→Int→Int→Int→Nat→Int→Int→Int→LA→LA→Option R) (ag:Int) (a:List UInt8) (b u w:Int) (d:LA) (c:Nat) (r t:Bool) (e f g i j y z aa l m ab o p:Int) (ah:Nat) (x ac q:Int) (ai:LA)  (q1:Nat→Int→LA→Option R) :Option R :=
 (q1 0 0 [])
def Ar8 (N:Nat)  (r0:Int→Int→Int→Int→Nat→Int→Int→LA→Option R) (r1:Int→Int→Nat→Int→Int→Int→Int→Int→Int→Int→Int→Int→Int→Int→Int→Int→Nat→Int→Int→Int→LA→LA→Option R) (ag:Int) (a:List UInt8) (b u w:Int) (d:LA) (c:Nat) (r t:Bool) (e f g i j y z aa l m ab o p:Int) (ah:Nat) (x ac q:Int) (ai:LA) :Option R:=(Amc N r0 r1 ag a b u w d c r t e f g i j y z aa l m ab o p ah x ac q ai (fun ad ap ae=>(K8 N r0 r1 ag a b u w d c r t e f g i j y z aa l m ab o p ah x ac q ai N ad ap ae)))
def A8k (N:Nat) (r0:Int→Int→Int→Int→Nat→Int→Int→LA→Option R) (r1:Int→Int→Nat→Int→Int→Int→Int→Int→Int→Int→Int→Int→Int→Int→Int→Int→Nat→Int→Int→Int→LA→LA→Option R) (q0:Int→Int→Int→Int→Nat→Int→Int→LA→Option R) (a:List UInt8) (b u w:Int) (d:LA) (c:Nat) (r t:Bool) (e f g i j au av aw l m ax o p:Int) (ay:LA) (az:Nat) (ba bb:Bool) (bc bd q ag:Int):Option R :=
 (Ar6 N a b u w d c r t e f g i j au av aw l m ax o p ay az ba bb bc bd q (fun y z aa ab ah x ac ai=>(cond ((decide (ag<(1:Int)))==false) (cond (cond false true (decide (ag>(24:Int)))) (r0 y z aa ab ah x ac ai) (q0 y z aa ab ah x ac ai)) (r0 y z aa ab ah x ac ai))))
def A8l (N:Nat) (a:List UInt8) (b u w:Int) (d:LA) (c:Nat) (r t:Bool) (e f g i j au av aw l m ax o p:Int) (ay:LA) (az:Nat) (ba bb:Bool) (bc bd q ag:Int) (r0:Int→Int→Int→Int→Nat→Int→Int→LA→Option R) (r1:Int→Int→Nat→Int→Int→Int→Int→Int→Int→Int→Int→Int→Int→Int→Int→Int→Nat→Int→Int→Int→LA→LA→Option R):Option R:=(A8k N r0 r1 (fun y z aa ab ah x ac ai=>(Ar8 N r0 r1 ag a b u w d c r t e f g i j y z aa l m ab o p ah x ac q ai)) a b u w d c r t e f g i j au av aw l m ax o p ay az ba bb bc bd q ag)
def Ar9:=(Ai (@A8l R)).1
theorem A4k:@Ar9 R=@A8l R:=(Ai _).2
def Aes:Hints:={ H:=(hS (hR [1,2,4]) (hS (hR [1,2,4]) (hJ (hS (hR [1,2,4,17]) (hN [1,2,4] (hS (hR [4]) hL) hL)) (hS (hR [1,2,4,5]) (hS (hS (hR [1,2,4,5,6]) (hN [2,4,5] (hN [1,2,4,5,6] (hS (hS (hR [1,2,4,5,6,21]) (hN [1,2,4,5,6] hL hL)) (hS (hN [1,2,4,5,6] (hS (hR [1,2,4,5,6,32]) (hN [1,2,4,5,6] (hR [1,2,4,5,6]) hL)) hL) (hR [1,2,4,5,6]))) hL) hL)) (hS (hR [2,4]) (hS (hR [2,4]) (hS (hR [2,4]) (hS (hR [2,4,7]) (hS (hS (hR [2,4,7,8]) (hN [2,4,7] (hN [2,4,7,8] (hJ (hS (hR [2,4,7,8,54]) (hN [2,4,7,8] hL hL)) (hS (hN [2,4,7,8] (hS (hR [2,4,7,8,9]) (hS (hS (hR [2,4,7,8,9,74]) (hN [2,4,7,8,9] (hR [2,4,7,8,9]) (hR [2,4,7,8,9]))) (hR [2,4,7,8]))) hL) (hR [2,4,7,8]))) hL) hL)) (hS (hR [2,4]) (hS (hR [2,4]) (hS (hR [2,4]) (hS (hR [2,4]) (hS (hR [2,4]) (hS (hS (hR [2,4,159]) (hN [2,4] (hR [2,4]) (hR [2,4]))) (hS (hR [4]) hL))))))))))))))))),nils:=[(5,1),(7,2)],modes:=[],free:=[],cob:=[] }
def Amd (N:Nat):List (Nat×Tw):=[(44,Bbi N),(45,Bmh N),(12,Al1 N)]
def G2 (N:Nat):Env:=mkE 175 Aes (Amd N)
def Boy (N:Nat) (F:KF R):=Aq (G2 N) Tryz.f14 Aes.modes [] F
def Il (N:Nat) (F:KF R):=atF (G2 N) [] N Tryz.f14 Aes (Boy N F)
def C4 (a:List UInt8) (b u w:Int) (d:LA) (c:Nat) (r t:Bool) (e f g i j l m o p q:Int) (F:KF R):Int→Int→Int→Int→Nat→Int→Int→LA→Option R:=(fun bf bg bh bi bj bk bl bm=>F (.agg [(.str a),(.int .i64 b),(.int .i64 u),(.int .i64 w),(.imm d c 2 r t),(.int .i64 e),(.int .i64 f),(.int .i64 g),(.int .i64 i),(.int .i64 j),(.int .i64 bf),(.int .i64 bg),(.int .i64 bh),(.int .i64 l),(.int .i64 m),(.int .i64 bi),(.int .i64 o),(.int .i64 p),(.own 300000 0 bj),(.int .i64 bk),(.int .i64 bl),(.int .i64 q)]) [(300000,⟨false,false,true,false,1,bm,false⟩)])
def C5 (a:List UInt8) (b:Int) (F:KF R):Int→Int→Nat→Int→Int→Int→Int→Int→Int→Int→Int→Int→Int→Int→Int→Int→Nat→Int→Int→Int→LA→LA→Option R:=(fun co cp cq cr cs ct cu cv bf bg bh cw cx bi cy cz bj bk bl da bm db=>F (.agg [(.str a),(.int .i64 b),(.int .i64 co),(.int .i64 cp),(.own 300000 0 cq),(.int .i64 cr),(.int .i64 cs),(.int .i64 ct),(.int .i64 cu),(.int .i64 cv),(.int .i64 bf),(.int .i64 bg),(.int .i64 bh),(.int .i64 cw),(.int .i64 cx),(.int .i64 bi),(.int .i64 cy),(.int .i64 cz),(.own 300001 0 bj),(.int .i64 bk),(.int .i64 bl),(.int .i64 da)]) [(300000,⟨false,false,true,false,2,bm,false⟩),(300001,⟨false,false,true,false,1,db,false⟩)])
def Aet (a:List UInt8) (b af:Int) (d:LA) (c:Nat) (r t:Bool) (e f g i j y z aa l m ab o p:Int) (ad:Nat) (x ac q:Int) (ae:LA) (u w:Int) (am:Nat) (an ar:Int) (aq:LA):St:={ s:=[(2,(.optr 300000 0)),(4,(.optr 300001 0)),(7,(.own 300002 0 am)),(8,(.int .i64 an))],h:=[(300000,⟨false,false,false,false,0,[(.str a),(.int .i64 b),(.int .i64 af),(.int .i64 ar),(.imm d c 2 r t),(.int .i64 e),(.int .i64 f),(.int .i64 g),(.int .i64 i),(.int .i64 j),(.int .i64 y),(.int .i64 z),(.int .i64 aa),(.int .i64 l),(.int .i64 m),(.int .i64 ab),(.int .i64 o),(.int .i64 p),(.own 300003 0 ad),(.int .i64 x),(.int .i64 ac),(.int .i64 q)],false⟩),(300001,⟨false,false,false,false,0,[(.str ([]:List UInt8)),(.int .i64 0),(.int .i64 0),(.int .i64 0),.nsl,(.int .i64 0),(.int .i64 0),(.int .i64 0),(.int .i64 0),(.int .i64 0),(.int .i64 0),(.int .i64 0),(.int .i64 0),(.int .i64 0),(.int .i64 0),(.int .i64 0),(.int .i64 0),(.int .i64 0),.nsl,(.int .i64 0),(.int .i64 0),(.int .i64 0)],false⟩),(300002,⟨false,false,true,false,2,aq,false⟩),(300003,⟨false,false,true,false,1,ae,false⟩)] }
def Bbj (N:Nat) (F:KF R) (Q2:St→Option R):St→Option R:=Bm (G2 N) [] N (Il N F [1,1,1,1,1,1,1,1,1,0,1,0,0,1] [Q2])
def Bbk (N:Nat) (F:KF R) (Q2:St→Option R):St→Option R:=Bq (G2 N) [] N (Il N F [1,1,1,1,1,1,1,1,1,0,1,0,0,1] [Q2])
def Im (a:List UInt8) (b af:Int) (d:LA) (c:Nat) (r t:Bool) (e f g i j y z aa l m ab o p:Int) (ad:Nat) (x ac q:Int) (ae:LA) (u w:Int) (ak:Nat) (ao aj:Int) (al:LA):St:={ s:=[(2,(.optr 300000 0)),(4,(.optr 300001 0)),(7,(.own 300002 0 ak)),(8,(.int .i64 ao))],h:=[(300000,⟨false,false,false,false,0,[(.str a),(.int .i64 b),(.int .i64 af),(.int .i64 aj),(.imm d c 2 r t),(.int .i64 e),(.int .i64 f),(.int .i64 g),(.int .i64 i),(.int .i64 j),(.int .i64 y),(.int .i64 z),(.int .i64 aa),(.int .i64 l),(.int .i64 m),(.int .i64 ab),(.int .i64 o),(.int .i64 p),(.own 300003 0 ad),(.int .i64 x),(.int .i64 ac),(.int .i64 q)],false⟩),(300001,⟨false,false,false,false,0,[(.str ([]:List UInt8)),(.int .i64 0),(.int .i64 0),(.int .i64 0),.nsl,(.int .i64 0),(.int .i64 0),(.int .i64 0),(.int .i64 0),(.int .i64 0),(.int .i64 0),(.int .i64 0),(.int .i64 0),(.int .i64 0),(.int .i64 0),(.int .i64 0),(.int .i64 0),(.int .i64 0),.nsl,(.int .i64 0),(.int .i64 0),(.int .i64 0)],false⟩),(300002,⟨false,false,true,false,2,al,false⟩),(300003,⟨false,false,true,false,1,ae,false⟩)] }
def Bbl (N:Nat) (F:KF R):St→Option R:=Bx (G2 N) [] N (Il N F [1,1,1,1,1,1,1,1,1,0,1,0] []) N
def K9 (N:Nat) (F:KF R) (n:Nat):St→Option R:=Ba (G2 N) [] N (Il N F [1,1,1,1,1,1,1,1,1,0,1,0] []) n
def Pn (ag:Int) (a:List UInt8) (b u w:Int) (d:LA) (c:Nat) (r t:Bool) (e f g i j y z aa l m ab o p:Int) (ah:Nat) (x ac q:Int) (ai:LA) (ad:Nat) (ap:Int) (ae:LA):St:={ s:=[(1,(.int .i64 ag)),(2,(.optr 300000 0)),(4,(.optr 300001 0)),(5,(.own 300002 0 ad)),(6,(.int .i64 ap))],h:=[(300000,⟨false,false,false,false,0,[(.str a),(.int .i64 b),(.int .i64 u),(.int .i64 w),(.imm d c 2 r t),(.int .i64 e),(.int .i64 f),(.int .i64 g),(.int .i64 i),(.int .i64 j),(.int .i64 y),(.int .i64 z),(.int .i64 aa),(.int .i64 l),(.int .i64 m),(.int .i64 ab),(.int .i64 o),(.int .i64 p),(.own 300003 0 ah),(.int .i64 x),(.int .i64 ac),(.int .i64 q)],false⟩),(300001,⟨false,false,false,false,0,[(.str ([]:List UInt8)),(.int .i64 0),(.int .i64 0),(.int .i64 0),.nsl,(.int .i64 0),(.int .i64 0),(.int .i64 0),(.int .i64 0),(.int .i64 0),(.int .i64 0),(.int .i64 0),(.int .i64 0),(.int .i64 0),(.int .i64 0),(.int .i64 0),(.int .i64 0),(.int .i64 0),.nsl,(.int .i64 0),(.int .i64 0),(.int .i64 0)],false⟩),(300002,⟨false,false,true,false,1,ae,false⟩),(300003,⟨false,false,true,false,1,ai,false⟩)] }
def Bbm (N:Nat) (F:KF R):St→Option R:=Bx (G2 N) [] N (Il N F [1,1,1,1,0,1,0] []) N
def Aeu (N:Nat) (F:KF R) (n:Nat):St→Option R:=Ba (G2 N) [] N (Il N F [1,1,1,1,0,1,0] []) n
def Aev (ag:Int) (a:List UInt8) (b u w:Int) (d:LA) (c:Nat) (r t:Bool) (e f g i j y z aa l m ab o p:Int) (ah:Nat) (x ac q:Int) (ai:LA):St:={ s:=[(1,(.int .i64 ag)),(2,(.optr 300000 0)),(4,(.optr 300001 0))],h:=[(300000,⟨false,false,false,false,0,[(.str a),(.int .i64 b),(.int .i64 u),(.int .i64 w),(.imm d c 2 r t),(.int .i64 e),(.int .i64 f),(.int .i64 g),(.int .i64 i),(.int .i64 j),(.int .i64 y),(.int .i64 z),(.int .i64 aa),(.int .i64 l),(.int .i64 m),(.int .i64 ab),(.int .i64 o),(.int .i64 p),(.own 300002 0 ah),(.int .i64 x),(.int .i64 ac),(.int .i64 q)],false⟩),(300001,⟨false,false,false,false,0,[(.str ([]:List UInt8)),(.int .i64 0),(.int .i64 0),(.int .i64 0),.nsl,(.int .i64 0),(.int .i64 0),(.int .i64 0),(.int .i64 0),(.int .i64 0),(.int .i64 0),(.int .i64 0),(.int .i64 0),(.int .i64 0),(.int .i64 0),(.int .i64 0),(.int .i64 0),(.int .i64 0),.nsl,(.int .i64 0),(.int .i64 0),(.int .i64 0)],false⟩),(300002,⟨false,false,true,false,1,ai,false⟩)] }
def Bbn (N:Nat) (F:KF R):St→Option R:=Bm (G2 N) [] N (Il N F [1,1,1] [])
def Bbo (N:Nat) (F:KF R):St→Option R:=Bq (G2 N) [] N (Il N F [1,1,1] [])
theorem Bh2 (N:Nat) (Q2:St→Option R) (F:KF R) (a:List UInt8) (b af:Int) (d:LA) (c:Nat) (r t:Bool) (e f g i j y z aa l m ab o p:Int) (ad:Nat) (x ac q:Int) (ae:LA) (u w:Int):∀ (am:Nat) (an ar:Int) (aq:LA),Bbk N F Q2 (Aet a b af d c r t e f g i j y z aa l m ab o p ad x ac q ae u w am an ar aq)=(Aer N (fun ak ao aj al=>Q2 (Im a b af d c r t e f g i j y z aa l m ab o p ad x ac q ae u w ak ao aj al)) (C4 a b u w d c r t e f g i j l m o p q F) (C5 a b F) a b af d c r t e f g i j y z aa l m ab o p ad x ac q ae u w am an ar aq):=by
 intro am an ar aq
 have hK:Bbk N F Q2 (Aet a b af d c r t e f g i j y z aa l m ab o p ad x ac q ae u w am an ar aq)=(Ama N (fun ak ao aj al=>Q2 (Im a b af d c r t e f g i j y z aa l m ab o p ad x ac q ae u w ak ao aj al)) (C4 a b u w d c r t e f g i j l m o p q F) (C5 a b F) a b af d c r t e f g i j y z aa l m ab o p ad x ac q ae u w am an ar aq):=by kernel_rfl
 exact hK
theorem Bh3 (N:Nat)  (F:KF R) (a:List UInt8) (b af:Int) (d:LA) (c:Nat) (r t:Bool) (e f g i j y z aa l m ab o p:Int) (ad:Nat) (x ac q:Int) (ae:LA) (u w:Int):∀ (n ak:Nat) (ao aj:Int) (al:LA),K9 N F n (Im a b af d c r t e f g i j y z aa l m ab o p ad x ac q ae u w ak ao aj al)=(Ik N (C4 a b u w d c r t e f g i j l m o p q F) (C5 a b F) a b af d c r t e f g i j y z aa l m ab o p ad x ac q ae u w n ak ao aj al):=by
 intro n
 induction n with
 | zero=>intros;kernel_rfl
 | succ n ih =>
  intro ak ao aj al
  have e0:=funext fun ak=>funext fun ao=>funext fun aj=>funext fun al=>(show K9 N F n (Im a b af d c r t e f g i j y z aa l m ab o p ad x ac q ae u w ak ao aj al)=_ from ih ak ao aj al)
  have e1:(fun am an ar aq=>Bbj N F (K9 N F n) (Aet a b af d c r t e f g i j y z aa l m ab o p ad x ac q ae u w am an ar aq))=(fun am an ar aq=>(Aer N (Ik N (C4 a b u w d c r t e f g i j l m o p q F) (C5 a b F) a b af d c r t e f g i j y z aa l m ab o p ad x ac q ae u w n) (C4 a b u w d c r t e f g i j l m o p q F) (C5 a b F) a b af d c r t e f g i j y z aa l m ab o p ad x ac q ae u w am an ar aq)):=by funext am;funext an;funext ar;funext aq;exact ((As ..).trans (Bh2 N (K9 N F n) F a b af d c r t e f g i j y z aa l m ab o p ad x ac q ae u w am an ar aq)).trans (by rw [e0])
  have hK:K9 N F (n+1) (Im a b af d c r t e f g i j y z aa l m ab o p ad x ac q ae u w ak ao aj al)=(Amb N (C4 a b u w d c r t e f g i j l m o p q F) (C5 a b F) a b af d c r t e f g i j y z aa l m ab o p ad x ac q ae u w (fun ak ao aj al=>K9 N F n (Im a b af d c r t e f g i j y z aa l m ab o p ad x ac q ae u w ak ao aj al)) (fun am an ar aq=>Bbj N F (K9 N F n) (Aet a b af d c r t e f g i j y z aa l m ab o p ad x ac q ae u w am an ar aq)) ak ao aj al):=by kernel_rfl
  exact hK.trans (by rw [e0,e1];rfl)
theorem Bh4 (N:Nat)  (F:KF R) (ag:Int) (a:List UInt8) (b u w:Int) (d:LA) (c:Nat) (r t:Bool) (e f g i j y z aa l m ab o p:Int) (ah:Nat) (x ac q:Int) (ai:LA):∀ (n ad:Nat) (ap:Int) (ae:LA),Aeu N F n (Pn ag a b u w d c r t e f g i j y z aa l m ab o p ah x ac q ai ad ap ae)=(K8 N (C4 a b u w d c r t e f g i j l m o p q F) (C5 a b F) ag a b u w d c r t e f g i j y z aa l m ab o p ah x ac q ai n ad ap ae):=by
 intro n
 induction n with
 | zero=>intros;kernel_rfl
 | succ n ih =>
  intro ad ap ae
  have e0:=funext fun ad=>funext fun ap=>funext fun ae=>(show Aeu N F n (Pn ag a b u w d c r t e f g i j y z aa l m ab o p ah x ac q ai ad ap ae)=_ from ih ad ap ae)
  have e1:=funext fun af=>funext fun ak=>funext fun ao=>funext fun aj=>funext fun al=>(show Bbl N F (Im a b af d c r t e f g i j y z aa l m ab o p ad x ac q ae u w ak ao aj al)=_ from (Ar ..).trans (Bh3 N F a b af d c r t e f g i j y z aa l m ab o p ad x ac q ae u w N ak ao aj al))
  have hK:Aeu N F (n+1) (Pn ag a b u w d c r t e f g i j y z aa l m ab o p ah x ac q ai ad ap ae)=(Y0 N (C4 a b u w d c r t e f g i j l m o p q F) (C5 a b F) ag a b u w d c r t e f g i j y z aa l m ab o p ah x ac q ai (fun ad ap ae=>Aeu N F n (Pn ag a b u w d c r t e f g i j y z aa l m ab o p ah x ac q ai ad ap ae)) (fun af ak ao aj al=>Bbl N F (Im a b af d c r t e f g i j y z aa l m ab o p ad x ac q ae u w ak ao aj al)) ad ap ae):=by kernel_rfl
  exact hK.trans (by rw [e0,e1];rfl)
theorem Bh5 (N:Nat)  (F:KF R) (ag:Int) (a:List UInt8) (b u w:Int) (d:LA) (c:Nat) (r t:Bool) (e f g i j y z aa l m ab o p:Int) (ah:Nat) (x ac q:Int) (ai:LA):Bbo N F (Aev ag a b u w d c r t e f g i j y z aa l m ab o p ah x ac q ai)=(Ar8 N (C4 a b u w d c r t e f g i j l m o p q F) (C5 a b F) ag a b u w d c r t e f g i j y z aa l m ab o p ah x ac q ai):=by
 have e1:=funext fun ad=>funext fun ap=>funext fun ae=>(show Bbm N F (Pn ag a b u w d c r t e f g i j y z aa l m ab o p ah x ac q ai ad ap ae)=_ from (Ar ..).trans (Bh4 N F ag a b u w d c r t e f g i j y z aa l m ab o p ah x ac q ai N ad ap ae))
 have hK:Bbo N F (Aev ag a b u w d c r t e f g i j y z aa l m ab o p ah x ac q ai)=(Amc N (C4 a b u w d c r t e f g i j l m o p q F) (C5 a b F) ag a b u w d c r t e f g i j y z aa l m ab o p ah x ac q ai (fun ad ap ae=>Bbm N F (Pn ag a b u w d c r t e f g i j y z aa l m ab o p ah x ac q ai ad ap ae))):=by kernel_rfl
 exact hK.trans (by rw [e1];rfl)
theorem Asa (N:Nat) (a:List UInt8) (b u w:Int) (d:LA) (c:Nat) (r t:Bool) (e f g i j au av aw l m ax o p:Int) (ay:LA) (az:Nat) (ba bb:Bool) (bc bd q ag:Int) (F:KF R):Ac Tryz.prog muts (Amd N) Aes N 14 [(.agg [(.str a),(.int .i64 b),(.int .i64 u),(.int .i64 w),(.imm d c 2 r t),(.int .i64 e),(.int .i64 f),(.int .i64 g),(.int .i64 i),(.int .i64 j),(.int .i64 au),(.int .i64 av),(.int .i64 aw),(.int .i64 l),(.int .i64 m),(.int .i64 ax),(.int .i64 o),(.int .i64 p),(.imm ay az 1 ba bb),(.int .i64 bc),(.int .i64 bd),(.int .i64 q)]),(.int .i64 ag)] [] F=(Ar9 N a b u w d c r t e f g i j au av aw l m ax o p ay az ba bb bc bd q ag (C4 a b u w d c r t e f g i j l m o p q F) (C5 a b F)):=by
 have e1:=funext fun y=>funext fun z=>funext fun aa=>funext fun ab=>funext fun ah=>funext fun x=>funext fun ac=>funext fun ai=>(show Bbn N F (Aev ag a b u w d c r t e f g i j y z aa l m ab o p ah x ac q ai)=_ from (As ..).trans (Bh5 N F ag a b u w d c r t e f g i j y z aa l m ab o p ah x ac q ai))
 have hK:Ac Tryz.prog muts (Amd N) Aes N 14 [(.agg [(.str a),(.int .i64 b),(.int .i64 u),(.int .i64 w),(.imm d c 2 r t),(.int .i64 e),(.int .i64 f),(.int .i64 g),(.int .i64 i),(.int .i64 j),(.int .i64 au),(.int .i64 av),(.int .i64 aw),(.int .i64 l),(.int .i64 m),(.int .i64 ax),(.int .i64 o),(.int .i64 p),(.imm ay az 1 ba bb),(.int .i64 bc),(.int .i64 bd),(.int .i64 q)]),(.int .i64 ag)] [] F=(A8k N (C4 a b u w d c r t e f g i j l m o p q F) (C5 a b F) (fun y z aa ab ah x ac ai=>Bbn N F (Aev ag a b u w d c r t e f g i j y z aa l m ab o p ah x ac q ai)) a b u w d c r t e f g i j au av aw l m ax o p ay az ba bb bc bd q ag):=by kernel_rfl
 rw [A4k]
 exact hK.trans (by rw [e1];rfl)
def Y1 (N:Nat) (args:List AV) (h:Aj) (k:KF R):Option R :=
 match args,h with
 | [(.agg [(.str a),(.int .i64 b),(.int .i64 u),(.int .i64 w),(.imm d c 2 r t),(.int .i64 e),(.int .i64 f),(.int .i64 g),(.int .i64 i),(.int .i64 j),(.int .i64 au),(.int .i64 av),(.int .i64 aw),(.int .i64 l),(.int .i64 m),(.int .i64 ax),(.int .i64 o),(.int .i64 p),(.imm ay az 1 ba bb),(.int .i64 bc),(.int .i64 bd),(.int .i64 q)]),(.int .i64 ag)],[]=>(Ar9 N a b u w d c r t e f g i j au av aw l m ax o p ay az ba bb bc bd q ag (C4 a b u w d c r t e f g i j l m o p q k) (C5 a b k))
 | _,_=>none
def Bbp (N:Nat):Tw:=⟨Y1 N,fun args h k=>by
 unfold Y1;split
 exact twE (Asa ..) (Asa ..)
 rfl⟩
theorem Bqw (N:Nat):A1 Tryz.prog 14 (Bbp N):=fun args h res ch hh=>by
 change Y1 N args h (fun v ch=>some (v,ch))=_ at hh
 unfold Y1 at hh;split at hh
 exact Aa (T:=Amd N) ⟨Bqv N,Bve N,A4e N,trivial⟩ follows ((Asa ..).trans hh)
 cases hh
end
end Gx

namespace Gx
open Go Go.Proofs
set_option maxRecDepth 100000
noncomputable section
variable {R:Type}
def Asb (N:Nat) (r0:LA→Option R)  :Option R :=
 (r0 [(.str ([]:List UInt8)),(.int .i64 0),(.int .i64 10),(.int .i64 40),(.imm [(.int .i64 20),(.int .i64 3),(.int .i64 10),(.int .i64 5)] 2 2 false false),(.int .i64 0),(.int .i64 5),(.int .i64 10),(.int .i64 15),(.int .i64 15),(.int .i64 0),(.int .i64 0),(.int .i64 0),(.int .i64 0),(.int .i64 0),(.int .i64 0),(.int .i64 0),(.int .i64 0),.nsl,(.int .i64 2),(.int .i64 1),(.int .i64 12)])
def Asc (N:Nat)  (r0:LA→Option R):Option R:=(Asb N r0)
def No:=(Ai (@Asc R)).1
theorem Aew:@No R=@Asc R:=(Ai _).2
def Ail:Hints:={ H:=(hS (hR [0]) (hS (hR [0]) hL)),nils:=[],modes:=[(3,0)],free:=[],cob:=[] }
def W1 (N:Nat):List (Nat×Tw):=[]
def Tu  (F:KF R):LA→Option R:=(fun b=>F (.pagg b false) [])
theorem Tv (N:Nat)  (F:KF R):Ac Tryz.prog muts (W1 N) Ail N 46 [] [] F=(No N (Tu F)):=by
 have hK:Ac Tryz.prog muts (W1 N) Ail N 46 [] [] F=(Asb N (Tu F)):=by kernel_rfl
 rw [Aew]
 exact hK
def Kn (N:Nat) (args:List AV) (h:Aj) (k:KF R):Option R :=
 match args,h with
 | [],[]=>(No N (Tu k))
 | _,_=>none
def Aim (N:Nat):Tw:=⟨Kn N,fun args h k=>by
 unfold Kn;split
 exact twE (Tv ..) (Tv ..)
 rfl⟩
theorem A8m (N:Nat):A1 Tryz.prog 46 (Aim N):=fun args h res a hh=>by
 change Kn N args h (fun v a=>some (v,a))=_ at hh
 unfold Kn at hh;split at hh
 exact Aa (T:=W1 N) trivial follows ((Tv ..).trans hh)
 cases hh
def Qz (N:Nat)  (r0:Bool→Option R) (b c:Int) (d:LA) (a:Nat) (e f:Bool) (k0:Int→Int→Option R)  (i g:Int):Option R :=
 (cond (decide (g<i)) (cond (Am g a) (rdI .i64 (List.drop ((Int.toNat g)*1) d) fun j=>(cond ((decide (j<b))==false) (cond (cond false true (decide (j>c))) (r0 false) (k0 i (IntKind.wrap .i64 (g+(1:Int))))) (r0 false))) none) (r0 true))
def J4 (N:Nat)  (r0:Bool→Option R) (b c:Int) (d:LA) (a:Nat) (e f:Bool):Nat→Int→Int→Option R
 | 0,_,_=>none
 | n+1,i,g=>(Qz N r0 b c d a e f (J4 N r0 b c d a e f n) i g)
def Asd (N:Nat) (r0:Bool→Option R) (q0:Int→Int→Option R) (b c:Int) (d:LA) (a:Nat) (e f:Bool):Option R :=
 (q0 ((a:Nat):Int) 0)
def Ase (N:Nat) (b c:Int) (d:LA) (a:Nat) (e f:Bool) (r0:Bool→Option R):Option R:=(Asd N r0 (fun i g=>(J4 N r0 b c d a e f N i g)) b c d a e f)
def Co:=(Ai (@Ase R)).1
theorem Asf:@Co R=@Ase R:=(Ai _).2
def Vi:Hints:={ H:=(hS (hR [0,1,2]) (hS (hS (hR [0,1,9,10,11]) (hS (hN [0,1,9,10,11] (hS (hR [0,1,9,10,11,12]) (hS (hN [0,1,9,10,11] hL hL) (hS (hN [0,1,9,10,11] (hS (hR [0,1,8,9,10,11]) (hS (hR [0,1,9,10,11,22]) (hN [0,1,9,10,11] (hS (hR [6]) hL) hL))) hL) (hR [0,1,9,10,11])))) hL) hL)) (hS (hR [6]) hL))),nils:=[],modes:=[],free:=[],cob:=[] }
def Y2 (N:Nat):List (Nat×Tw):=[]
def Y3 (N:Nat):Env:=mkE 24 Vi (Y2 N)
def Bh6 (N:Nat) (F:KF R):=Aq (Y3 N) Tryz.f47 Vi.modes [] F
def Axq (N:Nat) (F:KF R):=atF (Y3 N) [] N Tryz.f47 Vi (Bh6 N F)
def Np  (F:KF R):Bool→Option R:=(fun m=>F (.bool m) [])
def J5 (b c:Int) (d:LA) (a:Nat) (e f:Bool) (i g:Int):St:={ s:=[(0,(.int .i64 b)),(1,(.int .i64 c)),(9,(.imm d a 1 e f)),(10,(.int .i64 i)),(11,(.int .i64 g))],h:=[] }
def Axr (N:Nat) (F:KF R):St→Option R:=Bx (Y3 N) [] N (Axq N F [1,0,1,0] []) N
def Vj (N:Nat) (F:KF R) (n:Nat):St→Option R:=Ba (Y3 N) [] N (Axq N F [1,0,1,0] []) n
theorem A8n (N:Nat)  (F:KF R) (b c:Int) (d:LA) (a:Nat) (e f:Bool):∀ (n:Nat) (i g:Int),Vj N F n (J5 b c d a e f i g)=(J4 N (Np F) b c d a e f n i g):=by
 intro n
 induction n with
 | zero=>intros;kernel_rfl
 | succ n ih =>
  intro i g
  have e0:=funext fun i=>funext fun g=>(show Vj N F n (J5 b c d a e f i g)=_ from ih i g)
  have hK:Vj N F (n+1) (J5 b c d a e f i g)=(Qz N (Np F) b c d a e f (fun i g=>Vj N F n (J5 b c d a e f i g)) i g):=by kernel_rfl
  exact hK.trans (by rw [e0];rfl)
theorem Agr (N:Nat) (b c:Int) (d:LA) (a:Nat) (e f:Bool) (F:KF R):Ac Tryz.prog muts (Y2 N) Vi N 47 [(.int .i64 b),(.int .i64 c),(.imm d a 1 e f)] [] F=(Co N b c d a e f (Np F)):=by
 have e1:=funext fun i=>funext fun g=>(show Axr N F (J5 b c d a e f i g)=_ from (Ar ..).trans (A8n N F b c d a e f N i g))
 have hK:Ac Tryz.prog muts (Y2 N) Vi N 47 [(.int .i64 b),(.int .i64 c),(.imm d a 1 e f)] [] F=(Asd N (Np F) (fun i g=>Axr N F (J5 b c d a e f i g)) b c d a e f):=by kernel_rfl
 rw [Asf]
 exact hK.trans (by rw [e1];rfl)
def Q3 (N:Nat) (args:List AV) (h:Aj) (k:KF R):Option R :=
 match args,h with
 | [(.int .i64 b),(.int .i64 c),(.imm d a 1 e f)],[]=>(Co N b c d a e f (Np k))
 | _,_=>none
def Vk (N:Nat):Tw:=⟨Q3 N,fun args h k=>by
 unfold Q3;split
 exact twE (Agr ..) (Agr ..)
 rfl⟩
theorem Ags (N:Nat):A1 Tryz.prog 47 (Vk N):=fun args h res l hh=>by
 change Q3 N args h (fun v l=>some (v,l))=_ at hh
 unfold Q3 at hh;split at hh
 exact Aa (T:=Y2 N) trivial follows ((Agr ..).trans hh)
 cases hh
def Ame (N:Nat)  (r0:Bool→Option R) (b:Bool) (a:LA)   :Option R :=
 (rdI .i64 (List.drop 20 a) fun j=>(cond ((decide (j<(1:Int)))==false) (rdI .i64 (List.drop 20 a) fun l=>(cond (cond false true (decide (l>(48:Int)))) (r0 false) (rdI .i64 (List.drop 19 a) fun m=>(cond ((m != (1:Int))==false) (rdI .i64 (List.drop 20 a) fun o=>(rdI .i64 (List.drop 12 a) fun p=>(r0 (cond false true (decide (o≤p)))))) (r0 true))))) (r0 false)))
def Aex (N:Nat)  (r0:Bool→Option R) (b:Bool) (a:LA) :Option R:=(Ame N r0 b a)
def Amf (N:Nat)  (r0:Bool→Option R) (d e f g:Int) (b:Bool) (a:LA) (k0:Int→Option R) (q1:Option R) (c:Int):Option R :=
 (cond (decide (c<(4:Int))) (cond (Am c 4) (cond (Nat.beq ((Int.toNat c)*1) 0) (cond ((decide (d<(0:Int)))==false) (cond (cond false true (decide (d>(24:Int)))) (r0 false) (k0 (IntKind.wrap .i64 (c+(1:Int))))) (r0 false)) (cond (Nat.beq ((Int.toNat c)*1) 1) (cond ((decide (e<(0:Int)))==false) (cond (cond false true (decide (e>(24:Int)))) (r0 false) (k0 (IntKind.wrap .i64 (c+(1:Int))))) (r0 false)) (cond (Nat.beq ((Int.toNat c)*1) 2) (cond ((decide (f<(0:Int)))==false) (cond (cond false true (decide (f>(24:Int)))) (r0 false) (k0 (IntKind.wrap .i64 (c+(1:Int))))) (r0 false)) (cond (Nat.beq ((Int.toNat c)*1) 3) (cond ((decide (g<(0:Int)))==false) (cond (cond false true (decide (g>(24:Int)))) (r0 false) (k0 (IntKind.wrap .i64 (c+(1:Int))))) (r0 false)) none)))) none) (rdI .i64 (List.drop 19 a) fun q=>(cond ((q != (0:Int))==true) (rdI .i64 (List.drop 19 a) fun r=>(cond ((cond true (r != (1:Int)) false)==true) (rdI .i64 (List.drop 19 a) fun t=>(cond (cond true (t != (2:Int)) false) (r0 false) q1)) q1)) q1)))
def Wh (N:Nat)  (r0:Bool→Option R) (d e f g:Int) (b:Bool) (a:LA):Nat→Int→Option R
 | 0,_=>none
 | n+1,c=>(Amf N r0 d e f g b a (Wh N r0 d e f g b a n) (Aex N r0 b a) c)
def A8o (N:Nat) (r0:Bool→Option R) (q0:Int→Int→Int→Int→Int→Option R) (a:LA) (b:Bool):Option R :=
 (rdI .i64 (List.drop 10 a) fun d=>(rdI .i64 (List.drop 11 a) fun e=>(rdI .i64 (List.drop 12 a) fun f=>(rdI .i64 (List.drop 15 a) fun g=>(q0 d e f g 0)))))
def A8p (N:Nat) (a:LA) (b:Bool) (r0:Bool→Option R):Option R:=(A8o N r0 (fun d e f g c=>(Wh N r0 d e f g b a N c)) a b)
def Nq:=(Ai (@A8p R)).1
theorem A4l:@Nq R=@A8p R:=(Ai _).2
def Aey:Hints:={ H:=(hS (hR [1]) (hS (hS (hR [1,13,14]) (hN [1] (hN [1,13,14] (hS (hR [1,13,14,15]) (hS (hN [1,13,14] hL hL) (hS (hN [1,13,14] (hS (hR [1,4,13,14]) (hS (hR [1,13,14,22]) (hN [1,13,14] (hS (hR [2]) hL) hL))) hL) (hR [1,13,14])))) hL) hL)) (hJ (hS (hR [1,36]) (hN [1] (hS (hR [2]) hL) hL)) (hS (hS (hR [1,44]) (hN [1] (hS (hR [2]) hL) hL)) (hS (hR [2]) hL))))),nils:=[],modes:=[],free:=[],cob:=[] }
def Amg (N:Nat):List (Nat×Tw):=[]
def Tx (N:Nat):Env:=mkE 55 Aey (Amg N)
def Boz (N:Nat) (F:KF R):=Aq (Tx N) Tryz.f48 Aey.modes [] F
def Aez (N:Nat) (F:KF R):=atF (Tx N) [] N Tryz.f48 Aey (Boz N F)
def La  (F:KF R):Bool→Option R:=(fun u=>F (.bool u) [])
def Ae0 (b:Bool) (a:LA):St:={ s:=[(1,(.optr 300000 0))],h:=[(300000,⟨false,false,true,b,0,a,false⟩)] }
def Bbq (N:Nat) (F:KF R):St→Option R:=Bm (Tx N) [] N (Aez N F [1,1,1] [])
def Bbr (N:Nat) (F:KF R):St→Option R:=Bq (Tx N) [] N (Aez N F [1,1,1] [])
def Po (d e f g:Int) (b:Bool) (a:LA) (c:Int):St:={ s:=[(1,(.optr 300000 0)),(13,(.agg [(.int .i64 d),(.int .i64 e),(.int .i64 f),(.int .i64 g)])),(14,(.int .i64 c))],h:=[(300000,⟨false,false,true,b,0,a,false⟩)] }
def Bbs (N:Nat) (F:KF R):St→Option R:=Bx (Tx N) [] N (Aez N F [1,0,1,0] []) N
def Ae1 (N:Nat) (F:KF R) (n:Nat):St→Option R:=Ba (Tx N) [] N (Aez N F [1,0,1,0] []) n
theorem Bh7 (N:Nat)  (F:KF R) (b:Bool) (a:LA):Bbr N F (Ae0 b a)=(Aex N (La F) b a):=by
 have hK:Bbr N F (Ae0 b a)=(Ame N (La F) b a):=by kernel_rfl
 exact hK
theorem Bh8 (N:Nat)  (F:KF R) (d e f g:Int) (b:Bool) (a:LA):∀ (n:Nat) (c:Int),Ae1 N F n (Po d e f g b a c)=(Wh N (La F) d e f g b a n c):=by
 intro n
 induction n with
 | zero=>intros;kernel_rfl
 | succ n ih =>
  intro c
  have e0:=funext fun c=>(show Ae1 N F n (Po d e f g b a c)=_ from ih c)
  have e1:=(show Bbq N F (Ae0 b a)=_ from (As ..).trans (Bh7 N F b a))
  have hK:Ae1 N F (n+1) (Po d e f g b a c)=(Amf N (La F) d e f g b a (fun c=>Ae1 N F n (Po d e f g b a c)) (Bbq N F (Ae0 b a)) c):=by kernel_rfl
  exact hK.trans (by rw [e0,e1];rfl)
theorem Asg (N:Nat) (a:LA) (b:Bool) (F:KF R):Ac Tryz.prog muts (Amg N) Aey N 48 [(.pagg a b)] [] F=(Nq N a b (La F)):=by
 have e1:=funext fun d=>funext fun e=>funext fun f=>funext fun g=>funext fun c=>(show Bbs N F (Po d e f g b a c)=_ from (Ar ..).trans (Bh8 N F d e f g b a N c))
 have hK:Ac Tryz.prog muts (Amg N) Aey N 48 [(.pagg a b)] [] F=(A8o N (La F) (fun d e f g c=>Bbs N F (Po d e f g b a c)) a b):=by kernel_rfl
 rw [A4l]
 exact hK.trans (by rw [e1];rfl)
def Y4 (N:Nat) (args:List AV) (h:Aj) (k:KF R):Option R :=
 match args,h with
 | [(.pagg a b)],[]=>(Nq N a b (La k))
 | _,_=>none
def Pp (N:Nat):Tw:=⟨Y4 N,fun args h k=>by
 unfold Y4;split
 exact twE (Asg ..) (Asg ..)
 rfl⟩
theorem Wi (N:Nat):A1 Tryz.prog 48 (Pp N):=fun args h res i hh=>by
 change Y4 N args h (fun v i=>some (v,i))=_ at hh
 unfold Y4 at hh;split at hh
 exact Aa (T:=Amg N) trivial follows ((Asg ..).trans hh)
 cases hh
end
end Gx

namespace Gx
open Go Go.Proofs
set_option maxRecDepth 100000
noncomputable section
variable {R:Type}
def Lb (N:Nat) (k0:Int→Int→Int→Option R) (r0:Bool→Option R) (c:LA) (e:Nat) (b:Bool) (d:Int) (a:LA)   (l i m:Int) (j:LA):Option R :=
 (cond ((decide (i>(0:Int)))==true) (rdI .i64 (List.drop 1 j) fun p=>(rdL 2 (List.drop 4 a) fun q r=>(cond (Am (IntKind.wrap .i64 (i - (1:Int))) r) (rdI .i64 (List.drop 1 (List.drop ((Int.toNat (IntKind.wrap .i64 (i - (1:Int))))*2) q)) fun t=>(cond (cond true (decide (p<t)) false) (r0 false) (rdI .i64 j fun u=>(k0 (IntKind.wrap .i64 (l+u)) d (IntKind.wrap .i64 (m+(1:Int))))))) none))) (rdI .i64 j fun w=>(k0 (IntKind.wrap .i64 (l+w)) d (IntKind.wrap .i64 (m+(1:Int))))))
def Hd (N:Nat) (k0:Int→Int→Int→Option R) (r0:Bool→Option R) (c:LA) (e:Nat) (b:Bool) (d:Int) (a:LA) (l i m:Int) (j:LA):Option R:=(Lb N k0 r0 c e b d a l i m j)
def Gq (N:Nat)  (r0:Bool→Option R) (c:LA) (e:Nat) (b:Bool) (a:LA) (k0:Int→Int→Int→Option R) (q1:Int→Int→Int→LA→Option R) (g d f:Int):Option R :=
 (cond (decide (f<d)) (cond (Am f e) (cond (Nat.ble 2 (List.length (List.drop ((Int.toNat f)*2) c))) (cond ((!b)||(Bv (List.take 2 (List.drop ((Int.toNat f)*2) c)))) (cond ((Nat.beq (List.length (List.take 2 (List.drop ((Int.toNat f)*2) c))) 2)&&((Nat.ble 2 2)&&(!false))) (rdI .i64 (setCells [(.int .i64 0),(.int .i64 0)] 0 (List.take 2 (List.drop ((Int.toNat f)*2) c))) fun x=>(Co N 1 1048576 [(.int .i64 x)] 1 false true (fun y=>(cond ((!y)==false) (rdI .i64 (List.drop 1 (setCells [(.int .i64 0),(.int .i64 0)] 0 (List.take 2 (List.drop ((Int.toNat f)*2) c)))) fun z=>(Co N (-1048576) 1048576 [(.int .i64 z)] 1 false true (fun aa=>(cond (cond false true (!aa)) (r0 false) (q1 g f f (setCells [(.int .i64 0),(.int .i64 0)] 0 (List.take 2 (List.drop ((Int.toNat f)*2) c)))))))) (r0 false))))) none) none) none) none) (rdI .i64 (List.drop 3 a) fun ab=>(rdI .i64 (List.drop 2 a) fun ac=>(r0 (g==(IntKind.wrap .i64 (ab - ac)))))))
def B8 (N:Nat)  (r0:Bool→Option R) (c:LA) (e:Nat) (b:Bool) (a:LA):Nat→Int→Int→Int→Option R
 | 0,_,_,_=>none
 | n+1,g,d,f=>(Gq N r0 c e b a (B8 N r0 c e b a n) (fun l i m j=>(Hd N (B8 N r0 c e b a n) r0 c e b d a l i m j)) g d f)
def Q4 (N:Nat) (r0:Bool→Option R) (q0:LA→Nat→Int→Int→Int→Option R) (a:LA) (b:Bool):Option R :=
 (rdL 2 (List.drop 4 a) fun af ad=>(cond (decide (((ad:Nat):Int)>(8:Int))) (r0 false) (rdL 2 (List.drop 4 a) fun c e=>(q0 c e 0 ((e:Nat):Int) 0))))
def Q5 (N:Nat) (a:LA) (b:Bool) (r0:Bool→Option R):Option R:=(Q4 N r0 (fun c e g d f=>(B8 N r0 c e b a N g d f)) a b)
def Fj:=(Ai (@Q5 R)).1
theorem Wj:@Fj R=@Q5 R:=(Ai _).2
def He:Hints:={ H:=(hS (hR [1]) (hS (hS (hR [1,9]) (hN [1] (hS (hR [2]) hL) hL)) (hS (hR [1,3]) (hS (hS (hR [1,3,11,12,13]) (hN [1,3] (hN [1,3,11,12,13] (hS (hR [1,3,11,12,13,14]) (hS (hN [1,3,11,12,13] hL hL) (hS (hN [1,3,11,12,13] (hS (hR [1,3,4,5,11,12,13]) (hJ (hS (hR [1,3,4,5,11,12,13,29]) (hN [1,3,4,5,11,12,13] (hS (hR [2]) hL) hL)) (hS (hS (hR [1,3,5,11,12,13,43]) (hN [1,3,5,11,12,13] (hS (hR [2]) hL) hL)) (hR [1,3,11,12,13])))) hL) (hR [1,3,11,12,13])))) hL) hL)) (hS (hR [2]) hL))))),nils:=[],modes:=[],free:=[],cob:=[] }
def I7 (N:Nat):List (Nat×Tw):=[(47,Vk N)]
def D1 (N:Nat):Env:=mkE 56 He (I7 N)
def Ash (N:Nat) (F:KF R):=Aq (D1 N) Tryz.f49 He.modes [] F
def Hf (N:Nat) (F:KF R):=atF (D1 N) [] N Tryz.f49 He (Ash N F)
def Bw  (F:KF R):Bool→Option R:=(fun ae=>F (.bool ae) [])
def Hg (c:LA) (e:Nat) (b:Bool) (d:Int) (a:LA) (l i m:Int) (j:LA):St:={ s:=[(1,(.optr 300000 0)),(3,(.int .i64 l)),(4,(.int .i64 i)),(5,(.optr 300001 0)),(11,(.imm c e 2 false b)),(12,(.int .i64 d)),(13,(.int .i64 m))],h:=[(300000,⟨false,false,true,b,0,a,false⟩),(300001,⟨false,false,true,false,0,j,false⟩)] }
def Xp (N:Nat) (F:KF R) (Q0:St→Option R):St→Option R:=Bm (D1 N) [] N (Hf N F [1,1,1,0,1,0,0,1,1,0,0,1,1] [Q0])
def Xq (N:Nat) (F:KF R) (Q0:St→Option R):St→Option R:=Bq (D1 N) [] N (Hf N F [1,1,1,0,1,0,0,1,1,0,0,1,1] [Q0])
def B9 (c:LA) (e:Nat) (b:Bool) (a:LA) (g d f:Int):St:={ s:=[(1,(.optr 300000 0)),(3,(.int .i64 g)),(11,(.imm c e 2 false b)),(12,(.int .i64 d)),(13,(.int .i64 f))],h:=[(300000,⟨false,false,true,b,0,a,false⟩)] }
def Xr (N:Nat) (F:KF R):St→Option R:=Bx (D1 N) [] N (Hf N F [1,1,1,0,1,0] []) N
def Cp (N:Nat) (F:KF R) (n:Nat):St→Option R:=Ba (D1 N) [] N (Hf N F [1,1,1,0,1,0] []) n
theorem Amh (N:Nat) (Q0:St→Option R) (F:KF R) (c:LA) (e:Nat) (b:Bool) (d:Int) (a:LA):∀ (l i m:Int) (j:LA),Xq N F Q0 (Hg c e b d a l i m j)=(Hd N (fun g d f=>Q0 (B9 c e b a g d f)) (Bw F) c e b d a l i m j):=by
 intro l i m j
 have hK:Xq N F Q0 (Hg c e b d a l i m j)=(Lb N (fun g d f=>Q0 (B9 c e b a g d f)) (Bw F) c e b d a l i m j):=by kernel_rfl
 exact hK
theorem Ami (N:Nat)  (F:KF R) (c:LA) (e:Nat) (b:Bool) (a:LA):∀ (n:Nat) (g d f:Int),Cp N F n (B9 c e b a g d f)=(B8 N (Bw F) c e b a n g d f):=by
 intro n
 induction n with
 | zero=>intros;kernel_rfl
 | succ n ih =>
  intro g d f
  have e0:=funext fun g=>funext fun d=>funext fun f=>(show Cp N F n (B9 c e b a g d f)=_ from ih g d f)
  have e1:(fun l i m j=>Xp N F (Cp N F n) (Hg c e b d a l i m j))=(fun l i m j=>(Hd N (B8 N (Bw F) c e b a n) (Bw F) c e b d a l i m j)):=by funext l;funext i;funext m;funext j;exact ((As ..).trans (Amh N (Cp N F n) F c e b d a l i m j)).trans (by rw [e0])
  have hK:Cp N F (n+1) (B9 c e b a g d f)=(Gq N (Bw F) c e b a (fun g d f=>Cp N F n (B9 c e b a g d f)) (fun l i m j=>Xp N F (Cp N F n) (Hg c e b d a l i m j)) g d f):=by kernel_rfl
  exact hK.trans (by rw [e0,e1];rfl)
theorem Nd (N:Nat) (a:LA) (b:Bool) (F:KF R):Ac Tryz.prog muts (I7 N) He N 49 [(.pagg a b)] [] F=(Fj N a b (Bw F)):=by
 have e1:=funext fun c=>funext fun e=>funext fun g=>funext fun d=>funext fun f=>(show Xr N F (B9 c e b a g d f)=_ from (Ar ..).trans (Ami N F c e b a N g d f))
 have hK:Ac Tryz.prog muts (I7 N) He N 49 [(.pagg a b)] [] F=(Q4 N (Bw F) (fun c e g d f=>Xr N F (B9 c e b a g d f)) a b):=by kernel_rfl
 rw [Wj]
 exact hK.trans (by rw [e1];rfl)
def Gr (N:Nat) (args:List AV) (h:Aj) (k:KF R):Option R :=
 match args,h with
 | [(.pagg a b)],[]=>(Fj N a b (Bw k))
 | _,_=>none
def Xs (N:Nat):Tw:=⟨Gr N,fun args h k=>by
 unfold Gr;split
 exact twE (Nd ..) (Nd ..)
 rfl⟩
theorem Awa (N:Nat):A1 Tryz.prog 49 (Xs N):=fun args h res o hh=>by
 change Gr N args h (fun v o=>some (v,o))=_ at hh
 unfold Gr at hh;split at hh
 exact Aa (T:=I7 N) ⟨Ags N,trivial⟩ follows ((Nd ..).trans hh)
 cases hh
def Mj (N:Nat)  (r0:Bool→Option R) (c:LA) (a:Nat) (d e:Bool) (f:Int) (k0:Int→Int→Option R)  (g b:Int):Option R :=
 (cond (decide (b<g)) (cond (Am b a) (rdI .i64 (List.drop ((Int.toNat b)*1) c) fun i=>(Co N 0 (IntKind.wrap .i64 (f - (1:Int))) [(.int .i64 i)] 1 false true (fun l=>(cond ((!l)==false) (cond ((decide (b>(0:Int)))==true) (cond (Am (IntKind.wrap .i64 (b - (1:Int))) a) (rdI .i64 (List.drop ((Int.toNat (IntKind.wrap .i64 (b - (1:Int))))*1) c) fun m=>(cond (cond false true (cond true (decide (i≤m)) false)) (r0 false) (k0 g (IntKind.wrap .i64 (b+(1:Int)))))) none) (k0 g (IntKind.wrap .i64 (b+(1:Int))))) (r0 false))))) none) (r0 true))
def Gh (N:Nat)  (r0:Bool→Option R) (c:LA) (a:Nat) (d e:Bool) (f:Int):Nat→Int→Int→Option R
 | 0,_,_=>none
 | n+1,g,b=>(Mj N r0 c a d e f (Gh N r0 c a d e f n) g b)
def Agt (N:Nat) (r0:Bool→Option R) (q0:Int→Int→Option R) (c:LA) (a:Nat) (d e:Bool) (f:Int):Option R :=
 (q0 ((a:Nat):Int) 0)
def Agu (N:Nat) (c:LA) (a:Nat) (d e:Bool) (f:Int) (r0:Bool→Option R):Option R:=(Agt N r0 (fun g b=>(Gh N r0 c a d e f N g b)) c a d e f)
def Mk:=(Ai (@Agu R)).1
theorem Ain:@Mk R=@Agu R:=(Ai _).2
def Ob:Hints:={ H:=(hS (hR [0,1]) (hS (hS (hR [0,1,7,8,9]) (hS (hN [0,1,7,8,9] (hS (hR [0,1,7,8,9,10]) (hS (hN [0,1,7,8,9] hL hL) (hS (hN [0,1,7,8,9] (hS (hR [0,1,5,6,7,8,9]) (hS (hR [0,1,7,8,9,32]) (hN [0,1,7,8,9] (hS (hR [4]) hL) hL))) hL) (hR [0,1,7,8,9])))) hL) hL)) (hS (hR [4]) hL))),nils:=[],modes:=[],free:=[],cob:=[] }
def Q6 (N:Nat):List (Nat×Tw):=[(47,Vk N)]
def Q7 (N:Nat):Env:=mkE 34 Ob (Q6 N)
def A8q (N:Nat) (F:KF R):=Aq (Q7 N) Tryz.f50 Ob.modes [] F
def Aok (N:Nat) (F:KF R):=atF (Q7 N) [] N Tryz.f50 Ob (A8q N F)
def Jn  (F:KF R):Bool→Option R:=(fun o=>F (.bool o) [])
def Gi (c:LA) (a:Nat) (d e:Bool) (f g b:Int):St:={ s:=[(0,(.imm c a 1 d e)),(1,(.int .i64 f)),(7,(.imm c a 1 d e)),(8,(.int .i64 g)),(9,(.int .i64 b))],h:=[] }
def Aol (N:Nat) (F:KF R):St→Option R:=Bx (Q7 N) [] N (Aok N F [1,0,1,0] []) N
def Oc (N:Nat) (F:KF R) (n:Nat):St→Option R:=Ba (Q7 N) [] N (Aok N F [1,0,1,0] []) n
theorem A1g (N:Nat)  (F:KF R) (c:LA) (a:Nat) (d e:Bool) (f:Int):∀ (n:Nat) (g b:Int),Oc N F n (Gi c a d e f g b)=(Gh N (Jn F) c a d e f n g b):=by
 intro n
 induction n with
 | zero=>intros;kernel_rfl
 | succ n ih =>
  intro g b
  have e0:=funext fun g=>funext fun b=>(show Oc N F n (Gi c a d e f g b)=_ from ih g b)
  have hK:Oc N F (n+1) (Gi c a d e f g b)=(Mj N (Jn F) c a d e f (fun g b=>Oc N F n (Gi c a d e f g b)) g b):=by kernel_rfl
  exact hK.trans (by rw [e0];rfl)
theorem W2 (N:Nat) (c:LA) (a:Nat) (d e:Bool) (f:Int) (F:KF R):Ac Tryz.prog muts (Q6 N) Ob N 50 [(.imm c a 1 d e),(.int .i64 f)] [] F=(Mk N c a d e f (Jn F)):=by
 have e1:=funext fun g=>funext fun b=>(show Aol N F (Gi c a d e f g b)=_ from (Ar ..).trans (A1g N F c a d e f N g b))
 have hK:Ac Tryz.prog muts (Q6 N) Ob N 50 [(.imm c a 1 d e),(.int .i64 f)] [] F=(Agt N (Jn F) (fun g b=>Aol N F (Gi c a d e f g b)) c a d e f):=by kernel_rfl
 rw [Ain]
 exact hK.trans (by rw [e1];rfl)
def Ml (N:Nat) (args:List AV) (h:Aj) (k:KF R):Option R :=
 match args,h with
 | [(.imm c a 1 d e),(.int .i64 f)],[]=>(Mk N c a d e f (Jn k))
 | _,_=>none
def Aom (N:Nat):Tw:=⟨Ml N,fun args h k=>by
 unfold Ml;split
 exact twE (W2 ..) (W2 ..)
 rfl⟩
theorem Bcx (N:Nat):A1 Tryz.prog 50 (Aom N):=fun args h res j hh=>by
 change Ml N args h (fun v j=>some (v,j))=_ at hh
 unfold Ml at hh;split at hh
 exact Aa (T:=Q6 N) ⟨Ags N,trivial⟩ follows ((W2 ..).trans hh)
 cases hh
def Amj (N:Nat)  (r0:Bool→Option R) (c:Int) (b:Bool) (a:LA)   :Option R :=
 (rdI .i64 (List.drop 2 a) fun e=>(rdI .i64 (List.drop 3 a) fun f=>(rdI .i64 (List.drop 8 a) fun g=>(rdI .i64 (List.drop 9 a) fun i=>(Co N e f [(.int .i64 g),(.int .i64 i)] 2 false true (fun j=>(cond (!j) (r0 false) (rdI .i64 (List.drop 5 a) fun l=>(rdI .i64 (List.drop 13 a) fun m=>(rdI .i64 (List.drop 14 a) fun n=>(rdI .i64 (List.drop 17 a) fun o=>(Co N 0 1048576 [(.int .i64 l),(.int .i64 m),(.int .i64 n),(.int .i64 o)] 4 false true (fun p=>(cond (!p) (r0 false) (rdI .i64 (List.drop 19 a) fun q=>(cond (q==(2:Int)) (rdI .i64 (List.drop 2 a) fun r=>(rdI .i64 (List.drop 3 a) fun t=>(rdI .i64 (List.drop 21 a) fun u=>(Co N r t [(.int .i64 u)] 1 false true (fun w=>(cond (!w) (r0 false) (cond (Nat.ble 22 (List.length a)) (Fj N (List.take 22 a) b (fun x=>(cond (x==true) (rdL 1 (List.drop 18 a) fun y z=>(Mk N y z false b c (fun aa=>(r0 (cond true aa false))))) (r0 false)))) none))))))) (rdI .i64 (List.drop 21 a) fun ab=>(cond (ab != (0:Int)) (r0 false) (cond (Nat.ble 22 (List.length a)) (Fj N (List.take 22 a) b (fun ac=>(cond (ac==true) (rdL 1 (List.drop 18 a) fun ad ae=>(Mk N ad ae false b c (fun af=>(r0 (cond true af false))))) (r0 false)))) none)))))))))))))))))))
def Asi (N:Nat)  (r0:Bool→Option R) (c:Int) (b:Bool) (a:LA) :Option R:=(Amj N r0 c b a)
def Amk (N:Nat)  (r0:Bool→Option R) (c:Int) (b:Bool) (a:LA)  (q1:Option R) :Option R :=
 (rdI .i64 (List.drop 2 a) fun ag=>(rdI .i64 (List.drop 3 a) fun ah=>(rdI .i64 (List.drop 6 a) fun ai=>(rdI .i64 (List.drop 7 a) fun aj=>(rdI .i64 (List.drop 16 a) fun ak=>(Co N 0 1048576 [(.int .i64 ag),(.int .i64 ah),(.int .i64 ai),(.int .i64 aj),(.int .i64 ak)] 5 false true (fun al=>(cond ((!al)==false) (rdI .i64 (List.drop 2 a) fun am=>(rdI .i64 (List.drop 3 a) fun an=>(cond (cond false true (decide (am>an))) (r0 false) q1))) (r0 false)))))))))
def Asj (N:Nat)  (r0:Bool→Option R) (c:Int) (b:Bool) (a:LA) :Option R:=(Amk N r0 c b a (Asi N r0 c b a))
def A8r (N:Nat) (r0:Bool→Option R) (q0:Option R) (a:LA) (b:Bool) (c:Int):Option R :=
 (Co N 1 24 [(.int .i64 c)] 1 false true (fun ao=>(cond ((!ao)==false) (cond (Nat.ble 22 (List.length a)) (Nq N (List.take 22 a) b (fun ap=>(cond (cond false true (!ap)) (r0 false) q0))) none) (r0 false))))
def A8s (N:Nat) (a:LA) (b:Bool) (c:Int) (r0:Bool→Option R):Option R:=(A8r N r0 (Asj N r0 c b a) a b c)
def Ab9:=(Ai (@A8s R)).1
theorem A4m:@Ab9 R=@A8s R:=(Ai _).2
def Ae2:Hints:={ H:=(hS (hR [1,2]) (hJ (hS (hR [1,2,13]) (hN [1,2] (hS (hR [4]) hL) hL)) (hJ (hS (hR [1,2,33]) (hN [1,2] (hS (hR [4]) hL) hL)) (hS (hS (hR [1,2,44]) (hN [1,2] (hS (hR [4]) hL) hL)) (hS (hS (hR [1,2,55]) (hN [1,2] (hS (hR [4]) hL) hL)) (hS (hS (hR [1,2,58]) (hN [1,2] (hS (hR [1,2,67]) (hN [1,2] (hS (hR [4]) hL) hL)) (hS (hR [1,2,70]) (hN [1,2] (hS (hR [4]) hL) hL)))) (hS (hR [4]) hL))))))),nils:=[],modes:=[],free:=[],cob:=[] }
def Aml (N:Nat):List (Nat×Tw):=[(47,Vk N),(48,Pp N),(49,Xs N),(50,Aom N)]
def Ty (N:Nat):Env:=mkE 79 Ae2 (Aml N)
def Bo0 (N:Nat) (F:KF R):=Aq (Ty N) Tryz.f16 Ae2.modes [] F
def Ae3 (N:Nat) (F:KF R):=atF (Ty N) [] N Tryz.f16 Ae2 (Bo0 N F)
def Lc  (F:KF R):Bool→Option R:=(fun aq=>F (.bool aq) [])
def Ae4 (c:Int) (b:Bool) (a:LA):St:={ s:=[(1,(.int .i64 c)),(2,(.optr 300000 0))],h:=[(300000,⟨false,false,true,b,0,a,false⟩)] }
def Bbt (N:Nat) (F:KF R):St→Option R:=Bm (Ty N) [] N (Ae3 N F [1,1,1] [])
def Bbu (N:Nat) (F:KF R):St→Option R:=Bq (Ty N) [] N (Ae3 N F [1,1,1] [])
def Ae5 (c:Int) (b:Bool) (a:LA):St:={ s:=[(1,(.int .i64 c)),(2,(.optr 300000 0))],h:=[(300000,⟨false,false,true,b,0,a,false⟩)] }
def Bbv (N:Nat) (F:KF R):St→Option R:=Bm (Ty N) [] N (Ae3 N F [1,1] [])
def Bbw (N:Nat) (F:KF R):St→Option R:=Bq (Ty N) [] N (Ae3 N F [1,1] [])
theorem Bh9 (N:Nat)  (F:KF R) (c:Int) (b:Bool) (a:LA):Bbu N F (Ae4 c b a)=(Asi N (Lc F) c b a):=by
 have hK:Bbu N F (Ae4 c b a)=(Amj N (Lc F) c b a):=by kernel_rfl
 exact hK
theorem Bia (N:Nat)  (F:KF R) (c:Int) (b:Bool) (a:LA):Bbw N F (Ae5 c b a)=(Asj N (Lc F) c b a):=by
 have e1:=(show Bbt N F (Ae4 c b a)=_ from (As ..).trans (Bh9 N F c b a))
 have hK:Bbw N F (Ae5 c b a)=(Amk N (Lc F) c b a (Bbt N F (Ae4 c b a))):=by kernel_rfl
 exact hK.trans (by rw [e1];rfl)
theorem Ask (N:Nat) (a:LA) (b:Bool) (c:Int) (F:KF R):Ac Tryz.prog muts (Aml N) Ae2 N 16 [(.pagg a b),(.int .i64 c)] [] F=(Ab9 N a b c (Lc F)):=by
 have e1:=(show Bbv N F (Ae5 c b a)=_ from (As ..).trans (Bia N F c b a))
 have hK:Ac Tryz.prog muts (Aml N) Ae2 N 16 [(.pagg a b),(.int .i64 c)] [] F=(A8r N (Lc F) (Bbv N F (Ae5 c b a)) a b c):=by kernel_rfl
 rw [A4m]
 exact hK.trans (by rw [e1];rfl)
def Y5 (N:Nat) (args:List AV) (h:Aj) (k:KF R):Option R :=
 match args,h with
 | [(.pagg a b),(.int .i64 c)],[]=>(Ab9 N a b c (Lc k))
 | _,_=>none
def Ae6 (N:Nat):Tw:=⟨Y5 N,fun args h k=>by
 unfold Y5;split
 exact twE (Ask ..) (Ask ..)
 rfl⟩
theorem Asl (N:Nat):A1 Tryz.prog 16 (Ae6 N):=fun args h res d hh=>by
 change Y5 N args h (fun v d=>some (v,d))=_ at hh
 unfold Y5 at hh;split at hh
 exact Aa (T:=Aml N) ⟨Ags N,Wi N,Awa N,Bcx N,trivial⟩ follows ((Ask ..).trans hh)
 cases hh
def A1h (N:Nat) (r0:Bool→Option R)  (a:LA) (b:Bool) (c d:Int):Option R :=
 (cond (Nat.ble 3 (List.length a)) (C0 N c (fun f=>(G0 N (List.take 3 a) b f false (fun g=>(cond ((decide (g≥(0:Int)))==true) (cond (Nat.ble 3 (List.length a)) (C0 N d (fun i=>(G0 N (List.take 3 a) b i false (fun j=>(r0 (cond true (decide (j≤(0:Int))) false)))))) none) (r0 false)))))) none)
def A1i (N:Nat) (a:LA) (b:Bool) (c d:Int) (r0:Bool→Option R):Option R:=(A1h N r0 a b c d)
def Z4:=(Ai (@A1i R)).1
theorem Axs:@Z4 R=@A1i R:=(Ai _).2
def A4n:Hints:={ H:=(hS (hR [1,2,3]) (hS (hR [6]) hL)),nils:=[],modes:=[],free:=[],cob:=[] }
def Asm (N:Nat):List (Nat×Tw):=[(60,Ni N),(59,U4 N)]
def Amm  (F:KF R):Bool→Option R:=(fun l=>F (.bool l) [])
theorem Amn (N:Nat) (a:LA) (b:Bool) (c d:Int) (F:KF R):Ac Tryz.prog muts (Asm N) A4n N 56 [(.pagg a b),(.int .i64 c),(.int .i64 d)] [] F=(Z4 N a b c d (Amm F)):=by
 have hK:Ac Tryz.prog muts (Asm N) A4n N 56 [(.pagg a b),(.int .i64 c),(.int .i64 d)] [] F=(A1h N (Amm F) a b c d):=by kernel_rfl
 rw [Axs]
 exact hK
def Vl (N:Nat) (args:List AV) (h:Aj) (k:KF R):Option R :=
 match args,h with
 | [(.pagg a b),(.int .i64 c),(.int .i64 d)],[]=>(Z4 N a b c d (Amm k))
 | _,_=>none
def Amo (N:Nat):Tw:=⟨Vl N,fun args h k=>by
 unfold Vl;split
 exact twE (Amn ..) (Amn ..)
 rfl⟩
theorem A4o (N:Nat):A1 Tryz.prog 56 (Amo N):=fun args h res e hh=>by
 change Vl N args h (fun v e=>some (v,e))=_ at hh
 unfold Vl at hh;split at hh
 exact Aa (T:=Asm N) ⟨Ur N,Agg N,trivial⟩ follows ((Amn ..).trans hh)
 cases hh
def A8t (N:Nat) (r0:LA→Option R)  (b:Int) (a:LA) (c:Bool):Option R :=
 (C0 N b (fun f=>(cond (Nat.ble 3 (List.length a)) (A71 N f false (List.take 3 a) c (fun d=>(cond ((Nat.beq 0 0)&&((Nat.beq (List.length d) 3)&&(Nat.beq 3 3))) (cond (Nat.ble 3 (List.length d)) (r0 (List.take 3 d)) none) none))) none)))
def A8u (N:Nat) (b:Int) (a:LA) (c:Bool) (r0:LA→Option R):Option R:=(A8t N r0 b a c)
def Asn:=(Ai (@A8u R)).1
theorem A4p:@Asn R=@A8u R:=(Ai _).2
def Bbx:Hints:={ H:=(hS (hR [0,3,4]) (hS (hR [4]) hL)),nils:=[],modes:=[(3,0)],free:=[],cob:=[] }
def A1j (N:Nat):List (Nat×Tw):=[(60,Ni N),(82,Bmc N)]
def Aso  (F:KF R):LA→Option R:=(fun g=>F (.pagg g false) [])
theorem Asp (N:Nat) (b:Int) (a:LA) (c:Bool) (F:KF R):Ac Tryz.prog muts (A1j N) Bbx N 86 [(.int .i64 b),(.pagg a c)] [] F=(Asn N b a c (Aso F)):=by
 have hK:Ac Tryz.prog muts (A1j N) Bbx N 86 [(.int .i64 b),(.pagg a c)] [] F=(A8t N (Aso F) b a c):=by kernel_rfl
 rw [A4p]
 exact hK
def Y6 (N:Nat) (args:List AV) (h:Aj) (k:KF R):Option R :=
 match args,h with
 | [(.int .i64 b),(.pagg a c)],[]=>(Asn N b a c (Aso k))
 | _,_=>none
def Bby (N:Nat):Tw:=⟨Y6 N,fun args h k=>by
 unfold Y6;split
 exact twE (Asp ..) (Asp ..)
 rfl⟩
theorem Bqx (N:Nat):A1 Tryz.prog 86 (Bby N):=fun args h res e hh=>by
 change Y6 N args h (fun v e=>some (v,e))=_ at hh
 unfold Y6 at hh;split at hh
 exact Aa (T:=A1j N) ⟨Ur N,Bvc N,trivial⟩ follows ((Asp ..).trans hh)
 cases hh
def I8 (N:Nat)  (r0:LA→Option R) (e:LA) (g:Nat) (d:Bool) (k0:Int→Int→LA→LA→Option R)  (f b:Int) (c a:LA):Option R :=
 (cond (decide (b<f)) (cond (Am b g) (cond (Nat.ble 2 (List.length (List.drop ((Int.toNat b)*2) e))) (cond ((!d)||(Bv (List.take 2 (List.drop ((Int.toNat b)*2) e)))) (cond ((Nat.beq (List.length (List.take 2 (List.drop ((Int.toNat b)*2) e))) 2)&&((Nat.ble 2 2)&&(!false))) (cond (Nat.ble 3 (List.length c)) (Yn N (List.take 3 c) false (fun u=>(cond (decide (u≤(0:Int))) (cond (Nat.ble 3 (List.length a)) (cond ((Nat.beq 0 0)&&((Nat.beq (List.length (List.take 3 a)) 3)&&(Nat.beq 3 3))) (cond (Nat.ble 3 (List.length (List.take 3 a))) (r0 (List.take 3 (List.take 3 a))) none) none) none) (cond (Nat.ble 3 (List.length c)) (rdI .i64 (setCells [(.int .i64 0),(.int .i64 0)] 0 (List.take 2 (List.drop ((Int.toNat b)*2) e))) fun w=>(C0 N w (fun x=>(A7y N (List.take 3 c) false x false (fun m=>(cond ((Nat.beq 0 0)&&((Nat.beq (List.length m) 3)&&(Nat.beq 3 3))) (cond (Nat.ble 3 (List.length a)) (rdI .i64 (List.drop 1 (setCells [(.int .i64 0),(.int .i64 0)] 0 (List.take 2 (List.drop ((Int.toNat b)*2) e)))) fun y=>(cond (Nat.ble 3 (List.length m)) (Asn N y (List.take 3 m) false (fun z=>(Art N (List.take 3 a) false z false (fun o=>(cond ((Nat.beq (List.length o) 3)&&((Nat.ble 3 (List.length a))&&(!false))) (cond (Nat.ble 3 (List.length c)) (cond (Nat.ble 3 (List.length m)) (Aru N (List.take 3 c) false (List.take 3 m) false (fun p=>(cond ((Nat.beq (List.length p) 3)&&((Nat.ble 3 (List.length c))&&(!false))) (k0 f (IntKind.wrap .i64 (b+(1:Int))) (setCells c 0 p) (setCells a 0 o)) none))) none) none) none))))) none)) none) none)))))) none)))) none) none) none) none) none) (cond (Nat.ble 3 (List.length a)) (cond ((Nat.beq 0 0)&&((Nat.beq (List.length (List.take 3 a)) 3)&&(Nat.beq 3 3))) (cond (Nat.ble 3 (List.length (List.take 3 a))) (r0 (List.take 3 (List.take 3 a))) none) none) none))
def Eg (N:Nat)  (r0:LA→Option R) (e:LA) (g:Nat) (d:Bool):Nat→Int→Int→LA→LA→Option R
 | 0,_,_,_,_=>none
 | n+1,f,b,c,a=>(I8 N r0 e g d (Eg N r0 e g d n) f b c a)
def W3 (N:Nat) (r0:LA→Option R) (q0:LA→Nat→Int→Int→LA→LA→Option R) (i:LA) (d:Bool) (j:LA) (l:Bool):Option R :=
 (cond (Nat.ble 3 (List.length j)) (rdI .i64 (List.drop 2 i) fun aa=>(C0 N aa (fun ab=>(Aru N (List.take 3 j) l ab false (fun q=>(cond ((Nat.beq 0 0)&&((Nat.beq (List.length q) 3)&&(Nat.beq 3 3))) (C0 N 0 (fun r=>(cond ((Nat.beq 0 0)&&((Nat.beq (List.length r) 3)&&(Nat.beq 3 3))) (rdL 2 (List.drop 4 i) fun e g=>(q0 e g ((g:Nat):Int) 0 q r)) none))) none)))))) none)
def W4 (N:Nat) (i:LA) (d:Bool) (j:LA) (l:Bool) (r0:LA→Option R):Option R:=(W3 N r0 (fun e g f b c a=>(Eg N r0 e g d N f b c a)) i d j l)
def Ld:=(Ai (@W4 R)).1
theorem Aca:@Ld R=@W4 R:=(Ai _).2
def Ko:Hints:={ H:=(hS (hR [2,3,4]) (hS (hR [2,4,5]) (hS (hR [2,4,5,6]) (hS (hS (hR [4,5,6,17,18,19]) (hN [4,6] (hN [4,5,6,17,18,19] (hS (hR [4,5,6,17,18,19,20]) (hS (hN [4,5,6,17,18,19] hL hL) (hS (hN [4,5,6,17,18,19] (hS (hR [4,5,6,8,17,18,19]) (hS (hS (hR [4,5,6,8,17,18,19,25]) (hN [4,5,6,8,17,18,19] hL hL)) (hS (hR [4,5,6,8,9,17,18,19]) (hS (hR [4,5,6,9,17,18,19]) (hR [4,5,6,17,18,19]))))) hL) (hR [4,5,6,17,18,19])))) hL) hL)) (hS (hR [4]) hL))))),nils:=[],modes:=[(3,0)],free:=[],cob:=[] }
def Mm (N:Nat):List (Nat×Tw):=[(60,Ni N),(83,Bl6 N),(95,Akk N),(96,Bl8 N),(86,Bby N),(81,A7v N)]
def Mn (N:Nat):Env:=mkE 42 Ko (Mm N)
def A1k (N:Nat) (F:KF R):=Aq (Mn N) Tryz.f57 Ko.modes [] F
def Ae7 (N:Nat) (F:KF R):=atF (Mn N) [] N Tryz.f57 Ko (A1k N F)
def Gs  (F:KF R):LA→Option R:=(fun ac=>F (.pagg ac false) [])
def Eh (e:LA) (g:Nat) (d:Bool) (f b:Int) (c a:LA):St:={ s:=[(4,(.optr 300000 0)),(5,(.optr 300001 0)),(6,(.optr 300002 0)),(17,(.imm e g 2 false d)),(18,(.int .i64 f)),(19,(.int .i64 b))],h:=[(300000,⟨false,false,false,false,0,[(.bool false),.nsl,.nsl],false⟩),(300001,⟨false,false,true,false,0,c,false⟩),(300002,⟨false,false,true,false,0,a,false⟩)] }
def Ae8 (N:Nat) (F:KF R):St→Option R:=Bx (Mn N) [] N (Ae7 N F [1,1,1,0,1,0] []) N
def Kp (N:Nat) (F:KF R) (n:Nat):St→Option R:=Ba (Mn N) [] N (Ae7 N F [1,1,1,0,1,0] []) n
theorem Asq (N:Nat)  (F:KF R) (e:LA) (g:Nat) (d:Bool):∀ (n:Nat) (f b:Int) (c a:LA),Kp N F n (Eh e g d f b c a)=(Eg N (Gs F) e g d n f b c a):=by
 intro n
 induction n with
 | zero=>intros;kernel_rfl
 | succ n ih =>
  intro f b c a
  have e0:=funext fun f=>funext fun b=>funext fun c=>funext fun a=>(show Kp N F n (Eh e g d f b c a)=_ from ih f b c a)
  have hK:Kp N F (n+1) (Eh e g d f b c a)=(I8 N (Gs F) e g d (fun f b c a=>Kp N F n (Eh e g d f b c a)) f b c a):=by kernel_rfl
  exact hK.trans (by rw [e0];rfl)
theorem Q8 (N:Nat) (i:LA) (d:Bool) (j:LA) (l:Bool) (F:KF R):Ac Tryz.prog muts (Mm N) Ko N 57 [(.pagg i d),(.pagg j l)] [] F=(Ld N i d j l (Gs F)):=by
 have e1:=funext fun e=>funext fun g=>funext fun f=>funext fun b=>funext fun c=>funext fun a=>(show Ae8 N F (Eh e g d f b c a)=_ from (Ar ..).trans (Asq N F e g d N f b c a))
 have hK:Ac Tryz.prog muts (Mm N) Ko N 57 [(.pagg i d),(.pagg j l)] [] F=(W3 N (Gs F) (fun e g f b c a=>Ae8 N F (Eh e g d f b c a)) i d j l):=by kernel_rfl
 rw [Aca]
 exact hK.trans (by rw [e1];rfl)
def I9 (N:Nat) (args:List AV) (h:Aj) (k:KF R):Option R :=
 match args,h with
 | [(.pagg i d),(.pagg j l)],[]=>(Ld N i d j l (Gs k))
 | _,_=>none
def Ae9 (N:Nat):Tw:=⟨I9 N,fun args h k=>by
 unfold I9;split
 exact twE (Q8 ..) (Q8 ..)
 rfl⟩
theorem A4q (N:Nat):A1 Tryz.prog 57 (Ae9 N):=fun args h res t hh=>by
 change I9 N args h (fun v t=>some (v,t))=_ at hh
 unfold I9 at hh;split at hh
 exact Aa (T:=Mm N) ⟨Ur N,Bva N,Azt N,Bvb N,Bqx N,Bl4 N,trivial⟩ follows ((Q8 ..).trans hh)
 cases hh
def W5 (N:Nat) (r0:LA→Int→Option R)  (a:LA) (c:Bool) (b:LA) (d:Bool):Option R :=
 (cond (Nat.ble 22 (List.length a)) (Ab9 N (List.take 22 a) c 24 (fun g=>(cond (!g) (r0 [(.bool false),.nsl,.nsl] 1) (cond (Nat.ble 3 (List.length b)) (rdI .i64 (List.drop 2 a) fun i=>(rdI .i64 (List.drop 3 a) fun j=>(Z4 N (List.take 3 b) d i j (fun l=>(cond (!l) (r0 [(.bool false),.nsl,.nsl] 3) (cond (Nat.ble 22 (List.length a)) (cond (Nat.ble 3 (List.length b)) (Ld N (List.take 22 a) c (List.take 3 b) d (fun e=>(cond ((Nat.beq 0 0)&&((Nat.beq (List.length e) 3)&&(Nat.beq 3 3))) (cond (Nat.ble 3 (List.length e)) (r0 (List.take 3 e) 0) none) none))) none) none)))))) none)))) none)
def W6 (N:Nat) (a:LA) (c:Bool) (b:LA) (d:Bool) (r0:LA→Int→Option R):Option R:=(W5 N r0 a c b d)
def Eb:=(Ai (@W6 R)).1
theorem Acb:@Eb R=@W6 R:=(Ai _).2
def Afa:Hints:={ H:=(hS (hR [2,3,4]) (hS (hS (hR [2,3,4,8]) (hN [2,3,4] (hS (hR [4,5]) hL) hL)) (hS (hS (hR [2,3,4,16]) (hN [2,3,4] (hS (hR [4,5]) hL) hL)) (hS (hR [4,5]) hL)))),nils:=[],modes:=[(3,0),(0,0)],free:=[],cob:=[] }
def Tz (N:Nat):List (Nat×Tw):=[(16,Ae6 N),(56,Amo N),(57,Ae9 N)]
def Q9  (F:KF R):LA→Int→Option R:=(fun m n=>F (.tup [(.pagg m false),(.int .i64 n)]) [])
theorem Ra (N:Nat) (a:LA) (c:Bool) (b:LA) (d:Bool) (F:KF R):Ac Tryz.prog muts (Tz N) Afa N 21 [(.pagg a c),(.pagg b d)] [] F=(Eb N a c b d (Q9 F)):=by
 have hK:Ac Tryz.prog muts (Tz N) Afa N 21 [(.pagg a c),(.pagg b d)] [] F=(W5 N (Q9 F) a c b d):=by kernel_rfl
 rw [Acb]
 exact hK
def Ja (N:Nat) (args:List AV) (h:Aj) (k:KF R):Option R :=
 match args,h with
 | [(.pagg a c),(.pagg b d)],[]=>(Eb N a c b d (Q9 k))
 | _,_=>none
def Rb (N:Nat):Tw:=⟨Ja N,fun args h k=>by
 unfold Ja;split
 exact twE (Ra ..) (Ra ..)
 rfl⟩
theorem Afb (N:Nat):A1 Tryz.prog 21 (Rb N):=fun args h res f hh=>by
 change Ja N args h (fun v f=>some (v,f))=_ at hh
 unfold Ja at hh;split at hh
 exact Aa (T:=Tz N) ⟨Asl N,A4o N,A4q N,trivial⟩ follows ((Ra ..).trans hh)
 cases hh
end
end Gx

namespace Gx
open Go Go.Proofs
set_option maxRecDepth 100000
noncomputable section
variable {R:Type}
def W7 (N:Nat) (k1:Bool→Bool→Int→Int→Int→LA→LA→Option R) (r0:LA→LA→Bool→Bool→Option R) (i:Bool) (q r:Int) (f:LA) (j:Nat) (c:Bool) (g d:Int) (b:Bool) (a e:LA)   (t:Bool) (u:Int) (w x:LA):Option R :=
 (cond ((decide (q≥(0:Int)))==true) (cond (cond true (decide (r<(0:Int))) false) (rdI .i64 (List.drop 1 x) fun ac=>(C0 N ac (fun z=>(cond ((Nat.beq (List.length z) 3)&&((Nat.ble 3 (List.length e))&&(!false))) (k1 t true u g (IntKind.wrap .i64 (d+(1:Int))) w (setCells e 0 z)) none)))) (k1 t i u g (IntKind.wrap .i64 (d+(1:Int))) w e)) (k1 t i u g (IntKind.wrap .i64 (d+(1:Int))) w e))
def Le (N:Nat) (k1:Bool→Bool→Int→Int→Int→LA→LA→Option R) (r0:LA→LA→Bool→Bool→Option R) (i:Bool) (q r:Int) (f:LA) (j:Nat) (c:Bool) (g d:Int) (b:Bool) (a e:LA) (t:Bool) (u:Int) (w x:LA):Option R:=(W7 N k1 r0 i q r f j c g d b a e t u w x)
def Od (N:Nat)  (r0:LA→LA→Bool→Bool→Option R) (f:LA) (j:Nat) (c b:Bool) (a:LA) (k1:Bool→Bool→Int→Int→Int→LA→LA→Option R) (q2:Int→Int→Bool→Int→LA→LA→Option R) (o i:Bool) (m g d:Int) (l e:LA):Option R :=
 (cond (decide (d<g)) (cond (Am d j) (cond (Nat.ble 2 (List.length (List.drop ((Int.toNat d)*2) f))) (cond ((!c)||(Bv (List.take 2 (List.drop ((Int.toNat d)*2) f)))) (cond ((Nat.beq (List.length (List.take 2 (List.drop ((Int.toNat d)*2) f))) 2)&&((Nat.ble 2 2)&&(!false))) (rdI .i64 (setCells [(.int .i64 0),(.int .i64 0)] 0 (List.take 2 (List.drop ((Int.toNat d)*2) f))) fun y=>(cond (Nat.ble 3 (List.length a)) (C0 N m (fun ad=>(G0 N (List.take 3 a) b ad false (fun q=>(cond (Nat.ble 3 (List.length a)) (C0 N (IntKind.wrap .i64 (m+y)) (fun ae=>(G0 N (List.take 3 a) b ae false (fun r=>(cond ((decide (q>(0:Int)))==true) (cond (cond true (decide (r≤(0:Int))) false) (rdI .i64 (List.drop 1 (setCells [(.int .i64 0),(.int .i64 0)] 0 (List.take 2 (List.drop ((Int.toNat d)*2) f)))) fun af=>(C0 N af (fun aa=>(cond ((Nat.beq (List.length aa) 3)&&((Nat.ble 3 (List.length l))&&(!false))) (q2 q r true (IntKind.wrap .i64 (m+y)) (setCells l 0 aa) (setCells [(.int .i64 0),(.int .i64 0)] 0 (List.take 2 (List.drop ((Int.toNat d)*2) f)))) none)))) (q2 q r o (IntKind.wrap .i64 (m+y)) l (setCells [(.int .i64 0),(.int .i64 0)] 0 (List.take 2 (List.drop ((Int.toNat d)*2) f))))) (q2 q r o (IntKind.wrap .i64 (m+y)) l (setCells [(.int .i64 0),(.int .i64 0)] 0 (List.take 2 (List.drop ((Int.toNat d)*2) f))))))))) none))))) none)) none) none) none) none) (cond (Nat.ble 3 (List.length l)) (cond (Nat.ble 3 (List.length e)) (cond ((Nat.beq (List.length (List.take 3 l)) 3)&&((Nat.ble 3 (List.length l))&&(!false))) (cond ((Nat.beq (List.length (List.take 3 e)) 3)&&((Nat.ble 3 (List.length e))&&(!false))) (cond (Nat.ble 3 (List.length (setCells l 0 (List.take 3 l)))) (cond (Nat.ble 3 (List.length (setCells e 0 (List.take 3 e)))) (r0 (List.take 3 (setCells l 0 (List.take 3 l))) (List.take 3 (setCells e 0 (List.take 3 e))) o i) none) none) none) none) none) none))
def Dc (N:Nat)  (r0:LA→LA→Bool→Bool→Option R) (f:LA) (j:Nat) (c b:Bool) (a:LA):Nat→Bool→Bool→Int→Int→Int→LA→LA→Option R
 | 0,_,_,_,_,_,_,_=>none
 | n+1,o,i,m,g,d,l,e=>(Od N r0 f j c b a (Dc N r0 f j c b a n) (fun q r t u w x=>(Le N (Dc N r0 f j c b a n) r0 i q r f j c g d b a e t u w x)) o i m g d l e)
def W8 (N:Nat)  (r0:LA→LA→Bool→Bool→Option R) (c:Bool) (p:LA) (b:Bool) (a:LA)  (q1:LA→Nat→Bool→Bool→Int→Int→Int→LA→LA→Option R) :Option R :=
 (rdI .i64 (List.drop 2 p) fun ag=>(rdL 2 (List.drop 4 p) fun f j=>(q1 f j false false ag ((j:Nat):Int) 0 [(.bool false),.nsl,.nsl] [(.bool false),.nsl,.nsl])))
def Acc (N:Nat)  (r0:LA→LA→Bool→Bool→Option R) (c:Bool) (p:LA) (b:Bool) (a:LA) :Option R:=(W8 N r0 c p b a (fun f j o i m g d l e=>(Dc N r0 f j c b a N o i m g d l e)))
def Amp (N:Nat) (r0:LA→LA→Bool→Bool→Option R) (q0:Option R) (p:LA) (c:Bool) (a:LA) (b:Bool):Option R :=
 (cond (Nat.ble 22 (List.length p)) (Ab9 N (List.take 22 p) c 24 (fun ah=>(cond ((!ah)==false) (cond (Nat.ble 3 (List.length a)) (rdI .i64 (List.drop 2 p) fun ai=>(rdI .i64 (List.drop 3 p) fun aj=>(Z4 N (List.take 3 a) b ai aj (fun ak=>(cond (cond false true (!ak)) (r0 [(.bool false),.nsl,.nsl] [(.bool false),.nsl,.nsl] false false) q0))))) none) (r0 [(.bool false),.nsl,.nsl] [(.bool false),.nsl,.nsl] false false)))) none)
def Amq (N:Nat) (p:LA) (c:Bool) (a:LA) (b:Bool) (r0:LA→LA→Bool→Bool→Option R):Option R:=(Amp N r0 (Acc N r0 c p b a) p c a b)
def In:=(Ai (@Amq R)).1
theorem Aon:@In R=@Amq R:=(Ai _).2
def Rc:Hints:={ H:=(hS (hR [2,3,4,5,6,7]) (hJ (hS (hR [2,3,4,5,6,7,25]) (hN [2,3,4,5,6,7] (hS (hR [4,5,6,7]) hL) hL)) (hS (hR [2,3,4,5,6,7,8]) (hS (hS (hR [3,4,5,6,7,8,31,32,33]) (hN [4,5,6,7] (hN [3,4,5,6,7,8,31,32,33] (hS (hR [3,4,5,6,7,8,31,32,33,34]) (hS (hN [3,4,5,6,7,8,31,32,33] hL hL) (hS (hN [3,4,5,6,7,8,31,32,33] (hS (hR [3,4,5,6,7,8,10,31,32,33]) (hS (hR [3,4,5,6,7,8,10,11,31,32,33]) (hS (hR [3,4,5,6,7,10,11,12,31,32,33]) (hS (hR [3,4,5,6,7,10,11,12,13,31,32,33]) (hJ (hS (hR [3,4,5,6,7,10,11,12,13,31,32,33,54]) (hN [3,4,5,6,7,10,11,12,13,31,32,33] (hR [3,4,5,6,7,10,11,12,13,31,32,33]) hL)) (hS (hS (hR [3,4,5,6,7,10,11,31,32,33,63]) (hN [3,4,5,6,7,11,31,32,33] (hR [3,4,5,6,7,11,31,32,33]) hL)) (hR [3,4,5,6,7,8,31,32,33]))))))) hL) (hR [3,4,5,6,7,8,31,32,33])))) hL) hL)) (hS (hR [4,5,6,7]) hL))))),nils:=[],modes:=[(3,0),(3,0),(0,0),(0,0)],free:=[],cob:=[4,5,10] }
def Vm (N:Nat):List (Nat×Tw):=[(16,Ae6 N),(56,Amo N),(60,Ni N),(59,U4 N)]
def E7 (N:Nat):Env:=mkE 73 Rc (Vm N)
def Bcy (N:Nat) (F:KF R):=Aq (E7 N) Tryz.f23 Rc.modes [] F
def H3 (N:Nat) (F:KF R):=atF (E7 N) [] N Tryz.f23 Rc (Bcy N F)
def Cg  (F:KF R):LA→LA→Bool→Bool→Option R:=(fun al am an ao=>F (.tup [(.pagg al false),(.pagg am false),(.bool an),(.bool ao)]) [])
def Rd (i:Bool) (q r:Int) (f:LA) (j:Nat) (c:Bool) (g d:Int) (b:Bool) (a e:LA) (t:Bool) (u:Int) (w x:LA):St:={ s:=[(3,(.optr 300000 0)),(4,(.optr 300001 0)),(5,(.optr 300002 0)),(6,(.bool t)),(7,(.bool i)),(10,(.optr 300003 0)),(11,(.int .i64 u)),(12,(.int .i64 q)),(13,(.int .i64 r)),(31,(.imm f j 2 false c)),(32,(.int .i64 g)),(33,(.int .i64 d))],h:=[(300000,⟨false,false,true,b,0,a,false⟩),(300001,⟨false,false,true,false,0,w,false⟩),(300002,⟨false,false,true,false,0,e,false⟩),(300003,⟨false,false,true,false,0,x,false⟩)] }
def Asr (N:Nat) (F:KF R) (Q1:St→Option R):St→Option R:=Bm (E7 N) [] N (H3 N F [1,1,1,0,1,0,0,1,1,0,0,1,1,1,1,1] [Q1])
def Ass (N:Nat) (F:KF R) (Q1:St→Option R):St→Option R:=Bq (E7 N) [] N (H3 N F [1,1,1,0,1,0,0,1,1,0,0,1,1,1,1,1] [Q1])
def Ec (f:LA) (j:Nat) (c b:Bool) (a:LA) (o i:Bool) (m g d:Int) (l e:LA):St:={ s:=[(3,(.optr 300000 0)),(4,(.optr 300001 0)),(5,(.optr 300002 0)),(6,(.bool o)),(7,(.bool i)),(8,(.int .i64 m)),(31,(.imm f j 2 false c)),(32,(.int .i64 g)),(33,(.int .i64 d))],h:=[(300000,⟨false,false,true,b,0,a,false⟩),(300001,⟨false,false,true,false,0,l,false⟩),(300002,⟨false,false,true,false,0,e,false⟩)] }
def Ast (N:Nat) (F:KF R):St→Option R:=Bx (E7 N) [] N (H3 N F [1,1,1,0,1,0] []) N
def Fw (N:Nat) (F:KF R) (n:Nat):St→Option R:=Ba (E7 N) [] N (H3 N F [1,1,1,0,1,0] []) n
def Re (c:Bool) (p:LA) (b:Bool) (a:LA):St:={ s:=[(2,(.optr 300000 0)),(3,(.optr 300001 0)),(4,(.optr 300002 0)),(5,(.optr 300003 0)),(6,(.bool false)),(7,(.bool false))],h:=[(300000,⟨false,false,true,c,0,p,false⟩),(300001,⟨false,false,true,b,0,a,false⟩),(300002,⟨false,false,true,false,0,[(.bool false),.nsl,.nsl],false⟩),(300003,⟨false,false,true,false,0,[(.bool false),.nsl,.nsl],false⟩)] }
def Asu (N:Nat) (F:KF R):St→Option R:=Bm (E7 N) [] N (H3 N F [1,1] [])
def Asv (N:Nat) (F:KF R):St→Option R:=Bq (E7 N) [] N (H3 N F [1,1] [])
theorem A4r (N:Nat) (Q1:St→Option R) (F:KF R) (i:Bool) (q r:Int) (f:LA) (j:Nat) (c:Bool) (g d:Int) (b:Bool) (a e:LA):∀ (t:Bool) (u:Int) (w x:LA),Ass N F Q1 (Rd i q r f j c g d b a e t u w x)=(Le N (fun o i m g d l e=>Q1 (Ec f j c b a o i m g d l e)) (Cg F) i q r f j c g d b a e t u w x):=by
 intro t u w x
 have hK:Ass N F Q1 (Rd i q r f j c g d b a e t u w x)=(W7 N (fun o i m g d l e=>Q1 (Ec f j c b a o i m g d l e)) (Cg F) i q r f j c g d b a e t u w x):=by kernel_rfl
 exact hK
theorem A4s (N:Nat)  (F:KF R) (f:LA) (j:Nat) (c b:Bool) (a:LA):∀ (n:Nat) (o i:Bool) (m g d:Int) (l e:LA),Fw N F n (Ec f j c b a o i m g d l e)=(Dc N (Cg F) f j c b a n o i m g d l e):=by
 intro n
 induction n with
 | zero=>intros;kernel_rfl
 | succ n ih =>
  intro o i m g d l e
  have e0:=funext fun o=>funext fun i=>funext fun m=>funext fun g=>funext fun d=>funext fun l=>funext fun e=>(show Fw N F n (Ec f j c b a o i m g d l e)=_ from ih o i m g d l e)
  have e1:(fun q r t u w x=>Asr N F (Fw N F n) (Rd i q r f j c g d b a e t u w x))=(fun q r t u w x=>(Le N (Dc N (Cg F) f j c b a n) (Cg F) i q r f j c g d b a e t u w x)):=by funext q;funext r;funext t;funext u;funext w;funext x;exact ((As ..).trans (A4r N (Fw N F n) F i q r f j c g d b a e t u w x)).trans (by rw [e0])
  have hK:Fw N F (n+1) (Ec f j c b a o i m g d l e)=(Od N (Cg F) f j c b a (fun o i m g d l e=>Fw N F n (Ec f j c b a o i m g d l e)) (fun q r t u w x=>Asr N F (Fw N F n) (Rd i q r f j c g d b a e t u w x)) o i m g d l e):=by kernel_rfl
  exact hK.trans (by rw [e0,e1];rfl)
theorem A4t (N:Nat)  (F:KF R) (c:Bool) (p:LA) (b:Bool) (a:LA):Asv N F (Re c p b a)=(Acc N (Cg F) c p b a):=by
 have e1:=funext fun f=>funext fun j=>funext fun o=>funext fun i=>funext fun m=>funext fun g=>funext fun d=>funext fun l=>funext fun e=>(show Ast N F (Ec f j c b a o i m g d l e)=_ from (Ar ..).trans (A4s N F f j c b a N o i m g d l e))
 have hK:Asv N F (Re c p b a)=(W8 N (Cg F) c p b a (fun f j o i m g d l e=>Ast N F (Ec f j c b a o i m g d l e))):=by kernel_rfl
 exact hK.trans (by rw [e1];rfl)
theorem Acd (N:Nat) (p:LA) (c:Bool) (a:LA) (b:Bool) (F:KF R):Ac Tryz.prog muts (Vm N) Rc N 23 [(.pagg p c),(.pagg a b)] [] F=(In N p c a b (Cg F)):=by
 have e1:=(show Asu N F (Re c p b a)=_ from (As ..).trans (A4t N F c p b a))
 have hK:Ac Tryz.prog muts (Vm N) Rc N 23 [(.pagg p c),(.pagg a b)] [] F=(Amp N (Cg F) (Asu N F (Re c p b a)) p c a b):=by kernel_rfl
 rw [Aon]
 exact hK.trans (by rw [e1];rfl)
def Oe (N:Nat) (args:List AV) (h:Aj) (k:KF R):Option R :=
 match args,h with
 | [(.pagg p c),(.pagg a b)],[]=>(In N p c a b (Cg k))
 | _,_=>none
def Ace (N:Nat):Tw:=⟨Oe N,fun args h k=>by
 unfold Oe;split
 exact twE (Acd ..) (Acd ..)
 rfl⟩
theorem Asw (N:Nat):A1 Tryz.prog 23 (Ace N):=fun args h res ab hh=>by
 change Oe N args h (fun v ab=>some (v,ab))=_ at hh
 unfold Oe at hh;split at hh
 exact Aa (T:=Vm N) ⟨Asl N,A4o N,Ur N,Agg N,trivial⟩ follows ((Acd ..).trans hh)
 cases hh
def Bbz (N:Nat)  (r0:LA→Option R) (f:LA) (e:Nat) (a:Bool) (k0:Int→Int→LA→Option R)  (c b:Int) (d:LA):Option R :=
 (cond (decide (b<c)) (cond (Am b e) (rdI .i64 (List.drop ((Int.toNat b)*1) f) fun j=>(k0 c (IntKind.wrap .i64 (b+(1:Int))) (Buu d j))) none) (r0 d))
def A1l (N:Nat)  (r0:LA→Option R) (f:LA) (e:Nat) (a:Bool):Nat→Int→Int→LA→Option R
 | 0,_,_,_=>none
 | n+1,c,b,d=>(Bbz N r0 f e a (A1l N r0 f e a n) c b d)
def Bqy (N:Nat) (r0:LA→Option R) (q0:LA→Nat→Int→Int→LA→Option R) (g:LA) (a:Bool):Option R :=
 (rdL 1 (List.drop 18 g) fun f e=>(q0 f e ((e:Nat):Int) 0 []))
def Bqz (N:Nat) (g:LA) (a:Bool) (r0:LA→Option R):Option R:=(Bqy N r0 (fun f e c b d=>(A1l N r0 f e a N c b d)) g a)
def A4u:=(Ai (@Bqz R)).1
theorem Bb0:@A4u R=@Bqz R:=(Ai _).2
def Amr:Hints:={ H:=(hS (hR [1]) (hS (hR [1,3]) (hS (hS (hR [3,8,9,10]) (hN [3] (hN [3,8,9,10] (hS (hR [3,8,9,10,11]) (hS (hN [3,8,9,10] hL hL) (hS (hN [3,8,9,10] (hS (hR [3,5,8,9,10]) (hR [3,8,9,10])) hL) (hR [3,8,9,10])))) hL) hL)) (hS (hR [2]) hL)))),nils:=[],modes:=[],free:=[],cob:=[] }
def Avq (N:Nat):List (Nat×Tw):=[]
def Avr (N:Nat):Env:=mkE 18 Amr (Avq N)
def Bq0 (N:Nat) (F:KF R):=Aq (Avr N) Tryz.f117 Amr.modes [] F
def Bib (N:Nat) (F:KF R):=atF (Avr N) [] N Tryz.f117 Amr (Bq0 N F)
def Acf  (F:KF R):LA→Option R:=(fun l=>F (.omap 300000) [(300000,⟨false,false,true,false,0,l,true⟩)])
def T0 (f:LA) (e:Nat) (a:Bool) (c b:Int) (d:LA):St:={ s:=[(3,(.omap 300000)),(8,(.imm f e 1 false a)),(9,(.int .i64 c)),(10,(.int .i64 b))],h:=[(300000,⟨false,false,true,false,0,d,true⟩)] }
def Bic (N:Nat) (F:KF R):St→Option R:=Bx (Avr N) [] N (Bib N F [1,1,0,1,0] []) N
def Ams (N:Nat) (F:KF R) (n:Nat):St→Option R:=Ba (Avr N) [] N (Bib N F [1,1,0,1,0] []) n
theorem Bki (N:Nat)  (F:KF R) (f:LA) (e:Nat) (a:Bool):∀ (n:Nat) (c b:Int) (d:LA),Ams N F n (T0 f e a c b d)=(A1l N (Acf F) f e a n c b d):=by
 intro n
 induction n with
 | zero=>intros;kernel_rfl
 | succ n ih =>
  intro c b d
  have e0:=funext fun c=>funext fun b=>funext fun d=>(show Ams N F n (T0 f e a c b d)=_ from ih c b d)
  have hK:Ams N F (n+1) (T0 f e a c b d)=(Bbz N (Acf F) f e a (fun c b d=>Ams N F n (T0 f e a c b d)) c b d):=by kernel_rfl
  exact hK.trans (by rw [e0];rfl)
theorem A1m (N:Nat) (g:LA) (a:Bool) (F:KF R):Ac Tryz.prog muts (Avq N) Amr N 117 [(.pagg g a)] [] F=(A4u N g a (Acf F)):=by
 have e1:=funext fun f=>funext fun e=>funext fun c=>funext fun b=>funext fun d=>(show Bic N F (T0 f e a c b d)=_ from (Ar ..).trans (Bki N F f e a N c b d))
 have hK:Ac Tryz.prog muts (Avq N) Amr N 117 [(.pagg g a)] [] F=(Bqy N (Acf F) (fun f e c b d=>Bic N F (T0 f e a c b d)) g a):=by kernel_rfl
 rw [Bb0]
 exact hK.trans (by rw [e1];rfl)
def Afc (N:Nat) (args:List AV) (h:Aj) (k:KF R):Option R :=
 match args,h with
 | [(.pagg g a)],[]=>(A4u N g a (Acf k))
 | _,_=>none
def Bid (N:Nat):Tw:=⟨Afc N,fun args h k=>by
 unfold Afc;split
 exact twE (A1m ..) (A1m ..)
 rfl⟩
theorem Bs3 (N:Nat):A1 Tryz.prog 117 (Bid N):=fun args h res i hh=>by
 change Afc N args h (fun v i=>some (v,i))=_ at hh
 unfold Afc at hh;split at hh
 exact Aa (T:=Avq N) trivial follows ((A1m ..).trans hh)
 cases hh
def Bie (N:Nat) (r0:Int→Int→Option R)  (a:LA) (b:Bool):Option R :=
 (cond (Nat.ble 22 (List.length a)) (Nq N (List.take 22 a) b (fun d=>(cond (!d) (r0 0 0) (rdI .i64 (List.drop 11 a) fun e=>(rdI .i64 (List.drop 15 a) fun f=>(rdI .i64 (List.drop 10 a) fun g=>(r0 (Aaf (Aaf e (IntKind.wrap .i64 (f+(1:Int)))) (1:Int)) (Aaf g (1:Int))))))))) none)
def Bif (N:Nat) (a:LA) (b:Bool) (r0:Int→Int→Option R):Option R:=(Bie N r0 a b)
def Amt:=(Ai (@Bif R)).1
theorem Bb1:@Amt R=@Bif R:=(Ai _).2
def Big:Hints:={ H:=(hS (hR [1]) (hS (hS (hR [1,6]) (hN [1] (hS (hR [2,3]) hL) hL)) (hS (hR [2,3]) hL))),nils:=[],modes:=[],free:=[],cob:=[] }
def A8v (N:Nat):List (Nat×Tw):=[(48,Pp N)]
def A1n  (F:KF R):Int→Int→Option R:=(fun i j=>F (.tup [(.int .i64 i),(.int .i64 j)]) [])
theorem A1o (N:Nat) (a:LA) (b:Bool) (F:KF R):Ac Tryz.prog muts (A8v N) Big N 136 [(.pagg a b)] [] F=(Amt N a b (A1n F)):=by
 have hK:Ac Tryz.prog muts (A8v N) Big N 136 [(.pagg a b)] [] F=(Bie N (A1n F) a b):=by kernel_rfl
 rw [Bb1]
 exact hK
def Afd (N:Nat) (args:List AV) (h:Aj) (k:KF R):Option R :=
 match args,h with
 | [(.pagg a b)],[]=>(Amt N a b (A1n k))
 | _,_=>none
def Amu (N:Nat):Tw:=⟨Afd N,fun args h k=>by
 unfold Afd;split
 exact twE (A1o ..) (A1o ..)
 rfl⟩
theorem A1p (N:Nat):A1 Tryz.prog 136 (Amu N):=fun args h res c hh=>by
 change Afd N args h (fun v c=>some (v,c))=_ at hh
 unfold Afd at hh;split at hh
 exact Aa (T:=A8v N) ⟨Wi N,trivial⟩ follows ((A1o ..).trans hh)
 cases hh
def Asx (N:Nat) (r0:LA→Option R)  (a:LA) (b:Bool):Option R :=
 (cond (Nat.ble 22 (List.length a)) (Nq N (List.take 22 a) b (fun f=>(cond (!f) (r0 [(.int .i64 0),(.int .i64 0)]) (cond (Nat.ble 22 (List.length a)) (Amt N (List.take 22 a) b (fun g i=>(rdI .i64 (List.drop 19 a) fun c=>(rdI .i64 (List.drop 20 a) fun d=>(cond (c==(0:Int)) (r0 [(.int .i64 c),(.int .i64 (Ao7 d g))]) (cond (c==(2:Int)) (r0 [(.int .i64 c),(.int .i64 (Ao7 d i))]) (r0 [(.int .i64 c),(.int .i64 d)]))))))) none)))) none)
def Asy (N:Nat) (a:LA) (b:Bool) (r0:LA→Option R):Option R:=(Asx N r0 a b)
def Acg:=(Ai (@Asy R)).1
theorem Asz:@Acg R=@Asy R:=(Ai _).2
def Axt:Hints:={ H:=(hS (hR [1,2]) (hS (hS (hR [1,2,8]) (hN [1,2] (hS (hR [2]) hL) hL)) (hS (hR [1,2,3,4]) (hS (hR [2,3,4,5]) (hS (hS (hR [2,3,4,5,21]) (hN [2,5] (hS (hR [2,3,4,5,21,22]) (hN [2,5] (hR [2,5]) (hS (hR [2,4,5,29]) (hN [2,5] (hR [2,5]) hL)))) hL)) (hS (hR [2]) hL)))))),nils:=[],modes:=[(3,0)],free:=[],cob:=[] }
def Amv (N:Nat):List (Nat×Tw):=[(48,Pp N),(136,Amu N)]
def Agv  (F:KF R):LA→Option R:=(fun j=>F (.pagg j false) [])
theorem Agw (N:Nat) (a:LA) (b:Bool) (F:KF R):Ac Tryz.prog muts (Amv N) Axt N 84 [(.pagg a b)] [] F=(Acg N a b (Agv F)):=by
 have hK:Ac Tryz.prog muts (Amv N) Axt N 84 [(.pagg a b)] [] F=(Asx N (Agv F) a b):=by kernel_rfl
 rw [Asz]
 exact hK
def Rf (N:Nat) (args:List AV) (h:Aj) (k:KF R):Option R :=
 match args,h with
 | [(.pagg a b)],[]=>(Acg N a b (Agv k))
 | _,_=>none
def Axu (N:Nat):Tw:=⟨Rf N,fun args h k=>by
 unfold Rf;split
 exact twE (Agw ..) (Agw ..)
 rfl⟩
theorem Bkj (N:Nat):A1 Tryz.prog 84 (Axu N):=fun args h res e hh=>by
 change Rf N args h (fun v e=>some (v,e))=_ at hh
 unfold Rf at hh;split at hh
 exact Aa (T:=Amv N) ⟨Wi N,A1p N,trivial⟩ follows ((Agw ..).trans hh)
 cases hh
def Aoo (N:Nat)  (r0:Int→Option R) (e f:Int) (c:Bool) (b:LA) (d:Bool) (a:LA)   (g:Bool):Option R :=
 (cond g (rdI .i64 (List.drop 1 a) fun l=>(r0 (IntKind.wrap .i64 ((IntKind.wrap .i64 (e+l)) - (1:Int))))) (rdI .i64 a fun m=>(cond ((m==(2:Int))==true) (rdI .i64 (List.drop 1 a) fun n=>(cond (cond true (decide (n≤f)) false) (rdI .i64 (List.drop 12 b) fun o=>(rdI .i64 (List.drop 1 a) fun p=>(r0 (IntKind.wrap .i64 ((IntKind.wrap .i64 ((IntKind.wrap .i64 (e+o))+p)) - (1:Int)))))) (r0 (-1)))) (r0 (-1)))))
def As0 (N:Nat)  (r0:Int→Option R) (e f:Int) (c:Bool) (b:LA) (d:Bool) (a:LA) (g:Bool):Option R:=(Aoo N r0 e f c b d a g)
def Aop (N:Nat)  (r0:Int→Option R) (e f:Int) (c:Bool) (b:LA) (d:Bool) (a:LA)  (q2:Bool→Option R) (i:Bool):Option R :=
 (cond i (rdI .i64 (List.drop 1 a) fun q=>(r0 (IntKind.wrap .i64 (q - (1:Int))))) (rdI .i64 a fun r=>(cond ((r==(1:Int))==true) (rdI .i64 (List.drop 1 a) fun t=>(rdI .i64 (List.drop 12 b) fun u=>(q2 (cond true (decide (t≤u)) false)))) (q2 false))))
def As1 (N:Nat)  (r0:Int→Option R) (e f:Int) (c:Bool) (b:LA) (d:Bool) (a:LA) (i:Bool):Option R:=(Aop N r0 e f c b d a (fun g=>(As0 N r0 e f c b d a g)) i)
def W9 (N:Nat)  (r0:Int→Option R) (c:Bool) (b:LA) (d:Bool) (a:LA)  (q1:Int→Int→Bool→Option R) :Option R :=
 (cond (Nat.ble 22 (List.length b)) (Amt N (List.take 22 b) c (fun e f=>(rdI .i64 a fun w=>(cond ((w==(0:Int))==true) (rdI .i64 (List.drop 1 a) fun x=>(q1 e f (cond true (decide (x≤e)) false))) (q1 e f false))))) none)
def Ach (N:Nat)  (r0:Int→Option R) (c:Bool) (b:LA) (d:Bool) (a:LA) :Option R:=(W9 N r0 c b d a (fun e f i=>(As1 N r0 e f c b d a i)))
def Amw (N:Nat) (r0:Int→Option R) (q0:Option R) (b:LA) (c:Bool) (a:LA) (d:Bool):Option R :=
 (cond (Nat.ble 22 (List.length b)) (Nq N (List.take 22 b) c (fun y=>(cond ((!y)==false) (rdI .i64 (List.drop 1 a) fun z=>(cond (cond false true (decide (z<(1:Int)))) (r0 (-1)) q0)) (r0 (-1))))) none)
def Amx (N:Nat) (b:LA) (c:Bool) (a:LA) (d:Bool) (r0:Int→Option R):Option R:=(Amw N r0 (Ach N r0 c b d a) b c a d)
def Wk:=(Ai (@Amx R)).1
theorem Aoq:@Wk R=@Amx R:=(Ai _).2
def Rg:Hints:={ H:=(hS (hR [2,3]) (hJ (hS (hR [2,3,14]) (hN [2,3] (hS (hR [4]) hL) hL)) (hS (hR [2,3,5,6]) (hS (hS (hJ (hR [2,3,5,6,20]) (hS (hS (hR [4]) hL) (hJ (hR [2,3,5,6,33]) (hS (hS (hR [4]) hL) (hS (hR [2,3,5,49]) (hS (hS (hR [4]) hL) hL)))))) hL) (hS (hR [4]) hL))))),nils:=[],modes:=[],free:=[],cob:=[] }
def Vn (N:Nat):List (Nat×Tw):=[(48,Pp N),(136,Amu N)]
def E8 (N:Nat):Env:=mkE 67 Rg (Vn N)
def Bcz (N:Nat) (F:KF R):=Aq (E8 N) Tryz.f167 Rg.modes [] F
def H4 (N:Nat) (F:KF R):=atF (E8 N) [] N Tryz.f167 Rg (Bcz N F)
def Dd  (F:KF R):Int→Option R:=(fun aa=>F (.int .i64 aa) [])
def Rh (e f:Int) (c:Bool) (b:LA) (d:Bool) (a:LA) (g:Bool):St:={ s:=[(2,(.optr 300000 0)),(3,(.optr 300001 0)),(5,(.int .i64 e)),(6,(.int .i64 f)),(33,(.bool g))],h:=[(300000,⟨false,false,true,c,0,b,false⟩),(300001,⟨false,false,true,d,0,a,false⟩)] }
def As2 (N:Nat) (F:KF R):St→Option R:=Bm (E8 N) [] N (H4 N F [1,1,1,0,0,1,1,1] [])
def As3 (N:Nat) (F:KF R):St→Option R:=Bq (E8 N) [] N (H4 N F [1,1,1,0,0,1,1,1] [])
def Ri (e f:Int) (c:Bool) (b:LA) (d:Bool) (a:LA) (i:Bool):St:={ s:=[(2,(.optr 300000 0)),(3,(.optr 300001 0)),(5,(.int .i64 e)),(6,(.int .i64 f)),(20,(.bool i))],h:=[(300000,⟨false,false,true,c,0,b,false⟩),(300001,⟨false,false,true,d,0,a,false⟩)] }
def As4 (N:Nat) (F:KF R):St→Option R:=Bm (E8 N) [] N (H4 N F [1,1,1,0,0,1] [])
def As5 (N:Nat) (F:KF R):St→Option R:=Bq (E8 N) [] N (H4 N F [1,1,1,0,0,1] [])
def Rj (c:Bool) (b:LA) (d:Bool) (a:LA):St:={ s:=[(2,(.optr 300000 0)),(3,(.optr 300001 0))],h:=[(300000,⟨false,false,true,c,0,b,false⟩),(300001,⟨false,false,true,d,0,a,false⟩)] }
def As6 (N:Nat) (F:KF R):St→Option R:=Bm (E8 N) [] N (H4 N F [1,1] [])
def As7 (N:Nat) (F:KF R):St→Option R:=Bq (E8 N) [] N (H4 N F [1,1] [])
theorem A4v (N:Nat)  (F:KF R) (e f:Int) (c:Bool) (b:LA) (d:Bool) (a:LA):∀ (g:Bool),As3 N F (Rh e f c b d a g)=(As0 N (Dd F) e f c b d a g):=by
 intro g
 have hK:As3 N F (Rh e f c b d a g)=(Aoo N (Dd F) e f c b d a g):=by kernel_rfl
 exact hK
theorem A4w (N:Nat)  (F:KF R) (e f:Int) (c:Bool) (b:LA) (d:Bool) (a:LA):∀ (i:Bool),As5 N F (Ri e f c b d a i)=(As1 N (Dd F) e f c b d a i):=by
 intro i
 have e1:=funext fun g=>(show As2 N F (Rh e f c b d a g)=_ from (As ..).trans (A4v N F e f c b d a g))
 have hK:As5 N F (Ri e f c b d a i)=(Aop N (Dd F) e f c b d a (fun g=>As2 N F (Rh e f c b d a g)) i):=by kernel_rfl
 exact hK.trans (by rw [e1];rfl)
theorem A4x (N:Nat)  (F:KF R) (c:Bool) (b:LA) (d:Bool) (a:LA):As7 N F (Rj c b d a)=(Ach N (Dd F) c b d a):=by
 have e1:=funext fun e=>funext fun f=>funext fun i=>(show As4 N F (Ri e f c b d a i)=_ from (As ..).trans (A4w N F e f c b d a i))
 have hK:As7 N F (Rj c b d a)=(W9 N (Dd F) c b d a (fun e f i=>As4 N F (Ri e f c b d a i))):=by kernel_rfl
 exact hK.trans (by rw [e1];rfl)
theorem Aci (N:Nat) (b:LA) (c:Bool) (a:LA) (d:Bool) (F:KF R):Ac Tryz.prog muts (Vn N) Rg N 167 [(.pagg b c),(.pagg a d)] [] F=(Wk N b c a d (Dd F)):=by
 have e1:=(show As6 N F (Rj c b d a)=_ from (As ..).trans (A4x N F c b d a))
 have hK:Ac Tryz.prog muts (Vn N) Rg N 167 [(.pagg b c),(.pagg a d)] [] F=(Amw N (Dd F) (As6 N F (Rj c b d a)) b c a d):=by kernel_rfl
 rw [Aoq]
 exact hK.trans (by rw [e1];rfl)
def Of (N:Nat) (args:List AV) (h:Aj) (k:KF R):Option R :=
 match args,h with
 | [(.pagg b c),(.pagg a d)],[]=>(Wk N b c a d (Dd k))
 | _,_=>none
def As8 (N:Nat):Tw:=⟨Of N,fun args h k=>by
 unfold Of;split
 exact twE (Aci ..) (Aci ..)
 rfl⟩
theorem Bih (N:Nat):A1 Tryz.prog 167 (As8 N):=fun args h res j hh=>by
 change Of N args h (fun v j=>some (v,j))=_ at hh
 unfold Of at hh;split at hh
 exact Aa (T:=Vn N) ⟨Wi N,A1p N,trivial⟩ follows ((Aci ..).trans hh)
 cases hh
def Bb2 (N:Nat)  (r0:LA→Nat→Option R) (c:Bool) (b:LA) (d:Bool) (a:LA)   (f:Bool) (e:LA):Option R :=
 (cond f (r0 (List.take 4 ((List.take 2 e)++[(.int .i64 1),(.int .i64 1)])) 2) (rdI .i64 (List.drop 1 a) fun n=>(rdI .i64 (List.drop 11 b) fun o=>(cond (decide (n≥o)) (r0 (List.take 4 ((List.take 2 e)++[(.int .i64 2),(.int .i64 1)])) 2) (r0 (List.take 2 e) 1)))))
def Bii (N:Nat)  (r0:LA→Nat→Option R) (c:Bool) (b:LA) (d:Bool) (a:LA) (f:Bool) (e:LA):Option R:=(Bb2 N r0 c b d a f e)
def Bij (N:Nat) (r0:LA→Nat→Option R) (q0:Bool→LA→Option R) (b:LA) (c:Bool) (a:LA) (d:Bool):Option R :=
 (cond (Nat.ble 22 (List.length b)) (cond (Nat.ble 2 (List.length a)) (cond ((!d)||(Bv (List.take 2 a))) (Wk N (List.take 22 b) c (List.take 2 a) false (fun p=>(cond (decide (p<(0:Int))) (r0 [] 0) (cond (Nat.ble 22 (List.length b)) (Amt N (List.take 22 b) c (fun i j=>(rdI .i64 a fun g=>(cond (g==(0:Int)) (rdI .i64 (List.drop 1 a) fun l=>(rdI .i64 (List.drop 1 a) fun q=>(rdI .i64 (List.drop 11 b) fun r=>(cond ((decide (q≥r))==true) (rdI .i64 (List.drop 12 b) fun t=>(q0 (cond true (decide (t>(0:Int))) false) [(.int .i64 0),(.int .i64 (Ao7 (IntKind.wrap .i64 (l+(1:Int))) i))])) (q0 false [(.int .i64 0),(.int .i64 (Ao7 (IntKind.wrap .i64 (l+(1:Int))) i))]))))) (cond (g==(1:Int)) (rdI .i64 (List.drop 1 a) fun u=>(rdI .i64 (List.drop 12 b) fun w=>(cond (decide (u<w)) (rdI .i64 (List.drop 1 a) fun x=>(r0 [(.int .i64 1),(.int .i64 (IntKind.wrap .i64 (x+(1:Int))))] 1)) (r0 [(.int .i64 2),(.int .i64 1)] 1)))) (cond (g==(2:Int)) (rdI .i64 (List.drop 1 a) fun y=>(rdI .i64 (List.drop 10 b) fun z=>(cond (decide (y≥z)) (rdI .i64 (List.drop 1 a) fun aa=>(r0 [(.int .i64 0),(.int .i64 1),(.int .i64 2),(.int .i64 (Ao7 (IntKind.wrap .i64 (aa+(1:Int))) j))] 2)) (rdI .i64 (List.drop 1 a) fun ab=>(r0 [(.int .i64 2),(.int .i64 (Ao7 (IntKind.wrap .i64 (ab+(1:Int))) j))] 1))))) (r0 [] 0))))))) none)))) none) none) none)
def Bik (N:Nat) (b:LA) (c:Bool) (a:LA) (d:Bool) (r0:LA→Nat→Option R):Option R:=(Bij N r0 (fun f e=>(Bii N r0 c b d a f e)) b c a d)
def Afe:=(Ai (@Bik R)).1
theorem Bb3:@Afe R=@Bik R:=(Ai _).2
def Amy:Hints:={ H:=(hS (hR [2,3]) (hS (hS (hR [2,3,11]) (hN [2,3] (hS (hR [4]) hL) hL)) (hS (hR [2,3,5,6]) (hS (hR [2,3,5,6,7]) (hS (hS (hR [2,3,5,6,7,18]) (hN [7] (hS (hR [2,3,5,6,7,18,19]) (hN [7] (hS (hR [2,3,7]) (hJ (hR [2,3,7,39]) (hN [7] (hR [7]) (hS (hR [7,48]) (hN [7] (hR [7]) hL))))) (hS (hR [2,3,6,7,18,53]) (hN [7] (hS (hR [3,7,59]) (hN [7] (hR [7]) (hR [7]))) (hS (hR [2,3,6,7,71]) (hN [7] (hS (hS (hR [3,6,7,77]) (hN [3,6,7] (hR [3,6,7]) hL)) (hR [7])) hL)))))) hL)) (hS (hR [4]) hL)))))),nils:=[(4,2),(7,2)],modes:=[(1,2)],free:=[],cob:=[] }
def Avs (N:Nat):List (Nat×Tw):=[(167,As8 N),(136,Amu N)]
def Avt (N:Nat):Env:=mkE 92 Amy (Avs N)
def Bq1 (N:Nat) (F:KF R):=Aq (Avt N) Tryz.f118 Amy.modes [] F
def Bil (N:Nat) (F:KF R):=atF (Avt N) [] N Tryz.f118 Amy (Bq1 N F)
def Acj  (F:KF R):LA→Nat→Option R:=(fun ac ad=>F (.imm ac ad 2 false false) [])
def Amz (c:Bool) (b:LA) (d:Bool) (a:LA) (f:Bool) (e:LA):St:={ s:=[(2,(.optr 300000 0)),(3,(.optr 300001 0)),(7,(.own 464 0 1)),(39,(.bool f))],h:=[(464,⟨false,false,true,false,2,e,false⟩),(300000,⟨false,false,true,c,0,b,false⟩),(300001,⟨false,false,true,d,0,a,false⟩)] }
def Bim (N:Nat) (F:KF R):St→Option R:=Bm (Avt N) [] N (Bil N F [1,1,1,1,0,1,0,1,0,1,1] [])
def Bin (N:Nat) (F:KF R):St→Option R:=Bq (Avt N) [] N (Bil N F [1,1,1,1,0,1,0,1,0,1,1] [])
theorem Bkk (N:Nat)  (F:KF R) (c:Bool) (b:LA) (d:Bool) (a:LA):∀ (f:Bool) (e:LA),Bin N F (Amz c b d a f e)=(Bii N (Acj F) c b d a f e):=by
 intro f e
 have hK:Bin N F (Amz c b d a f e)=(Bb2 N (Acj F) c b d a f e):=by kernel_rfl
 exact hK
theorem A1q (N:Nat) (b:LA) (c:Bool) (a:LA) (d:Bool) (F:KF R):Ac Tryz.prog muts (Avs N) Amy N 118 [(.pagg b c),(.pagg a d)] [] F=(Afe N b c a d (Acj F)):=by
 have e1:=funext fun f=>funext fun e=>(show Bim N F (Amz c b d a f e)=_ from (As ..).trans (Bkk N F c b d a f e))
 have hK:Ac Tryz.prog muts (Avs N) Amy N 118 [(.pagg b c),(.pagg a d)] [] F=(Bij N (Acj F) (fun f e=>Bim N F (Amz c b d a f e)) b c a d):=by kernel_rfl
 rw [Bb3]
 exact hK.trans (by rw [e1];rfl)
def Aff (N:Nat) (args:List AV) (h:Aj) (k:KF R):Option R :=
 match args,h with
 | [(.pagg b c),(.pagg a d)],[]=>(Afe N b c a d (Acj k))
 | _,_=>none
def Bio (N:Nat):Tw:=⟨Aff N,fun args h k=>by
 unfold Aff;split
 exact twE (A1q ..) (A1q ..)
 rfl⟩
theorem Bs4 (N:Nat):A1 Tryz.prog 118 (Bio N):=fun args h res m hh=>by
 change Aff N args h (fun v m=>some (v,m))=_ at hh
 unfold Aff at hh;split at hh
 exact Aa (T:=Avs N) ⟨Bih N,A1p N,trivial⟩ follows ((A1q ..).trans hh)
 cases hh
def Bb4 (N:Nat) (r0:Bool→Option R)  (b:LA) (c:Bool) (a:Int):Option R :=
 (rdI .i64 b fun e=>(r0 (e==a)))
def Bb5 (N:Nat) (b:LA) (c:Bool) (a:Int) (r0:Bool→Option R):Option R:=(Bb4 N r0 b c a)
def Lf:=(Ai (@Bb5 R)).1
theorem As9:@Lf R=@Bb5 R:=(Ai _).2
def Axv:Hints:={ H:=(hS (hR [1,2]) (hS (hR [3]) hL)),nils:=[],modes:=[],free:=[],cob:=[] }
def Am0 (N:Nat):List (Nat×Tw):=[]
def Agx (a:Int) (F:KF R):Bool→Option R:=(fun f=>F (.bool f) [(100000,⟨false,false,false,false,0,[(.int .i64 a)],false⟩)])
theorem Agy (N:Nat) (b:LA) (c:Bool) (a:Int) (F:KF R):Ac Tryz.prog muts (Am0 N) Axv N 120 [(.pagg b c),(.optr 100000 0)] [(100000,⟨false,false,false,false,0,[(.int .i64 a)],false⟩)] F=(Lf N b c a (Agx a F)):=by
 have hK:Ac Tryz.prog muts (Am0 N) Axv N 120 [(.pagg b c),(.optr 100000 0)] [(100000,⟨false,false,false,false,0,[(.int .i64 a)],false⟩)] F=(Bb4 N (Agx a F) b c a):=by kernel_rfl
 rw [As9]
 exact hK
def Rk (N:Nat) (args:List AV) (h:Aj) (k:KF R):Option R :=
 match args,h with
 | [(.pagg b c),(.optr 100000 0)],[(100000,⟨false,false,false,false,0,[(.int .i64 a)],false⟩)]=>(Lf N b c a (Agx a k))
 | _,_=>none
def Axw (N:Nat):Tw:=⟨Rk N,fun args h k=>by
 unfold Rk;split
 exact twE (Agy ..) (Agy ..)
 rfl⟩
theorem Bkl (N:Nat):A1 Tryz.prog 120 (Axw N):=fun args h res d hh=>by
 change Rk N args h (fun v d=>some (v,d))=_ at hh
 unfold Rk at hh;split at hh
 exact Aa (T:=Am0 N) trivial follows ((Agy ..).trans hh)
 cases hh
end
end Gx

namespace Gx
open Go Go.Proofs
set_option maxRecDepth 100000
noncomputable section
variable {R:Type}
def Ck (N:Nat)  (r0:Int→Option R) (b:LA) (d:Nat) (f e:Bool) (a:Int) (k0:Int→Int→Option R)  (g c:Int):Option R :=
 (cond (decide (c<g)) (cond (Am c d) (cond (Nat.ble 2 (List.length (List.drop ((Int.toNat c)*2) b))) (cond ((!e)||(Bv (List.take 2 (List.drop ((Int.toNat c)*2) b)))) (Lf N (List.take 2 (List.drop ((Int.toNat c)*2) b)) false a (fun j=>(cond j (r0 c) (k0 g (IntKind.wrap .i64 (c+(1:Int))))))) none) none) none) (r0 (-1)))
def Br (N:Nat)  (r0:Int→Option R) (b:LA) (d:Nat) (f e:Bool) (a:Int):Nat→Int→Int→Option R
 | 0,_,_=>none
 | n+1,g,c=>(Ck N r0 b d f e a (Br N r0 b d f e a n) g c)
def Cw (N:Nat) (r0:Int→Option R) (q0:Int→Int→Option R) (b:LA) (d:Nat) (f e:Bool) (a:Int):Option R :=
 (q0 ((d:Nat):Int) 0)
def Cx (N:Nat) (b:LA) (d:Nat) (f e:Bool) (a:Int) (r0:Int→Option R):Option R:=(Cw N r0 (fun g c=>(Br N r0 b d f e a N g c)) b d f e a)
def An:=(Ai (@Cx R)).1
theorem Bn:@An R=@Cx R:=(Ai _).2
def A6:Hints:={ H:=(hS (hR [0,1]) (hS (hS (hR [0,1,7,8]) (hS (hN [0,1,7,8] (hS (hR [0,1,7,8,9]) (hS (hN [0,1,7,8] hL hL) (hS (hN [0,1,7,8] (hS (hR [0,1,5,7,8]) (hS (hR [0,1,5,7,8,16]) (hN [0,1,7,8] (hS (hR [4]) hL) hL))) hL) (hR [0,1,7,8])))) hL) hL)) (hS (hR [4]) hL))),nils:=[],modes:=[],free:=[],cob:=[] }
def A8 (N:Nat):List (Nat×Tw):=[(120,Axw N)]
def A9 (N:Nat):Env:=mkE 19 A6 (A8 N)
def F5 (N:Nat) (F:KF R):=Aq (A9 N) Tryz.f119 A6.modes [100000] F
def Cl (N:Nat) (F:KF R):=atF (A9 N) [100000] N Tryz.f119 A6 (F5 N F)
def Ax (a:Int) (F:KF R):Int→Option R:=(fun l=>F (.int .i64 l) [(100000,⟨false,false,false,false,0,[(.int .i64 a)],false⟩)])
def At (b:LA) (d:Nat) (f e:Bool) (a g c:Int):St:={ s:=[(0,(.imm b d 2 f e)),(1,(.fn 120 [(.optr 100000 0)])),(7,(.int .i64 g)),(8,(.int .i64 c))],h:=[(100000,⟨false,false,false,false,0,[(.int .i64 a)],false⟩)] }
def Cm (N:Nat) (F:KF R):St→Option R:=Bx (A9 N) [100000] N (Cl N F [1,0,1,0] []) N
def A7 (N:Nat) (F:KF R) (n:Nat):St→Option R:=Ba (A9 N) [100000] N (Cl N F [1,0,1,0] []) n
theorem Fk (N:Nat)  (F:KF R) (b:LA) (d:Nat) (f e:Bool) (a:Int):∀ (n:Nat) (g c:Int),A7 N F n (At b d f e a g c)=(Br N (Ax a F) b d f e a n g c):=by
 intro n
 induction n with
 | zero=>intros;kernel_rfl
 | succ n ih =>
  intro g c
  have e0:=funext fun g=>funext fun c=>(show A7 N F n (At b d f e a g c)=_ from ih g c)
  have hK:A7 N F (n+1) (At b d f e a g c)=(Ck N (Ax a F) b d f e a (fun g c=>A7 N F n (At b d f e a g c)) g c):=by kernel_rfl
  exact hK.trans (by rw [e0];rfl)
theorem Bs (N:Nat) (b:LA) (d:Nat) (f e:Bool) (a:Int) (F:KF R):Ac Tryz.prog muts (A8 N) A6 N 119 [(.imm b d 2 f e),(.fn 120 [(.optr 100000 0)])] [(100000,⟨false,false,false,false,0,[(.int .i64 a)],false⟩)] F=(An N b d f e a (Ax a F)):=by
 have e1:=funext fun g=>funext fun c=>(show Cm N F (At b d f e a g c)=_ from (Ar ..).trans (Fk N F b d f e a N g c))
 have hK:Ac Tryz.prog muts (A8 N) A6 N 119 [(.imm b d 2 f e),(.fn 120 [(.optr 100000 0)])] [(100000,⟨false,false,false,false,0,[(.int .i64 a)],false⟩)] F=(Cw N (Ax a F) (fun g c=>Cm N F (At b d f e a g c)) b d f e a):=by kernel_rfl
 rw [Bn]
 exact hK.trans (by rw [e1];rfl)
def A4 (N:Nat) (args:List AV) (h:Aj) (k:KF R):Option R :=
 match args,h with
 | [(.imm b d 2 f e),(.fn 120 [(.optr 100000 0)])],[(100000,⟨false,false,false,false,0,[(.int .i64 a)],false⟩)]=>(An N b d f e a (Ax a k))
 | _,_=>none
def Cn (N:Nat):Tw:=⟨A4 N,fun args h k=>by
 unfold A4;split
 exact twE (Bs ..) (Bs ..)
 rfl⟩
theorem F9 (N:Nat):A1 Tryz.prog 119 (Cn N):=fun args h res i hh=>by
 change A4 N args h (fun v i=>some (v,i))=_ at hh
 unfold A4 at hh;split at hh
 exact Aa (T:=A8 N) ⟨Bkl N,trivial⟩ follows ((Bs ..).trans hh)
 cases hh
def Bb6 (N:Nat)  (r0:Nat→Int→Int→LA→Option R) (g:LA) (c:Nat) (i j e:Bool) (a o:LA) (k0:Nat→Int→Int→LA→LA→Option R)  (d:Nat) (l f:Int) (m b:LA):Option R :=
 (cond (decide (f<l)) (cond (Am f c) (rdI .i64 (List.drop ((Int.toNat f)*1) g) fun t=>(cond (Nat.ble 22 (List.length a)) (cond (Nat.ble 2 (List.length b)) (Afe N (List.take 22 a) e (List.take 2 b) false (fun q r=>(An N q r false false t (fun p=>(cond ((decide (p<(0:Int)))==false) (cond ((t != (0:Int))==true) (cond (cond false true (cond true (Bco o f) false)) (r0 0 f 16 []) (cond (Am p r) (cond (Nat.ble 2 (List.length (List.drop ((Int.toNat p)*2) q))) (cond ((Nat.beq (List.length (List.take 2 (List.drop ((Int.toNat p)*2) q))) 2)&&((Nat.ble 2 (List.length b))&&(!false))) (cond (Nat.ble 2 (List.length (setCells b 0 (List.take 2 (List.drop ((Int.toNat p)*2) q))))) (cond ((Nat.beq (List.length (List.take 2 (setCells b 0 (List.take 2 (List.drop ((Int.toNat p)*2) q))))) 2)&&(Nat.ble 2 2)) (cond ((Nat.ble (d+1) 140737488355328)&&(Nat.ble ((d+1)*16) 140737488355328)) (k0 (d+1) l (IntKind.wrap .i64 (f+(1:Int))) ((List.take (d*2) m)++(List.take 2 (setCells [(.int .i64 0),(.int .i64 0)] 0 (List.take 2 (setCells b 0 (List.take 2 (List.drop ((Int.toNat p)*2) q))))))) (setCells b 0 (List.take 2 (List.drop ((Int.toNat p)*2) q)))) none) none) none) none) none) none)) (cond (Am p r) (cond (Nat.ble 2 (List.length (List.drop ((Int.toNat p)*2) q))) (cond ((Nat.beq (List.length (List.take 2 (List.drop ((Int.toNat p)*2) q))) 2)&&((Nat.ble 2 (List.length b))&&(!false))) (cond (Nat.ble 2 (List.length (setCells b 0 (List.take 2 (List.drop ((Int.toNat p)*2) q))))) (cond ((Nat.beq (List.length (List.take 2 (setCells b 0 (List.take 2 (List.drop ((Int.toNat p)*2) q))))) 2)&&(Nat.ble 2 2)) (cond ((Nat.ble (d+1) 140737488355328)&&(Nat.ble ((d+1)*16) 140737488355328)) (k0 (d+1) l (IntKind.wrap .i64 (f+(1:Int))) ((List.take (d*2) m)++(List.take 2 (setCells [(.int .i64 0),(.int .i64 0)] 0 (List.take 2 (setCells b 0 (List.take 2 (List.drop ((Int.toNat p)*2) q))))))) (setCells b 0 (List.take 2 (List.drop ((Int.toNat p)*2) q)))) none) none) none) none) none) none)) (r0 0 f 16 [])))))) none) none)) none) (r0 d ((c:Nat):Int) 0 m))
def A1r (N:Nat)  (r0:Nat→Int→Int→LA→Option R) (g:LA) (c:Nat) (i j e:Bool) (a o:LA):Nat→Nat→Int→Int→LA→LA→Option R
 | 0,_,_,_,_,_=>none
 | n+1,d,l,f,m,b=>(Bb6 N r0 g c i j e a o (A1r N r0 g c i j e a o n) d l f m b)
def Bip (N:Nat) (r0:Nat→Int→Int→LA→Option R) (q0:LA→Nat→Int→Int→LA→LA→Option R) (a:LA) (e:Bool) (g:LA) (c:Nat) (i j:Bool):Option R :=
 (cond (Nat.ble 22 (List.length a)) (Nq N (List.take 22 a) e (fun x=>(cond (!x) (r0 0 0 1 []) (cond (Nat.ble 22 (List.length a)) (A4u N (List.take 22 a) e (fun o=>(cond ((decide ((0:Int)≤(0:Int)))&&((decide ((0:Int)≤((c:Nat):Int)))&&((decide (((c:Nat):Int)≤(140737488355328:Int)))&&(decide ((((c:Nat):Int)*((16:Nat):Int))≤(140737488355328:Int)))))) (cond (Nat.ble 22 (List.length a)) (Acg N (List.take 22 a) e (fun u=>(cond ((Nat.beq (List.length u) 2)&&((Nat.ble 2 2)&&(!false))) (q0 o 0 ((c:Nat):Int) 0 [] (setCells [(.int .i64 0),(.int .i64 0)] 0 u)) none))) none) none))) none)))) none)
def Biq (N:Nat) (a:LA) (e:Bool) (g:LA) (c:Nat) (i j:Bool) (r0:Nat→Int→Int→LA→Option R):Option R:=(Bip N r0 (fun o d l f m b=>(A1r N r0 g c i j e a o N d l f m b)) a e g c i j)
def A4y:=(Ai (@Biq R)).1
theorem Bb7:@A4y R=@Biq R:=(Ai _).2
def Am1:Hints:={ H:=(hS (hR [1,2]) (hS (hS (hR [1,2,16]) (hN [1,2] (hS (hR [4,5,6]) hL) hL)) (hS (hR [1,2,7]) (hS (hR [1,2,7,8]) (hS (hR [1,2,7,8,9]) (hS (hS (hR [1,2,7,8,9,24,25,26]) (hN [1,8] (hN [1,2,7,8,9,24,25,26] (hS (hR [1,2,7,8,9,24,25,26,27]) (hS (hN [1,2,7,8,9,24,25,26] hL hL) (hS (hN [1,2,7,8,9,24,25,26] (hS (hR [1,2,7,8,9,10,11,24,25,26]) (hS (hR [1,2,7,8,9,10,11,12,24,25,26]) (hS (hR [1,2,7,8,9,10,11,12,13,24,25,26]) (hS (hS (hR [1,2,7,8,9,10,12,13,24,25,26,47]) (hN [1,2,7,8,9,12,13,24,25,26] (hS (hR [4,5,6]) hL) hL)) (hS (hR [1,2,7,8,9,24,25,26]) (hR [1,2,7,8,9,24,25,26])))))) hL) (hR [1,2,7,8,9,24,25,26])))) hL) hL)) (hS (hR [4,5,6]) hL))))))),nils:=[(4,2)],modes:=[(2,2),(0,0),(0,0)],free:=[],cob:=[] }
def Avu (N:Nat):List (Nat×Tw):=[(48,Pp N),(117,Bid N),(84,Axu N),(118,Bio N),(119,Cn N)]
def Avv (N:Nat):Env:=mkE 61 Am1 (Avu N)
def Bq2 (N:Nat) (F:KF R):=Aq (Avv N) Tryz.f64 Am1.modes [] F
def Bir (N:Nat) (F:KF R):=atF (Avv N) [] N Tryz.f64 Am1 (Bq2 N F)
def Ack  (F:KF R):Nat→Int→Int→LA→Option R:=(fun y z aa ab=>F (.tup [(.own 300000 0 y),(.int .i64 z),(.int .i64 aa)]) [(300000,⟨false,false,true,false,2,ab,false⟩)])
def T1 (g:LA) (c:Nat) (i j e:Bool) (a o:LA) (d:Nat) (l f:Int) (m b:LA):St:={ s:=[(1,(.imm g c 1 i j)),(2,(.optr 300000 0)),(7,(.omap 300001)),(8,(.own 300002 0 d)),(9,(.optr 300003 0)),(24,(.imm g c 1 i j)),(25,(.int .i64 l)),(26,(.int .i64 f))],h:=[(300000,⟨false,false,true,e,0,a,false⟩),(300001,⟨false,false,true,false,0,o,true⟩),(300002,⟨false,false,true,false,2,m,false⟩),(300003,⟨false,false,true,false,0,b,false⟩)] }
def Bis (N:Nat) (F:KF R):St→Option R:=Bx (Avv N) [] N (Bir N F [1,1,1,1,1,0,1,0] []) N
def Am2 (N:Nat) (F:KF R) (n:Nat):St→Option R:=Ba (Avv N) [] N (Bir N F [1,1,1,1,1,0,1,0] []) n
theorem Bkm (N:Nat)  (F:KF R) (g:LA) (c:Nat) (i j e:Bool) (a o:LA):∀ (n d:Nat) (l f:Int) (m b:LA),Am2 N F n (T1 g c i j e a o d l f m b)=(A1r N (Ack F) g c i j e a o n d l f m b):=by
 intro n
 induction n with
 | zero=>intros;kernel_rfl
 | succ n ih =>
  intro d l f m b
  have e0:=funext fun d=>funext fun l=>funext fun f=>funext fun m=>funext fun b=>(show Am2 N F n (T1 g c i j e a o d l f m b)=_ from ih d l f m b)
  have hK:Am2 N F (n+1) (T1 g c i j e a o d l f m b)=(Bb6 N (Ack F) g c i j e a o (fun d l f m b=>Am2 N F n (T1 g c i j e a o d l f m b)) d l f m b):=by kernel_rfl
  exact hK.trans (by rw [e0];rfl)
theorem A1s (N:Nat) (a:LA) (e:Bool) (g:LA) (c:Nat) (i j:Bool) (F:KF R):Ac Tryz.prog muts (Avu N) Am1 N 64 [(.pagg a e),(.imm g c 1 i j)] [] F=(A4y N a e g c i j (Ack F)):=by
 have e1:=funext fun o=>funext fun d=>funext fun l=>funext fun f=>funext fun m=>funext fun b=>(show Bis N F (T1 g c i j e a o d l f m b)=_ from (Ar ..).trans (Bkm N F g c i j e a o N d l f m b))
 have hK:Ac Tryz.prog muts (Avu N) Am1 N 64 [(.pagg a e),(.imm g c 1 i j)] [] F=(Bip N (Ack F) (fun o d l f m b=>Bis N F (T1 g c i j e a o d l f m b)) a e g c i j):=by kernel_rfl
 rw [Bb7]
 exact hK.trans (by rw [e1];rfl)
def Afg (N:Nat) (args:List AV) (h:Aj) (k:KF R):Option R :=
 match args,h with
 | [(.pagg a e),(.imm g c 1 i j)],[]=>(A4y N a e g c i j (Ack k))
 | _,_=>none
def Bit (N:Nat):Tw:=⟨Afg N,fun args h k=>by
 unfold Afg;split
 exact twE (A1s ..) (A1s ..)
 rfl⟩
theorem Bs5 (N:Nat):A1 Tryz.prog 64 (Bit N):=fun args h res w hh=>by
 change Afg N args h (fun v w=>some (v,w))=_ at hh
 unfold Afg at hh;split at hh
 exact Aa (T:=Avu N) ⟨Wi N,Bs3 N,Bkj N,Bs4 N,F9 N,trivial⟩ follows ((A1s ..).trans hh)
 cases hh
def Ata (N:Nat) (k0:Nat→Bool→Int→LA→LA→Option R) (r0:Nat→LA→Option R) (f:LA) (g:Nat) (i j:Bool) (d:Nat) (c:Int) (l:Bool) (b a e:LA)   (m:Int) (q:Bool) (r:Int) (t:Bool):Option R :=
 (cond t (rdI .i64 (List.drop 2 b) fun u=>(rdI .i64 e fun w=>(rdI .i64 (List.drop 7 b) fun x=>(rdI .i64 (List.drop 3 b) fun y=>(rdI .i64 (List.drop 1 e) fun z=>(rdI .i64 (List.drop 6 b) fun aa=>(cond (Am m d) (cond ((Nat.beq 2 2)&&((Nat.ble ((0+((Int.toNat m)*2))+2) (List.length a))&&(!false))) (cond (Am m d) (cond (Nat.ble 2 (List.length (List.drop (0+((Int.toNat m)*2)) (Ei a (0+((Int.toNat m)*2)) [(.int .i64 (Aaf u (IntKind.wrap .i64 (w - x)))),(.int .i64 (Ao7 y (IntKind.wrap .i64 (z+aa))))])))) (cond ((Nat.beq (List.length (List.take 2 (List.drop (0+((Int.toNat m)*2)) (Ei a (0+((Int.toNat m)*2)) [(.int .i64 (Aaf u (IntKind.wrap .i64 (w - x)))),(.int .i64 (Ao7 y (IntKind.wrap .i64 (z+aa))))])))) 2)&&((Nat.ble 2 (List.length e))&&(!false))) (k0 d q (IntKind.wrap .i64 (r+(1:Int))) (Ei a (0+((Int.toNat m)*2)) [(.int .i64 (Aaf u (IntKind.wrap .i64 (w - x)))),(.int .i64 (Ao7 y (IntKind.wrap .i64 (z+aa))))]) (setCells e 0 (List.take 2 (List.drop (0+((Int.toNat m)*2)) (Ei a (0+((Int.toNat m)*2)) [(.int .i64 (Aaf u (IntKind.wrap .i64 (w - x)))),(.int .i64 (Ao7 y (IntKind.wrap .i64 (z+aa))))]))))) none) none) none) none) none))))))) (cond q (rdI .i64 (List.drop 2 b) fun ab=>(rdI .i64 (List.drop 8 b) fun ac=>(cond (Am m d) (cond ((Nat.beq 2 2)&&((Nat.ble ((0+((Int.toNat m)*2))+2) (List.length a))&&(!false))) (cond (Am m d) (cond (Nat.ble 2 (List.length (List.drop (0+((Int.toNat m)*2)) (Ei a (0+((Int.toNat m)*2)) [(.int .i64 ab),(.int .i64 ac)])))) (cond ((Nat.beq (List.length (List.take 2 (List.drop (0+((Int.toNat m)*2)) (Ei a (0+((Int.toNat m)*2)) [(.int .i64 ab),(.int .i64 ac)])))) 2)&&((Nat.ble 2 (List.length e))&&(!false))) (k0 d q (IntKind.wrap .i64 (r+(1:Int))) (Ei a (0+((Int.toNat m)*2)) [(.int .i64 ab),(.int .i64 ac)]) (setCells e 0 (List.take 2 (List.drop (0+((Int.toNat m)*2)) (Ei a (0+((Int.toNat m)*2)) [(.int .i64 ab),(.int .i64 ac)]))))) none) none) none) none) none))) (cond (Am m d) (cond (Nat.ble 2 (List.length (List.drop (0+((Int.toNat m)*2)) a))) (cond ((Nat.beq (List.length (List.take 2 (List.drop (0+((Int.toNat m)*2)) a))) 2)&&((Nat.ble 2 (List.length e))&&(!false))) (k0 d q (IntKind.wrap .i64 (r+(1:Int))) a (setCells e 0 (List.take 2 (List.drop (0+((Int.toNat m)*2)) a)))) none) none) none)))
def Agz (N:Nat) (k0:Nat→Bool→Int→LA→LA→Option R) (r0:Nat→LA→Option R) (f:LA) (g:Nat) (i j:Bool) (d:Nat) (c:Int) (l:Bool) (b a e:LA) (m:Int) (q:Bool) (r:Int) (t:Bool):Option R:=(Ata N k0 r0 f g i j d c l b a e m q r t)
def Atb (N:Nat)  (r0:Nat→LA→Option R) (f:LA) (g:Nat) (i j:Bool) (c:Int) (l:Bool) (b:LA) (k0:Nat→Bool→Int→LA→LA→Option R) (q1:Int→Bool→Int→Bool→Option R) (d:Nat) (p:Bool) (o:Int) (a e:LA):Option R :=
 (cond (decide (o<c)) (cond (Am o g) (rdI .i64 (List.drop ((Int.toNat o)*1) f) fun ad=>(cond ((ad==(2:Int))==true) (q1 o (ad==(2:Int)) o (cond true p false)) (q1 o (ad==(2:Int)) o false))) none) (r0 d a))
def Nr (N:Nat)  (r0:Nat→LA→Option R) (f:LA) (g:Nat) (i j:Bool) (c:Int) (l:Bool) (b:LA):Nat→Nat→Bool→Int→LA→LA→Option R
 | 0,_,_,_,_,_=>none
 | n+1,d,p,o,a,e=>(Atb N r0 f g i j c l b (Nr N r0 f g i j c l b n) (fun m q r t=>(Agz N (Nr N r0 f g i j c l b n) r0 f g i j d c l b a e m q r t)) d p o a e)
def Bb8 (N:Nat) (r0:Nat→LA→Option R) (q0:Nat→Bool→Int→LA→LA→Option R) (b:LA) (l:Bool) (c:Int) (f:LA) (g:Nat) (i j:Bool):Option R :=
 (cond ((decide ((0:Int)≤c))&&((decide (c≤c))&&((decide (c≤(140737488355328:Int)))&&(decide ((c*((16:Nat):Int))≤(140737488355328:Int)))))) (rdI .i64 (List.drop 19 b) fun af=>(rdI .i64 (List.drop 21 b) fun ag=>(rdI .i64 (List.drop 21 b) fun ah=>(q0 (Int.toNat c) (af==(2:Int)) 0 (List.flatten (List.replicate (Int.toNat c) [(.int .i64 0),(.int .i64 0)])) [(.int .i64 ag),(.int .i64 ah)])))) none)
def Bb9 (N:Nat) (b:LA) (l:Bool) (c:Int) (f:LA) (g:Nat) (i j:Bool) (r0:Nat→LA→Option R):Option R:=(Bb8 N r0 (fun d p o a e=>(Nr N r0 f g i j c l b N d p o a e)) b l c f g i j)
def Acl:=(Ai (@Bb9 R)).1
theorem Atc:@Acl R=@Bb9 R:=(Ai _).2
def Vo:Hints:={ H:=(hS (hR [1,2,3]) (hS (hR [1,2,3,7]) (hS (hR [1,2,3,7,8,9]) (hS (hS (hR [2,3,7,8,9,22,23]) (hN [7] (hN [2,3,7,8,9,22,23] (hS (hR [2,3,7,8,9,22,23,24]) (hS (hN [2,3,7,8,9,22,23] hL hL) (hS (hN [2,3,7,8,9,22,23] (hS (hR [2,3,7,8,9,10,22,23]) (hS (hR [2,3,7,8,9,10,11,22,23]) (hS (hJ (hR [2,3,7,9,10,11,22,23,34]) (hN [2,3,7,9,10,11,22,23] (hR [2,3,7,9,10,11,22,23]) (hS (hR [2,3,7,9,10,11,22,23,55]) (hN [2,3,7,9,10,11,22,23] (hR [2,3,7,9,10,11,22,23]) hL)))) (hR [2,3,7,8,9,22,23])))) hL) (hR [2,3,7,8,9,22,23])))) hL) hL)) (hS (hR [6]) hL))))),nils:=[(6,2)],modes:=[(2,2)],free:=[],cob:=[] }
def Y7 (N:Nat):List (Nat×Tw):=[]
def Mo (N:Nat):Env:=mkE 71 Vo (Y7 N)
def Biu (N:Nat) (F:KF R):=Aq (Mo N) Tryz.f65 Vo.modes [] F
def Vp (N:Nat) (F:KF R):=atF (Mo N) [] N Tryz.f65 Vo (Biu N F)
def D5  (F:KF R):Nat→LA→Option R:=(fun ai aj=>F (.own 300000 0 ai) [(300000,⟨false,false,true,false,2,aj,false⟩)])
def Vq (f:LA) (g:Nat) (i j:Bool) (d:Nat) (c:Int) (l:Bool) (b a e:LA) (m:Int) (q:Bool) (r:Int) (t:Bool):St:={ s:=[(2,(.imm f g 1 i j)),(3,(.optr 300000 0)),(7,(.own 300001 0 d)),(9,(.optr 300002 0)),(10,(.int .i64 m)),(11,(.bool q)),(22,(.int .i64 c)),(23,(.int .i64 r)),(34,(.bool t))],h:=[(300000,⟨false,false,true,l,0,b,false⟩),(300001,⟨false,false,true,false,2,a,false⟩),(300002,⟨false,false,true,false,0,e,false⟩)] }
def Axx (N:Nat) (F:KF R) (Q0:St→Option R):St→Option R:=Bm (Mo N) [] N (Vp N F [1,1,1,0,1,0,0,1,1,0,0,1,1,0,1] [Q0])
def Axy (N:Nat) (F:KF R) (Q0:St→Option R):St→Option R:=Bq (Mo N) [] N (Vp N F [1,1,1,0,1,0,0,1,1,0,0,1,1,0,1] [Q0])
def E9 (f:LA) (g:Nat) (i j:Bool) (c:Int) (l:Bool) (b:LA) (d:Nat) (p:Bool) (o:Int) (a e:LA):St:={ s:=[(2,(.imm f g 1 i j)),(3,(.optr 300000 0)),(7,(.own 300001 0 d)),(8,(.bool p)),(9,(.optr 300002 0)),(22,(.int .i64 c)),(23,(.int .i64 o))],h:=[(300000,⟨false,false,true,l,0,b,false⟩),(300001,⟨false,false,true,false,2,a,false⟩),(300002,⟨false,false,true,false,0,e,false⟩)] }
def Axz (N:Nat) (F:KF R):St→Option R:=Bx (Mo N) [] N (Vp N F [1,1,1,0,1,0] []) N
def G3 (N:Nat) (F:KF R) (n:Nat):St→Option R:=Ba (Mo N) [] N (Vp N F [1,1,1,0,1,0] []) n
theorem A8w (N:Nat) (Q0:St→Option R) (F:KF R) (f:LA) (g:Nat) (i j:Bool) (d:Nat) (c:Int) (l:Bool) (b a e:LA):∀ (m:Int) (q:Bool) (r:Int) (t:Bool),Axy N F Q0 (Vq f g i j d c l b a e m q r t)=(Agz N (fun d p o a e=>Q0 (E9 f g i j c l b d p o a e)) (D5 F) f g i j d c l b a e m q r t):=by
 intro m q r t
 have hK:Axy N F Q0 (Vq f g i j d c l b a e m q r t)=(Ata N (fun d p o a e=>Q0 (E9 f g i j c l b d p o a e)) (D5 F) f g i j d c l b a e m q r t):=by kernel_rfl
 exact hK
theorem A8x (N:Nat)  (F:KF R) (f:LA) (g:Nat) (i j:Bool) (c:Int) (l:Bool) (b:LA):∀ (n d:Nat) (p:Bool) (o:Int) (a e:LA),G3 N F n (E9 f g i j c l b d p o a e)=(Nr N (D5 F) f g i j c l b n d p o a e):=by
 intro n
 induction n with
 | zero=>intros;kernel_rfl
 | succ n ih =>
  intro d p o a e
  have e0:=funext fun d=>funext fun p=>funext fun o=>funext fun a=>funext fun e=>(show G3 N F n (E9 f g i j c l b d p o a e)=_ from ih d p o a e)
  have e1:(fun m q r t=>Axx N F (G3 N F n) (Vq f g i j d c l b a e m q r t))=(fun m q r t=>(Agz N (Nr N (D5 F) f g i j c l b n) (D5 F) f g i j d c l b a e m q r t)):=by funext m;funext q;funext r;funext t;exact ((As ..).trans (A8w N (G3 N F n) F f g i j d c l b a e m q r t)).trans (by rw [e0])
  have hK:G3 N F (n+1) (E9 f g i j c l b d p o a e)=(Atb N (D5 F) f g i j c l b (fun d p o a e=>G3 N F n (E9 f g i j c l b d p o a e)) (fun m q r t=>Axx N F (G3 N F n) (Vq f g i j d c l b a e m q r t)) d p o a e):=by kernel_rfl
  exact hK.trans (by rw [e0,e1];rfl)
theorem Ag0 (N:Nat) (b:LA) (l:Bool) (c:Int) (f:LA) (g:Nat) (i j:Bool) (F:KF R):Ac Tryz.prog muts (Y7 N) Vo N 65 [(.pagg b l),(.int .i64 c),(.imm f g 1 i j)] [] F=(Acl N b l c f g i j (D5 F)):=by
 have e1:=funext fun d=>funext fun p=>funext fun o=>funext fun a=>funext fun e=>(show Axz N F (E9 f g i j c l b d p o a e)=_ from (Ar ..).trans (A8x N F f g i j c l b N d p o a e))
 have hK:Ac Tryz.prog muts (Y7 N) Vo N 65 [(.pagg b l),(.int .i64 c),(.imm f g 1 i j)] [] F=(Bb8 N (D5 F) (fun d p o a e=>Axz N F (E9 f g i j c l b d p o a e)) b l c f g i j):=by kernel_rfl
 rw [Atc]
 exact hK.trans (by rw [e1];rfl)
def Rl (N:Nat) (args:List AV) (h:Aj) (k:KF R):Option R :=
 match args,h with
 | [(.pagg b l),(.int .i64 c),(.imm f g 1 i j)],[]=>(Acl N b l c f g i j (D5 k))
 | _,_=>none
def Ax0 (N:Nat):Tw:=⟨Rl N,fun args h k=>by
 unfold Rl;split
 exact twE (Ag0 ..) (Ag0 ..)
 rfl⟩
theorem Bkn (N:Nat):A1 Tryz.prog 65 (Ax0 N):=fun args h res ae hh=>by
 change Rl N args h (fun v ae=>some (v,ae))=_ at hh
 unfold Rl at hh;split at hh
 exact Aa (T:=Y7 N) trivial follows ((Ag0 ..).trans hh)
 cases hh
def Aor (N:Nat)  (r0:LA→Option R) (c:Nat) (e:LA) (f:Nat) (g i j:Bool) (d:LA) (k0:Int→LA→Option R)  (a:Int) (b:LA):Option R :=
 (cond (decide (a≥(0:Int))) (cond (Am a f) (rdI .i64 (List.drop ((Int.toNat a)*1) e) fun o=>(cond (o != (2:Int)) (k0 (IntKind.wrap .i64 (a - (1:Int))) b) (cond (Am a c) (cond (Nat.ble 2 (List.length (List.drop (0+((Int.toNat a)*2)) b))) (cond (Am (IntKind.wrap .i64 (a+(1:Int))) c) (cond (Nat.ble 2 (List.length (List.drop (0+((Int.toNat (IntKind.wrap .i64 (a+(1:Int))))*2)) b))) (cond ((Nat.beq (List.length (List.take 2 (List.drop (0+((Int.toNat a)*2)) b))) 2)&&((Nat.ble 2 2)&&(!false))) (cond ((Nat.beq (List.length (List.take 2 (List.drop (0+((Int.toNat (IntKind.wrap .i64 (a+(1:Int))))*2)) b))) 2)&&((Nat.ble 2 2)&&(!false))) (cond (Am (IntKind.wrap .i64 (a+(1:Int))) f) (rdI .i64 (List.drop ((Int.toNat (IntKind.wrap .i64 (a+(1:Int))))*1) e) fun p=>(cond (p != (2:Int)) (rdI .i64 (setCells [(.int .i64 0),(.int .i64 0)] 0 (List.take 2 (List.drop (0+((Int.toNat a)*2)) b))) fun q=>(rdI .i64 (List.drop 1 (setCells [(.int .i64 0),(.int .i64 0)] 0 (List.take 2 (List.drop (0+((Int.toNat a)*2)) b)))) fun r=>(rdI .i64 (List.drop 9 d) fun t=>(cond (Am a c) (cond ((Nat.beq 2 2)&&((Nat.ble ((0+((Int.toNat a)*2))+2) (List.length b))&&(!false))) (k0 (IntKind.wrap .i64 (a - (1:Int))) (Ei b (0+((Int.toNat a)*2)) [(.int .i64 q),(.int .i64 (Ao7 r t))])) none) none)))) (rdI .i64 (setCells [(.int .i64 0),(.int .i64 0)] 0 (List.take 2 (List.drop (0+((Int.toNat a)*2)) b))) fun u=>(rdI .i64 (setCells [(.int .i64 0),(.int .i64 0)] 0 (List.take 2 (List.drop (0+((Int.toNat (IntKind.wrap .i64 (a+(1:Int))))*2)) b))) fun w=>(rdI .i64 (List.drop 6 d) fun x=>(rdI .i64 (List.drop 1 (setCells [(.int .i64 0),(.int .i64 0)] 0 (List.take 2 (List.drop (0+((Int.toNat a)*2)) b)))) fun y=>(rdI .i64 (List.drop 1 (setCells [(.int .i64 0),(.int .i64 0)] 0 (List.take 2 (List.drop (0+((Int.toNat (IntKind.wrap .i64 (a+(1:Int))))*2)) b)))) fun z=>(rdI .i64 (List.drop 7 d) fun aa=>(cond (Am a c) (cond ((Nat.beq 2 2)&&((Nat.ble ((0+((Int.toNat a)*2))+2) (List.length b))&&(!false))) (k0 (IntKind.wrap .i64 (a - (1:Int))) (Ei b (0+((Int.toNat a)*2)) [(.int .i64 (Aaf u (IntKind.wrap .i64 (w - x)))),(.int .i64 (Ao7 y (IntKind.wrap .i64 (z+aa))))])) none) none))))))))) none) none) none) none) none) none) none))) none) (r0 b))
def Acm (N:Nat)  (r0:LA→Option R) (c:Nat) (e:LA) (f:Nat) (g i j:Bool) (d:LA):Nat→Int→LA→Option R
 | 0,_,_=>none
 | n+1,a,b=>(Aor N r0 c e f g i j d (Acm N r0 c e f g i j d n) a b)
def A4z (N:Nat) (r0:LA→Option R) (q0:Int→LA→Option R) (d:LA) (j:Bool) (c:Nat) (e:LA) (f:Nat) (g i:Bool) (l:LA):Option R :=
 (q0 (IntKind.wrap .i64 (((c:Nat):Int) - (2:Int))) l)
def A40 (N:Nat) (d:LA) (j:Bool) (c:Nat) (e:LA) (f:Nat) (g i:Bool) (l:LA) (r0:LA→Option R):Option R:=(A4z N r0 (fun a b=>(Acm N r0 c e f g i j d N a b)) d j c e f g i l)
def Wl:=(Ai (@A40 R)).1
theorem Aos:@Wl R=@A40 R:=(Ai _).2
def Rm:Hints:={ H:=(hS (hR [1,2,3]) (hS (hR [1,2,3,6]) (hS (hN [1,2,3,6] (hS (hS (hR [1,2,3,6,13]) (hN [1,2,3,6] hL hL)) (hS (hN [1,2,3,6] (hS (hS (hR [1,2,3,6,20]) (hN [1,2,3,6] hL hL)) (hS (hR [1,2,3,6,7,8]) (hS (hR [1,2,3,6,7,8,35]) (hN [1,2,3,6] (hR [1,2,3,6]) (hR [1,2,3,6]))))) hL) (hR [1,2,3,6]))) hL) hL))),nils:=[],modes:=[],free:=[],cob:=[] }
def Vr (N:Nat):List (Nat×Tw):=[]
def Vs (N:Nat):Env:=mkE 67 Rm (Vr N)
def Bc0 (N:Nat) (F:KF R):=Aq (Vs N) Tryz.f66 Rm.modes [100000] F
def Atd (N:Nat) (F:KF R):=atF (Vs N) [100000] N Tryz.f66 Rm (Bc0 N F)
def Lg  (F:KF R):LA→Option R:=(fun ab=>F (.tup []) [(100000,⟨false,false,true,false,2,ab,false⟩)])
def H5 (c:Nat) (e:LA) (f:Nat) (g i j:Bool) (d:LA) (a:Int) (b:LA):St:={ s:=[(1,(.own 100000 0 c)),(2,(.imm e f 1 g i)),(3,(.optr 300000 0)),(6,(.int .i64 a))],h:=[(100000,⟨false,false,true,false,2,b,false⟩),(300000,⟨false,false,true,j,0,d,false⟩)] }
def Ate (N:Nat) (F:KF R):St→Option R:=Bx (Vs N) [100000] N (Atd N F [1,1,0] []) N
def Rn (N:Nat) (F:KF R) (n:Nat):St→Option R:=Ba (Vs N) [100000] N (Atd N F [1,1,0] []) n
theorem A41 (N:Nat)  (F:KF R) (c:Nat) (e:LA) (f:Nat) (g i j:Bool) (d:LA):∀ (n:Nat) (a:Int) (b:LA),Rn N F n (H5 c e f g i j d a b)=(Acm N (Lg F) c e f g i j d n a b):=by
 intro n
 induction n with
 | zero=>intros;kernel_rfl
 | succ n ih =>
  intro a b
  have e0:=funext fun a=>funext fun b=>(show Rn N F n (H5 c e f g i j d a b)=_ from ih a b)
  have hK:Rn N F (n+1) (H5 c e f g i j d a b)=(Aor N (Lg F) c e f g i j d (fun a b=>Rn N F n (H5 c e f g i j d a b)) a b):=by kernel_rfl
  exact hK.trans (by rw [e0];rfl)
theorem Acn (N:Nat) (d:LA) (j:Bool) (c:Nat) (e:LA) (f:Nat) (g i:Bool) (l:LA) (F:KF R):Ac Tryz.prog muts (Vr N) Rm N 66 [(.pagg d j),(.own 100000 0 c),(.imm e f 1 g i)] [(100000,⟨false,false,true,false,2,l,false⟩)] F=(Wl N d j c e f g i l (Lg F)):=by
 have e1:=funext fun a=>funext fun b=>(show Ate N F (H5 c e f g i j d a b)=_ from (Ar ..).trans (A41 N F c e f g i j d N a b))
 have hK:Ac Tryz.prog muts (Vr N) Rm N 66 [(.pagg d j),(.own 100000 0 c),(.imm e f 1 g i)] [(100000,⟨false,false,true,false,2,l,false⟩)] F=(A4z N (Lg F) (fun a b=>Ate N F (H5 c e f g i j d a b)) d j c e f g i l):=by kernel_rfl
 rw [Aos]
 exact hK.trans (by rw [e1];rfl)
def Og (N:Nat) (args:List AV) (h:Aj) (k:KF R):Option R :=
 match args,h with
 | [(.pagg d j),(.own 100000 0 c),(.imm e f 1 g i)],[(100000,⟨false,false,true,false,2,l,false⟩)]=>(Wl N d j c e f g i l (Lg k))
 | _,_=>none
def Atf (N:Nat):Tw:=⟨Og N,fun args h k=>by
 unfold Og;split
 exact twE (Acn ..) (Acn ..)
 rfl⟩
theorem Biv (N:Nat):A1 Tryz.prog 66 (Atf N):=fun args h res m hh=>by
 change Og N args h (fun v m=>some (v,m))=_ at hh
 unfold Og at hh;split at hh
 exact Aa (T:=Vr N) trivial follows ((Acn ..).trans hh)
 cases hh
end
end Gx

namespace Gx
open Go Go.Proofs
set_option maxRecDepth 100000
noncomputable section
variable {R:Type}
def Aot (N:Nat)  (r0:Nat→Int→LA→Option R) (b:LA) (a:Nat) (d c:Bool) (i:Nat) (k1:Int→Int→LA→Option R)  (m e:Int) (g:LA):Option R :=
 (cond (decide (e<m)) (cond (Am e i) (cond (Nat.ble 2 (List.length (List.drop (0+((Int.toNat e)*2)) g))) (cond ((Nat.beq (List.length (List.take 2 (List.drop (0+((Int.toNat e)*2)) g))) 2)&&((Nat.ble 2 2)&&(!false))) (rdI .i64 (setCells [(.int .i64 0),(.int .i64 0)] 0 (List.take 2 (List.drop (0+((Int.toNat e)*2)) g))) fun p=>(rdI .i64 (List.drop 1 (setCells [(.int .i64 0),(.int .i64 0)] 0 (List.take 2 (List.drop (0+((Int.toNat e)*2)) g)))) fun q=>(cond (decide (p>q)) (r0 0 7 []) (cond (Am e a) (rdI .i64 (List.drop ((Int.toNat e)*1) b) fun r=>(cond (r != (2:Int)) (cond (Am e i) (cond ((Nat.beq 2 2)&&((Nat.ble ((0+((Int.toNat e)*2))+2) (List.length g))&&(!false))) (k1 m (IntKind.wrap .i64 (e+(1:Int))) (Ei g (0+((Int.toNat e)*2)) [(.int .i64 0),(.int .i64 0)])) none) none) (k1 m (IntKind.wrap .i64 (e+(1:Int))) g))) none)))) none) none) none) (r0 i 0 g))
def Aco (N:Nat)  (r0:Nat→Int→LA→Option R) (b:LA) (a:Nat) (d c:Bool) (i:Nat):Nat→Int→Int→LA→Option R
 | 0,_,_,_=>none
 | n+1,m,e,g=>(Aot N r0 b a d c i (Aco N r0 b a d c i n) m e g)
def Xa (N:Nat)  (r0:Nat→Int→LA→Option R) (l:Int) (b:LA) (a:Nat) (d c j:Bool) (f:LA)  (q1:Nat→Int→Int→LA→Option R) :Option R :=
 (cond (Nat.ble 22 (List.length f)) (Acl N (List.take 22 f) j l b a false c (fun i t=>(cond (Nat.ble 22 (List.length f)) (Wl N (List.take 22 f) j i b a false c t (fun u=>(q1 i ((i:Nat):Int) 0 u))) none))) none)
def Acp (N:Nat)  (r0:Nat→Int→LA→Option R) (l:Int) (b:LA) (a:Nat) (d c j:Bool) (f:LA) :Option R:=(Xa N r0 l b a d c j f (fun i m e g=>(Aco N r0 b a d c i N m e g)))
def Am3 (N:Nat) (r0:Nat→Int→LA→Option R) (q0:Option R) (f:LA) (j:Bool) (l:Int) (b:LA) (a:Nat) (d c:Bool):Option R :=
 (cond (Nat.ble 22 (List.length f)) (Ab9 N (List.take 22 f) j l (fun w=>(cond (!w) (r0 0 1 []) (cond (((a:Nat):Int) != l) (r0 0 4 []) (cond (Nat.ble 22 (List.length f)) (A4y N (List.take 22 f) j b a false c (fun af ag x ah=>(cond (x != (0:Int)) (r0 0 16 []) (rdI .i64 (List.drop 19 f) fun y=>(cond ((y==(2:Int))==true) (cond (Am (0:Int) a) (rdI .i64 b fun z=>(cond ((cond true (z != (2:Int)) false)==true) (rdI .i64 (List.drop 21 f) fun aa=>(rdI .i64 (List.drop 9 f) fun ab=>(cond (cond true (decide (aa>ab)) false) (r0 0 7 []) q0))) q0)) none) q0))))) none))))) none)
def Am4 (N:Nat) (f:LA) (j:Bool) (l:Int) (b:LA) (a:Nat) (d c:Bool) (r0:Nat→Int→LA→Option R):Option R:=(Am3 N r0 (Acp N r0 l b a d c j f) f j l b a d c)
def Wm:=(Ai (@Am4 R)).1
theorem Aou:@Wm R=@Am4 R:=(Ai _).2
def Ro:Hints:={ H:=(hS (hR [1,2,3]) (hS (hS (hR [1,2,3,17]) (hN [1,2,3] (hS (hR [6,7]) hL) hL)) (hS (hS (hR [1,2,3,21]) (hN [1,2,3] (hS (hR [6,7]) hL) hL)) (hS (hS (hR [1,2,3,10]) (hS (hR [1,2,3,30]) (hN [1,2,3] (hS (hR [6,7]) hL) hL))) (hJ (hS (hR [1,2,3,46]) (hN [1,2,3] (hS (hR [6,7]) hL) hL)) (hS (hR [2,3,11]) (hS (hR [2,11]) (hS (hS (hR [2,11,55,56,57]) (hN [11] (hN [2,11,55,56,57] (hS (hR [2,11,55,56,57,58]) (hS (hN [2,11,55,56,57] hL hL) (hS (hN [2,11,55,56,57] (hS (hR [2,11,12,13,55,56,57]) (hS (hS (hR [2,11,12,55,56,57,66]) (hN [2,11,12,55,56,57] (hS (hR [6,7]) hL) hL)) (hS (hR [2,11,12,55,56,57,71]) (hN [2,11,55,56,57] (hR [2,11,55,56,57]) hL)))) hL) (hR [2,11,55,56,57])))) hL) hL)) (hS (hR [6,7]) hL))))))))),nils:=[(6,2)],modes:=[(2,2),(0,0)],free:=[],cob:=[] }
def Vt (N:Nat):List (Nat×Tw):=[(16,Ae6 N),(64,Bit N),(65,Ax0 N),(66,Atf N)]
def J6 (N:Nat):Env:=mkE 78 Ro (Vt N)
def Bc1 (N:Nat) (F:KF R):=Aq (J6 N) Tryz.f29 Ro.modes [] F
def Rp (N:Nat) (F:KF R):=atF (J6 N) [] N Tryz.f29 Ro (Bc1 N F)
def Fx  (F:KF R):Nat→Int→LA→Option R:=(fun ac ad ae=>F (.tup [(.own 300000 0 ac),(.int .i64 ad)]) [(300000,⟨false,false,true,false,2,ae,false⟩)])
def H6 (b:LA) (a:Nat) (d c:Bool) (i:Nat) (m e:Int) (g:LA):St:={ s:=[(2,(.imm b a 1 d c)),(11,(.own 300000 0 i)),(55,(.own 300000 0 i)),(56,(.int .i64 m)),(57,(.int .i64 e))],h:=[(300000,⟨false,false,true,false,2,g,false⟩)] }
def Atg (N:Nat) (F:KF R):St→Option R:=Bx (J6 N) [] N (Rp N F [1,1,1,1,1,1,1,0,1,0] []) N
def Rq (N:Nat) (F:KF R) (n:Nat):St→Option R:=Ba (J6 N) [] N (Rp N F [1,1,1,1,1,1,1,0,1,0] []) n
def Rr (l:Int) (b:LA) (a:Nat) (d c j:Bool) (f:LA):St:={ s:=[(1,(.int .i64 l)),(2,(.imm b a 1 d c)),(3,(.optr 300000 0))],h:=[(300000,⟨false,false,true,j,0,f,false⟩)] }
def Ath (N:Nat) (F:KF R):St→Option R:=Bm (J6 N) [] N (Rp N F [1,1,1,1,1] [])
def Ati (N:Nat) (F:KF R):St→Option R:=Bq (J6 N) [] N (Rp N F [1,1,1,1,1] [])
theorem A42 (N:Nat)  (F:KF R) (b:LA) (a:Nat) (d c:Bool) (i:Nat):∀ (n:Nat) (m e:Int) (g:LA),Rq N F n (H6 b a d c i m e g)=(Aco N (Fx F) b a d c i n m e g):=by
 intro n
 induction n with
 | zero=>intros;kernel_rfl
 | succ n ih =>
  intro m e g
  have e0:=funext fun m=>funext fun e=>funext fun g=>(show Rq N F n (H6 b a d c i m e g)=_ from ih m e g)
  have hK:Rq N F (n+1) (H6 b a d c i m e g)=(Aot N (Fx F) b a d c i (fun m e g=>Rq N F n (H6 b a d c i m e g)) m e g):=by kernel_rfl
  exact hK.trans (by rw [e0];rfl)
theorem A43 (N:Nat)  (F:KF R) (l:Int) (b:LA) (a:Nat) (d c j:Bool) (f:LA):Ati N F (Rr l b a d c j f)=(Acp N (Fx F) l b a d c j f):=by
 have e1:=funext fun i=>funext fun m=>funext fun e=>funext fun g=>(show Atg N F (H6 b a d c i m e g)=_ from (Ar ..).trans (A42 N F b a d c i N m e g))
 have hK:Ati N F (Rr l b a d c j f)=(Xa N (Fx F) l b a d c j f (fun i m e g=>Atg N F (H6 b a d c i m e g))):=by kernel_rfl
 exact hK.trans (by rw [e1];rfl)
theorem Acq (N:Nat) (f:LA) (j:Bool) (l:Int) (b:LA) (a:Nat) (d c:Bool) (F:KF R):Ac Tryz.prog muts (Vt N) Ro N 29 [(.pagg f j),(.int .i64 l),(.imm b a 1 d c)] [] F=(Wm N f j l b a d c (Fx F)):=by
 have e1:=(show Ath N F (Rr l b a d c j f)=_ from (As ..).trans (A43 N F l b a d c j f))
 have hK:Ac Tryz.prog muts (Vt N) Ro N 29 [(.pagg f j),(.int .i64 l),(.imm b a 1 d c)] [] F=(Am3 N (Fx F) (Ath N F (Rr l b a d c j f)) f j l b a d c):=by kernel_rfl
 rw [Aou]
 exact hK.trans (by rw [e1];rfl)
def Oh (N:Nat) (args:List AV) (h:Aj) (k:KF R):Option R :=
 match args,h with
 | [(.pagg f j),(.int .i64 l),(.imm b a 1 d c)],[]=>(Wm N f j l b a d c (Fx k))
 | _,_=>none
def Atj (N:Nat):Tw:=⟨Oh N,fun args h k=>by
 unfold Oh;split
 exact twE (Acq ..) (Acq ..)
 rfl⟩
theorem Biw (N:Nat):A1 Tryz.prog 29 (Atj N):=fun args h res o hh=>by
 change Oh N args h (fun v o=>some (v,o))=_ at hh
 unfold Oh at hh;split at hh
 exact Aa (T:=Vt N) ⟨Asl N,Bs5 N,Bkn N,Biv N,trivial⟩ follows ((Acq ..).trans hh)
 cases hh
def Am5 (N:Nat) (r0:Bool→Option R)  :Option R :=
 (No N (fun b=>(cond ((Nat.beq 0 0)&&((Nat.beq (List.length b) 22)&&(Nat.beq 22 22))) (cond (Nat.ble 22 (List.length b)) (Bb N 35 (fun i=>(Eb N (List.take 22 b) false i false (fun c j=>(cond ((Nat.beq 0 0)&&((Nat.beq (List.length c) 3)&&(Nat.beq 3 3))) (cond (Nat.ble 22 (List.length b)) (Bb N 30 (fun l=>(In N (List.take 22 b) false l false (fun d e m n=>(cond ((Nat.beq 0 0)&&((Nat.beq (List.length d) 3)&&(Nat.beq 3 3))) (cond ((Nat.beq 0 0)&&((Nat.beq (List.length e) 3)&&(Nat.beq 3 3))) (cond (Nat.ble 22 (List.length b)) (Wm N (List.take 22 b) false 3 [(.int .i64 2),(.int .i64 2),(.int .i64 0)] 3 false true (fun f o a=>(cond (Nat.ble 3 (List.length c)) (Bb N 85 (fun p=>(A2 N (List.take 3 c) false p false (fun q=>(cond ((q==(0:Int))==true) (cond ((cond true (j==(0:Int)) false)==true) (cond (Nat.ble 3 (List.length d)) (Bb N 3 (fun r=>(A2 N (List.take 3 d) false r false (fun s=>(cond ((cond true (s==(0:Int)) false)==true) (cond (Nat.ble 3 (List.length e)) (Bb N 5 (fun t=>(A2 N (List.take 3 e) false t false (fun u=>(cond ((cond true (u==(0:Int)) false)==true) (cond ((cond true m false)==true) (cond ((cond true n false)==true) (cond ((cond true (o==(0:Int)) false)==true) (cond ((cond true (((f:Nat):Int)==(3:Int)) false)==true) (cond (Am (0:Int) f) (cond (Nat.ble 2 (List.length a)) (cond ((Nat.ble 1 2)&&((Nat.beq (List.length (List.take 2 a)) 2)&&((Nat.beq 2 2)&&(true&&(!false))))) (rdI .i64 (List.take 2 a) fun w=>(rdI .i64 (List.drop 1 (List.take 2 a)) fun x=>(cond ((cond true ((w==(10:Int))&&((x==(17:Int))&&true)) false)==true) (cond (Am (1:Int) f) (cond (Nat.ble 2 (List.length (List.drop 2 a))) (cond ((Nat.ble 1 2)&&((Nat.beq (List.length (List.take 2 (List.drop 2 a))) 2)&&((Nat.beq 2 2)&&(true&&(!false))))) (rdI .i64 (List.take 2 (List.drop 2 a)) fun y=>(rdI .i64 (List.drop 1 (List.take 2 (List.drop 2 a))) fun z=>(r0 (cond true ((y==(10:Int))&&((z==(15:Int))&&true)) false)))) none) none) none) (r0 false)))) none) none) none) (r0 false)) (r0 false)) (r0 false)) (r0 false)) (r0 false)))))) none) (r0 false)))))) none) (r0 false)) (r0 false)))))) none))) none) none) none))))) none) none))))) none) none)))
def Am6 (N:Nat)  (r0:Bool→Option R):Option R:=(Am5 N r0)
def Io:=(Ai (@Am6 R)).1
theorem Aov:@Io R=@Am6 R:=(Ai _).2
def Atk:Hints:={ H:=(hS hL (hS (hR [1]) (hS (hR [1,2,3]) (hS (hR [1,2,3,4,5,6,7]) (hS (hR [2,3,4,5,6,7,8,9]) (hS (hR [0]) hL)))))),nils:=[],modes:=[],free:=[],cob:=[] }
def Ag1 (N:Nat):List (Nat×Tw):=[(46,Aim N),(20,Hq N),(21,Rb N),(23,Ace N),(29,Atj N),(25,H2 N)]
def Acr  (F:KF R):Bool→Option R:=(fun aa=>F (.bool aa) [])
theorem Acs (N:Nat)  (F:KF R):Ac Tryz.prog muts (Ag1 N) Atk N 15 [] [] F=(Io N (Acr F)):=by
 have hK:Ac Tryz.prog muts (Ag1 N) Atk N 15 [] [] F=(Am5 N (Acr F)):=by kernel_rfl
 rw [Aov]
 exact hK
def Oi (N:Nat) (args:List AV) (h:Aj) (k:KF R):Option R :=
 match args,h with
 | [],[]=>(Io N (Acr k))
 | _,_=>none
def Atl (N:Nat):Tw:=⟨Oi N,fun args h k=>by
 unfold Oi;split
 exact twE (Acs ..) (Acs ..)
 rfl⟩
theorem Bix (N:Nat):A1 Tryz.prog 15 (Atl N):=fun args h res g hh=>by
 change Oi N args h (fun v g=>some (v,g))=_ at hh
 unfold Oi at hh;split at hh
 exact Aa (T:=Ag1 N) ⟨A8m N,Kz N,Afb N,Asw N,Biw N,K5 N,trivial⟩ follows ((Acs ..).trans hh)
 cases hh
def Bo1 (N:Nat) (r0:Bool→Option R)  (a b c:Int):Option R :=
 (cond ((decide (a≥b))==true) (r0 (cond true (decide (a≤c)) false)) (r0 false))
def Bo2 (N:Nat) (a b c:Int) (r0:Bool→Option R):Option R:=(Bo1 N r0 a b c)
def H7:=(Ai (@Bo2 R)).1
theorem Biy:@H7 R=@Bo2 R:=(Ai _).2
def Bmi:Hints:={ H:=(hS (hR [0,1,2]) (hS (hR [6]) hL)),nils:=[],modes:=[],free:=[],cob:=[] }
def Biz (N:Nat):List (Nat×Tw):=[]
def A8y  (F:KF R):Bool→Option R:=(fun e=>F (.bool e) [])
theorem A8z (N:Nat) (a b c:Int) (F:KF R):Ac Tryz.prog muts (Biz N) Bmi N 51 [(.int .i64 a),(.int .i64 b),(.int .i64 c)] [] F=(H7 N a b c (A8y F)):=by
 have hK:Ac Tryz.prog muts (Biz N) Bmi N 51 [(.int .i64 a),(.int .i64 b),(.int .i64 c)] [] F=(Bo1 N (A8y F) a b c):=by kernel_rfl
 rw [Biy]
 exact hK
def Am7 (N:Nat) (args:List AV) (h:Aj) (k:KF R):Option R :=
 match args,h with
 | [(.int .i64 a),(.int .i64 b),(.int .i64 c)],[]=>(H7 N a b c (A8y k))
 | _,_=>none
def A80 (N:Nat):Tw:=⟨Am7 N,fun args h k=>by
 unfold Am7;split
 exact twE (A8z ..) (A8z ..)
 rfl⟩
theorem Bmj (N:Nat):A1 Tryz.prog 51 (A80 N):=fun args h res d hh=>by
 change Am7 N args h (fun v d=>some (v,d))=_ at hh
 unfold Am7 at hh;split at hh
 exact Aa (T:=Biz N) trivial follows ((A8z ..).trans hh)
 cases hh
def Ag2 (N:Nat)  (r0:Bool→Option R) (b:Bool) (a:LA)   :Option R :=
 (rdI .i64 (List.drop 19 a) fun d=>(cond ((d != (0:Int))==true) (rdI .i64 (List.drop 19 a) fun e=>(cond ((cond true (e != (1:Int)) false)==true) (rdI .i64 (List.drop 19 a) fun f=>(cond ((cond true (f != (2:Int)) false)==false) (rdI .i64 (List.drop 20 a) fun g=>(cond ((cond false true (decide (g<(1:Int))))==false) (rdI .i64 (List.drop 20 a) fun i=>(cond (cond false true (decide (i>(48:Int)))) (r0 false) (rdI .i64 (List.drop 19 a) fun j=>(cond ((j != (1:Int))==false) (rdI .i64 (List.drop 20 a) fun l=>(rdI .i64 (List.drop 12 a) fun m=>(r0 (cond false true (decide (l≤m)))))) (r0 true))))) (r0 false))) (r0 false))) (rdI .i64 (List.drop 20 a) fun n=>(cond ((cond false true (decide (n<(1:Int))))==false) (rdI .i64 (List.drop 20 a) fun o=>(cond (cond false true (decide (o>(48:Int)))) (r0 false) (rdI .i64 (List.drop 19 a) fun p=>(cond ((p != (1:Int))==false) (rdI .i64 (List.drop 20 a) fun q=>(rdI .i64 (List.drop 12 a) fun r=>(r0 (cond false true (decide (q≤r)))))) (r0 true))))) (r0 false))))) (rdI .i64 (List.drop 20 a) fun t=>(cond ((cond false true (decide (t<(1:Int))))==false) (rdI .i64 (List.drop 20 a) fun u=>(cond (cond false true (decide (u>(48:Int)))) (r0 false) (rdI .i64 (List.drop 19 a) fun w=>(cond ((w != (1:Int))==false) (rdI .i64 (List.drop 20 a) fun x=>(rdI .i64 (List.drop 12 a) fun y=>(r0 (cond false true (decide (x≤y)))))) (r0 true))))) (r0 false)))))
def Am8 (N:Nat)  (r0:Bool→Option R) (b:Bool) (a:LA) :Option R:=(Ag2 N r0 b a)
def A1t (N:Nat) (r0:Bool→Option R) (q0:Option R) (a:LA) (b:Bool):Option R :=
 (rdI .i64 (List.drop 10 a) fun z=>(cond ((decide (z<(0:Int)))==false) (rdI .i64 (List.drop 10 a) fun aa=>(cond ((cond false true (decide (aa>(24:Int))))==false) (rdI .i64 (List.drop 11 a) fun ab=>(cond ((cond false true (decide (ab<(0:Int))))==false) (rdI .i64 (List.drop 11 a) fun ac=>(cond ((cond false true (decide (ac>(24:Int))))==false) (rdI .i64 (List.drop 12 a) fun ad=>(cond ((cond false true (decide (ad<(0:Int))))==false) (rdI .i64 (List.drop 12 a) fun ae=>(cond ((cond false true (decide (ae>(24:Int))))==false) (rdI .i64 (List.drop 15 a) fun af=>(cond ((cond false true (decide (af<(0:Int))))==false) (rdI .i64 (List.drop 15 a) fun ag=>(cond (cond false true (decide (ag>(24:Int)))) (r0 false) q0)) (r0 false))) (r0 false))) (r0 false))) (r0 false))) (r0 false))) (r0 false))) (r0 false)))
def A1u (N:Nat) (a:LA) (b:Bool) (r0:Bool→Option R):Option R:=(A1t N r0 (Am8 N r0 b a) a b)
def Aio:=(Ai (@A1u R)).1
theorem Ax1:@Aio R=@A1u R:=(Ai _).2
def Y8:Hints:={ H:=(hS (hR [1]) (hJ (hS (hR [1,40]) (hN [1] (hS (hR [2]) hL) hL)) (hS (hS (hR [1,63]) (hN [1] (hS (hR [2]) hL) hL)) (hS (hR [2]) hL)))),nils:=[],modes:=[],free:=[],cob:=[] }
def Afh (N:Nat):List (Nat×Tw):=[]
def Afi (N:Nat):Env:=mkE 74 Y8 (Afh N)
def Bko (N:Nat) (F:KF R):=Aq (Afi N) Tryz.f52 Y8.modes [] F
def A44 (N:Nat) (F:KF R):=atF (Afi N) [] N Tryz.f52 Y8 (Bko N F)
def Rs  (F:KF R):Bool→Option R:=(fun ah=>F (.bool ah) [])
def Y9 (b:Bool) (a:LA):St:={ s:=[(1,(.optr 300000 0))],h:=[(300000,⟨false,false,true,b,0,a,false⟩)] }
def A45 (N:Nat) (F:KF R):St→Option R:=Bm (Afi N) [] N (A44 N F [1,1] [])
def A46 (N:Nat) (F:KF R):St→Option R:=Bq (Afi N) [] N (A44 N F [1,1] [])
theorem Bc2 (N:Nat)  (F:KF R) (b:Bool) (a:LA):A46 N F (Y9 b a)=(Am8 N (Rs F) b a):=by
 have hK:A46 N F (Y9 b a)=(Ag2 N (Rs F) b a):=by kernel_rfl
 exact hK
theorem Am9 (N:Nat) (a:LA) (b:Bool) (F:KF R):Ac Tryz.prog muts (Afh N) Y8 N 52 [(.pagg a b)] [] F=(Aio N a b (Rs F)):=by
 have e1:=(show A45 N F (Y9 b a)=_ from (As ..).trans (Bc2 N F b a))
 have hK:Ac Tryz.prog muts (Afh N) Y8 N 52 [(.pagg a b)] [] F=(A1t N (Rs F) (A45 N F (Y9 b a)) a b):=by kernel_rfl
 rw [Ax1]
 exact hK.trans (by rw [e1];rfl)
def Vu (N:Nat) (args:List AV) (h:Aj) (k:KF R):Option R :=
 match args,h with
 | [(.pagg a b)],[]=>(Aio N a b (Rs k))
 | _,_=>none
def A47 (N:Nat):Tw:=⟨Vu N,fun args h k=>by
 unfold Vu;split
 exact twE (Am9 ..) (Am9 ..)
 rfl⟩
theorem Bo3 (N:Nat):A1 Tryz.prog 52 (A47 N):=fun args h res c hh=>by
 change Vu N args h (fun v c=>some (v,c))=_ at hh
 unfold Vu at hh;split at hh
 exact Aa (T:=Afh N) trivial follows ((Am9 ..).trans hh)
 cases hh
def Mp (N:Nat)  (r0:Bool→Option R) (c:Bool) (b:LA) (k0:Int→Int→Option R)  (d a:Int):Option R :=
 (rdL 2 (List.drop 4 b) fun ad g=>(cond (decide (a<((g:Nat):Int))) (rdL 2 (List.drop 4 b) fun e i=>(cond (Am a i) (cond (Nat.ble 2 (List.length (List.drop ((Int.toNat a)*2) e))) (cond ((!c)||(Bv (List.take 2 (List.drop ((Int.toNat a)*2) e)))) (cond ((Nat.beq (List.length (List.take 2 (List.drop ((Int.toNat a)*2) e))) 2)&&((Nat.ble 2 2)&&(!false))) (rdI .i64 (setCells [(.int .i64 0),(.int .i64 0)] 0 (List.take 2 (List.drop ((Int.toNat a)*2) e))) fun j=>(H7 N j 1 1048576 (fun l=>(cond ((!l)==false) (rdI .i64 (List.drop 1 (setCells [(.int .i64 0),(.int .i64 0)] 0 (List.take 2 (List.drop ((Int.toNat a)*2) e)))) fun m=>(H7 N m (-1048576) 1048576 (fun o=>(cond ((cond false true (!o))==false) (cond ((decide (a>(0:Int)))==true) (rdI .i64 (List.drop 1 (setCells [(.int .i64 0),(.int .i64 0)] 0 (List.take 2 (List.drop ((Int.toNat a)*2) e)))) fun p=>(rdL 2 (List.drop 4 b) fun q r=>(cond (Am (IntKind.wrap .i64 (a - (1:Int))) r) (rdI .i64 (List.drop 1 (List.drop ((Int.toNat (IntKind.wrap .i64 (a - (1:Int))))*2) q)) fun t=>(cond ((cond false true (cond true (decide (p<t)) false))==false) (rdI .i64 (setCells [(.int .i64 0),(.int .i64 0)] 0 (List.take 2 (List.drop ((Int.toNat a)*2) e))) fun u=>(cond (cond false true (decide (u>d))) (r0 false) (rdI .i64 (setCells [(.int .i64 0),(.int .i64 0)] 0 (List.take 2 (List.drop ((Int.toNat a)*2) e))) fun w=>(k0 (IntKind.wrap .i64 (d - w)) (IntKind.wrap .i64 (a+(1:Int))))))) (r0 false))) none))) (rdI .i64 (setCells [(.int .i64 0),(.int .i64 0)] 0 (List.take 2 (List.drop ((Int.toNat a)*2) e))) fun x=>(cond (cond false true (decide (x>d))) (r0 false) (rdI .i64 (setCells [(.int .i64 0),(.int .i64 0)] 0 (List.take 2 (List.drop ((Int.toNat a)*2) e))) fun y=>(k0 (IntKind.wrap .i64 (d - y)) (IntKind.wrap .i64 (a+(1:Int)))))))) (r0 false))))) (r0 false))))) none) none) none) none)) (r0 (d==(0:Int)))))
def Em (N:Nat)  (r0:Bool→Option R) (c:Bool) (b:LA):Nat→Int→Int→Option R
 | 0,_,_=>none
 | n+1,d,a=>(Mp N r0 c b (Em N r0 c b n) d a)
def Ag3 (N:Nat) (r0:Bool→Option R) (q0:Int→Int→Option R) (b:LA) (c:Bool):Option R :=
 (rdL 2 (List.drop 4 b) fun ae z=>(cond (decide (((z:Nat):Int)>(8:Int))) (r0 false) (rdI .i64 (List.drop 3 b) fun aa=>(rdI .i64 (List.drop 2 b) fun ab=>(q0 (IntKind.wrap .i64 (aa - ab)) 0)))))
def Ag4 (N:Nat) (b:LA) (c:Bool) (r0:Bool→Option R):Option R:=(Ag3 N r0 (fun d a=>(Em N r0 c b N d a)) b c)
def Rt:=(Ai (@Ag4 R)).1
theorem Aip:@Rt R=@Ag4 R:=(Ai _).2
def Oj:Hints:={ H:=(hS (hR [1]) (hS (hS (hR [1,9]) (hN [1] (hS (hR [2]) hL) hL)) (hS (hR [1,3]) (hS (hS (hR [1,3,4]) (hN [3] (hN [1,3,4] (hS (hS (hR [1,3,4,19]) (hN [1,3,4] hL hL)) (hS (hN [1,3,4] (hS (hR [1,3,4,5]) (hS (hS (hR [1,3,4,5,58]) (hN [1,3,4,5] (hS (hR [2]) hL) hL)) (hR [1,3,4]))) hL) (hR [1,3,4]))) hL) hL)) (hS (hR [2]) hL))))),nils:=[],modes:=[],free:=[],cob:=[] }
def Ru (N:Nat):List (Nat×Tw):=[(51,A80 N)]
def Rv (N:Nat):Env:=mkE 65 Oj (Ru N)
def A81 (N:Nat) (F:KF R):=Aq (Rv N) Tryz.f53 Oj.modes [] F
def Aow (N:Nat) (F:KF R):=atF (Rv N) [] N Tryz.f53 Oj (A81 N F)
def Jo  (F:KF R):Bool→Option R:=(fun ac=>F (.bool ac) [])
def Gj (c:Bool) (b:LA) (d a:Int):St:={ s:=[(1,(.optr 300000 0)),(3,(.int .i64 d)),(4,(.int .i64 a))],h:=[(300000,⟨false,false,true,c,0,b,false⟩)] }
def Aox (N:Nat) (F:KF R):St→Option R:=Bx (Rv N) [] N (Aow N F [1,1,1,0,1,0] []) N
def Ok (N:Nat) (F:KF R) (n:Nat):St→Option R:=Ba (Rv N) [] N (Aow N F [1,1,1,0,1,0] []) n
theorem A1v (N:Nat)  (F:KF R) (c:Bool) (b:LA):∀ (n:Nat) (d a:Int),Ok N F n (Gj c b d a)=(Em N (Jo F) c b n d a):=by
 intro n
 induction n with
 | zero=>intros;kernel_rfl
 | succ n ih =>
  intro d a
  have e0:=funext fun d=>funext fun a=>(show Ok N F n (Gj c b d a)=_ from ih d a)
  have hK:Ok N F (n+1) (Gj c b d a)=(Mp N (Jo F) c b (fun d a=>Ok N F n (Gj c b d a)) d a):=by kernel_rfl
  exact hK.trans (by rw [e0];rfl)
theorem Xb (N:Nat) (b:LA) (c:Bool) (F:KF R):Ac Tryz.prog muts (Ru N) Oj N 53 [(.pagg b c)] [] F=(Rt N b c (Jo F)):=by
 have e1:=funext fun d=>funext fun a=>(show Aox N F (Gj c b d a)=_ from (Ar ..).trans (A1v N F c b N d a))
 have hK:Ac Tryz.prog muts (Ru N) Oj N 53 [(.pagg b c)] [] F=(Ag3 N (Jo F) (fun d a=>Aox N F (Gj c b d a)) b c):=by kernel_rfl
 rw [Aip]
 exact hK.trans (by rw [e1];rfl)
def Mq (N:Nat) (args:List AV) (h:Aj) (k:KF R):Option R :=
 match args,h with
 | [(.pagg b c)],[]=>(Rt N b c (Jo k))
 | _,_=>none
def Aoy (N:Nat):Tw:=⟨Mq N,fun args h k=>by
 unfold Mq;split
 exact twE (Xb ..) (Xb ..)
 rfl⟩
theorem Bc3 (N:Nat):A1 Tryz.prog 53 (Aoy N):=fun args h res f hh=>by
 change Mq N args h (fun v f=>some (v,f))=_ at hh
 unfold Mq at hh;split at hh
 exact Aa (T:=Ru N) ⟨Bmj N,trivial⟩ follows ((Xb ..).trans hh)
 cases hh
def Vv (N:Nat)  (r0:Bool→Option R) (b:Int) (c:Bool) (a:LA) (k3:Int→Option R)  (d:Int):Option R :=
 (rdL 1 (List.drop 18 a) fun bi f=>(cond (decide (d<((f:Nat):Int))) (rdL 1 (List.drop 18 a) fun g i=>(cond (Am d i) (rdI .i64 (List.drop ((Int.toNat d)*1) g) fun j=>(H7 N j 0 (IntKind.wrap .i64 (b - (1:Int))) (fun l=>(cond ((!l)==false) (cond ((decide (d>(0:Int)))==true) (rdL 1 (List.drop 18 a) fun m o=>(cond (Am d o) (rdI .i64 (List.drop ((Int.toNat d)*1) m) fun p=>(rdL 1 (List.drop 18 a) fun q r=>(cond (Am (IntKind.wrap .i64 (d - (1:Int))) r) (rdI .i64 (List.drop ((Int.toNat (IntKind.wrap .i64 (d - (1:Int))))*1) q) fun t=>(cond (cond false true (cond true (decide (p≤t)) false)) (r0 false) (k3 (IntKind.wrap .i64 (d+(1:Int)))))) none))) none)) (k3 (IntKind.wrap .i64 (d+(1:Int))))) (r0 false))))) none)) (rdI .i64 (List.drop 19 a) fun u=>(cond (u==(2:Int)) (rdI .i64 (List.drop 21 a) fun w=>(rdI .i64 (List.drop 2 a) fun x=>(rdI .i64 (List.drop 3 a) fun y=>(H7 N w x y (fun z=>(r0 z)))))) (rdI .i64 (List.drop 21 a) fun aa=>(r0 (aa==(0:Int))))))))
def Mr (N:Nat)  (r0:Bool→Option R) (b:Int) (c:Bool) (a:LA):Nat→Int→Option R
 | 0,_=>none
 | n+1,d=>(Vv N r0 b c a (Mr N r0 b c a n) d)
def Ag5 (N:Nat)  (r0:Bool→Option R) (b:Int) (c:Bool) (a:LA)  (q3:Int→Option R) :Option R :=
 (q3 0)
def Ana (N:Nat)  (r0:Bool→Option R) (b:Int) (c:Bool) (a:LA) :Option R:=(Ag5 N r0 b c a (fun d=>(Mr N r0 b c a N d)))
def Ag6 (N:Nat)  (r0:Bool→Option R) (b:Int) (c:Bool) (a:LA)  (q2:Option R) :Option R :=
 (rdI .i64 (List.drop 5 a) fun ab=>(H7 N ab 0 1048576 (fun ac=>(cond ((!ac)==false) (rdI .i64 (List.drop 13 a) fun ad=>(H7 N ad 0 1048576 (fun ae=>(cond ((cond false true (!ae))==false) (rdI .i64 (List.drop 14 a) fun af=>(H7 N af 0 1048576 (fun ag=>(cond ((cond false true (!ag))==false) (rdI .i64 (List.drop 17 a) fun ah=>(H7 N ah 0 1048576 (fun ai=>(cond (cond false true (!ai)) (r0 false) q2)))) (r0 false))))) (r0 false))))) (r0 false)))))
def Anb (N:Nat)  (r0:Bool→Option R) (b:Int) (c:Bool) (a:LA) :Option R:=(Ag6 N r0 b c a (Ana N r0 b c a))
def Ag7 (N:Nat)  (r0:Bool→Option R) (b:Int) (c:Bool) (a:LA)  (q1:Option R) :Option R :=
 (rdI .i64 (List.drop 6 a) fun aj=>(H7 N aj 0 1048576 (fun ak=>(cond ((!ak)==false) (rdI .i64 (List.drop 7 a) fun al=>(H7 N al 0 1048576 (fun am=>(cond ((cond false true (!am))==false) (rdI .i64 (List.drop 16 a) fun an=>(H7 N an 0 1048576 (fun ao=>(cond ((cond false true (!ao))==false) (rdI .i64 (List.drop 8 a) fun ap=>(rdI .i64 (List.drop 2 a) fun aq=>(rdI .i64 (List.drop 3 a) fun ar=>(H7 N ap aq ar (fun au=>(cond ((cond false true (!au))==false) (rdI .i64 (List.drop 9 a) fun av=>(rdI .i64 (List.drop 2 a) fun aw=>(rdI .i64 (List.drop 3 a) fun ax=>(H7 N av aw ax (fun ay=>(cond (cond false true (!ay)) (r0 false) q1)))))) (r0 false))))))) (r0 false))))) (r0 false))))) (r0 false)))))
def Anc (N:Nat)  (r0:Bool→Option R) (b:Int) (c:Bool) (a:LA) :Option R:=(Ag7 N r0 b c a (Anb N r0 b c a))
def A1w (N:Nat) (r0:Bool→Option R) (q0:Option R) (a:LA) (c:Bool) (b:Int):Option R :=
 (H7 N b 1 24 (fun az=>(cond ((!az)==false) (cond (Nat.ble 22 (List.length a)) (Aio N (List.take 22 a) c (fun ba=>(cond ((cond false true (!ba))==false) (rdI .i64 (List.drop 2 a) fun bb=>(H7 N bb 0 1048576 (fun bc=>(cond ((cond false true (!bc))==false) (rdI .i64 (List.drop 3 a) fun bd=>(rdI .i64 (List.drop 2 a) fun be=>(H7 N bd be 1048576 (fun bf=>(cond ((cond false true (!bf))==false) (cond (Nat.ble 22 (List.length a)) (Rt N (List.take 22 a) c (fun bg=>(cond (cond false true (!bg)) (r0 false) q0))) none) (r0 false)))))) (r0 false))))) (r0 false)))) none) (r0 false))))
def A1x (N:Nat) (a:LA) (c:Bool) (b:Int) (r0:Bool→Option R):Option R:=(A1w N r0 (Anc N r0 b c a) a c b)
def Z5:=(Ai (@A1x R)).1
theorem Ax2:@Z5 R=@A1x R:=(Ai _).2
def Za:Hints:={ H:=(hS (hR [1,2]) (hJ (hS (hR [1,2,32]) (hN [1,2] (hS (hR [4]) hL) hL)) (hJ (hS (hR [1,2,68]) (hN [1,2] (hS (hR [4]) hL) hL)) (hJ (hS (hR [1,2,90]) (hN [1,2] (hS (hR [4]) hL) hL)) (hS (hS (hR [1,2,5]) (hN [2] (hN [1,2,5] (hS (hS (hR [1,2,5,95]) (hN [1,2,5] hL hL)) (hS (hN [1,2,5] (hS (hR [1,2,5,124]) (hN [1,2,5] (hS (hR [4]) hL) hL)) hL) (hR [1,2,5]))) hL) hL)) (hS (hS (hR [2,127]) (hN [2] (hS (hR [4]) hL) hL)) (hS (hR [4]) hL))))))),nils:=[],modes:=[],free:=[],cob:=[] }
def Afj (N:Nat):List (Nat×Tw):=[(51,A80 N),(52,A47 N),(53,Aoy N)]
def Fa (N:Nat):Env:=mkE 138 Za (Afj N)
def Bkp (N:Nat) (F:KF R):=Aq (Fa N) Tryz.f17 Za.modes [] F
def Gt (N:Nat) (F:KF R):=atF (Fa N) [] N Tryz.f17 Za (Bkp N F)
def De  (F:KF R):Bool→Option R:=(fun bh=>F (.bool bh) [])
def Ms (b:Int) (c:Bool) (a:LA) (d:Int):St:={ s:=[(1,(.int .i64 b)),(2,(.optr 300000 0)),(5,(.int .i64 d))],h:=[(300000,⟨false,false,true,c,0,a,false⟩)] }
def A48 (N:Nat) (F:KF R):St→Option R:=Bx (Fa N) [] N (Gt N F [1,1,1,1,0,1,0] []) N
def Zb (N:Nat) (F:KF R) (n:Nat):St→Option R:=Ba (Fa N) [] N (Gt N F [1,1,1,1,0,1,0] []) n
def Zc (b:Int) (c:Bool) (a:LA):St:={ s:=[(1,(.int .i64 b)),(2,(.optr 300000 0))],h:=[(300000,⟨false,false,true,c,0,a,false⟩)] }
def A49 (N:Nat) (F:KF R):St→Option R:=Bm (Fa N) [] N (Gt N F [1,1,1,1] [])
def A5a (N:Nat) (F:KF R):St→Option R:=Bq (Fa N) [] N (Gt N F [1,1,1,1] [])
def Zd (b:Int) (c:Bool) (a:LA):St:={ s:=[(1,(.int .i64 b)),(2,(.optr 300000 0))],h:=[(300000,⟨false,false,true,c,0,a,false⟩)] }
def A5b (N:Nat) (F:KF R):St→Option R:=Bm (Fa N) [] N (Gt N F [1,1,1] [])
def A5c (N:Nat) (F:KF R):St→Option R:=Bq (Fa N) [] N (Gt N F [1,1,1] [])
def Ze (b:Int) (c:Bool) (a:LA):St:={ s:=[(1,(.int .i64 b)),(2,(.optr 300000 0))],h:=[(300000,⟨false,false,true,c,0,a,false⟩)] }
def A5d (N:Nat) (F:KF R):St→Option R:=Bm (Fa N) [] N (Gt N F [1,1] [])
def A5e (N:Nat) (F:KF R):St→Option R:=Bq (Fa N) [] N (Gt N F [1,1] [])
theorem Bc4 (N:Nat)  (F:KF R) (b:Int) (c:Bool) (a:LA):∀ (n:Nat) (d:Int),Zb N F n (Ms b c a d)=(Mr N (De F) b c a n d):=by
 intro n
 induction n with
 | zero=>intros;kernel_rfl
 | succ n ih =>
  intro d
  have e0:=funext fun d=>(show Zb N F n (Ms b c a d)=_ from ih d)
  have hK:Zb N F (n+1) (Ms b c a d)=(Vv N (De F) b c a (fun d=>Zb N F n (Ms b c a d)) d):=by kernel_rfl
  exact hK.trans (by rw [e0];rfl)
theorem Bc5 (N:Nat)  (F:KF R) (b:Int) (c:Bool) (a:LA):A5a N F (Zc b c a)=(Ana N (De F) b c a):=by
 have e1:=funext fun d=>(show A48 N F (Ms b c a d)=_ from (Ar ..).trans (Bc4 N F b c a N d))
 have hK:A5a N F (Zc b c a)=(Ag5 N (De F) b c a (fun d=>A48 N F (Ms b c a d))):=by kernel_rfl
 exact hK.trans (by rw [e1];rfl)
theorem Bc6 (N:Nat)  (F:KF R) (b:Int) (c:Bool) (a:LA):A5c N F (Zd b c a)=(Anb N (De F) b c a):=by
 have e1:=(show A49 N F (Zc b c a)=_ from (As ..).trans (Bc5 N F b c a))
 have hK:A5c N F (Zd b c a)=(Ag6 N (De F) b c a (A49 N F (Zc b c a))):=by kernel_rfl
 exact hK.trans (by rw [e1];rfl)
theorem Bc7 (N:Nat)  (F:KF R) (b:Int) (c:Bool) (a:LA):A5e N F (Ze b c a)=(Anc N (De F) b c a):=by
 have e1:=(show A5b N F (Zd b c a)=_ from (As ..).trans (Bc6 N F b c a))
 have hK:A5e N F (Ze b c a)=(Ag7 N (De F) b c a (A5b N F (Zd b c a))):=by kernel_rfl
 exact hK.trans (by rw [e1];rfl)
theorem And (N:Nat) (a:LA) (c:Bool) (b:Int) (F:KF R):Ac Tryz.prog muts (Afj N) Za N 17 [(.pagg a c),(.int .i64 b)] [] F=(Z5 N a c b (De F)):=by
 have e1:=(show A5d N F (Ze b c a)=_ from (As ..).trans (Bc7 N F b c a))
 have hK:Ac Tryz.prog muts (Afj N) Za N 17 [(.pagg a c),(.int .i64 b)] [] F=(A1w N (De F) (A5d N F (Ze b c a)) a c b):=by kernel_rfl
 rw [Ax2]
 exact hK.trans (by rw [e1];rfl)
def Vw (N:Nat) (args:List AV) (h:Aj) (k:KF R):Option R :=
 match args,h with
 | [(.pagg a c),(.int .i64 b)],[]=>(Z5 N a c b (De k))
 | _,_=>none
def Ane (N:Nat):Tw:=⟨Vw N,fun args h k=>by
 unfold Vw;split
 exact twE (And ..) (And ..)
 rfl⟩
theorem A5f (N:Nat):A1 Tryz.prog 17 (Ane N):=fun args h res e hh=>by
 change Vw N args h (fun v e=>some (v,e))=_ at hh
 unfold Vw at hh;split at hh
 exact Aa (T:=Afj N) ⟨Bmj N,Bo3 N,Bc3 N,trivial⟩ follows ((And ..).trans hh)
 cases hh
end
end Gx

namespace Gx
open Go
theorem wrap_u8 (a:Nat):IntKind.wrap .u8 (a:Int)=((a%256:Nat):Int):=by rw [IntKind.wrap_u8];omega
theorem wrap_u32 (a:Nat) (h:a<4294967296):IntKind.wrap .u32 (a:Int)=(a:Int):=IntWalk.u32_in _ (by omega)
theorem Bvf (a:Nat):IntKind.wrap .u32 (a:Int)=((a%4294967296:Nat):Int):=by rw [IntKind.wrap_u32];omega
theorem Bwh (a:Int) (h:-9223372036854775808≤a∧a≤9223372036854775807):IntKind.wrap .i64 a=a:=IntWalk.i64_in _ h
theorem wrap_u64 (a:Nat) (h:a<18446744073709551616):IntKind.wrap .u64 (a:Int)=(a:Int):=IntWalk.u64_in _ (by omega)
theorem Avw (w a:Nat):BitVec.ofInt w (a:Int)=BitVec.ofNat w a:=by simp
theorem Bs6 {k:IntKind} (hs:k.signed=false) {a b:Nat} (ha:a<2 ^ k.bits) (hb:b<2 ^ k.bits):Bsk k a b=((a &&& b:Nat):Int):=by
  unfold Bsk
  rw [Avw,Avw]
  have h1:(BitVec.ofNat k.bits a &&& BitVec.ofNat k.bits b).toNat=a &&& b:=by
    rw [BitVec.toNat_and,BitVec.toNat_ofNat,BitVec.toNat_ofNat,Nat.mod_eq_of_lt ha,Nat.mod_eq_of_lt hb]
  rw [h1]
  have h2:a &&& b<2 ^ k.bits:=Nat.and_lt_two_pow _ hb
  unfold IntKind.wrap
  simp only [hs,Bool.false_and,Bool.false_eq_true,if_false]
  have:(2 ^ k.bits:Int)=((2 ^ k.bits:Nat):Int):=by simp
  rw [this,← Int.natCast_emod,Nat.mod_eq_of_lt h2]
theorem Bmk {k:IntKind} (hs:k.signed=false) {a b:Nat} (ha:a<2 ^ k.bits) (hb:b<2 ^ k.bits):Pa k a b=((a ||| b:Nat):Int):=by
  unfold Pa
  rw [Avw,Avw]
  have h1:(BitVec.ofNat k.bits a ||| BitVec.ofNat k.bits b).toNat=a ||| b:=by
    rw [BitVec.toNat_or,BitVec.toNat_ofNat,BitVec.toNat_ofNat,Nat.mod_eq_of_lt ha,Nat.mod_eq_of_lt hb]
  rw [h1]
  have h2:a ||| b<2 ^ k.bits:=Nat.or_lt_two_pow ha hb
  unfold IntKind.wrap
  simp only [hs,Bool.false_and,Bool.false_eq_true,if_false]
  have:(2 ^ k.bits:Int)=((2 ^ k.bits:Nat):Int):=by simp
  rw [this,← Int.natCast_emod,Nat.mod_eq_of_lt h2]
theorem Rw (a k:Nat):Int.fdiv (a:Int) (2 ^ k)=((a/2 ^ k:Nat):Int):=by
  have:(2 ^ k:Int)=((2 ^ k:Nat):Int):=by simp
  rw [this,Int.fdiv_eq_ediv_of_nonneg (a:Int) (Int.natCast_nonneg (2 ^ k))]
  rfl
theorem Bi {R:Type} {k:IntKind} {n:Int} {r:List AV} {f:Int→Option R}:rdI k (.int k n::r) f=f n:=by simp [rdI,A9k,Ps]
theorem Ah {i n:Nat} (h:i<n):Am (i:Int) n=true:=by simp [Am];omega
end Gx

namespace Gx
def val:List Nat→Nat
  | []=>0
  | x::r=>x+4294967296*val r
def Af (l:List Nat):Prop:=∀ x ∈ l,x<4294967296
def Bq3:Nat→Nat→List Nat
  | 0,_=>[]
  | f+1,n=>if n=0 then [] else n%4294967296::Bq3 f (n/4294967296)
def dig (n:Nat):List Nat:=Bq3 n n
theorem Bt9:∀ (f n:Nat),n≤f→∀ g,n≤g→Bq3 f n=Bq3 g n
  | 0,n,h,g,_=>by
    have:n=0:=by omega
    subst this;cases g<;>simp [Bq3]
  | f+1,n,h,g,hg=>by
    by_cases h0:n=0
    · subst h0;cases g<;>simp [Bq3]
    · cases g with
      | zero=>omega
      | succ g=>simp only [Bq3,h0,if_false];rw [Bt9 f _ (by omega) g (by omega)]
theorem C6:dig 0=[]:=rfl
theorem Anf {n:Nat} (h:n≠0):dig n=n%4294967296::dig (n/4294967296):=by
  unfold dig
  cases n with
  | zero=>omega
  | succ n=>simp only [Bq3,h,if_false];rw [Bt9 n _ (by omega) ((n+1)/4294967296) (by omega)]
theorem Ag:∀ n,val (dig n)=n:=by
  intro n
  induction n using Nat.strongRecOn with
  | _ n ih =>
    by_cases h:n=0
    · subst h;rfl
    · rw [Anf h,val,ih _ (by omega)];omega
theorem Ab:∀ n,Af (dig n):=by
  intro n
  induction n using Nat.strongRecOn with
  | _ n ih =>
    by_cases h:n=0
    · subst h;intro x hx;simp [C6] at hx
    · rw [Anf h];intro x hx
      simp at hx
      rcases hx with rfl | hx
      · omega
      · exact ih _ (by omega) x hx
theorem T2:Af []:=by intro x hx;simp at hx
theorem Cq {x:Nat} {r:List Nat}:Af (x::r)↔x<4294967296∧Af r:=by simp [Af]
theorem A5g {a b:List Nat}:Af (a++b)↔Af a∧Af b:=by simp [Af,or_imp,forall_and]
theorem Bz {a:List Nat} (h:Af a) (n:Nat):Af (a.take n):=fun x hx=>h x (List.mem_of_mem_take hx)
theorem Ang {a:List Nat} (h:Af a) (n:Nat):Af (a.drop n):=fun x hx=>h x (List.mem_of_mem_drop hx)
theorem Az {a:List Nat} (h:Af a) {i:Nat} (hi:i<a.length):a[i]<4294967296:=h _ (List.getElem_mem hi)
theorem B7 {a:List Nat} (h:Af a) {v:Nat} (hv:v<4294967296) (i:Nat):Af (a.set i v):=fun x hx=>by
  rcases List.mem_or_eq_of_mem_set hx with h1 | h1
  · exact h x h1
  · omega
theorem B4 (n:Nat):Af (List.replicate n 0):=fun x hx=>by simp at hx;omega
theorem O4:∀ (a b:List Nat),val (a++b)=val a+4294967296 ^ a.length*val b
  | [],b=>by simp [val]
  | x::r,b=>by
    simp only [List.cons_append,val,List.length_cons,O4 r b,Nat.pow_succ]
    rw [Nat.mul_add,← Nat.add_assoc,← Nat.mul_assoc];congr 2;rw [Nat.mul_comm]
theorem Db:∀ n,val (List.replicate n 0)=0
  | 0=>rfl
  | n+1=>by rw [List.replicate_succ,val,Db n]
theorem Bc:∀ {a:List Nat},Af a→val a<4294967296 ^ a.length
  | [],_=>by simp [val]
  | x::r,h=>by
    have h1:=Cq.1 h
    have h2:=Bc h1.2
    rw [val,List.length_cons,Nat.pow_succ]
    omega
theorem Bs7 (a:List Nat) (x:Nat):val (a++[x])=val a+4294967296 ^ a.length*x:=by rw [O4];simp [val]
theorem A1y {n:Nat} (h:n≠0):dig n≠[]:=by rw [Anf h];simp
theorem Bi0 {n:Nat}:dig n=[]↔n=0:=by
  constructor
  · intro h;by_cases h0:n=0;exact h0;exact absurd h (A1y h0)
  · intro h;rw [h];rfl
theorem Bj {n:Nat}:(dig n).length=0↔n=0:=by rw [List.length_eq_zero_iff,Bi0]
theorem Bh:∀ {l:List Nat},Af l→l=dig (val l)++List.replicate (l.length - (dig (val l)).length) 0∧(dig (val l)).length≤l.length
  | [],_=>by simp [val,C6]
  | x::r,h=>by
    have h1:=Cq.1 h
    obtain ⟨h2,h3⟩:=Bh h1.2
    rw [val]
    by_cases h0:x+4294967296*val r=0
    · have hx:x=0:=by omega
      have hr:val r=0:=by omega
      rw [h0,C6]
      rw [hr,C6] at h2
      simp at h2
      subst hx
      refine ⟨?_,by simp⟩
      rw [List.nil_append,List.length_nil,Nat.sub_zero,List.length_cons,List.replicate_succ,← h2]
    · rw [Anf h0,show (x+4294967296*val r)%4294967296=x by omega,show (x+4294967296*val r)/4294967296=val r by omega]
      refine ⟨?_,by simp;exact h3⟩
      rw [List.cons_append,List.length_cons,List.length_cons,Nat.add_sub_add_right,← h2]
theorem Bi1:∀ (n:Nat) (h:dig n≠[]),(dig n).getLast h≠0:=by
  intro n
  induction n using Nat.strongRecOn with
  | _ n ih =>
    intro h
    have h0:n≠0:=fun e=>h (by rw [e];rfl)
    have e:=Anf h0
    by_cases h1:n/4294967296=0
    · rw [h1,C6] at e
      have:n<4294967296:=by omega
      simp [e];omega
    · have h2:=A1y h1
      have:=ih _ (by omega) h2
      have h3:(dig n).getLast h=(dig (n/4294967296)).getLast h2:=by
        simp only [e];rw [List.getLast_cons h2]
      rw [h3];exact this
theorem By4:∀ {l:List Nat},Af l→(∀ h:l≠[],l.getLast h≠0)→dig (val l)=l:=by
  intro l h hl
  obtain ⟨h1,h2⟩:=Bh h
  by_cases hk:l.length - (dig (val l)).length=0
  · rw [hk] at h1;simpa using h1.symm
  · exfalso
    obtain ⟨k,hk⟩:=Nat.exists_eq_succ_of_ne_zero hk
    rw [hk,List.replicate_succ',← List.append_assoc] at h1
    have hne:l≠[]:=by intro e;rw [e] at h1;simp at h1
    apply hl hne
    have h3:l.getLast?=some 0:=by rw [h1,List.getLast?_append];rfl
    rw [List.getLast?_eq_some_getLast hne] at h3
    simpa using h3
theorem Ch {n k:Nat} (h:n<4294967296 ^ k):(dig n).length≤k:=by
  induction k generalizing n with
  | zero => have : n = 0 := by simpa using h
            subst this;simp [C6]
  | succ k ih =>
    by_cases h0:n=0
    · subst h0;simp [C6]
    · rw [Anf h0,List.length_cons]
      have:n/4294967296<4294967296 ^ k:=by
        rw [Nat.pow_succ] at h
        exact Nat.div_lt_of_lt_mul (by rw [Nat.mul_comm];exact h)
      have:=ih this
      omega
theorem Bp {a b:Nat} (h:a≤b):(dig a).length≤(dig b).length:=by
  apply Ch
  have:=Bc (Ab b)
  rw [Ag] at this
  omega
end Gx

namespace Gx
theorem Bml {U V U3 V2 P d:Nat} (hV:V2*P≤V) (hU:U<(U3+1)*P) (h:U3<d*V2) (hv:0<V):U/V<d:=by
  rw [Nat.div_lt_iff_lt_mul hv]
  have h1:(U3+1)*P≤d*V2*P:=Nat.mul_le_mul_right _ h
  have h2:d*(V2*P)≤d*V:=Nat.mul_le_mul_left _ hV
  rw [← Nat.mul_assoc] at h2
  omega
theorem Bmm {U V U3 V2 P d:Nat} (hV:V<(V2+1)*P) (hU:U3*P≤U) (h:d*V2≤U3) (hd:d≤V2+1) (hv:0<V):d≤U/V+1:=by
  cases d with
  | zero=>exact Nat.zero_le _
  | succ d =>
    have:d≤U/V:=by
      rw [Nat.le_div_iff_mul_le hv]
      have h1:(d+1)*V2*P≤U3*P:=Nat.mul_le_mul_right _ h
      have h2:d*V≤d*((V2+1)*P):=Nat.mul_le_mul_left _ (by omega)
      have h3:d*((V2+1)*P)≤(d+1)*V2*P:=by
        rw [← Nat.mul_assoc]
        apply Nat.mul_le_mul_right
        rw [Nat.mul_add,Nat.add_mul];omega
      omega
    omega
theorem Bq4 {a b u v s t x y:Nat} (hx:x+v*b=u*a) (hy:y+s*a=t*b) (hdet:u*t=v*s+1):Nat.gcd x y=Nat.gcd a b:=by
  have e1:t*x+v*y=a:=by
    have h1:t*x+t*v*b=t*u*a:=by rw [← Nat.mul_assoc t u a |>.symm,Nat.mul_assoc t v b,← Nat.mul_add,hx]
    have h2:v*y+v*s*a=v*t*b:=by rw [Nat.mul_assoc,Nat.mul_assoc,← Nat.mul_add,hy]
    have h3:t*u*a=v*s*a+a:=by rw [Nat.mul_comm t u,hdet,Nat.add_mul,Nat.one_mul]
    have h4:t*v*b=v*t*b:=by rw [Nat.mul_comm t v]
    omega
  have e2:s*x+u*y=b:=by
    have h1:s*x+s*v*b=s*u*a:=by rw [Nat.mul_assoc,Nat.mul_assoc,← Nat.mul_add,hx]
    have h2:u*y+u*s*a=u*t*b:=by rw [Nat.mul_assoc,Nat.mul_assoc,← Nat.mul_add,hy]
    have h3:u*t*b=v*s*b+b:=by rw [hdet,Nat.add_mul,Nat.one_mul]
    have h4:s*u*a=u*s*a:=by rw [Nat.mul_comm s u]
    have h5:s*v*b=v*s*b:=by rw [Nat.mul_comm s v]
    omega
  apply Nat.dvd_antisymm
  · apply Nat.dvd_gcd
    · rw [← e1];exact Nat.dvd_add (Nat.dvd_mul_left_of_dvd (Nat.gcd_dvd_left x y) t) (Nat.dvd_mul_left_of_dvd (Nat.gcd_dvd_right x y) v)
    · rw [← e2];exact Nat.dvd_add (Nat.dvd_mul_left_of_dvd (Nat.gcd_dvd_left x y) s) (Nat.dvd_mul_left_of_dvd (Nat.gcd_dvd_right x y) u)
  · apply Nat.dvd_gcd
    · have h1:Nat.gcd a b∣x+v*b:=by rw [hx];exact Nat.dvd_mul_left_of_dvd (Nat.gcd_dvd_left a b) u
      exact (Nat.dvd_add_left (Nat.dvd_mul_left_of_dvd (Nat.gcd_dvd_right a b) v)).1 h1
    · have h1:Nat.gcd a b∣y+s*a:=by rw [hy];exact Nat.dvd_mul_left_of_dvd (Nat.gcd_dvd_right a b) t
      exact (Nat.dvd_add_left (Nat.dvd_mul_left_of_dvd (Nat.gcd_dvd_left a b) s)).1 h1
theorem Afk {a b x y P u v w:Nat} (ha:x*P≤a) (hb:b<(y+1)*P) (hw:u*x=w+v*y) (hv:v≤w):v*b≤u*a:=by
  have h1:u*(x*P)≤u*a:=Nat.mul_le_mul_left _ ha
  have h2:v*b≤v*((y+1)*P):=Nat.mul_le_mul_left _ (by omega)
  have h3:v*((y+1)*P)≤u*(x*P):=by
    rw [← Nat.mul_assoc,← Nat.mul_assoc]
    apply Nat.mul_le_mul_right
    rw [hw,Nat.mul_add];omega
  omega
end Gx

namespace Gx
open Go
section
variable {R:Type}
def Ad (l:List Nat):List AV:=l.map fun n:Nat=>.int .u32 (n:Int)
theorem Z6 (x:Nat) (l:List Nat):Ad (x::l)=.int .u32 (x:Int)::Ad l:=rfl
theorem Bk (l:List Nat):(Ad l).length=l.length:=by simp [Ad]
theorem Bvg (l:List Nat) (n:Nat):(Ad l).drop n=Ad (l.drop n):=by simp [Ad,List.map_drop]
theorem T3 (l:List Nat) (n:Nat):(Ad l).take n=Ad (l.take n):=by simp [Ad,List.map_take]
theorem A5h (l:List Nat) (j:Nat) (v:Nat):List.set (Ad l) j (.int .u32 (v:Int))=Ad (l.set j v):=by simp [Ad,List.map_set]
theorem Ci (n:Nat):List.replicate n (AV.int .u32 0)=Ad (List.replicate n 0):=by simp [Ad]
theorem Bq5 {l:List Nat} {i:Nat} (h:i<l.length) {f:Int→Option R}:rdI .u32 (List.drop i (Ad l)) f=f (l[i]:Nat):=by
  rw [Bvg,List.drop_eq_getElem_cons h,Z6,Bi]
theorem Afl:∀ l:List Nat,Bv (Ad l)=true
  | []=>rfl
  | x::r=>by rw [Z6,Bv];exact Afl r
theorem Aiq (a b:Nat):(a:Int)+(b:Int)=((a+b:Nat):Int):=by omega
theorem Bi2 (a b:Nat):(a:Int)*(b:Int)=((a*b:Nat):Int):=by simp
theorem w64 {a:Nat} (h:a<18446744073709551616):IntKind.wrap .u64 (a:Int)=(a:Int):=wrap_u64 a h
theorem w32 {a:Nat} (h:a<4294967296):IntKind.wrap .u32 (a:Int)=(a:Int):=wrap_u32 a h
theorem A1z (a:Nat):IntKind.wrap .u32 (a:Int)=((a%4294967296:Nat):Int):=Bvf a
theorem A10 (a:Int):IntKind.wrap .u64 a=a%18446744073709551616:=IntKind.wrap_u64 a
theorem A82 {a b:Nat} (ha:a<18446744073709551616) (hb:b≤a):IntKind.wrap .u64 ((a:Int) - (b:Int))=((a - b:Nat):Int):=by rw [A10];omega
theorem Bwi {a b:Nat} (h:a<b) (hb:b≤18446744073709551616):IntKind.wrap .u64 ((a:Int) - (b:Int))=((18446744073709551616+a - b:Nat):Int):=by rw [A10];omega
theorem A83 (a:Nat):Int.fdiv (a:Int) (2 ^ 32)=((a/4294967296:Nat):Int):=Rw a 32
theorem Bzo (a:Nat):Int.fdiv (a:Int) (2 ^ 63)=((a/9223372036854775808:Nat):Int):=Rw a 63
theorem i64 {a:Int} (h:-9223372036854775808≤a∧a≤9223372036854775807):IntKind.wrap .i64 a=a:=Bwh a h
theorem Bs8 {a b:Nat} (ha:a<18446744073709551616) (hb:b<18446744073709551616):Pa .u64 (a:Int) (b:Int)=((a ||| b:Nat):Int):=Bmk rfl ha hb
theorem A84 {a b k:Nat} (h:b<2 ^ k):a*2 ^ k ||| b=a*2 ^ k+b:=by
  rw [← Nat.shiftLeft_eq,Nat.shiftLeft_add_eq_or_of_lt h]
end
end Gx

namespace Gx
open Go Go.Proofs
section
variable {R:Type}
def fit (k N:Nat):Prop:=100*k+1000≤N∧k≤1000000000
theorem fit.le {j k N:Nat} (h:fit k N) (hj:j≤k):fit j N:=⟨by have:=h.1;omega,by have:=h.2;omega⟩
theorem ct (x y:Option R):cond true x y=x:=rfl
theorem cf (x y:Option R):cond false x y=y:=rfl
theorem ctB (x y:Bool):cond true x y=x:=rfl
theorem cfB (x y:Bool):cond false x y=y:=rfl
theorem Bs9 (c:Nat):((decide (((c+1:Nat):Int)>(0:Int)))==true)=true:=by simp
theorem ltT {j n:Nat} (h:j<n):decide ((j:Int)<(n:Int))=true:=by simp;omega
theorem ltF {j n:Nat} (h:n≤j):decide ((j:Int)<(n:Int))=false:=by simp;omega
theorem wS {j:Nat} (h:j≤1000000000000):IntKind.wrap .i64 ((j:Int)+1)=((j+1:Nat):Int):=by rw [i64 (by omega)];omega
theorem wP {j:Nat} (h:j≤1000000000000):IntKind.wrap .i64 (((j+1:Nat):Int) - 1)=(j:Int):=by rw [i64 (by omega)];omega
theorem wA {j k:Nat} (h:j+k≤1000000000000):IntKind.wrap .i64 ((j:Int)+(k:Int))=((j+k:Nat):Int):=by rw [i64 (by omega)];omega
theorem rdl {l:List Nat} {j:Nat} (h:j<l.length) {f:Int→Option R}:rdI .u32 (List.drop ((Int.toNat (j:Int))*1) (Ad l)) f=f (l[j]:Nat):=by
  rw [Int.toNat_natCast,Nat.mul_one,Bq5 h]
theorem A5i {l:List Nat} {j:Nat} (h:j<l.length) {f:Int→Option R}:rdI .u32 (List.drop (0+((Int.toNat (j:Int))*1)) (Ad l)) f=f (l[j]:Nat):=by
  rw [Nat.zero_add,rdl h]
theorem sl0 {c a:Nat} (h:c≤a):((decide ((0:Int)≤(0:Int)))&&((decide ((0:Int)≤(c:Int)))&&((decide ((c:Int)≤(a:Int)))&&(decide ((a:Int)≤(a:Int))))))=true:=by
  simp;omega
theorem mk4 {n:Nat} (h:n≤1000000000000):((decide ((0:Int)≤(n:Int)))&&((decide ((n:Int)≤(n:Int)))&&((decide ((n:Int)≤(140737488355328:Int)))&&(decide (((n:Int)*((4:Nat):Int))≤(140737488355328:Int))))))=true:=by
  simp;omega
theorem st1 {x:Nat} {m:List Nat} (h:x<m.length):((Nat.beq 1 1)&&((Nat.ble ((0+((Int.toNat (x:Int))*1))+1) (List.length (Ad m)))&&(!false)))=true:=by
  rw [Bk,Int.toNat_natCast];simp;omega
theorem Atm {x v:Nat} {m:List Nat}:List.set (Ad m) (0+((Int.toNat (x:Int))*1)) (.int .u32 (v:Int))=Ad (m.set x v):=by
  rw [Int.toNat_natCast,Nat.mul_one,Nat.zero_add,A5h]
theorem Bq6 {l:List Nat} (h:Af l):l.take (dig (val l)).length=dig (val l):=by
  obtain ⟨h1,h2⟩:=Bh h
  rw [congrArg (List.take (dig (val l)).length) h1,List.take_left]
theorem J7 {l:List Nat} (h:Af l):List.take ((dig (val l)).length*1) (Ad l)=Ad (dig (val l)):=by rw [Nat.mul_one,T3,Bq6 h]
theorem Au {l:List Nat} {c:Nat} (h:c<l.length):val (l.take (c+1))=val (l.take c)+4294967296 ^ c*l[c]:=by
  rw [List.take_succ_eq_append_getElem h,Bs7,List.length_take,Nat.min_eq_left (by omega)]
theorem Bo4 {l:List Nat} {c:Nat} (hl:Af l) (h:c<l.length) (h0:l[c]≠0):dig (val (l.take (c+1)))=l.take (c+1):=by
  apply By4 (Bz hl _)
  intro hne
  rw [List.getLast_eq_getElem]
  simp only [List.length_take,Nat.min_eq_left (show c+1≤l.length by omega),Nat.add_sub_cancel,List.getElem_take]
  exact h0
theorem Bi3 {N:Nat} {l:List Nat} {K:Nat→Option R} (hl:Af l) (hs:l.length≤1000000000000):∀ (c fuel:Nat),c≤l.length→c<fuel →
    Zp N K l.length (Ad l) fuel (c:Int)=K (dig (val (l.take c))).length
  | 0,fuel+1,hc,_=>by
    rw [Zp];unfold Akb
    rw [show decide (((0:Nat):Int)>0)=false by simp]
    rw [show ((false:Bool)==true)=false by rfl,cf,sl0 (by omega),ct,Int.toNat_natCast];rfl
  | c+1,fuel+1,hc,hf=>by
    rw [Zp];unfold Akb
    rw [Bs9,ct,wP (by omega),Ah (by omega),ct,A5i (by omega),ctB,sl0 (by omega),ct,Bi3 hl hs c fuel (by omega) (by omega),Int.toNat_natCast]
    by_cases h0:l[c]=0
    · rw [Au (by omega),h0];simp
    · rw [Bo4 hl (by omega) h0,List.length_take,Nat.min_eq_left hc]
      rw [show (((l[c]:Nat):Int)==0)=false by simp;exact h0,cf]
theorem Air {N:Nat} {l:List Nat} {n:Nat} {K:Nat→Option R} (hn:n=l.length) (hl:Af l) (hf:fit l.length N):Wu N n (Ad l) K=K (dig (val l)).length:=by
  subst hn
  have h1:=hf.1;have h2:=hf.2
  rw [Azg];unfold Bdi Bdh
  dsimp only
  rw [Bi3 hl (by omega) l.length N (Nat.le_refl _) (by omega),List.take_length]
theorem Bmn {N:Nat} {l:List Nat} {t o:Bool} {K:LA→Nat→Option R} (hl:Af l) (hs:l.length≤1000000000000):∀ (c fuel:Nat),c≤l.length→c<fuel →
    Lz N K (Ad l) l.length t o fuel (c:Int)=K (Ad (dig (val (l.take c)))) (dig (val (l.take c))).length
  | 0,fuel+1,hc,_=>by
    rw [Lz];unfold Us
    rw [show decide (((0:Nat):Int)>0)=false by simp]
    rw [show ((false:Bool)==true)=false by rfl,cf,sl0 (by omega),ct,Int.toNat_natCast];rfl
  | c+1,fuel+1,hc,hf=>by
    rw [Lz];unfold Us
    rw [Bs9,ct,wP (by omega),Ah (by omega),ct,rdl (by omega),ctB,sl0 (by omega),ct,Bmn hl hs c fuel (by omega) (by omega),Int.toNat_natCast,Nat.mul_one,T3]
    by_cases h0:l[c]=0
    · rw [Au (by omega),h0];simp
    · rw [Bo4 hl (by omega) h0,List.length_take,Nat.min_eq_left hc]
      rw [show (((l[c]:Nat):Int)==0)=false by simp;exact h0,cf]
theorem Bt {N:Nat} {l:List Nat} {n:Nat} {t o:Bool} {K:LA→Nat→Option R} (hn:n=l.length) (hl:Af l) (hf:fit l.length N):By N (Ad l) n t o K=K (Ad (dig (val l))) (dig (val l)).length:=by
  subst hn
  have h1:=hf.1;have h2:=hf.2
  rw [Aw0];unfold Azk Azj
  dsimp only
  rw [Bmn hl (by omega) l.length N (Nat.le_refl _) (by omega),List.take_length]
theorem Bvh {N:Nat} {K:LA→Option R} (hN:1≤N):Ahz N K=K []:=by
  rw [Aw2];unfold Azm Azl
  cases N with
  | zero=>omega
  | succ N=>rw [Yh];rfl
end
end Gx

namespace Gx
open Go Go.RowKit
theorem Bvi {P:Program} {f:Nat} {t:Tw} (hok:A1 P f t) {W:World} {avs:List AV} {vs:List Value} (hr:Reps (fun _ k=>k<W.heap.size) (fun _=>none) [] W avs vs)
    (hrun:(t.runK avs [] fun v h=>some (v,h))=some (.bool true,[])):Calls P f vs.toArray W fun e w'=>e=.returned (.bool true)∧Below W.heap.size W w':=by
  have S:SimH (fun _ k=>k<W.heap.size) (fun _=>none) [] W:=⟨fun _ _ h=>h,fun _ h=>h,fun b x hb=>by simp [Al] at hb,fun b x hb=>by simp [Al] at hb,fun b b' x x' k o o' hb=>by simp [Al] at hb⟩
  refine Calls.mono (hok avs [] _ _ hrun _ _ W vs S hr) ?_
  rintro e w' ⟨vc,J',β',rfl,F,hv⟩
  rw [Rep] at hv;subst hv
  refine ⟨rfl,F.os,F.tape,F.output,F.size,fun k hk=>F.frame k hk ?_⟩
  rintro ⟨b,x,o,hb,_⟩
  change Al [] b=some x at hb
  simp [Al] at hb
structure Opens (P:Program) (t:TypeId) {α:Type} (e:α→List AV) (n:Nat):Prop where
  size:P.cellsOf t=n
  pos:0<n
  len:∀ a,(e a).length=n
  read:∀ {H:Type} (enc:TypeId×Value→H) (W:World) (fuel:Nat) (cs:List Value) (d:DataW H) (ps:List MemPlace),DataW.trod enc P W 0 (fun _=>true) true fuel t cs=some (d,ps) →
    cs.length=n∧∃ a,RepCs (fun k=>k<W.heap.size) W (e a) (fun j=>cs[j]?) 0
theorem Bmo {P:Program} {t:TypeId} {k:IntKind} (hu:P.underlying t=some (.int k)) (hc:P.cellsOf t=1):Opens P t (α:={ n:Int // (Lit.int k n).wf=true }) (fun n=>[.int k n.1]) 1:=by
  refine ⟨hc,by omega,fun _=>rfl,fun enc W fuel cs d ps h=>?_⟩
  obtain ⟨n,rfl,_,hw⟩:=DataW.trod_int hu h
  exact ⟨rfl,⟨n,hw⟩,by simp [RepCs,RepC]⟩
theorem Bta {P:Program} {t:TypeId} (hu:P.underlying t=some .bool) (hc:P.cellsOf t=1):Opens P t (α:=Bool) (fun b=>[.bool b]) 1:=by
  refine ⟨hc,by omega,fun _=>rfl,fun enc W fuel cs d ps h=>?_⟩
  obtain ⟨b,rfl,_⟩:=DataW.trod_bool hu h
  exact ⟨rfl,b,by simp [RepCs,RepC]⟩
theorem Bca {α β:Type} {e:α→List β} {n:Nat} (hn:0<n) (he:∀ a,(e a).length=n):∀ (l:List α) (j:Nat),(l.flatMap e)[j]?=(l[j/n]?).bind fun a=>(e a)[j%n]?
  | [],j=>by simp
  | a::r,j=>by
    rw [List.flatMap_cons]
    by_cases hj:j<n
    · rw [List.getElem?_append_left (by rw [he];exact hj),Nat.div_eq_of_lt hj,Nat.mod_eq_of_lt hj];simp
    · rw [List.getElem?_append_right (by rw [he];omega),he,Bca hn he r (j - n)]
      have h1:j/n=(j - n)/n+1:=by
        have:=Nat.add_div_right (j - n) hn
        rw [show j - n+n=j by omega] at this;exact this
      have h2:j%n=(j - n)%n:=by
        have:=Nat.add_mod_right (j - n) n
        rw [show j - n+n=j by omega] at this;exact this
      rw [h1,h2];simp
theorem Bcb {α β:Type} {e:α→List β} {n:Nat} (he:∀ a,(e a).length=n):∀ (l:List α),(l.flatMap e).length=l.length*n
  | []=>by simp
  | a::r=>by rw [List.flatMap_cons,List.length_append,he,Bcb he r,List.length_cons,Nat.succ_mul];omega
theorem Bq7 {α β:Type} {f:α→Option β}:∀ {l:List α} {r:List β},l.mapM f=some r→r.length=l.length∧∀ (i:Nat) (a:α),l[i]?=some a→f a=r[i]?
  | [],r,h=>by simp at h;subst h;simp
  | x::l,r,h=>by
    rw [List.mapM_cons] at h
    cases hx:f x with
    | none=>simp [hx] at h
    | some y =>
      cases hl:l.mapM f with
      | none=>simp [hx,hl] at h
      | some ys =>
        simp [hx,hl] at h
        subst h
        obtain ⟨h1,h2⟩:=Bq7 hl
        refine ⟨by simp [h1],fun i a hi=>?_⟩
        cases i with
        | zero=>simp at hi;subst hi;simpa using hx
        | succ i=>simpa using h2 i a (by simpa using hi)
theorem Atn {P:Program} {t el:TypeId} {α:Type} {e:α→List AV} {n:Nat} (hu:P.underlying t=some (.slice el)) (hc:P.cellsOf t=1) (he:Opens P el e n) :
    Opens P t (α:={ l:List α // l.length≤maxLen }) (fun l=>[.imm (l.1.flatMap e) l.1.length n false false]) 1:=by
  refine ⟨hc,by omega,fun _=>rfl,fun enc W fuel cs d ps h=>?_⟩
  cases fuel with
  | zero=>simp [DataW.trod] at h
  | succ fuel =>
    unfold DataW.trod at h
    simp only [hu] at h
    split at h
    all_goals first | (rename_i hx;simp at hx;done) | (rename_i hx _;simp at hx;done) | (rename_i hx _ _;simp at hx;done) | skip
    · refine ⟨rfl,⟨[],by simp⟩,?_⟩
      simp [RepCs,RepC]
    · rename_i e' a len cap hx
      simp at hx;subst hx
      split at h
      · rename_i hcond
        obtain ⟨hb,hlc,hcm⟩:=hcond
        refine ⟨rfl,?_⟩
        cases hm:(List.range len).mapM (fun i=>(W.cells? 0 (a.add (i*P.cellsOf el)) (P.cellsOf el)).bind (DataW.trod enc P W 0 (fun _=>true) true fuel el)) with
        | none=>rw [hm] at h;simp at h
        | some Bkw =>
          obtain ⟨h1,h2⟩:=Bq7 hm
          rw [he.size] at h2
          have each:∀ i:Nat,i<len→∃ x:α,∃ cs,W.cells? 0 (a.add (i*n)) n=some cs∧RepCs (fun k=>k<W.heap.size) W (e x) (fun j=>cs[j]?) 0:=by
            intro i hi
            have h3:=h2 i i (by simp [hi])
            rw [List.getElem?_eq_getElem (by rw [h1];simpa using hi)] at h3
            cases hcs:W.cells? 0 (a.add (i*n)) n with
            | none=>rw [hcs] at h3;simp at h3
            | some cs =>
              rw [hcs] at h3
              obtain ⟨_,x,hx⟩:=he.read enc W fuel cs _ _ h3
              exact ⟨x,cs,rfl,hx⟩
          have build:∀ m,m≤len→∃ l:List α,l.length=m∧∀ i x,l[i]?=some x→∃ cs,W.cells? 0 (a.add (i*n)) n=some cs∧RepCs (fun k=>k<W.heap.size) W (e x) (fun j=>cs[j]?) 0:=by
            intro m
            induction m with
            | zero=>intro _;exact ⟨[],rfl,by simp⟩
            | succ m ih =>
              intro hm
              obtain ⟨l,hl,hl2⟩:=ih (by omega)
              obtain ⟨x,cs,hx1,hx2⟩:=each m (by omega)
              refine ⟨l++[x],by simp [hl],fun i y hy=>?_⟩
              rw [List.getElem?_append] at hy
              split at hy
              · exact hl2 i y hy
              · have : i = m := by
                  have:=(List.getElem?_eq_some_iff.1 hy).1
                  simp at this;omega
                subst this
                simp [hl] at hy;subst hy
                exact ⟨cs,hx1,hx2⟩
          obtain ⟨l,hl,hl2⟩:=build len (Nat.le_refl _)
          refine ⟨⟨l,by omega⟩,?_⟩
          simp only [RepCs,RepC,and_true]
          refine ⟨_,rfl,?_,some a,cap,by rw [hl],by omega,by simp,?_⟩
          · exact Bcb he.len l
          · by_cases h0:l.length=0
            · exact .inl h0
            · right
              refine ⟨a,rfl,?_,?_⟩
              · obtain ⟨x,cs,hx,_⟩:=each 0 (by omega)
                have:=World.cells?_block hx he.pos
                rwa [Sc] at this
              · rw [B6]
                intro j x hj
                rw [Bca he.pos he.len] at hj
                cases hq:l[j/n]? with
                | none=>rw [hq] at hj;simp at hj
                | some y =>
                  rw [hq] at hj
                  simp at hj
                  obtain ⟨cs,hcs,hrep⟩:=hl2 (j/n) y hq
                  rw [B6] at hrep
                  obtain ⟨u,hu1,hu2⟩:=hrep (j%n) x hj
                  refine ⟨u,?_,hu2⟩
                  obtain ⟨_,hlen,hcell⟩:=World.cells?_some hcs
                  have hlt:j%n<n:=Nat.mod_lt _ he.pos
                  have:=hcell (j%n) hlt
                  rw [Addr.add_add,show j/n*n+j%n=j by rw [Nat.mul_comm];exact Nat.div_add_mod j n] at this
                  simp only [Nat.zero_add] at hu1 ⊢
                  rw [this];exact hu1
      · simp at h
    · simp at h
end Gx

namespace Gx
open Go Go.RowKit
section
variable {P:Program} {W:World} {H:Type} {enc:TypeId×Value→H} {β:Cb} {h:Aj}
theorem Bua {k:IntKind} {n:Int}:Rep (fun _ k=>k<W.heap.size) β h W (.int k n) (.int k n):=by rw [Rep]
theorem Bwj {b:Bool}:Rep (fun _ k=>k<W.heap.size) β h W (.bool b) (.bool b):=by rw [Rep]
theorem Bwk:Reps (fun _ k=>k<W.heap.size) β h W [] []:=by rw [Reps]
theorem Ais {x:AV} {xs:List AV} {v:Value} {vs:List Value} (h1:Rep (fun _ k=>k<W.heap.size) β h W x v) (h2:Reps (fun _ k=>k<W.heap.size) β h W xs vs):Reps (fun _ k=>k<W.heap.size) β h W (x::xs) (v::vs):=by
  rw [Reps];exact ⟨v,vs,rfl,h1,h2⟩
end
end Gx

namespace Gx
open Go Go.RowKit
section
variable {P:Program} {W:World} {H:Type} {enc:TypeId×Value→H} {β:Cb} {h:Aj}
theorem Bq8 {t:TypeId} {α:Type} {e:α→List AV} {n:Nat} {cs:Array Value} {d:DataW H} {p:List MemPlace} (he:Opens P t e n)
    (hd:DataW.Trod enc P W 0 (fun _=>true) true t (.agg cs) d p):∃ a:α,Rep (fun _ k=>k<W.heap.size) β h W (.pagg (e a) false) (.agg cs):=by
  obtain ⟨fuel,hf⟩:=hd
  obtain ⟨hl,a,hr⟩:=he.read enc W fuel _ _ _ hf
  refine ⟨a,?_⟩
  rw [Rep]
  exact ⟨cs.toList,rfl,by rw [he.len];exact hl,hr⟩
end
end Gx

namespace Gx
open Go Go.Proofs
inductive Sl (α:Type) where
  | nil
  | of (l:List α) (t o:Bool)
def Sl.l {α:Type}:Sl α→List α
  | .nil=>[]
  | .of l _ _=>l
def Sl.av {α:Type} (sz:Nat) (e:α→List AV):Sl α→AV
  | .nil=>.nsl
  | .of l t o=>.imm (l.flatMap e) l.length sz t o
def Bxy (n:Int):List AV:=[.int .i64 n]
def G6 (l:List Int):List AV:=l.map fun n=>.int .i64 n
theorem Avx:∀ l:List Int,l.flatMap Bxy=G6 l
  | []=>rfl
  | a::r=>by rw [List.flatMap_cons,Avx r];rfl
theorem Bcc (l:List Int):(G6 l).length=l.length:=by simp [G6]
structure SegD where
  width:Int
  price:Int
structure UnitD where
  name:List UInt8
  bus:Int
  min:Int
  max:Int
  segs:Sl SegD
  noLoad:Int
  rampUp:Int
  rampDown:Int
  startRamp:Int
  stopRamp:Int
  upTime:Int
  downTime:Int
  startTime:Int
  hotCost:Int
  coldCost:Int
  hotHours:Int
  reserve:Int
  reservePrice:Int
  away:Sl Int
  state:Int
  hours:Int
  output:Int
def SegD.av (s:SegD):List AV:=[.int .i64 s.width,.int .i64 s.price]
def UnitD.av (u:UnitD):List AV:=[.str u.name,.int .i64 u.bus,.int .i64 u.min,.int .i64 u.max,u.segs.av 2 SegD.av,.int .i64 u.noLoad,.int .i64 u.rampUp,.int .i64 u.rampDown,.int .i64 u.startRamp,.int .i64 u.stopRamp,.int .i64 u.upTime,.int .i64 u.downTime,.int .i64 u.startTime,.int .i64 u.hotCost,.int .i64 u.coldCost,.int .i64 u.hotHours,.int .i64 u.reserve,.int .i64 u.reservePrice,u.away.av 1 Bxy,.int .i64 u.state,.int .i64 u.hours,.int .i64 u.output]
section
variable {R:Type}
theorem Bwl {α:Type} {sz:Nat} {e:α→List AV} {s:Sl α} {r:List AV} {f:List AV→Nat→Option R}:rdL sz (s.av sz e::r) f=f (s.l.flatMap e) s.l.length:=by
  cases s<;>simp [rdL,Sl.av,Sl.l,Bv0]
theorem A85 {α:Type} {e:α→List AV} {sz:Nat} (he:∀ a,(e a).length=sz):∀ (l:List α) (j:Nat) (h:j<l.length),List.drop (j*sz) (l.flatMap e)=e l[j]++(l.drop (j+1)).flatMap e
  | a::r,0,_=>by simp
  | a::r,j+1,h=>by
    have:=A85 he r j (by simpa using h)
    rw [List.flatMap_cons,List.drop_append,he,show (j+1)*sz - sz=j*sz by rw [Nat.add_mul];omega,List.drop_eq_nil_of_le (by rw [he,Nat.add_mul];omega)]
    simpa using this
theorem Bwm {l:List Int} {i:Nat} (h:i<l.length) {f:Int→Option R}:rdI .i64 (List.drop i (G6 l)) f=f l[i]:=by
  rw [G6,List.drop_eq_getElem_cons (by simpa using h)];simp [Bi]
theorem Wn {l:List Int} {i:Nat} (h:i<l.length) {f:Int→Option R}:rdI .i64 (List.drop ((Int.toNat (i:Int))*1) (G6 l)) f=f l[i]:=by
  rw [Int.toNat_natCast,Nat.mul_one,Bwm h]
theorem Ax3 {α:Type} {l:List α} {j:Nat} (h:j<l.length):l.drop j=l[j]::l.drop (j+1):=List.drop_eq_getElem_cons h
theorem Ax4 {α:Type} {l:List α} {j:Nat} (h:l.length≤j):l.drop j=[]:=List.drop_eq_nil_of_le h
theorem cK {α:Type} (K:α→Option R) (c:Bool) (a b:α):cond c (K a) (K b)=K (cond c a b):=by cases c<;>rfl
theorem O5 (u:UnitD):List.take 22 u.av=u.av:=rfl
theorem Acu (u:UnitD):Nat.ble 22 (List.length u.av)=true:=rfl
theorem u2 {u:UnitD} {f:Int→Option R}:rdI .i64 (List.drop 2 u.av) f=f u.min:=Bi
theorem u3 {u:UnitD} {f:Int→Option R}:rdI .i64 (List.drop 3 u.av) f=f u.max:=Bi
theorem u5 {u:UnitD} {f:Int→Option R}:rdI .i64 (List.drop 5 u.av) f=f u.noLoad:=Bi
theorem u6 {u:UnitD} {f:Int→Option R}:rdI .i64 (List.drop 6 u.av) f=f u.rampUp:=Bi
theorem u7 {u:UnitD} {f:Int→Option R}:rdI .i64 (List.drop 7 u.av) f=f u.rampDown:=Bi
theorem u8 {u:UnitD} {f:Int→Option R}:rdI .i64 (List.drop 8 u.av) f=f u.startRamp:=Bi
theorem u9 {u:UnitD} {f:Int→Option R}:rdI .i64 (List.drop 9 u.av) f=f u.stopRamp:=Bi
theorem u10 {u:UnitD} {f:Int→Option R}:rdI .i64 (List.drop 10 u.av) f=f u.upTime:=Bi
theorem u11 {u:UnitD} {f:Int→Option R}:rdI .i64 (List.drop 11 u.av) f=f u.downTime:=Bi
theorem u12 {u:UnitD} {f:Int→Option R}:rdI .i64 (List.drop 12 u.av) f=f u.startTime:=Bi
theorem u13 {u:UnitD} {f:Int→Option R}:rdI .i64 (List.drop 13 u.av) f=f u.hotCost:=Bi
theorem u14 {u:UnitD} {f:Int→Option R}:rdI .i64 (List.drop 14 u.av) f=f u.coldCost:=Bi
theorem u15 {u:UnitD} {f:Int→Option R}:rdI .i64 (List.drop 15 u.av) f=f u.hotHours:=Bi
theorem u16 {u:UnitD} {f:Int→Option R}:rdI .i64 (List.drop 16 u.av) f=f u.reserve:=Bi
theorem u17 {u:UnitD} {f:Int→Option R}:rdI .i64 (List.drop 17 u.av) f=f u.reservePrice:=Bi
theorem u19 {u:UnitD} {f:Int→Option R}:rdI .i64 (List.drop 19 u.av) f=f u.state:=Bi
theorem u20 {u:UnitD} {f:Int→Option R}:rdI .i64 (List.drop 20 u.av) f=f u.hours:=Bi
theorem u21 {u:UnitD} {f:Int→Option R}:rdI .i64 (List.drop 21 u.av) f=f u.output:=Bi
theorem u4 {u:UnitD} {f:List AV→Nat→Option R}:rdL 2 (List.drop 4 u.av) f=f (u.segs.l.flatMap SegD.av) u.segs.l.length:=Bwl
theorem u18 {u:UnitD} {f:List AV→Nat→Option R}:rdL 1 (List.drop 18 u.av) f=f (G6 u.away.l) u.away.l.length:=by rw [← Avx];exact Bwl
def inR (lo hi x:Int):Bool:=decide (lo≤x)&&decide (x≤hi)
theorem A5j {N:Nat} {b c:Int} {e f:Bool} {K:Bool→Option R} (l:List Int) (hs:l.length≤1000000000000):∀ (m j fuel:Nat),j+m=l.length→m<fuel →
    J4 N K b c (G6 l) l.length e f fuel (l.length:Int) (j:Int)=K ((l.drop j).all (inR b c))
  | 0,j,fuel+1,hj,_=>by
    rw [J4];unfold Qz
    rw [ltF (by omega),cf,Ax4 (by omega),List.all_nil]
  | m+1,j,fuel+1,hj,hf=>by
    rw [J4];unfold Qz
    have h:j<l.length:=by omega
    rw [ltT h,ct,Ah h,ct,Wn h,wS (by omega),A5j l hs m (j+1) fuel (by omega) (by omega),Ax3 h,List.all_cons]
    simp only [cK];congr 1
    generalize (List.drop (j+1) l).all (inR b c)=t
    rw [Bool.eq_iff_iff];cases t<;>simp [inR]<;>omega
theorem Zf {N:Nat} {b c:Int} {e f:Bool} {K:Bool→Option R} (l:List Int) (n:Nat) (hn:n=l.length) (hN:l.length<N) (hs:l.length≤1000000000000):Co N b c (G6 l) n e f K=K (l.all (inR b c)):=by
  subst hn
  rw [Asf];unfold Ase Asd
  have:=A5j (N:=N) (b:=b) (c:=c) (e:=e) (f:=f) (K:=K) l hs l.length 0 N (by omega) hN
  simpa using this
theorem Avy {N:Nat} {a b c:Int} {K:Bool→Option R}:H7 N a b c K=K (inR b c a):=by
  rw [Biy];unfold Bo2 Bo1
  simp only [cK];congr 1
  rw [Bool.eq_iff_iff];simp [inR]
def A86 (u:UnitD):Bool:=inR 0 24 u.upTime&&(inR 0 24 u.downTime&&(inR 0 24 u.startTime&&(inR 0 24 u.hotHours&&((u.state==0||(u.state==1||u.state==2))&&(inR 1 48 u.hours&&(!(u.state==1)||decide (u.hours≤u.startTime)))))))
theorem A87 {N:Nat} {u:UnitD} {b:Bool} {K:Bool→Option R}:Aex N K b u.av=K (inR 1 48 u.hours&&(!(u.state==1)||decide (u.hours≤u.startTime))):=by
  unfold Aex Ame
  simp only [u20,u19,u12,cK];congr 1
  rw [Bool.eq_iff_iff];simp [inR];omega
theorem A88 {N n:Nat} {u:UnitD} {d e f g:Int} {b:Bool} {K:Bool→Option R}:Wh N K d e f g b u.av (n+5) 0 =
    K (inR 0 24 d&&(inR 0 24 e&&(inR 0 24 f&&(inR 0 24 g&&((u.state==0||(u.state==1||u.state==2))&&(inR 1 48 u.hours&&(!(u.state==1)||decide (u.hours≤u.startTime)))))))):=by
  have a1:IntKind.wrap .i64 ((0:Int)+1)=1:=by decide
  have a2:IntKind.wrap .i64 ((1:Int)+1)=2:=by decide
  have a3:IntKind.wrap .i64 ((2:Int)+1)=3:=by decide
  have a4:IntKind.wrap .i64 ((3:Int)+1)=4:=by decide
  simp only [Wh,Amf,A87,a1,a2,a3,a4,u19]
  simp [Am,cK];congr 1
  generalize (decide (u.hours≤u.startTime))=t
  generalize inR 1 48 u.hours=s
  by_cases h0:u.state=0<;>by_cases h1:u.state=1<;>by_cases h2:u.state=2<;>first | omega | skip
  all_goals (rw [Bool.eq_iff_iff];cases s<;>cases t<;>simp [inR,h0,h1,h2]<;>omega)
theorem Ax5 {N:Nat} {u:UnitD} {b:Bool} {K:Bool→Option R} (hN:64≤N):Nq N u.av b K=K (A86 u):=by
  rw [A4l];unfold A8p A8o
  obtain ⟨n,rfl⟩:∃ n,N=n+5:=⟨N - 5,by omega⟩
  simp only [u10,u11,u12,u15,A88];rfl
end
end Gx

namespace Gx
open Go Go.Proofs
section
variable {R:Type}
theorem Bi4 {N:Nat} {u:UnitD} {b:Bool} {K:Bool→Option R}:Aio N u.av b K=K (A86 u):=by
  rw [Ax1];unfold A1u A1t Am8 Ag2
  simp only [u10,u11,u12,u15,u19,u20]
  simp [cK];congr 1
  unfold A86
  by_cases h0:u.state=0<;>by_cases h1:u.state=1<;>by_cases h2:u.state=2<;>first | omega | skip
  all_goals (rw [Bool.eq_iff_iff];simp [inR,h0,h1,h2]<;>omega)
theorem in1 {N:Nat} {b c x:Int} {e f:Bool} {K:Bool→Option R} (hN:64≤N):Co N b c [(.int .i64 x)] 1 e f K=K (inR b c x):=by
  have:=Zf (N:=N) (b:=b) (c:=c) (e:=e) (f:=f) (K:=K) [x] 1 rfl (by simp;omega) (by simp)
  simpa [G6] using this
theorem in2 {N:Nat} {b c x y:Int} {e f:Bool} {K:Bool→Option R} (hN:64≤N):Co N b c [(.int .i64 x),(.int .i64 y)] 2 e f K=K (inR b c x&&inR b c y):=by
  have:=Zf (N:=N) (b:=b) (c:=c) (e:=e) (f:=f) (K:=K) [x,y] 2 rfl (by simp;omega) (by simp)
  simpa [G6] using this
theorem in4 {N:Nat} {b c x y z w:Int} {e f:Bool} {K:Bool→Option R} (hN:64≤N):Co N b c [(.int .i64 x),(.int .i64 y),(.int .i64 z),(.int .i64 w)] 4 e f K=K (inR b c x&&(inR b c y&&(inR b c z&&inR b c w))):=by
  have:=Zf (N:=N) (b:=b) (c:=c) (e:=e) (f:=f) (K:=K) [x,y,z,w] 4 rfl (by simp;omega) (by simp)
  simpa [G6] using this
theorem in5 {N:Nat} {b c x y z w v:Int} {e f:Bool} {K:Bool→Option R} (hN:64≤N):Co N b c [(.int .i64 x),(.int .i64 y),(.int .i64 z),(.int .i64 w),(.int .i64 v)] 5 e f K=K (inR b c x&&(inR b c y&&(inR b c z&&(inR b c w&&inR b c v)))):=by
  have:=Zf (N:=N) (b:=b) (c:=c) (e:=e) (f:=f) (K:=K) [x,y,z,w,v] 5 rfl (by simp;omega) (by simp)
  simpa [G6] using this
def Acv (p:Int):List SegD→Bool
  | []=>true
  | s::r=>inR 1 1048576 s.width&&(inR (-1048576) 1048576 s.price&&(decide (p≤s.price)&&Acv s.price r))
def A89:List SegD→Int
  | []=>0
  | s::r=>s.width+A89 r
def Bcd (l:List SegD):Nat→Int
  | 0=>-1048576
  | j+1=>((l[j]?).map (·.price)).getD 0
theorem Anh {l:List SegD} {j:Nat} (h:j<l.length):Bcd l (j+1)=l[j].price:=by simp [Bcd,h]
theorem Ag8 {l:List SegD} {j:Nat} (h:j<l.length):List.drop ((Int.toNat (j:Int))*2) (l.flatMap SegD.av)=(.int .i64 l[j].width)::(.int .i64 l[j].price)::(l.drop (j+1)).flatMap SegD.av:=by
  rw [Int.toNat_natCast,A85 (e:=SegD.av) (sz:=2) (fun _=>rfl) _ _ h];rfl
theorem A11 {x y:Int} {f:Int→Option R}:rdI .i64 (setCells [(.int .i64 0),(.int .i64 0)] 0 [(.int .i64 x),(.int .i64 y)]) f=f x:=rfl
theorem Afm {x y:Int} {f:Int→Option R}:rdI .i64 (List.drop 1 (setCells [(.int .i64 0),(.int .i64 0)] 0 [(.int .i64 x),(.int .i64 y)])) f=f y:=rfl
theorem Bce:∀ {l:List SegD} {p:Int},Acv p l=true→0≤A89 l
  | [],_,_=>by simp [A89]
  | s::r,p,h=>by
    simp [Acv,inR] at h
    have:=Bce h.2.2.2
    simp [A89];omega
theorem Bub {N:Nat} {u:UnitD} {b:Bool} {K:Bool→Option R} (hN:64≤N) (h2:0≤u.min∧u.min≤1048576) (h3:0≤u.max∧u.max≤1048576) (hl:u.segs.l.length≤8):∀ (m j fuel:Nat) (g:Int),j+m=u.segs.l.length→m<fuel→(0≤g∧g≤1048576*(j:Int)) →
    B8 N K (u.segs.l.flatMap SegD.av) u.segs.l.length b u.av fuel g (u.segs.l.length:Int) (j:Int)=K (Acv (Bcd u.segs.l j) (u.segs.l.drop j)&&(g+A89 (u.segs.l.drop j)==u.max - u.min))
  | 0,j,fuel+1,g,hj,_,_=>by
    rw [B8];unfold Gq
    rw [ltF (by omega),cf,u3,u2,i64 (by omega),Ax4 (l:=u.segs.l) (by omega)]
    simp [Acv,A89]
  | m+1,j,fuel+1,g,hj,hf,hg=>by
    rw [B8];unfold Gq
    have h:j<u.segs.l.length:=by omega
    rw [ltT h,ct,Ah h,ct,Ag8 h]
    have p0:List.take 2 ((AV.int .i64 u.segs.l[j].width)::(AV.int .i64 u.segs.l[j].price)::(u.segs.l.drop (j+1)).flatMap SegD.av)=[(.int .i64 u.segs.l[j].width),(.int .i64 u.segs.l[j].price)]:=rfl
    rw [p0,show Nat.ble 2 (List.length ((AV.int .i64 u.segs.l[j].width)::(AV.int .i64 u.segs.l[j].price)::(u.segs.l.drop (j+1)).flatMap SegD.av))=true by simp,ct]
    rw [show ((!b)||Bv [(AV.int .i64 u.segs.l[j].width),(.int .i64 u.segs.l[j].price)])=true by cases b<;>rfl,ct]
    rw [show ((Nat.beq (List.length [(AV.int .i64 u.segs.l[j].width),(.int .i64 u.segs.l[j].price)]) 2)&&((Nat.ble 2 2)&&(!false)))=true from rfl,ct,A11,Afm,in1 hN]
    simp only [in1 hN]
    rw [Ax3 h,Acv,A89]
    cases hw:inR 1 1048576 u.segs.l[j].width with
    | false=>simp
    | true =>
      cases hp:inR (-1048576) 1048576 u.segs.l[j].price with
      | false=>simp
      | true =>
        simp only [inR,Bool.and_eq_true,decide_eq_true_eq] at hw hp
        have step:=Bub (b:=b) (K:=K) hN h2 h3 hl m (j+1) fuel (g+u.segs.l[j].width) (by omega) (by omega) (by omega)
        rw [Anh h] at step
        have e1:IntKind.wrap .i64 (g+u.segs.l[j].width)=g+u.segs.l[j].width:=i64 (by omega)
        have e2:IntKind.wrap .i64 ((j:Int)+1)=((j+1:Nat):Int):=wS (by omega)
        unfold Hd Lb
        simp only [u4,Afm,A11,e1,e2,step]
        rcases j with _ | j
        · simp [Bcd,hp.1,Int.add_assoc]
        · have hj':j<u.segs.l.length:=by omega
          rw [wP (by omega),Ah hj',ct,Ag8 hj',Bs9,ct]
          rw [show ∀ r:List AV,List.drop 1 ((AV.int .i64 u.segs.l[j].width)::(AV.int .i64 u.segs.l[j].price)::r)=(AV.int .i64 u.segs.l[j].price)::r from fun _=>rfl,Bi,Anh hj']
          simp only [Bool.not_true,beq_self_eq_true,cK,Int.add_assoc,Bool.true_and]
          simp only [cond_true,cond_false]
          congr 1
          by_cases hlt:u.segs.l[j+1].price<u.segs.l[j].price
          · simp [hlt,show ¬ u.segs.l[j].price≤u.segs.l[j+1].price by omega]
          · simp [hlt,show u.segs.l[j].price≤u.segs.l[j+1].price by omega]
def Bcf (u:UnitD):Bool:=decide (u.segs.l.length≤8)&&(Acv (-1048576) u.segs.l&&(A89 u.segs.l==u.max - u.min))
theorem Bxz {N:Nat} {u:UnitD} {b:Bool} {K:Bool→Option R} (hN:64≤N) (h2:0≤u.min∧u.min≤1048576) (h3:0≤u.max∧u.max≤1048576):Fj N u.av b K=K (Bcf u):=by
  rw [Wj];unfold Q5 Q4
  rw [u4]
  by_cases hl:u.segs.l.length≤8
  · rw [show decide ((u.segs.l.length:Int)>8)=false by simp;omega,cf,u4]
    have:=Bub (b:=b) (K:=K) hN h2 h3 hl u.segs.l.length 0 N 0 (by omega) (by omega) (by omega)
    simpa [Bcf,hl,Bcd] using this
  · rw [show decide ((u.segs.l.length:Int)>8)=true by simp;omega,ct]
    simp [Bcf,hl]
end
end Gx

namespace Gx
open Go Go.Proofs
section
variable {R:Type}
theorem Buc {N:Nat} {u:UnitD} {b:Bool} {K:Bool→Option R} (hl:u.segs.l.length≤8):∀ (m j fuel:Nat) (d:Int),j+m=u.segs.l.length→m<fuel→(0≤d∧d≤1048576) →
    Em N K b u.av fuel d (j:Int)=K (Acv (Bcd u.segs.l j) (u.segs.l.drop j)&&(A89 (u.segs.l.drop j)==d))
  | 0,j,fuel+1,d,hj,_,_=>by
    rw [Em];unfold Mp
    rw [u4,ltF (by omega),cf,Ax4 (l:=u.segs.l) (by omega)]
    congr 1
    rw [Bool.eq_iff_iff];simp [Acv,A89];omega
  | m+1,j,fuel+1,d,hj,hf,hd=>by
    rw [Em];unfold Mp
    have h:j<u.segs.l.length:=by omega
    rw [u4,ltT h,ct,u4,Ah h,ct,Ag8 h]
    have p0:List.take 2 ((AV.int .i64 u.segs.l[j].width)::(AV.int .i64 u.segs.l[j].price)::(u.segs.l.drop (j+1)).flatMap SegD.av)=[(.int .i64 u.segs.l[j].width),(.int .i64 u.segs.l[j].price)]:=rfl
    rw [p0,show Nat.ble 2 (List.length ((AV.int .i64 u.segs.l[j].width)::(AV.int .i64 u.segs.l[j].price)::(u.segs.l.drop (j+1)).flatMap SegD.av))=true by simp,ct]
    rw [show ((!b)||Bv [(AV.int .i64 u.segs.l[j].width),(.int .i64 u.segs.l[j].price)])=true by cases b<;>rfl,ct]
    rw [show ((Nat.beq (List.length [(AV.int .i64 u.segs.l[j].width),(.int .i64 u.segs.l[j].price)]) 2)&&((Nat.ble 2 2)&&(!false)))=true from rfl,ct]
    simp only [A11,Afm,Avy,u4]
    rw [Ax3 h,Acv,A89]
    cases hw:inR 1 1048576 u.segs.l[j].width with
    | false=>simp
    | true =>
      cases hp:inR (-1048576) 1048576 u.segs.l[j].price with
      | false=>simp
      | true =>
        simp only [inR,Bool.and_eq_true,decide_eq_true_eq] at hw hp
        have e2:IntKind.wrap .i64 ((j:Int)+1)=((j+1:Nat):Int):=wS (by omega)
        have key:(cond (cond false true (decide (u.segs.l[j].width>d))) (K false) (Em N K b u.av fuel (IntKind.wrap .i64 (d - u.segs.l[j].width)) (IntKind.wrap .i64 ((j:Int)+1))))=K (Acv u.segs.l[j].price (u.segs.l.drop (j+1))&&(u.segs.l[j].width+A89 (u.segs.l.drop (j+1))==d)):=by
          by_cases hgt:u.segs.l[j].width>d
          · rw [show decide (u.segs.l[j].width>d)=true by simpa using hgt]
            simp only [cond_true,cond_false]
            congr 1
            cases hs:Acv u.segs.l[j].price (u.segs.l.drop (j+1)) with
            | false=>rfl
            | true =>
              have:=Bce hs
              symm;simp;omega
          · rw [show decide (u.segs.l[j].width>d)=false by simpa using hgt]
            simp only [cond_false]
            have e1:IntKind.wrap .i64 (d - u.segs.l[j].width)=d - u.segs.l[j].width:=i64 (by omega)
            rw [e1,e2,Buc hl m (j+1) fuel _ (by omega) (by omega) (by omega),Anh h]
            congr 1
            rw [Bool.eq_iff_iff];simp;omega
        rw [key]
        rcases j with _ | j
        · simp [Bcd,hp.1]
        · have hj':j<u.segs.l.length:=by omega
          rw [wP (by omega),Ah hj',ct,Ag8 hj',Bs9,ct]
          rw [show ∀ r:List AV,List.drop 1 ((AV.int .i64 u.segs.l[j].width)::(AV.int .i64 u.segs.l[j].price)::r)=(AV.int .i64 u.segs.l[j].price)::r from fun _=>rfl,Bi,Anh hj']
          by_cases hlt:u.segs.l[j+1].price<u.segs.l[j].price
          · simp [hlt,show ¬ u.segs.l[j].price≤u.segs.l[j+1].price by omega]
          · simp [hlt,show u.segs.l[j].price≤u.segs.l[j+1].price by omega]
theorem Bx0 {N:Nat} {u:UnitD} {b:Bool} {K:Bool→Option R} (hN:64≤N) (h2:0≤u.min∧u.min≤u.max) (h3:u.max≤1048576):Rt N u.av b K=K (Bcf u):=by
  rw [Aip];unfold Ag4 Ag3
  rw [u4]
  by_cases hl:u.segs.l.length≤8
  · rw [show decide ((u.segs.l.length:Int)>8)=false by simp;omega,cf,u3,u2,i64 (by omega)]
    have:=Buc (b:=b) (N:=N) (K:=K) hl u.segs.l.length 0 N (u.max - u.min) (by omega) (by omega) (by omega)
    simpa [Bcf,hl,Bcd] using this
  · rw [show decide ((u.segs.l.length:Int)>8)=true by simp;omega,ct]
    simp [Bcf,hl]
def Ani (hi p:Int):List Int→Bool
  | []=>true
  | x::r=>inR 0 hi x&&(decide (p<x)&&Ani hi x r)
def Bcg (l:List Int):Nat→Int
  | 0=>-1
  | j+1=>(l[j]?).getD 0
theorem Anj {l:List Int} {j:Nat} (h:j<l.length):Bcg l (j+1)=l[j]:=by simp [Bcg,h]
theorem Bud {N:Nat} {l:List Int} {e e':Bool} {f hi:Int} {K:Bool→Option R} (hN:64≤N) (hl:l.length≤1000000000000) (hf:IntKind.wrap .i64 (f - 1)=hi):∀ (m j fuel:Nat),j+m=l.length→m<fuel →
    Gh N K (G6 l) l.length e e' f fuel (l.length:Int) (j:Int)=K (Ani hi (Bcg l j) (l.drop j))
  | 0,j,fuel+1,hj,_=>by
    rw [Gh];unfold Mj
    rw [ltF (by omega),cf,Ax4 (l:=l) (by omega),Ani]
  | m+1,j,fuel+1,hj,hfu=>by
    rw [Gh];unfold Mj
    have h:j<l.length:=by omega
    rw [ltT h,ct,Ah h,ct,Wn h,in1 hN,hf,wS (by omega),Bud hN hl hf m (j+1) fuel (by omega) (by omega),Ax3 h,Ani,Anj h]
    cases hw:inR 0 hi l[j] with
    | false=>simp
    | true =>
      simp only [inR,Bool.and_eq_true,decide_eq_true_eq] at hw
      rcases j with _ | j
      · simp [Bcg,show (-1:Int)<l[0] by omega]
      · have hj':j<l.length:=by omega
        rw [wP (by omega),Ah hj',ct,Wn hj',Bs9,ct,Anj hj']
        by_cases hlt:l[j]<l[j+1]
        · simp [hlt,show ¬ l[j+1]≤l[j] by omega]
        · simp [hlt,show l[j+1]≤l[j] by omega]
theorem Bx1 {N:Nat} {l:List Int} {n:Nat} {e e':Bool} {f hi:Int} {K:Bool→Option R} (hN:64≤N) (hl:l.length≤1000000000000) (hln:l.length<N) (hn:n=l.length) (hf:IntKind.wrap .i64 (f - 1)=hi):Mk N (G6 l) n e e' f K=K (Ani hi (-1) l):=by
  subst hn
  rw [Ain];unfold Agu Agt
  have:=Bud (N:=N) (e:=e) (e':=e') (K:=K) hN hl hf l.length 0 N (by omega) hln
  simpa [Bcg] using this
def By5 (u:UnitD):Bool:=cond (u.state==2) (inR u.min u.max u.output) (u.output==0)
theorem Bq9 {N:Nat} {u:UnitD} {c:Bool} {f hi:Int} {K:Bool→Option R} (hl:u.away.l.length≤1000000000000) (hf:IntKind.wrap .i64 (f - 1)=hi):∀ (m j fuel:Nat),j+m=u.away.l.length→m<fuel →
    Mr N K f c u.av fuel (j:Int)=K (Ani hi (Bcg u.away.l j) (u.away.l.drop j)&&By5 u)
  | 0,j,fuel+1,hj,_=>by
    rw [Mr];unfold Vv
    rw [u18,ltF (by omega),cf,Ax4 (l:=u.away.l) (by omega),Ani]
    simp only [u19,u21,u2,u3,Avy,cK];rfl
  | m+1,j,fuel+1,hj,hfu=>by
    rw [Mr];unfold Vv
    have h:j<u.away.l.length:=by omega
    rw [u18,ltT h,ct,u18,Ah h,ct,Wn h,Avy,hf,wS (by omega),Bq9 hl hf m (j+1) fuel (by omega) (by omega),Ax3 h,Ani,Anj h]
    cases hw:inR 0 hi u.away.l[j] with
    | false=>simp
    | true =>
      simp only [inR,Bool.and_eq_true,decide_eq_true_eq] at hw
      rcases j with _ | j
      · simp [Bcg,show (-1:Int)<u.away.l[0] by omega]
      · have hj':j<u.away.l.length:=by omega
        rw [u18,Ah h,ct,Wn h,u18,wP (by omega),Ah hj',ct,Wn hj',Bs9,ct,Anj hj']
        by_cases hlt:u.away.l[j]<u.away.l[j+1]
        · simp [hlt,show ¬ u.away.l[j+1]≤u.away.l[j] by omega]
        · simp [hlt,show u.away.l[j+1]≤u.away.l[j] by omega]
def J9 (u:UnitD) (hours:Int):Bool :=
  inR 1 24 hours&&(A86 u&&(inR 0 1048576 u.min&&(inR 0 1048576 u.max&&(inR 0 1048576 u.rampUp&&(inR 0 1048576 u.rampDown&&(inR 0 1048576 u.reserve&&(decide (u.min≤u.max)&&(inR u.min u.max u.startRamp&&(inR u.min u.max u.stopRamp &&
  (inR 0 1048576 u.noLoad&&(inR 0 1048576 u.hotCost&&(inR 0 1048576 u.coldCost&&(inR 0 1048576 u.reservePrice&&(By5 u&&(Bcf u&&Ani (hours - 1) (-1) u.away.l)))))))))))))))
theorem Ag9 {N:Nat} {u:UnitD} {b:Bool} {hours:Int} {K:Bool→Option R} (hN:64≤N) (hl:u.away.l.length≤1000000000000) (hln:u.away.l.length<N):Ab9 N u.av b hours K=K (J9 u hours):=by
  rw [A4m];unfold A8s A8r
  rw [in1 hN]
  unfold J9
  cases h0:inR 1 24 hours with
  | false=>simp
  | true =>
    have hh:1≤hours∧hours≤24:=by simpa [inR] using h0
    rw [O5,Acu,ct,Ax5 hN]
    cases A86 u with
    | false=>simp
    | true =>
      unfold Asj Amk
      simp only [u2,u3,u6,u7,u16,in5 hN]
      cases h1:inR 0 1048576 u.min with
      | false=>simp
      | true =>
        cases h2:inR 0 1048576 u.max with
        | false=>simp
        | true =>
          unfold Asi Amj
          simp only [inR,Bool.and_eq_true,decide_eq_true_eq] at h1 h2
          simp only [u2,u3,u5,u8,u9,u13,u14,u17,u19,u21,u18,O5,Acu,in2 hN,in4 hN,in1 hN,ct,Bxz hN h1 h2,Bx1 hN hl hln rfl (i64 (a:=hours - 1) (by omega))]
          simp [cK];congr 1
          unfold By5
          by_cases hs:u.state=2
          · rw [Bool.eq_iff_iff];simp [hs];grind
          · rw [Bool.eq_iff_iff];simp [hs];grind
theorem Ato {N:Nat} {u:UnitD} {b:Bool} {hours:Int} {K:Bool→Option R} (hN:64≤N) (hl:u.away.l.length≤1000000000000) (hln:u.away.l.length<N):Z5 N u.av b hours K=K (J9 u hours):=by
  rw [Ax2];unfold A1x A1w
  rw [Avy]
  unfold J9
  cases h0:inR 1 24 hours with
  | false=>simp
  | true =>
    have hh:1≤hours∧hours≤24:=by simpa [inR] using h0
    rw [O5,Acu,ct,Bi4]
    cases A86 u with
    | false=>simp
    | true =>
      simp only [u2,u3,Avy]
      cases h1:inR 0 1048576 u.min with
      | false=>simp
      | true =>
        simp only [inR,Bool.and_eq_true,decide_eq_true_eq] at h1
        by_cases h2:u.min≤u.max∧u.max≤1048576
        · have h2':inR 0 1048576 u.max=true:=by simp [inR];omega
          have h2'':inR u.min 1048576 u.max=true:=by simp [inR];omega
          unfold Anc Ag7 Anb Ag6 Ana Ag5
          have hv:=Bq9 (u:=u) (N:=N) (c:=b) (K:=K) hl (i64 (a:=hours - 1) (by omega)) u.away.l.length 0 N (by omega) hln
          simp only [Bcg,List.drop_zero,Int.natCast_zero] at hv
          simp only [u2,u3,u5,u6,u7,u8,u9,u13,u14,u16,u17,Avy,ct,hv,Bx0 hN ⟨h1.1,h2.1⟩ h2.2,h2',h2'']
          simp [cK,h2.1];congr 1
          rw [Bool.eq_iff_iff];simp;grind
        · have h2'':inR u.min 1048576 u.max=false:=by simp [inR];omega
          simp only [h2'']
          have:(inR 0 1048576 u.max&&decide (u.min≤u.max))=false:=by simp [inR];omega
          simp;congr 1;symm
          cases h3:inR 0 1048576 u.max with
          | false=>rfl
          | true =>
            rw [h3] at this
            simp at this
            simp;intro _ _ _ h5;omega
end
end Gx

namespace Gx
open Go Go.Proofs
section
variable {R:Type}
theorem Bi5 {v n:Int} (hn:0<n):Int.tmod (Int.tmod v n+n) n=v%n:=by
  have h1:0≤Int.tmod v n+n:=by
    have:=Int.lt_tmod_of_pos v hn;omega
  rw [Int.tmod_eq_emod_of_nonneg h1,Int.tmod_def,show v - n*v.tdiv n+n=v+n*(1 - v.tdiv n) by rw [Int.mul_sub];omega,Int.add_mul_emod_self_left]
theorem Bmp {v n:Int} (hn:0<n) (h2:n≤4611686018427387904):IntKind.wrap .i64 (Int.tmod v n+n)=Int.tmod v n+n:=by
  have h1:=Int.lt_tmod_of_pos v hn
  have h3:=Int.tmod_lt_of_pos v hn
  exact i64 (by omega)
theorem Bc8 {N:Nat} {v n:Int} {K:Int→Option R} (hn:0<n) (h2:n≤4611686018427387904):Aw N v n K=K (v%n):=by
  rw [Axo];unfold A1d A1c
  rw [Bmp hn h2,Bi5 hn,show (n==0)=false by simp;omega,cf,cf]
theorem Bo5 {N:Nat} {v n:Int} {K:Int→Option R} (hn:0<n) (h2:n≤4611686018427387904):Fi N v n K=K (v%n):=by
  rw [Axp];unfold A1f A1e
  rw [Bmp hn h2,Bi5 hn,show (n==0)=false by simp;omega,cf,cf]
theorem sz8 {j:Nat} (h:j≤1000000000000):((Nat.ble (j+1) 140737488355328)&&(Nat.ble ((j+1)*8) 140737488355328))=true:=by
  rw [Bool.and_eq_true,Nat.ble_eq,Nat.ble_eq];omega
theorem Bz1 {j:Nat} (h:j≤1000000000000):((Nat.ble (j+1) 140737488355328)&&(Nat.ble ((j+1)*16) 140737488355328))=true:=by
  rw [Bool.and_eq_true,Nat.ble_eq,Nat.ble_eq];omega
theorem Bmq (l:List Int) (v:Int):List.take (l.length*1) (G6 l)++[(.int .i64 v)]=G6 (l++[v]):=by
  rw [Nat.mul_one,← Bcc l,List.take_length];simp [G6]
theorem bt:((true:Bool)==true)=true:=rfl
theorem bf:((false:Bool)==true)=false:=rfl
section near24
variable {N:Nat} {X:Option R} {r0:Int→Int→Int→Int→Nat→Int→Int→LA→Option R} {a:List UInt8} {b c d:Int} {e:LA} {f:Nat} {g i:Bool} {j l m o p q r t u w:Int} {z aa:Bool} {aw:List Int}
theorem Bra {ac ad af ae ab ag:Int} (hX:∀ l:List Int,l.length≤4→r0 ac ad af ae l.length ab ag (G6 l)=X):∀ (k fuel:Nat) (s:List Int),s.length+k=4→k<fuel →
    Ii N r0 a b c d e f g i j l m o p ac ad af q r ae t u (G6 aw) aw.length z aa ab ag w fuel s.length (s.length:Int) (G6 s)=X
  | k,0,s,hk,hf=>by omega
  | k,fuel+1,s,hk,hf=>by
    rw [Ii];unfold Al5
    by_cases h:s.length<aw.length
    · rw [ltT h,bt,ct,ctB]
      by_cases h4:s.length<4
      · rw [show decide ((s.length:Int)<4)=true by simp;omega,ct]
        unfold Aen Al4
        dsimp only
        rw [Ah h,ct,Wn h,Bo5 (by omega) (by omega),sz8 (by omega),ct,Bmq,wS (by omega)]
        have:=Bra (ac:=ac) (ad:=ad) (af:=af) (ae:=ae) (ab:=ab) (ag:=ag) hX (k - 1) fuel (s++[aw[s.length]%12]) (by simp;omega) (by omega)
        simpa using this
      · rw [show decide ((s.length:Int)<4)=false by simp;omega,cf]
        exact hX s (by omega)
    · rw [ltF (by omega),bf,cf]
      exact hX s (by omega)
theorem Brb {an ao ap aq ar au:Int} (hN:64≤N) (hX:∀ (up dn st hot:Int) (l:List Int) (sta hrs:Int),l.length≤4→r0 up dn st hot l.length sta hrs (G6 l)=X) :
    Ar6 N a b c d e f g i j l m o p an ao ap q r aq t u (G6 aw) aw.length z aa ar au w r0=X:=by
  rw [A4h];unfold A8i A8h Ar5 Al6
  have go:∀ ac ad ae ab af ag:Int,Ii N r0 a b c d e f g i j l m o p ac ad af q r ae t u (G6 aw) aw.length z aa ab ag w N 0 0 []=X:=by
    intro ac ad ae ab af ag
    exact Bra (fun l hl=>hX _ _ _ _ l _ _ hl) 4 N [] (by simp) (by omega)
  rw [Bo5 (by omega) (by omega),Bo5 (by omega) (by omega),Bo5 (by omega) (by omega),Bo5 (by omega) (by omega),Bo5 (by omega) (by omega),Bo5 (by omega) (by omega)]
  simp only [go]
  have h3:=Int.emod_nonneg ap (show (3:Int)≠0 by omega)
  have h4:=Int.emod_lt_of_pos ap (show (0:Int)<3 by omega)
  by_cases hs:ar%3=1
  · rw [show (ar%3==1)=true by simpa using hs,ct]
    by_cases h0:ap%3=0
    · rw [show (ap%3==0)=true by simpa using h0,ct,Bo5 (by omega) (by omega)]
    · rw [show (ap%3==0)=false by simpa using h0,cf,Bo5 (by omega) (by omega)]
  · rw [show (ar%3==1)=false by simpa using hs,cf]
end near24
end
end Gx

namespace Gx
open Go Go.Proofs
section
variable {R:Type}
theorem Bue {N:Nat} {X:Option R} {K:Bool→Option R} {l:List Int} {d e:Bool} {c:Int} (hl:l.length≤1000000000000) (hX:∀ b,K b=X):∀ (m j fuel:Nat),j+m=l.length→m<fuel→Z2 N K (G6 l) l.length d e c fuel (j:Int)=X
  | 0,j,fuel+1,hj,_=>by
    rw [Z2];unfold Al8
    rw [ltF (by omega),cf];exact hX _
  | m+1,j,fuel+1,hj,hf=>by
    rw [Z2];unfold Al8
    have h:j<l.length:=by omega
    rw [ltT h,ct,Ah h,ct,Wn h,wS (by omega),Bue hl hX m (j+1) fuel (by omega) (by omega),hX]
    cases (l[j]==c)<;>rfl
theorem Bzp {N:Nat} {X:Option R} {K:Bool→Option R} {l:List Int} {d e:Bool} {c:Int} (hl:l.length≤1000000000000) (hN:l.length<N) (hX:∀ b,K b=X):Bh0 N (G6 l) l.length d e c K=X:=by
  rw [Bh1];unfold Bow Bov
  exact Bue hl hX l.length 0 N (by omega) hN
theorem Brc (l:List Int):List.take (l.length*1) (G6 l)=G6 l:=by rw [Nat.mul_one,← Bcc l,List.take_length]
theorem Bwn (s:List SegD):(s.flatMap SegD.av).length=s.length*2:=by
  induction s with
  | nil=>rfl
  | cons a r ih=>rw [List.flatMap_cons,List.length_append,ih];simp [SegD.av];omega
theorem Brd (s:List SegD):List.take (s.length*2) (s.flatMap SegD.av)=s.flatMap SegD.av:=by rw [← Bwn,List.take_length]
theorem Bvj (s:List SegD) (w p:Int):List.take (s.length*2) (s.flatMap SegD.av)++[(.int .i64 w),(.int .i64 p)]=(s++[SegD.mk w p]).flatMap SegD.av:=by
  rw [Brd];simp [SegD.av]
theorem By6 {l:List SegD} {j:Nat} (h:j<l.length) {f:Int→Option R}:rdI .i64 (List.drop ((0+((Int.toNat (j:Int))*2))+1) (l.flatMap SegD.av)) f=f l[j].price:=by
  rw [Nat.zero_add,← List.drop_drop,Ag8 h];exact Bi
theorem Bdp (v:Int) {n:Int} (h:0<n):0≤v%n∧v%n<n:=⟨Int.emod_nonneg v (by omega),Int.emod_lt_of_pos v h⟩
section near25
variable {N:Nat} {X:Option R} {r0:Int→Int→Int→Int→Nat→Int→Int→LA→Option R} {r1:Int→Int→Nat→Int→Int→Int→Int→Int→Int→Int→Int→Int→Int→Int→Int→Int→Nat→Int→Int→Int→LA→LA→Option R}
  {a:List UInt8} {b:Int} {r t:Bool} {e f g i j y z aa l m ab o p x ac q u w:Int} {ad:Nat} {ae:LA} {sg:List SegD}
theorem Bwo {af:Int} (hN:64≤N) (h0:0≤af∧af<20)
    (hX:∀ (mx:Int) (s:List SegD) (nl ru rd sr sp hc cc rs rp out:Int),af≤mx→mx≤af+60→s.length≤3→r1 af mx s.length nl ru rd sr sp y z aa hc cc ab rs rp ad x ac out (s.flatMap SegD.av) ae=X) :
    ∀ (k fuel:Nat) (s:List SegD) (mx:Int),s.length+k=3→k<fuel→(af≤mx∧mx≤af+20*(s.length:Int)) →
    Ik N r0 r1 a b af (sg.flatMap SegD.av) sg.length r t e f g i j y z aa l m ab o p ad x ac q ae u w fuel s.length (s.length:Int) mx (s.flatMap SegD.av)=X
  | k,0,s,mx,hk,hf,_=>by omega
  | k,fuel+1,s,mx,hk,hf,hm=>by
    have fin:(Aw N f 25 (fun bo=>(Aw N g 25 (fun bp=>(Aw N i (IntKind.wrap .i64 ((IntKind.wrap .i64 (mx - af))+(1:Int))) (fun bq=>(Aw N j (IntKind.wrap .i64 ((IntKind.wrap .i64 (mx - af))+(1:Int))) (fun br=>(Aw N e 30 (fun bs=>(Aw N l 50 (fun bt=>(Aw N m 90 (fun bu=>(Aw N p 4 (fun bv=>(Aw N o 12 (fun bw=>(cond (x==(2:Int)) (Aw N q (IntKind.wrap .i64 ((IntKind.wrap .i64 (mx - af))+(1:Int))) (fun cl=>(r1 af mx s.length bs (IntKind.wrap .i64 ((1:Int)+bo)) (IntKind.wrap .i64 ((1:Int)+bp)) (IntKind.wrap .i64 (af+bq)) (IntKind.wrap .i64 (af+br)) y z aa bt bu ab bw bv ad x ac (IntKind.wrap .i64 (af+cl)) (s.flatMap SegD.av) ae))) (r1 af mx s.length bs (IntKind.wrap .i64 ((1:Int)+bo)) (IntKind.wrap .i64 ((1:Int)+bp)) (IntKind.wrap .i64 (af+bq)) (IntKind.wrap .i64 (af+br)) y z aa bt bu ab bw bv ad x ac 0 (s.flatMap SegD.av) ae))))))))))))))))))))=X:=by
      have e1:IntKind.wrap .i64 ((IntKind.wrap .i64 (mx - af))+(1:Int))=mx - af+1:=by rw [i64 (a:=mx - af) (by omega),i64 (by omega)]
      rw [e1]
      simp only [Bc8 (show (0:Int)<25 by omega) (by omega),Bc8 (show (0:Int)<30 by omega) (by omega),Bc8 (show (0:Int)<50 by omega) (by omega),Bc8 (show (0:Int)<90 by omega) (by omega),Bc8 (show (0:Int)<4 by omega) (by omega),Bc8 (show (0:Int)<12 by omega) (by omega),Bc8 (show (0:Int)<mx - af+1 by omega) (by omega)]
      rw [hX mx s _ _ _ _ _ _ _ _ _ _ hm.1 (by omega) (by omega),hX mx s _ _ _ _ _ _ _ _ _ _ hm.1 (by omega) (by omega)]
      cases (x==2)<;>rfl
    rw [Ik];unfold Amb
    rw [fin]
    by_cases h:s.length<sg.length
    · rw [ltT h,bt,ct,ctB]
      by_cases h4:s.length<3
      · rw [show decide ((s.length:Int)<3)=true by simp;omega,ct]
        unfold Aer Ama
        dsimp only
        rw [Ah h,ct,Ag8 h,Bi,Bc8 (by omega) (by omega),ct]
        rw [show ∀ r:List AV,List.drop 1 ((AV.int .i64 sg[s.length].width)::(AV.int .i64 sg[s.length].price)::r)=(AV.int .i64 sg[s.length].price)::r from fun _=>rfl,Bi,Bc8 (by omega) (by omega)]
        have hb:=Bdp sg[s.length].width (show (0:Int)<20 by omega)
        have e1:IntKind.wrap .i64 (mx+IntKind.wrap .i64 (1+sg[s.length].width%20))=mx+(1+sg[s.length].width%20):=by rw [i64 (a:=1+sg[s.length].width%20) (by omega),i64 (by omega)]
        have go:∀ pr:Int,Ik N r0 r1 a b af (sg.flatMap SegD.av) sg.length r t e f g i j y z aa l m ab o p ad x ac q ae u w fuel (s.length+1) ((s.length+1:Nat):Int) (mx+(1+sg[s.length].width%20)) ((s++[SegD.mk (IntKind.wrap .i64 (1+sg[s.length].width%20)) pr]).flatMap SegD.av)=X:=by
          intro pr
          have:=Bwo hN h0 hX (k - 1) fuel (s++[SegD.mk (IntKind.wrap .i64 (1+sg[s.length].width%20)) pr]) (mx+(1+sg[s.length].width%20)) (by simp;omega) (by omega) (by simp;omega)
          simpa using this
        rw [e1,wS (by omega),Bz1 (by omega)]
        simp only [Bvj,go,ct]
        by_cases hz:s.length=0
        · rw [decide_eq_false (show ¬ ((s.length:Int)>0) by omega),cf]
        · obtain ⟨s',hs'⟩:∃ s',s.length=s'+1:=⟨s.length - 1,by omega⟩
          rw [decide_eq_true (show ((s.length:Int)>0) by omega),ct,show IntKind.wrap .i64 ((s.length:Int) - 1)=((s':Nat):Int) by rw [hs',wP (by omega)],Ah (by omega),ct,By6 (by omega)]
      · rw [show decide ((s.length:Int)<3)=false by simp;omega,cf]
    · rw [ltF (by omega),bf,cf]
end near25
section near25b
variable {N:Nat} {X:Option R} {r0:Int→Int→Int→Int→Nat→Int→Int→LA→Option R} {r1:Int→Int→Nat→Int→Int→Int→Int→Int→Int→Int→Int→Int→Int→Int→Int→Int→Nat→Int→Int→Int→LA→LA→Option R}
  {a:List UInt8} {b:Int} {r t:Bool} {e f g i j y z aa l m ab o p x ac q u w:Int} {sg:List SegD} {aw:List Int}
theorem Bwp {H:Nat} (hN:64≤N) (hH:H≤24) (ha:aw.length≤4)
    (hX:∀ (mn mx:Int) (s:List SegD) (nl ru rd sr sp hc cc rs rp out:Int) (l:List Int),0≤mn→mn<20→mn≤mx→mx≤mn+60→s.length≤3→l.length≤2→r1 mn mx s.length nl ru rd sr sp y z aa hc cc ab rs rp l.length x ac out (s.flatMap SegD.av) (G6 l)=X) :
    ∀ (k h fuel:Nat) (s:List Int),h+k=H→k<fuel→s.length≤2 →
    K8 N r0 r1 (H:Int) a b u w (sg.flatMap SegD.av) sg.length r t e f g i j y z aa l m ab o p aw.length x ac q (G6 aw) fuel s.length (h:Int) (G6 s)=X
  | k,h,0,s,_,hf,_=>by omega
  | 0,h,fuel+1,s,hk,hf,hs=>by
    rw [K8];unfold Y0
    rw [ltF (by omega),cf,Bc8 (by omega) (by omega)]
    have hu:=Bdp u (show (0:Int)<20 by omega)
    exact Bwo hN hu (fun mx s' nl ru rd sr sp hc cc rs rp out h1 h2 h3=>hX _ mx s' nl ru rd sr sp hc cc rs rp out s hu.1 hu.2 h1 h2 h3 hs) 3 N [] (u%20) (by simp) (by omega) (by simp)
  | k+1,h,fuel+1,s,hk,hf,hs=>by
    rw [K8];unfold Y0
    have n1:∀ s:List Int,s.length≤2→K8 N r0 r1 (H:Int) a b u w (sg.flatMap SegD.av) sg.length r t e f g i j y z aa l m ab o p aw.length x ac q (G6 aw) fuel s.length ((h+1:Nat):Int) (G6 s)=X:=fun s hs=>Bwp hN hH ha hX k (h+1) fuel s (by omega) (by omega) hs
    rw [ltT (by omega),ct,wS (by omega),n1 s hs,Brc]
    by_cases h2:s.length<2
    · rw [show (decide ((s.length:Int)<2)==true)=true by simp;omega,ct]
      refine Bzp (by omega) (by omega) fun c=>?_
      cases c with
      | false=>rfl
      | true =>
        rw [ctB,ct,sz8 (by omega),ct,Bmq]
        have:=n1 (s++[(h:Int)]) (by simp;omega)
        simpa using this
    · rw [show (decide ((s.length:Int)<2)==true)=false by simp;omega,cf]
end near25b
section near25c
variable {N:Nat} {X:Option R} {r0:Int→Int→Int→Int→Nat→Int→Int→LA→Option R} {r1:Int→Int→Nat→Int→Int→Int→Int→Int→Int→Int→Int→Int→Int→Int→Int→Int→Nat→Int→Int→Int→LA→LA→Option R}
  {a:List UInt8} {b:Int} {r t ba bb:Bool} {e f g i j au av w' ax l m o p q u w bc bd:Int} {sg:List SegD} {aw:List Int}
theorem Bre {H:Nat} {hI:Int} (hN:64≤N) (hI1:hI=(H:Int)) (hH:1≤H∧H≤24)
    (hX:∀ (mn mx:Int) (s:List SegD) (nl ru rd sr sp y z aa hc cc ab rs rp x ac out:Int) (l:List Int),0≤mn→mn<20→mn≤mx→mx≤mn+60→s.length≤3→l.length≤2→r1 mn mx s.length nl ru rd sr sp y z aa hc cc ab rs rp l.length x ac out (s.flatMap SegD.av) (G6 l)=X) :
    Ar9 N a b u w (sg.flatMap SegD.av) sg.length r t e f g i j au av w' l m ax o p (G6 aw) aw.length ba bb bc bd q hI r0 r1=X:=by
  subst hI1
  rw [A4k];unfold A8l A8k Ar8 Amc
  refine Brb hN fun up dn st hot l' sta hrs hl'=>?_
  rw [show (decide ((H:Int)<1)==false)=true by simp;omega,ct,show decide ((H:Int)>24)=false by simp;omega,cfB,cf]
  exact Bwp hN hH.2 hl' (fun mn mx s nl ru rd sr sp hc cc rs rp out l=>hX mn mx s nl ru rd sr sp _ _ _ hc cc _ rs rp _ _ out l) H 0 N [] (by omega) (by omega) (by simp)
end near25c
end
end Gx

namespace Gx
open Go Go.Proofs
section
variable {R:Type}
def F6 (x y:Nat):Int:=if x<y then -1 else if y<x then 1 else 0
theorem Z7 (x:Nat):F6 x x=0:=by unfold F6;simp
theorem Ank {a b:Nat} (h:(dig a).length<(dig b).length):a<b:=Nat.lt_of_not_le fun h2=>by
  have:=Bp h2;omega
theorem Bdq {u w p q P:Nat} (hu:u<P) (hw:w<P) (h:p<q):u+P*p<w+P*q:=by
  have:P*(p+1)≤P*q:=Nat.mul_le_mul_left _ h
  rw [Nat.mul_add] at this
  omega
theorem Bmr {N:Nat} {x y:List Nat} {t u:Bool} {K:Int→Option R} (hx:Af x) (hy:Af y) (hs:x.length≤1000000000000) (he:x.length=y.length):∀ (i fuel:Nat),i≤x.length→i<fuel →
    Fd N K (Ad x) x.length t (Ad y) y.length u fuel ((i:Int) - 1)=K (F6 (val (x.take i)) (val (y.take i)))
  | 0,fuel+1,_,_=>by
    rw [Fd];unfold Kc
    rw [show decide ((((0:Nat):Int) - 1)≥0)=false by simp,cf]
    simp [Z7]
  | i+1,fuel+1,hi,hf=>by
    rw [Fd];unfold Kc
    rw [show (((i+1:Nat):Int) - 1)=(i:Int) by omega,show decide ((i:Int)≥0)=true by simp,ct,Ah (by omega),ct,rdl (by omega),Ah (by omega),ct,rdl (by omega),ct,rdl (by omega),ct,rdl (by omega),i64 (by omega),
      Bmr hx hy hs he i fuel (by omega) (by omega),Au (by omega),Au (by omega)]
    have h1:=Bc (Bz hx i)
    have h2:=Bc (Bz hy i)
    rw [List.length_take,Nat.min_eq_left (by omega)] at h1 h2
    by_cases c1:x[i]<y[i]
    · have:=Bdq h1 h2 c1
      rw [show decide (((x[i]:Nat):Int)<((y[i]:Nat):Int))=true by simp;exact c1,ct]
      unfold F6;rw [if_pos this]
    · by_cases c2:y[i]<x[i]
      · have:=Bdq h2 h1 c2
        rw [show decide (((x[i]:Nat):Int)<((y[i]:Nat):Int))=false by simp;omega,cf,show decide (((x[i]:Nat):Int)>((y[i]:Nat):Int))=true by simp;exact c2,ct]
        unfold F6;rw [if_neg (by omega),if_pos this]
      · have:x[i]=y[i]:=by omega
        rw [show decide (((x[i]:Nat):Int)<((y[i]:Nat):Int))=false by simp;omega,cf,show decide (((x[i]:Nat):Int)>((y[i]:Nat):Int))=false by simp;omega,cf,this]
        unfold F6
        congr 1
        by_cases a1:val (x.take i)<val (y.take i)
        · rw [if_pos a1,if_pos (by omega)]
        · by_cases a2:val (y.take i)<val (x.take i)
          · rw [if_neg a1,if_pos a2,if_neg (by omega),if_pos (by omega)]
          · rw [if_neg a1,if_neg a2,if_neg (by omega),if_neg (by omega)]
theorem Pq {N:Nat} {a b:List Nat} {n m:Nat} {t o t' o':Bool} {K:Int→Option R} (hn:n=a.length) (hm:m=b.length) (ha:Af a) (hb:Af b) (hf:fit (a.length+b.length) N) :
    C9 N (Ad a) n t o (Ad b) m t' o' K=K (F6 (val a) (val b)):=by
  subst hn hm
  have h1:=hf.1;have h2:=hf.2
  rw [Ad6];unfold Abi Abh
  dsimp only
  rw [Bt rfl ha (hf.le (by omega)),Bt rfl hb (hf.le (by omega))]
  have la:=(Bh ha).2
  have lb:=(Bh hb).2
  by_cases he:(dig (val a)).length=(dig (val b)).length
  · rw [show ((((dig (val a)).length:Nat):Int) != (((dig (val b)).length:Nat):Int))=false by simp;omega,cf,i64 (by omega),Bmr (Ab _) (Ab _) (by omega) he _ N (Nat.le_refl _) (by omega),List.take_length,he,List.take_length,Ag,Ag]
  · rw [show ((((dig (val a)).length:Nat):Int) != (((dig (val b)).length:Nat):Int))=true by simp;omega,ct]
    by_cases hl:(dig (val a)).length<(dig (val b)).length
    · have:=Ank hl
      rw [show decide ((((dig (val a)).length:Nat):Int)<(((dig (val b)).length:Nat):Int))=true by simp;omega,ct]
      unfold F6;rw [if_pos this]
    · have:=Ank (show (dig (val b)).length<(dig (val a)).length by omega)
      rw [show decide ((((dig (val a)).length:Nat):Int)<(((dig (val b)).length:Nat):Int))=false by simp;omega,cf]
      unfold F6;rw [if_neg (by omega),if_pos this]
theorem Bi6 {N:Nat} {a:List Nat} {n:Nat} {t o:Bool} {K:Int→Option R} (hn:n=a.length) (ha:Af a) (hf:fit a.length N):Ss N (Ad a) n t o K=K (F6 (val a) 0):=by
  subst hn
  have h1:=hf.1;have h2:=hf.2
  rw [Aq0];unfold Aqz Aqy
  dsimp only
  rw [Bt rfl ha hf,Bvh (by omega)]
  by_cases h0:val a=0
  · rw [h0,C6,Z7]
    cases N with
    | zero=>omega
    | succ N =>
      rw [Uu];unfold Aa7
      rw [i64 (by simp)];simp
  · have hl:(dig (val a)).length≠0:=fun h=>h0 (Bj.1 h)
    rw [show ((((dig (val a)).length:Nat):Int) != (0:Int))=true by simp;exact fun h=>h0 (Bi0.1 h),ct]
    rw [show decide ((((dig (val a)).length:Nat):Int)<(0:Int))=false by simp,cf]
    unfold F6;rw [if_neg (by omega),if_pos (by omega)]
end
end Gx

namespace Gx
open Go Go.Proofs
section
variable {R:Type}
theorem A5k:∀ {S:List Nat} {d v:Nat} (h:d<S.length),val (S.set d v)+4294967296 ^ d*S[d]=val S+4294967296 ^ d*v
  | x::r,0,v,_=>by simp [val];omega
  | x::r,d+1,v,h=>by
    have ih:=A5k (S:=r) (d:=d) (v:=v) (by simpa using h)
    simp only [List.set_cons_succ,val,List.getElem_cons_succ,Nat.pow_succ]
    have e1:∀ y,4294967296 ^ d*4294967296*y=4294967296*(4294967296 ^ d*y):=fun y=>by rw [Nat.mul_comm (4294967296 ^ d),Nat.mul_assoc]
    rw [e1,e1]
    omega
theorem Pr (b:List Nat) (d:Nat):val (b.take (d+1))=val (b.take d)+4294967296 ^ d*b.getD d 0:=by
  by_cases h:d<b.length
  · rw [Au h,List.getD_eq_getElem?_getD,List.getElem?_eq_getElem h];rfl
  · rw [List.take_of_length_le (by omega),List.take_of_length_le (by omega),List.getD_eq_getElem?_getD,List.getElem?_eq_none (by omega)];simp
theorem Lh (P s:Nat):P*(s%4294967296)+P*4294967296*(s/4294967296)=P*s:=by
  rw [Nat.mul_assoc,← Nat.mul_add,Nat.add_comm,Nat.div_add_mod]
def zer (S:List Nat) (d:Nat):Prop:=∀ j (h:j<S.length),d≤j→S[j]=0
theorem Afn {S:List Nat} {d v:Nat} (h:zer S d):zer (S.set d v) (d+1):=fun j hj hd=>by
  rw [List.getElem_set]
  rw [if_neg (by omega)]
  exact h j (by simpa using hj) (by omega)
theorem J8 (n:Nat):zer (List.replicate n 0) 0:=fun j hj _=>by simp
theorem Vx {S:List Nat} {d v:Nat} (h:zer S d) (hd:d<S.length):val (S.set d v)=val S+4294967296 ^ d*v:=by
  have:=A5k (v:=v) hd
  rw [h d hd (Nat.le_refl _)] at this;simpa using this
theorem wmk {a:Nat} (h:a≤1000000000000):IntKind.wrap .i64 (((a:Nat):Int)+(1:Int))=((a+1:Nat):Int):=wS h
theorem Bzq {x:Nat} {m:List Nat} (h:x<m.length):((Nat.beq 1 1)&&((Nat.ble ((0+(x*1))+1) (List.length (Ad m)))&&(!false)))=true:=by
  rw [Bk];simp;omega
theorem Byq {x v:Nat} {m:List Nat}:List.set (Ad m) (0+(x*1)) (.int .u32 (v:Int))=Ad (m.set x v):=by rw [Nat.mul_one,Nat.zero_add,A5h]
theorem Bi7 {N:Nat} {a b:List Nat} {t u:Bool} (ha:Af a) (hb:Af b) (hf:fit (a.length+1) N) (hab:b.length≤a.length):∀ (m d fuel:Nat) (S:List Nat) (c:Nat),d+m=a.length→m<fuel→Af S→S.length=a.length+1→zer S d→c≤1 →
    val S+4294967296 ^ d*c=val (a.take d)+val (b.take d) →
    ∃ S',Af S'∧S'.length=a.length+1∧val S'=val a+val b∧∀ K:Nat→LA→Option R,Tp N K (Ad a) a.length t (Ad b) b.length u fuel (a.length+1) (c:Int) (a.length:Int) (d:Int) (Ad S)=K (dig (val a+val b)).length (Ad S')
  | 0,d,fuel+1,S,c,hd,_,hS,hl,hz,hc,hv=>by
    have h1:=hf.1;have h2:=hf.2
    have hd':d=a.length:=by omega
    subst hd'
    have hv2:val (S.set a.length c)=val a+val b:=by
      rw [Vx hz (by omega),hv,List.take_length,List.take_of_length_le hab]
    have hl2:=B7 hS (show c<4294967296 by omega) a.length
    refine ⟨S.set a.length c,hl2,by simpa using hl,hv2,fun K=>?_⟩
    rw [Tp];unfold Ab4
    rw [ltF (Nat.le_refl _),cf,Ah (by omega),ct,Bzq (by omega),ct,w32 (by omega),Byq,Air (by simp;omega) hl2 (by simp only [List.length_set,hl];exact hf),hv2]
  | m+1,d,fuel+1,S,c,hd,hfu,hS,hl,hz,hc,hv=>by
    have h1:=hf.1;have h2:=hf.2
    have hda:d<a.length:=by omega
    have ad:=Az ha hda
    have step:∀ s:Nat,s<8589934592→s=c+a[d]+b.getD d 0→val (S.set d (s%4294967296))+4294967296 ^ (d+1)*(s/4294967296)=val (a.take (d+1))+val (b.take (d+1)):=by
      intro s _ hs
      rw [Vx hz (by omega),Au hda,Pr b d,Nat.pow_succ]
      have e:=Lh (4294967296 ^ d) s
      have e2:4294967296 ^ d*s=4294967296 ^ d*c+4294967296 ^ d*a[d]+4294967296 ^ d*b.getD d 0:=by rw [hs,Nat.mul_add,Nat.mul_add]
      omega
    by_cases hdb:d<b.length
    · have bd:=Az hb hdb
      have hg:b.getD d 0=b[d]:=by rw [List.getD_eq_getElem?_getD,List.getElem?_eq_getElem hdb];rfl
      obtain ⟨S',q1,q2,q3,q4⟩:=Bi7 (t:=t) (u:=u) ha hb hf hab m (d+1) fuel (S.set d ((c+a[d]+b[d])%4294967296)) ((c+a[d]+b[d])/4294967296) (by omega) (by omega) (B7 hS (by omega) d) (by simpa using hl) (Afn hz) (by omega) (step _ (by omega) (by rw [hg]))
      refine ⟨S',q1,q2,q3,fun K=>?_⟩
      rw [Tp];unfold Ab4
      rw [ltT hda,ct,Ah hda,ct,rdl hda,ltT hdb,ct,Ah hdb,ct,rdl hdb,Ah (by omega),ct,st1 (by omega),ct,w64 (by omega),w64 (by omega),Aiq,w64 (by omega),Aiq,w64 (by omega),A83,A1z,Atm,wS (by omega)]
      exact q4 K
    · have hg:b.getD d 0=0:=by rw [List.getD_eq_getElem?_getD,List.getElem?_eq_none (by omega)];rfl
      obtain ⟨S',q1,q2,q3,q4⟩:=Bi7 (t:=t) (u:=u) ha hb hf hab m (d+1) fuel (S.set d ((c+a[d])%4294967296)) ((c+a[d])/4294967296) (by omega) (by omega) (B7 hS (by omega) d) (by simpa using hl) (Afn hz) (by omega) (step _ (by omega) (by rw [hg];rfl))
      refine ⟨S',q1,q2,q3,fun K=>?_⟩
      rw [Tp];unfold Ab4
      rw [ltT hda,ct,Ah hda,ct,rdl hda,ltF (by omega),cf,Ah (by omega),ct,st1 (by omega),ct,w64 (by omega),Aiq,w64 (by omega),A83,A1z,Atm,wS (by omega)]
      exact q4 K
theorem Bwq {N:Nat} {a b:List Nat} {t u:Bool} (ha:Af a) (hb:Af b) (hf:fit (a.length+1) N) (hab:b.length≤a.length) :
    ∃ S',Af S'∧val S'=val a+val b∧∀ K:Nat→LA→Option R,Au9 N K (Ad a) a.length t (Ad b) b.length u=K (dig (val a+val b)).length (Ad S'):=by
  have h1:=hf.1;have h2:=hf.2
  obtain ⟨S',q1,_,q3,q4⟩:=Bi7 (R:=R) (t:=t) (u:=u) ha hb hf hab a.length 0 N (List.replicate (a.length+1) 0) 0 (by omega) (by omega) (B4 _) (by simp) (J8 _) (by omega) (by rw [Db];simp [val])
  refine ⟨S',q1,q3,fun K=>?_⟩
  unfold Au9 A0n
  rw [wmk (by omega),mk4 (by omega),ct,Int.toNat_natCast,Ci]
  exact q4 K
theorem Bwr {N:Nat} {a b:List Nat} {n m:Nat} {t o t' o':Bool} (hn:n=a.length) (hm:m=b.length) (ha:Af a) (hb:Af b) (hf:fit (a.length+b.length+1) N) :
    ∃ S',Af S'∧val S'=val a+val b∧∀ K:Nat→LA→Option R,Bgt N (Ad a) n t o (Ad b) m t' o' K=K (dig (val a+val b)).length (Ad S'):=by
  subst hn hm
  have la:=(Bh ha).2
  have lb:=(Bh hb).2
  by_cases hl:(dig (val a)).length<(dig (val b)).length
  · obtain ⟨S',q1,q2,q3⟩:=Bwq (R:=R) (N:=N) (a:=dig (val b)) (b:=dig (val a)) (t:=o') (u:=o) (Ab _) (Ab _) (hf.le (by omega)) (by omega)
    rw [Ag,Ag,Nat.add_comm] at q2
    refine ⟨S',q1,q2,fun K=>?_⟩
    rw [A0o];unfold Bdm Bdl
    dsimp only
    rw [Bt rfl ha (hf.le (by omega)),Bt rfl hb (hf.le (by omega)),ltT hl,ct,q3,Ag,Ag,Nat.add_comm (val b)]
  · obtain ⟨S',q1,q2,q3⟩:=Bwq (R:=R) (N:=N) (a:=dig (val a)) (b:=dig (val b)) (t:=o) (u:=o') (Ab _) (Ab _) (hf.le (by omega)) (by omega)
    rw [Ag,Ag] at q2
    refine ⟨S',q1,q2,fun K=>?_⟩
    rw [A0o];unfold Bdm Bdl
    dsimp only
    rw [Bt rfl ha (hf.le (by omega)),Bt rfl hb (hf.le (by omega)),ltF (by omega),cf,q3,Ag,Ag]
end
end Gx

namespace Gx
open Go Go.Proofs
section
variable {R:Type}
theorem Avz {x y:Nat} (hx:x<4294967296) (hy:y≤4294967296):∃ d c:Nat,d<4294967296∧c≤1∧x+4294967296*c=d+y∧IntKind.wrap .u32 (IntKind.wrap .u64 ((x:Int) - (y:Int)))=(d:Int)∧Int.fdiv (IntKind.wrap .u64 ((x:Int) - (y:Int))) (2 ^ 63)=(c:Int):=by
  by_cases h:y≤x
  · refine ⟨x - y,0,by omega,by omega,by omega,?_,?_⟩
    · rw [A82 (by omega) h,w32 (by omega)]
    · rw [A82 (by omega) h,Bzo,Nat.div_eq_of_lt (by omega)]
  · refine ⟨x+4294967296 - y,1,by omega,by omega,by omega,?_,?_⟩
    · rw [Bwi (by omega) (by omega),A1z];congr 1;omega
    · rw [Bwi (by omega) (by omega),Bzo];congr 1;omega
theorem Bx2 {x c w:Nat} (hx:x<4294967296) (hc:c≤1) (hw:w<4294967296):IntKind.wrap .u64 ((IntKind.wrap .u64 ((x:Int) - (c:Int))) - (w:Int))=IntKind.wrap .u64 ((x:Int) - ((c+w:Nat):Int)):=by
  rw [A10,A10,A10];omega
theorem Bi8 {N:Nat} {a b:List Nat} {t u:Bool} (ha:Af a) (hb:Af b) (hf:fit a.length N) (hab:b.length≤a.length) (hle:val b≤val a):∀ (m d fuel:Nat) (S:List Nat) (c:Nat),d+m=a.length→m<fuel→Af S→S.length=a.length→zer S d→c≤1 →
    val S+val (b.take d)=val (a.take d)+4294967296 ^ d*c →
    ∃ S',Af S'∧val S'=val a - val b∧∀ K:Nat→Bool→LA→Option R,Tn N K (Ad b) b.length t a.length (Ad a) u fuel (c:Int) (a.length:Int) (d:Int) (Ad S)=K (dig (val a - val b)).length true (Ad S')
  | 0,d,fuel+1,S,c,hd,_,hS,hl,hz,hc,hv=>by
    have hd':d=a.length:=by omega
    subst hd'
    rw [List.take_length,List.take_of_length_le hab] at hv
    have hlt:=Bc hS
    rw [hl] at hlt
    have hc0:c=0:=by
      rcases Nat.lt_or_ge 0 c with h | h
      · exfalso
        have:c=1:=by omega
        subst this
        omega
      · omega
    subst hc0
    have hv2:val S=val a - val b:=by omega
    refine ⟨S,hS,hv2,fun K=>?_⟩
    rw [Tn];unfold Ab2
    rw [ltF (Nat.le_refl _),cf,Air hl.symm hS (by rw [hl];exact hf),hv2]
  | m+1,d,fuel+1,S,c,hd,hfu,hS,hl,hz,hc,hv=>by
    have h1:=hf.1;have h2:=hf.2
    have hda:d<a.length:=by omega
    have ad:=Az ha hda
    have step:∀ y g c':Nat,y=c+b.getD d 0→a[d]+4294967296*c'=g+y→val (S.set d g)+val (b.take (d+1))=val (a.take (d+1))+4294967296 ^ (d+1)*c':=by
      intro y g c' hy hg
      rw [Vx hz (by omega),Au hda,Pr b d,Nat.pow_succ,Nat.mul_assoc]
      have e:4294967296 ^ d*(a[d]+4294967296*c')=4294967296 ^ d*(g+(c+b.getD d 0)):=by rw [hg,hy]
      rw [Nat.mul_add,Nat.mul_add,Nat.mul_add] at e
      omega
    by_cases hdb:d<b.length
    · have bd:=Az hb hdb
      have hg:b.getD d 0=b[d]:=by rw [List.getD_eq_getElem?_getD,List.getElem?_eq_getElem hdb];rfl
      obtain ⟨g,c',g1,g2,g3,g4,g5⟩:=Avz ad (show c+b[d]≤4294967296 by omega)
      obtain ⟨S',q1,q3,q4⟩:=Bi8 (t:=t) (u:=u) ha hb hf hab hle m (d+1) fuel (S.set d g) c' (by omega) (by omega) (B7 hS g1 d) (by simpa using hl) (Afn hz) g2 (step _ _ _ (by rw [hg]) g3)
      refine ⟨S',q1,q3,fun K=>?_⟩
      rw [Tn];unfold Ab2
      rw [ltT hda,ct,Ah hda,ct,rdl hda,ltT hdb,ct,Ah hdb,ct,rdl hdb,ct,st1 (by omega),ct,w64 (show a[d]<18446744073709551616 by omega),w64 (show b[d]<18446744073709551616 by omega),Bx2 ad hc bd,g4,g5,Atm,wS (by omega)]
      exact q4 K
    · have hg:b.getD d 0=0:=by rw [List.getD_eq_getElem?_getD,List.getElem?_eq_none (by omega)];rfl
      obtain ⟨g,c',g1,g2,g3,g4,g5⟩:=Avz ad (show c≤4294967296 by omega)
      obtain ⟨S',q1,q3,q4⟩:=Bi8 (t:=t) (u:=u) ha hb hf hab hle m (d+1) fuel (S.set d g) c' (by omega) (by omega) (B7 hS g1 d) (by simpa using hl) (Afn hz) g2 (step _ _ _ (by rw [hg];rfl) g3)
      refine ⟨S',q1,q3,fun K=>?_⟩
      rw [Tn];unfold Ab2
      rw [ltT hda,ct,Ah hda,ct,rdl hda,ltF (by omega),cf,ct,st1 (by omega),ct,w64 (show a[d]<18446744073709551616 by omega),g4,g5,Atm,wS (by omega)]
      exact q4 K
theorem Bi9 {N:Nat} {a b:List Nat} {n m:Nat} {t o t' o':Bool} (hn:n=a.length) (hm:m=b.length) (ha:Af a) (hb:Af b) (hf:fit (a.length+b.length) N) (hle:val b≤val a) :
    ∃ S',Af S'∧val S'=val a - val b∧∀ K:Nat→Bool→LA→Option R,Arn N (Ad a) n t o (Ad b) m t' o' K=K (dig (val a - val b)).length true (Ad S'):=by
  subst hn hm
  have h1:=hf.1;have h2:=hf.2
  have la:=(Bh ha).2
  have lb:=(Bh hb).2
  have hll:=Bp hle
  obtain ⟨S',q1,q2,q3⟩:=Bi8 (R:=R) (N:=N) (a:=dig (val a)) (b:=dig (val b)) (t:=o') (u:=o) (Ab _) (Ab _) (hf.le (by omega)) hll (by rw [Ag,Ag];exact hle) (dig (val a)).length 0 N (List.replicate (dig (val a)).length 0) 0 (by omega) (by omega) (B4 _) (by simp) (J8 _) (by omega) (by rw [Db];simp [val])
  rw [Ag,Ag] at q2
  refine ⟨S',q1,q2,fun K=>?_⟩
  rw [A0f];unfold Bdk Bdj
  dsimp only
  rw [Bt rfl ha (hf.le (by omega)),Bt rfl hb (hf.le (by omega)),Pq rfl rfl (Ab _) (Ab _) (hf.le (by omega)),Ag,Ag]
  have:decide (F6 (val a) (val b)<0)=false:=by unfold F6;split<;>(try split)<;>simp<;>omega
  rw [this,cf,mk4 (by omega),ct,Ci]
  have:=q3 K
  rw [Ag,Ag] at this
  exact this
theorem Bws {N:Nat} {a b:List Nat} {n m:Nat} {t o t' o':Bool} {K:Nat→Bool→LA→Option R} (hn:n=a.length) (hm:m=b.length) (ha:Af a) (hb:Af b) (hf:fit (a.length+b.length) N) (hle:val a<val b) :
    Arn N (Ad a) n t o (Ad b) m t' o' K=K 0 false []:=by
  subst hn hm
  have la:=(Bh ha).2
  have lb:=(Bh hb).2
  rw [A0f];unfold Bdk Bdj
  dsimp only
  rw [Bt rfl ha (hf.le (by omega)),Bt rfl hb (hf.le (by omega)),Pq rfl rfl (Ab _) (Ab _) (hf.le (by omega)),Ag,Ag]
  have:decide (F6 (val a) (val b)<0)=true:=by unfold F6;rw [if_pos hle];rfl
  rw [this,ct]
end
end Gx

namespace Gx
open Go Go.Proofs
section
variable {R:Type}
theorem i0F {n:Nat} (h:n≠0):(((n:Nat):Int)==(0:Int))=false:=by rw [beq_eq_false_iff_ne];omega
theorem i0T {n:Nat} (h:n=0):(((n:Nat):Int)==(0:Int))=true:=by subst h;rfl
theorem Btb:∀ {S:List Nat} {j:Nat} (h:j<S.length),4294967296 ^ j*S[j]≤val S
  | x::r,0,_=>by simp [val]
  | x::r,j+1,h=>by
    have:=Btb (S:=r) (j:=j) (by simpa using h)
    simp only [List.getElem_cons_succ,val,Nat.pow_succ]
    rw [Nat.mul_comm (4294967296 ^ j),Nat.mul_assoc]
    omega
theorem Bwt {S:List Nat} {k:Nat} (h:val S<4294967296 ^ k):zer S k:=fun j hj hk=>by
  have h1:=Btb hj
  have h2:4294967296 ^ k≤4294967296 ^ j:=Nat.pow_le_pow_right (by omega) hk
  rcases Nat.eq_zero_or_pos S[j] with h0 | h0
  · exact h0
  · have:=Nat.le_mul_of_pos_right (4294967296 ^ j) h0
    omega
theorem Brf {p q y s:Nat} (hp:p<4294967296) (hq:q<4294967296) (hy:y<4294967296) (hs:s<4294967296):p+(q*y+s)<18446744073709551616:=by
  have:q*y≤4294967295*4294967295:=Nat.mul_le_mul (by omega) (by omega)
  omega
theorem Bwu {N:Nat} {x y:List Nat} {c d:Bool} {f q J:Nat} (hy:Af y) (hq:q<4294967296) (hf:f<x.length) (hs:x.length+y.length≤1000000000000):∀ (m l fuel:Nat) (S:List Nat) (p:Nat) (v:Nat),l+m=y.length→m<fuel→Af S→S.length=x.length+y.length→zer S (f+y.length)→p<4294967296 →
    val S+4294967296 ^ (f+l)*p=v+4294967296 ^ f*(q*val (y.take l)) →
    ∃ S',Af S'∧S'.length=x.length+y.length∧val S'=v+4294967296 ^ f*(q*val y)∧∀ (k1:Nat→Int→Int→LA→Option R) (K:Nat→LA→Option R),Ta N k1 K (Ad y) y.length d (x.length+y.length) (f:Int) (q:Int) (Ad x) x.length c (J:Int) fuel (p:Int) (y.length:Int) (l:Int) (Ad S)=k1 (x.length+y.length) J ((f+1:Nat):Int) (Ad S')
  | 0,l,fuel+1,S,p,v,hl,_,hS,hlen,hz,hp,hv=>by
    have hl':l=y.length:=by omega
    subst hl'
    rw [List.take_length] at hv
    refine ⟨S.set (f+y.length) p,B7 hS hp _,by simpa using hlen,by rw [Vx hz (by omega),hv],fun k1 K=>?_⟩
    rw [Ta];unfold Aks
    rw [ltF (Nat.le_refl _),cf,wA (by omega),Ah (by omega),ct,st1 (by omega),ct,w32 hp,Atm,wS (by omega)]
  | m+1,l,fuel+1,S,p,v,hl,hfu,hS,hlen,hz,hp,hv=>by
    have hly:l<y.length:=by omega
    have yl:=Az hy hly
    have hi:f+l<S.length:=by omega
    have sl:=Az hS hi
    have hw:=Brf hp hq yl sl
    have hqy:q*y[l]<18446744073709551616:=by omega
    generalize hsd:p+(q*y[l]+S[f+l])=s at *
    have hset:=A5k (v:=s%4294967296) hi
    have key:val (S.set (f+l) (s%4294967296))+4294967296 ^ (f+(l+1))*(s/4294967296)=v+4294967296 ^ f*(q*val (y.take (l+1))):=by
      rw [Au hly,← Nat.add_assoc f l 1,Nat.pow_succ]
      have e:=Lh (4294967296 ^ (f+l)) s
      have e2:4294967296 ^ (f+l)*s=4294967296 ^ (f+l)*p+(4294967296 ^ (f+l)*(q*y[l])+4294967296 ^ (f+l)*S[f+l]):=by rw [← hsd,Nat.mul_add,Nat.mul_add]
      have e3:4294967296 ^ f*(q*(val (y.take l)+4294967296 ^ l*y[l]))=4294967296 ^ f*(q*val (y.take l))+4294967296 ^ (f+l)*(q*y[l]):=by
        rw [Nat.mul_add,Nat.mul_add,Nat.pow_add]
        congr 1
        rw [Nat.mul_assoc];congr 1
        rw [← Nat.mul_assoc,← Nat.mul_assoc,Nat.mul_comm q]
      omega
    obtain ⟨S',q1,q2,q3,q4⟩:=Bwu (N:=N) (x:=x) (c:=c) (d:=d) (J:=J) hy hq hf hs m (l+1) fuel (S.set (f+l) (s%4294967296)) (s/4294967296) v (by omega) (by omega) (B7 hS (by omega) _) (by simpa using hlen) (fun j hj hk=>by
      rw [List.getElem_set,if_neg (by omega)];exact hz j (by simpa using hj) hk) (by omega) key
    refine ⟨S',q1,q2,q3,fun k1 K=>?_⟩
    rw [Ta];unfold Aks
    rw [ltT hly,ct,Ah hly,ct,rdl hly,wA (by omega),Ah (by omega),ct,A5i hi,ct,st1 hi,ct,w64 (show q<18446744073709551616 by omega),w64 (show y[l]<18446744073709551616 by omega),w64 (show S[f+l]<18446744073709551616 by omega),Bi2,w64 hqy,Aiq,w64 (by omega),Aiq,hsd,w64 hw,A83,A1z,Atm,wS (by omega)]
    exact q4 k1 K
theorem Bo6 {N:Nat} {x y:List Nat} {c d:Bool} (hx:Af x) (hy:Af y) (hfit:fit (x.length+y.length) N):∀ (m f fuel:Nat) (S:List Nat),f+m=x.length→m<fuel→Af S→S.length=x.length+y.length →
    val S=val (x.take f)*val y →
    ∃ S',Af S'∧val S'=val x*val y∧∀ K:Nat→LA→Option R,Jw N K (Ad y) y.length d (Ad x) x.length c fuel (x.length+y.length) (x.length:Int) (f:Int) (Ad S)=K (dig (val x*val y)).length (Ad S')
  | 0,f,fuel+1,S,hf,_,hS,hlen,hv=>by
    have hf':f=x.length:=by omega
    subst hf'
    rw [List.take_length] at hv
    refine ⟨S,hS,hv,fun K=>?_⟩
    rw [Jw];unfold Abg
    rw [ltF (Nat.le_refl _),cf,Air hlen.symm hS (by rw [hlen];exact hfit),hv]
  | m+1,f,fuel+1,S,hf,hfu,hS,hlen,hv=>by
    have h1:=hfit.1;have h2:=hfit.2
    have hfx:f<x.length:=by omega
    have xf:=Az hx hfx
    have b1:=Bc (Bz hx f)
    rw [List.length_take,Nat.min_eq_left (by omega)] at b1
    have b2:=Bc hy
    have hbound:val S<4294967296 ^ (f+y.length):=by
      rw [hv,Nat.pow_add];exact Nat.mul_lt_mul'' b1 b2
    have hnext:val (x.take (f+1))*val y=val S+4294967296 ^ f*(x[f]*val y):=by
      rw [Au hfx,Nat.add_mul,hv,Nat.mul_assoc]
    by_cases h0:x[f]=0
    · obtain ⟨S',q1,q2,q3⟩:=Bo6 (c:=c) (d:=d) hx hy hfit m (f+1) fuel S (by omega) (by omega) hS hlen (by rw [hnext,h0];simp)
      refine ⟨S',q1,q2,fun K=>?_⟩
      rw [Jw];unfold Abg
      rw [ltT hfx,ct,Ah hfx,ct,rdl hfx,show (((x[f]:Nat):Int)==0)=true by simp [h0],ct,wS (by omega)]
      exact q3 K
    · obtain ⟨S1,p1,p2,p3,p4⟩:=Bwu (R:=R) (N:=N) (x:=x) (y:=y) (c:=c) (d:=d) (f:=f) (q:=x[f]) (J:=x.length) hy xf hfx (by omega) y.length 0 N S 0 (val S) (by omega) (by omega) hS hlen (Bwt hbound) (by omega) (by simp [val])
      obtain ⟨S',q1,q2,q3⟩:=Bo6 (c:=c) (d:=d) hx hy hfit m (f+1) fuel S1 (by omega) (by omega) p1 p2 (by rw [p3,hnext])
      refine ⟨S',q1,q2,fun K=>?_⟩
      rw [Jw];unfold Abg
      rw [ltT hfx,ct,Ah hfx,ct,rdl hfx,show (((x[f]:Nat):Int)==0)=false by simp;exact h0,cf]
      have:=p4 (Jw N K (Ad y) y.length d (Ad x) x.length c fuel) K
      simp only [Int.natCast_zero] at this
      dsimp only
      rw [this]
      exact q3 K
theorem Atp {N:Nat} {a b:List Nat} {n m:Nat} {t o t' o':Bool} (hn:n=a.length) (hm:m=b.length) (ha:Af a) (hb:Af b) (hf:fit (a.length+b.length) N) :
    ∃ S',Af S'∧val S'=val a*val b∧∀ K:Nat→LA→Option R,Akt N (Ad a) n t o (Ad b) m t' o' K=K (dig (val a*val b)).length (Ad S'):=by
  subst hn hm
  have h1:=hf.1;have h2:=hf.2
  have la:=(Bh ha).2
  have lb:=(Bh hb).2
  by_cases ha0:val a=0
  · refine ⟨[],T2,by rw [ha0];simp [val],fun K=>?_⟩
    rw [Aku];unfold A3h A3g
    dsimp only
    rw [Bt rfl ha (hf.le (by omega)),Bt rfl hb (hf.le (by omega)),ha0,Nat.zero_mul,C6];rfl
  · by_cases hb0:val b=0
    · refine ⟨[],T2,by rw [hb0];simp [val],fun K=>?_⟩
      rw [Aku];unfold A3h A3g
      dsimp only
      rw [Bt rfl ha (hf.le (by omega)),Bt rfl hb (hf.le (by omega)),hb0,Nat.mul_zero,C6]
      cases ((((dig (val a)).length:Nat):Int)==0)<;>rfl
    · obtain ⟨S',q1,q2,q3⟩:=Bo6 (R:=R) (N:=N) (x:=dig (val a)) (y:=dig (val b)) (c:=o) (d:=o') (Ab _) (Ab _) (hf.le (by omega)) (dig (val a)).length 0 N (List.replicate ((dig (val a)).length+(dig (val b)).length) 0) (by omega) (by omega) (B4 _) (by simp) (by rw [Db];simp [val])
      rw [Ag,Ag] at q2
      refine ⟨S',q1,q2,fun K=>?_⟩
      rw [Aku];unfold A3h A3g
      dsimp only
      have n1:(dig (val a)).length≠0:=fun h=>ha0 (Bj.1 h)
      have n2:(dig (val b)).length≠0:=fun h=>hb0 (Bj.1 h)
      rw [Bt rfl ha (hf.le (by omega)),Bt rfl hb (hf.le (by omega)),i0F n1,show ((false:Bool)==false)=true by rfl,ct,cfB,i0F n2,cf]
      unfold A67 Az0
      rw [wA (by omega),mk4 (by omega),ct,Int.toNat_natCast,Ci]
      have:=q3 K
      rw [Ag,Ag] at this
      exact this
end
end Gx

namespace Gx
open Go Go.Proofs
section
variable {R:Type}
theorem A5l {v:Nat} (h:(dig v).length≤2):v<18446744073709551616:=by
  have:=Bc (Ab v)
  rw [Ag] at this
  have h2:4294967296 ^ (dig v).length≤4294967296 ^ 2:=Nat.pow_le_pow_right (by omega) h
  omega
theorem Zg {v:Nat} (h:v<18446744073709551616):(dig v).length≤2:=Ch (by simpa using h)
theorem Ait {N:Nat} {l:List Nat} {n:Nat} {t o:Bool} {K:Int→Option R} (hn:n=l.length) (hl:Af l) (h2:l.length≤2) (hN:4≤N):Qh N (Ad l) n t o K=K (val l:Int):=by
  subst hn
  obtain ⟨M,rfl⟩:∃ M,N=M+4:=⟨N - 4,by omega⟩
  rw [Baw];unfold Bga Bf9
  match l,hl,h2 with
  | [],_,_ =>
    dsimp only
    rw [Ix];unfold Ig
    simp [val]
  | [x],hl,_ =>
    have hx:=(Cq.1 hl).1
    dsimp only
    rw [Ix];unfold Ig
    simp only [List.length_cons,List.length_nil,Int.toNat_zero,Nat.zero_mul,List.drop_zero,Z6,Bi]
    rw [show decide ((0:Int)<((0+1:Nat):Int))=true by decide,ct,show Am 0 (0+1)=true by decide,ct,show IntKind.wrap .i64 ((32:Int)*0)=0 by decide,show decide ((0:Int)<0)=false by decide,cf]
    rw [Ix];unfold Ig
    rw [show IntKind.wrap .i64 ((0:Int)+1)=1 by decide,show decide ((1:Int)<((0+1:Nat):Int))=false by decide,cf]
    have e:IntKind.wrap .u64 ((IntKind.wrap .u64 (x:Int))*2 ^ (min (Int.toNat 0) 64))=(x:Int):=by rw [w64 (by omega)];simp;exact w64 (by omega)
    rw [e,show (0:Int)=((0:Nat):Int) by rfl,Bs8 (by omega) (by omega)]
    simp [val]
  | [x,y],hl,_ =>
    have hx:=(Cq.1 hl).1
    have hy:=(Cq.1 (Cq.1 hl).2).1
    dsimp only
    rw [Ix];unfold Ig
    simp only [List.length_cons,List.length_nil,Int.toNat_zero,Nat.zero_mul,List.drop_zero,Z6,Bi]
    rw [show decide ((0:Int)<((0+1+1:Nat):Int))=true by decide,ct,show Am 0 (0+1+1)=true by decide,ct,show IntKind.wrap .i64 ((32:Int)*0)=0 by decide,show decide ((0:Int)<0)=false by decide,cf]
    rw [Ix];unfold Ig
    rw [show IntKind.wrap .i64 ((0:Int)+1)=1 by decide,show decide ((1:Int)<((0+1+1:Nat):Int))=true by decide,ct,show Am 1 (0+1+1)=true by decide,ct,show IntKind.wrap .i64 ((32:Int)*1)=32 by decide,show decide ((32:Int)<0)=false by decide]
    simp only [show Int.toNat 1*1=1 by rfl,List.drop_succ_cons,List.drop_zero,Bi,cf]
    rw [Ix];unfold Ig
    rw [show IntKind.wrap .i64 ((1:Int)+1)=2 by decide,show decide ((2:Int)<((0+1+1:Nat):Int))=false by decide,cf]
    have e:IntKind.wrap .u64 ((IntKind.wrap .u64 (x:Int))*2 ^ (min (Int.toNat 0) 64))=(x:Int):=by rw [w64 (by omega)];simp;exact w64 (by omega)
    have e2:IntKind.wrap .u64 ((IntKind.wrap .u64 (y:Int))*2 ^ (min (Int.toNat 32) 64))=((y*2 ^ 32:Nat):Int):=by
      rw [w64 (by omega),show (2:Int) ^ (min (Int.toNat 32) 64)=((2 ^ 32:Nat):Int) by rfl,Bi2,w64 (by omega)]
    rw [e,e2,show (0:Int)=((0:Nat):Int) by rfl,Bs8 (by omega) (by omega),Bs8 (by simp;omega) (by omega),Nat.zero_or,Nat.or_comm,A84 (by omega)]
    congr 1;simp only [val];omega
theorem Jb {N:Nat} {v:Nat} (hv:v<18446744073709551616) (hN:4≤N):∃ S,Af S∧val S=v∧∀ K:Nat→LA→Option R,Bo N (v:Int) K=K (dig v).length (Ad S):=by
  have hl:Af [v%4294967296,v/4294967296]:=Cq.2 ⟨by omega,Cq.2 ⟨by omega,T2⟩⟩
  have hval:val [v%4294967296,v/4294967296]=v:=by simp [val];omega
  refine ⟨_,hl,hval,fun K=>?_⟩
  rw [Adv];unfold Aa5 Aa4
  rw [A1z,A83,w32 (show v/4294967296<4294967296 by omega)]
  have:=Bi3 (R:=R) (N:=N) (l:=[v%4294967296,v/4294967296]) (K:=fun c=>K c (Ad [v%4294967296,v/4294967296])) hl (by simp) 2 N (by simp) (by omega)
  rw [show [v%4294967296,v/4294967296].take 2=[v%4294967296,v/4294967296] by rfl,hval] at this
  rw [Azg];unfold Bdi Bdh
  exact this
theorem Li {N:Nat} {l:List Nat} {n:Nat} {t o:Bool} {K:Int→Bool→Option R} (hn:n=l.length) (hl:Af l) (hf:fit l.length N):Zt N (Ad l) n t o K=if val l<18446744073709551616 then K (val l:Int) true else K 0 false:=by
  have h1:=hf.1
  rw [Aw6];unfold Azy Azx
  rw [Bt hn hl hf]
  by_cases h:val l<18446744073709551616
  · have:=Zg h
    rw [if_pos h,show decide ((((dig (val l)).length:Nat):Int)>2)=false by simp;omega,cf,Ait rfl (Ab _) this (by omega),Ag]
  · have:¬ (dig (val l)).length≤2:=fun h2=>h (A5l h2)
    rw [if_neg h,show decide ((((dig (val l)).length:Nat):Int)>2)=true by simp;omega,ct]
theorem Av0 {N:Nat} {l:List Nat} {n:Nat} {t o:Bool} {K:Nat→LA→Option R} (hn:n=l.length) (hl:Af l) (hf:fit l.length N):Ys N (Ad l) n t o K=K (dig (val l)).length (Ad (dig (val l))):=by
  have h1:=hf.1;have h2:=hf.2
  have:=(Bh hl).2
  rw [Ba0];unfold Bgi Bgh
  rw [Bt hn hl hf,mk4 (by omega),ct,Afl,Bool.or_true,ct]
  congr 1
  unfold Ei
  rw [Nat.min_self,Nat.mul_one,List.take_zero,List.nil_append,List.take_of_length_le (by rw [Bk];exact Nat.le_refl _),List.drop_eq_nil_of_le (by simp [Bk]),List.append_nil]
end
end Gx

namespace Gx
open Go Go.Proofs
section
variable {R:Type}
def Bz9:List UInt8:=[0,1,2,2,3,3,3,3,4,4,4,4,4,4,4,4,5,5,5,5,5,5,5,5,5,5,5,5,5,5,5,5,6,6,6,6,6,6,6,6,6,6,6,6,6,6,6,6,6,6,6,6,6,6,6,6,6,6,6,6,6,6,6,6,7,7,7,7,7,7,7,7,7,7,7,7,7,7,7,7,7,7,7,7,7,7,7,7,7,7,7,7,7,7,7,7,7,7,7,7,7,7,7,7,7,7,7,7,7,7,7,7,7,7,7,7,7,7,7,7,7,7,7,7,7,7,7,7,8,8,8,8,8,8,8,8,8,8,8,8,8,8,8,8,8,8,8,8,8,8,8,8,8,8,8,8,8,8,8,8,8,8,8,8,8,8,8,8,8,8,8,8,8,8,8,8,8,8,8,8,8,8,8,8,8,8,8,8,8,8,8,8,8,8,8,8,8,8,8,8,8,8,8,8,8,8,8,8,8,8,8,8,8,8,8,8,8,8,8,8,8,8,8,8,8,8,8,8,8,8,8,8,8,8,8,8,8,8,8,8,8,8,8,8,8,8,8,8,8,8,8,8,8,8,8,8]
theorem Bx3:∀ i:Fin 256,0<i.1→2 ^ (Bz9.getD i.1 0).toNat≤2*i.1∧i.1<2 ^ (Bz9.getD i.1 0).toNat:=by decide +kernel
theorem Bja {k y x m:Nat} (h:2 ^ k≤2*y∧y<2 ^ k) (hy:y=x/2 ^ m):2 ^ (k+m)≤2*x∧x<2 ^ (k+m):=by
  have hp:0<2 ^ m:=Nat.pow_pos (by omega)
  have h1:x<2 ^ m*(y+1):=by rw [hy];have:=Nat.div_add_mod x (2 ^ m);have:=Nat.mod_lt x hp;rw [Nat.mul_add];omega
  have h2:2 ^ m*y≤x:=by rw [hy];exact Nat.mul_div_le x _
  have h3:2 ^ m*(y+1)≤2 ^ m*2 ^ k:=Nat.mul_le_mul_left _ h.2
  have h4:2 ^ m*2 ^ k≤2 ^ m*(2*y):=Nat.mul_le_mul_left _ h.1
  rw [Nat.pow_add,Nat.mul_comm (2 ^ k)]
  have h5:2 ^ m*(2*y)=2*(2 ^ m*y):=by rw [Nat.mul_left_comm]
  omega
theorem Byr {a:Nat} (h:a<256):IntKind.wrap .u8 (a:Int)=(a:Int):=by rw [wrap_u8];congr 1;omega
theorem Bys {N:Nat} {a b:Nat} {K:Int→Option R} (h0:0<a) (h1:a<65536) (hb:b≤16):∃ k:Nat,2 ^ k≤2*a∧a<2 ^ k∧k≤16∧Fs N K (a:Int) (b:Int)=K ((b+k:Nat):Int):=by
  have small:∀ i:Nat,0<i→i<256→∃ k:Nat,(2 ^ k≤2*i∧i<2 ^ k)∧k≤8∧(Bz9.getD i 0).toNat=k:=by
    intro i hi hi2
    have:=Bx3 ⟨i,hi2⟩ hi
    refine ⟨_,this,?_,rfl⟩
    rcases Nat.lt_or_ge 8 (Bz9.getD i 0).toNat with h | h
    · have h3:=this.1
      have h4:2 ^ 9≤2 ^ (Bz9.getD i 0).toNat:=Nat.pow_le_pow_right (by omega) h
      simp only at h3
      omega
    · exact h
  by_cases h:a≥256
  · obtain ⟨k,p1,p2,p3⟩:=small (a/256) (by omega) (by omega)
    have p4:=Bja (m:=8) p1 (show a/256=a/2 ^ 8 by rfl)
    refine ⟨k+8,p4.1,p4.2,by omega,?_⟩
    unfold Fs G9
    rw [show decide (((a:Nat):Int)≥256)=true by simp;omega,ct,Rw a 8,show a/2 ^ 8=a/256 by rfl,Byr (by omega),Ah (by omega),ct,Int.toNat_natCast]
    change K (IntKind.wrap .i64 (IntKind.wrap .i64 ((b:Int)+8)+IntKind.wrap .i64 (((Bz9.getD (a/256) 0).toNat:Nat):Int)))=_
    rw [p3,i64 (a:=(b:Int)+8) (by omega),i64 (a:=(k:Int)) (by omega),i64 (by omega)]
    congr 1;omega
  · obtain ⟨k,p1,p2,p3⟩:=small a (by omega) (by omega)
    refine ⟨k,p1.1,p1.2,by omega,?_⟩
    unfold Fs G9
    rw [show decide (((a:Nat):Int)≥256)=false by simp;omega,cf,Byr (by omega),Ah (by omega),ct,Int.toNat_natCast]
    change K (IntKind.wrap .i64 ((b:Int)+IntKind.wrap .i64 (((Bz9.getD a 0).toNat:Nat):Int)))=_
    rw [p3,i64 (a:=(k:Int)) (by omega),i64 (by omega)]
    congr 1
theorem Btc {N:Nat} {c:Nat} {K:Int→Option R} (h0:0<c) (h1:c<4294967296):∃ k:Nat,2 ^ k≤2*c∧c<2 ^ k∧k≤32∧Jk N (c:Int) K=K (k:Int):=by
  rw [Xn];unfold Te Td
  by_cases h:c≥65536
  · obtain ⟨k,p1,p2,p3,p4⟩:=Bys (R:=R) (N:=N) (a:=c/65536) (b:=16) (K:=K) (by omega) (by omega) (by omega)
    have p5:=Bja (m:=16) ⟨p1,p2⟩ (show c/65536=c/2 ^ 16 by rfl)
    refine ⟨k+16,p5.1,p5.2,by omega,?_⟩
    rw [show decide (((c:Nat):Int)≥65536)=true by simp;omega,ct,Rw c 16,show c/2 ^ 16=c/65536 by rfl]
    rw [Nat.add_comm k];exact p4
  · obtain ⟨k,p1,p2,p3,p4⟩:=Bys (R:=R) (N:=N) (a:=c) (b:=0) (K:=K) (by omega) (by omega) (by omega)
    refine ⟨k,p1,p2,by omega,?_⟩
    rw [show decide (((c:Nat):Int)≥65536)=false by simp;omega,cf]
    rw [Nat.zero_add] at p4;exact p4
theorem Buf {N:Nat} {c:Nat} (h0:0<c) (h1:c<4294967296):∃ s:Nat,s≤31∧2147483648≤c*2 ^ s∧c*2 ^ s<4294967296∧∀ K:Int→Option R,Bu N (c:Int) K=K (s:Int):=by
  have key:∀ K:Int→Option R,∃ s:Nat,(s≤31∧2147483648≤c*2 ^ s∧c*2 ^ s<4294967296)∧Bu N (c:Int) K=K (s:Int):=by
    intro K
    rw [Jl];unfold F8 F7
    obtain ⟨k,p1,p2,p3,p4⟩:=Btc (R:=R) (N:=N) (K:=fun c=>K (IntKind.wrap .i64 ((32:Int) - c))) h0 h1
    have e:2 ^ k*2 ^ (32 - k)=4294967296:=by rw [← Nat.pow_add,show k+(32 - k)=32 by omega]
    have hk:1≤k:=by
      rcases Nat.eq_zero_or_pos k with h | h
      · subst h;simp at p2;omega
      · exact h
    refine ⟨32 - k,⟨by omega,?_,?_⟩,?_⟩
    · have:=Nat.mul_le_mul_right (2 ^ (32 - k)) p1
      rw [e,Nat.mul_assoc] at this;omega
    · have:=(Nat.mul_lt_mul_right (show 0<2 ^ (32 - k) from Nat.pow_pos (by omega))).2 p2
      rw [e] at this;exact this
    · rw [p4,i64 (by omega)];congr 1;omega
  obtain ⟨s,hs,_⟩:=key fun _=>none
  refine ⟨s,hs.1,hs.2.1,hs.2.2,fun K=>?_⟩
  obtain ⟨s',hs',e⟩:=key K
  have:s'=s:=by
    rcases Nat.lt_trichotomy s s' with h | h | h
    · exfalso
      have h2:2 ^ (s+1)≤2 ^ s':=Nat.pow_le_pow_right (by omega) h
      have h3:=Nat.mul_le_mul_left c h2
      rw [Nat.pow_succ,← Nat.mul_assoc] at h3
      omega
    · exact h.symm
    · exfalso
      have h2:2 ^ (s'+1)≤2 ^ s:=Nat.pow_le_pow_right (by omega) h
      have h3:=Nat.mul_le_mul_left c h2
      rw [Nat.pow_succ,← Nat.mul_assoc] at h3
      omega
  rw [e,this]
theorem Bo7 {s:Nat} (h:s≤31):2 ^ s≤2147483648:=Nat.pow_le_pow_right (n:=2) (by omega) h
theorem Bwv {x c s:Nat} (hx:x<4294967296) (hc:c<2 ^ s) (hs:s≤31):Pa .u64 (c:Int) (IntKind.wrap .u64 ((IntKind.wrap .u64 (x:Int))*2 ^ (min (Int.toNat (s:Int)) 64)))=((x*2 ^ s+c:Nat):Int)∧x*2 ^ s+c<4294967296*2 ^ s:=by
  have hp:=Bo7 hs
  have h1:x*2 ^ s≤4294967295*2 ^ s:=Nat.mul_le_mul_right _ (by omega)
  have h2:(x+1)*2 ^ s≤4294967296*2 ^ s:=Nat.mul_le_mul_right _ (by omega)
  rw [Nat.add_mul] at h2
  refine ⟨?_,by omega⟩
  rw [w64 (by omega),Int.toNat_natCast,Nat.min_eq_left (by omega),show (2:Int) ^ s=((2 ^ s:Nat):Int) by simp,Bi2,w64 (by omega),Bs8 (by omega) (by omega),Nat.or_comm,A84 hc]
theorem A5m {N:Nat} {a:List Nat} {t o:Bool} {s:Nat} (ha:Af a) (hs:s≤31) (hz':a.length≤1000000000000):∀ (m d fuel:Nat) (S:List Nat) (c:Nat),d+m=a.length→m<fuel→Af S→S.length=a.length+1→zer S d→c<2 ^ s →
    val S+4294967296 ^ d*c=val (a.take d)*2 ^ s →
    ∃ S',Af S'∧S'.length=a.length+1∧val S'=val a*2 ^ s∧∀ K:Nat→LA→Option R,Jy N K (Ad a) a.length t o (s:Int) fuel (a.length+1) (c:Int) (a.length:Int) (d:Int) (Ad S)=K (a.length+1) (Ad S')
  | 0,d,fuel+1,S,c,hd,_,hS,hl,hz,hc,hv=>by
    have hd':d=a.length:=by omega
    subst hd'
    have hp:=Bo7 hs
    rw [List.take_length] at hv
    refine ⟨S.set a.length c,B7 hS (by omega) _,by simpa using hl,by rw [Vx hz (by omega),hv],fun K=>?_⟩
    rw [Jy];unfold Qr
    rw [ltF (Nat.le_refl _),cf,Ah (by omega),ct,Bzq (by omega),ct,w32 (by omega),Byq]
  | m+1,d,fuel+1,S,c,hd,hfu,hS,hl,hz,hc,hv=>by
    have hda:d<a.length:=by omega
    have ad:=Az ha hda
    obtain ⟨w1,w2⟩:=Bwv ad hc hs
    generalize hsd:a[d]*2 ^ s+c=w at *
    have hpos:0<2 ^ s:=Nat.pow_pos (by omega)
    have key:val (S.set d (w%4294967296))+4294967296 ^ (d+1)*(w/4294967296)=val (a.take (d+1))*2 ^ s:=by
      rw [Vx hz (by omega),Au hda,Nat.pow_succ,Nat.add_mul,Nat.mul_assoc _ a[d]]
      have e:=Lh (4294967296 ^ d) w
      have e2:4294967296 ^ d*w=4294967296 ^ d*(a[d]*2 ^ s)+4294967296 ^ d*c:=by rw [← hsd,Nat.mul_add]
      omega
    obtain ⟨S',q1,q2,q3,q4⟩:=A5m (t:=t) (o:=o) ha hs hz' m (d+1) fuel (S.set d (w%4294967296)) (w/4294967296) (by omega) (by omega) (B7 hS (by omega) d) (by simpa using hl) (Afn hz) (Nat.div_lt_of_lt_mul w2) key
    refine ⟨S',q1,q2,q3,fun K=>?_⟩
    rw [Jy];unfold Qr
    rw [ltT hda,ct,Ah hda,ct,rdl hda,show decide (((s:Nat):Int)<0)=false by simp,cf,Ah (by omega),ct,st1 (by omega),ct,w1,A83,A1z,Atm,wS (by omega)]
    exact q4 K
theorem A5n {N:Nat} {a:List Nat} {n:Nat} {t o:Bool} {s:Nat} (hn:n=a.length) (ha:Af a) (hs:s≤31) (hf:fit a.length N) :
    ∃ S',Af S'∧S'.length=a.length+1∧val S'=val a*2 ^ s∧∀ K:Nat→LA→Option R,Th N (Ad a) n t o (s:Int) K=K (a.length+1) (Ad S'):=by
  subst hn
  have h1:=hf.1;have h2:=hf.2
  obtain ⟨S',q1,q2,q3,q4⟩:=A5m (R:=R) (N:=N) (t:=t) (o:=o) ha hs (by omega) a.length 0 N (List.replicate (a.length+1) 0) 0 (by omega) (by omega) (B4 _) (by simp) (J8 _) (Nat.pow_pos (by omega)) (by rw [Db];simp [val])
  refine ⟨S',q1,q2,q3,fun K=>?_⟩
  rw [Arl];unfold Ark Arj
  rw [wmk (by omega),mk4 (by omega),ct,Int.toNat_natCast,Ci]
  exact q4 K
end
end Gx

namespace Gx
open Go Go.Proofs
section
variable {R:Type}
theorem rdw {P U Q:List Nat} {i:Nat} (h:i<U.length) {f:Int→Option R}:rdI .u32 (List.drop (P.length+((Int.toNat (i:Int))*1)) (Ad (P++(U++Q)))) f=f (U[i]:Nat):=by
  rw [Int.toNat_natCast,Nat.mul_one,Bq5 (by simp;omega)]
  congr 2
  rw [List.getElem_append_right (by omega)]
  simp only [Nat.add_sub_cancel_left]
  rw [List.getElem_append_left h]
theorem stw {P U Q:List Nat} {i:Nat} (h:i<U.length):((Nat.beq 1 1)&&((Nat.ble ((P.length+((Int.toNat (i:Int))*1))+1) (List.length (Ad (P++(U++Q)))))&&(!false)))=true:=by
  rw [Bk,Int.toNat_natCast];simp;omega
theorem Bww {P U Q:List Nat} {i v:Nat} (h:i<U.length):List.set (Ad (P++(U++Q))) (P.length+((Int.toNat (i:Int))*1)) (.int .u32 (v:Int))=Ad (P++(U.set i v++Q)):=by
  rw [Int.toNat_natCast,Nat.mul_one,A5h,List.set_append_right _ _ (by omega),Nat.add_sub_cancel_left,List.set_append_left _ _ h]
theorem Bz2 {P U Q:List Nat} {i:Nat} (h:i<U.length) {f:Int→Option R}:rdI .u32 (List.drop (P.length+(i*1)) (Ad (P++(U++Q)))) f=f (U[i]:Nat):=by
  have:=rdw (R:=R) (P:=P) (Q:=Q) (f:=f) h;rw [Int.toNat_natCast] at this;exact this
theorem A5o {X:List Nat} {p g:Nat} (h:p<X.length):val ((X.set p g).take (p+1))=val (X.take p)+4294967296 ^ p*g:=by
  rw [Au (by simpa using h),List.getElem_set_self,List.take_set_of_le (Nat.le_refl _)]
theorem Aiu {X:List Nat} {n:Nat} (h:X.length=n+1):val X=val (X.take n)+4294967296 ^ n*X[n]:=by
  have:=Au (l:=X) (c:=n) (by omega)
  rwa [List.take_of_length_le (by omega)] at this
theorem Bug {D:Nat} (h:1≤D) (h2:D<18446744073709551616):IntKind.wrap .u64 ((D:Int) - 1)=((D - 1:Nat):Int):=by rw [A10];omega
theorem Bx4 {D y t:Nat} (hD:D<4294967296) (hy:y<4294967296) (ht:t≤4294967296):D*y+t<18446744073709551616∧(D*y+t)/4294967296+1≤4294967296:=by
  have:D*y≤4294967295*4294967295:=Nat.mul_le_mul (by omega) (by omega)
  omega
theorem Buh {N:Nat} {P Q X v:List Nat} {n D:Nat} {f g:Bool} (hv:Af v) (hn:v.length=n) (hX:Af X) (hXl:X.length=n+1) (hs:n≤1000000000000) (hD:D<4294967296) (hD1:1≤D) {r:Nat} (hr:val X+val v=4294967296 ^ (n+1)+r) (hrv:r<4294967296 ^ n) :
    ∀ (m o fuel:Nat) (Y:List Nat) (c:Nat),o+m=n→m<fuel→Af Y→Y.length=n+1→(∀ j (h1:j<Y.length) (h2:j<X.length),o≤j→Y[j]=X[j])→c≤1→val (Y.take o)+4294967296 ^ o*c=val (X.take o)+val (v.take o) →
    ∃ Y',Af Y'∧Y'.length=n+1∧val Y'=r∧∀ K:Int→LA→Option R,Gd N K P.length (n+1) (n:Int) (D:Int) (Ad v) n f g fuel (c:Int) (n:Int) (o:Int) (Ad (P++(Y++Q)))=K ((D - 1:Nat):Int) (Ad (P++(Y'++Q)))
  | 0,o,fuel+1,Y,c,ho,_,hY,hYl,hag,hc,hval=>by
    have ho':o=n:=by omega
    subst ho'
    rw [show v.take o=v by rw [← hn];exact List.take_length] at hval
    have e1:=Aiu hXl
    have eq:val (Y.take o)+4294967296 ^ o*(X[o]+c)=4294967296 ^ o*4294967296+r:=by
      rw [Nat.mul_add,← Nat.pow_succ];omega
    have yt:=Bc (Bz hY o)
    rw [List.length_take,Nat.min_eq_left (by omega)] at yt
    have hP:0<4294967296 ^ o:=Nat.pow_pos (by omega)
    have hw:X[o]+c=4294967296:=by
      have h1:(val (Y.take o)+4294967296 ^ o*(X[o]+c))/4294967296 ^ o=X[o]+c:=by rw [Nat.add_mul_div_left _ _ hP,Nat.div_eq_of_lt yt,Nat.zero_add]
      have h2:(4294967296 ^ o*4294967296+r)/4294967296 ^ o=4294967296:=by rw [Nat.mul_add_div hP,Nat.div_eq_of_lt hrv,Nat.add_zero]
      rw [← h1,eq,h2]
    have hyr:val (Y.take o)=r:=by rw [hw] at eq;omega
    have hyo:Y[o]=X[o]:=hag o (by omega) (by omega) (Nat.le_refl _)
    have hl2:(Y.set o 0).length=o+1:=by simpa using hYl
    refine ⟨Y.set o 0,B7 hY (by omega) o,hl2,?_,fun K=>?_⟩
    · have:=A5o (X:=Y) (p:=o) (g:=0) (by omega)
      rw [List.take_of_length_le (by omega),hyr] at this;simpa using this
    · rw [Gd];unfold Mb
      have hXo:=Az hX (show o<X.length by omega)
      rw [ltF (Nat.le_refl _),cf,Ah (by omega),ct,rdw (by omega),ct,stw (by omega),ct,hyo,w32 (show c<4294967296 by omega),Aiq,hw,A1z,Bww (by omega),Bug hD1 (by omega),w32 (by omega)]
  | m+1,o,fuel+1,Y,c,ho,hfu,hY,hYl,hag,hc,hval=>by
    have hon:o<n:=by omega
    have hov:o<v.length:=by omega
    have vo:=Az hv hov
    have hoy:o<Y.length:=by omega
    have yo:=Az hY hoy
    have hyo:Y[o]=X[o]:=hag o (by omega) (by omega) (Nat.le_refl _)
    have hs1:c+(Y[o]+v[o])<18446744073709551616:=by omega
    have hs2:(c+(Y[o]+v[o]))/4294967296≤1:=by omega
    generalize hsd:c+(Y[o]+v[o])=s at *
    have key:val ((Y.set o (s%4294967296)).take (o+1))+4294967296 ^ (o+1)*(s/4294967296)=val (X.take (o+1))+val (v.take (o+1)):=by
      rw [A5o hoy,Au (l:=X) (by omega),Au hov,Nat.pow_succ]
      have e:=Lh (4294967296 ^ o) s
      have e2:4294967296 ^ o*s=4294967296 ^ o*c+(4294967296 ^ o*X[o]+4294967296 ^ o*v[o]):=by rw [← hsd,Nat.mul_add,Nat.mul_add,hyo]
      omega
    obtain ⟨Y',q1,q2,q3,q4⟩:=Buh (N:=N) (P:=P) (Q:=Q) (f:=f) (g:=g) hv hn hX hXl hs hD hD1 hr hrv m (o+1) fuel (Y.set o (s%4294967296)) (s/4294967296) (by omega) (by omega) (B7 hY (by omega) o) (by simpa using hYl) (fun j h1 h2 hj=>by rw [List.getElem_set,if_neg (by omega)];exact hag j (by simpa using h1) h2 (by omega)) hs2 key
    refine ⟨Y',q1,q2,q3,fun K=>?_⟩
    rw [Gd];unfold Mb
    rw [ltT hon,ct,Ah hon,ct,rdl hov,Ah (by omega),ct,rdw hoy,ct,stw hoy,ct,w64 (show v[o]<18446744073709551616 by omega),w64 (show Y[o]<18446744073709551616 by omega),Aiq,w64 (by omega),Aiq,hsd,w64 hs1,A83,A1z,Bww hoy,wS (by omega)]
    exact q4 K
theorem Bwx {N:Nat} {P Q U v:List Nat} {n D:Nat} {f g:Bool} (hv:Af v) (hn:v.length=n) (hU:Af U) (hUl:U.length=n+1) (hs:n≤1000000000000) (hN:n+2<N) (hD:D<4294967296) (hv0:0<val v) (hq1:val U/val v≤D) (hq2:D≤val U/val v+1) :
    ∀ (m p fuel:Nat) (X:List Nat) (t:Nat),p+m=n→m<fuel→Af X→X.length=n+1→(∀ j (h1:j<X.length) (h2:j<U.length),p≤j→X[j]=U[j])→t≤4294967296→val (X.take p)+D*val (v.take p)=val (U.take p)+4294967296 ^ p*t →
    ∃ X',Af X'∧X'.length=n+1∧val X'=val U%val v∧∀ K:Int→LA→Option R,Ej N K P.length (n+1) (Ad v) n f g (n:Int) (D:Int) fuel (t:Int) (n:Int) (p:Int) (Ad (P++(X++Q)))=K ((val U/val v:Nat):Int) (Ad (P++(X'++Q)))
  | 0,p,fuel+1,X,t,hp,_,hX,hXl,hag,ht,hval=>by
    have hp':p=n:=by omega
    subst hp'
    rw [show v.take p=v by rw [← hn];exact List.take_length] at hval
    have hXp:X[p]=U[p]:=hag p (by omega) (by omega) (Nat.le_refl _)
    have up:=Az hU (show p<U.length by omega)
    obtain ⟨d,c,g1,g2,g3,g4,g5⟩:=Avz up ht
    have hl2:(X.set p d).length=p+1:=by simpa using hXl
    have hX2:=B7 hX g1 p
    have hv2:val (X.set p d)=val (X.take p)+4294967296 ^ p*d:=by
      have:=A5o (X:=X) (p:=p) (g:=d) (by omega)
      rwa [List.take_of_length_le (by omega)] at this
    have eU:=Aiu hUl
    have main:val (X.set p d)+D*val v=val U+4294967296 ^ (p+1)*c:=by
      have e:4294967296 ^ p*(U[p]+4294967296*c)=4294967296 ^ p*(d+t):=by rw [g3]
      rw [Nat.mul_add,Nat.mul_add,← Nat.mul_assoc] at e
      rw [hv2,eU,Nat.pow_succ];omega
    have hlt:=Bc hX2
    rw [hl2] at hlt
    have hdm:=Nat.div_add_mod (val U) (val v)
    have hmod:=Nat.mod_lt (val U) hv0
    have vlt:=Bc hv
    rw [hn] at vlt
    by_cases hc:c=0
    · subst hc
      have hDq:D=val U/val v:=by
        have:D≤val U/val v:=by rw [Nat.le_div_iff_mul_le hv0];omega
        omega
      refine ⟨X.set p d,hX2,hl2,?_,fun K=>?_⟩
      · rw [hDq,Nat.mul_comm] at main;omega
      · rw [Ej];unfold Hx
        rw [ltF (Nat.le_refl _),cf,Ah (by omega),ct,rdw (by omega),ct,stw (by omega),ct,hXp,w64 (show U[p]<18446744073709551616 by omega),g4,g5,show (((0:Nat):Int)==0)=true by rfl,ct,w32 hD,Bww (by omega),hDq]
    · have hc1:c=1:=by omega
      subst hc1
      have hDq:D=val U/val v+1:=by
        have:¬ D≤val U/val v:=fun h=>by
          have:=Nat.mul_le_mul_left (val v) h
          rw [Nat.mul_comm] at this
          omega
        omega
      have hr:val (X.set p d)+val v=4294967296 ^ (p+1)+val U%val v:=by
        rw [hDq,Nat.add_mul,Nat.mul_comm (val U/val v)] at main;omega
      obtain ⟨Y',q1,q2,q3,q4⟩:=Buh (R:=R) (N:=N) (P:=P) (Q:=Q) (f:=f) (g:=g) (X:=X.set p d) hv hn hX2 hl2 hs hD (by rw [hDq];exact Nat.le_add_left 1 _) hr (by omega) p 0 N (X.set p d) 0 (by omega) (by omega) hX2 hl2 (fun _ _ _ _=>rfl) (by omega) (by simp [val])
      refine ⟨Y',q1,q2,q3,fun K=>?_⟩
      rw [Ej];unfold Hx
      rw [ltF (Nat.le_refl _),cf,Ah (by omega),ct,rdw (by omega),ct,stw (by omega),ct,hXp,w64 (show U[p]<18446744073709551616 by omega),g4,g5,show (((1:Nat):Int)==0)=false by rfl,cf,Bww (by omega)]
      have:=q4 K
      rw [show D - 1=val U/val v by rw [hDq];rfl] at this
      exact this
  | m+1,p,fuel+1,X,t,hp,hfu,hX,hXl,hag,ht,hval=>by
    have hpn:p<n:=by omega
    have hpv:p<v.length:=by omega
    have vp:=Az hv hpv
    have hpx:p<X.length:=by omega
    have hXp:X[p]=U[p]:=hag p (by omega) (by omega) (Nat.le_refl _)
    have up:=Az hU (show p<U.length by omega)
    obtain ⟨hw1,hw2⟩:=Bx4 hD vp ht
    have hDv:D*v[p]<18446744073709551616:=by omega
    generalize hpp:D*v[p]+t=w at *
    obtain ⟨d,c,g1,g2,g3,g4,g5⟩:=Avz up (show w%4294967296≤4294967296 by omega)
    have key:val ((X.set p d).take (p+1))+D*val (v.take (p+1))=val (U.take (p+1))+4294967296 ^ (p+1)*(w/4294967296+c):=by
      rw [A5o hpx,Au hpv,Au (l:=U) (by omega),Nat.pow_succ]
      have e:=Lh (4294967296 ^ p) w
      have e2:4294967296 ^ p*w=4294967296 ^ p*(D*v[p])+4294967296 ^ p*t:=by rw [← hpp,Nat.mul_add]
      have e3:4294967296 ^ p*(U[p]+4294967296*c)=4294967296 ^ p*(d+w%4294967296):=by rw [g3]
      rw [Nat.mul_add,Nat.mul_add,← Nat.mul_assoc] at e3
      have e4:D*(val (v.take p)+4294967296 ^ p*v[p])=D*val (v.take p)+4294967296 ^ p*(D*v[p]):=by rw [Nat.mul_add,Nat.mul_left_comm]
      rw [e4,Nat.mul_add]
      omega
    obtain ⟨X',q1,q2,q3,q4⟩:=Bwx (N:=N) (P:=P) (Q:=Q) (f:=f) (g:=g) hv hn hU hUl hs hN hD hv0 hq1 hq2 m (p+1) fuel (X.set p d) (w/4294967296+c) (by omega) (by omega) (B7 hX g1 p) (by simpa using hXl) (fun j h1 h2 hj=>by rw [List.getElem_set,if_neg (by omega)];exact hag j (by simpa using h1) h2 (by omega)) (by omega) key
    refine ⟨X',q1,q2,q3,fun K=>?_⟩
    rw [Ej];unfold Hx
    rw [ltT hpn,ct,Ah hpn,ct,rdl hpv,Ah (by omega),ct,rdw hpx,ct,stw hpx,ct,hXp,w64 (show v[p]<18446744073709551616 by omega),Bi2,w64 hDv,Aiq,hpp,w64 hw1,A1z,w64 (show w%4294967296<18446744073709551616 by omega),w64 (show U[p]<18446744073709551616 by omega),g4,g5,A83,Aiq,w64 (by omega),Bww hpx,wS (by omega)]
    exact q4 K
end
end Gx
