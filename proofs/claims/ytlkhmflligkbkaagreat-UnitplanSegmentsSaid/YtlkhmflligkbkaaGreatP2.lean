/- A part of the proof: what it holds is said by each theorem. -/
import Derived.Test.YtlkhmflligkbkaaGreatP1
set_option linter.unusedVariables false
namespace Gx
open Go Go.Proofs
set_option maxRecDepth 100000
noncomputable section
variable {R:Type}
def Xz (N:Nat)  (r0:Nat→LA→Option R) (c:LA) (b:Nat) (e d:Bool) (k0:Int→Option R)  (a:Int):Option R :=
 (cond ((decide (a>(0:Int)))==true) (cond (Am (IntKind.wrap .i64 (a - (1:Int))) b) (rdI .u32 (List.drop ((Int.toNat (IntKind.wrap .i64 (a - (1:Int))))*1) c) fun g=>(cond (cond true (g==(0:Int)) false) (k0 (IntKind.wrap .i64 (a - (1:Int)))) (cond ((decide ((0:Int)≤(0:Int)))&&((decide ((0:Int)≤a))&&((decide (a≤((b:Nat):Int)))&&(decide (((b:Nat):Int)≤((b:Nat):Int)))))) (cond ((!d)||(Bv (List.take ((Int.toNat a)*1) c))) (cond ((Nat.ble (0+(Int.toNat a)) 140737488355328)&&(Nat.ble ((0+(Int.toNat a))*4) 140737488355328)) (r0 (0+(Int.toNat a)) (List.take ((Int.toNat a)*1) c)) none) none) none))) none) (cond ((decide ((0:Int)≤(0:Int)))&&((decide ((0:Int)≤a))&&((decide (a≤((b:Nat):Int)))&&(decide (((b:Nat):Int)≤((b:Nat):Int)))))) (cond ((!d)||(Bv (List.take ((Int.toNat a)*1) c))) (cond ((Nat.ble (0+(Int.toNat a)) 140737488355328)&&(Nat.ble ((0+(Int.toNat a))*4) 140737488355328)) (r0 (0+(Int.toNat a)) (List.take ((Int.toNat a)*1) c)) none) none) none))
def Pb (N:Nat)  (r0:Nat→LA→Option R) (c:LA) (b:Nat) (e d:Bool):Nat→Int→Option R
 | 0,_=>none
 | n+1,a=>(Xz N r0 c b e d (Pb N r0 c b e d n) a)
def Auk (N:Nat) (r0:Nat→LA→Option R) (q0:Int→Option R) (c:LA) (b:Nat) (e d:Bool):Option R :=
 (q0 ((b:Nat):Int))
def Aul (N:Nat) (c:LA) (b:Nat) (e d:Bool) (r0:Nat→LA→Option R):Option R:=(Auk N r0 (fun a=>(Pb N r0 c b e d N a)) c b e d)
def C1:=(Ai (@Aul R)).1
theorem Aji:@C1 R=@Aul R:=(Ai _).2
def Ada:Hints:={ H:=(hS (hR [0]) (hS (hR [0,3]) (hS (hN [0,3] (hN [0,3] (hS (hS (hR [0,3,15]) (hN [0,3] hL hL)) (hN [0,3] (hR [0,3]) hL)) hL) hL) (hS (hR [2]) hL)))),nils:=[(2,1)],modes:=[(2,1)],free:=[],cob:=[] }
def Ajj (N:Nat):List (Nat×Tw):=[]
def Ajk (N:Nat):Env:=mkE 23 Ada (Ajj N)
def Bn1 (N:Nat) (F:KF R):=Aq (Ajk N) Tryz.f143 Ada.modes [] F
def A97 (N:Nat) (F:KF R):=atF (Ajk N) [] N Tryz.f143 Ada (Bn1 N F)
def V5  (F:KF R):Nat→LA→Option R:=(fun i j=>F (.own 300000 0 i) [(300000,⟨false,false,true,false,1,j,false⟩)])
def Pc (c:LA) (b:Nat) (e d:Bool) (a:Int):St:={ s:=[(0,(.imm c b 1 e d)),(3,(.int .i64 a))],h:=[] }
def A98 (N:Nat) (F:KF R):St→Option R:=Bx (Ajk N) [] N (A97 N F [1,1,0,0] []) N
def Adb (N:Nat) (F:KF R) (n:Nat):St→Option R:=Ba (Ajk N) [] N (A97 N F [1,1,0,0] []) n
theorem Bew (N:Nat)  (F:KF R) (c:LA) (b:Nat) (e d:Bool):∀ (n:Nat) (a:Int),Adb N F n (Pc c b e d a)=(Pb N (V5 F) c b e d n a):=by
 intro n
 induction n with
 | zero=>intros;kernel_rfl
 | succ n ih =>
  intro a
  have e0:=funext fun a=>(show Adb N F n (Pc c b e d a)=_ from ih a)
  have hK:Adb N F (n+1) (Pc c b e d a)=(Xz N (V5 F) c b e d (fun a=>Adb N F n (Pc c b e d a)) a):=by kernel_rfl
  exact hK.trans (by rw [e0];rfl)
theorem Apu (N:Nat) (c:LA) (b:Nat) (e d:Bool) (F:KF R):Ac Tryz.prog muts (Ajj N) Ada N 143 [(.imm c b 1 e d)] [] F=(C1 N c b e d (V5 F)):=by
 have e1:=funext fun a=>(show A98 N F (Pc c b e d a)=_ from (Ar ..).trans (Bew N F c b e d N a))
 have hK:Ac Tryz.prog muts (Ajj N) Ada N 143 [(.imm c b 1 e d)] [] F=(Auk N (V5 F) (fun a=>A98 N F (Pc c b e d a)) c b e d):=by kernel_rfl
 rw [Aji]
 exact hK.trans (by rw [e1];rfl)
def X0 (N:Nat) (args:List AV) (h:Aj) (k:KF R):Option R :=
 match args,h with
 | [(.imm c b 1 e d)],[]=>(C1 N c b e d (V5 k))
 | _,_=>none
def D7 (N:Nat):Tw:=⟨X0 N,fun args h k=>by
 unfold X0;split
 exact twE (Apu ..) (Apu ..)
 rfl⟩
theorem E2 (N:Nat):A1 Tryz.prog 143 (D7 N):=fun args h res f hh=>by
 change X0 N args h (fun v f=>some (v,f))=_ at hh
 unfold X0 at hh;split at hh
 exact Aa (T:=Ajj N) trivial follows ((Apu ..).trans hh)
 cases hh
def Ws (N:Nat) (r0:Nat→LA→Option R)  (a:Int):Option R :=
 (C1 N [(.int .u32 (IntKind.wrap .u32 a)),(.int .u32 (IntKind.wrap .u32 (Int.fdiv a (2 ^ 32))))] 2 false true (fun c d=>(r0 c d)))
def Wt (N:Nat) (a:Int) (r0:Nat→LA→Option R):Option R:=(Ws N r0 a)
def D8:=(Ai (@Wt R)).1
theorem Aaq:@D8 R=@Wt R:=(Ai _).2
def Adc:Hints:={ H:=(hS (hR [0]) (hS (hR [2]) hL)),nils:=[(2,1)],modes:=[(2,1)],free:=[],cob:=[] }
def Si (N:Nat):List (Nat×Tw):=[(143,D7 N)]
def Pw  (F:KF R):Nat→LA→Option R:=(fun e f=>F (.own 300000 0 e) [(300000,⟨false,false,true,false,1,f,false⟩)])
theorem Px (N:Nat) (a:Int) (F:KF R):Ac Tryz.prog muts (Si N) Adc N 94 [(.int .u64 a)] [] F=(D8 N a (Pw F)):=by
 have hK:Ac Tryz.prog muts (Si N) Adc N 94 [(.int .u64 a)] [] F=(Ws N (Pw F) a):=by kernel_rfl
 rw [Aaq]
 exact hK
def It (N:Nat) (args:List AV) (h:Aj) (k:KF R):Option R :=
 match args,h with
 | [(.int .u64 a)],[]=>(D8 N a (Pw k))
 | _,_=>none
def Py (N:Nat):Tw:=⟨It N,fun args h k=>by
 unfold It;split
 exact twE (Px ..) (Px ..)
 rfl⟩
theorem Add (N:Nat):A1 Tryz.prog 94 (Py N):=fun args h res b hh=>by
 change It N args h (fun v b=>some (v,b))=_ at hh
 unfold It at hh;split at hh
 exact Aa (T:=Si N) ⟨E2 N,trivial⟩ follows ((Px ..).trans hh)
 cases hh
def A6i (N:Nat) (r0:LA→Option R)  (a:Bool) (b:LA) (c:Nat) (e d:Bool):Option R :=
 (C1 N b c false d (fun f g=>(cond (a==true) (r0 [(.bool (cond true (decide (((f:Nat):Int)>(0:Int))) false)),(.imm (List.take (f*1) g) f 1 false false)]) (r0 [(.bool false),(.imm (List.take (f*1) g) f 1 false false)]))))
def A6j (N:Nat) (a:Bool) (b:LA) (c:Nat) (e d:Bool) (r0:LA→Option R):Option R:=(A6i N r0 a b c e d)
def Es:=(Ai (@A6j R)).1
theorem A2w:@Es R=@A6j R:=(Ai _).2
def A99:Hints:={ H:=(hS (hR [0,1,4]) (hS (hR [0,4,5]) (hS (hR [4]) hL))),nils:=[],modes:=[(3,0)],free:=[],cob:=[] }
def Ayr (N:Nat):List (Nat×Tw):=[(143,D7 N)]
def Apv  (F:KF R):LA→Option R:=(fun j=>F (.pagg j false) [])
theorem Apw (N:Nat) (a:Bool) (b:LA) (c:Nat) (e d:Bool) (F:KF R):Ac Tryz.prog muts (Ayr N) A99 N 93 [(.bool a),(.imm b c 1 e d)] [] F=(Es N a b c e d (Apv F)):=by
 have hK:Ac Tryz.prog muts (Ayr N) A99 N 93 [(.bool a),(.imm b c 1 e d)] [] F=(A6i N (Apv F) a b c e d):=by kernel_rfl
 rw [A2w]
 exact hK
def X1 (N:Nat) (args:List AV) (h:Aj) (k:KF R):Option R :=
 match args,h with
 | [(.bool a),(.imm b c 1 e d)],[]=>(Es N a b c e d (Apv k))
 | _,_=>none
def Gl (N:Nat):Tw:=⟨X1 N,fun args h k=>by
 unfold X1;split
 exact twE (Apw ..) (Apw ..)
 rfl⟩
theorem If (N:Nat):A1 Tryz.prog 93 (Gl N):=fun args h res i hh=>by
 change X1 N args h (fun v i=>some (v,i))=_ at hh
 unfold X1 at hh;split at hh
 exact Aa (T:=Ayr N) ⟨E2 N,trivial⟩ follows ((Apw ..).trans hh)
 cases hh
def Ajl (N:Nat) (r0:LA→Option R)  (a:Int):Option R :=
 (cond (decide (a<(0:Int))) (D8 N (IntKind.wrap .u64 ((IntKind.wrap .u64 (IntKind.wrap .i64 ((0:Int) - (IntKind.wrap .i64 (a+(1:Int))))))+(1:Int))) (fun d g=>(Es N true (List.take (d*1) g) d false true (fun b=>(cond ((Nat.beq 0 0)&&((Nat.beq (List.length b) 2)&&(Nat.beq 2 2))) (cond (Nat.ble 2 (List.length b)) (r0 (List.take 2 b)) none) none))))) (D8 N (IntKind.wrap .u64 a) (fun e i=>(Es N false (List.take (e*1) i) e false true (fun c=>(cond ((Nat.beq 0 0)&&((Nat.beq (List.length c) 2)&&(Nat.beq 2 2))) (cond (Nat.ble 2 (List.length c)) (r0 (List.take 2 c)) none) none))))))
def Ajm (N:Nat) (a:Int) (r0:LA→Option R):Option R:=(Ajl N r0 a)
def E3:=(Ai (@Ajm R)).1
theorem An5:@E3 R=@Ajm R:=(Ai _).2
def Apx:Hints:={ H:=(hS (hR [0,2]) (hS (hS (hR [0,2,4]) (hN [0,2] (hS (hR [2]) hL) hL)) (hS (hR [2]) hL))),nils:=[],modes:=[(3,0)],free:=[],cob:=[] }
def Af0 (N:Nat):List (Nat×Tw):=[(94,Py N),(93,Gl N)]
def Aar  (F:KF R):LA→Option R:=(fun j=>F (.pagg j false) [])
theorem Aas (N:Nat) (a:Int) (F:KF R):Ac Tryz.prog muts (Af0 N) Apx N 55 [(.int .i64 a)] [] F=(E3 N a (Aar F)):=by
 have hK:Ac Tryz.prog muts (Af0 N) Apx N 55 [(.int .i64 a)] [] F=(Ajl N (Aar F) a):=by kernel_rfl
 rw [An5]
 exact hK
def Nt (N:Nat) (args:List AV) (h:Aj) (k:KF R):Option R :=
 match args,h with
 | [(.int .i64 a)],[]=>(E3 N a (Aar k))
 | _,_=>none
def Pz (N:Nat):Tw:=⟨Nt N,fun args h k=>by
 unfold Nt;split
 exact twE (Aas ..) (Aas ..)
 rfl⟩
theorem Aat (N:Nat):A1 Tryz.prog 55 (Pz N):=fun args h res f hh=>by
 change Nt N args h (fun v f=>some (v,f))=_ at hh
 unfold Nt at hh;split at hh
 exact Aa (T:=Af0 N) ⟨Add N,If N,trivial⟩ follows ((Aas ..).trans hh)
 cases hh
def A6k (N:Nat) (r0:LA→Option R)  (a:LA) (b:Bool):Option R :=
 (rdB a fun e=>(rdL 1 (List.drop 1 a) fun f g=>(Es N e f g false b (fun c=>(cond ((Nat.beq 0 0)&&((Nat.beq (List.length c) 2)&&(Nat.beq 2 2))) (cond (Nat.ble 2 (List.length c)) (r0 (List.take 2 c)) none) none)))))
def A6l (N:Nat) (a:LA) (b:Bool) (r0:LA→Option R):Option R:=(A6k N r0 a b)
def Aau:=(Ai (@A6l R)).1
theorem A2x:@Aau R=@A6l R:=(Ai _).2
def Baa:Hints:={ H:=(hS (hR [1,2]) (hS (hR [2]) hL)),nils:=[],modes:=[(3,0)],free:=[],cob:=[] }
def Ays (N:Nat):List (Nat×Tw):=[(93,Gl N)]
def Apy  (F:KF R):LA→Option R:=(fun i=>F (.pagg i false) [])
theorem Apz (N:Nat) (a:LA) (b:Bool) (F:KF R):Ac Tryz.prog muts (Ays N) Baa N 88 [(.pagg a b)] [] F=(Aau N a b (Apy F)):=by
 have hK:Ac Tryz.prog muts (Ays N) Baa N 88 [(.pagg a b)] [] F=(A6k N (Apy F) a b):=by kernel_rfl
 rw [A2x]
 exact hK
def X2 (N:Nat) (args:List AV) (h:Aj) (k:KF R):Option R :=
 match args,h with
 | [(.pagg a b)],[]=>(Aau N a b (Apy k))
 | _,_=>none
def Ap0 (N:Nat):Tw:=⟨X2 N,fun args h k=>by
 unfold X2;split
 exact twE (Apz ..) (Apz ..)
 rfl⟩
theorem Bab (N:Nat):A1 Tryz.prog 88 (Ap0 N):=fun args h res d hh=>by
 change X2 N args h (fun v d=>some (v,d))=_ at hh
 unfold X2 at hh;split at hh
 exact Aa (T:=Ays N) ⟨If N,trivial⟩ follows ((Apz ..).trans hh)
 cases hh
def A6m (N:Nat) (r0:Int→Option R)  (a:LA) (b:Bool):Option R :=
 (cond (Nat.ble 2 (List.length a)) (Aau N (List.take 2 a) b (fun c=>(cond ((Nat.beq (List.length c) 2)&&((Nat.ble 2 (List.length a))&&(!false))) (rdB (setCells a 0 c) fun e=>(cond e (r0 (-1)) (rdL 1 (List.drop 1 (setCells a 0 c)) fun i f=>(cond (((f:Nat):Int)==(0:Int)) (r0 0) (r0 1))))) none))) none)
def A6n (N:Nat) (a:LA) (b:Bool) (r0:Int→Option R):Option R:=(A6m N r0 a b)
def Aav:=(Ai (@A6n R)).1
theorem A2y:@Aav R=@A6n R:=(Ai _).2
def Bac:Hints:={ H:=(hS (hR [1]) (hS (hR [1]) (hS (hS (hS (hR [1,5]) (hS (hS (hR [2]) hL) (hS (hR [8]) (hS (hS (hR [2]) hL) hL)))) hL) (hS (hR [2]) hL)))),nils:=[],modes:=[],free:=[],cob:=[] }
def Ayt (N:Nat):List (Nat×Tw):=[(88,Ap0 N)]
def Ap1  (F:KF R):Int→Option R:=(fun g=>F (.int .i64 g) [])
theorem Ap2 (N:Nat) (a:LA) (b:Bool) (F:KF R):Ac Tryz.prog muts (Ayt N) Bac N 75 [(.pagg a b)] [] F=(Aav N a b (Ap1 F)):=by
 have hK:Ac Tryz.prog muts (Ayt N) Bac N 75 [(.pagg a b)] [] F=(A6m N (Ap1 F) a b):=by kernel_rfl
 rw [A2y]
 exact hK
def X3 (N:Nat) (args:List AV) (h:Aj) (k:KF R):Option R :=
 match args,h with
 | [(.pagg a b)],[]=>(Aav N a b (Ap1 k))
 | _,_=>none
def Ap3 (N:Nat):Tw:=⟨X3 N,fun args h k=>by
 unfold X3;split
 exact twE (Ap2 ..) (Ap2 ..)
 rfl⟩
theorem Bad (N:Nat):A1 Tryz.prog 75 (Ap3 N):=fun args h res d hh=>by
 change X3 N args h (fun v d=>some (v,d))=_ at hh
 unfold X3 at hh;split at hh
 exact Aa (T:=Ayt N) ⟨Bab N,trivial⟩ follows ((Ap2 ..).trans hh)
 cases hh
def A6o (N:Nat) (r0:LA→Option R)  :Option R :=
 (r0 [(.bool false),(.imm [] 0 1 false false),(.imm [(.int .u32 1)] 1 1 false false)])
def A6p (N:Nat)  (r0:LA→Option R):Option R:=(A6o N r0)
def Ahw:=(Ai (@A6p R)).1
theorem A2z:@Ahw R=@A6p R:=(Ai _).2
def Bae:Hints:={ H:=(hS (hR [0]) (hS (hR [0]) hL)),nils:=[],modes:=[(3,0)],free:=[],cob:=[] }
def Ayu (N:Nat):List (Nat×Tw):=[]
def Ap4  (F:KF R):LA→Option R:=(fun b=>F (.pagg b false) [])
theorem Ap5 (N:Nat)  (F:KF R):Ac Tryz.prog muts (Ayu N) Bae N 41 [] [] F=(Ahw N (Ap4 F)):=by
 have hK:Ac Tryz.prog muts (Ayu N) Bae N 41 [] [] F=(A6o N (Ap4 F)):=by kernel_rfl
 rw [A2z]
 exact hK
def X4 (N:Nat) (args:List AV) (h:Aj) (k:KF R):Option R :=
 match args,h with
 | [],[]=>(Ahw N (Ap4 k))
 | _,_=>none
def Ap6 (N:Nat):Tw:=⟨X4 N,fun args h k=>by
 unfold X4;split
 exact twE (Ap5 ..) (Ap5 ..)
 rfl⟩
theorem Baf (N:Nat):A1 Tryz.prog 41 (Ap6 N):=fun args h res a hh=>by
 change X4 N args h (fun v a=>some (v,a))=_ at hh
 unfold X4 at hh;split at hh
 exact Aa (T:=Ayu N) trivial follows ((Ap5 ..).trans hh)
 cases hh
def Ug (N:Nat)  (r0:Bool→Option R) (d:LA) (a:Nat) (f g:Bool) (e:LA) (b:Nat) (i j:Bool) (k0:Int→Option R)  (c:Int):Option R :=
 (cond (decide (c<((a:Nat):Int))) (cond (Am c a) (rdI .u32 (List.drop ((Int.toNat c)*1) d) fun m=>(cond (Am c b) (rdI .u32 (List.drop ((Int.toNat c)*1) e) fun o=>(cond (m != o) (r0 false) (k0 (IntKind.wrap .i64 (c+(1:Int)))))) none)) none) (r0 true))
def Lx (N:Nat)  (r0:Bool→Option R) (d:LA) (a:Nat) (f g:Bool) (e:LA) (b:Nat) (i j:Bool):Nat→Int→Option R
 | 0,_=>none
 | n+1,c=>(Ug N r0 d a f g e b i j (Lx N r0 d a f g e b i j n) c)
def Ayv (N:Nat) (r0:Bool→Option R) (q0:Int→Option R) (d:LA) (a:Nat) (f g:Bool) (e:LA) (b:Nat) (i j:Bool):Option R :=
 (cond (((a:Nat):Int) != ((b:Nat):Int)) (r0 false) (q0 0))
def Ayw (N:Nat) (d:LA) (a:Nat) (f g:Bool) (e:LA) (b:Nat) (i j:Bool) (r0:Bool→Option R):Option R:=(Ayv N r0 (fun c=>(Lx N r0 d a f g e b i j N c)) d a f g e b i j)
def Ahx:=(Ai (@Ayw R)).1
theorem Awk:@Ahx R=@Ayw R:=(Ai _).2
def X5:Hints:={ H:=(hS (hR [0,1]) (hS (hS (hR [0,1,10]) (hN [0,1] (hS (hR [4]) hL) hL)) (hS (hS (hR [0,1,5]) (hS (hN [0,1,5] (hS (hS (hR [0,1,5,14]) (hN [0,1,5] hL hL)) (hS (hN [0,1,5] (hS (hR [0,1,5,25]) (hN [0,1,5] (hS (hR [4]) hL) hL)) hL) (hR [0,1,5]))) hL) hL)) (hS (hR [4]) hL)))),nils:=[],modes:=[],free:=[],cob:=[] }
def Ade (N:Nat):List (Nat×Tw):=[]
def Adf (N:Nat):Env:=mkE 26 X5 (Ade N)
def Bj0 (N:Nat) (F:KF R):=Aq (Adf N) Tryz.f89 X5.modes [] F
def A20 (N:Nat) (F:KF R):=atF (Adf N) [] N Tryz.f89 X5 (Bj0 N F)
def P0  (F:KF R):Bool→Option R:=(fun p=>F (.bool p) [])
def Ly (d:LA) (a:Nat) (f g:Bool) (e:LA) (b:Nat) (i j:Bool) (c:Int):St:={ s:=[(0,(.imm d a 1 f g)),(1,(.imm e b 1 i j)),(5,(.int .i64 c))],h:=[] }
def A21 (N:Nat) (F:KF R):St→Option R:=Bx (Adf N) [] N (A20 N F [1,1,0,1,0] []) N
def X6 (N:Nat) (F:KF R) (n:Nat):St→Option R:=Ba (Adf N) [] N (A20 N F [1,1,0,1,0] []) n
theorem Bcq (N:Nat)  (F:KF R) (d:LA) (a:Nat) (f g:Bool) (e:LA) (b:Nat) (i j:Bool):∀ (n:Nat) (c:Int),X6 N F n (Ly d a f g e b i j c)=(Lx N (P0 F) d a f g e b i j n c):=by
 intro n
 induction n with
 | zero=>intros;kernel_rfl
 | succ n ih =>
  intro c
  have e0:=funext fun c=>(show X6 N F n (Ly d a f g e b i j c)=_ from ih c)
  have hK:X6 N F (n+1) (Ly d a f g e b i j c)=(Ug N (P0 F) d a f g e b i j (fun c=>X6 N F n (Ly d a f g e b i j c)) c):=by kernel_rfl
  exact hK.trans (by rw [e0];rfl)
theorem Ajn (N:Nat) (d:LA) (a:Nat) (f g:Bool) (e:LA) (b:Nat) (i j:Bool) (F:KF R):Ac Tryz.prog muts (Ade N) X5 N 89 [(.imm d a 1 f g),(.imm e b 1 i j)] [] F=(Ahx N d a f g e b i j (P0 F)):=by
 have e1:=funext fun c=>(show A21 N F (Ly d a f g e b i j c)=_ from (Ar ..).trans (Bcq N F d a f g e b i j N c))
 have hK:Ac Tryz.prog muts (Ade N) X5 N 89 [(.imm d a 1 f g),(.imm e b 1 i j)] [] F=(Ayv N (P0 F) (fun c=>A21 N F (Ly d a f g e b i j c)) d a f g e b i j):=by kernel_rfl
 rw [Awk]
 exact hK.trans (by rw [e1];rfl)
def Uh (N:Nat) (args:List AV) (h:Aj) (k:KF R):Option R :=
 match args,h with
 | [(.imm d a 1 f g),(.imm e b 1 i j)],[]=>(Ahx N d a f g e b i j (P0 k))
 | _,_=>none
def A22 (N:Nat):Tw:=⟨Uh N,fun args h k=>by
 unfold Uh;split
 exact twE (Ajn ..) (Ajn ..)
 rfl⟩
theorem Bn2 (N:Nat):A1 Tryz.prog 89 (A22 N):=fun args h res l hh=>by
 change Uh N args h (fun v l=>some (v,l))=_ at hh
 unfold Uh at hh;split at hh
 exact Aa (T:=Ade N) trivial follows ((Ajn ..).trans hh)
 cases hh
def D9 (N:Nat)  (r0:Int→Bool→Option R) (b:Nat) (d:LA) (k0:Int→Int→Option R)  (c a:Int):Option R :=
 (cond (decide (a≥(0:Int))) (cond (Am a b) (rdI .u32 (List.drop (0+((Int.toNat a)*1)) d) fun l=>(k0 (Pa .u64 (IntKind.wrap .u64 (c*2 ^ 32)) (IntKind.wrap .u64 l)) (IntKind.wrap .i64 (a - (1:Int))))) none) (r0 c true))
def D2 (N:Nat)  (r0:Int→Bool→Option R) (b:Nat) (d:LA):Nat→Int→Int→Option R
 | 0,_,_=>none
 | n+1,c,a=>(D9 N r0 b d (D2 N r0 b d n) c a)
def Ap7 (N:Nat) (r0:Int→Bool→Option R) (q0:Nat→LA→Int→Int→Option R) (e:LA) (f:Nat) (i g:Bool):Option R :=
 (C1 N e f false g (fun b d=>(cond (decide (((b:Nat):Int)>(2:Int))) (r0 0 false) (q0 b d 0 (IntKind.wrap .i64 (((b:Nat):Int) - (1:Int)))))))
def Ap8 (N:Nat) (e:LA) (f:Nat) (i g:Bool) (r0:Int→Bool→Option R):Option R:=(Ap7 N r0 (fun b d c a=>(D2 N r0 b d N c a)) e f i g)
def Sj:=(Ai (@Ap8 R)).1
theorem Ap9:@Sj R=@Ap8 R:=(Ai _).2
def Ui:Hints:={ H:=(hS (hR [0]) (hS (hR [0]) (hS (hS (hR [0,10]) (hN [0] (hS (hR [2,3]) hL) hL)) (hS (hR [0,4]) (hS (hS (hR [0,4,5]) (hN [4] (hN [0,4,5] (hS (hS (hR [0,4,5,15]) (hN [0,4,5] hL hL)) (hS (hN [0,4,5] (hR [0,4,5]) hL) (hR [0,4,5]))) hL) hL)) (hS (hR [2,3]) hL)))))),nils:=[],modes:=[],free:=[],cob:=[] }
def X7 (N:Nat):List (Nat×Tw):=[(143,D7 N)]
def X8 (N:Nat):Env:=mkE 27 Ui (X7 N)
def Bex (N:Nat) (F:KF R):=Aq (X8 N) Tryz.f178 Ui.modes [] F
def Awl (N:Nat) (F:KF R):=atF (X8 N) [] N Tryz.f178 Ui (Bex N F)
def Nh  (F:KF R):Int→Bool→Option R:=(fun m o=>F (.tup [(.int .u64 m),(.bool o)]) [])
def Js (b:Nat) (d:LA) (c a:Int):St:={ s:=[(0,(.own 300000 0 b)),(4,(.int .u64 c)),(5,(.int .i64 a))],h:=[(300000,⟨false,false,true,false,1,d,false⟩)] }
def Awm (N:Nat) (F:KF R):St→Option R:=Bx (X8 N) [] N (Awl N F [1,1,1,1,0,1,0] []) N
def Uj (N:Nat) (F:KF R) (n:Nat):St→Option R:=Ba (X8 N) [] N (Awl N F [1,1,1,1,0,1,0] []) n
theorem A6q (N:Nat)  (F:KF R) (b:Nat) (d:LA):∀ (n:Nat) (c a:Int),Uj N F n (Js b d c a)=(D2 N (Nh F) b d n c a):=by
 intro n
 induction n with
 | zero=>intros;kernel_rfl
 | succ n ih =>
  intro c a
  have e0:=funext fun c=>funext fun a=>(show Uj N F n (Js b d c a)=_ from ih c a)
  have hK:Uj N F (n+1) (Js b d c a)=(D9 N (Nh F) b d (fun c a=>Uj N F n (Js b d c a)) c a):=by kernel_rfl
  exact hK.trans (by rw [e0];rfl)
theorem Af1 (N:Nat) (e:LA) (f:Nat) (i g:Bool) (F:KF R):Ac Tryz.prog muts (X7 N) Ui N 178 [(.imm e f 1 i g)] [] F=(Sj N e f i g (Nh F)):=by
 have e1:=funext fun b=>funext fun d=>funext fun c=>funext fun a=>(show Awm N F (Js b d c a)=_ from (Ar ..).trans (A6q N F b d N c a))
 have hK:Ac Tryz.prog muts (X7 N) Ui N 178 [(.imm e f 1 i g)] [] F=(Ap7 N (Nh F) (fun b d c a=>Awm N F (Js b d c a)) e f i g):=by kernel_rfl
 rw [Ap9]
 exact hK.trans (by rw [e1];rfl)
def P3 (N:Nat) (args:List AV) (h:Aj) (k:KF R):Option R :=
 match args,h with
 | [(.imm e f 1 i g)],[]=>(Sj N e f i g (Nh k))
 | _,_=>none
def Awn (N:Nat):Tw:=⟨P3 N,fun args h k=>by
 unfold P3;split
 exact twE (Af1 ..) (Af1 ..)
 rfl⟩
theorem Bj1 (N:Nat):A1 Tryz.prog 178 (Awn N):=fun args h res j hh=>by
 change P3 N args h (fun v j=>some (v,j))=_ at hh
 unfold P3 at hh;split at hh
 exact Aa (T:=X7 N) ⟨E2 N,trivial⟩ follows ((Af1 ..).trans hh)
 cases hh
def P4 (N:Nat)  (r0:Int→Option R)  (k0:Int→Int→Option R)  (a b:Int):Option R :=
 (cond (decide (b>(0:Int))) (k0 (IntKind.wrap .i64 (a+(1:Int))) (Int.fdiv b (2 ^ 1))) (r0 a))
def Kt (N:Nat)  (r0:Int→Option R) :Nat→Int→Int→Option R
 | 0,_,_=>none
 | n+1,a,b=>(P4 N r0 (Kt N r0 n) a b)
def Aum (N:Nat) (r0:Int→Option R) (q0:Int→Int→Option R) (c:LA) (d:Nat) (f e:Bool):Option R :=
 (C1 N c d false e (fun g j=>(cond (((g:Nat):Int)==(0:Int)) (r0 0) (cond (Am (IntKind.wrap .i64 (((g:Nat):Int) - (1:Int))) g) (rdI .u32 (List.drop (0+((Int.toNat (IntKind.wrap .i64 (((g:Nat):Int) - (1:Int))))*1)) j) fun l=>(q0 (IntKind.wrap .i64 ((32:Int)*(IntKind.wrap .i64 (((g:Nat):Int) - (1:Int))))) l)) none))))
def Aun (N:Nat) (c:LA) (d:Nat) (f e:Bool) (r0:Int→Option R):Option R:=(Aum N r0 (fun a b=>(Kt N r0 N a b)) c d f e)
def Aqa:=(Ai (@Aun R)).1
theorem Ajo:@Aqa R=@Aun R:=(Ai _).2
def Adg:Hints:={ H:=(hS (hR [0]) (hS (hR [0]) (hS (hS (hR [0,9]) (hN [0] (hS (hR [2]) hL) hL)) (hS (hR [0,3]) (hS (hS (hR [3,4]) (hN [3] (hN [3,4] (hS (hS (hR [3,4,21]) (hN [3,4] hL hL)) (hS (hN [3,4] (hR [3,4]) hL) (hR [3,4]))) hL) hL)) (hS (hR [2]) hL)))))),nils:=[],modes:=[],free:=[],cob:=[] }
def Ajp (N:Nat):List (Nat×Tw):=[(143,D7 N)]
def Ajq (N:Nat):Env:=mkE 27 Adg (Ajp N)
def Bn3 (N:Nat) (F:KF R):=Aq (Ajq N) Tryz.f179 Adg.modes [] F
def Bag (N:Nat) (F:KF R):=atF (Ajq N) [] N Tryz.f179 Adg (Bn3 N F)
def V6  (F:KF R):Int→Option R:=(fun m=>F (.int .i64 m) [])
def Pd (a b:Int):St:={ s:=[(3,(.int .i64 a)),(4,(.int .u32 b))],h:=[] }
def Bah (N:Nat) (F:KF R):St→Option R:=Bx (Ajq N) [] N (Bag N F [1,1,1,1,0,1,0] []) N
def Adh (N:Nat) (F:KF R) (n:Nat):St→Option R:=Ba (Ajq N) [] N (Bag N F [1,1,1,1,0,1,0] []) n
theorem Bey (N:Nat)  (F:KF R) :∀ (n:Nat) (a b:Int),Adh N F n (Pd a b)=(Kt N (V6 F) n a b):=by
 intro n
 induction n with
 | zero=>intros;kernel_rfl
 | succ n ih =>
  intro a b
  have e0:=funext fun a=>funext fun b=>(show Adh N F n (Pd a b)=_ from ih a b)
  have hK:Adh N F (n+1) (Pd a b)=(P4 N (V6 F) (fun a b=>Adh N F n (Pd a b)) a b):=by kernel_rfl
  exact hK.trans (by rw [e0];rfl)
theorem Aqb (N:Nat) (c:LA) (d:Nat) (f e:Bool) (F:KF R):Ac Tryz.prog muts (Ajp N) Adg N 179 [(.imm c d 1 f e)] [] F=(Aqa N c d f e (V6 F)):=by
 have e1:=funext fun a=>funext fun b=>(show Bah N F (Pd a b)=_ from (Ar ..).trans (Bey N F N a b))
 have hK:Ac Tryz.prog muts (Ajp N) Adg N 179 [(.imm c d 1 f e)] [] F=(Aum N (V6 F) (fun a b=>Bah N F (Pd a b)) c d f e):=by kernel_rfl
 rw [Ajo]
 exact hK.trans (by rw [e1];rfl)
def X9 (N:Nat) (args:List AV) (h:Aj) (k:KF R):Option R :=
 match args,h with
 | [(.imm c d 1 f e)],[]=>(Aqa N c d f e (V6 k))
 | _,_=>none
def Bai (N:Nat):Tw:=⟨X9 N,fun args h k=>by
 unfold X9;split
 exact twE (Aqb ..) (Aqb ..)
 rfl⟩
theorem Bqi (N:Nat):A1 Tryz.prog 179 (Bai N):=fun args h res i hh=>by
 change X9 N args h (fun v i=>some (v,i))=_ at hh
 unfold X9 at hh;split at hh
 exact Aa (T:=Ajp N) ⟨E2 N,trivial⟩ follows ((Aqb ..).trans hh)
 cases hh
def Aqc (N:Nat) (k0:Nat→Int→Int→LA→Option R) (r0:Nat→LA→Option R) (d:LA) (a:Nat) (g i:Bool) (e:LA) (b:Nat) (j l:Bool) (c:Nat) (f:LA)   (q o:Int):Option R :=
 (cond (decide (o<((b:Nat):Int))) (cond (Am o b) (rdI .u32 (List.drop ((Int.toNat o)*1) e) fun r=>(cond (Am o c) (cond ((Nat.beq 1 1)&&((Nat.ble ((0+((Int.toNat o)*1))+1) (List.length f))&&(!false))) (k0 c (Int.fdiv (IntKind.wrap .u64 (q+(IntKind.wrap .u64 r))) (2 ^ 32)) (IntKind.wrap .i64 (o+(1:Int))) (List.set f (0+((Int.toNat o)*1)) (.int .u32 (IntKind.wrap .u32 (IntKind.wrap .u64 (q+(IntKind.wrap .u64 r))))))) none) none)) none) (cond (Am o c) (cond ((Nat.beq 1 1)&&((Nat.ble ((0+((Int.toNat o)*1))+1) (List.length f))&&(!false))) (k0 c (Int.fdiv q (2 ^ 32)) (IntKind.wrap .i64 (o+(1:Int))) (List.set f (0+((Int.toNat o)*1)) (.int .u32 (IntKind.wrap .u32 q)))) none) none))
def Aaw (N:Nat) (k0:Nat→Int→Int→LA→Option R) (r0:Nat→LA→Option R) (d:LA) (a:Nat) (g i:Bool) (e:LA) (b:Nat) (j l:Bool) (c:Nat) (f:LA) (q o:Int):Option R:=(Aqc N k0 r0 d a g i e b j l c f q o)
def Adi (N:Nat)  (r0:Nat→LA→Option R) (d:LA) (a:Nat) (g i:Bool) (e:LA) (b:Nat) (j l:Bool) (k0:Nat→Int→Int→LA→Option R) (q1:Int→Int→Option R) (c:Nat) (p m:Int) (f:LA):Option R :=
 (cond (decide (m<((c:Nat):Int))) (cond (decide (m<((a:Nat):Int))) (cond (Am m a) (rdI .u32 (List.drop ((Int.toNat m)*1) d) fun u=>(q1 (IntKind.wrap .u64 (p+(IntKind.wrap .u64 u))) m)) none) (q1 p m)) (C1 N (List.take (c*1) f) c false true (fun w x=>(r0 w x))))
def Gw (N:Nat)  (r0:Nat→LA→Option R) (d:LA) (a:Nat) (g i:Bool) (e:LA) (b:Nat) (j l:Bool):Nat→Nat→Int→Int→LA→Option R
 | 0,_,_,_,_=>none
 | n+1,c,p,m,f=>(Adi N r0 d a g i e b j l (Gw N r0 d a g i e b j l n) (fun q o=>(Aaw N (Gw N r0 d a g i e b j l n) r0 d a g i e b j l c f q o)) c p m f)
def Bez (N:Nat) (r0:Nat→LA→Option R) (q0:Nat→Int→Int→LA→Option R) (d:LA) (a:Nat) (g i:Bool) (e:LA) (b:Nat) (j l:Bool):Option R :=
 (cond ((decide ((0:Int)≤(IntKind.wrap .i64 ((Aaf ((a:Nat):Int) ((b:Nat):Int))+(1:Int)))))&&((decide ((IntKind.wrap .i64 ((Aaf ((a:Nat):Int) ((b:Nat):Int))+(1:Int)))≤(IntKind.wrap .i64 ((Aaf ((a:Nat):Int) ((b:Nat):Int))+(1:Int)))))&&((decide ((IntKind.wrap .i64 ((Aaf ((a:Nat):Int) ((b:Nat):Int))+(1:Int)))≤(140737488355328:Int)))&&(decide (((IntKind.wrap .i64 ((Aaf ((a:Nat):Int) ((b:Nat):Int))+(1:Int)))*((4:Nat):Int))≤(140737488355328:Int)))))) (q0 (Int.toNat (IntKind.wrap .i64 ((Aaf ((a:Nat):Int) ((b:Nat):Int))+(1:Int)))) 0 0 (List.replicate (Int.toNat (IntKind.wrap .i64 ((Aaf ((a:Nat):Int) ((b:Nat):Int))+(1:Int)))) (.int .u32 0))) none)
def Be0 (N:Nat) (d:LA) (a:Nat) (g i:Bool) (e:LA) (b:Nat) (j l:Bool) (r0:Nat→LA→Option R):Option R:=(Bez N r0 (fun c p m f=>(Gw N r0 d a g i e b j l N c p m f)) d a g i e b j l)
def Ajr:=(Ai (@Be0 R)).1
theorem Baj:@Ajr R=@Be0 R:=(Ai _).2
def Ajs:Hints:={ H:=(hS (hR [0,1]) (hS (hR [0,1,5]) (hS (hR [0,1,5,6]) (hS (hS (hR [0,1,5,6,7]) (hN [5] (hN [0,1,5,6,7] (hS (hS (hR [0,1,5,6,7,18]) (hN [0,1,5,6,7] hL hL)) (hS (hN [0,1,5,6,7] (hJ (hS (hR [0,1,5,6,7,24]) (hN [0,1,5,6,7] (hR [0,1,5,6,7]) hL)) (hS (hS (hR [0,1,5,6,7,35]) (hN [0,1,5,6,7] (hR [0,1,5,6,7]) hL)) (hS (hR [0,1,5,6,7]) (hR [0,1,5,6,7])))) hL) (hR [0,1,5,6,7]))) hL) hL)) (hS (hR [4]) hL))))),nils:=[(4,1)],modes:=[(2,1)],free:=[],cob:=[] }
def Auo (N:Nat):List (Nat×Tw):=[(143,D7 N)]
def Zn (N:Nat):Env:=mkE 52 Ajs (Auo N)
def Bqj (N:Nat) (F:KF R):=Aq (Zn N) Tryz.f122 Ajs.modes [] F
def Ajt (N:Nat) (F:KF R):=atF (Zn N) [] N Tryz.f122 Ajs (Bqj N F)
def Iu  (F:KF R):Nat→LA→Option R:=(fun y z=>F (.own 300000 0 y) [(300000,⟨false,false,true,false,1,z,false⟩)])
def Aju (d:LA) (a:Nat) (g i:Bool) (e:LA) (b:Nat) (j l:Bool) (c:Nat) (f:LA) (q o:Int):St:={ s:=[(0,(.imm d a 1 g i)),(1,(.imm e b 1 j l)),(5,(.own 300000 0 c)),(6,(.int .u64 q)),(7,(.int .i64 o))],h:=[(300000,⟨false,false,true,false,1,f,false⟩)] }
def Be1 (N:Nat) (F:KF R) (Q0:St→Option R):St→Option R:=Bm (Zn N) [] N (Ajt N F [1,1,1,0,1,0,0,1,0,0,1] [Q0])
def Be2 (N:Nat) (F:KF R) (Q0:St→Option R):St→Option R:=Bq (Zn N) [] N (Ajt N F [1,1,1,0,1,0,0,1,0,0,1] [Q0])
def Ku (d:LA) (a:Nat) (g i:Bool) (e:LA) (b:Nat) (j l:Bool) (c:Nat) (p m:Int) (f:LA):St:={ s:=[(0,(.imm d a 1 g i)),(1,(.imm e b 1 j l)),(5,(.own 300000 0 c)),(6,(.int .u64 p)),(7,(.int .i64 m))],h:=[(300000,⟨false,false,true,false,1,f,false⟩)] }
def Be3 (N:Nat) (F:KF R):St→Option R:=Bx (Zn N) [] N (Ajt N F [1,1,1,0,1,0] []) N
def Or (N:Nat) (F:KF R) (n:Nat):St→Option R:=Ba (Zn N) [] N (Ajt N F [1,1,1,0,1,0] []) n
theorem Bj2 (N:Nat) (Q0:St→Option R) (F:KF R) (d:LA) (a:Nat) (g i:Bool) (e:LA) (b:Nat) (j l:Bool) (c:Nat) (f:LA):∀ (q o:Int),Be2 N F Q0 (Aju d a g i e b j l c f q o)=(Aaw N (fun c p m f=>Q0 (Ku d a g i e b j l c p m f)) (Iu F) d a g i e b j l c f q o):=by
 intro q o
 have hK:Be2 N F Q0 (Aju d a g i e b j l c f q o)=(Aqc N (fun c p m f=>Q0 (Ku d a g i e b j l c p m f)) (Iu F) d a g i e b j l c f q o):=by kernel_rfl
 exact hK
theorem Bj3 (N:Nat)  (F:KF R) (d:LA) (a:Nat) (g i:Bool) (e:LA) (b:Nat) (j l:Bool):∀ (n c:Nat) (p m:Int) (f:LA),Or N F n (Ku d a g i e b j l c p m f)=(Gw N (Iu F) d a g i e b j l n c p m f):=by
 intro n
 induction n with
 | zero=>intros;kernel_rfl
 | succ n ih =>
  intro c p m f
  have e0:=funext fun c=>funext fun p=>funext fun m=>funext fun f=>(show Or N F n (Ku d a g i e b j l c p m f)=_ from ih c p m f)
  have e1:(fun q o=>Be1 N F (Or N F n) (Aju d a g i e b j l c f q o))=(fun q o=>(Aaw N (Gw N (Iu F) d a g i e b j l n) (Iu F) d a g i e b j l c f q o)):=by funext q;funext o;exact ((As ..).trans (Bj2 N (Or N F n) F d a g i e b j l c f q o)).trans (by rw [e0])
  have hK:Or N F (n+1) (Ku d a g i e b j l c p m f)=(Adi N (Iu F) d a g i e b j l (fun c p m f=>Or N F n (Ku d a g i e b j l c p m f)) (fun q o=>Be1 N F (Or N F n) (Aju d a g i e b j l c f q o)) c p m f):=by kernel_rfl
  exact hK.trans (by rw [e0,e1];rfl)
theorem Ayx (N:Nat) (d:LA) (a:Nat) (g i:Bool) (e:LA) (b:Nat) (j l:Bool) (F:KF R):Ac Tryz.prog muts (Auo N) Ajs N 122 [(.imm d a 1 g i),(.imm e b 1 j l)] [] F=(Ajr N d a g i e b j l (Iu F)):=by
 have e1:=funext fun c=>funext fun p=>funext fun m=>funext fun f=>(show Be3 N F (Ku d a g i e b j l c p m f)=_ from (Ar ..).trans (Bj3 N F d a g i e b j l N c p m f))
 have hK:Ac Tryz.prog muts (Auo N) Ajs N 122 [(.imm d a 1 g i),(.imm e b 1 j l)] [] F=(Bez N (Iu F) (fun c p m f=>Be3 N F (Ku d a g i e b j l c p m f)) d a g i e b j l):=by kernel_rfl
 rw [Baj]
 exact hK.trans (by rw [e1];rfl)
def Adj (N:Nat) (args:List AV) (h:Aj) (k:KF R):Option R :=
 match args,h with
 | [(.imm d a 1 g i),(.imm e b 1 j l)],[]=>(Ajr N d a g i e b j l (Iu k))
 | _,_=>none
def Ayy (N:Nat):Tw:=⟨Adj N,fun args h k=>by
 unfold Adj;split
 exact twE (Ayx ..) (Ayx ..)
 rfl⟩
theorem Be4 (N:Nat):A1 Tryz.prog 122 (Ayy N):=fun args h res t hh=>by
 change Adj N args h (fun v t=>some (v,t))=_ at hh
 unfold Adj at hh;split at hh
 exact Aa (T:=Auo N) ⟨E2 N,trivial⟩ follows ((Ayx ..).trans hh)
 cases hh
def Be5 (N:Nat) (r0:Int→Option R)  (c:LA) (b:Nat) (d e:Bool) (a:Int):Option R :=
 (cond (decide ((IntKind.wrap .i64 (Int.tdiv a (32:Int)))≥((b:Nat):Int))) (r0 0) (cond (Am (IntKind.wrap .i64 (Int.tdiv a (32:Int))) b) (rdI .u32 (List.drop ((Int.toNat (IntKind.wrap .i64 (Int.tdiv a (32:Int))))*1) c) fun g=>(cond (decide ((IntKind.wrap .u64 (Int.tmod a (32:Int)))<(0:Int))) none (r0 (Bsk .u32 (Int.fdiv g (2 ^ (min (Int.toNat (IntKind.wrap .u64 (Int.tmod a (32:Int)))) 32))) (1:Int))))) none))
def Be6 (N:Nat) (c:LA) (b:Nat) (d e:Bool) (a:Int) (r0:Int→Option R):Option R:=(Be5 N r0 c b d e a)
def A23:=(Ai (@Be6 R)).1
theorem Bak:@A23 R=@Be6 R:=(Ai _).2
def Be7:Hints:={ H:=(hS (hR [0,1]) (hS (hS (hR [0,1,9]) (hN [0,1] (hS (hR [4]) hL) hL)) (hS (hR [4]) hL))),nils:=[],modes:=[],free:=[],cob:=[] }
def A6r (N:Nat):List (Nat×Tw):=[]
def Ayz  (F:KF R):Int→Option R:=(fun i=>F (.int .u32 i) [])
theorem Ay0 (N:Nat) (c:LA) (b:Nat) (d e:Bool) (a:Int) (F:KF R):Ac Tryz.prog muts (A6r N) Be7 N 180 [(.imm c b 1 d e),(.int .i64 a)] [] F=(A23 N c b d e a (Ayz F)):=by
 have hK:Ac Tryz.prog muts (A6r N) Be7 N 180 [(.imm c b 1 d e),(.int .i64 a)] [] F=(Be5 N (Ayz F) c b d e a):=by kernel_rfl
 rw [Bak]
 exact hK
def Adk (N:Nat) (args:List AV) (h:Aj) (k:KF R):Option R :=
 match args,h with
 | [(.imm c b 1 d e),(.int .i64 a)],[]=>(A23 N c b d e a (Ayz k))
 | _,_=>none
def Be8 (N:Nat):Tw:=⟨Adk N,fun args h k=>by
 unfold Adk;split
 exact twE (Ay0 ..) (Ay0 ..)
 rfl⟩
theorem Bsl (N:Nat):A1 Tryz.prog 180 (Be8 N):=fun args h res f hh=>by
 change Adk N args h (fun v f=>some (v,f))=_ at hh
 unfold Adk at hh;split at hh
 exact Aa (T:=A6r N) trivial follows ((Ay0 ..).trans hh)
 cases hh
def Nu (N:Nat)  (r0:Int→Option R) (b c:Nat) (d e:LA) (k0:Int→Option R)  (a:Int):Option R :=
 (cond (decide (a≥(0:Int))) (cond (Am a b) (rdI .u32 (List.drop (0+((Int.toNat a)*1)) d) fun r=>(cond (Am a c) (rdI .u32 (List.drop (0+((Int.toNat a)*1)) e) fun t=>(cond (decide (r<t)) (r0 (-1)) (cond (Am a b) (rdI .u32 (List.drop (0+((Int.toNat a)*1)) d) fun u=>(cond (Am a c) (rdI .u32 (List.drop (0+((Int.toNat a)*1)) e) fun w=>(cond (decide (u>w)) (r0 1) (k0 (IntKind.wrap .i64 (a - (1:Int)))))) none)) none))) none)) none) (r0 0))
def Ho (N:Nat)  (r0:Int→Option R) (b c:Nat) (d e:LA):Nat→Int→Option R
 | 0,_=>none
 | n+1,a=>(Nu N r0 b c d e (Ho N r0 b c d e n) a)
def Ajv (N:Nat) (r0:Int→Option R) (q0:Nat→Nat→LA→LA→Int→Option R) (f:LA) (g:Nat) (o i:Bool) (j:LA) (l:Nat) (p m:Bool):Option R :=
 (C1 N f g false i (fun b d=>(C1 N j l false m (fun c e=>(cond (((b:Nat):Int) != ((c:Nat):Int)) (cond (decide (((b:Nat):Int)<((c:Nat):Int))) (r0 (-1)) (r0 1)) (q0 b c d e (IntKind.wrap .i64 (((b:Nat):Int) - (1:Int)))))))))
def Ajw (N:Nat) (f:LA) (g:Nat) (o i:Bool) (j:LA) (l:Nat) (p m:Bool) (r0:Int→Option R):Option R:=(Ajv N r0 (fun b c d e a=>(Ho N r0 b c d e N a)) f g o i j l p m)
def V7:=(Ai (@Ajw R)).1
theorem An6:@V7 R=@Ajw R:=(Ai _).2
def P5:Hints:={ H:=(hS (hR [0,1]) (hS (hR [0,1]) (hS (hS (hR [0,1,14]) (hN [0,1] (hS (hS (hR [19]) (hS (hS (hR [4]) hL) hL)) (hS (hR [4]) hL)) hL)) (hS (hS (hR [0,1,5]) (hS (hN [0,1,5] (hS (hS (hR [0,1,5,24]) (hN [0,1,5] hL hL)) (hS (hN [0,1,5] (hS (hS (hR [0,1,5,35]) (hN [0,1,5] (hS (hR [4]) hL) hL)) (hS (hR [0,1,5,44]) (hN [0,1,5] (hS (hR [4]) hL) hL))) hL) (hR [0,1,5]))) hL) hL)) (hS (hR [4]) hL))))),nils:=[],modes:=[],free:=[],cob:=[] }
def Uk (N:Nat):List (Nat×Tw):=[(143,D7 N)]
def Ul (N:Nat):Env:=mkE 45 P5 (Uk N)
def Bcr (N:Nat) (F:KF R):=Aq (Ul N) Tryz.f168 P5.modes [] F
def Aqd (N:Nat) (F:KF R):=atF (Ul N) [] N Tryz.f168 P5 (Bcr N F)
def Kv  (F:KF R):Int→Option R:=(fun x=>F (.int .i64 x) [])
def Hp (b c:Nat) (d e:LA) (a:Int):St:={ s:=[(0,(.own 300000 0 b)),(1,(.own 300001 0 c)),(5,(.int .i64 a))],h:=[(300000,⟨false,false,true,false,1,d,false⟩),(300001,⟨false,false,true,false,1,e,false⟩)] }
def Aqe (N:Nat) (F:KF R):St→Option R:=Bx (Ul N) [] N (Aqd N F [1,1,1,0,1,0] []) N
def P6 (N:Nat) (F:KF R) (n:Nat):St→Option R:=Ba (Ul N) [] N (Aqd N F [1,1,1,0,1,0] []) n
theorem A24 (N:Nat)  (F:KF R) (b c:Nat) (d e:LA):∀ (n:Nat) (a:Int),P6 N F n (Hp b c d e a)=(Ho N (Kv F) b c d e n a):=by
 intro n
 induction n with
 | zero=>intros;kernel_rfl
 | succ n ih =>
  intro a
  have e0:=funext fun a=>(show P6 N F n (Hp b c d e a)=_ from ih a)
  have hK:P6 N F (n+1) (Hp b c d e a)=(Nu N (Kv F) b c d e (fun a=>P6 N F n (Hp b c d e a)) a):=by kernel_rfl
  exact hK.trans (by rw [e0];rfl)
theorem Aax (N:Nat) (f:LA) (g:Nat) (o i:Bool) (j:LA) (l:Nat) (p m:Bool) (F:KF R):Ac Tryz.prog muts (Uk N) P5 N 168 [(.imm f g 1 o i),(.imm j l 1 p m)] [] F=(V7 N f g o i j l p m (Kv F)):=by
 have e1:=funext fun b=>funext fun c=>funext fun d=>funext fun e=>funext fun a=>(show Aqe N F (Hp b c d e a)=_ from (Ar ..).trans (A24 N F b c d e N a))
 have hK:Ac Tryz.prog muts (Uk N) P5 N 168 [(.imm f g 1 o i),(.imm j l 1 p m)] [] F=(Ajv N (Kv F) (fun b c d e a=>Aqe N F (Hp b c d e a)) f g o i j l p m):=by kernel_rfl
 rw [An6]
 exact hK.trans (by rw [e1];rfl)
def Nv (N:Nat) (args:List AV) (h:Aj) (k:KF R):Option R :=
 match args,h with
 | [(.imm f g 1 o i),(.imm j l 1 p m)],[]=>(V7 N f g o i j l p m (Kv k))
 | _,_=>none
def Aqf (N:Nat):Tw:=⟨Nv N,fun args h k=>by
 unfold Nv;split
 exact twE (Aax ..) (Aax ..)
 rfl⟩
theorem Be9 (N:Nat):A1 Tryz.prog 168 (Aqf N):=fun args h res q hh=>by
 change Nv N args h (fun v q=>some (v,q))=_ at hh
 unfold Nv at hh;split at hh
 exact Aa (T:=Uk N) ⟨E2 N,trivial⟩ follows ((Aax ..).trans hh)
 cases hh
def Aqg (N:Nat) (k0:Int→Int→LA→Option R) (r0:Nat→Bool→LA→Option R) (a c:Nat) (d e b:LA)   (g j:Int):Option R :=
 (cond (Am g a) (rdI .u32 (List.drop (0+((Int.toNat g)*1)) d) fun w=>(cond (decide ((IntKind.wrap .u64 w)<j)) (cond (Am g a) (cond ((Nat.beq 1 1)&&((Nat.ble ((0+((Int.toNat g)*1))+1) (List.length b))&&(!false))) (k0 1 (IntKind.wrap .i64 (g+(1:Int))) (List.set b (0+((Int.toNat g)*1)) (.int .u32 (IntKind.wrap .u32 (IntKind.wrap .u64 ((IntKind.wrap .u64 ((IntKind.wrap .u64 w)+(4294967296:Int))) - j)))))) none) none) (cond (Am g a) (cond ((Nat.beq 1 1)&&((Nat.ble ((0+((Int.toNat g)*1))+1) (List.length b))&&(!false))) (k0 0 (IntKind.wrap .i64 (g+(1:Int))) (List.set b (0+((Int.toNat g)*1)) (.int .u32 (IntKind.wrap .u32 (IntKind.wrap .u64 ((IntKind.wrap .u64 w) - j)))))) none) none))) none)
def Aay (N:Nat) (k0:Int→Int→LA→Option R) (r0:Nat→Bool→LA→Option R) (a c:Nat) (d e b:LA) (g j:Int):Option R:=(Aqg N k0 r0 a c d e b g j)
def Adl (N:Nat)  (r0:Nat→Bool→LA→Option R) (a c:Nat) (d e:LA) (k0:Int→Int→LA→Option R) (q1:Int→Int→Option R) (i f:Int) (b:LA):Option R :=
 (cond (decide (f<((a:Nat):Int))) (cond (decide (f<((c:Nat):Int))) (cond (Am f c) (rdI .u32 (List.drop (0+((Int.toNat f)*1)) e) fun y=>(q1 f (IntKind.wrap .u64 (i+(IntKind.wrap .u64 y))))) none) (q1 f i)) (C1 N (List.take (a*1) b) a false true (fun z aa=>(r0 z true aa))))
def Gy (N:Nat)  (r0:Nat→Bool→LA→Option R) (a c:Nat) (d e:LA):Nat→Int→Int→LA→Option R
 | 0,_,_,_=>none
 | n+1,i,f,b=>(Adl N r0 a c d e (Gy N r0 a c d e n) (fun g j=>(Aay N (Gy N r0 a c d e n) r0 a c d e b g j)) i f b)
def Bfa (N:Nat) (r0:Nat→Bool→LA→Option R) (q0:Nat→Nat→LA→LA→Int→Int→LA→Option R) (l:LA) (m:Nat) (t o:Bool) (p:LA) (q:Nat) (u r:Bool):Option R :=
 (V7 N l m false o p q false r (fun ab=>(cond (decide (ab<(0:Int))) (r0 0 false []) (C1 N l m false o (fun a d=>(C1 N p q false r (fun c e=>(cond ((decide ((0:Int)≤((a:Nat):Int)))&&((decide (((a:Nat):Int)≤((a:Nat):Int)))&&((decide (((a:Nat):Int)≤(140737488355328:Int)))&&(decide ((((a:Nat):Int)*((4:Nat):Int))≤(140737488355328:Int)))))) (q0 a c d e 0 0 (List.replicate a (.int .u32 0))) none))))))))
def Bfb (N:Nat) (l:LA) (m:Nat) (t o:Bool) (p:LA) (q:Nat) (u r:Bool) (r0:Nat→Bool→LA→Option R):Option R:=(Bfa N r0 (fun a c d e i f b=>(Gy N r0 a c d e N i f b)) l m t o p q u r)
def Ajx:=(Ai (@Bfb R)).1
theorem Bal:@Ajx R=@Bfb R:=(Ai _).2
def Ajy:Hints:={ H:=(hS (hR [0,1]) (hS (hS (hR [0,1,14]) (hN [0,1] (hS (hR [4,5]) hL) hL)) (hS (hR [0,1]) (hS (hR [0,1,6]) (hS (hR [0,1,6,7]) (hS (hS (hR [0,1,6,7,8]) (hN [6] (hN [0,1,6,7,8] (hS (hS (hR [0,1,6,7,8,25]) (hN [0,1,6,7,8] hL hL)) (hS (hN [0,1,6,7,8] (hS (hR [0,1,6,8,9]) (hJ (hS (hR [0,1,6,8,9,32]) (hN [0,1,6,8,9] (hR [0,1,6,8,9]) hL)) (hS (hR [0,1,6,8,9,10]) (hS (hR [0,1,6,7,8,9,10]) (hS (hS (hR [0,1,6,7,8,9,10,47]) (hN [0,1,6,7,8,9,10] (hS (hR [0,1,6,8,9,10]) (hR [0,1,6,7,8,9,10])) hL)) (hR [0,1,6,7,8])))))) hL) (hR [0,1,6,7,8]))) hL) hL)) (hS (hR [4,5]) hL))))))),nils:=[(4,1)],modes:=[(2,1),(0,0)],free:=[],cob:=[] }
def Aup (N:Nat):List (Nat×Tw):=[(168,Aqf N),(143,D7 N)]
def Zo (N:Nat):Env:=mkE 59 Ajy (Aup N)
def Bqk (N:Nat) (F:KF R):=Aq (Zo N) Tryz.f123 Ajy.modes [] F
def Ajz (N:Nat) (F:KF R):=atF (Zo N) [] N Tryz.f123 Ajy (Bqk N F)
def Iv  (F:KF R):Nat→Bool→LA→Option R:=(fun ac ad ae=>F (.tup [(.own 300000 0 ac),(.bool ad)]) [(300000,⟨false,false,true,false,1,ae,false⟩)])
def Aj0 (a c:Nat) (d e b:LA) (g j:Int):St:={ s:=[(0,(.own 300000 0 a)),(1,(.own 300001 0 c)),(6,(.own 300002 0 a)),(8,(.int .i64 g)),(9,(.int .u64 j))],h:=[(300000,⟨false,false,true,false,1,d,false⟩),(300001,⟨false,false,true,false,1,e,false⟩),(300002,⟨false,false,true,false,1,b,false⟩)] }
def Bfc (N:Nat) (F:KF R) (Q0:St→Option R):St→Option R:=Bm (Zo N) [] N (Ajz N F [1,1,1,1,1,0,1,0,0,1,0,0,1,1] [Q0])
def Bfd (N:Nat) (F:KF R) (Q0:St→Option R):St→Option R:=Bq (Zo N) [] N (Ajz N F [1,1,1,1,1,0,1,0,0,1,0,0,1,1] [Q0])
def Kw (a c:Nat) (d e:LA) (i f:Int) (b:LA):St:={ s:=[(0,(.own 300000 0 a)),(1,(.own 300001 0 c)),(6,(.own 300002 0 a)),(7,(.int .u64 i)),(8,(.int .i64 f))],h:=[(300000,⟨false,false,true,false,1,d,false⟩),(300001,⟨false,false,true,false,1,e,false⟩),(300002,⟨false,false,true,false,1,b,false⟩)] }
def Bfe (N:Nat) (F:KF R):St→Option R:=Bx (Zo N) [] N (Ajz N F [1,1,1,1,1,0,1,0] []) N
def Ot (N:Nat) (F:KF R) (n:Nat):St→Option R:=Ba (Zo N) [] N (Ajz N F [1,1,1,1,1,0,1,0] []) n
theorem Bj4 (N:Nat) (Q0:St→Option R) (F:KF R) (a c:Nat) (d e b:LA):∀ (g j:Int),Bfd N F Q0 (Aj0 a c d e b g j)=(Aay N (fun i f b=>Q0 (Kw a c d e i f b)) (Iv F) a c d e b g j):=by
 intro g j
 have hK:Bfd N F Q0 (Aj0 a c d e b g j)=(Aqg N (fun i f b=>Q0 (Kw a c d e i f b)) (Iv F) a c d e b g j):=by kernel_rfl
 exact hK
theorem Bj5 (N:Nat)  (F:KF R) (a c:Nat) (d e:LA):∀ (n:Nat) (i f:Int) (b:LA),Ot N F n (Kw a c d e i f b)=(Gy N (Iv F) a c d e n i f b):=by
 intro n
 induction n with
 | zero=>intros;kernel_rfl
 | succ n ih =>
  intro i f b
  have e0:=funext fun i=>funext fun f=>funext fun b=>(show Ot N F n (Kw a c d e i f b)=_ from ih i f b)
  have e1:(fun g j=>Bfc N F (Ot N F n) (Aj0 a c d e b g j))=(fun g j=>(Aay N (Gy N (Iv F) a c d e n) (Iv F) a c d e b g j)):=by funext g;funext j;exact ((As ..).trans (Bj4 N (Ot N F n) F a c d e b g j)).trans (by rw [e0])
  have hK:Ot N F (n+1) (Kw a c d e i f b)=(Adl N (Iv F) a c d e (fun i f b=>Ot N F n (Kw a c d e i f b)) (fun g j=>Bfc N F (Ot N F n) (Aj0 a c d e b g j)) i f b):=by kernel_rfl
  exact hK.trans (by rw [e0,e1];rfl)
theorem Ay1 (N:Nat) (l:LA) (m:Nat) (t o:Bool) (p:LA) (q:Nat) (u r:Bool) (F:KF R):Ac Tryz.prog muts (Aup N) Ajy N 123 [(.imm l m 1 t o),(.imm p q 1 u r)] [] F=(Ajx N l m t o p q u r (Iv F)):=by
 have e1:=funext fun a=>funext fun c=>funext fun d=>funext fun e=>funext fun i=>funext fun f=>funext fun b=>(show Bfe N F (Kw a c d e i f b)=_ from (Ar ..).trans (Bj5 N F a c d e N i f b))
 have hK:Ac Tryz.prog muts (Aup N) Ajy N 123 [(.imm l m 1 t o),(.imm p q 1 u r)] [] F=(Bfa N (Iv F) (fun a c d e i f b=>Bfe N F (Kw a c d e i f b)) l m t o p q u r):=by kernel_rfl
 rw [Bal]
 exact hK.trans (by rw [e1];rfl)
def Adm (N:Nat) (args:List AV) (h:Aj) (k:KF R):Option R :=
 match args,h with
 | [(.imm l m 1 t o),(.imm p q 1 u r)],[]=>(Ajx N l m t o p q u r (Iv k))
 | _,_=>none
def Ay2 (N:Nat):Tw:=⟨Adm N,fun args h k=>by
 unfold Adm;split
 exact twE (Ay1 ..) (Ay1 ..)
 rfl⟩
theorem Bff (N:Nat):A1 Tryz.prog 123 (Ay2 N):=fun args h res x hh=>by
 change Adm N args h (fun v x=>some (v,x))=_ at hh
 unfold Adm at hh;split at hh
 exact Aa (T:=Aup N) ⟨Be9 N,E2 N,trivial⟩ follows ((Ay1 ..).trans hh)
 cases hh
def Aaz (N:Nat) (k1:Nat→Int→LA→LA→Option R) (r0:Nat→Nat→Bool→LA→LA→Option R) (b:LA) (a:Nat) (e c:Bool) (d:Nat) (g:Int) (f i:LA)   (m:Nat) (o:LA):Option R :=
 (Ajx N (List.take (m*1) o) m false true (List.take (d*1) f) d false true (fun aa ab ac=>(cond ab (cond (Am (IntKind.wrap .i64 (Int.tdiv g (32:Int))) a) (rdI .u32 (List.drop (0+((Int.toNat (IntKind.wrap .i64 (Int.tdiv g (32:Int))))*1)) i) fun ad=>(cond (decide ((IntKind.wrap .u64 (Int.tmod g (32:Int)))<(0:Int))) none (cond (Am (IntKind.wrap .i64 (Int.tdiv g (32:Int))) a) (cond ((Nat.beq 1 1)&&((Nat.ble ((0+((Int.toNat (IntKind.wrap .i64 (Int.tdiv g (32:Int))))*1))+1) (List.length i))&&(!false))) (k1 aa (IntKind.wrap .i64 (g - (1:Int))) (List.set i (0+((Int.toNat (IntKind.wrap .i64 (Int.tdiv g (32:Int))))*1)) (.int .u32 (Pa .u32 ad (IntKind.wrap .u32 ((1:Int)*2 ^ (min (Int.toNat (IntKind.wrap .u64 (Int.tmod g (32:Int)))) 32)))))) ac) none) none))) none) (k1 m (IntKind.wrap .i64 (g - (1:Int))) i o))))
def Jt (N:Nat) (k1:Nat→Int→LA→LA→Option R) (r0:Nat→Nat→Bool→LA→LA→Option R) (b:LA) (a:Nat) (e c:Bool) (d:Nat) (g:Int) (f i:LA) (m:Nat) (o:LA):Option R:=(Aaz N k1 r0 b a e c d g f i m o)
def P7 (N:Nat)  (r0:Nat→Nat→Bool→LA→LA→Option R) (b:LA) (a:Nat) (e c:Bool) (d:Nat) (f:LA) (k1:Nat→Int→LA→LA→Option R) (q2:Nat→LA→Option R) (j:Nat) (g:Int) (i l:LA):Option R :=
 (cond (decide (g≥(0:Int))) (Ajr N (List.take (j*1) l) j false true (List.take (j*1) l) j false true (fun w x=>(A23 N b a false c g (fun ae=>(cond (ae==(1:Int)) (Ajr N (List.take (w*1) x) w false true [(.int .u32 1)] 1 false true (fun af ag=>(q2 af ag))) (q2 w x)))))) (C1 N (List.take (a*1) i) a false true (fun ah ai=>(C1 N (List.take (j*1) l) j false true (fun aj ak=>(r0 ah aj true ai ak))))))
def C8 (N:Nat)  (r0:Nat→Nat→Bool→LA→LA→Option R) (b:LA) (a:Nat) (e c:Bool) (d:Nat) (f:LA):Nat→Nat→Int→LA→LA→Option R
 | 0,_,_,_,_=>none
 | n+1,j,g,i,l=>(P7 N r0 b a e c d f (C8 N r0 b a e c d f n) (fun m o=>(Jt N (C8 N r0 b a e c d f n) r0 b a e c d g f i m o)) j g i l)
def Aa0 (N:Nat)  (r0:Nat→Nat→Bool→LA→LA→Option R) (b:LA) (a:Nat) (e c:Bool) (d:Nat) (f:LA)  (q1:Nat→Int→LA→LA→Option R) :Option R :=
 (cond ((decide ((0:Int)≤((a:Nat):Int)))&&((decide (((a:Nat):Int)≤((a:Nat):Int)))&&((decide (((a:Nat):Int)≤(140737488355328:Int)))&&(decide ((((a:Nat):Int)*((4:Nat):Int))≤(140737488355328:Int)))))) (Aqa N b a false c (fun al=>(q1 0 (IntKind.wrap .i64 (al - (1:Int))) (List.replicate a (.int .u32 0)) []))) none)
def Um (N:Nat)  (r0:Nat→Nat→Bool→LA→LA→Option R) (b:LA) (a:Nat) (e c:Bool) (d:Nat) (f:LA) :Option R:=(Aa0 N r0 b a e c d f (fun j g i l=>(C8 N r0 b a e c d f N j g i l)))
def Aqh (N:Nat) (r0:Nat→Nat→Bool→LA→LA→Option R) (q0:Nat→LA→Option R) (b:LA) (a:Nat) (e c:Bool) (p:LA) (q:Nat) (t r:Bool):Option R :=
 (C1 N p q false r (fun d f=>(cond (((d:Nat):Int)==(0:Int)) (r0 0 0 false [] []) (Sj N b a false c (fun y am=>(Sj N (List.take (d*1) f) d false true (fun u an=>(cond (am==true) (cond (cond true an false) (cond (u==(0:Int)) none (D8 N (IntKind.wrap .u64 (Int.tdiv y u)) (fun ao ap=>(cond (u==(0:Int)) none (D8 N (Int.tmod y u) (fun aq ar=>(r0 ao aq true ap ar))))))) (q0 d f)) (q0 d f)))))))))
def Aqi (N:Nat) (b:LA) (a:Nat) (e c:Bool) (p:LA) (q:Nat) (t r:Bool) (r0:Nat→Nat→Bool→LA→LA→Option R):Option R:=(Aqh N r0 (fun d f=>(Um N r0 b a e c d f)) b a e c p q t r)
def Sk:=(Ai (@Aqi R)).1
theorem Aqj:@Sk R=@Aqi R:=(Ai _).2
def Un:Hints:={ H:=(hS (hR [0,1,5]) (hS (hR [0,1,5]) (hS (hS (hR [0,1,5,18]) (hN [0,1,5] (hS (hR [4,5,6]) hL) hL)) (hS (hR [0,1,5,7,8]) (hJ (hS (hR [0,1,5,7,8,9,10]) (hS (hR [0,1,5,7,9,32]) (hN [0,1,5] (hS (hR [4,5,6]) hL) hL))) (hS (hR [0,1,4,5]) (hS (hS (hR [0,1,4,5,11]) (hN [4,5] (hN [0,1,4,5,11] (hS (hS (hR [0,1,4,5,11,48]) (hN [0,1,4,5,11] hL hL)) (hS (hN [0,1,4,5,11] (hS (hR [0,1,4,5,11]) (hJ (hS (hR [0,1,4,5,11,57]) (hN [0,1,4,5,11] (hR [0,1,4,5,11]) hL)) (hS (hR [0,1,4,5,11,12,13]) (hS (hR [0,1,4,5,11,12,67]) (hN [0,1,4,5,11] (hS (hR [0,1,4,5,11]) (hR [0,1,4,5,11])) hL))))) hL) (hR [0,1,4,5,11]))) hL) hL)) (hS (hR [4,5,6]) hL)))))))),nils:=[(4,1),(5,1)],modes:=[(2,1),(2,1),(0,0)],free:=[],cob:=[] }
def Ya (N:Nat):List (Nat×Tw):=[(143,D7 N),(178,Awn N),(94,Py N),(179,Bai N),(122,Ayy N),(180,Be8 N),(123,Ay2 N)]
def Gm (N:Nat):Env:=mkE 84 Un (Ya N)
def Bfg (N:Nat) (F:KF R):=Aq (Gm N) Tryz.f140 Un.modes [] F
def Ju (N:Nat) (F:KF R):=atF (Gm N) [] N Tryz.f140 Un (Bfg N F)
def Cv  (F:KF R):Nat→Nat→Bool→LA→LA→Option R:=(fun au av aw ax ay=>F (.tup [(.own 300000 0 au),(.own 300001 0 av),(.bool aw)]) [(300000,⟨false,false,true,false,1,ax,false⟩),(300001,⟨false,false,true,false,1,ay,false⟩)])
def Uo (b:LA) (a:Nat) (e c:Bool) (d:Nat) (g:Int) (f i:LA) (m:Nat) (o:LA):St:={ s:=[(0,(.imm b a 1 e c)),(1,(.own 300000 0 d)),(4,(.own 300001 0 a)),(5,(.own 300002 0 m)),(11,(.int .i64 g))],h:=[(300000,⟨false,false,true,false,1,f,false⟩),(300001,⟨false,false,true,false,1,i,false⟩),(300002,⟨false,false,true,false,1,o,false⟩)] }
def Awo (N:Nat) (F:KF R) (Q1:St→Option R):St→Option R:=Bm (Gm N) [] N (Ju N F [1,1,1,1,1,1,0,1,0,0,1,0,0,1,1] [Q1])
def Awp (N:Nat) (F:KF R) (Q1:St→Option R):St→Option R:=Bq (Gm N) [] N (Ju N F [1,1,1,1,1,1,0,1,0,0,1,0,0,1,1] [Q1])
def E4 (b:LA) (a:Nat) (e c:Bool) (d:Nat) (f:LA) (j:Nat) (g:Int) (i l:LA):St:={ s:=[(0,(.imm b a 1 e c)),(1,(.own 300000 0 d)),(4,(.own 300001 0 a)),(5,(.own 300002 0 j)),(11,(.int .i64 g))],h:=[(300000,⟨false,false,true,false,1,f,false⟩),(300001,⟨false,false,true,false,1,i,false⟩),(300002,⟨false,false,true,false,1,l,false⟩)] }
def Awq (N:Nat) (F:KF R):St→Option R:=Bx (Gm N) [] N (Ju N F [1,1,1,1,1,1,0,1,0] []) N
def Gz (N:Nat) (F:KF R) (n:Nat):St→Option R:=Ba (Gm N) [] N (Ju N F [1,1,1,1,1,1,0,1,0] []) n
def Up (b:LA) (a:Nat) (e c:Bool) (d:Nat) (f:LA):St:={ s:=[(0,(.imm b a 1 e c)),(1,(.own 300000 0 d)),(5,(.own 300001 0 0))],h:=[(300000,⟨false,false,true,false,1,f,false⟩),(300001,⟨false,false,true,false,1,[],false⟩)] }
def Awr (N:Nat) (F:KF R):St→Option R:=Bm (Gm N) [] N (Ju N F [1,1,1,1,1] [])
def Aws (N:Nat) (F:KF R):St→Option R:=Bq (Gm N) [] N (Ju N F [1,1,1,1,1] [])
theorem A6s (N:Nat) (Q1:St→Option R) (F:KF R) (b:LA) (a:Nat) (e c:Bool) (d:Nat) (g:Int) (f i:LA):∀ (m:Nat) (o:LA),Awp N F Q1 (Uo b a e c d g f i m o)=(Jt N (fun j g i l=>Q1 (E4 b a e c d f j g i l)) (Cv F) b a e c d g f i m o):=by
 intro m o
 have hK:Awp N F Q1 (Uo b a e c d g f i m o)=(Aaz N (fun j g i l=>Q1 (E4 b a e c d f j g i l)) (Cv F) b a e c d g f i m o):=by kernel_rfl
 exact hK
theorem A6t (N:Nat)  (F:KF R) (b:LA) (a:Nat) (e c:Bool) (d:Nat) (f:LA):∀ (n j:Nat) (g:Int) (i l:LA),Gz N F n (E4 b a e c d f j g i l)=(C8 N (Cv F) b a e c d f n j g i l):=by
 intro n
 induction n with
 | zero=>intros;kernel_rfl
 | succ n ih =>
  intro j g i l
  have e0:=funext fun j=>funext fun g=>funext fun i=>funext fun l=>(show Gz N F n (E4 b a e c d f j g i l)=_ from ih j g i l)
  have e1:(fun m o=>Awo N F (Gz N F n) (Uo b a e c d g f i m o))=(fun m o=>(Jt N (C8 N (Cv F) b a e c d f n) (Cv F) b a e c d g f i m o)):=by funext m;funext o;exact ((As ..).trans (A6s N (Gz N F n) F b a e c d g f i m o)).trans (by rw [e0])
  have hK:Gz N F (n+1) (E4 b a e c d f j g i l)=(P7 N (Cv F) b a e c d f (fun j g i l=>Gz N F n (E4 b a e c d f j g i l)) (fun m o=>Awo N F (Gz N F n) (Uo b a e c d g f i m o)) j g i l):=by kernel_rfl
  exact hK.trans (by rw [e0,e1];rfl)
theorem A6u (N:Nat)  (F:KF R) (b:LA) (a:Nat) (e c:Bool) (d:Nat) (f:LA):Aws N F (Up b a e c d f)=(Um N (Cv F) b a e c d f):=by
 have e1:=funext fun j=>funext fun g=>funext fun i=>funext fun l=>(show Awq N F (E4 b a e c d f j g i l)=_ from (Ar ..).trans (A6t N F b a e c d f N j g i l))
 have hK:Aws N F (Up b a e c d f)=(Aa0 N (Cv F) b a e c d f (fun j g i l=>Awq N F (E4 b a e c d f j g i l))):=by kernel_rfl
 exact hK.trans (by rw [e1];rfl)
theorem Af2 (N:Nat) (b:LA) (a:Nat) (e c:Bool) (p:LA) (q:Nat) (t r:Bool) (F:KF R):Ac Tryz.prog muts (Ya N) Un N 140 [(.imm b a 1 e c),(.imm p q 1 t r)] [] F=(Sk N b a e c p q t r (Cv F)):=by
 have e1:=funext fun d=>funext fun f=>(show Awr N F (Up b a e c d f)=_ from (As ..).trans (A6u N F b a e c d f))
 have hK:Ac Tryz.prog muts (Ya N) Un N 140 [(.imm b a 1 e c),(.imm p q 1 t r)] [] F=(Aqh N (Cv F) (fun d f=>Awr N F (Up b a e c d f)) b a e c p q t r):=by kernel_rfl
 rw [Aqj]
 exact hK.trans (by rw [e1];rfl)
def P8 (N:Nat) (args:List AV) (h:Aj) (k:KF R):Option R :=
 match args,h with
 | [(.imm b a 1 e c),(.imm p q 1 t r)],[]=>(Sk N b a e c p q t r (Cv k))
 | _,_=>none
def Af3 (N:Nat):Tw:=⟨P8 N,fun args h k=>by
 unfold P8;split
 exact twE (Af2 ..) (Af2 ..)
 rfl⟩
theorem Awt (N:Nat):A1 Tryz.prog 140 (Af3 N):=fun args h res z hh=>by
 change P8 N args h (fun v z=>some (v,z))=_ at hh
 unfold P8 at hh;split at hh
 exact Aa (T:=Ya N) ⟨E2 N,Bj1 N,Add N,Bqi N,Be4 N,Bsl N,Bff N,trivial⟩ follows ((Af2 ..).trans hh)
 cases hh
def Pe (N:Nat)  (r0:Nat→LA→Option R)  (k0:Nat→Nat→LA→LA→Option R)  (b a:Nat) (c d:LA):Option R :=
 (cond (decide (((a:Nat):Int)>(0:Int))) (Sk N (List.take (b*1) c) b false true (List.take (a*1) d) a false true (fun aa q ab ac r=>(k0 a q d r))) (r0 b c))
def Dv (N:Nat)  (r0:Nat→LA→Option R) :Nat→Nat→Nat→LA→LA→Option R
 | 0,_,_,_,_=>none
 | n+1,b,a,c,d=>(Pe N r0 (Dv N r0 n) b a c d)
def Bfh (N:Nat) (r0:Nat→LA→Option R) (q0:Nat→Nat→LA→LA→Option R) (e:LA) (f:Nat) (m g:Bool) (i:LA) (j:Nat) (o l:Bool):Option R :=
 (C1 N e f false g (fun t u=>(C1 N i j false l (fun w x=>(q0 t w u x)))))
def Bfi (N:Nat) (e:LA) (f:Nat) (m g:Bool) (i:LA) (j:Nat) (o l:Bool) (r0:Nat→LA→Option R):Option R:=(Bfh N r0 (fun b a c d=>(Dv N r0 N b a c d)) e f m g i j o l)
def A25:=(Ai (@Bfi R)).1
theorem Bam:@A25 R=@Bfi R:=(Ai _).2
def Aj1:Hints:={ H:=(hS (hR [0,1]) (hS (hR [0,1]) (hS (hN [0] (hN [0,1] (hS (hS (hR [0,1,14]) (hN [0,1] hL hL)) (hN [0,1] (hS (hR [1,6]) (hR [0,1])) hL)) hL) hL) (hS (hR [4]) hL)))),nils:=[(4,1)],modes:=[(2,1)],free:=[],cob:=[] }
def Auq (N:Nat):List (Nat×Tw):=[(143,D7 N),(140,Af3 N)]
def Aur (N:Nat):Env:=mkE 25 Aj1 (Auq N)
def Bql (N:Nat) (F:KF R):=Aq (Aur N) Tryz.f139 Aj1.modes [] F
def Bfj (N:Nat) (F:KF R):=atF (Aur N) [] N Tryz.f139 Aj1 (Bql N F)
def Aa1  (F:KF R):Nat→LA→Option R:=(fun y z=>F (.own 300000 0 y) [(300000,⟨false,false,true,false,1,z,false⟩)])
def Sm (b a:Nat) (c d:LA):St:={ s:=[(0,(.own 300000 0 b)),(1,(.own 300001 0 a))],h:=[(300000,⟨false,false,true,false,1,c,false⟩),(300001,⟨false,false,true,false,1,d,false⟩)] }
def Bfk (N:Nat) (F:KF R):St→Option R:=Bx (Aur N) [] N (Bfj N F [1,1,0,0] []) N
def Aj2 (N:Nat) (F:KF R) (n:Nat):St→Option R:=Ba (Aur N) [] N (Bfj N F [1,1,0,0] []) n
theorem Bj6 (N:Nat)  (F:KF R) :∀ (n b a:Nat) (c d:LA),Aj2 N F n (Sm b a c d)=(Dv N (Aa1 F) n b a c d):=by
 intro n
 induction n with
 | zero=>intros;kernel_rfl
 | succ n ih =>
  intro b a c d
  have e0:=funext fun b=>funext fun a=>funext fun c=>funext fun d=>(show Aj2 N F n (Sm b a c d)=_ from ih b a c d)
  have hK:Aj2 N F (n+1) (Sm b a c d)=(Pe N (Aa1 F) (fun b a c d=>Aj2 N F n (Sm b a c d)) b a c d):=by kernel_rfl
  exact hK.trans (by rw [e0];rfl)
theorem Ay3 (N:Nat) (e:LA) (f:Nat) (m g:Bool) (i:LA) (j:Nat) (o l:Bool) (F:KF R):Ac Tryz.prog muts (Auq N) Aj1 N 139 [(.imm e f 1 m g),(.imm i j 1 o l)] [] F=(A25 N e f m g i j o l (Aa1 F)):=by
 have e1:=funext fun b=>funext fun a=>funext fun c=>funext fun d=>(show Bfk N F (Sm b a c d)=_ from (Ar ..).trans (Bj6 N F N b a c d))
 have hK:Ac Tryz.prog muts (Auq N) Aj1 N 139 [(.imm e f 1 m g),(.imm i j 1 o l)] [] F=(Bfh N (Aa1 F) (fun b a c d=>Bfk N F (Sm b a c d)) e f m g i j o l):=by kernel_rfl
 rw [Bam]
 exact hK.trans (by rw [e1];rfl)
def Adn (N:Nat) (args:List AV) (h:Aj) (k:KF R):Option R :=
 match args,h with
 | [(.imm e f 1 m g),(.imm i j 1 o l)],[]=>(A25 N e f m g i j o l (Aa1 k))
 | _,_=>none
def Bfl (N:Nat):Tw:=⟨Adn N,fun args h k=>by
 unfold Adn;split
 exact twE (Ay3 ..) (Ay3 ..)
 rfl⟩
theorem Bsm (N:Nat):A1 Tryz.prog 139 (Bfl N):=fun args h res p hh=>by
 change Adn N args h (fun v p=>some (v,p))=_ at hh
 unfold Adn at hh;split at hh
 exact Aa (T:=Auq N) ⟨E2 N,Awt N,trivial⟩ follows ((Ay3 ..).trans hh)
 cases hh
def Bfm (N:Nat) (r0:LA→Option R)  (a:LA) (b:Bool) (c:LA) (d:Bool):Option R :=
 (rdL 1 (List.drop 1 a) fun i j=>(rdL 1 (List.drop 1 c) fun l m=>(A25 N i j false b l m false d (fun f n=>(Es N false (List.take (f*1) n) f false true (fun e=>(cond ((Nat.beq 0 0)&&((Nat.beq (List.length e) 2)&&(Nat.beq 2 2))) (cond (Nat.ble 2 (List.length e)) (r0 (List.take 2 e)) none) none)))))))
def Bfn (N:Nat) (a:LA) (b:Bool) (c:LA) (d:Bool) (r0:LA→Option R):Option R:=(Bfm N r0 a b c d)
def A26:=(Ai (@Bfn R)).1
theorem Ban:@A26 R=@Bfn R:=(Ai _).2
def Bfo:Hints:={ H:=(hS (hR [2,3,4]) (hS (hR [4]) hL)),nils:=[],modes:=[(3,0)],free:=[],cob:=[] }
def A6v (N:Nat):List (Nat×Tw):=[(139,Bfl N),(93,Gl N)]
def Ay4  (F:KF R):LA→Option R:=(fun o=>F (.pagg o false) [])
theorem Ay5 (N:Nat) (a:LA) (b:Bool) (c:LA) (d:Bool) (F:KF R):Ac Tryz.prog muts (A6v N) Bfo N 90 [(.pagg a b),(.pagg c d)] [] F=(A26 N a b c d (Ay4 F)):=by
 have hK:Ac Tryz.prog muts (A6v N) Bfo N 90 [(.pagg a b),(.pagg c d)] [] F=(Bfm N (Ay4 F) a b c d):=by kernel_rfl
 rw [Ban]
 exact hK
def Ado (N:Nat) (args:List AV) (h:Aj) (k:KF R):Option R :=
 match args,h with
 | [(.pagg a b),(.pagg c d)],[]=>(A26 N a b c d (Ay4 k))
 | _,_=>none
def Bfp (N:Nat):Tw:=⟨Ado N,fun args h k=>by
 unfold Ado;split
 exact twE (Ay5 ..) (Ay5 ..)
 rfl⟩
theorem Bsn (N:Nat):A1 Tryz.prog 90 (Bfp N):=fun args h res g hh=>by
 change Ado N args h (fun v g=>some (v,g))=_ at hh
 unfold Ado at hh;split at hh
 exact Aa (T:=A6v N) ⟨Bsm N,If N,trivial⟩ follows ((Ay5 ..).trans hh)
 cases hh
def Bqm (N:Nat) (r0:LA→Option R)  (a:LA) (b:Bool):Option R :=
 (rdL 1 (List.drop 1 a) fun e f=>(Es N false e f false b (fun c=>(cond ((Nat.beq 0 0)&&((Nat.beq (List.length c) 2)&&(Nat.beq 2 2))) (cond (Nat.ble 2 (List.length c)) (r0 (List.take 2 c)) none) none))))
def Bqn (N:Nat) (a:LA) (b:Bool) (r0:LA→Option R):Option R:=(Bqm N r0 a b)
def Bdf:=(Ai (@Bqn R)).1
theorem Bqo:@Bdf R=@Bqn R:=(Ai _).2
def Bfq:Hints:={ H:=(hS (hR [1,2]) (hS (hR [2]) hL)),nils:=[],modes:=[(3,0)],free:=[],cob:=[] }
def A6w (N:Nat):List (Nat×Tw):=[(93,Gl N)]
def Ay6  (F:KF R):LA→Option R:=(fun g=>F (.pagg g false) [])
theorem Ay7 (N:Nat) (a:LA) (b:Bool) (F:KF R):Ac Tryz.prog muts (A6w N) Bfq N 141 [(.pagg a b)] [] F=(Bdf N a b (Ay6 F)):=by
 have hK:Ac Tryz.prog muts (A6w N) Bfq N 141 [(.pagg a b)] [] F=(Bqm N (Ay6 F) a b):=by kernel_rfl
 rw [Bqo]
 exact hK
def Adp (N:Nat) (args:List AV) (h:Aj) (k:KF R):Option R :=
 match args,h with
 | [(.pagg a b)],[]=>(Bdf N a b (Ay6 k))
 | _,_=>none
def Bfr (N:Nat):Tw:=⟨Adp N,fun args h k=>by
 unfold Adp;split
 exact twE (Ay7 ..) (Ay7 ..)
 rfl⟩
theorem Bso (N:Nat):A1 Tryz.prog 141 (Bfr N):=fun args h res d hh=>by
 change Adp N args h (fun v d=>some (v,d))=_ at hh
 unfold Adp at hh;split at hh
 exact Aa (T:=A6w N) ⟨If N,trivial⟩ follows ((Ay7 ..).trans hh)
 cases hh
def Bfs (N:Nat) (r0:LA→Option R)  (a:LA) (c:Bool) (b:LA) (d:Bool):Option R :=
 (rdB a fun n=>(rdB b fun o=>(cond (n==o) (rdB a fun p=>(rdL 1 (List.drop 1 a) fun q r=>(rdL 1 (List.drop 1 b) fun s t=>(Ajr N q r false c s t false d (fun i u=>(Es N p (List.take (i*1) u) i false true (fun e=>(cond ((Nat.beq 0 0)&&((Nat.beq (List.length e) 2)&&(Nat.beq 2 2))) (cond (Nat.ble 2 (List.length e)) (r0 (List.take 2 e)) none) none)))))))) (rdL 1 (List.drop 1 a) fun w x=>(rdL 1 (List.drop 1 b) fun y z=>(Ajx N w x false c y z false d (fun j aa ab=>(cond aa (rdB a fun ac=>(Es N ac (List.take (j*1) ab) j false true (fun f=>(cond ((Nat.beq 0 0)&&((Nat.beq (List.length f) 2)&&(Nat.beq 2 2))) (cond (Nat.ble 2 (List.length f)) (r0 (List.take 2 f)) none) none)))) (rdL 1 (List.drop 1 b) fun ad ae=>(rdL 1 (List.drop 1 a) fun af ag=>(Ajx N ad ae false d af ag false c (fun l ak ah=>(rdB b fun ai=>(Es N ai (List.take (l*1) ah) l false true (fun g=>(cond ((Nat.beq 0 0)&&((Nat.beq (List.length g) 2)&&(Nat.beq 2 2))) (cond (Nat.ble 2 (List.length g)) (r0 (List.take 2 g)) none) none))))))))))))))))
def Bft (N:Nat) (a:LA) (c:Bool) (b:LA) (d:Bool) (r0:LA→Option R):Option R:=(Bfs N r0 a c b d)
def Yb:=(Ai (@Bft R)).1
theorem Bao:@Yb R=@Bft R:=(Ai _).2
def Bfu:Hints:={ H:=(hS (hR [2,3,4]) (hS (hS (hR [2,3,4,13]) (hN [2,3,4] (hS (hR [4]) hL) hL)) (hS (hS (hR [2,3,4,5,6]) (hS (hR [2,3,4,5,30]) (hN [2,3,4] (hS (hR [4]) hL) hL))) (hS (hR [3,4,7]) (hS (hR [4]) hL))))),nils:=[],modes:=[(3,0)],free:=[],cob:=[] }
def A6x (N:Nat):List (Nat×Tw):=[(122,Ayy N),(93,Gl N),(123,Ay2 N)]
def Ay8  (F:KF R):LA→Option R:=(fun aj=>F (.pagg aj false) [])
theorem Ay9 (N:Nat) (a:LA) (c:Bool) (b:LA) (d:Bool) (F:KF R):Ac Tryz.prog muts (A6x N) Bfu N 71 [(.pagg a c),(.pagg b d)] [] F=(Yb N a c b d (Ay8 F)):=by
 have hK:Ac Tryz.prog muts (A6x N) Bfu N 71 [(.pagg a c),(.pagg b d)] [] F=(Bfs N (Ay8 F) a c b d):=by kernel_rfl
 rw [Bao]
 exact hK
def Adq (N:Nat) (args:List AV) (h:Aj) (k:KF R):Option R :=
 match args,h with
 | [(.pagg a c),(.pagg b d)],[]=>(Yb N a c b d (Ay8 k))
 | _,_=>none
def Aj3 (N:Nat):Tw:=⟨Adq N,fun args h k=>by
 unfold Adq;split
 exact twE (Ay9 ..) (Ay9 ..)
 rfl⟩
theorem Aza (N:Nat):A1 Tryz.prog 71 (Aj3 N):=fun args h res m hh=>by
 change Adq N args h (fun v m=>some (v,m))=_ at hh
 unfold Adq at hh;split at hh
 exact Aa (T:=A6x N) ⟨Be4 N,If N,Bff N,trivial⟩ follows ((Ay9 ..).trans hh)
 cases hh
def Bfv (N:Nat) (r0:LA→Option R)  (a:LA) (b:Bool):Option R :=
 (rdB a fun e=>(rdL 1 (List.drop 1 a) fun f g=>(Es N (!e) f g false b (fun c=>(cond ((Nat.beq 0 0)&&((Nat.beq (List.length c) 2)&&(Nat.beq 2 2))) (cond (Nat.ble 2 (List.length c)) (r0 (List.take 2 c)) none) none)))))
def Bfw (N:Nat) (a:LA) (b:Bool) (r0:LA→Option R):Option R:=(Bfv N r0 a b)
def Yc:=(Ai (@Bfw R)).1
theorem Bap:@Yc R=@Bfw R:=(Ai _).2
def Bfx:Hints:={ H:=(hS (hR [1,2]) (hS (hR [2]) hL)),nils:=[],modes:=[(3,0)],free:=[],cob:=[] }
def A6y (N:Nat):List (Nat×Tw):=[(93,Gl N)]
def Azb  (F:KF R):LA→Option R:=(fun i=>F (.pagg i false) [])
theorem Azc (N:Nat) (a:LA) (b:Bool) (F:KF R):Ac Tryz.prog muts (A6y N) Bfx N 92 [(.pagg a b)] [] F=(Yc N a b (Azb F)):=by
 have hK:Ac Tryz.prog muts (A6y N) Bfx N 92 [(.pagg a b)] [] F=(Bfv N (Azb F) a b):=by kernel_rfl
 rw [Bap]
 exact hK
def Adr (N:Nat) (args:List AV) (h:Aj) (k:KF R):Option R :=
 match args,h with
 | [(.pagg a b)],[]=>(Yc N a b (Azb k))
 | _,_=>none
def Aj4 (N:Nat):Tw:=⟨Adr N,fun args h k=>by
 unfold Adr;split
 exact twE (Azc ..) (Azc ..)
 rfl⟩
theorem Azd (N:Nat):A1 Tryz.prog 92 (Aj4 N):=fun args h res d hh=>by
 change Adr N args h (fun v d=>some (v,d))=_ at hh
 unfold Adr at hh;split at hh
 exact Aa (T:=A6y N) ⟨If N,trivial⟩ follows ((Azc ..).trans hh)
 cases hh
def Bqp (N:Nat) (r0:LA→Option R)  (a:LA) (c:Bool) (b:LA) (d:Bool):Option R :=
 (cond (Nat.ble 2 (List.length a)) (cond (Nat.ble 2 (List.length b)) (Yc N (List.take 2 b) d (fun g=>(Yb N (List.take 2 a) c g false (fun e=>(cond ((Nat.beq 0 0)&&((Nat.beq (List.length e) 2)&&(Nat.beq 2 2))) (cond (Nat.ble 2 (List.length e)) (r0 (List.take 2 e)) none) none))))) none) none)
def Bqq (N:Nat) (a:LA) (c:Bool) (b:LA) (d:Bool) (r0:LA→Option R):Option R:=(Bqp N r0 a c b d)
def Bdg:=(Ai (@Bqq R)).1
theorem Bqr:@Bdg R=@Bqq R:=(Ai _).2
def Bfy:Hints:={ H:=(hS (hR [2,3,4]) (hS (hR [4]) hL)),nils:=[],modes:=[(3,0)],free:=[],cob:=[] }
def A6z (N:Nat):List (Nat×Tw):=[(92,Aj4 N),(71,Aj3 N)]
def Aze  (F:KF R):LA→Option R:=(fun i=>F (.pagg i false) [])
theorem Azf (N:Nat) (a:LA) (c:Bool) (b:LA) (d:Bool) (F:KF R):Ac Tryz.prog muts (A6z N) Bfy N 142 [(.pagg a c),(.pagg b d)] [] F=(Bdg N a c b d (Aze F)):=by
 have hK:Ac Tryz.prog muts (A6z N) Bfy N 142 [(.pagg a c),(.pagg b d)] [] F=(Bqp N (Aze F) a c b d):=by kernel_rfl
 rw [Bqr]
 exact hK
def Ads (N:Nat) (args:List AV) (h:Aj) (k:KF R):Option R :=
 match args,h with
 | [(.pagg a c),(.pagg b d)],[]=>(Bdg N a c b d (Aze k))
 | _,_=>none
def Bfz (N:Nat):Tw:=⟨Ads N,fun args h k=>by
 unfold Ads;split
 exact twE (Azf ..) (Azf ..)
 rfl⟩
theorem Bsp (N:Nat):A1 Tryz.prog 142 (Bfz N):=fun args h res f hh=>by
 change Ads N args h (fun v f=>some (v,f))=_ at hh
 unfold Ads at hh;split at hh
 exact Aa (T:=A6z N) ⟨Azd N,Aza N,trivial⟩ follows ((Azf ..).trans hh)
 cases hh
def Aqk (N:Nat) (r0:LA→LA→Bool→Option R)  (e:LA) (g:Bool) (d:LA) (f:Bool):Option R :=
 (rdL 1 (List.drop 1 e) fun o p=>(rdL 1 (List.drop 1 d) fun q r=>(Sk N o p false g q r false f (fun l m s t u=>(cond (!s) (r0 [(.bool false),.nsl] [(.bool false),.nsl] false) (rdB e fun w=>(rdB d fun x=>(Es N (!(w==x)) (List.take (l*1) t) l false true (fun a=>(rdB e fun y=>(Es N y (List.take (m*1) u) m false true (fun b=>(cond ((Nat.beq 0 0)&&((Nat.beq (List.length a) 2)&&(Nat.beq 2 2))) (cond ((Nat.beq 0 0)&&((Nat.beq (List.length b) 2)&&(Nat.beq 2 2))) (rdB b fun z=>(cond z (cond (Nat.ble 2 (List.length b)) (cond (Nat.ble 2 (List.length d)) (Bdf N (List.take 2 d) f (fun aa=>(Yb N (List.take 2 b) false aa false (fun c=>(cond ((Nat.beq (List.length c) 2)&&((Nat.ble 2 (List.length b))&&(!false))) (rdB d fun ab=>(cond ab (cond (Nat.ble 2 (List.length a)) (E3 N 1 (fun ac=>(Yb N (List.take 2 a) false ac false (fun i=>(cond ((Nat.beq (List.length i) 2)&&((Nat.ble 2 (List.length a))&&(!false))) (cond (Nat.ble 2 (List.length (setCells a 0 i))) (cond (Nat.ble 2 (List.length (setCells b 0 c))) (cond ((Nat.beq (List.length (List.take 2 (setCells a 0 i))) 2)&&((Nat.ble 2 (List.length (setCells a 0 i)))&&(!false))) (cond ((Nat.beq (List.length (List.take 2 (setCells b 0 c))) 2)&&((Nat.ble 2 (List.length (setCells b 0 c)))&&(!false))) (cond (Nat.ble 2 (List.length (setCells (setCells a 0 i) 0 (List.take 2 (setCells a 0 i))))) (cond (Nat.ble 2 (List.length (setCells (setCells b 0 c) 0 (List.take 2 (setCells b 0 c))))) (r0 (List.take 2 (setCells (setCells a 0 i) 0 (List.take 2 (setCells a 0 i)))) (List.take 2 (setCells (setCells b 0 c) 0 (List.take 2 (setCells b 0 c)))) true) none) none) none) none) none) none) none))))) none) (cond (Nat.ble 2 (List.length a)) (E3 N 1 (fun ad=>(Bdg N (List.take 2 a) false ad false (fun j=>(cond ((Nat.beq (List.length j) 2)&&((Nat.ble 2 (List.length a))&&(!false))) (cond (Nat.ble 2 (List.length (setCells a 0 j))) (cond (Nat.ble 2 (List.length (setCells b 0 c))) (cond ((Nat.beq (List.length (List.take 2 (setCells a 0 j))) 2)&&((Nat.ble 2 (List.length (setCells a 0 j)))&&(!false))) (cond ((Nat.beq (List.length (List.take 2 (setCells b 0 c))) 2)&&((Nat.ble 2 (List.length (setCells b 0 c)))&&(!false))) (cond (Nat.ble 2 (List.length (setCells (setCells a 0 j) 0 (List.take 2 (setCells a 0 j))))) (cond (Nat.ble 2 (List.length (setCells (setCells b 0 c) 0 (List.take 2 (setCells b 0 c))))) (r0 (List.take 2 (setCells (setCells a 0 j) 0 (List.take 2 (setCells a 0 j)))) (List.take 2 (setCells (setCells b 0 c) 0 (List.take 2 (setCells b 0 c)))) true) none) none) none) none) none) none) none))))) none))) none))))) none) none) (cond (Nat.ble 2 (List.length a)) (cond (Nat.ble 2 (List.length b)) (cond ((Nat.beq (List.length (List.take 2 a)) 2)&&((Nat.ble 2 (List.length a))&&(!false))) (cond ((Nat.beq (List.length (List.take 2 b)) 2)&&((Nat.ble 2 (List.length b))&&(!false))) (cond (Nat.ble 2 (List.length (setCells a 0 (List.take 2 a)))) (cond (Nat.ble 2 (List.length (setCells b 0 (List.take 2 b)))) (r0 (List.take 2 (setCells a 0 (List.take 2 a))) (List.take 2 (setCells b 0 (List.take 2 b))) true) none) none) none) none) none) none))) none) none)))))))))))))
def Aql (N:Nat) (e:LA) (g:Bool) (d:LA) (f:Bool) (r0:LA→LA→Bool→Option R):Option R:=(Aqk N r0 e g d f)
def Sn:=(Ai (@Aql R)).1
theorem Aqm:@Sn R=@Aql R:=(Ai _).2
def Awu:Hints:={ H:=(hS (hR [2,3,4,5]) (hS (hR [2,3,4,5,6,7,8]) (hS (hS (hR [2,3,4,5,7,8,19]) (hN [2,3,4,5,7,8] (hS (hR [4,5,6]) hL) hL)) (hS (hR [3,4,5]) (hS (hS (hR [3,4,5,34]) (hN [4,5] (hS (hR [3,4,5]) (hS (hR [4,5,40]) (hN [4,5] (hR [4,5]) (hR [4,5])))) hL)) (hS (hR [4,5,6]) hL)))))),nils:=[],modes:=[(3,0),(3,0),(0,0)],free:=[],cob:=[] }
def Aj5 (N:Nat):List (Nat×Tw):=[(140,Af3 N),(93,Gl N),(141,Bfr N),(71,Aj3 N),(55,Pz N),(142,Bfz N)]
def Af4  (F:KF R):LA→LA→Bool→Option R:=(fun ae af ag=>F (.tup [(.pagg ae false),(.pagg af false),(.bool ag)]) [])
theorem Af5 (N:Nat) (e:LA) (g:Bool) (d:LA) (f:Bool) (F:KF R):Ac Tryz.prog muts (Aj5 N) Awu N 91 [(.pagg e g),(.pagg d f)] [] F=(Sn N e g d f (Af4 F)):=by
 have hK:Ac Tryz.prog muts (Aj5 N) Awu N 91 [(.pagg e g),(.pagg d f)] [] F=(Aqk N (Af4 F) e g d f):=by kernel_rfl
 rw [Aqm]
 exact hK
def P9 (N:Nat) (args:List AV) (h:Aj) (k:KF R):Option R :=
 match args,h with
 | [(.pagg e g),(.pagg d f)],[]=>(Sn N e g d f (Af4 k))
 | _,_=>none
def Awv (N:Nat):Tw:=⟨P9 N,fun args h k=>by
 unfold P9;split
 exact twE (Af5 ..) (Af5 ..)
 rfl⟩
theorem Bj7 (N:Nat):A1 Tryz.prog 91 (Awv N):=fun args h res n hh=>by
 change P9 N args h (fun v n=>some (v,n))=_ at hh
 unfold P9 at hh;split at hh
 exact Aa (T:=Aj5 N) ⟨Awt N,If N,Bso N,Aza N,Aat N,Bsp N,trivial⟩ follows ((Af5 ..).trans hh)
 cases hh
def Aj6 (N:Nat)  (r0:LA→Option R) (d:Bool) (b:LA) (c:Bool) (a:LA)   :Option R :=
 (cond (Nat.ble 2 (List.length b)) (cond (Nat.ble 2 (List.length a)) (A26 N (List.take 2 b) d (List.take 2 a) c (fun i=>(cond ((Nat.beq 0 0)&&((Nat.beq (List.length i) 2)&&(Nat.beq 2 2))) (cond (Nat.ble 2 (List.length b)) (cond (Nat.ble 2 (List.length i)) (Sn N (List.take 2 b) d (List.take 2 i) false (fun e x ag=>(cond ((Nat.beq 0 0)&&((Nat.beq (List.length e) 2)&&(Nat.beq 2 2))) (cond ((Nat.beq 0 0)&&((Nat.beq (List.length x) 2)&&(Nat.beq 2 2))) (cond (Nat.ble 2 (List.length a)) (cond (Nat.ble 2 (List.length i)) (Sn N (List.take 2 a) c (List.take 2 i) false (fun f y ah=>(cond ((Nat.beq 0 0)&&((Nat.beq (List.length f) 2)&&(Nat.beq 2 2))) (cond ((Nat.beq 0 0)&&((Nat.beq (List.length y) 2)&&(Nat.beq 2 2))) (rdB f fun z=>(cond z (cond (Nat.ble 2 (List.length e)) (Yc N (List.take 2 e) false (fun g=>(cond (Nat.ble 2 (List.length f)) (Yc N (List.take 2 f) false (fun u=>(cond ((Nat.beq (List.length g) 2)&&((Nat.ble 2 (List.length e))&&(!false))) (cond ((Nat.beq (List.length u) 2)&&((Nat.ble 2 (List.length f))&&(!false))) (cond (Nat.ble 2 (List.length (setCells e 0 g))) (rdL 1 (List.drop 1 (setCells f 0 u)) fun m n=>(cond ((Nat.beq (List.length (List.take 2 (setCells e 0 g))) 2)&&(Nat.ble 2 3)) (cond ((Nat.beq 1 1)&&(Nat.ble 3 (List.length (setCells [(.bool false),.nsl,.nsl] 0 (List.take 2 (setCells e 0 g)))))) (cond ((Nat.beq 0 0)&&((Nat.beq (List.length (List.set (setCells [(.bool false),.nsl,.nsl] 0 (List.take 2 (setCells e 0 g))) 2 (.imm m n 1 false false))) 3)&&(Nat.beq 3 3))) (cond (Nat.ble 3 (List.length (List.set (setCells [(.bool false),.nsl,.nsl] 0 (List.take 2 (setCells e 0 g))) 2 (.imm m n 1 false false)))) (r0 (List.take 3 (List.set (setCells [(.bool false),.nsl,.nsl] 0 (List.take 2 (setCells e 0 g))) 2 (.imm m n 1 false false)))) none) none) none) none)) none) none) none))) none))) none) (cond (Nat.ble 2 (List.length e)) (rdL 1 (List.drop 1 f) fun o p=>(cond ((Nat.beq (List.length (List.take 2 e)) 2)&&(Nat.ble 2 3)) (cond ((Nat.beq 1 1)&&(Nat.ble 3 (List.length (setCells [(.bool false),.nsl,.nsl] 0 (List.take 2 e))))) (cond ((Nat.beq 0 0)&&((Nat.beq (List.length (List.set (setCells [(.bool false),.nsl,.nsl] 0 (List.take 2 e)) 2 (.imm o p 1 false false))) 3)&&(Nat.beq 3 3))) (cond (Nat.ble 3 (List.length (List.set (setCells [(.bool false),.nsl,.nsl] 0 (List.take 2 e)) 2 (.imm o p 1 false false)))) (r0 (List.take 3 (List.set (setCells [(.bool false),.nsl,.nsl] 0 (List.take 2 e)) 2 (.imm o p 1 false false)))) none) none) none) none)) none))) none) none))) none) none) none) none))) none) none) none))) none) none)
def Aqn (N:Nat)  (r0:LA→Option R) (d:Bool) (b:LA) (c:Bool) (a:LA) :Option R:=(Aj6 N r0 d b c a)
def A60 (N:Nat) (r0:LA→Option R) (q0:Option R) (b:LA) (d:Bool) (a:LA) (c:Bool):Option R :=
 (cond (Nat.ble 2 (List.length a)) (Aav N (List.take 2 a) c (fun aa=>(cond (aa==(0:Int)) (Ahw N (fun q=>(cond ((Nat.beq 0 0)&&((Nat.beq (List.length q) 3)&&(Nat.beq 3 3))) (cond (Nat.ble 3 (List.length q)) (r0 (List.take 3 q)) none) none))) (cond (Nat.ble 2 (List.length a)) (Aau N (List.take 2 a) c (fun l=>(cond ((Nat.beq 0 0)&&((Nat.beq (List.length l) 2)&&(Nat.beq 2 2))) (rdB l fun ab=>(cond ((!ab)==true) (rdL 1 (List.drop 1 l) fun ac ad=>(Ahx N ac ad false false [(.int .u32 1)] 1 false true (fun ae=>(cond (cond true ae false) (cond (Nat.ble 2 (List.length b)) (Aau N (List.take 2 b) d (fun j=>(rdL 1 (List.drop 1 l) fun r t=>(cond ((Nat.beq (List.length j) 2)&&(Nat.ble 2 3)) (cond ((Nat.beq 1 1)&&(Nat.ble 3 (List.length (setCells [(.bool false),.nsl,.nsl] 0 j)))) (cond ((Nat.beq 0 0)&&((Nat.beq (List.length (List.set (setCells [(.bool false),.nsl,.nsl] 0 j) 2 (.imm r t 1 false false))) 3)&&(Nat.beq 3 3))) (cond (Nat.ble 3 (List.length (List.set (setCells [(.bool false),.nsl,.nsl] 0 j) 2 (.imm r t 1 false false)))) (r0 (List.take 3 (List.set (setCells [(.bool false),.nsl,.nsl] 0 j) 2 (.imm r t 1 false false)))) none) none) none) none)))) none) q0)))) q0)) none))) none)))) none)
def A61 (N:Nat) (b:LA) (d:Bool) (a:LA) (c:Bool) (r0:LA→Option R):Option R:=(A60 N r0 (Aqn N r0 d b c a) b d a c)
def Kx:=(Ai (@A61 R)).1
theorem A27:@Kx R=@A61 R:=(Ai _).2
def Adt:Hints:={ H:=(hS (hR [2,3,4]) (hS (hS (hR [2,3,4,15]) (hN [2,3,4] (hS (hR [4]) hL) hL)) (hJ (hS (hR [2,3,4,5]) (hS (hR [2,3,4,5,27]) (hN [2,3,4] (hS (hR [4]) hL) hL))) (hS (hR [2,3,4,6]) (hS (hR [3,4,6,7]) (hS (hR [4,7,10]) (hS (hS (hR [4,7,10,51]) (hN [4,7,10] (hR [4,7,10]) hL)) (hS (hR [4]) hL)))))))),nils:=[],modes:=[(3,0)],free:=[],cob:=[] }
def Aj7 (N:Nat):List (Nat×Tw):=[(75,Ap3 N),(41,Ap6 N),(88,Ap0 N),(89,A22 N),(90,Bfp N),(91,Awv N),(92,Aj4 N)]
def Aj8 (N:Nat):Env:=mkE 60 Adt (Aj7 N)
def Bn4 (N:Nat) (F:KF R):=Aq (Aj8 N) Tryz.f54 Adt.modes [] F
def Baq (N:Nat) (F:KF R):=atF (Aj8 N) [] N Tryz.f54 Adt (Bn4 N F)
def V8  (F:KF R):LA→Option R:=(fun af=>F (.pagg af false) [])
def Adu (d:Bool) (b:LA) (c:Bool) (a:LA):St:={ s:=[(2,(.optr 300000 0)),(3,(.optr 300001 0)),(4,(.optr 300002 0))],h:=[(300000,⟨false,false,true,d,0,b,false⟩),(300001,⟨false,false,true,c,0,a,false⟩),(300002,⟨false,false,false,false,0,[(.bool false),.nsl,.nsl],false⟩)] }
def Bar (N:Nat) (F:KF R):St→Option R:=Bm (Aj8 N) [] N (Baq N F [1,1,1] [])
def Bas (N:Nat) (F:KF R):St→Option R:=Bq (Aj8 N) [] N (Baq N F [1,1,1] [])
theorem Bf0 (N:Nat)  (F:KF R) (d:Bool) (b:LA) (c:Bool) (a:LA):Bas N F (Adu d b c a)=(Aqn N (V8 F) d b c a):=by
 have hK:Bas N F (Adu d b c a)=(Aj6 N (V8 F) d b c a):=by kernel_rfl
 exact hK
theorem Aqo (N:Nat) (b:LA) (d:Bool) (a:LA) (c:Bool) (F:KF R):Ac Tryz.prog muts (Aj7 N) Adt N 54 [(.pagg b d),(.pagg a c)] [] F=(Kx N b d a c (V8 F)):=by
 have e1:=(show Bar N F (Adu d b c a)=_ from (As ..).trans (Bf0 N F d b c a))
 have hK:Ac Tryz.prog muts (Aj7 N) Adt N 54 [(.pagg b d),(.pagg a c)] [] F=(A60 N (V8 F) (Bar N F (Adu d b c a)) b d a c):=by kernel_rfl
 rw [A27]
 exact hK.trans (by rw [e1];rfl)
def Yd (N:Nat) (args:List AV) (h:Aj) (k:KF R):Option R :=
 match args,h with
 | [(.pagg b d),(.pagg a c)],[]=>(Kx N b d a c (V8 k))
 | _,_=>none
def Ky (N:Nat):Tw:=⟨Yd N,fun args h k=>by
 unfold Yd;split
 exact twE (Aqo ..) (Aqo ..)
 rfl⟩
theorem Pf (N:Nat):A1 Tryz.prog 54 (Ky N):=fun args h res w hh=>by
 change Yd N args h (fun v w=>some (v,w))=_ at hh
 unfold Yd at hh;split at hh
 exact Aa (T:=Aj7 N) ⟨Bad N,Baf N,Bab N,Bn2 N,Bsn N,Bj7 N,Azd N,trivial⟩ follows ((Aqo ..).trans hh)
 cases hh
def Aj9 (N:Nat) (r0:LA→Option R)  (a:Int):Option R :=
 (E3 N a (fun d=>(E3 N 1 (fun e=>(Kx N d false e false (fun b=>(cond ((Nat.beq 0 0)&&((Nat.beq (List.length b) 3)&&(Nat.beq 3 3))) (cond (Nat.ble 3 (List.length b)) (r0 (List.take 3 b)) none) none)))))))
def Aka (N:Nat) (a:Int) (r0:LA→Option R):Option R:=(Aj9 N r0 a)
def Bb:=(Ai (@Aka R)).1
theorem An7:@Bb R=@Aka R:=(Ai _).2
def Aqp:Hints:={ H:=(hS (hR [0,2]) (hS (hR [2]) hL)),nils:=[],modes:=[(3,0)],free:=[],cob:=[] }
def Af6 (N:Nat):List (Nat×Tw):=[(55,Pz N),(54,Ky N)]
def Aa2  (F:KF R):LA→Option R:=(fun f=>F (.pagg f false) [])
theorem Aa3 (N:Nat) (a:Int) (F:KF R):Ac Tryz.prog muts (Af6 N) Aqp N 20 [(.int .i64 a)] [] F=(Bb N a (Aa2 F)):=by
 have hK:Ac Tryz.prog muts (Af6 N) Aqp N 20 [(.int .i64 a)] [] F=(Aj9 N (Aa2 F) a):=by kernel_rfl
 rw [An7]
 exact hK
def Nw (N:Nat) (args:List AV) (h:Aj) (k:KF R):Option R :=
 match args,h with
 | [(.int .i64 a)],[]=>(Bb N a (Aa2 k))
 | _,_=>none
def Hq (N:Nat):Tw:=⟨Nw N,fun args h k=>by
 unfold Nw;split
 exact twE (Aa3 ..) (Aa3 ..)
 rfl⟩
theorem Kz (N:Nat):A1 Tryz.prog 20 (Hq N):=fun args h res c hh=>by
 change Nw N args h (fun v c=>some (v,c))=_ at hh
 unfold Nw at hh;split at hh
 exact Aa (T:=Af6 N) ⟨Aat N,Pf N,trivial⟩ follows ((Aa3 ..).trans hh)
 cases hh
def Akb (N:Nat)  (r0:Nat→Option R) (a:Nat) (b:LA) (k0:Int→Option R)  (c:Int):Option R :=
 (cond ((decide (c>(0:Int)))==true) (cond (Am (IntKind.wrap .i64 (c - (1:Int))) a) (rdI .u32 (List.drop (0+((Int.toNat (IntKind.wrap .i64 (c - (1:Int))))*1)) b) fun e=>(cond (cond true (e==(0:Int)) false) (k0 (IntKind.wrap .i64 (c - (1:Int)))) (cond ((decide ((0:Int)≤(0:Int)))&&((decide ((0:Int)≤c))&&((decide (c≤((a:Nat):Int)))&&(decide (((a:Nat):Int)≤((a:Nat):Int)))))) (r0 (Int.toNat c)) none))) none) (cond ((decide ((0:Int)≤(0:Int)))&&((decide ((0:Int)≤c))&&((decide (c≤((a:Nat):Int)))&&(decide (((a:Nat):Int)≤((a:Nat):Int)))))) (r0 (Int.toNat c)) none))
def Zp (N:Nat)  (r0:Nat→Option R) (a:Nat) (b:LA):Nat→Int→Option R
 | 0,_=>none
 | n+1,c=>(Akb N r0 a b (Zp N r0 a b n) c)
def Bdh (N:Nat) (r0:Nat→Option R) (q0:Int→Option R) (a:Nat) (b:LA):Option R :=
 (q0 ((a:Nat):Int))
def Bdi (N a:Nat) (b:LA) (r0:Nat→Option R):Option R:=(Bdh N r0 (fun c=>(Zp N r0 a b N c)) a b)
def Wu:=(Ai (@Bdi R)).1
theorem Azg:@Wu R=@Bdi R:=(Ai _).2
def Aus:Hints:={ H:=(hS (hR [0]) (hS (hR [0,3]) (hS (hN [0,3] (hN [0,3] (hS (hS (hR [0,3,15]) (hN [0,3] hL hL)) (hN [0,3] (hR [0,3]) hL)) hL) hL) (hS (hR [2]) hL)))),nils:=[(2,1)],modes:=[(2,1)],free:=[],cob:=[] }
def Aqq (N:Nat):List (Nat×Tw):=[]
def A28 (N:Nat):Env:=mkE 21 Aus (Aqq N)
def Bsq (N:Nat) (F:KF R):=Aq (A28 N) Tryz.f171 Aus.modes [100000] F
def Ble (N:Nat) (F:KF R):=atF (A28 N) [100000] N Tryz.f171 Aus (Bsq N F)
def Zq (b:LA) (F:KF R):Nat→Option R:=(fun f=>F (.own 100000 0 f) [(100000,⟨false,false,true,false,1,b,false⟩)])
def Zr (a:Nat) (b:LA) (c:Int):St:={ s:=[(0,(.own 100000 0 a)),(3,(.int .i64 c))],h:=[(100000,⟨false,false,true,false,1,b,false⟩)] }
def Blf (N:Nat) (F:KF R):St→Option R:=Bx (A28 N) [100000] N (Ble N F [1,1,0,0] []) N
def Aut (N:Nat) (F:KF R) (n:Nat):St→Option R:=Ba (A28 N) [100000] N (Ble N F [1,1,0,0] []) n
theorem Bn5 (N:Nat)  (F:KF R) (a:Nat) (b:LA):∀ (n:Nat) (c:Int),Aut N F n (Zr a b c)=(Zp N (Zq b F) a b n c):=by
 intro n
 induction n with
 | zero=>intros;kernel_rfl
 | succ n ih =>
  intro c
  have e0:=funext fun c=>(show Aut N F n (Zr a b c)=_ from ih c)
  have hK:Aut N F (n+1) (Zr a b c)=(Akb N (Zq b F) a b (fun c=>Aut N F n (Zr a b c)) c):=by kernel_rfl
  exact hK.trans (by rw [e0];rfl)
theorem Zs (N a:Nat) (b:LA) (F:KF R):Ac Tryz.prog muts (Aqq N) Aus N 171 [(.own 100000 0 a)] [(100000,⟨false,false,true,false,1,b,false⟩)] F=(Wu N a b (Zq b F)):=by
 have e1:=funext fun c=>(show Blf N F (Zr a b c)=_ from (Ar ..).trans (Bn5 N F a b N c))
 have hK:Ac Tryz.prog muts (Aqq N) Aus N 171 [(.own 100000 0 a)] [(100000,⟨false,false,true,false,1,b,false⟩)] F=(Bdh N (Zq b F) (fun c=>Blf N F (Zr a b c)) a b):=by kernel_rfl
 rw [Azg]
 exact hK.trans (by rw [e1];rfl)
def Akc (N:Nat) (args:List AV) (h:Aj) (k:KF R):Option R :=
 match args,h with
 | [(.own 100000 0 a)],[(100000,⟨false,false,true,false,1,b,false⟩)]=>(Wu N a b (Zq b k))
 | _,_=>none
def Auu (N:Nat):Tw:=⟨Akc N,fun args h k=>by
 unfold Akc;split
 exact twE (Zs ..) (Zs ..)
 rfl⟩
theorem A62 (N:Nat):A1 Tryz.prog 171 (Auu N):=fun args h res d hh=>by
 change Akc N args h (fun v d=>some (v,d))=_ at hh
 unfold Akc at hh;split at hh
 exact Aa (T:=Aqq N) trivial follows ((Zs ..).trans hh)
 cases hh
def Aa4 (N:Nat) (r0:Nat→LA→Option R)  (a:Int):Option R :=
 (Wu N 2 [(.int .u32 (IntKind.wrap .u32 a)),(.int .u32 (IntKind.wrap .u32 (Int.fdiv a (2 ^ 32))))] (fun c=>(r0 c [(.int .u32 (IntKind.wrap .u32 a)),(.int .u32 (IntKind.wrap .u32 (Int.fdiv a (2 ^ 32))))])))
def Aa5 (N:Nat) (a:Int) (r0:Nat→LA→Option R):Option R:=(Aa4 N r0 a)
def Bo:=(Ai (@Aa5 R)).1
theorem Adv:@Bo R=@Aa5 R:=(Ai _).2
def Ahy:Hints:={ H:=(hS (hR [0]) (hS (hR [2]) hL)),nils:=[(2,1)],modes:=[(2,1)],free:=[],cob:=[] }
def Wv (N:Nat):List (Nat×Tw):=[(171,Auu N)]
def So  (F:KF R):Nat→LA→Option R:=(fun d e=>F (.own 300000 0 d) [(300000,⟨false,false,true,false,1,e,false⟩)])
theorem Sp (N:Nat) (a:Int) (F:KF R):Ac Tryz.prog muts (Wv N) Ahy N 149 [(.int .u64 a)] [] F=(Bo N a (So F)):=by
 have hK:Ac Tryz.prog muts (Wv N) Ahy N 149 [(.int .u64 a)] [] F=(Aa4 N (So F) a):=by kernel_rfl
 rw [Adv]
 exact hK
def Ka (N:Nat) (args:List AV) (h:Aj) (k:KF R):Option R :=
 match args,h with
 | [(.int .u64 a)],[]=>(Bo N a (So k))
 | _,_=>none
def Dw (N:Nat):Tw:=⟨Ka N,fun args h k=>by
 unfold Ka;split
 exact twE (Sp ..) (Sp ..)
 rfl⟩
theorem Fc (N:Nat):A1 Tryz.prog 149 (Dw N):=fun args h res b hh=>by
 change Ka N args h (fun v b=>some (v,b))=_ at hh
 unfold Ka at hh;split at hh
 exact Aa (T:=Wv N) ⟨A62 N,trivial⟩ follows ((Sp ..).trans hh)
 cases hh
def Azh (N:Nat) (r0:Bool→Option R)  (c:Bool) (a:Nat) (b:LA):Option R :=
 (cond (c==true) (r0 (cond true (decide (((a:Nat):Int)>(0:Int))) false)) (r0 false))
def Azi (N:Nat) (c:Bool) (a:Nat) (b:LA) (r0:Bool→Option R):Option R:=(Azh N r0 c a b)
def Hr:=(Ai (@Azi R)).1
theorem Aww:@Hr R=@Azi R:=(Ai _).2
def A29:Hints:={ H:=(hS (hR [0,1,4]) (hS (hR [4]) hL)),nils:=[],modes:=[],free:=[],cob:=[] }
def Aqr (N:Nat):List (Nat×Tw):=[]
def Akd (a:Nat) (b:LA) (F:KF R):Bool→Option R:=(fun e=>F (.agg [(.bool e),(.own 100000 0 a)]) [(100000,⟨false,false,true,false,1,b,false⟩)])
theorem Ake (N:Nat) (c:Bool) (a:Nat) (b:LA) (F:KF R):Ac Tryz.prog muts (Aqr N) A29 N 148 [(.bool c),(.own 100000 0 a)] [(100000,⟨false,false,true,false,1,b,false⟩)] F=(Hr N c a b (Akd a b F)):=by
 have hK:Ac Tryz.prog muts (Aqr N) A29 N 148 [(.bool c),(.own 100000 0 a)] [(100000,⟨false,false,true,false,1,b,false⟩)] F=(Azh N (Akd a b F) c a b):=by kernel_rfl
 rw [Aww]
 exact hK
def Uq (N:Nat) (args:List AV) (h:Aj) (k:KF R):Option R :=
 match args,h with
 | [(.bool c),(.own 100000 0 a)],[(100000,⟨false,false,true,false,1,b,false⟩)]=>(Hr N c a b (Akd a b k))
 | _,_=>none
def Qa (N:Nat):Tw:=⟨Uq N,fun args h k=>by
 unfold Uq;split
 exact twE (Ake ..) (Ake ..)
 rfl⟩
theorem Ye (N:Nat):A1 Tryz.prog 148 (Qa N):=fun args h res d hh=>by
 change Uq N args h (fun v d=>some (v,d))=_ at hh
 unfold Uq at hh;split at hh
 exact Aa (T:=Aqr N) trivial follows ((Ake ..).trans hh)
 cases hh
def Aqs (N:Nat) (r0:Bool→Nat→LA→Option R)  (a:Int):Option R :=
 (cond (decide (a<(0:Int))) (Bo N (IntKind.wrap .u64 ((0:Int) - (IntKind.wrap .u64 a))) (fun b c=>(Hr N true b c (fun g=>(r0 g b c))))) (Bo N (IntKind.wrap .u64 a) (fun d e=>(Hr N false d e (fun i=>(r0 i d e))))))
def Aqt (N:Nat) (a:Int) (r0:Bool→Nat→LA→Option R):Option R:=(Aqs N r0 a)
def Aa6:=(Ai (@Aqt R)).1
theorem Aqu:@Aa6 R=@Aqt R:=(Ai _).2
def Awx:Hints:={ H:=(hS (hR [0,2]) (hS (hS (hR [0,2,4]) (hN [0,2] (hS (hR [2]) hL) hL)) (hS (hR [2]) hL))),nils:=[],modes:=[],free:=[],cob:=[] }
def Akf (N:Nat):List (Nat×Tw):=[(149,Dw N),(148,Qa N)]
def Af7  (F:KF R):Bool→Nat→LA→Option R:=(fun j l m=>F (.agg [(.bool j),(.own 300000 0 l)]) [(300000,⟨false,false,true,false,1,m,false⟩)])
theorem Af8 (N:Nat) (a:Int) (F:KF R):Ac Tryz.prog muts (Akf N) Awx N 104 [(.int .i64 a)] [] F=(Aa6 N a (Af7 F)):=by
 have hK:Ac Tryz.prog muts (Akf N) Awx N 104 [(.int .i64 a)] [] F=(Aqs N (Af7 F) a):=by kernel_rfl
 rw [Aqu]
 exact hK
def Qb (N:Nat) (args:List AV) (h:Aj) (k:KF R):Option R :=
 match args,h with
 | [(.int .i64 a)],[]=>(Aa6 N a (Af7 k))
 | _,_=>none
def Awy (N:Nat):Tw:=⟨Qb N,fun args h k=>by
 unfold Qb;split
 exact twE (Af8 ..) (Af8 ..)
 rfl⟩
theorem Bj8 (N:Nat):A1 Tryz.prog 104 (Awy N):=fun args h res f hh=>by
 change Qb N args h (fun v f=>some (v,f))=_ at hh
 unfold Qb at hh;split at hh
 exact Aa (T:=Akf N) ⟨Fc N,Ye N,trivial⟩ follows ((Af8 ..).trans hh)
 cases hh
def Aqv (N:Nat) (r0:LA→Option R)  (a:Int):Option R :=
 (Aa6 N a (fun d b e=>(r0 [(.bool d),(.imm (List.take (b*1) e) b 1 false false),(.imm [(.int .u32 1)] 1 1 false false)])))
def Aqw (N:Nat) (a:Int) (r0:LA→Option R):Option R:=(Aqv N r0 a)
def C0:=(Ai (@Aqw R)).1
theorem Aqx:@C0 R=@Aqw R:=(Ai _).2
def Awz:Hints:={ H:=(hS (hR [0,2]) (hS (hR [2]) hL)),nils:=[],modes:=[(3,0)],free:=[],cob:=[] }
def Akg (N:Nat):List (Nat×Tw):=[(104,Awy N)]
def Af9  (F:KF R):LA→Option R:=(fun f=>F (.pagg f false) [])
theorem Aga (N:Nat) (a:Int) (F:KF R):Ac Tryz.prog muts (Akg N) Awz N 60 [(.int .i64 a)] [] F=(C0 N a (Af9 F)):=by
 have hK:Ac Tryz.prog muts (Akg N) Awz N 60 [(.int .i64 a)] [] F=(Aqv N (Af9 F) a):=by kernel_rfl
 rw [Aqx]
 exact hK
def Qc (N:Nat) (args:List AV) (h:Aj) (k:KF R):Option R :=
 match args,h with
 | [(.int .i64 a)],[]=>(C0 N a (Af9 k))
 | _,_=>none
def Ni (N:Nat):Tw:=⟨Qc N,fun args h k=>by
 unfold Qc;split
 exact twE (Aga ..) (Aga ..)
 rfl⟩
theorem Ur (N:Nat):A1 Tryz.prog 60 (Ni N):=fun args h res c hh=>by
 change Qc N args h (fun v c=>some (v,c))=_ at hh
 unfold Qc at hh;split at hh
 exact Aa (T:=Akg N) ⟨Bj8 N,trivial⟩ follows ((Aga ..).trans hh)
 cases hh
def Us (N:Nat)  (r0:LA→Nat→Option R) (d:LA) (a:Nat) (e c:Bool) (k0:Int→Option R)  (b:Int):Option R :=
 (cond ((decide (b>(0:Int)))==true) (cond (Am (IntKind.wrap .i64 (b - (1:Int))) a) (rdI .u32 (List.drop ((Int.toNat (IntKind.wrap .i64 (b - (1:Int))))*1) d) fun g=>(cond (cond true (g==(0:Int)) false) (k0 (IntKind.wrap .i64 (b - (1:Int)))) (cond ((decide ((0:Int)≤(0:Int)))&&((decide ((0:Int)≤b))&&((decide (b≤((a:Nat):Int)))&&(decide (((a:Nat):Int)≤((a:Nat):Int)))))) (r0 (List.take ((Int.toNat b)*1) d) (Int.toNat b)) none))) none) (cond ((decide ((0:Int)≤(0:Int)))&&((decide ((0:Int)≤b))&&((decide (b≤((a:Nat):Int)))&&(decide (((a:Nat):Int)≤((a:Nat):Int)))))) (r0 (List.take ((Int.toNat b)*1) d) (Int.toNat b)) none))
def Lz (N:Nat)  (r0:LA→Nat→Option R) (d:LA) (a:Nat) (e c:Bool):Nat→Int→Option R
 | 0,_=>none
 | n+1,b=>(Us N r0 d a e c (Lz N r0 d a e c n) b)
def Azj (N:Nat) (r0:LA→Nat→Option R) (q0:Int→Option R) (d:LA) (a:Nat) (e c:Bool):Option R :=
 (q0 ((a:Nat):Int))
def Azk (N:Nat) (d:LA) (a:Nat) (e c:Bool) (r0:LA→Nat→Option R):Option R:=(Azj N r0 (fun b=>(Lz N r0 d a e c N b)) d a e c)
def By:=(Ai (@Azk R)).1
theorem Aw0:@By R=@Azk R:=(Ai _).2
def Yf:Hints:={ H:=(hS (hR [0]) (hS (hR [0,3]) (hS (hN [0,3] (hN [0,3] (hS (hS (hR [0,3,15]) (hN [0,3] hL hL)) (hN [0,3] (hR [0,3]) hL)) hL) hL) (hS (hR [2]) hL)))),nils:=[(2,1)],modes:=[(2,1)],free:=[],cob:=[] }
def Pg (N:Nat):List (Nat×Tw):=[]
def Adw (N:Nat):Env:=mkE 21 Yf (Pg N)
def Bj9 (N:Nat) (F:KF R):=Aq (Adw N) Tryz.f171 Yf.modes [] F
def A3a (N:Nat) (F:KF R):=atF (Adw N) [] N Tryz.f171 Yf (Bj9 N F)
def Iw (c:Bool) (F:KF R):LA→Nat→Option R:=(fun i j=>F (.imm i j 1 false c) [])
def L0 (d:LA) (a:Nat) (e c:Bool) (b:Int):St:={ s:=[(0,(.imm d a 1 e c)),(3,(.int .i64 b))],h:=[] }
def A3b (N:Nat) (F:KF R):St→Option R:=Bx (Adw N) [] N (A3a N F [1,1,0,0] []) N
def Yg (N:Nat) (F:KF R) (n:Nat):St→Option R:=Ba (Adw N) [] N (A3a N F [1,1,0,0] []) n
theorem Bcs (N:Nat)  (F:KF R) (d:LA) (a:Nat) (e c:Bool):∀ (n:Nat) (b:Int),Yg N F n (L0 d a e c b)=(Lz N (Iw c F) d a e c n b):=by
 intro n
 induction n with
 | zero=>intros;kernel_rfl
 | succ n ih =>
  intro b
  have e0:=funext fun b=>(show Yg N F n (L0 d a e c b)=_ from ih b)
  have hK:Yg N F (n+1) (L0 d a e c b)=(Us N (Iw c F) d a e c (fun b=>Yg N F n (L0 d a e c b)) b):=by kernel_rfl
  exact hK.trans (by rw [e0];rfl)
theorem Eu (N:Nat) (d:LA) (a:Nat) (e c:Bool) (F:KF R):Ac Tryz.prog muts (Pg N) Yf N 171 [(.imm d a 1 e c)] [] F=(By N d a e c (Iw c F)):=by
 have e1:=funext fun b=>(show A3b N F (L0 d a e c b)=_ from (Ar ..).trans (Bcs N F d a e c N b))
 have hK:Ac Tryz.prog muts (Pg N) Yf N 171 [(.imm d a 1 e c)] [] F=(Azj N (Iw c F) (fun b=>A3b N F (L0 d a e c b)) d a e c):=by kernel_rfl
 rw [Aw0]
 exact hK.trans (by rw [e1];rfl)
def Ut (N:Nat) (args:List AV) (h:Aj) (k:KF R):Option R :=
 match args,h with
 | [(.imm d a 1 e c)],[]=>(By N d a e c (Iw c k))
 | _,_=>none
def L5 (N:Nat):Tw:=⟨Ut N,fun args h k=>by
 unfold Ut;split
 exact twE (Eu ..) (Eu ..)
 rfl⟩
theorem Qd (N:Nat):A1 Tryz.prog 171 (L5 N):=fun args h res f hh=>by
 change Ut N args h (fun v f=>some (v,f))=_ at hh
 unfold Ut at hh;split at hh
 exact Aa (T:=Pg N) trivial follows ((Eu ..).trans hh)
 cases hh
def Aw1 (N:Nat)  (r0:LA→Option R)  (k0:Option R)  :Option R :=
 (r0 [])
def Yh (N:Nat)  (r0:LA→Option R) :Nat→Option R
 | 0=>none
 | n+1=>(Aw1 N r0 (Yh N r0 n))
def Azl (N:Nat) (r0:LA→Option R) (q0:Option R) :Option R :=
 q0
def Azm (N:Nat)  (r0:LA→Option R):Option R:=(Azl N r0 (Yh N r0 N))
def Ahz:=(Ai (@Azm R)).1
theorem Aw2:@Ahz R=@Azm R:=(Ai _).2
def Yi:Hints:={ H:=(hS (hR [0]) (hS (hR [0,3]) (hS (hN [0,3] (hN [0,3] (hS (hS (hR [0,3,15]) (hN [0,3] hL hL)) (hN [0,3] (hR [0,3]) hL)) hL) hL) (hS (hR [2]) hL)))),nils:=[(2,1)],modes:=[(2,1)],free:=[],cob:=[] }
def Adx (N:Nat):List (Nat×Tw):=[]
def Ady (N:Nat):Env:=mkE 21 Yi (Adx N)
def Bka (N:Nat) (F:KF R):=Aq (Ady N) Tryz.f171 Yi.modes [] F
def A3c (N:Nat) (F:KF R):=atF (Ady N) [] N Tryz.f171 Yi (Bka N F)
def Qe  (F:KF R):LA→Option R:=(fun b=>F (.own 300000 0 0) [(300000,⟨false,false,true,false,1,b,false⟩)])
def L6 :St:={ s:=[(0,.nsl),(3,(.int .i64 0))],h:=[] }
def A3d (N:Nat) (F:KF R):St→Option R:=Bx (Ady N) [] N (A3c N F [1,1,0,0] []) N
def Yj (N:Nat) (F:KF R) (n:Nat):St→Option R:=Ba (Ady N) [] N (A3c N F [1,1,0,0] []) n
theorem Bct (N:Nat)  (F:KF R) :∀ (n:Nat) ,Yj N F n L6=(Yh N (Qe F) n):=by
 intro n
 induction n with
 | zero=>intros;kernel_rfl
 | succ n ih =>
  have e0:=(show Yj N F n L6=_ from ih)
  have hK:Yj N F (n+1) L6=(Aw1 N (Qe F) (Yj N F n L6)):=by kernel_rfl
  exact hK.trans (by rw [e0];rfl)
theorem Akh (N:Nat)  (F:KF R):Ac Tryz.prog muts (Adx N) Yi N 171 [.nsl] [] F=(Ahz N (Qe F)):=by
 have e1:=(show A3d N F L6=_ from (Ar ..).trans (Bct N F N))
 have hK:Ac Tryz.prog muts (Adx N) Yi N 171 [.nsl] [] F=(Azl N (Qe F) (A3d N F L6)):=by kernel_rfl
 rw [Aw2]
 exact hK.trans (by rw [e1];rfl)
def Aa7 (N:Nat)  (r0:Int→Option R) (d:LA) (c:Nat) (b:Bool) (e:LA) (k0:Int→Option R)  (a:Int):Option R :=
 (cond (decide (a≥(0:Int))) (cond (Am a c) (rdI .u32 (List.drop ((Int.toNat a)*1) d) fun l=>(cond (Am a 0) (rdI .u32 (List.drop (0+((Int.toNat a)*1)) e) fun m=>(cond (decide (l<m)) (r0 (-1)) (cond (Am a c) (rdI .u32 (List.drop ((Int.toNat a)*1) d) fun o=>(cond (Am a 0) (rdI .u32 (List.drop (0+((Int.toNat a)*1)) e) fun p=>(cond (decide (o>p)) (r0 1) (k0 (IntKind.wrap .i64 (a - (1:Int)))))) none)) none))) none)) none) (r0 0))
def Uu (N:Nat)  (r0:Int→Option R) (d:LA) (c:Nat) (b:Bool) (e:LA):Nat→Int→Option R
 | 0,_=>none
 | n+1,a=>(Aa7 N r0 d c b e (Uu N r0 d c b e n) a)
def Aqy (N:Nat) (r0:Int→Option R) (q0:LA→Nat→LA→Int→Option R) (f:LA) (g:Nat) (i b:Bool):Option R :=
 (By N f g i b (fun d c=>(Ahz N (fun e=>(cond (((c:Nat):Int) != (0:Int)) (cond (decide (((c:Nat):Int)<(0:Int))) (r0 (-1)) (r0 1)) (q0 d c e (IntKind.wrap .i64 (((c:Nat):Int) - (1:Int)))))))))
def Aqz (N:Nat) (f:LA) (g:Nat) (i b:Bool) (r0:Int→Option R):Option R:=(Aqy N r0 (fun d c e a=>(Uu N r0 d c b e N a)) f g i b)
def Ss:=(Ai (@Aqz R)).1
theorem Aq0:@Ss R=@Aqz R:=(Ai _).2
def Uv:Hints:={ H:=(hS (hR [0,1]) (hS (hR [0,1]) (hS (hS (hR [0,1,14]) (hN [0,1] (hS (hS (hR [19]) (hS (hS (hR [4]) hL) hL)) (hS (hR [4]) hL)) hL)) (hS (hS (hR [0,1,5]) (hS (hN [0,1,5] (hS (hS (hR [0,1,5,24]) (hN [0,1,5] hL hL)) (hS (hN [0,1,5] (hS (hS (hR [0,1,5,35]) (hN [0,1,5] (hS (hR [4]) hL) hL)) (hS (hR [0,1,5,44]) (hN [0,1,5] (hS (hR [4]) hL) hL))) hL) (hR [0,1,5]))) hL) hL)) (hS (hR [4]) hL))))),nils:=[],modes:=[],free:=[],cob:=[] }
def C7 (N:Nat) (args:List AV) (h:Aj) (k:KF R):Option R :=
 match args,h with
 | [(.imm f g 1 i b)],[]=>(By N f g i b (Iw b k))
 | [.nsl],[]=>(Ahz N (Qe k))
 | _,_=>none
def K0 (N:Nat):Tw:=⟨C7 N,fun args h k=>by
 unfold C7;split
 exact twE (Eu ..) (Eu ..)
 exact twE (Akh ..) (Akh ..)
 rfl⟩
theorem Aa8 (N:Nat):A1 Tryz.prog 171 (K0 N):=fun args h res j hh=>by
 change C7 N args h (fun v j=>some (v,j))=_ at hh
 unfold C7 at hh;split at hh
 exact Aa (T:=Pg N) trivial follows ((Eu ..).trans hh)
 exact Aa (T:=Adx N) trivial follows ((Akh ..).trans hh)
 cases hh
def Yk (N:Nat):List (Nat×Tw):=[(171,K0 N)]
def Yl (N:Nat):Env:=mkE 45 Uv (Yk N)
def Bf1 (N:Nat) (F:KF R):=Aq (Yl N) Tryz.f132 Uv.modes [] F
def Aw3 (N:Nat) (F:KF R):=atF (Yl N) [] N Tryz.f132 Uv (Bf1 N F)
def Nj  (F:KF R):Int→Option R:=(fun q=>F (.int .i64 q) [])
def Jv (d:LA) (c:Nat) (b:Bool) (e:LA) (a:Int):St:={ s:=[(0,(.imm d c 1 false b)),(1,(.own 300000 0 0)),(5,(.int .i64 a))],h:=[(300000,⟨false,false,true,false,1,e,false⟩)] }
def Aw4 (N:Nat) (F:KF R):St→Option R:=Bx (Yl N) [] N (Aw3 N F [1,1,1,0,1,0] []) N
def Uw (N:Nat) (F:KF R) (n:Nat):St→Option R:=Ba (Yl N) [] N (Aw3 N F [1,1,1,0,1,0] []) n
theorem A63 (N:Nat)  (F:KF R) (d:LA) (c:Nat) (b:Bool) (e:LA):∀ (n:Nat) (a:Int),Uw N F n (Jv d c b e a)=(Uu N (Nj F) d c b e n a):=by
 intro n
 induction n with
 | zero=>intros;kernel_rfl
 | succ n ih =>
  intro a
  have e0:=funext fun a=>(show Uw N F n (Jv d c b e a)=_ from ih a)
  have hK:Uw N F (n+1) (Jv d c b e a)=(Aa7 N (Nj F) d c b e (fun a=>Uw N F n (Jv d c b e a)) a):=by kernel_rfl
  exact hK.trans (by rw [e0];rfl)
theorem Agb (N:Nat) (f:LA) (g:Nat) (i b:Bool) (F:KF R):Ac Tryz.prog muts (Yk N) Uv N 132 [(.imm f g 1 i b),.nsl] [] F=(Ss N f g i b (Nj F)):=by
 have e1:=funext fun d=>funext fun c=>funext fun e=>funext fun a=>(show Aw4 N F (Jv d c b e a)=_ from (Ar ..).trans (A63 N F d c b e N a))
 have hK:Ac Tryz.prog muts (Yk N) Uv N 132 [(.imm f g 1 i b),.nsl] [] F=(Aqy N (Nj F) (fun d c e a=>Aw4 N F (Jv d c b e a)) f g i b):=by kernel_rfl
 rw [Aq0]
 exact hK.trans (by rw [e1];rfl)
def Qf (N:Nat) (args:List AV) (h:Aj) (k:KF R):Option R :=
 match args,h with
 | [(.imm f g 1 i b),.nsl],[]=>(Ss N f g i b (Nj k))
 | _,_=>none
def Agc (N:Nat):Tw:=⟨Qf N,fun args h k=>by
 unfold Qf;split
 exact twE (Agb ..) (Agb ..)
 rfl⟩
theorem Aw5 (N:Nat):A1 Tryz.prog 132 (Agc N):=fun args h res j hh=>by
 change Qf N args h (fun v j=>some (v,j))=_ at hh
 unfold Qf at hh;split at hh
 exact Aa (T:=Yk N) ⟨Aa8 N,trivial⟩ follows ((Agb ..).trans hh)
 cases hh
def Auv (N:Nat) (r0:LA→Bool→LA→Nat→Bool→Option R)  (a:LA) (b:Bool):Option R :=
 (rdL 1 (List.drop 2 a) fun d e=>(Ss N d e false b (fun f=>(cond (f==(0:Int)) (r0 [(.bool false),.nsl] false [(.int .u32 1)] 1 false) (cond (Nat.ble 2 (List.length a)) (rdL 1 (List.drop 2 a) fun g i=>(cond ((Nat.beq 0 0)&&((Nat.beq (List.length (List.take 2 a)) 2)&&(Nat.beq 2 2))) (cond (Nat.ble 2 (List.length (List.take 2 a))) (r0 (List.take 2 (List.take 2 a)) b g i b) none) none)) none)))))
def Auw (N:Nat) (a:LA) (b:Bool) (r0:LA→Bool→LA→Nat→Bool→Option R):Option R:=(Auv N r0 a b)
def Jg:=(Ai (@Auw R)).1
theorem Aki:@Jg R=@Auw R:=(Ai _).2
def Bat:Hints:={ H:=(hS (hR [1,2]) (hS (hS (hR [1,2,7]) (hN [1,2] (hS (hR [2,3]) hL) hL)) (hS (hR [2,3]) hL))),nils:=[(3,1)],modes:=[(3,0),(1,1)],free:=[],cob:=[] }
def Azn (N:Nat):List (Nat×Tw):=[(132,Agc N)]
def Aq1  (F:KF R):LA→Bool→LA→Nat→Bool→Option R:=(fun j l m n o=>F (.tup [(.pagg j l),(.imm m n 1 false o)]) [])
theorem Aq2 (N:Nat) (a:LA) (b:Bool) (F:KF R):Ac Tryz.prog muts (Azn N) Bat N 101 [(.pagg a b)] [] F=(Jg N a b (Aq1 F)):=by
 have hK:Ac Tryz.prog muts (Azn N) Bat N 101 [(.pagg a b)] [] F=(Auv N (Aq1 F) a b):=by kernel_rfl
 rw [Aki]
 exact hK
def Ym (N:Nat) (args:List AV) (h:Aj) (k:KF R):Option R :=
 match args,h with
 | [(.pagg a b)],[]=>(Jg N a b (Aq1 k))
 | _,_=>none
def Ph (N:Nat):Tw:=⟨Ym N,fun args h k=>by
 unfold Ym;split
 exact twE (Aq2 ..) (Aq2 ..)
 rfl⟩
theorem V9 (N:Nat):A1 Tryz.prog 101 (Ph N):=fun args h res c hh=>by
 change Ym N args h (fun v c=>some (v,c))=_ at hh
 unfold Ym at hh;split at hh
 exact Aa (T:=Azn N) ⟨Aw5 N,trivial⟩ follows ((Aq2 ..).trans hh)
 cases hh
def Bf2 (N:Nat) (r0:Int→Option R)  (a:LA) (b:Bool):Option R :=
 (rdL 1 (List.drop 1 a) fun d e=>(Ss N d e false b (fun f=>(cond (f==(0:Int)) (r0 0) (rdB a fun g=>(cond g (r0 (-1)) (r0 1)))))))
def Bf3 (N:Nat) (a:LA) (b:Bool) (r0:Int→Option R):Option R:=(Bf2 N r0 a b)
def Akj:=(Ai (@Bf3 R)).1
theorem Bau:@Akj R=@Bf3 R:=(Ai _).2
def Bf4:Hints:={ H:=(hS (hR [1]) (hS (hS (hS (hR [1,3]) (hS (hS (hR [2]) hL) (hS (hR [8]) (hS (hS (hR [2]) hL) hL)))) hL) (hS (hR [2]) hL))),nils:=[],modes:=[],free:=[],cob:=[] }
def A64 (N:Nat):List (Nat×Tw):=[(132,Agc N)]
def Azo  (F:KF R):Int→Option R:=(fun i=>F (.int .i64 i) [])
theorem Azp (N:Nat) (a:LA) (b:Bool) (F:KF R):Ac Tryz.prog muts (A64 N) Bf4 N 144 [(.pagg a b)] [] F=(Akj N a b (Azo F)):=by
 have hK:Ac Tryz.prog muts (A64 N) Bf4 N 144 [(.pagg a b)] [] F=(Bf2 N (Azo F) a b):=by kernel_rfl
 rw [Bau]
 exact hK
def Adz (N:Nat) (args:List AV) (h:Aj) (k:KF R):Option R :=
 match args,h with
 | [(.pagg a b)],[]=>(Akj N a b (Azo k))
 | _,_=>none
def Azq (N:Nat):Tw:=⟨Adz N,fun args h k=>by
 unfold Adz;split
 exact twE (Azp ..) (Azp ..)
 rfl⟩
theorem Bf5 (N:Nat):A1 Tryz.prog 144 (Azq N):=fun args h res c hh=>by
 change Adz N args h (fun v c=>some (v,c))=_ at hh
 unfold Adz at hh;split at hh
 exact Aa (T:=A64 N) ⟨Aw5 N,trivial⟩ follows ((Azp ..).trans hh)
 cases hh
def Bf6 (N:Nat) (r0:Int→Option R)  (a:LA) (b:Bool):Option R :=
 (cond (Nat.ble 3 (List.length a)) (Jg N (List.take 3 a) b (fun c e i j l=>(cond ((Nat.beq 0 0)&&((Nat.beq (List.length c) 2)&&(Nat.beq 2 2))) (cond (Nat.ble 2 (List.length c)) (Akj N (List.take 2 c) e (fun f=>(r0 f))) none) none))) none)
def Bf7 (N:Nat) (a:LA) (b:Bool) (r0:Int→Option R):Option R:=(Bf6 N r0 a b)
def Yn:=(Ai (@Bf7 R)).1
theorem Bav:@Yn R=@Bf7 R:=(Ai _).2
def Bf8:Hints:={ H:=(hS (hR [1]) (hS (hR [3]) (hS (hR [2]) hL))),nils:=[],modes:=[],free:=[],cob:=[] }
def A65 (N:Nat):List (Nat×Tw):=[(101,Ph N),(144,Azq N)]
def Azr  (F:KF R):Int→Option R:=(fun g=>F (.int .i64 g) [])
theorem Azs (N:Nat) (a:LA) (b:Bool) (F:KF R):Ac Tryz.prog muts (A65 N) Bf8 N 95 [(.pagg a b)] [] F=(Yn N a b (Azr F)):=by
 have hK:Ac Tryz.prog muts (A65 N) Bf8 N 95 [(.pagg a b)] [] F=(Bf6 N (Azr F) a b):=by kernel_rfl
 rw [Bav]
 exact hK
def Ad0 (N:Nat) (args:List AV) (h:Aj) (k:KF R):Option R :=
 match args,h with
 | [(.pagg a b)],[]=>(Yn N a b (Azr k))
 | _,_=>none
def Akk (N:Nat):Tw:=⟨Ad0 N,fun args h k=>by
 unfold Ad0;split
 exact twE (Azs ..) (Azs ..)
 rfl⟩
theorem Azt (N:Nat):A1 Tryz.prog 95 (Akk N):=fun args h res d hh=>by
 change Ad0 N args h (fun v d=>some (v,d))=_ at hh
 unfold Ad0 at hh;split at hh
 exact Aa (T:=A65 N) ⟨V9 N,Bf5 N,trivial⟩ follows ((Azs ..).trans hh)
 cases hh
def Aa9 (N:Nat) (r0:Bool→Option R)  (a:Int):Option R :=
 (r0 (a != a))
def Aba (N:Nat) (a:Int) (r0:Bool→Option R):Option R:=(Aa9 N r0 a)
def Nk:=(Ai (@Aba R)).1
theorem Ad1:@Nk R=@Aba R:=(Ai _).2
def Ah0:Hints:={ H:=(hS (hR [0]) (hS (hR [2]) hL)),nils:=[],modes:=[],free:=[],cob:=[] }
def Ww (N:Nat):List (Nat×Tw):=[]
def Sw  (F:KF R):Bool→Option R:=(fun c=>F (.bool c) [])
theorem Sz (N:Nat) (a:Int) (F:KF R):Ac Tryz.prog muts (Ww N) Ah0 N 145 [(.int .i64 a)] [] F=(Nk N a (Sw F)):=by
 have hK:Ac Tryz.prog muts (Ww N) Ah0 N 145 [(.int .i64 a)] [] F=(Aa9 N (Sw F) a):=by kernel_rfl
 rw [Ad1]
 exact hK
def Kb (N:Nat) (args:List AV) (h:Aj) (k:KF R):Option R :=
 match args,h with
 | [(.int .i64 a)],[]=>(Nk N a (Sw k))
 | _,_=>none
def Ah1 (N:Nat):Tw:=⟨Kb N,fun args h k=>by
 unfold Kb;split
 exact twE (Sz ..) (Sz ..)
 rfl⟩
theorem A66 (N:Nat):A1 Tryz.prog 145 (Ah1 N):=fun args h res b hh=>by
 change Kb N args h (fun v b=>some (v,b))=_ at hh
 unfold Kb at hh;split at hh
 exact Aa (T:=Ww N) trivial follows ((Sz ..).trans hh)
 cases hh
def S5 (N:Nat) (r0:Int→Option R)  (a b:Int):Option R :=
 (Nk N a (fun e=>(Nk N b (fun c=>(cond e (cond c (r0 0) (r0 (-1))) (cond c (r0 1) (cond (decide (a<b)) (r0 (-1)) (cond (decide (a>b)) (r0 1) (r0 0)))))))))
def S6 (N:Nat) (a b:Int) (r0:Int→Option R):Option R:=(S5 N r0 a b)
def Jh:=(Ai (@S6 R)).1
theorem Xl:@Jh R=@S6 R:=(Ai _).2
def Abb:Hints:={ H:=(hS (hR [0,1]) (hS (hR [0,1,5]) (hS (hR [0,1,5,6]) (hS (hS (hR [0,1,6,11]) (hN [0,1,6] (hS (hS (hR [12]) (hS (hS (hR [4]) hL) hL)) (hS (hR [4]) hL)) hL)) (hS (hS (hR [0,1,13]) (hN [0,1] (hS (hR [4]) hL) hL)) (hS (hS (hR [0,1,16]) (hN [0,1] (hS (hR [4]) hL) hL)) (hS (hS (hR [19]) (hS (hS (hR [4]) hL) hL)) (hS (hR [4]) hL)))))))),nils:=[],modes:=[],free:=[],cob:=[] }
def Qg (N:Nat):List (Nat×Tw):=[(145,Ah1 N)]
def Ou  (F:KF R):Int→Option R:=(fun f=>F (.int .i64 f) [])
theorem Ov (N:Nat) (a b:Int) (F:KF R):Ac Tryz.prog muts (Qg N) Abb N 98 [(.int .i64 a),(.int .i64 b)] [] F=(Jh N a b (Ou F)):=by
 have hK:Ac Tryz.prog muts (Qg N) Abb N 98 [(.int .i64 a),(.int .i64 b)] [] F=(S5 N (Ou F) a b):=by kernel_rfl
 rw [Xl]
 exact hK
def G7 (N:Nat) (args:List AV) (h:Aj) (k:KF R):Option R :=
 match args,h with
 | [(.int .i64 a),(.int .i64 b)],[]=>(Jh N a b (Ou k))
 | _,_=>none
def Abc (N:Nat):Tw:=⟨G7 N,fun args h k=>by
 unfold G7;split
 exact twE (Ov ..) (Ov ..)
 rfl⟩
theorem Azu (N:Nat):A1 Tryz.prog 98 (Abc N):=fun args h res d hh=>by
 change G7 N args h (fun v d=>some (v,d))=_ at hh
 unfold G7 at hh;split at hh
 exact Aa (T:=Qg N) ⟨A66 N,trivial⟩ follows ((Ov ..).trans hh)
 cases hh
def Ig (N:Nat)  (r0:Int→Option R) (c:LA) (a:Nat) (d e:Bool) (k0:Int→Int→Int→Option R)  (f g b:Int):Option R :=
 (cond (decide (b<g)) (cond (Am b a) (rdI .u32 (List.drop ((Int.toNat b)*1) c) fun j=>(cond (decide ((IntKind.wrap .i64 ((32:Int)*b))<(0:Int))) none (k0 (Pa .u64 f (IntKind.wrap .u64 ((IntKind.wrap .u64 j)*2 ^ (min (Int.toNat (IntKind.wrap .i64 ((32:Int)*b))) 64)))) g (IntKind.wrap .i64 (b+(1:Int)))))) none) (r0 f))
def Ix (N:Nat)  (r0:Int→Option R) (c:LA) (a:Nat) (d e:Bool):Nat→Int→Int→Int→Option R
 | 0,_,_,_=>none
 | n+1,f,g,b=>(Ig N r0 c a d e (Ix N r0 c a d e n) f g b)
def Bf9 (N:Nat) (r0:Int→Option R) (q0:Int→Int→Int→Option R) (c:LA) (a:Nat) (d e:Bool):Option R :=
 (q0 0 ((a:Nat):Int) 0)
def Bga (N:Nat) (c:LA) (a:Nat) (d e:Bool) (r0:Int→Option R):Option R:=(Bf9 N r0 (fun f g b=>(Ix N r0 c a d e N f g b)) c a d e)
def Qh:=(Ai (@Bga R)).1
theorem Baw:@Qh R=@Bga R:=(Ai _).2
def Akl:Hints:={ H:=(hS (hR [0]) (hS (hR [0,3]) (hS (hS (hR [3,6,7,8]) (hN [3] (hN [3,6,7,8] (hS (hR [3,6,7,8,9]) (hS (hN [3,6,7,8] hL hL) (hS (hN [3,6,7,8] (hS (hR [3,4,5,6,7,8]) (hR [3,6,7,8])) hL) (hR [3,6,7,8])))) hL) hL)) (hS (hR [2]) hL)))),nils:=[],modes:=[],free:=[],cob:=[] }
def Aux (N:Nat):List (Nat×Tw):=[]
def Auy (N:Nat):Env:=mkE 22 Akl (Aux N)
def Bqs (N:Nat) (F:KF R):=Aq (Auy N) Tryz.f181 Akl.modes [] F
def Bgb (N:Nat) (F:KF R):=atF (Auy N) [] N Tryz.f181 Akl (Bqs N F)
def Abd  (F:KF R):Int→Option R:=(fun l=>F (.int .u64 l) [])
def S7 (c:LA) (a:Nat) (d e:Bool) (f g b:Int):St:={ s:=[(3,(.int .u64 f)),(6,(.imm c a 1 d e)),(7,(.int .i64 g)),(8,(.int .i64 b))],h:=[] }
def Bgc (N:Nat) (F:KF R):St→Option R:=Bx (Auy N) [] N (Bgb N F [1,1,0,1,0] []) N
def Akm (N:Nat) (F:KF R) (n:Nat):St→Option R:=Ba (Auy N) [] N (Bgb N F [1,1,0,1,0] []) n
theorem Bkb (N:Nat)  (F:KF R) (c:LA) (a:Nat) (d e:Bool):∀ (n:Nat) (f g b:Int),Akm N F n (S7 c a d e f g b)=(Ix N (Abd F) c a d e n f g b):=by
 intro n
 induction n with
 | zero=>intros;kernel_rfl
 | succ n ih =>
  intro f g b
  have e0:=funext fun f=>funext fun g=>funext fun b=>(show Akm N F n (S7 c a d e f g b)=_ from ih f g b)
  have hK:Akm N F (n+1) (S7 c a d e f g b)=(Ig N (Abd F) c a d e (fun f g b=>Akm N F n (S7 c a d e f g b)) f g b):=by kernel_rfl
  exact hK.trans (by rw [e0];rfl)
theorem Azv (N:Nat) (c:LA) (a:Nat) (d e:Bool) (F:KF R):Ac Tryz.prog muts (Aux N) Akl N 181 [(.imm c a 1 d e)] [] F=(Qh N c a d e (Abd F)):=by
 have e1:=funext fun f=>funext fun g=>funext fun b=>(show Bgc N F (S7 c a d e f g b)=_ from (Ar ..).trans (Bkb N F c a d e N f g b))
 have hK:Ac Tryz.prog muts (Aux N) Akl N 181 [(.imm c a 1 d e)] [] F=(Bf9 N (Abd F) (fun f g b=>Bgc N F (S7 c a d e f g b)) c a d e):=by kernel_rfl
 rw [Baw]
 exact hK.trans (by rw [e1];rfl)
def Ad2 (N:Nat) (args:List AV) (h:Aj) (k:KF R):Option R :=
 match args,h with
 | [(.imm c a 1 d e)],[]=>(Qh N c a d e (Abd k))
 | _,_=>none
def Akn (N:Nat):Tw:=⟨Ad2 N,fun args h k=>by
 unfold Ad2;split
 exact twE (Azv ..) (Azv ..)
 rfl⟩
theorem Azw (N:Nat):A1 Tryz.prog 181 (Akn N):=fun args h res i hh=>by
 change Ad2 N args h (fun v i=>some (v,i))=_ at hh
 unfold Ad2 at hh;split at hh
 exact Aa (T:=Aux N) trivial follows ((Azv ..).trans hh)
 cases hh
def Azx (N:Nat) (r0:Int→Bool→Option R)  (b:LA) (c:Nat) (d a:Bool):Option R :=
 (By N b c d a (fun g e=>(cond (decide (((e:Nat):Int)>(2:Int))) (r0 0 false) (Qh N g e false a (fun i=>(r0 i true))))))
def Azy (N:Nat) (b:LA) (c:Nat) (d a:Bool) (r0:Int→Bool→Option R):Option R:=(Azx N r0 b c d a)
def Zt:=(Ai (@Azy R)).1
theorem Aw6:@Zt R=@Azy R:=(Ai _).2
def A3e:Hints:={ H:=(hS (hR [0]) (hS (hR [0]) (hS (hS (hR [0,8]) (hN [0] (hS (hR [2,3]) hL) hL)) (hS (hR [2,3]) hL)))),nils:=[],modes:=[],free:=[],cob:=[] }
def Aq3 (N:Nat):List (Nat×Tw):=[(171,L5 N),(181,Akn N)]
def Ako  (F:KF R):Int→Bool→Option R:=(fun j l=>F (.tup [(.int .u64 j),(.bool l)]) [])
theorem Akp (N:Nat) (b:LA) (c:Nat) (d a:Bool) (F:KF R):Ac Tryz.prog muts (Aq3 N) A3e N 146 [(.imm b c 1 d a)] [] F=(Zt N b c d a (Ako F)):=by
 have hK:Ac Tryz.prog muts (Aq3 N) A3e N 146 [(.imm b c 1 d a)] [] F=(Azx N (Ako F) b c d a):=by kernel_rfl
 rw [Aw6]
 exact hK
def Ux (N:Nat) (args:List AV) (h:Aj) (k:KF R):Option R :=
 match args,h with
 | [(.imm b c 1 d a)],[]=>(Zt N b c d a (Ako k))
 | _,_=>none
def A3f (N:Nat):Tw:=⟨Ux N,fun args h k=>by
 unfold Ux;split
 exact twE (Akp ..) (Akp ..)
 rfl⟩
theorem Bn6 (N:Nat):A1 Tryz.prog 146 (A3f N):=fun args h res f hh=>by
 change Ux N args h (fun v f=>some (v,f))=_ at hh
 unfold Ux at hh;split at hh
 exact Aa (T:=Aq3 N) ⟨Qd N,Azw N,trivial⟩ follows ((Akp ..).trans hh)
 cases hh
def Ev (N:Nat)  (r0:Int→Int→Bool→Option R) (d b:Int) (c:Bool) (a:LA)   (e:Bool):Option R :=
 (cond e (r0 0 0 false) (cond (b==(0:Int)) (r0 0 1 true) (rdB a fun g=>(cond g (r0 (IntKind.wrap .i64 ((0:Int) - (IntKind.wrap .i64 d))) (IntKind.wrap .i64 b) true) (r0 (IntKind.wrap .i64 d) (IntKind.wrap .i64 b) true)))))
def E5 (N:Nat)  (r0:Int→Int→Bool→Option R) (d b:Int) (c:Bool) (a:LA) (e:Bool):Option R:=(Ev N r0 d b c a e)
def Ah2 (N:Nat) (r0:Int→Int→Bool→Option R) (q0:Int→Int→Bool→Option R) (a:LA) (c:Bool):Option R :=
 (rdL 1 (List.drop 1 a) fun i j=>(Zt N i j false c (fun d l=>(rdL 1 (List.drop 2 a) fun m n=>(Zt N m n false c (fun b o=>(cond ((!l)==false) (cond ((cond false true (!o))==false) (cond ((cond false true (decide (d≥(2147483648:Int))))==false) (q0 d b (cond false true (decide (b≥(2147483648:Int))))) (q0 d b true)) (q0 d b true)) (q0 d b true))))))))
def Ah3 (N:Nat) (a:LA) (c:Bool) (r0:Int→Int→Bool→Option R):Option R:=(Ah2 N r0 (fun d b e=>(E5 N r0 d b c a e)) a c)
def Fq:=(Ai (@Ah3 R)).1
theorem Yo:@Fq R=@Ah3 R:=(Ai _).2
def Ad3:Hints:={ H:=(hS (hR [1]) (hS (hR [1,4,5]) (hS (hR [1,4,5,6,7]) (hS (hN [5,6] (hJ (hR [1,5,6,21]) (hN [5,6] (hS (hR [2,3,4]) hL) (hS (hR [1,5,6,36]) (hN [5,6] (hS (hR [2,3,4]) hL) (hS (hR [5,6,39]) (hN [5,6] (hS (hR [2,3,4]) hL) hL)))))) hL) (hS (hR [2,3,4]) hL))))),nils:=[],modes:=[],free:=[],cob:=[] }
def Akq (N:Nat):List (Nat×Tw):=[(146,A3f N)]
def Akr (N:Nat):Env:=mkE 52 Ad3 (Akq N)
def Bn7 (N:Nat) (F:KF R):=Aq (Akr N) Tryz.f99 Ad3.modes [] F
def Bax (N:Nat) (F:KF R):=atF (Akr N) [] N Tryz.f99 Ad3 (Bn7 N F)
def Wa  (F:KF R):Int→Int→Bool→Option R:=(fun p q r=>F (.tup [(.int .i64 p),(.int .i64 q),(.bool r)]) [])
def Ad4 (d b:Int) (c:Bool) (a:LA) (e:Bool):St:={ s:=[(1,(.optr 16 0)),(5,(.int .u64 d)),(6,(.int .u64 b)),(21,(.bool e))],h:=[(16,⟨false,false,true,c,0,a,false⟩)] }
def Bay (N:Nat) (F:KF R):St→Option R:=Bm (Akr N) [] N (Bax N F [1,1,1,0,0,1] [])
def Baz (N:Nat) (F:KF R):St→Option R:=Bq (Akr N) [] N (Bax N F [1,1,1,0,0,1] [])
theorem Bgd (N:Nat)  (F:KF R) (d b:Int) (c:Bool) (a:LA):∀ (e:Bool),Baz N F (Ad4 d b c a e)=(E5 N (Wa F) d b c a e):=by
 intro e
 have hK:Baz N F (Ad4 d b c a e)=(Ev N (Wa F) d b c a e):=by kernel_rfl
 exact hK
theorem Aq4 (N:Nat) (a:LA) (c:Bool) (F:KF R):Ac Tryz.prog muts (Akq N) Ad3 N 99 [(.pagg a c)] [] F=(Fq N a c (Wa F)):=by
 have e1:=funext fun d=>funext fun b=>funext fun e=>(show Bay N F (Ad4 d b c a e)=_ from (As ..).trans (Bgd N F d b c a e))
 have hK:Ac Tryz.prog muts (Akq N) Ad3 N 99 [(.pagg a c)] [] F=(Ah2 N (Wa F) (fun d b e=>Bay N F (Ad4 d b c a e)) a c):=by kernel_rfl
 rw [Yo]
 exact hK.trans (by rw [e1];rfl)
def Yp (N:Nat) (args:List AV) (h:Aj) (k:KF R):Option R :=
 match args,h with
 | [(.pagg a c)],[]=>(Fq N a c (Wa k))
 | _,_=>none
def Wb (N:Nat):Tw:=⟨Yp N,fun args h k=>by
 unfold Yp;split
 exact twE (Aq4 ..) (Aq4 ..)
 rfl⟩
theorem Ad5 (N:Nat):A1 Tryz.prog 99 (Wb N):=fun args h res f hh=>by
 change Yp N args h (fun v f=>some (v,f))=_ at hh
 unfold Yp at hh;split at hh
 exact Aa (T:=Akq N) ⟨Bn6 N,trivial⟩ follows ((Aq4 ..).trans hh)
 cases hh
def S8 (N:Nat) (r0:Bool→Option R)  (a:Int):Option R :=
 (r0 (a != a))
def S9 (N:Nat) (a:Int) (r0:Bool→Option R):Option R:=(S8 N r0 a)
def Ji:=(Ai (@S9 R)).1
theorem Xm:@Ji R=@S9 R:=(Ai _).2
def Abe:Hints:={ H:=(hS (hR [0]) (hS (hR [2]) hL)),nils:=[],modes:=[],free:=[],cob:=[] }
def Qi (N:Nat):List (Nat×Tw):=[]
def Ow  (F:KF R):Bool→Option R:=(fun c=>F (.bool c) [])
theorem Ox (N:Nat) (a:Int) (F:KF R):Ac Tryz.prog muts (Qi N) Abe N 147 [(.int .i64 a)] [] F=(Ji N a (Ow F)):=by
 have hK:Ac Tryz.prog muts (Qi N) Abe N 147 [(.int .i64 a)] [] F=(S8 N (Ow F) a):=by kernel_rfl
 rw [Xm]
 exact hK
def G8 (N:Nat) (args:List AV) (h:Aj) (k:KF R):Option R :=
 match args,h with
 | [(.int .i64 a)],[]=>(Ji N a (Ow k))
 | _,_=>none
def Abf (N:Nat):Tw:=⟨G8 N,fun args h k=>by
 unfold G8;split
 exact twE (Ox ..) (Ox ..)
 rfl⟩
theorem Azz (N:Nat):A1 Tryz.prog 147 (Abf N):=fun args h res b hh=>by
 change G8 N args h (fun v b=>some (v,b))=_ at hh
 unfold G8 at hh;split at hh
 exact Aa (T:=Qi N) trivial follows ((Ox ..).trans hh)
 cases hh
def Oy (N:Nat) (r0:Int→Option R)  (a b:Int):Option R :=
 (Ji N a (fun e=>(Ji N b (fun c=>(cond e (cond c (r0 0) (r0 (-1))) (cond c (r0 1) (cond (decide (a<b)) (r0 (-1)) (cond (decide (a>b)) (r0 1) (r0 0)))))))))
def Oz (N:Nat) (a b:Int) (r0:Int→Option R):Option R:=(Oy N r0 a b)
def Gn:=(Ai (@Oz R)).1
theorem R8:@Gn R=@Oz R:=(Ai _).2
def Wc:Hints:={ H:=(hS (hR [0,1]) (hS (hR [0,1,5]) (hS (hR [0,1,5,6]) (hS (hS (hR [0,1,6,11]) (hN [0,1,6] (hS (hS (hR [12]) (hS (hS (hR [4]) hL) hL)) (hS (hR [4]) hL)) hL)) (hS (hS (hR [0,1,13]) (hN [0,1] (hS (hR [4]) hL) hL)) (hS (hS (hR [0,1,16]) (hN [0,1] (hS (hR [4]) hL) hL)) (hS (hS (hR [19]) (hS (hS (hR [4]) hL) hL)) (hS (hR [4]) hL)))))))),nils:=[],modes:=[],free:=[],cob:=[] }
def Nc (N:Nat):List (Nat×Tw):=[(147,Abf N)]
def K1  (F:KF R):Int→Option R:=(fun f=>F (.int .i64 f) [])
theorem K2 (N:Nat) (a b:Int) (F:KF R):Ac Tryz.prog muts (Nc N) Wc N 100 [(.int .i64 a),(.int .i64 b)] [] F=(Gn N a b (K1 F)):=by
 have hK:Ac Tryz.prog muts (Nc N) Wc N 100 [(.int .i64 a),(.int .i64 b)] [] F=(Oy N (K1 F) a b):=by kernel_rfl
 rw [R8]
 exact hK
def F4 (N:Nat) (args:List AV) (h:Aj) (k:KF R):Option R :=
 match args,h with
 | [(.int .i64 a),(.int .i64 b)],[]=>(Gn N a b (K1 k))
 | _,_=>none
def Wd (N:Nat):Tw:=⟨F4 N,fun args h k=>by
 unfold F4;split
 exact twE (K2 ..) (K2 ..)
 rfl⟩
theorem Aq5 (N:Nat):A1 Tryz.prog 100 (Wd N):=fun args h res d hh=>by
 change F4 N args h (fun v d=>some (v,d))=_ at hh
 unfold F4 at hh;split at hh
 exact Aa (T:=Nc N) ⟨Azz N,trivial⟩ follows ((K2 ..).trans hh)
 cases hh
def Aks (N:Nat) (k1:Nat→Int→Int→LA→Option R) (r0:Nat→LA→Option R) (e:LA) (a:Nat) (d:Bool) (i:Nat) (f q:Int) (g:LA) (b:Nat) (c:Bool) (j:Int) (k2:Int→Int→Int→LA→Option R)  (p r l:Int) (m:LA):Option R :=
 (cond (decide (l<r)) (cond (Am l a) (rdI .u32 (List.drop ((Int.toNat l)*1) e) fun ab=>(cond (Am (IntKind.wrap .i64 (f+l)) i) (rdI .u32 (List.drop (0+((Int.toNat (IntKind.wrap .i64 (f+l)))*1)) m) fun ac=>(cond (Am (IntKind.wrap .i64 (f+l)) i) (cond ((Nat.beq 1 1)&&((Nat.ble ((0+((Int.toNat (IntKind.wrap .i64 (f+l)))*1))+1) (List.length m))&&(!false))) (k2 (Int.fdiv (IntKind.wrap .u64 (p+(IntKind.wrap .u64 ((IntKind.wrap .u64 ((IntKind.wrap .u64 q)*(IntKind.wrap .u64 ab)))+(IntKind.wrap .u64 ac))))) (2 ^ 32)) r (IntKind.wrap .i64 (l+(1:Int))) (List.set m (0+((Int.toNat (IntKind.wrap .i64 (f+l)))*1)) (.int .u32 (IntKind.wrap .u32 (IntKind.wrap .u64 (p+(IntKind.wrap .u64 ((IntKind.wrap .u64 ((IntKind.wrap .u64 q)*(IntKind.wrap .u64 ab)))+(IntKind.wrap .u64 ac))))))))) none) none)) none)) none) (cond (Am (IntKind.wrap .i64 (f+((a:Nat):Int))) i) (cond ((Nat.beq 1 1)&&((Nat.ble ((0+((Int.toNat (IntKind.wrap .i64 (f+((a:Nat):Int))))*1))+1) (List.length m))&&(!false))) (k1 i j (IntKind.wrap .i64 (f+(1:Int))) (List.set m (0+((Int.toNat (IntKind.wrap .i64 (f+((a:Nat):Int))))*1)) (.int .u32 (IntKind.wrap .u32 p)))) none) none))
def Ta (N:Nat) (k1:Nat→Int→Int→LA→Option R) (r0:Nat→LA→Option R) (e:LA) (a:Nat) (d:Bool) (i:Nat) (f q:Int) (g:LA) (b:Nat) (c:Bool) (j:Int):Nat→Int→Int→Int→LA→Option R
 | 0,_,_,_,_=>none
 | n+1,p,r,l,m=>(Aks N k1 r0 e a d i f q g b c j (Ta N k1 r0 e a d i f q g b c j n) p r l m)
def Abg (N:Nat)  (r0:Nat→LA→Option R) (e:LA) (a:Nat) (d:Bool) (g:LA) (b:Nat) (c:Bool) (k1:Nat→Int→Int→LA→Option R) (q2:Int→Int→Int→Int→LA→Option R) (i:Nat) (j f:Int) (o:LA):Option R :=
 (cond (decide (f<j)) (cond (Am f b) (rdI .u32 (List.drop ((Int.toNat f)*1) g) fun q=>(cond (q==(0:Int)) (k1 i j (IntKind.wrap .i64 (f+(1:Int))) o) (q2 q 0 ((a:Nat):Int) 0 o))) none) (Wu N i o (fun ae=>(r0 ae o))))
def Jw (N:Nat)  (r0:Nat→LA→Option R) (e:LA) (a:Nat) (d:Bool) (g:LA) (b:Nat) (c:Bool):Nat→Nat→Int→Int→LA→Option R
 | 0,_,_,_,_=>none
 | n+1,i,j,f,o=>(Abg N r0 e a d g b c (Jw N r0 e a d g b c n) (fun q p r l m=>(Ta N (Jw N r0 e a d g b c n) r0 e a d i f q g b c j N p r l m)) i j f o)
def Az0 (N:Nat)  (r0:Nat→LA→Option R) (g:LA) (b:Nat) (c:Bool) (e:LA) (a:Nat) (d:Bool)  (q1:Nat→Int→Int→LA→Option R) :Option R :=
 (cond ((decide ((0:Int)≤(IntKind.wrap .i64 (((b:Nat):Int)+((a:Nat):Int)))))&&((decide ((IntKind.wrap .i64 (((b:Nat):Int)+((a:Nat):Int)))≤(IntKind.wrap .i64 (((b:Nat):Int)+((a:Nat):Int)))))&&((decide ((IntKind.wrap .i64 (((b:Nat):Int)+((a:Nat):Int)))≤(140737488355328:Int)))&&(decide (((IntKind.wrap .i64 (((b:Nat):Int)+((a:Nat):Int)))*((4:Nat):Int))≤(140737488355328:Int)))))) (q1 (Int.toNat (IntKind.wrap .i64 (((b:Nat):Int)+((a:Nat):Int)))) ((b:Nat):Int) 0 (List.replicate (Int.toNat (IntKind.wrap .i64 (((b:Nat):Int)+((a:Nat):Int)))) (.int .u32 0))) none)
def A67 (N:Nat)  (r0:Nat→LA→Option R) (g:LA) (b:Nat) (c:Bool) (e:LA) (a:Nat) (d:Bool) :Option R:=(Az0 N r0 g b c e a d (fun i j f o=>(Jw N r0 e a d g b c N i j f o)))
def A3g (N:Nat) (r0:Nat→LA→Option R) (q0:LA→Nat→LA→Nat→Option R) (u:LA) (t:Nat) (w c:Bool) (x:LA) (y:Nat) (z d:Bool):Option R :=
 (By N u t w c (fun g b=>(By N x y z d (fun e a=>(cond ((((b:Nat):Int)==(0:Int))==false) (cond (cond false true (((a:Nat):Int)==(0:Int))) (r0 0 []) (q0 g b e a)) (r0 0 []))))))
def A3h (N:Nat) (u:LA) (t:Nat) (w c:Bool) (x:LA) (y:Nat) (z d:Bool) (r0:Nat→LA→Option R):Option R:=(A3g N r0 (fun g b e a=>(A67 N r0 g b c e a d)) u t w c x y z d)
def Akt:=(Ai (@A3h R)).1
theorem Aku:@Akt R=@A3h R:=(Ai _).2
def Auz:Hints:={ H:=(hS (hR [0,1]) (hS (hR [0,1]) (hJ (hS (hR [0,1,22]) (hN [0,1] (hS (hR [4]) hL) hL)) (hS (hR [0,1,5]) (hS (hS (hR [1,5,29,30,31]) (hN [5] (hN [1,5,29,30,31] (hS (hR [1,5,29,30,31,32]) (hS (hN [1,5,29,30,31] hL hL) (hS (hN [1,5,29,30,31] (hS (hR [1,5,6,7,29,30,31]) (hS (hS (hR [1,5,6,7,29,30,31,37]) (hN [1,5,6,7,29,30,31] hL hL)) (hS (hR [1,5,6,7,8,29,30,31]) (hS (hS (hR [1,5,6,7,8,29,30,31,38,39,40]) (hN [1,5,6,8,29,30,31] (hN [1,5,6,7,8,29,30,31,38,39,40] (hS (hR [1,5,6,7,8,29,30,31,38,39,40,41]) (hS (hN [1,5,6,7,8,29,30,31,38,39,40] hL hL) (hS (hN [1,5,6,7,8,29,30,31,38,39,40] (hS (hR [1,5,6,7,8,9,10,29,30,31,38,39,40]) (hS (hR [1,5,6,7,8,9,29,30,31,38,39,40]) (hS (hR [1,5,6,7,8,29,30,31,38,39,40]) (hR [1,5,6,7,8,29,30,31,38,39,40])))) hL) (hR [1,5,6,7,8,29,30,31,38,39,40])))) hL) hL)) (hR [1,5,29,30,31]))))) hL) (hR [1,5,29,30,31])))) hL) hL)) (hS (hR [4]) hL)))))),nils:=[(4,1)],modes:=[(2,1)],free:=[],cob:=[] }
def D3 (N:Nat) (args:List AV) (h:Aj) (k:KF R):Option R :=
 match args,h with
 | [(.imm u t 1 w c)],[]=>(By N u t w c (Iw c k))
 | [(.own 100000 0 t)],[(100000,⟨false,false,true,false,1,ad,false⟩)]=>(Wu N t ad (Zq ad k))
 | _,_=>none
def C2 (N:Nat):Tw:=⟨D3 N,fun args h k=>by
 unfold D3;split
 exact twE (Eu ..) (Eu ..)
 exact twE (Zs ..) (Zs ..)
 rfl⟩
theorem Ef (N:Nat):A1 Tryz.prog 171 (C2 N):=fun args h res aa hh=>by
 change D3 N args h (fun v aa=>some (v,aa))=_ at hh
 unfold D3 at hh;split at hh
 exact Aa (T:=Pg N) trivial follows ((Eu ..).trans hh)
 exact Aa (T:=Aqq N) trivial follows ((Zs ..).trans hh)
 cases hh
def A3i (N:Nat):List (Nat×Tw):=[(171,C2 N)]
def We (N:Nat):Env:=mkE 81 Auz (A3i N)
def Bsr (N:Nat) (F:KF R):=Aq (We N) Tryz.f135 Auz.modes [] F
def Zu (N:Nat) (F:KF R):=atF (We N) [] N Tryz.f135 Auz (Bsr N F)
def Hs  (F:KF R):Nat→LA→Option R:=(fun af ag=>F (.own 300000 0 af) [(300000,⟨false,false,true,false,1,ag,false⟩)])
def Zv (e:LA) (a:Nat) (d:Bool) (i:Nat) (f q:Int) (g:LA) (b:Nat) (c:Bool) (j p r l:Int) (m:LA):St:={ s:=[(1,(.imm e a 1 false d)),(5,(.own 300000 0 i)),(6,(.int .i64 f)),(7,(.int .u32 q)),(8,(.int .u64 p)),(29,(.imm g b 1 false c)),(30,(.int .i64 j)),(31,(.int .i64 f)),(38,(.imm e a 1 false d)),(39,(.int .i64 r)),(40,(.int .i64 l))],h:=[(300000,⟨false,false,true,false,1,m,false⟩)] }
def Blg (N:Nat) (F:KF R) (Q1:St→Option R):St→Option R:=Bx (We N) [] N (Zu N F [1,1,1,1,0,1,0,0,1,1,0,0,1,1,1,0,1,0] [Q1]) N
def Au0 (N:Nat) (F:KF R) (Q1:St→Option R) (n:Nat):St→Option R:=Ba (We N) [] N (Zu N F [1,1,1,1,0,1,0,0,1,1,0,0,1,1,1,0,1,0] [Q1]) n
def Pi (e:LA) (a:Nat) (d:Bool) (g:LA) (b:Nat) (c:Bool) (i:Nat) (j f:Int) (o:LA):St:={ s:=[(1,(.imm e a 1 false d)),(5,(.own 300000 0 i)),(29,(.imm g b 1 false c)),(30,(.int .i64 j)),(31,(.int .i64 f))],h:=[(300000,⟨false,false,true,false,1,o,false⟩)] }
def Blh (N:Nat) (F:KF R):St→Option R:=Bx (We N) [] N (Zu N F [1,1,1,1,0,1,0] []) N
def Tb (N:Nat) (F:KF R) (n:Nat):St→Option R:=Ba (We N) [] N (Zu N F [1,1,1,1,0,1,0] []) n
def Au1 (g:LA) (b:Nat) (c:Bool) (e:LA) (a:Nat) (d:Bool):St:={ s:=[(0,(.imm g b 1 false c)),(1,(.imm e a 1 false d))],h:=[] }
def Bli (N:Nat) (F:KF R):St→Option R:=Bm (We N) [] N (Zu N F [1,1,1] [])
def Blj (N:Nat) (F:KF R):St→Option R:=Bq (We N) [] N (Zu N F [1,1,1] [])
theorem Bn8 (N:Nat) (Q1:St→Option R) (F:KF R) (e:LA) (a:Nat) (d:Bool) (i:Nat) (f q:Int) (g:LA) (b:Nat) (c:Bool) (j:Int):∀ (n:Nat) (p r l:Int) (m:LA),Au0 N F Q1 n (Zv e a d i f q g b c j p r l m)=(Ta N (fun i j f o=>Q1 (Pi e a d g b c i j f o)) (Hs F) e a d i f q g b c j n p r l m):=by
 intro n
 induction n with
 | zero=>intros;kernel_rfl
 | succ n ih =>
  intro p r l m
  have e0:=funext fun p=>funext fun r=>funext fun l=>funext fun m=>(show Au0 N F Q1 n (Zv e a d i f q g b c j p r l m)=_ from ih p r l m)
  have hK:Au0 N F Q1 (n+1) (Zv e a d i f q g b c j p r l m)=(Aks N (fun i j f o=>Q1 (Pi e a d g b c i j f o)) (Hs F) e a d i f q g b c j (fun p r l m=>Au0 N F Q1 n (Zv e a d i f q g b c j p r l m)) p r l m):=by kernel_rfl
  exact hK.trans (by rw [e0];rfl)
theorem Bn9 (N:Nat)  (F:KF R) (e:LA) (a:Nat) (d:Bool) (g:LA) (b:Nat) (c:Bool):∀ (n i:Nat) (j f:Int) (o:LA),Tb N F n (Pi e a d g b c i j f o)=(Jw N (Hs F) e a d g b c n i j f o):=by
 intro n
 induction n with
 | zero=>intros;kernel_rfl
 | succ n ih =>
  intro i j f o
  have e0:=funext fun i=>funext fun j=>funext fun f=>funext fun o=>(show Tb N F n (Pi e a d g b c i j f o)=_ from ih i j f o)
  have e1:(fun q p r l m=>Blg N F (Tb N F n) (Zv e a d i f q g b c j p r l m))=(fun q p r l m=>(Ta N (Jw N (Hs F) e a d g b c n) (Hs F) e a d i f q g b c j N p r l m)):=by funext q;funext p;funext r;funext l;funext m;exact ((Ar ..).trans (Bn8 N (Tb N F n) F e a d i f q g b c j N p r l m)).trans (by rw [e0])
  have hK:Tb N F (n+1) (Pi e a d g b c i j f o)=(Abg N (Hs F) e a d g b c (fun i j f o=>Tb N F n (Pi e a d g b c i j f o)) (fun q p r l m=>Blg N F (Tb N F n) (Zv e a d i f q g b c j p r l m)) i j f o):=by kernel_rfl
  exact hK.trans (by rw [e0,e1];rfl)
theorem Boa (N:Nat)  (F:KF R) (g:LA) (b:Nat) (c:Bool) (e:LA) (a:Nat) (d:Bool):Blj N F (Au1 g b c e a d)=(A67 N (Hs F) g b c e a d):=by
 have e1:=funext fun i=>funext fun j=>funext fun f=>funext fun o=>(show Blh N F (Pi e a d g b c i j f o)=_ from (Ar ..).trans (Bn9 N F e a d g b c N i j f o))
 have hK:Blj N F (Au1 g b c e a d)=(Az0 N (Hs F) g b c e a d (fun i j f o=>Blh N F (Pi e a d g b c i j f o))):=by kernel_rfl
 exact hK.trans (by rw [e1];rfl)
theorem A68 (N:Nat) (u:LA) (t:Nat) (w c:Bool) (x:LA) (y:Nat) (z d:Bool) (F:KF R):Ac Tryz.prog muts (A3i N) Auz N 135 [(.imm u t 1 w c),(.imm x y 1 z d)] [] F=(Akt N u t w c x y z d (Hs F)):=by
 have e1:=funext fun g=>funext fun b=>funext fun e=>funext fun a=>(show Bli N F (Au1 g b c e a d)=_ from (As ..).trans (Boa N F g b c e a d))
 have hK:Ac Tryz.prog muts (A3i N) Auz N 135 [(.imm u t 1 w c),(.imm x y 1 z d)] [] F=(A3g N (Hs F) (fun g b e a=>Bli N F (Au1 g b c e a d)) u t w c x y z d):=by kernel_rfl
 rw [Aku]
 exact hK.trans (by rw [e1];rfl)
def Akv (N:Nat) (args:List AV) (h:Aj) (k:KF R):Option R :=
 match args,h with
 | [(.imm u t 1 w c),(.imm x y 1 z d)],[]=>(Akt N u t w c x y z d (Hs k))
 | _,_=>none
def Ah4 (N:Nat):Tw:=⟨Akv N,fun args h k=>by
 unfold Akv;split
 exact twE (A68 ..) (A68 ..)
 rfl⟩
theorem Au2 (N:Nat):A1 Tryz.prog 135 (Ah4 N):=fun args h res aa hh=>by
 change Akv N args h (fun v aa=>some (v,aa))=_ at hh
 unfold Akv at hh;split at hh
 exact Aa (T:=A3i N) ⟨Ef N,trivial⟩ follows ((A68 ..).trans hh)
 cases hh
def Bob (N:Nat) (r0:Bool→Nat→LA→Option R)  (a:LA) (c:Bool) (b:LA) (d:Bool):Option R :=
 (rdB a fun i=>(rdB b fun j=>(rdL 1 (List.drop 1 a) fun l m=>(rdL 1 (List.drop 1 b) fun n o=>(Akt N l m false c n o false d (fun e f=>(Hr N (!(i==j)) e f (fun p=>(r0 p e f)))))))))
def Boc (N:Nat) (a:LA) (c:Bool) (b:LA) (d:Bool) (r0:Bool→Nat→LA→Option R):Option R:=(Bob N r0 a c b d)
def Akw:=(Ai (@Boc R)).1
theorem Bge:@Akw R=@Boc R:=(Ai _).2
def Bll:Hints:={ H:=(hS (hR [2,3,4]) (hS (hR [4]) hL)),nils:=[],modes:=[],free:=[],cob:=[] }
def Bgf (N:Nat):List (Nat×Tw):=[(135,Ah4 N),(148,Qa N)]
def A69  (F:KF R):Bool→Nat→LA→Option R:=(fun q r s=>F (.agg [(.bool q),(.own 300000 0 r)]) [(300000,⟨false,false,true,false,1,s,false⟩)])
theorem A7a (N:Nat) (a:LA) (c:Bool) (b:LA) (d:Bool) (F:KF R):Ac Tryz.prog muts (Bgf N) Bll N 103 [(.pagg a c),(.pagg b d)] [] F=(Akw N a c b d (A69 F)):=by
 have hK:Ac Tryz.prog muts (Bgf N) Bll N 103 [(.pagg a c),(.pagg b d)] [] F=(Bob N (A69 F) a c b d):=by kernel_rfl
 rw [Bge]
 exact hK
def Akx (N:Nat) (args:List AV) (h:Aj) (k:KF R):Option R :=
 match args,h with
 | [(.pagg a c),(.pagg b d)],[]=>(Akw N a c b d (A69 k))
 | _,_=>none
def Au3 (N:Nat):Tw:=⟨Akx N,fun args h k=>by
 unfold Akx;split
 exact twE (A7a ..) (A7a ..)
 rfl⟩
theorem A7b (N:Nat):A1 Tryz.prog 103 (Au3 N):=fun args h res g hh=>by
 change Akx N args h (fun v g=>some (v,g))=_ at hh
 unfold Akx at hh;split at hh
 exact Aa (T:=Bgf N) ⟨Au2 N,Ye N,trivial⟩ follows ((A7a ..).trans hh)
 cases hh
def Kc (N:Nat)  (r0:Int→Option R) (f:LA) (d:Nat) (b:Bool) (g:LA) (e:Nat) (c:Bool) (k0:Int→Option R)  (a:Int):Option R :=
 (cond (decide (a≥(0:Int))) (cond (Am a d) (rdI .u32 (List.drop ((Int.toNat a)*1) f) fun r=>(cond (Am a e) (rdI .u32 (List.drop ((Int.toNat a)*1) g) fun t=>(cond (decide (r<t)) (r0 (-1)) (cond (Am a d) (rdI .u32 (List.drop ((Int.toNat a)*1) f) fun u=>(cond (Am a e) (rdI .u32 (List.drop ((Int.toNat a)*1) g) fun w=>(cond (decide (u>w)) (r0 1) (k0 (IntKind.wrap .i64 (a - (1:Int)))))) none)) none))) none)) none) (r0 0))
def Fd (N:Nat)  (r0:Int→Option R) (f:LA) (d:Nat) (b:Bool) (g:LA) (e:Nat) (c:Bool):Nat→Int→Option R
 | 0,_=>none
 | n+1,a=>(Kc N r0 f d b g e c (Fd N r0 f d b g e c n) a)
def Abh (N:Nat) (r0:Int→Option R) (q0:LA→Nat→LA→Nat→Int→Option R) (i:LA) (j:Nat) (l b:Bool) (m:LA) (o:Nat) (p c:Bool):Option R :=
 (By N i j l b (fun f d=>(By N m o p c (fun g e=>(cond (((d:Nat):Int) != ((e:Nat):Int)) (cond (decide (((d:Nat):Int)<((e:Nat):Int))) (r0 (-1)) (r0 1)) (q0 f d g e (IntKind.wrap .i64 (((d:Nat):Int) - (1:Int)))))))))
def Abi (N:Nat) (i:LA) (j:Nat) (l b:Bool) (m:LA) (o:Nat) (p c:Bool) (r0:Int→Option R):Option R:=(Abh N r0 (fun f d g e a=>(Fd N r0 f d b g e c N a)) i j l b m o p c)
def C9:=(Ai (@Abi R)).1
theorem Ad6:@C9 R=@Abi R:=(Ai _).2
def L7:Hints:={ H:=(hS (hR [0,1]) (hS (hR [0,1]) (hS (hS (hR [0,1,14]) (hN [0,1] (hS (hS (hR [19]) (hS (hS (hR [4]) hL) hL)) (hS (hR [4]) hL)) hL)) (hS (hS (hR [0,1,5]) (hS (hN [0,1,5] (hS (hS (hR [0,1,5,24]) (hN [0,1,5] hL hL)) (hS (hN [0,1,5] (hS (hS (hR [0,1,5,35]) (hN [0,1,5] (hS (hR [4]) hL) hL)) (hS (hR [0,1,5,44]) (hN [0,1,5] (hS (hR [4]) hL) hL))) hL) (hR [0,1,5]))) hL) hL)) (hS (hR [4]) hL))))),nils:=[],modes:=[],free:=[],cob:=[] }
def Nx (N:Nat):List (Nat×Tw):=[(171,L5 N)]
def Ny (N:Nat):Env:=mkE 45 L7 (Nx N)
def A3j (N:Nat) (F:KF R):=Aq (Ny N) Tryz.f132 L7.modes [] F
def Ah5 (N:Nat) (F:KF R):=atF (Ny N) [] N Tryz.f132 L7 (A3j N F)
def Ht  (F:KF R):Int→Option R:=(fun x=>F (.int .i64 x) [])
def Fe (f:LA) (d:Nat) (b:Bool) (g:LA) (e:Nat) (c:Bool) (a:Int):St:={ s:=[(0,(.imm f d 1 false b)),(1,(.imm g e 1 false c)),(5,(.int .i64 a))],h:=[] }
def Ah6 (N:Nat) (F:KF R):St→Option R:=Bx (Ny N) [] N (Ah5 N F [1,1,1,0,1,0] []) N
def L8 (N:Nat) (F:KF R) (n:Nat):St→Option R:=Ba (Ny N) [] N (Ah5 N F [1,1,1,0,1,0] []) n
theorem Av5 (N:Nat)  (F:KF R) (f:LA) (d:Nat) (b:Bool) (g:LA) (e:Nat) (c:Bool):∀ (n:Nat) (a:Int),L8 N F n (Fe f d b g e c a)=(Fd N (Ht F) f d b g e c n a):=by
 intro n
 induction n with
 | zero=>intros;kernel_rfl
 | succ n ih =>
  intro a
  have e0:=funext fun a=>(show L8 N F n (Fe f d b g e c a)=_ from ih a)
  have hK:L8 N F (n+1) (Fe f d b g e c a)=(Kc N (Ht F) f d b g e c (fun a=>L8 N F n (Fe f d b g e c a)) a):=by kernel_rfl
  exact hK.trans (by rw [e0];rfl)
theorem Tc (N:Nat) (i:LA) (j:Nat) (l b:Bool) (m:LA) (o:Nat) (p c:Bool) (F:KF R):Ac Tryz.prog muts (Nx N) L7 N 132 [(.imm i j 1 l b),(.imm m o 1 p c)] [] F=(C9 N i j l b m o p c (Ht F)):=by
 have e1:=funext fun f=>funext fun d=>funext fun g=>funext fun e=>funext fun a=>(show Ah6 N F (Fe f d b g e c a)=_ from (Ar ..).trans (Av5 N F f d b g e c N a))
 have hK:Ac Tryz.prog muts (Nx N) L7 N 132 [(.imm i j 1 l b),(.imm m o 1 p c)] [] F=(Abh N (Ht F) (fun f d g e a=>Ah6 N F (Fe f d b g e c a)) i j l b m o p c):=by kernel_rfl
 rw [Ad6]
 exact hK.trans (by rw [e1];rfl)
def Kd (N:Nat) (args:List AV) (h:Aj) (k:KF R):Option R :=
 match args,h with
 | [(.imm i j 1 l b),(.imm m o 1 p c)],[]=>(C9 N i j l b m o p c (Ht k))
 | _,_=>none
def Ff (N:Nat):Tw:=⟨Kd N,fun args h k=>by
 unfold Kd;split
 exact twE (Tc ..) (Tc ..)
 rfl⟩
theorem Hu (N:Nat):A1 Tryz.prog 132 (Ff N):=fun args h res q hh=>by
 change Kd N args h (fun v q=>some (v,q))=_ at hh
 unfold Kd at hh;split at hh
 exact Aa (T:=Nx N) ⟨Qd N,trivial⟩ follows ((Tc ..).trans hh)
 cases hh
def Aq6 (N:Nat) (r0:Int→Option R)  (a:LA) (c:Bool) (b:LA) (d:Bool):Option R :=
 (cond (Nat.ble 2 (List.length a)) (Akj N (List.take 2 a) c (fun e=>(cond (Nat.ble 2 (List.length b)) (Akj N (List.take 2 b) d (fun f=>(cond (decide (e<f)) (r0 (-1)) (cond (decide (e>f)) (r0 1) (cond (decide (e<(0:Int))) (rdL 1 (List.drop 1 b) fun i j=>(rdL 1 (List.drop 1 a) fun l m=>(C9 N i j false d l m false c (fun n=>(r0 n))))) (rdL 1 (List.drop 1 a) fun o p=>(rdL 1 (List.drop 1 b) fun q r=>(C9 N o p false c q r false d (fun s=>(r0 s)))))))))) none))) none)
def Aq7 (N:Nat) (a:LA) (c:Bool) (b:LA) (d:Bool) (r0:Int→Option R):Option R:=(Aq6 N r0 a c b d)
def Abj:=(Ai (@Aq7 R)).1
theorem Aq8:@Abj R=@Aq7 R:=(Ai _).2
def Aw7:Hints:={ H:=(hS (hR [2,3]) (hS (hR [2,3,5,6]) (hS (hN [2,3] (hS (hR [2,3,5,6,11]) (hN [2,3] (hS (hR [4]) hL) (hS (hR [2,3,5,15]) (hN [2,3] (hS (hR [4]) hL) (hS (hR [2,3,19]) (hN [2,3] (hS (hR [4]) hL) hL)))))) hL) (hS (hR [4]) hL)))),nils:=[],modes:=[],free:=[],cob:=[] }
def Aky (N:Nat):List (Nat×Tw):=[(144,Azq N),(132,Ff N)]
def Agd  (F:KF R):Int→Option R:=(fun t=>F (.int .i64 t) [])
theorem Age (N:Nat) (a:LA) (c:Bool) (b:LA) (d:Bool) (F:KF R):Ac Tryz.prog muts (Aky N) Aw7 N 102 [(.pagg a c),(.pagg b d)] [] F=(Abj N a c b d (Agd F)):=by
 have hK:Ac Tryz.prog muts (Aky N) Aw7 N 102 [(.pagg a c),(.pagg b d)] [] F=(Aq6 N (Agd F) a c b d):=by kernel_rfl
 rw [Aq8]
 exact hK
def Qj (N:Nat) (args:List AV) (h:Aj) (k:KF R):Option R :=
 match args,h with
 | [(.pagg a c),(.pagg b d)],[]=>(Abj N a c b d (Agd k))
 | _,_=>none
def Aw8 (N:Nat):Tw:=⟨Qj N,fun args h k=>by
 unfold Qj;split
 exact twE (Age ..) (Age ..)
 rfl⟩
theorem Bkc (N:Nat):A1 Tryz.prog 102 (Aw8 N):=fun args h res g hh=>by
 change Qj N args h (fun v g=>some (v,g))=_ at hh
 unfold Qj at hh;split at hh
 exact Aa (T:=Aky N) ⟨Bf5 N,Hu N,trivial⟩ follows ((Age ..).trans hh)
 cases hh
def Abk (N:Nat)  (r0:Int→Option R) (c:Bool) (a:LA) (d:Bool) (b:LA)   :Option R :=
 (cond (Nat.ble 3 (List.length a)) (Jg N (List.take 3 a) c (fun e p q r g=>(cond ((Nat.beq 0 0)&&((Nat.beq (List.length e) 2)&&(Nat.beq 2 2))) (cond (Nat.ble 3 (List.length b)) (Jg N (List.take 3 b) d (fun f t u w i=>(cond ((Nat.beq 0 0)&&((Nat.beq (List.length f) 2)&&(Nat.beq 2 2))) (cond (Nat.ble 2 (List.length e)) (Akw N (List.take 2 e) p [(.bool false),(.imm u w 1 false i)] (i||false) (fun x j y=>(cond (Nat.ble 2 (List.length f)) (Akw N (List.take 2 f) t [(.bool false),(.imm q r 1 false g)] (g||false) (fun z l aa=>(Abj N [(.bool x),(.imm (List.take (j*1) y) j 1 false true)] true [(.bool z),(.imm (List.take (l*1) aa) l 1 false true)] true (fun ab=>(r0 ab))))) none))) none) none))) none) none))) none)
def Uy (N:Nat)  (r0:Int→Option R) (c:Bool) (a:LA) (d:Bool) (b:LA) :Option R:=(Abk N r0 c a d b)
def Aq9 (N:Nat) (r0:Int→Option R) (q0:Option R) (a:LA) (c:Bool) (b:LA) (d:Bool):Option R :=
 (cond (Nat.ble 3 (List.length a)) (Yn N (List.take 3 a) c (fun m=>(cond (Nat.ble 3 (List.length b)) (Yn N (List.take 3 b) d (fun n=>(cond (m != n) (Jh N m n (fun ac=>(r0 ac))) (cond (Nat.ble 3 (List.length a)) (Fq N (List.take 3 a) c (fun ad ae af=>(cond (Nat.ble 3 (List.length b)) (Fq N (List.take 3 b) d (fun ag ah ai=>(cond (af==true) (cond (cond true ai false) (Gn N (IntKind.wrap .i64 (ad*ah)) (IntKind.wrap .i64 (ag*ae)) (fun aj=>(r0 aj))) q0) q0))) none))) none)))) none))) none)
def Ara (N:Nat) (a:LA) (c:Bool) (b:LA) (d:Bool) (r0:Int→Option R):Option R:=(Aq9 N r0 (Uy N r0 c a d b) a c b d)
def G0:=(Ai (@Ara R)).1
theorem Arb:@G0 R=@Ara R:=(Ai _).2
def Uz:Hints:={ H:=(hS (hR [2,3]) (hS (hS (hR [2,3,5,6]) (hS (hR [2,3,5,6,23]) (hN [2,3] (hS (hR [4]) hL) hL))) (hS (hR [2,3,7,8,9]) (hS (hR [2,3,7,8,9,10,11,12]) (hJ (hS (hR [2,3,7,8,10,11,42]) (hN [2,3] (hS (hR [4]) hL) hL)) (hS (hR [3,13,14]) (hS (hR [13,14,15,16]) (hS (hR [4]) hL)))))))),nils:=[],modes:=[],free:=[],cob:=[] }
def Yq (N:Nat):List (Nat×Tw):=[(95,Akk N),(98,Abc N),(99,Wb N),(100,Wd N),(101,Ph N),(103,Au3 N),(102,Aw8 N)]
def Yr (N:Nat):Env:=mkE 69 Uz (Yq N)
def Bgg (N:Nat) (F:KF R):=Aq (Yr N) Tryz.f59 Uz.modes [] F
def Aw9 (N:Nat) (F:KF R):=atF (Yr N) [] N Tryz.f59 Uz (Bgg N F)
def Nl  (F:KF R):Int→Option R:=(fun ak=>F (.int .i64 ak) [])
def U0 (c:Bool) (a:LA) (d:Bool) (b:LA):St:={ s:=[(2,(.optr 300000 0)),(3,(.optr 300001 0))],h:=[(300000,⟨false,false,true,c,0,a,false⟩),(300001,⟨false,false,true,d,0,b,false⟩)] }
def Axa (N:Nat) (F:KF R):St→Option R:=Bm (Yr N) [] N (Aw9 N F [1,1,1,1,1] [])
def Axb (N:Nat) (F:KF R):St→Option R:=Bq (Yr N) [] N (Aw9 N F [1,1,1,1,1] [])
theorem A7c (N:Nat)  (F:KF R) (c:Bool) (a:LA) (d:Bool) (b:LA):Axb N F (U0 c a d b)=(Uy N (Nl F) c a d b):=by
 have hK:Axb N F (U0 c a d b)=(Abk N (Nl F) c a d b):=by kernel_rfl
 exact hK
theorem Agf (N:Nat) (a:LA) (c:Bool) (b:LA) (d:Bool) (F:KF R):Ac Tryz.prog muts (Yq N) Uz N 59 [(.pagg a c),(.pagg b d)] [] F=(G0 N a c b d (Nl F)):=by
 have e1:=(show Axa N F (U0 c a d b)=_ from (As ..).trans (A7c N F c a d b))
 have hK:Ac Tryz.prog muts (Yq N) Uz N 59 [(.pagg a c),(.pagg b d)] [] F=(Aq9 N (Nl F) (Axa N F (U0 c a d b)) a c b d):=by kernel_rfl
 rw [Arb]
 exact hK.trans (by rw [e1];rfl)
def Qk (N:Nat) (args:List AV) (h:Aj) (k:KF R):Option R :=
 match args,h with
 | [(.pagg a c),(.pagg b d)],[]=>(G0 N a c b d (Nl k))
 | _,_=>none
def U4 (N:Nat):Tw:=⟨Qk N,fun args h k=>by
 unfold Qk;split
 exact twE (Agf ..) (Agf ..)
 rfl⟩
theorem Agg (N:Nat):A1 Tryz.prog 59 (U4 N):=fun args h res o hh=>by
 change Qk N args h (fun v o=>some (v,o))=_ at hh
 unfold Qk at hh;split at hh
 exact Aa (T:=Yq N) ⟨Azt N,Azu N,Ad5 N,Aq5 N,V9 N,A7b N,Bkc N,trivial⟩ follows ((Agf ..).trans hh)
 cases hh
def Jj (N:Nat)  (r0:LA→Option R) (a b c:Int) (k1:Int→Int→Option R)  (d e:Int):Option R :=
 (cond (e != (0:Int)) (cond (e==(0:Int)) none (k1 e (Int.tmod d e))) (cond (d==(0:Int)) none (Bo N (IntKind.wrap .u64 (Int.tdiv c d)) (fun f j=>(cond (d==(0:Int)) none (Bo N (IntKind.wrap .u64 (Int.tdiv (IntKind.wrap .u64 b) d)) (fun g l=>(r0 [(.bool (decide (a<(0:Int)))),(.imm (List.take (f*1) j) f 1 false false),(.imm (List.take (g*1) l) g 1 false false)]))))))))
def Cf (N:Nat)  (r0:LA→Option R) (a b c:Int):Nat→Int→Int→Option R
 | 0,_,_=>none
 | n+1,d,e=>(Jj N r0 a b c (Cf N r0 a b c n) d e)
def Wx (N:Nat)  (r0:LA→Option R) (a b:Int)  (q1:Int→Int→Option R) (c:Int):Option R :=
 (q1 (IntKind.wrap .u64 b) c)
def Abl (N:Nat)  (r0:LA→Option R) (a b c:Int):Option R:=(Wx N r0 a b (fun d e=>(Cf N r0 a b c N d e)) c)
def Akz (N:Nat) (r0:LA→Option R) (q0:Int→Option R) (a b:Int):Option R :=
 (cond (decide (a<(0:Int))) (q0 (IntKind.wrap .u64 ((0:Int) - (IntKind.wrap .u64 a)))) (q0 (IntKind.wrap .u64 a)))
def Ak0 (N:Nat) (a b:Int) (r0:LA→Option R):Option R:=(Akz N r0 (fun c=>(Abl N r0 a b c)) a b)
def Ih:=(Ai (@Ak0 R)).1
theorem An8:@Ih R=@Ak0 R:=(Ai _).2
def Ql:Hints:={ H:=(hS (hR [0,1,4]) (hS (hR [0,1,4,5]) (hJ (hS (hR [0,1,4,5,11]) (hN [0,1,4,5] (hR [0,1,4,5]) hL)) (hS (hR [0,1,4,5,6,7]) (hS (hN [0,1,4,5,6] (hN [0,1,4,5,6,7] (hS (hS (hR [0,1,4,5,6,7,18]) (hN [0,1,4,5,6,7] hL hL)) (hN [0,1,4,5,6,7] (hR [0,1,4,5,6,7]) hL)) hL) hL) (hS (hR [4]) hL)))))),nils:=[],modes:=[(3,0)],free:=[],cob:=[] }
def U5 (N:Nat):List (Nat×Tw):=[(149,Dw N)]
def Jx (N:Nat):Env:=mkE 36 Ql (U5 N)
def Bcu (N:Nat) (F:KF R):=Aq (Jx N) Tryz.f131 Ql.modes [] F
def Qm (N:Nat) (F:KF R):=atF (Jx N) [] N Tryz.f131 Ql (Bcu N F)
def Fr  (F:KF R):LA→Option R:=(fun m=>F (.pagg m false) [])
def Hv (a b c d e:Int):St:={ s:=[(0,(.int .i64 a)),(1,(.int .i64 b)),(4,(.optr 300000 0)),(5,(.int .u64 c)),(6,(.int .u64 d)),(7,(.int .u64 e))],h:=[(300000,⟨false,false,false,false,0,[(.bool false),.nsl,.nsl],false⟩)] }
def Arc (N:Nat) (F:KF R):St→Option R:=Bx (Jx N) [] N (Qm N F [1,1,1,1,0,0] []) N
def Qn (N:Nat) (F:KF R) (n:Nat):St→Option R:=Ba (Jx N) [] N (Qm N F [1,1,1,1,0,0] []) n
def Qo (a b c:Int):St:={ s:=[(0,(.int .i64 a)),(1,(.int .i64 b)),(4,(.optr 300000 0)),(5,(.int .u64 c))],h:=[(300000,⟨false,false,false,false,0,[(.bool false),.nsl,.nsl],false⟩)] }
def Ard (N:Nat) (F:KF R):St→Option R:=Bm (Jx N) [] N (Qm N F [1,1,1] [])
def Are (N:Nat) (F:KF R):St→Option R:=Bq (Jx N) [] N (Qm N F [1,1,1] [])
theorem A3k (N:Nat)  (F:KF R) (a b c:Int):∀ (n:Nat) (d e:Int),Qn N F n (Hv a b c d e)=(Cf N (Fr F) a b c n d e):=by
 intro n
 induction n with
 | zero=>intros;kernel_rfl
 | succ n ih =>
  intro d e
  have e0:=funext fun d=>funext fun e=>(show Qn N F n (Hv a b c d e)=_ from ih d e)
  have hK:Qn N F (n+1) (Hv a b c d e)=(Jj N (Fr F) a b c (fun d e=>Qn N F n (Hv a b c d e)) d e):=by kernel_rfl
  exact hK.trans (by rw [e0];rfl)
theorem A3l (N:Nat)  (F:KF R) (a b:Int):∀ (c:Int),Are N F (Qo a b c)=(Abl N (Fr F) a b c):=by
 intro c
 have e1:=funext fun d=>funext fun e=>(show Arc N F (Hv a b c d e)=_ from (Ar ..).trans (A3k N F a b c N d e))
 have hK:Are N F (Qo a b c)=(Wx N (Fr F) a b (fun d e=>Arc N F (Hv a b c d e)) c):=by kernel_rfl
 exact hK.trans (by rw [e1];rfl)
theorem Abm (N:Nat) (a b:Int) (F:KF R):Ac Tryz.prog muts (U5 N) Ql N 131 [(.int .i64 a),(.int .i64 b)] [] F=(Ih N a b (Fr F)):=by
 have e1:=funext fun c=>(show Ard N F (Qo a b c)=_ from (As ..).trans (A3l N F a b c))
 have hK:Ac Tryz.prog muts (U5 N) Ql N 131 [(.int .i64 a),(.int .i64 b)] [] F=(Akz N (Fr F) (fun c=>Ard N F (Qo a b c)) a b):=by kernel_rfl
 rw [An8]
 exact hK.trans (by rw [e1];rfl)
def Nz (N:Nat) (args:List AV) (h:Aj) (k:KF R):Option R :=
 match args,h with
 | [(.int .i64 a),(.int .i64 b)],[]=>(Ih N a b (Fr k))
 | _,_=>none
def Qp (N:Nat):Tw:=⟨Nz N,fun args h k=>by
 unfold Nz;split
 exact twE (Abm ..) (Abm ..)
 rfl⟩
theorem Abn (N:Nat):A1 Tryz.prog 131 (Qp N):=fun args h res i hh=>by
 change Nz N args h (fun v i=>some (v,i))=_ at hh
 unfold Nz at hh;split at hh
 exact Aa (T:=U5 N) ⟨Fc N,trivial⟩ follows ((Abm ..).trans hh)
 cases hh
def Bgh (N:Nat) (r0:Nat→LA→Option R)  (b:LA) (c:Nat) (d a:Bool):Option R :=
 (By N b c d a (fun f e=>(cond ((decide ((0:Int)≤((e:Nat):Int)))&&((decide (((e:Nat):Int)≤((e:Nat):Int)))&&((decide (((e:Nat):Int)≤(140737488355328:Int)))&&(decide ((((e:Nat):Int)*((4:Nat):Int))≤(140737488355328:Int)))))) (cond ((!a)||(Bv f)) (r0 e (Ei (List.replicate e (.int .u32 0)) 0 (List.take ((min e e)*1) f))) none) none)))
def Bgi (N:Nat) (b:LA) (c:Nat) (d a:Bool) (r0:Nat→LA→Option R):Option R:=(Bgh N r0 b c d a)
def Ys:=(Ai (@Bgi R)).1
theorem Ba0:@Ys R=@Bgi R:=(Ai _).2
def Bgj:Hints:={ H:=(hS (hR [0]) (hS (hR [0]) (hS (hR [0,3]) (hS (hR [3]) (hS (hR [2]) hL))))),nils:=[(2,1)],modes:=[(2,1)],free:=[],cob:=[] }
def A7d (N:Nat):List (Nat×Tw):=[(171,L5 N)]
def Az1  (F:KF R):Nat→LA→Option R:=(fun i j=>F (.own 300000 0 i) [(300000,⟨false,false,true,false,1,j,false⟩)])
theorem Az2 (N:Nat) (b:LA) (c:Nat) (d a:Bool) (F:KF R):Ac Tryz.prog muts (A7d N) Bgj N 173 [(.imm b c 1 d a)] [] F=(Ys N b c d a (Az1 F)):=by
 have hK:Ac Tryz.prog muts (A7d N) Bgj N 173 [(.imm b c 1 d a)] [] F=(Bgh N (Az1 F) b c d a):=by kernel_rfl
 rw [Ba0]
 exact hK
def Ad7 (N:Nat) (args:List AV) (h:Aj) (k:KF R):Option R :=
 match args,h with
 | [(.imm b c 1 d a)],[]=>(Ys N b c d a (Az1 k))
 | _,_=>none
def Abo (N:Nat):Tw:=⟨Ad7 N,fun args h k=>by
 unfold Ad7;split
 exact twE (Az2 ..) (Az2 ..)
 rfl⟩
theorem Ak1 (N:Nat):A1 Tryz.prog 173 (Abo N):=fun args h res g hh=>by
 change Ad7 N args h (fun v g=>some (v,g))=_ at hh
 unfold Ad7 at hh;split at hh
 exact Aa (T:=A7d N) ⟨Qd N,trivial⟩ follows ((Az2 ..).trans hh)
 cases hh
def Bgk (N:Nat) (r0:Bool→Nat→LA→Option R)  (a:LA) (b:Bool):Option R :=
 (rdB a fun f=>(rdL 1 (List.drop 1 a) fun g i=>(Ys N g i false b (fun c d=>(Hr N f c d (fun j=>(r0 j c d)))))))
def Bgl (N:Nat) (a:LA) (b:Bool) (r0:Bool→Nat→LA→Option R):Option R:=(Bgk N r0 a b)
def A3m:=(Ai (@Bgl R)).1
theorem Ba1:@A3m R=@Bgl R:=(Ai _).2
def Bgm:Hints:={ H:=(hS (hR [1,2]) (hS (hR [2]) hL)),nils:=[],modes:=[],free:=[],cob:=[] }
def A7e (N:Nat):List (Nat×Tw):=[(173,Abo N),(148,Qa N)]
def Az3  (F:KF R):Bool→Nat→LA→Option R:=(fun l m n=>F (.agg [(.bool l),(.own 300000 0 m)]) [(300000,⟨false,false,true,false,1,n,false⟩)])
theorem Az4 (N:Nat) (a:LA) (b:Bool) (F:KF R):Ac Tryz.prog muts (A7e N) Bgm N 172 [(.pagg a b)] [] F=(A3m N a b (Az3 F)):=by
 have hK:Ac Tryz.prog muts (A7e N) Bgm N 172 [(.pagg a b)] [] F=(Bgk N (Az3 F) a b):=by kernel_rfl
 rw [Ba1]
 exact hK
def Ad8 (N:Nat) (args:List AV) (h:Aj) (k:KF R):Option R :=
 match args,h with
 | [(.pagg a b)],[]=>(A3m N a b (Az3 k))
 | _,_=>none
def Bgn (N:Nat):Tw:=⟨Ad8 N,fun args h k=>by
 unfold Ad8;split
 exact twE (Az4 ..) (Az4 ..)
 rfl⟩
theorem Bss (N:Nat):A1 Tryz.prog 172 (Bgn N):=fun args h res e hh=>by
 change Ad8 N args h (fun v e=>some (v,e))=_ at hh
 unfold Ad8 at hh;split at hh
 exact Aa (T:=A7e N) ⟨Ak1 N,Ye N,trivial⟩ follows ((Az4 ..).trans hh)
 cases hh
def G9 (N:Nat)  (r0:Int→Option R)    (a b:Int):Option R :=
 (cond (decide (a≥(256:Int))) (cond (Am (IntKind.wrap .u8 (Int.fdiv a (2 ^ 8))) 256) (r0 (IntKind.wrap .i64 ((IntKind.wrap .i64 (b+(8:Int)))+(IntKind.wrap .i64 ((UInt8.toNat (List.getD ([0,1,2,2,3,3,3,3,4,4,4,4,4,4,4,4,5,5,5,5,5,5,5,5,5,5,5,5,5,5,5,5,6,6,6,6,6,6,6,6,6,6,6,6,6,6,6,6,6,6,6,6,6,6,6,6,6,6,6,6,6,6,6,6,7,7,7,7,7,7,7,7,7,7,7,7,7,7,7,7,7,7,7,7,7,7,7,7,7,7,7,7,7,7,7,7,7,7,7,7,7,7,7,7,7,7,7,7,7,7,7,7,7,7,7,7,7,7,7,7,7,7,7,7,7,7,7,7,8,8,8,8,8,8,8,8,8,8,8,8,8,8,8,8,8,8,8,8,8,8,8,8,8,8,8,8,8,8,8,8,8,8,8,8,8,8,8,8,8,8,8,8,8,8,8,8,8,8,8,8,8,8,8,8,8,8,8,8,8,8,8,8,8,8,8,8,8,8,8,8,8,8,8,8,8,8,8,8,8,8,8,8,8,8,8,8,8,8,8,8,8,8,8,8,8,8,8,8,8,8,8,8,8,8,8,8,8,8,8,8,8,8,8,8,8,8,8,8,8,8,8,8,8,8,8,8]:List UInt8) (Int.toNat (IntKind.wrap .u8 (Int.fdiv a (2 ^ 8)))) 0):Nat):Int))))) none) (cond (Am (IntKind.wrap .u8 a) 256) (r0 (IntKind.wrap .i64 (b+(IntKind.wrap .i64 ((UInt8.toNat (List.getD ([0,1,2,2,3,3,3,3,4,4,4,4,4,4,4,4,5,5,5,5,5,5,5,5,5,5,5,5,5,5,5,5,6,6,6,6,6,6,6,6,6,6,6,6,6,6,6,6,6,6,6,6,6,6,6,6,6,6,6,6,6,6,6,6,7,7,7,7,7,7,7,7,7,7,7,7,7,7,7,7,7,7,7,7,7,7,7,7,7,7,7,7,7,7,7,7,7,7,7,7,7,7,7,7,7,7,7,7,7,7,7,7,7,7,7,7,7,7,7,7,7,7,7,7,7,7,7,7,8,8,8,8,8,8,8,8,8,8,8,8,8,8,8,8,8,8,8,8,8,8,8,8,8,8,8,8,8,8,8,8,8,8,8,8,8,8,8,8,8,8,8,8,8,8,8,8,8,8,8,8,8,8,8,8,8,8,8,8,8,8,8,8,8,8,8,8,8,8,8,8,8,8,8,8,8,8,8,8,8,8,8,8,8,8,8,8,8,8,8,8,8,8,8,8,8,8,8,8,8,8,8,8,8,8,8,8,8,8,8,8,8,8,8,8,8,8,8,8,8,8,8,8,8,8,8,8]:List UInt8) (Int.toNat (IntKind.wrap .u8 a)) 0):Nat):Int))))) none))
def Fs (N:Nat)  (r0:Int→Option R)  (a b:Int):Option R:=(G9 N r0 a b)
def Td (N:Nat) (r0:Int→Option R) (q0:Int→Int→Option R) (c:Int):Option R :=
 (cond (decide (c≥(65536:Int))) (q0 (Int.fdiv c (2 ^ 16)) 16) (q0 c 0))
def Te (N:Nat) (c:Int) (r0:Int→Option R):Option R:=(Td N r0 (fun a b=>(Fs N r0 a b)) c)
def Jk:=(Ai (@Te R)).1
theorem Xn:@Jk R=@Te R:=(Ai _).2
def Iy:Hints:={ H:=(hS (hR [0,2]) (hJ (hS (hR [0,2,4]) (hN [0,2] (hS (hR [0]) (hR [0,2])) hL)) (hS (hS (hR [0,2,8]) (hN [0,2] (hS (hR [0,2]) (hR [0,2])) hL)) (hS (hR [2]) hL)))),nils:=[],modes:=[],free:=[],cob:=[] }
def Ke (N:Nat):List (Nat×Tw):=[]
def Kf (N:Nat):Env:=mkE 19 Iy (Ke N)
def Av6 (N:Nat) (F:KF R):=Aq (Kf N) Tryz.f205 Iy.modes [] F
def Abp (N:Nat) (F:KF R):=atF (Kf N) [] N Tryz.f205 Iy (Av6 N F)
def Ft  (F:KF R):Int→Option R:=(fun e=>F (.int .i64 e) [])
def Iz (a b:Int):St:={ s:=[(0,(.int .u32 a)),(2,(.int .i64 b))],h:=[] }
def Abq (N:Nat) (F:KF R):St→Option R:=Bm (Kf N) [] N (Abp N F [1,1] [])
def Abr (N:Nat) (F:KF R):St→Option R:=Bq (Kf N) [] N (Abp N F [1,1] [])
theorem Ao8 (N:Nat)  (F:KF R) :∀ (a b:Int),Abr N F (Iz a b)=(Fs N (Ft F) a b):=by
 intro a b
 have hK:Abr N F (Iz a b)=(G9 N (Ft F) a b):=by kernel_rfl
 exact hK
theorem O0 (N:Nat) (c:Int) (F:KF R):Ac Tryz.prog muts (Ke N) Iy N 205 [(.int .u32 c)] [] F=(Jk N c (Ft F)):=by
 have e1:=funext fun a=>funext fun b=>(show Abq N F (Iz a b)=_ from (As ..).trans (Ao8 N F a b))
 have hK:Ac Tryz.prog muts (Ke N) Iy N 205 [(.int .u32 c)] [] F=(Td N (Ft F) (fun a b=>Abq N F (Iz a b)) c):=by kernel_rfl
 rw [Xn]
 exact hK.trans (by rw [e1];rfl)
def Ha (N:Nat) (args:List AV) (h:Aj) (k:KF R):Option R :=
 match args,h with
 | [(.int .u32 c)],[]=>(Jk N c (Ft k))
 | _,_=>none
def Abs (N:Nat):Tw:=⟨Ha N,fun args h k=>by
 unfold Ha;split
 exact twE (O0 ..) (O0 ..)
 rfl⟩
theorem Az5 (N:Nat):A1 Tryz.prog 205 (Abs N):=fun args h res d hh=>by
 change Ha N args h (fun v d=>some (v,d))=_ at hh
 unfold Ha at hh;split at hh
 exact Aa (T:=Ke N) trivial follows ((O0 ..).trans hh)
 cases hh
def F7 (N:Nat) (r0:Int→Option R)  (a:Int):Option R :=
 (Jk N a (fun c=>(r0 (IntKind.wrap .i64 ((32:Int) - c)))))
def F8 (N:Nat) (a:Int) (r0:Int→Option R):Option R:=(F7 N r0 a)
def Bu:=(Ai (@F8 R)).1
theorem Jl:@Bu R=@F8 R:=(Ai _).2
def Kg:Hints:={ H:=(hS (hR [0]) (hS (hR [2]) hL)),nils:=[],modes:=[],free:=[],cob:=[] }
def Fu (N:Nat):List (Nat×Tw):=[(205,Abs N)]
def Ew  (F:KF R):Int→Option R:=(fun d=>F (.int .i64 d) [])
theorem Ex (N:Nat) (a:Int) (F:KF R):Ac Tryz.prog muts (Fu N) Kg N 200 [(.int .u32 a)] [] F=(Bu N a (Ew F)):=by
 have hK:Ac Tryz.prog muts (Fu N) Kg N 200 [(.int .u32 a)] [] F=(F7 N (Ew F) a):=by kernel_rfl
 rw [Jl]
 exact hK
def Cy (N:Nat) (args:List AV) (h:Aj) (k:KF R):Option R :=
 match args,h with
 | [(.int .u32 a)],[]=>(Bu N a (Ew k))
 | _,_=>none
def Ey (N:Nat):Tw:=⟨Cy N,fun args h k=>by
 unfold Cy;split
 exact twE (Ex ..) (Ex ..)
 rfl⟩
theorem Kh (N:Nat):A1 Tryz.prog 200 (Ey N):=fun args h res b hh=>by
 change Cy N args h (fun v b=>some (v,b))=_ at hh
 unfold Cy at hh;split at hh
 exact Aa (T:=Fu N) ⟨Az5 N,trivial⟩ follows ((Ex ..).trans hh)
 cases hh
def Agh (N:Nat) (r0:Int→Option R)  (e:Int) (b:LA) (a:Nat) (c d:Bool):Option R :=
 (cond (decide (e<((a:Nat):Int))) (cond (Am e a) (rdI .u32 (List.drop ((Int.toNat e)*1) b) fun g=>(r0 (IntKind.wrap .u64 g))) none) (r0 0))
def Agi (N:Nat) (e:Int) (b:LA) (a:Nat) (c d:Bool) (r0:Int→Option R):Option R:=(Agh N r0 e b a c d)
def I0:=(Ai (@Agi R)).1
theorem Ah7:@I0 R=@Agi R:=(Ai _).2
def An9:Hints:={ H:=(hS (hR [0,1]) (hS (hS (hR [0,1,7]) (hS (hS (hR [3]) hL) hL)) (hS (hR [3]) hL))),nils:=[],modes:=[],free:=[],cob:=[] }
def Abt (N:Nat):List (Nat×Tw):=[]
def Wy (b:LA) (a:Nat) (c d:Bool) (F:KF R):Int→Option R:=(fun i=>F (.int .u64 i) [(100000,⟨false,false,false,false,0,[(.imm b a 1 c d)],false⟩)])
theorem Wz (N:Nat) (e:Int) (b:LA) (a:Nat) (c d:Bool) (F:KF R):Ac Tryz.prog muts (Abt N) An9 N 206 [(.int .i64 e),(.optr 100000 0)] [(100000,⟨false,false,false,false,0,[(.imm b a 1 c d)],false⟩)] F=(I0 N e b a c d (Wy b a c d F)):=by
 have hK:Ac Tryz.prog muts (Abt N) An9 N 206 [(.int .i64 e),(.optr 100000 0)] [(100000,⟨false,false,false,false,0,[(.imm b a 1 c d)],false⟩)] F=(Agh N (Wy b a c d F) e b a c d):=by kernel_rfl
 rw [Ah7]
 exact hK
def L9 (N:Nat) (args:List AV) (h:Aj) (k:KF R):Option R :=
 match args,h with
 | [(.int .i64 e),(.optr 100000 0)],[(100000,⟨false,false,false,false,0,[(.imm b a 1 c d)],false⟩)]=>(I0 N e b a c d (Wy b a c d k))
 | _,_=>none
def Aoa (N:Nat):Tw:=⟨L9 N,fun args h k=>by
 unfold L9;split
 exact twE (Wz ..) (Wz ..)
 rfl⟩
theorem Bcv (N:Nat):A1 Tryz.prog 206 (Aoa N):=fun args h res f hh=>by
 change L9 N args h (fun v f=>some (v,f))=_ at hh
 unfold L9 at hh;split at hh
 exact Aa (T:=Abt N) trivial follows ((Wz ..).trans hh)
 cases hh
def Az6 (N:Nat) (r0:Int→Option R)  (b:LA) (c:Nat) (d e:Bool) (f a:Int):Option R :=
 (I0 N (IntKind.wrap .i64 (f - (1:Int))) b c d e (fun i=>(I0 N (IntKind.wrap .i64 (f - (2:Int))) b c d e (fun j=>(cond (decide (a<(0:Int))) none (I0 N (IntKind.wrap .i64 (f - (3:Int))) b c d e (fun l=>(cond (decide ((IntKind.wrap .i64 ((32:Int) - a))<(0:Int))) none (r0 (Pa .u64 (IntKind.wrap .u64 ((Pa .u64 (IntKind.wrap .u64 (i*2 ^ 32)) j)*2 ^ (min (Int.toNat a) 64))) (Int.fdiv l (2 ^ (min (Int.toNat (IntKind.wrap .i64 ((32:Int) - a))) 64)))))))))))))
def Az7 (N:Nat) (b:LA) (c:Nat) (d e:Bool) (f a:Int) (r0:Int→Option R):Option R:=(Az6 N r0 b c d e f a)
def Zw:=(Ai (@Az7 R)).1
theorem Axc:@Zw R=@Az7 R:=(Ai _).2
def A3n:Hints:={ H:=(hS (hR [1,2,3]) (hS (hR [1,2,7]) (hS (hR [6]) hL))),nils:=[],modes:=[],free:=[],cob:=[] }
def Arf (N:Nat):List (Nat×Tw):=[(206,Aoa N)]
def Ak2  (F:KF R):Int→Option R:=(fun m=>F (.int .u64 m) [])
theorem Ak3 (N:Nat) (b:LA) (c:Nat) (d e:Bool) (f a:Int) (F:KF R):Ac Tryz.prog muts (Arf N) A3n N 201 [(.imm b c 1 d e),(.int .i64 f),(.int .i64 a)] [] F=(Zw N b c d e f a (Ak2 F)):=by
 have hK:Ac Tryz.prog muts (Arf N) A3n N 201 [(.imm b c 1 d e),(.int .i64 f),(.int .i64 a)] [] F=(Az6 N (Ak2 F) b c d e f a):=by kernel_rfl
 rw [Axc]
 exact hK
def U6 (N:Nat) (args:List AV) (h:Aj) (k:KF R):Option R :=
 match args,h with
 | [(.imm b c 1 d e),(.int .i64 f),(.int .i64 a)],[]=>(Zw N b c d e f a (Ak2 k))
 | _,_=>none
def A3o (N:Nat):Tw:=⟨U6 N,fun args h k=>by
 unfold U6;split
 exact twE (Ak3 ..) (Ak3 ..)
 rfl⟩
theorem Bod (N:Nat):A1 Tryz.prog 201 (A3o N):=fun args h res g hh=>by
 change U6 N args h (fun v g=>some (v,g))=_ at hh
 unfold U6 at hh;split at hh
 exact Aa (T:=Arf N) ⟨Bcv N,trivial⟩ follows ((Ak3 ..).trans hh)
 cases hh
def Abu (N:Nat) (k0:Int→Int→Int→Int→Int→Int→Int→Int→Bool→Option R) (r0:LA→Option R)    (m l o p q r:Int) (t:Bool):Option R :=
 (cond (l==(0:Int)) none (cond (l==(0:Int)) none (k0 l (Int.tmod m l) o p (IntKind.wrap .u64 (o+(IntKind.wrap .u64 ((IntKind.wrap .u64 (Int.tdiv m l))*p)))) q r (IntKind.wrap .u64 (q+(IntKind.wrap .u64 ((IntKind.wrap .u64 (Int.tdiv m l))*r)))) (!t))))
def U7 (N:Nat) (k0:Int→Int→Int→Int→Int→Int→Int→Int→Bool→Option R) (r0:LA→Option R)  (m l o p q r:Int) (t:Bool):Option R:=(Abu N k0 r0 m l o p q r t)
def Hw (N:Nat)  (r0:LA→Option R)  (k0:Int→Int→Int→Int→Int→Int→Int→Int→Bool→Option R) (q1:Int→Int→Int→Int→Int→Int→Bool→Option R) (f b g c j i a d:Int) (e:Bool):Option R :=
 (cond ((decide (b≥d))==true) (cond (cond true (decide ((IntKind.wrap .u64 (f - b))≥(IntKind.wrap .u64 (a+d)))) false) (q1 f b c j a d e) (r0 [(.int .u64 g),(.int .u64 c),(.int .u64 i),(.int .u64 a),(.bool e)])) (r0 [(.int .u64 g),(.int .u64 c),(.int .u64 i),(.int .u64 a),(.bool e)]))
def Da (N:Nat)  (r0:LA→Option R) :Nat→Int→Int→Int→Int→Int→Int→Int→Int→Bool→Option R
 | 0,_,_,_,_,_,_,_,_,_=>none
 | n+1,f,b,g,c,j,i,a,d,e=>(Hw N r0 (Da N r0 n) (fun m l o p q r t=>(U7 N (Da N r0 n) r0 m l o p q r t)) f b g c j i a d e)
def Arg (N:Nat) (r0:LA→Option R) (q0:Int→Int→Int→Int→Int→Int→Int→Int→Bool→Option R) (w:LA) (u:Nat) (ab x:Bool) (y:LA) (z:Nat) (ac aa:Bool):Option R :=
 (cond (Am (IntKind.wrap .i64 (((u:Nat):Int) - (1:Int))) u) (rdI .u32 (List.drop ((Int.toNat (IntKind.wrap .i64 (((u:Nat):Int) - (1:Int))))*1) w) fun af=>(Bu N af (fun ad=>(Zw N w u false x ((u:Nat):Int) ad (fun ag=>(Zw N y z false aa ((u:Nat):Int) ad (fun ah=>(q0 ag ah 0 1 0 0 0 1 false)))))))) none)
def Arh (N:Nat) (w:LA) (u:Nat) (ab x:Bool) (y:LA) (z:Nat) (ac aa:Bool) (r0:LA→Option R):Option R:=(Arg N r0 (fun f b g c j i a d e=>(Da N r0 N f b g c j i a d e)) w u ab x y z ac aa)
def Abv:=(Ai (@Arh R)).1
theorem Ari:@Abv R=@Arh R:=(Ai _).2
def U8:Hints:={ H:=(hS (hR [0,1,4]) (hS (hR [0,1,4,5]) (hS (hR [0,1,4,5,6]) (hS (hR [4,7,8]) (hS (hR [4,7,8,9,10,11]) (hS (hR [4,7,8,9,10,11,12,13,14]) (hS (hR [4,7,8,9,10,11,12,13,14,15]) (hS (hN [4,9,10,12,13,15] (hN [4,7,8,9,10,11,12,13,14,15] (hJ (hS (hR [4,7,8,9,10,11,12,13,14,15,44]) (hN [4,7,8,10,11,13,14,15] hL hL)) (hN [4,7,8,9,10,11,12,13,14,15] (hS (hR [4,7,8,10,11,13,14,15,16]) (hS (hR [4,7,8,10,11,13,14,15,16]) (hS (hR [4,7,8,9,10,11,13,14,15,16]) (hS (hR [4,7,8,9,10,11,12,13,14,15]) (hR [4,7,8,9,10,11,12,13,14,15]))))) hL)) hL) hL) (hS (hR [4]) hL))))))))),nils:=[],modes:=[(3,0)],free:=[],cob:=[] }
def Yt (N:Nat):List (Nat×Tw):=[(200,Ey N),(201,A3o N)]
def Ma (N:Nat):Env:=mkE 74 U8 (Yt N)
def Bgo (N:Nat) (F:KF R):=Aq (Ma N) Tryz.f195 U8.modes [] F
def U9 (N:Nat) (F:KF R):=atF (Ma N) [] N Tryz.f195 U8 (Bgo N F)
def D4  (F:KF R):LA→Option R:=(fun ai=>F (.pagg ai false) [])
def Va (m l o p q r:Int) (t:Bool):St:={ s:=[(4,(.optr 300000 0)),(7,(.int .u64 m)),(8,(.int .u64 l)),(10,(.int .u64 o)),(11,(.int .u64 p)),(13,(.int .u64 q)),(14,(.int .u64 r)),(15,(.bool t))],h:=[(300000,⟨false,false,true,false,0,[(.int .u64 0),(.int .u64 0),(.int .u64 0),(.int .u64 0),(.bool false)],false⟩)] }
def Axd (N:Nat) (F:KF R) (Q0:St→Option R):St→Option R:=Bm (Ma N) [] N (U9 N F [1,1,1,1,1,1,1,0,0,0,1] [Q0])
def Axe (N:Nat) (F:KF R) (Q0:St→Option R):St→Option R:=Bq (Ma N) [] N (U9 N F [1,1,1,1,1,1,1,0,0,0,1] [Q0])
def E6 (f b g c j i a d:Int) (e:Bool):St:={ s:=[(4,(.optr 300000 0)),(7,(.int .u64 f)),(8,(.int .u64 b)),(9,(.int .u64 g)),(10,(.int .u64 c)),(11,(.int .u64 j)),(12,(.int .u64 i)),(13,(.int .u64 a)),(14,(.int .u64 d)),(15,(.bool e))],h:=[(300000,⟨false,false,true,false,0,[(.int .u64 0),(.int .u64 0),(.int .u64 0),(.int .u64 0),(.bool false)],false⟩)] }
def Axf (N:Nat) (F:KF R):St→Option R:=Bx (Ma N) [] N (U9 N F [1,1,1,1,1,1,1,0,0] []) N
def G1 (N:Nat) (F:KF R) (n:Nat):St→Option R:=Ba (Ma N) [] N (U9 N F [1,1,1,1,1,1,1,0,0] []) n
theorem A7f (N:Nat) (Q0:St→Option R) (F:KF R) :∀ (m l o p q r:Int) (t:Bool),Axe N F Q0 (Va m l o p q r t)=(U7 N (fun f b g c j i a d e=>Q0 (E6 f b g c j i a d e)) (D4 F) m l o p q r t):=by
 intro m l o p q r t
 have hK:Axe N F Q0 (Va m l o p q r t)=(Abu N (fun f b g c j i a d e=>Q0 (E6 f b g c j i a d e)) (D4 F) m l o p q r t):=by kernel_rfl
 exact hK
theorem A7g (N:Nat)  (F:KF R) :∀ (n:Nat) (f b g c j i a d:Int) (e:Bool),G1 N F n (E6 f b g c j i a d e)=(Da N (D4 F) n f b g c j i a d e):=by
 intro n
 induction n with
 | zero=>intros;kernel_rfl
 | succ n ih =>
  intro f b g c j i a d e
  have e0:=funext fun f=>funext fun b=>funext fun g=>funext fun c=>funext fun j=>funext fun i=>funext fun a=>funext fun d=>funext fun e=>(show G1 N F n (E6 f b g c j i a d e)=_ from ih f b g c j i a d e)
  have e1:(fun m l o p q r t=>Axd N F (G1 N F n) (Va m l o p q r t))=(fun m l o p q r t=>(U7 N (Da N (D4 F) n) (D4 F) m l o p q r t)):=by funext m;funext l;funext o;funext p;funext q;funext r;funext t;exact ((As ..).trans (A7f N (G1 N F n) F m l o p q r t)).trans (by rw [e0])
  have hK:G1 N F (n+1) (E6 f b g c j i a d e)=(Hw N (D4 F) (fun f b g c j i a d e=>G1 N F n (E6 f b g c j i a d e)) (fun m l o p q r t=>Axd N F (G1 N F n) (Va m l o p q r t)) f b g c j i a d e):=by kernel_rfl
  exact hK.trans (by rw [e0,e1];rfl)
theorem Agj (N:Nat) (w:LA) (u:Nat) (ab x:Bool) (y:LA) (z:Nat) (ac aa:Bool) (F:KF R):Ac Tryz.prog muts (Yt N) U8 N 195 [(.imm w u 1 ab x),(.imm y z 1 ac aa)] [] F=(Abv N w u ab x y z ac aa (D4 F)):=by
 have e1:=funext fun f=>funext fun b=>funext fun g=>funext fun c=>funext fun j=>funext fun i=>funext fun a=>funext fun d=>funext fun e=>(show Axf N F (E6 f b g c j i a d e)=_ from (Ar ..).trans (A7g N F N f b g c j i a d e))
 have hK:Ac Tryz.prog muts (Yt N) U8 N 195 [(.imm w u 1 ab x),(.imm y z 1 ac aa)] [] F=(Arg N (D4 F) (fun f b g c j i a d e=>Axf N F (E6 f b g c j i a d e)) w u ab x y z ac aa):=by kernel_rfl
 rw [Ari]
 exact hK.trans (by rw [e1];rfl)
def Qq (N:Nat) (args:List AV) (h:Aj) (k:KF R):Option R :=
 match args,h with
 | [(.imm w u 1 ab x),(.imm y z 1 ac aa)],[]=>(Abv N w u ab x y z ac aa (D4 k))
 | _,_=>none
def Axg (N:Nat):Tw:=⟨Qq N,fun args h k=>by
 unfold Qq;split
 exact twE (Agj ..) (Agj ..)
 rfl⟩
theorem Bkd (N:Nat):A1 Tryz.prog 195 (Axg N):=fun args h res ae hh=>by
 change Qq N args h (fun v ae=>some (v,ae))=_ at hh
 unfold Qq at hh;split at hh
 exact Aa (T:=Yt N) ⟨Kh N,Bod N,trivial⟩ follows ((Agj ..).trans hh)
 cases hh
def Hb (N:Nat)  (r0:Nat→Nat→LA→LA→Option R) (d:LA) (a:Nat) (e f:Bool) (b:Int) (k0:Int→Int→LA→Option R)  (i c:Int) (g:LA):Option R :=
 (cond (decide (c≥(0:Int))) (cond (Am c a) (rdI .u32 (List.drop ((Int.toNat c)*1) d) fun j=>(cond ((IntKind.wrap .u64 b)==(0:Int)) none (cond (Am c a) (cond ((Nat.beq 1 1)&&((Nat.ble ((0+((Int.toNat c)*1))+1) (List.length g))&&(!false))) (cond ((IntKind.wrap .u64 b)==(0:Int)) none (k0 (Int.tmod (Pa .u64 (IntKind.wrap .u64 (i*2 ^ 32)) (IntKind.wrap .u64 j)) (IntKind.wrap .u64 b)) (IntKind.wrap .i64 (c - (1:Int))) (List.set g (0+((Int.toNat c)*1)) (.int .u32 (IntKind.wrap .u32 (IntKind.wrap .u64 (Int.tdiv (Pa .u64 (IntKind.wrap .u64 (i*2 ^ 32)) (IntKind.wrap .u64 j)) (IntKind.wrap .u64 b)))))))) none) none))) none) (Wu N a g (fun m=>(Bo N i (fun o p=>(r0 m o g p))))))
def Dx (N:Nat)  (r0:Nat→Nat→LA→LA→Option R) (d:LA) (a:Nat) (e f:Bool) (b:Int):Nat→Int→Int→LA→Option R
 | 0,_,_,_=>none
 | n+1,i,c,g=>(Hb N r0 d a e f b (Dx N r0 d a e f b n) i c g)
def Tf (N:Nat) (r0:Nat→Nat→LA→LA→Option R) (q0:Int→Int→LA→Option R) (d:LA) (a:Nat) (e f:Bool) (b:Int):Option R :=
 (cond ((decide ((0:Int)≤((a:Nat):Int)))&&((decide (((a:Nat):Int)≤((a:Nat):Int)))&&((decide (((a:Nat):Int)≤(140737488355328:Int)))&&(decide ((((a:Nat):Int)*((4:Nat):Int))≤(140737488355328:Int)))))) (q0 0 (IntKind.wrap .i64 (((a:Nat):Int) - (1:Int))) (List.replicate a (.int .u32 0))) none)
def Tg (N:Nat) (d:LA) (a:Nat) (e f:Bool) (b:Int) (r0:Nat→Nat→LA→LA→Option R):Option R:=(Tf N r0 (fun i c g=>(Dx N r0 d a e f b N i c g)) d a e f b)
def Gc:=(Ai (@Tg R)).1
theorem Xo:@Gc R=@Tg R:=(Ai _).2
def I3:Hints:={ H:=(hS (hR [0,1]) (hS (hR [0,1,4]) (hS (hR [0,1,4,6]) (hS (hS (hR [0,1,4,6,7]) (hN [4,6] (hN [0,1,4,6,7] (hS (hS (hR [0,1,4,6,7,15]) (hN [0,1,4,6,7] hL hL)) (hS (hN [0,1,4,6,7] (hS (hR [0,1,4,6,7]) (hS (hR [0,1,4,6,7]) (hR [0,1,4,6,7]))) hL) (hR [0,1,4,6,7]))) hL) hL)) (hS (hR [4,5]) hL))))),nils:=[(4,1),(5,1)],modes:=[(2,1),(2,1)],free:=[],cob:=[] }
def Ki (N:Nat):List (Nat×Tw):=[(171,Auu N),(149,Dw N)]
def Kj (N:Nat):Env:=mkE 42 I3 (Ki N)
def Av7 (N:Nat) (F:KF R):=Aq (Kj N) Tryz.f197 I3.modes [] F
def Abw (N:Nat) (F:KF R):=atF (Kj N) [] N Tryz.f197 I3 (Av7 N F)
def Fv  (F:KF R):Nat→Nat→LA→LA→Option R:=(fun q r t u=>F (.tup [(.own 300000 0 q),(.own 300001 0 r)]) [(300000,⟨false,false,true,false,1,t,false⟩),(300001,⟨false,false,true,false,1,u,false⟩)])
def Dy (d:LA) (a:Nat) (e f:Bool) (b i c:Int) (g:LA):St:={ s:=[(0,(.imm d a 1 e f)),(1,(.int .u32 b)),(4,(.own 300000 0 a)),(6,(.int .u64 i)),(7,(.int .i64 c))],h:=[(300000,⟨false,false,true,false,1,g,false⟩)] }
def Abx (N:Nat) (F:KF R):St→Option R:=Bx (Kj N) [] N (Abw N F [1,1,1,0,1,0] []) N
def I4 (N:Nat) (F:KF R) (n:Nat):St→Option R:=Ba (Kj N) [] N (Abw N F [1,1,1,0,1,0] []) n
theorem Ao9 (N:Nat)  (F:KF R) (d:LA) (a:Nat) (e f:Bool) (b:Int):∀ (n:Nat) (i c:Int) (g:LA),I4 N F n (Dy d a e f b i c g)=(Dx N (Fv F) d a e f b n i c g):=by
 intro n
 induction n with
 | zero=>intros;kernel_rfl
 | succ n ih =>
  intro i c g
  have e0:=funext fun i=>funext fun c=>funext fun g=>(show I4 N F n (Dy d a e f b i c g)=_ from ih i c g)
  have hK:I4 N F (n+1) (Dy d a e f b i c g)=(Hb N (Fv F) d a e f b (fun i c g=>I4 N F n (Dy d a e f b i c g)) i c g):=by kernel_rfl
  exact hK.trans (by rw [e0];rfl)
theorem O1 (N:Nat) (d:LA) (a:Nat) (e f:Bool) (b:Int) (F:KF R):Ac Tryz.prog muts (Ki N) I3 N 197 [(.imm d a 1 e f),(.int .u32 b)] [] F=(Gc N d a e f b (Fv F)):=by
 have e1:=funext fun i=>funext fun c=>funext fun g=>(show Abx N F (Dy d a e f b i c g)=_ from (Ar ..).trans (Ao9 N F d a e f b N i c g))
 have hK:Ac Tryz.prog muts (Ki N) I3 N 197 [(.imm d a 1 e f),(.int .u32 b)] [] F=(Tf N (Fv F) (fun i c g=>Abx N F (Dy d a e f b i c g)) d a e f b):=by kernel_rfl
 rw [Xo]
 exact hK.trans (by rw [e1];rfl)
def Hc (N:Nat) (args:List AV) (h:Aj) (k:KF R):Option R :=
 match args,h with
 | [(.imm d a 1 e f),(.int .u32 b)],[]=>(Gc N d a e f b (Fv k))
 | _,_=>none
def Aby (N:Nat):Tw:=⟨Hc N,fun args h k=>by
 unfold Hc;split
 exact twE (O1 ..) (O1 ..)
 rfl⟩
theorem Az8 (N:Nat):A1 Tryz.prog 197 (Aby N):=fun args h res l hh=>by
 change Hc N args h (fun v l=>some (v,l))=_ at hh
 unfold Hc at hh;split at hh
 exact Aa (T:=Ki N) ⟨A62 N,Fc N,trivial⟩ follows ((O1 ..).trans hh)
 cases hh
def Qr (N:Nat)  (r0:Nat→LA→Option R) (d:LA) (a:Nat) (e f:Bool) (b:Int) (k0:Nat→Int→Int→Int→LA→Option R)  (g:Nat) (j l c:Int) (i:LA):Option R :=
 (cond (decide (c<l)) (cond (Am c a) (rdI .u32 (List.drop ((Int.toNat c)*1) d) fun m=>(cond (decide (b<(0:Int))) none (cond (Am c g) (cond ((Nat.beq 1 1)&&((Nat.ble ((0+((Int.toNat c)*1))+1) (List.length i))&&(!false))) (k0 g (Int.fdiv (Pa .u64 j (IntKind.wrap .u64 ((IntKind.wrap .u64 m)*2 ^ (min (Int.toNat b) 64)))) (2 ^ 32)) l (IntKind.wrap .i64 (c+(1:Int))) (List.set i (0+((Int.toNat c)*1)) (.int .u32 (IntKind.wrap .u32 (Pa .u64 j (IntKind.wrap .u64 ((IntKind.wrap .u64 m)*2 ^ (min (Int.toNat b) 64)))))))) none) none))) none) (cond (Am ((a:Nat):Int) g) (cond ((Nat.beq 1 1)&&((Nat.ble ((0+(a*1))+1) (List.length i))&&(!false))) (r0 g (List.set i (0+(a*1)) (.int .u32 (IntKind.wrap .u32 j)))) none) none))
def Jy (N:Nat)  (r0:Nat→LA→Option R) (d:LA) (a:Nat) (e f:Bool) (b:Int):Nat→Nat→Int→Int→Int→LA→Option R
 | 0,_,_,_,_,_=>none
 | n+1,g,j,l,c,i=>(Qr N r0 d a e f b (Jy N r0 d a e f b n) g j l c i)
def Arj (N:Nat) (r0:Nat→LA→Option R) (q0:Nat→Int→Int→Int→LA→Option R) (d:LA) (a:Nat) (e f:Bool) (b:Int):Option R :=
 (cond ((decide ((0:Int)≤(IntKind.wrap .i64 (((a:Nat):Int)+(1:Int)))))&&((decide ((IntKind.wrap .i64 (((a:Nat):Int)+(1:Int)))≤(IntKind.wrap .i64 (((a:Nat):Int)+(1:Int)))))&&((decide ((IntKind.wrap .i64 (((a:Nat):Int)+(1:Int)))≤(140737488355328:Int)))&&(decide (((IntKind.wrap .i64 (((a:Nat):Int)+(1:Int)))*((4:Nat):Int))≤(140737488355328:Int)))))) (q0 (Int.toNat (IntKind.wrap .i64 (((a:Nat):Int)+(1:Int)))) 0 ((a:Nat):Int) 0 (List.replicate (Int.toNat (IntKind.wrap .i64 (((a:Nat):Int)+(1:Int)))) (.int .u32 0))) none)
def Ark (N:Nat) (d:LA) (a:Nat) (e f:Bool) (b:Int) (r0:Nat→LA→Option R):Option R:=(Arj N r0 (fun g j l c i=>(Jy N r0 d a e f b N g j l c i)) d a e f b)
def Th:=(Ai (@Ark R)).1
theorem Arl:@Th R=@Ark R:=(Ai _).2
def Vb:Hints:={ H:=(hS (hR [0,1]) (hS (hR [0,1,5]) (hS (hR [0,1,5,6]) (hS (hS (hR [0,1,5,6,13,14,15]) (hN [0,5,6] (hN [0,1,5,6,13,14,15] (hS (hR [0,1,5,6,13,14,15,16]) (hS (hN [0,1,5,6,13,14,15] hL hL) (hS (hN [0,1,5,6,13,14,15] (hS (hR [0,1,5,6,7,8,13,14,15]) (hS (hR [0,1,5,6,7,13,14,15]) (hS (hR [0,1,5,6,13,14,15]) (hR [0,1,5,6,13,14,15])))) hL) (hR [0,1,5,6,13,14,15])))) hL) hL)) (hS (hR [5]) (hS (hR [4]) hL)))))),nils:=[(4,1)],modes:=[(2,1)],free:=[],cob:=[] }
def Yu (N:Nat):List (Nat×Tw):=[]
def Yv (N:Nat):Env:=mkE 41 Vb (Yu N)
def Bgp (N:Nat) (F:KF R):=Aq (Yv N) Tryz.f202 Vb.modes [] F
def Axh (N:Nat) (F:KF R):=atF (Yv N) [] N Tryz.f202 Vb (Bgp N F)
def Nm  (F:KF R):Nat→LA→Option R:=(fun p q=>F (.own 300000 0 p) [(300000,⟨false,false,true,false,1,q,false⟩)])
def Jz (d:LA) (a:Nat) (e f:Bool) (b:Int) (g:Nat) (j l c:Int) (i:LA):St:={ s:=[(0,(.imm d a 1 e f)),(1,(.int .i64 b)),(5,(.own 300000 0 g)),(6,(.int .u64 j)),(13,(.imm d a 1 e f)),(14,(.int .i64 l)),(15,(.int .i64 c))],h:=[(300000,⟨false,false,true,false,1,i,false⟩)] }
def Axi (N:Nat) (F:KF R):St→Option R:=Bx (Yv N) [] N (Axh N F [1,1,1,0,1,0] []) N
def Vc (N:Nat) (F:KF R) (n:Nat):St→Option R:=Ba (Yv N) [] N (Axh N F [1,1,1,0,1,0] []) n
theorem A7h (N:Nat)  (F:KF R) (d:LA) (a:Nat) (e f:Bool) (b:Int):∀ (n g:Nat) (j l c:Int) (i:LA),Vc N F n (Jz d a e f b g j l c i)=(Jy N (Nm F) d a e f b n g j l c i):=by
 intro n
 induction n with
 | zero=>intros;kernel_rfl
 | succ n ih =>
  intro g j l c i
  have e0:=funext fun g=>funext fun j=>funext fun l=>funext fun c=>funext fun i=>(show Vc N F n (Jz d a e f b g j l c i)=_ from ih g j l c i)
  have hK:Vc N F (n+1) (Jz d a e f b g j l c i)=(Qr N (Nm F) d a e f b (fun g j l c i=>Vc N F n (Jz d a e f b g j l c i)) g j l c i):=by kernel_rfl
  exact hK.trans (by rw [e0];rfl)
theorem Agk (N:Nat) (d:LA) (a:Nat) (e f:Bool) (b:Int) (F:KF R):Ac Tryz.prog muts (Yu N) Vb N 202 [(.imm d a 1 e f),(.int .i64 b)] [] F=(Th N d a e f b (Nm F)):=by
 have e1:=funext fun g=>funext fun j=>funext fun l=>funext fun c=>funext fun i=>(show Axi N F (Jz d a e f b g j l c i)=_ from (Ar ..).trans (A7h N F d a e f b N g j l c i))
 have hK:Ac Tryz.prog muts (Yu N) Vb N 202 [(.imm d a 1 e f),(.int .i64 b)] [] F=(Arj N (Nm F) (fun g j l c i=>Axi N F (Jz d a e f b g j l c i)) d a e f b):=by kernel_rfl
 rw [Arl]
 exact hK.trans (by rw [e1];rfl)
def Qs (N:Nat) (args:List AV) (h:Aj) (k:KF R):Option R :=
 match args,h with
 | [(.imm d a 1 e f),(.int .i64 b)],[]=>(Th N d a e f b (Nm k))
 | _,_=>none
def Axj (N:Nat):Tw:=⟨Qs N,fun args h k=>by
 unfold Qs;split
 exact twE (Agk ..) (Agk ..)
 rfl⟩
theorem Bke (N:Nat):A1 Tryz.prog 202 (Axj N):=fun args h res o hh=>by
 change Qs N args h (fun v o=>some (v,o))=_ at hh
 unfold Qs at hh;split at hh
 exact Aa (T:=Yu N) trivial follows ((Agk ..).trans hh)
 cases hh
def Mb (N:Nat)  (r0:Int→LA→Option R) (b d:Nat) (c j:Int) (e:LA) (a:Nat) (f g:Bool) (k4:Int→Int→Int→LA→Option R)  (u w o:Int) (r:LA):Option R :=
 (cond (decide (o<w)) (cond (Am o a) (rdI .u32 (List.drop ((Int.toNat o)*1) e) fun aa=>(cond (Am o d) (rdI .u32 (List.drop (b+((Int.toNat o)*1)) r) fun ab=>(cond (Am o d) (cond ((Nat.beq 1 1)&&((Nat.ble ((b+((Int.toNat o)*1))+1) (List.length r))&&(!false))) (k4 (Int.fdiv (IntKind.wrap .u64 (u+(IntKind.wrap .u64 ((IntKind.wrap .u64 ab)+(IntKind.wrap .u64 aa))))) (2 ^ 32)) w (IntKind.wrap .i64 (o+(1:Int))) (List.set r (b+((Int.toNat o)*1)) (.int .u32 (IntKind.wrap .u32 (IntKind.wrap .u64 (u+(IntKind.wrap .u64 ((IntKind.wrap .u64 ab)+(IntKind.wrap .u64 aa))))))))) none) none)) none)) none) (cond (Am c d) (rdI .u32 (List.drop (b+((Int.toNat c)*1)) r) fun aj=>(cond (Am c d) (cond ((Nat.beq 1 1)&&((Nat.ble ((b+((Int.toNat c)*1))+1) (List.length r))&&(!false))) (r0 (IntKind.wrap .u32 (IntKind.wrap .u64 (j - (1:Int)))) (List.set r (b+((Int.toNat c)*1)) (.int .u32 (IntKind.wrap .u32 (aj+(IntKind.wrap .u32 u)))))) none) none)) none))
def Gd (N:Nat)  (r0:Int→LA→Option R) (b d:Nat) (c j:Int) (e:LA) (a:Nat) (f g:Bool):Nat→Int→Int→Int→LA→Option R
 | 0,_,_,_,_=>none
 | n+1,u,w,o,r=>(Mb N r0 b d c j e a f g (Gd N r0 b d c j e a f g n) u w o r)
def Hx (N:Nat)  (r0:Int→LA→Option R) (b d:Nat) (e:LA) (a:Nat) (f g:Bool) (c j:Int) (k3:Int→Int→Int→LA→Option R) (q4:Int→Int→Int→LA→Option R) (t x p:Int) (q:LA):Option R :=
 (cond (decide (p<x)) (cond (Am p a) (rdI .u32 (List.drop ((Int.toNat p)*1) e) fun y=>(cond (Am p d) (rdI .u32 (List.drop (b+((Int.toNat p)*1)) q) fun ac=>(cond (Am p d) (cond ((Nat.beq 1 1)&&((Nat.ble ((b+((Int.toNat p)*1))+1) (List.length q))&&(!false))) (k3 (IntKind.wrap .u64 ((Int.fdiv (IntKind.wrap .u64 ((IntKind.wrap .u64 (j*(IntKind.wrap .u64 y)))+t)) (2 ^ 32))+(Int.fdiv (IntKind.wrap .u64 ((IntKind.wrap .u64 ac) - (IntKind.wrap .u64 (IntKind.wrap .u32 (IntKind.wrap .u64 ((IntKind.wrap .u64 (j*(IntKind.wrap .u64 y)))+t)))))) (2 ^ 63)))) x (IntKind.wrap .i64 (p+(1:Int))) (List.set q (b+((Int.toNat p)*1)) (.int .u32 (IntKind.wrap .u32 (IntKind.wrap .u64 ((IntKind.wrap .u64 ac) - (IntKind.wrap .u64 (IntKind.wrap .u32 (IntKind.wrap .u64 ((IntKind.wrap .u64 (j*(IntKind.wrap .u64 y)))+t)))))))))) none) none)) none)) none) (cond (Am c d) (rdI .u32 (List.drop (b+((Int.toNat c)*1)) q) fun z=>(cond (Am c d) (cond ((Nat.beq 1 1)&&((Nat.ble ((b+((Int.toNat c)*1))+1) (List.length q))&&(!false))) (cond ((Int.fdiv (IntKind.wrap .u64 ((IntKind.wrap .u64 z) - t)) (2 ^ 63))==(0:Int)) (r0 (IntKind.wrap .u32 j) (List.set q (b+((Int.toNat c)*1)) (.int .u32 (IntKind.wrap .u32 (IntKind.wrap .u64 ((IntKind.wrap .u64 z) - t)))))) (q4 0 ((a:Nat):Int) 0 (List.set q (b+((Int.toNat c)*1)) (.int .u32 (IntKind.wrap .u32 (IntKind.wrap .u64 ((IntKind.wrap .u64 z) - t))))))) none) none)) none))
def Ej (N:Nat)  (r0:Int→LA→Option R) (b d:Nat) (e:LA) (a:Nat) (f g:Bool) (c j:Int):Nat→Int→Int→Int→LA→Option R
 | 0,_,_,_,_=>none
 | n+1,t,x,p,q=>(Hx N r0 b d e a f g c j (Ej N r0 b d e a f g c j n) (fun u w o r=>(Gd N r0 b d c j e a f g N u w o r)) t x p q)
def Ti (N:Nat)  (r0:Int→LA→Option R) (b d:Nat) (e:LA) (a:Nat) (f g:Bool) (c:Int) (i:LA)  (q3:Int→Int→Int→LA→Option R) (j:Int):Option R :=
 (q3 0 ((a:Nat):Int) 0 i)
def Di (N:Nat)  (r0:Int→LA→Option R) (b d:Nat) (e:LA) (a:Nat) (f g:Bool) (c:Int) (i:LA) (j:Int):Option R:=(Ti N r0 b d e a f g c i (fun t x p q=>(Ej N r0 b d e a f g c j N t x p q)) j)
def Tj (N:Nat) (k0:Int→Int→Int→Option R) (r0:Int→LA→Option R) (b d:Nat) (e:LA) (a:Nat) (f g:Bool) (c l m:Int) (i:LA)  (q2:Int→Option R) :Option R :=
 (cond (Am (IntKind.wrap .i64 (c - (1:Int))) a) (rdI .u32 (List.drop ((Int.toNat (IntKind.wrap .i64 (c - (1:Int))))*1) e) fun ad=>(cond ((Int.fdiv (IntKind.wrap .u64 (m+(IntKind.wrap .u64 ad))) (2 ^ 32)) != (0:Int)) (q2 (IntKind.wrap .u64 (l - (1:Int)))) (k0 c (IntKind.wrap .u64 (l - (1:Int))) (IntKind.wrap .u64 (m+(IntKind.wrap .u64 ad)))))) none)
def Jm (N:Nat) (k0:Int→Int→Int→Option R) (r0:Int→LA→Option R) (b d:Nat) (e:LA) (a:Nat) (f g:Bool) (c l m:Int) (i:LA) :Option R:=(Tj N k0 r0 b d e a f g c l m i (fun j=>(Di N r0 b d e a f g c i j)))
def Tk (N:Nat)  (r0:Int→LA→Option R) (b d:Nat) (e:LA) (a:Nat) (f g:Bool) (i:LA) (k0:Int→Int→Int→Option R) (q1:Option R) (q2:Int→Option R) (c l m:Int):Option R :=
 (cond (((Int.fdiv l (2 ^ 32)) != (0:Int))==false) (cond (Am (IntKind.wrap .i64 (c - (2:Int))) a) (rdI .u32 (List.drop ((Int.toNat (IntKind.wrap .i64 (c - (2:Int))))*1) e) fun ak=>(cond (Am (IntKind.wrap .i64 (c - (2:Int))) d) (rdI .u32 (List.drop (b+((Int.toNat (IntKind.wrap .i64 (c - (2:Int))))*1)) i) fun al=>(cond (cond false true (decide ((IntKind.wrap .u64 (l*(IntKind.wrap .u64 ak)))>(Pa .u64 (IntKind.wrap .u64 (m*2 ^ 32)) (IntKind.wrap .u64 al))))) q1 (q2 l))) none)) none) q1)
def Dj (N:Nat)  (r0:Int→LA→Option R) (b d:Nat) (e:LA) (a:Nat) (f g:Bool) (i:LA):Nat→Int→Int→Int→Option R
 | 0,_,_,_=>none
 | n+1,c,l,m=>(Tk N r0 b d e a f g i (Dj N r0 b d e a f g i n) (Jm N (Dj N r0 b d e a f g i n) r0 b d e a f g c l m i) (fun j=>(Di N r0 b d e a f g c i j)) c l m)
def Agl (N:Nat) (r0:Int→LA→Option R) (q0:Int→Int→Int→Option R) (b d:Nat) (e:LA) (a:Nat) (f g:Bool) (i:LA):Option R :=
 (cond (Am ((a:Nat):Int) d) (rdI .u32 (List.drop (b+(a*1)) i) fun ae=>(cond (Am (IntKind.wrap .i64 (((a:Nat):Int) - (1:Int))) d) (rdI .u32 (List.drop (b+((Int.toNat (IntKind.wrap .i64 (((a:Nat):Int) - (1:Int))))*1)) i) fun af=>(cond (Am (IntKind.wrap .i64 (((a:Nat):Int) - (1:Int))) a) (rdI .u32 (List.drop ((Int.toNat (IntKind.wrap .i64 (((a:Nat):Int) - (1:Int))))*1) e) fun ag=>(cond ((IntKind.wrap .u64 ag)==(0:Int)) none (cond (Am (IntKind.wrap .i64 (((a:Nat):Int) - (1:Int))) a) (rdI .u32 (List.drop ((Int.toNat (IntKind.wrap .i64 (((a:Nat):Int) - (1:Int))))*1) e) fun ah=>(cond ((IntKind.wrap .u64 ah)==(0:Int)) none (q0 ((a:Nat):Int) (IntKind.wrap .u64 (Int.tdiv (Pa .u64 (IntKind.wrap .u64 ((IntKind.wrap .u64 ae)*2 ^ 32)) (IntKind.wrap .u64 af)) (IntKind.wrap .u64 ag))) (Int.tmod (Pa .u64 (IntKind.wrap .u64 ((IntKind.wrap .u64 ae)*2 ^ 32)) (IntKind.wrap .u64 af)) (IntKind.wrap .u64 ah))))) none))) none)) none)) none)
def Agm (N b d:Nat) (e:LA) (a:Nat) (f g:Bool) (i:LA) (r0:Int→LA→Option R):Option R:=(Agl N r0 (fun c l m=>(Dj N r0 b d e a f g i N c l m)) b d e a f g i)
def Mc:=(Ai (@Agm R)).1
theorem Ah8:@Mc R=@Agm R:=(Ai _).2
def N0:Hints:={ H:=(hS (hR [0,1]) (hS (hR [0,1,5]) (hS (hR [0,1,5,6]) (hS (hR [0,1,5,7,8]) (hJ (hN [0,1,5,7] (hN [0,1,5,7,8] (hJ (hS (hR [0,1,5,7,8,70]) (hN [0,1,5,7,8] hL hL)) (hN [0,1,5,7,8] (hS (hR [0,1,5,7,8]) (hS (hR [0,1,5,7,8]) (hS (hR [0,1,5,7,8,83]) (hN [0,1,5,7,8] hL hL)))) hL)) hL) hL) (hS (hR [0,1,5,7,9]) (hS (hS (hR [0,1,5,7,9,84,85,86]) (hN [0,1,5,7,9] (hN [0,1,5,7,9,84,85,86] (hS (hR [0,1,5,7,9,84,85,86,87]) (hS (hN [0,1,5,7,9,84,85,86] hL hL) (hS (hN [0,1,5,7,9,84,85,86] (hS (hR [0,1,5,7,9,10,11,84,85,86]) (hS (hR [0,1,5,7,10,12,84,85,86]) (hS (hR [0,1,5,7,10,12,13,84,85,86]) (hS (hR [0,1,5,7,12,13,84,85,86]) (hR [0,1,5,7,9,84,85,86]))))) hL) (hR [0,1,5,7,9,84,85,86])))) hL) hL)) (hS (hR [0,1,5,7,14]) (hS (hR [0,1,5,7,14]) (hS (hS (hR [0,1,5,7,131]) (hN [0,1,5,7] (hS (hR [4]) hL) hL)) (hS (hR [0,1,5,7,9]) (hS (hS (hR [0,5,7,9,134,135,136]) (hN [0,5,7,9] (hN [0,5,7,9,134,135,136] (hS (hR [0,5,7,9,134,135,136,137]) (hS (hN [0,5,7,9,134,135,136] hL hL) (hS (hN [0,5,7,9,134,135,136] (hS (hR [0,5,7,9,15,16,134,135,136]) (hS (hR [0,5,7,9,15,134,135,136]) (hS (hR [0,5,7,9,134,135,136]) (hR [0,5,7,9,134,135,136])))) hL) (hR [0,5,7,9,134,135,136])))) hL) hL)) (hS (hR [7]) (hS (hR [4]) hL)))))))))))))),nils:=[],modes:=[],free:=[],cob:=[] }
def Qt (N:Nat):List (Nat×Tw):=[]
def B3 (N:Nat):Env:=mkE 170 N0 (Qt N)
def A7i (N:Nat) (F:KF R):=Aq (B3 N) Tryz.f203 N0.modes [100000] F
def Cj (N:Nat) (F:KF R):=atF (B3 N) [100000] N Tryz.f203 N0 (A7i N F)
def Be  (F:KF R):Int→LA→Option R:=(fun am an=>F (.int .u32 am) [(100000,⟨false,false,true,false,1,an,false⟩)])
def Ge (b d:Nat) (c j:Int) (e:LA) (a:Nat) (f g:Bool) (u w o:Int) (r:LA):St:={ s:=[(0,(.own 100000 b d)),(5,(.int .i64 c)),(7,(.int .u64 j)),(9,(.int .u64 u)),(134,(.imm e a 1 f g)),(135,(.int .i64 w)),(136,(.int .i64 o))],h:=[(100000,⟨false,false,true,false,1,r,false⟩)] }
def Aob (N:Nat) (F:KF R):St→Option R:=Bx (B3 N) [100000] N (Cj N F [1,1,1,1,1,1,1,1,1,1,1,0,1,0] []) N
def N1 (N:Nat) (F:KF R) (n:Nat):St→Option R:=Ba (B3 N) [100000] N (Cj N F [1,1,1,1,1,1,1,1,1,1,1,0,1,0] []) n
def Gf (b d:Nat) (e:LA) (a:Nat) (f g:Bool) (c j t x p:Int) (q:LA):St:={ s:=[(0,(.own 100000 b d)),(1,(.imm e a 1 f g)),(5,(.int .i64 c)),(7,(.int .u64 j)),(9,(.int .u64 t)),(84,(.imm e a 1 f g)),(85,(.int .i64 x)),(86,(.int .i64 p))],h:=[(100000,⟨false,false,true,false,1,q,false⟩)] }
def Aoc (N:Nat) (F:KF R):St→Option R:=Bx (B3 N) [100000] N (Cj N F [1,1,1,1,1,1,0,1,0] []) N
def N2 (N:Nat) (F:KF R) (n:Nat):St→Option R:=Ba (B3 N) [100000] N (Cj N F [1,1,1,1,1,1,0,1,0] []) n
def Gg (b d:Nat) (e:LA) (a:Nat) (f g:Bool) (c:Int) (i:LA) (j:Int):St:={ s:=[(0,(.own 100000 b d)),(1,(.imm e a 1 f g)),(5,(.int .i64 c)),(7,(.int .u64 j))],h:=[(100000,⟨false,false,true,false,1,i,false⟩)] }
def N3 (N:Nat) (F:KF R):St→Option R:=Bm (B3 N) [100000] N (Cj N F [1,1,1,1,1] [])
def Aod (N:Nat) (F:KF R):St→Option R:=Bq (B3 N) [100000] N (Cj N F [1,1,1,1,1] [])
def N4 (b d:Nat) (e:LA) (a:Nat) (f g:Bool) (c l m:Int) (i:LA):St:={ s:=[(0,(.own 100000 b d)),(1,(.imm e a 1 f g)),(5,(.int .i64 c)),(7,(.int .u64 l)),(8,(.int .u64 m))],h:=[(100000,⟨false,false,true,false,1,i,false⟩)] }
def Aoe (N:Nat) (F:KF R) (Q0:St→Option R):St→Option R:=Bm (B3 N) [100000] N (Cj N F [1,1,1,1,0,0,0,1] [Q0])
def Aof (N:Nat) (F:KF R) (Q0:St→Option R):St→Option R:=Bq (B3 N) [100000] N (Cj N F [1,1,1,1,0,0,0,1] [Q0])
def Dk (b d:Nat) (e:LA) (a:Nat) (f g:Bool) (i:LA) (c l m:Int):St:={ s:=[(0,(.own 100000 b d)),(1,(.imm e a 1 f g)),(5,(.int .i64 c)),(7,(.int .u64 l)),(8,(.int .u64 m))],h:=[(100000,⟨false,false,true,false,1,i,false⟩)] }
def Aog (N:Nat) (F:KF R):St→Option R:=Bx (B3 N) [100000] N (Cj N F [1,1,1,1,0,0] []) N
def Ek (N:Nat) (F:KF R) (n:Nat):St→Option R:=Ba (B3 N) [100000] N (Cj N F [1,1,1,1,0,0] []) n
theorem Az9 (N:Nat)  (F:KF R) (b d:Nat) (c j:Int) (e:LA) (a:Nat) (f g:Bool):∀ (n:Nat) (u w o:Int) (r:LA),N1 N F n (Ge b d c j e a f g u w o r)=(Gd N (Be F) b d c j e a f g n u w o r):=by
 intro n
 induction n with
 | zero=>intros;kernel_rfl
 | succ n ih =>
  intro u w o r
  have e0:=funext fun u=>funext fun w=>funext fun o=>funext fun r=>(show N1 N F n (Ge b d c j e a f g u w o r)=_ from ih u w o r)
  have hK:N1 N F (n+1) (Ge b d c j e a f g u w o r)=(Mb N (Be F) b d c j e a f g (fun u w o r=>N1 N F n (Ge b d c j e a f g u w o r)) u w o r):=by kernel_rfl
  exact hK.trans (by rw [e0];rfl)
theorem A0a (N:Nat)  (F:KF R) (b d:Nat) (e:LA) (a:Nat) (f g:Bool) (c j:Int):∀ (n:Nat) (t x p:Int) (q:LA),N2 N F n (Gf b d e a f g c j t x p q)=(Ej N (Be F) b d e a f g c j n t x p q):=by
 intro n
 induction n with
 | zero=>intros;kernel_rfl
 | succ n ih =>
  intro t x p q
  have e0:=funext fun t=>funext fun x=>funext fun p=>funext fun q=>(show N2 N F n (Gf b d e a f g c j t x p q)=_ from ih t x p q)
  have e1:=funext fun u=>funext fun w=>funext fun o=>funext fun r=>(show Aob N F (Ge b d c j e a f g u w o r)=_ from (Ar ..).trans (Az9 N F b d c j e a f g N u w o r))
  have hK:N2 N F (n+1) (Gf b d e a f g c j t x p q)=(Hx N (Be F) b d e a f g c j (fun t x p q=>N2 N F n (Gf b d e a f g c j t x p q)) (fun u w o r=>Aob N F (Ge b d c j e a f g u w o r)) t x p q):=by kernel_rfl
  exact hK.trans (by rw [e0,e1];rfl)
theorem Abz (N:Nat)  (F:KF R) (b d:Nat) (e:LA) (a:Nat) (f g:Bool) (c:Int) (i:LA):∀ (j:Int),Aod N F (Gg b d e a f g c i j)=(Di N (Be F) b d e a f g c i j):=by
 intro j
 have e1:=funext fun t=>funext fun x=>funext fun p=>funext fun q=>(show Aoc N F (Gf b d e a f g c j t x p q)=_ from (Ar ..).trans (A0a N F b d e a f g c j N t x p q))
 have hK:Aod N F (Gg b d e a f g c i j)=(Ti N (Be F) b d e a f g c i (fun t x p q=>Aoc N F (Gf b d e a f g c j t x p q)) j):=by kernel_rfl
 exact hK.trans (by rw [e1];rfl)
theorem A0b (N:Nat) (Q0:St→Option R) (F:KF R) (b d:Nat) (e:LA) (a:Nat) (f g:Bool) (c l m:Int) (i:LA):Aof N F Q0 (N4 b d e a f g c l m i)=(Jm N (fun c l m=>Q0 (Dk b d e a f g i c l m)) (Be F) b d e a f g c l m i):=by
 have e1:=funext fun j=>(show N3 N F (Gg b d e a f g c i j)=_ from (As ..).trans (Abz N F b d e a f g c i j))
 have hK:Aof N F Q0 (N4 b d e a f g c l m i)=(Tj N (fun c l m=>Q0 (Dk b d e a f g i c l m)) (Be F) b d e a f g c l m i (fun j=>N3 N F (Gg b d e a f g c i j))):=by kernel_rfl
 exact hK.trans (by rw [e1];rfl)
theorem A0c (N:Nat)  (F:KF R) (b d:Nat) (e:LA) (a:Nat) (f g:Bool) (i:LA):∀ (n:Nat) (c l m:Int),Ek N F n (Dk b d e a f g i c l m)=(Dj N (Be F) b d e a f g i n c l m):=by
 intro n
 induction n with
 | zero=>intros;kernel_rfl
 | succ n ih =>
  intro c l m
  have e0:=funext fun c=>funext fun l=>funext fun m=>(show Ek N F n (Dk b d e a f g i c l m)=_ from ih c l m)
  have e1:(Aoe N F (Ek N F n) (N4 b d e a f g c l m i))=(Jm N (Dj N (Be F) b d e a f g i n) (Be F) b d e a f g c l m i):=by exact ((As ..).trans (A0b N (Ek N F n) F b d e a f g c l m i)).trans (by rw [e0])
  have e2:=funext fun j=>(show N3 N F (Gg b d e a f g c i j)=_ from (As ..).trans (Abz N F b d e a f g c i j))
  have hK:Ek N F (n+1) (Dk b d e a f g i c l m)=(Tk N (Be F) b d e a f g i (fun c l m=>Ek N F n (Dk b d e a f g i c l m)) (Aoe N F (Ek N F n) (N4 b d e a f g c l m i)) (fun j=>N3 N F (Gg b d e a f g c i j)) c l m):=by kernel_rfl
  exact hK.trans (by rw [e0,e1,e2];rfl)
theorem W0 (N b d:Nat) (e:LA) (a:Nat) (f g:Bool) (i:LA) (F:KF R):Ac Tryz.prog muts (Qt N) N0 N 203 [(.own 100000 b d),(.imm e a 1 f g)] [(100000,⟨false,false,true,false,1,i,false⟩)] F=(Mc N b d e a f g i (Be F)):=by
 have e1:=funext fun c=>funext fun l=>funext fun m=>(show Aog N F (Dk b d e a f g i c l m)=_ from (Ar ..).trans (A0c N F b d e a f g i N c l m))
 have hK:Ac Tryz.prog muts (Qt N) N0 N 203 [(.own 100000 b d),(.imm e a 1 f g)] [(100000,⟨false,false,true,false,1,i,false⟩)] F=(Agl N (Be F) (fun c l m=>Aog N F (Dk b d e a f g i c l m)) b d e a f g i):=by kernel_rfl
 rw [Ah8]
 exact hK.trans (by rw [e1];rfl)
def Md (N:Nat) (args:List AV) (h:Aj) (k:KF R):Option R :=
 match args,h with
 | [(.own 100000 b d),(.imm e a 1 f g)],[(100000,⟨false,false,true,false,1,i,false⟩)]=>(Mc N b d e a f g i (Be k))
 | _,_=>none
def Aoh (N:Nat):Tw:=⟨Md N,fun args h k=>by
 unfold Md;split
 exact twE (W0 ..) (W0 ..)
 rfl⟩
theorem Bcw (N:Nat):A1 Tryz.prog 203 (Aoh N):=fun args h res ai hh=>by
 change Md N args h (fun v ai=>some (v,ai))=_ at hh
 unfold Md at hh;split at hh
 exact Aa (T:=Qt N) trivial follows ((W0 ..).trans hh)
 cases hh
end
end Gx

namespace Gx
open Go Go.Proofs
set_option maxRecDepth 100000
noncomputable section
variable {R:Type}
def Gp (N:Nat)  (r0:Nat→Bool→LA→Option R) (b:Bool) (k0:LA→Nat→Int→Nat→LA→Nat→Int→Int→LA→Option R)  (i:LA) (g:Nat) (c:Int) (f:Nat) (j:LA) (l:Nat) (m a:Int) (d:LA):Option R :=
 (cond (decide (a<m)) (cond (Am a l) (rdI .u32 (List.drop ((Int.toNat a)*1) j) fun t=>(cond (decide ((IntKind.wrap .i64 (a+(1:Int)))<((g:Nat):Int))) (cond (Am (IntKind.wrap .i64 (a+(1:Int))) g) (rdI .u32 (List.drop ((Int.toNat (IntKind.wrap .i64 (a+(1:Int))))*1) i) fun x=>(cond (decide (c<(0:Int))) none (cond (Am a f) (cond ((Nat.beq 1 1)&&((Nat.ble ((0+((Int.toNat a)*1))+1) (List.length d))&&(!false))) (k0 i g c f j l m (IntKind.wrap .i64 (a+(1:Int))) (List.set d (0+((Int.toNat a)*1)) (.int .u32 (IntKind.wrap .u32 (Int.fdiv (Pa .u64 (IntKind.wrap .u64 t) (IntKind.wrap .u64 ((IntKind.wrap .u64 x)*2 ^ 32))) (2 ^ (min (Int.toNat c) 64))))))) none) none))) none) (cond (decide (c<(0:Int))) none (cond (Am a f) (cond ((Nat.beq 1 1)&&((Nat.ble ((0+((Int.toNat a)*1))+1) (List.length d))&&(!false))) (k0 i g c f j l m (IntKind.wrap .i64 (a+(1:Int))) (List.set d (0+((Int.toNat a)*1)) (.int .u32 (IntKind.wrap .u32 (Int.fdiv (IntKind.wrap .u64 t) (2 ^ (min (Int.toNat c) 64))))))) none) none)))) none) (Wu N f d (fun y=>(r0 y true d))))
def C3 (N:Nat)  (r0:Nat→Bool→LA→Option R) (b:Bool):Nat→LA→Nat→Int→Nat→LA→Nat→Int→Int→LA→Option R
 | 0,_,_,_,_,_,_,_,_,_=>none
 | n+1,i,g,c,f,j,l,m,a,d=>(Gp N r0 b (C3 N r0 b n) i g c f j l m a d)
def Qu (N:Nat) (r0:Nat→Bool→LA→Option R) (q0:LA→Nat→Int→Nat→LA→Nat→Int→Int→LA→Option R) (p:LA) (q:Nat) (r b:Bool) (e:Int):Option R :=
 (cond (decide (e<(0:Int))) (r0 0 false []) (By N p q r b (fun u o=>(cond (decide ((IntKind.wrap .i64 (Int.tdiv e (32:Int)))≥((o:Nat):Int))) (r0 0 true []) (cond ((decide ((0:Int)≤(IntKind.wrap .i64 (Int.tdiv e (32:Int)))))&&((decide ((IntKind.wrap .i64 (Int.tdiv e (32:Int)))≤((o:Nat):Int)))&&((decide (((o:Nat):Int)≤((o:Nat):Int)))&&(decide (((o:Nat):Int)≤((o:Nat):Int)))))) (cond ((decide ((0:Int)≤(((o - (Int.toNat (IntKind.wrap .i64 (Int.tdiv e (32:Int))))):Nat):Int)))&&((decide ((((o - (Int.toNat (IntKind.wrap .i64 (Int.tdiv e (32:Int))))):Nat):Int)≤(((o - (Int.toNat (IntKind.wrap .i64 (Int.tdiv e (32:Int))))):Nat):Int)))&&((decide ((((o - (Int.toNat (IntKind.wrap .i64 (Int.tdiv e (32:Int))))):Nat):Int)≤(140737488355328:Int)))&&(decide (((((o - (Int.toNat (IntKind.wrap .i64 (Int.tdiv e (32:Int))))):Nat):Int)*((4:Nat):Int))≤(140737488355328:Int)))))) (q0 (List.take ((o - (Int.toNat (IntKind.wrap .i64 (Int.tdiv e (32:Int)))))*1) (List.drop ((Int.toNat (IntKind.wrap .i64 (Int.tdiv e (32:Int))))*1) u)) (o - (Int.toNat (IntKind.wrap .i64 (Int.tdiv e (32:Int))))) (Int.tmod e (32:Int)) (o - (Int.toNat (IntKind.wrap .i64 (Int.tdiv e (32:Int))))) (List.take ((o - (Int.toNat (IntKind.wrap .i64 (Int.tdiv e (32:Int)))))*1) (List.drop ((Int.toNat (IntKind.wrap .i64 (Int.tdiv e (32:Int))))*1) u)) (o - (Int.toNat (IntKind.wrap .i64 (Int.tdiv e (32:Int))))) (((o - (Int.toNat (IntKind.wrap .i64 (Int.tdiv e (32:Int))))):Nat):Int) 0 (List.replicate (o - (Int.toNat (IntKind.wrap .i64 (Int.tdiv e (32:Int))))) (.int .u32 0))) none) none)))))
def Qv (N:Nat) (p:LA) (q:Nat) (r b:Bool) (e:Int) (r0:Nat→Bool→LA→Option R):Option R:=(Qu N r0 (fun i g c f j l m a d=>(C3 N r0 b N i g c f j l m a d)) p q r b e)
def Nn:=(Ai (@Qv R)).1
theorem Qw:@Nn R=@Qv R:=(Ai _).2
def Me:Hints:={ H:=(hS (hR [0,1]) (hS (hS (hR [0,1,12]) (hN [0,1] (hS (hR [4,5]) hL) hL)) (hS (hR [0,1]) (hS (hS (hR [0,1,19]) (hN [0,1] (hS (hR [4,5]) hL) hL)) (hS (hR [0,1]) (hS (hR [0,6]) (hS (hR [0,6,7]) (hS (hS (hR [0,6,7,29,30,31]) (hN [7] (hN [0,6,7,29,30,31] (hS (hR [0,6,7,29,30,31,32]) (hS (hN [0,6,7,29,30,31] hL hL) (hS (hN [0,6,7,29,30,31] (hS (hR [0,6,7,8,9,29,30,31]) (hS (hR [0,6,7,8,10,29,30,31]) (hS (hS (hR [0,6,7,8,10,29,30,31,42]) (hN [0,6,7,8,10,29,30,31] (hR [0,6,7,8,10,29,30,31]) hL)) (hR [0,6,7,29,30,31])))) hL) (hR [0,6,7,29,30,31])))) hL) hL)) (hS (hR [4,5]) hL))))))))),nils:=[(4,1)],modes:=[(2,1),(0,0)],free:=[],cob:=[] }
def N5 (N:Nat):List (Nat×Tw):=[(171,C2 N)]
def N6 (N:Nat):Env:=mkE 62 Me (N5 N)
def A3p (N:Nat) (F:KF R):=Aq (N6 N) Tryz.f204 Me.modes [] F
def Ah9 (N:Nat) (F:KF R):=atF (N6 N) [] N Tryz.f204 Me (A3p N F)
def Hy  (F:KF R):Nat→Bool→LA→Option R:=(fun z aa ab=>F (.tup [(.own 300000 0 z),(.bool aa)]) [(300000,⟨false,false,true,false,1,ab,false⟩)])
def Fg (b:Bool) (i:LA) (g:Nat) (c:Int) (f:Nat) (j:LA) (l:Nat) (m a:Int) (d:LA):St:={ s:=[(0,(.imm i g 1 false b)),(6,(.int .i64 c)),(7,(.own 300000 0 f)),(29,(.imm j l 1 false b)),(30,(.int .i64 m)),(31,(.int .i64 a))],h:=[(300000,⟨false,false,true,false,1,d,false⟩)] }
def Aia (N:Nat) (F:KF R):St→Option R:=Bx (N6 N) [] N (Ah9 N F [1,1,1,1,1,1,1,0,1,0] []) N
def Mf (N:Nat) (F:KF R) (n:Nat):St→Option R:=Ba (N6 N) [] N (Ah9 N F [1,1,1,1,1,1,1,0,1,0] []) n
theorem Av8 (N:Nat)  (F:KF R) (b:Bool):∀ (n:Nat) (i:LA) (g:Nat) (c:Int) (f:Nat) (j:LA) (l:Nat) (m a:Int) (d:LA),Mf N F n (Fg b i g c f j l m a d)=(C3 N (Hy F) b n i g c f j l m a d):=by
 intro n
 induction n with
 | zero=>intros;kernel_rfl
 | succ n ih =>
  intro i g c f j l m a d
  have e0:=funext fun i=>funext fun g=>funext fun c=>funext fun f=>funext fun j=>funext fun l=>funext fun m=>funext fun a=>funext fun d=>(show Mf N F n (Fg b i g c f j l m a d)=_ from ih i g c f j l m a d)
  have hK:Mf N F (n+1) (Fg b i g c f j l m a d)=(Gp N (Hy F) b (fun i g c f j l m a d=>Mf N F n (Fg b i g c f j l m a d)) i g c f j l m a d):=by kernel_rfl
  exact hK.trans (by rw [e0];rfl)
theorem Tl (N:Nat) (p:LA) (q:Nat) (r b:Bool) (e:Int) (F:KF R):Ac Tryz.prog muts (N5 N) Me N 204 [(.imm p q 1 r b),(.int .i64 e)] [] F=(Nn N p q r b e (Hy F)):=by
 have e1:=funext fun i=>funext fun g=>funext fun c=>funext fun f=>funext fun j=>funext fun l=>funext fun m=>funext fun a=>funext fun d=>(show Aia N F (Fg b i g c f j l m a d)=_ from (Ar ..).trans (Av8 N F b N i g c f j l m a d))
 have hK:Ac Tryz.prog muts (N5 N) Me N 204 [(.imm p q 1 r b),(.int .i64 e)] [] F=(Qu N (Hy F) (fun i g c f j l m a d=>Aia N F (Fg b i g c f j l m a d)) p q r b e):=by kernel_rfl
 rw [Qw]
 exact hK.trans (by rw [e1];rfl)
def Kk (N:Nat) (args:List AV) (h:Aj) (k:KF R):Option R :=
 match args,h with
 | [(.imm p q 1 r b),(.int .i64 e)],[]=>(Nn N p q r b e (Hy k))
 | _,_=>none
def Aib (N:Nat):Tw:=⟨Kk N,fun args h k=>by
 unfold Kk;split
 exact twE (Tl ..) (Tl ..)
 rfl⟩
theorem A7j (N:Nat):A1 Tryz.prog 204 (Aib N):=fun args h res w hh=>by
 change Kk N args h (fun v w=>some (v,w))=_ at hh
 unfold Kk at hh;split at hh
 exact Aa (T:=N5 N) ⟨Ef N,trivial⟩ follows ((Tl ..).trans hh)
 cases hh
def Kl (N:Nat)  (r0:Nat→Nat→LA→LA→Option R) (i:Int) (a b:Nat) (m:LA) (k0:Nat→Int→Int→Int→Int→LA→LA→Option R)  (g:Nat) (e d j c:Int) (f l:LA):Option R :=
 (cond (decide (c<j)) (cond ((decide ((0:Int)≤(IntKind.wrap .i64 ((IntKind.wrap .i64 (d - (1:Int))) - c))))&&((decide ((IntKind.wrap .i64 ((IntKind.wrap .i64 (d - (1:Int))) - c))≤(IntKind.wrap .i64 ((IntKind.wrap .i64 ((IntKind.wrap .i64 ((IntKind.wrap .i64 (d - (1:Int))) - c))+e))+(1:Int)))))&&((decide ((IntKind.wrap .i64 ((IntKind.wrap .i64 ((IntKind.wrap .i64 ((IntKind.wrap .i64 (d - (1:Int))) - c))+e))+(1:Int)))≤((b:Nat):Int)))&&(decide (((b:Nat):Int)≤((b:Nat):Int)))))) (Mc N (0+((Int.toNat (IntKind.wrap .i64 ((IntKind.wrap .i64 (d - (1:Int))) - c)))*1)) ((Int.toNat (IntKind.wrap .i64 ((IntKind.wrap .i64 ((IntKind.wrap .i64 ((IntKind.wrap .i64 (d - (1:Int))) - c))+e))+(1:Int)))) - (Int.toNat (IntKind.wrap .i64 ((IntKind.wrap .i64 (d - (1:Int))) - c)))) (List.take (a*1) m) a false true l (fun z aa=>(cond (Am (IntKind.wrap .i64 ((IntKind.wrap .i64 (d - (1:Int))) - c)) g) (cond ((Nat.beq 1 1)&&((Nat.ble ((0+((Int.toNat (IntKind.wrap .i64 ((IntKind.wrap .i64 (d - (1:Int))) - c)))*1))+1) (List.length f))&&(!false))) (k0 g e d j (IntKind.wrap .i64 (c+(1:Int))) (List.set f (0+((Int.toNat (IntKind.wrap .i64 ((IntKind.wrap .i64 (d - (1:Int))) - c)))*1)) (.int .u32 z)) aa) none) none))) none) (cond ((decide ((0:Int)≤(0:Int)))&&((decide ((0:Int)≤e))&&((decide (e≤((b:Nat):Int)))&&(decide (((b:Nat):Int)≤((b:Nat):Int)))))) (Nn N (List.take ((Int.toNat e)*1) l) (Int.toNat e) false true i (fun ab ak ac=>(Wu N g f (fun ad=>(r0 ad ab f ac))))) none))
def Dz (N:Nat)  (r0:Nat→Nat→LA→LA→Option R) (i:Int) (a b:Nat) (m:LA):Nat→Nat→Int→Int→Int→Int→LA→LA→Option R
 | 0,_,_,_,_,_,_,_=>none
 | n+1,g,e,d,j,c,f,l=>(Kl N r0 i a b m (Dz N r0 i a b m n) g e d j c f l)
def Ab0 (N:Nat) (r0:Nat→Nat→LA→LA→Option R) (q0:Int→Nat→LA→Nat→Int→Int→Int→Int→LA→LA→Option R) (p:LA) (q:Nat) (u r:Bool) (o:LA) (a:Nat) (w t:Bool):Option R :=
 (cond (Am (IntKind.wrap .i64 (((a:Nat):Int) - (1:Int))) a) (rdI .u32 (List.drop ((Int.toNat (IntKind.wrap .i64 (((a:Nat):Int) - (1:Int))))*1) o) fun ae=>(Bu N ae (fun i=>(Th N o a false t i (fun x m=>(cond ((decide ((0:Int)≤(0:Int)))&&((decide ((0:Int)≤((a:Nat):Int)))&&((decide (((a:Nat):Int)≤((x:Nat):Int)))&&(decide (((x:Nat):Int)≤((x:Nat):Int)))))) (Th N p q false r i (fun b af=>(cond ((decide ((0:Int)≤(IntKind.wrap .i64 (((b:Nat):Int) - ((a:Nat):Int)))))&&((decide ((IntKind.wrap .i64 (((b:Nat):Int) - ((a:Nat):Int)))≤(IntKind.wrap .i64 (((b:Nat):Int) - ((a:Nat):Int)))))&&((decide ((IntKind.wrap .i64 (((b:Nat):Int) - ((a:Nat):Int)))≤(140737488355328:Int)))&&(decide (((IntKind.wrap .i64 (((b:Nat):Int) - ((a:Nat):Int)))*((4:Nat):Int))≤(140737488355328:Int)))))) (q0 i b m (Int.toNat (IntKind.wrap .i64 (((b:Nat):Int) - ((a:Nat):Int)))) ((a:Nat):Int) (IntKind.wrap .i64 (((b:Nat):Int) - ((a:Nat):Int))) (IntKind.wrap .i64 (((b:Nat):Int) - ((a:Nat):Int))) 0 (List.replicate (Int.toNat (IntKind.wrap .i64 (((b:Nat):Int) - ((a:Nat):Int)))) (.int .u32 0)) af) none))) none)))))) none)
def Ab1 (N:Nat) (p:LA) (q:Nat) (u r:Bool) (o:LA) (a:Nat) (w t:Bool) (r0:Nat→Nat→LA→LA→Option R):Option R:=(Ab0 N r0 (fun i b m g e d j c f l=>(Dz N r0 i a b m N g e d j c f l)) p q u r o a w t)
def J3:=(Ai (@Ab1 R)).1
theorem Ad9:@J3 R=@Ab1 R:=(Ai _).2
def Mg:Hints:={ H:=(hS (hR [0,1]) (hS (hR [0,1,6]) (hS (hR [0,1,6,7]) (hS (hR [0,6,7,8]) (hS (hR [6,7,8,9]) (hS (hR [6,7,8,9,10]) (hS (hR [4,6,7,8,9,10]) (hS (hS (hR [4,6,7,8,9,10,35,36]) (hN [4,6,7,9] (hN [4,6,7,8,9,10,35,36] (hS (hR [4,6,7,8,9,10,35,36,37]) (hS (hN [4,6,7,8,9,10,35,36] hL hL) (hS (hN [4,6,7,8,9,10,35,36] (hS (hR [4,6,7,8,9,10,11,35,36]) (hS (hR [4,6,7,8,9,10,12,35,36]) (hR [4,6,7,8,9,10,35,36]))) hL) (hR [4,6,7,8,9,10,35,36])))) hL) hL)) (hS (hR [4,5]) (hS (hR [4,5]) hL)))))))))),nils:=[(4,1),(5,1)],modes:=[(2,1),(2,1)],free:=[],cob:=[] }
def N7 (N:Nat):List (Nat×Tw):=[(200,Ey N),(202,Axj N),(203,Aoh N),(204,Aib N),(171,Auu N)]
def N8 (N:Nat):Env:=mkE 67 Mg (N7 N)
def A3q (N:Nat) (F:KF R):=Aq (N8 N) Tryz.f198 Mg.modes [] F
def Aic (N:Nat) (F:KF R):=atF (N8 N) [] N Tryz.f198 Mg (A3q N F)
def Hz  (F:KF R):Nat→Nat→LA→LA→Option R:=(fun ag ah ai aj=>F (.tup [(.own 300000 0 ag),(.own 300001 0 ah)]) [(300000,⟨false,false,true,false,1,ai,false⟩),(300001,⟨false,false,true,false,1,aj,false⟩)])
def Fh (i:Int) (a b:Nat) (m:LA) (g:Nat) (e d j c:Int) (f l:LA):St:={ s:=[(4,(.own 300000 0 g)),(6,(.int .i64 e)),(7,(.int .i64 i)),(8,(.own 300001 0 a)),(9,(.own 300002 0 b)),(10,(.int .i64 d)),(35,(.int .i64 j)),(36,(.int .i64 c))],h:=[(300000,⟨false,false,true,false,1,f,false⟩),(300001,⟨false,false,true,false,1,m,false⟩),(300002,⟨false,false,true,false,1,l,false⟩)] }
def Aid (N:Nat) (F:KF R):St→Option R:=Bx (N8 N) [] N (Aic N F [1,1,1,1,1,1,1,0,1,0] []) N
def Mh (N:Nat) (F:KF R) (n:Nat):St→Option R:=Ba (N8 N) [] N (Aic N F [1,1,1,1,1,1,1,0,1,0] []) n
theorem Av9 (N:Nat)  (F:KF R) (i:Int) (a b:Nat) (m:LA):∀ (n g:Nat) (e d j c:Int) (f l:LA),Mh N F n (Fh i a b m g e d j c f l)=(Dz N (Hz F) i a b m n g e d j c f l):=by
 intro n
 induction n with
 | zero=>intros;kernel_rfl
 | succ n ih =>
  intro g e d j c f l
  have e0:=funext fun g=>funext fun e=>funext fun d=>funext fun j=>funext fun c=>funext fun f=>funext fun l=>(show Mh N F n (Fh i a b m g e d j c f l)=_ from ih g e d j c f l)
  have hK:Mh N F (n+1) (Fh i a b m g e d j c f l)=(Kl N (Hz F) i a b m (fun g e d j c f l=>Mh N F n (Fh i a b m g e d j c f l)) g e d j c f l):=by kernel_rfl
  exact hK.trans (by rw [e0];rfl)
theorem Tm (N:Nat) (p:LA) (q:Nat) (u r:Bool) (o:LA) (a:Nat) (w t:Bool) (F:KF R):Ac Tryz.prog muts (N7 N) Mg N 198 [(.imm p q 1 u r),(.imm o a 1 w t)] [] F=(J3 N p q u r o a w t (Hz F)):=by
 have e1:=funext fun i=>funext fun b=>funext fun m=>funext fun g=>funext fun e=>funext fun d=>funext fun j=>funext fun c=>funext fun f=>funext fun l=>(show Aid N F (Fh i a b m g e d j c f l)=_ from (Ar ..).trans (Av9 N F i a b m N g e d j c f l))
 have hK:Ac Tryz.prog muts (N7 N) Mg N 198 [(.imm p q 1 u r),(.imm o a 1 w t)] [] F=(Ab0 N (Hz F) (fun i b m g e d j c f l=>Aid N F (Fh i a b m g e d j c f l)) p q u r o a w t):=by kernel_rfl
 rw [Ad9]
 exact hK.trans (by rw [e1];rfl)
def Km (N:Nat) (args:List AV) (h:Aj) (k:KF R):Option R :=
 match args,h with
 | [(.imm p q 1 u r),(.imm o a 1 w t)],[]=>(J3 N p q u r o a w t (Hz k))
 | _,_=>none
def Aie (N:Nat):Tw:=⟨Km N,fun args h k=>by
 unfold Km;split
 exact twE (Tm ..) (Tm ..)
 rfl⟩
theorem A7k (N:Nat):A1 Tryz.prog 198 (Aie N):=fun args h res y hh=>by
 change Km N args h (fun v y=>some (v,y))=_ at hh
 unfold Km at hh;split at hh
 exact Aa (T:=N7 N) ⟨Kh N,Bke N,Bcw N,A7j N,A62 N,trivial⟩ follows ((Tm ..).trans hh)
 cases hh
def A0d (N:Nat) (r0:Nat→Nat→Bool→LA→LA→Option R)  (c:LA) (d:Nat) (e a:Bool) (f:LA) (g:Nat) (i b:Bool):Option R :=
 (By N c d e a (fun m j=>(By N f g i b (fun n l=>(cond (((l:Nat):Int)==(0:Int)) (r0 0 0 false [] []) (C9 N m j false a n l false b (fun r=>(cond (decide (r<(0:Int))) (Ys N m j false a (fun s t=>(r0 0 s true [] t))) (cond (decide (((j:Nat):Int)≤(2:Int))) (Qh N m j false a (fun p=>(Qh N n l false b (fun o=>(cond (o==(0:Int)) none (Bo N (IntKind.wrap .u64 (Int.tdiv p o)) (fun u w=>(cond (o==(0:Int)) none (Bo N (Int.tmod p o) (fun x y=>(r0 u x true w y))))))))))) (cond (((l:Nat):Int)==(1:Int)) (cond (Am (0:Int) l) (rdI .u32 n fun z=>(Gc N m j false a z (fun aa ab ac ad=>(r0 aa ab true ac ad)))) none) (J3 N m j false a n l false b (fun ae af ag ah=>(r0 ae af true ag ah)))))))))))))
def A0e (N:Nat) (c:LA) (d:Nat) (e a:Bool) (f:LA) (g:Nat) (i b:Bool) (r0:Nat→Nat→Bool→LA→LA→Option R):Option R:=(A0d N r0 c d e a f g i b)
def D0:=(Ai (@A0e R)).1
theorem Axk:@D0 R=@A0e R:=(Ai _).2
def A3r:Hints:={ H:=(hS (hR [0,1]) (hS (hR [0,1]) (hS (hN [0,1] (hS (hR [0,1,13]) (hN [0,1] (hS (hR [4,5,6]) hL) (hS (hR [0,1,17]) (hN [0,1] (hS (hR [4,5,6]) hL) (hS (hR [0,1,24]) (hN [0,1] (hS (hR [7,8]) (hS (hR [4,5,6]) hL)) (hS (hR [0,1,40]) (hN [0,1] (hS (hR [4,5]) (hS (hR [4,5,6]) hL)) hL)))))))) hL) (hS (hR [4,5]) (hS (hR [4,5,6]) hL))))),nils:=[(4,1),(5,1)],modes:=[(2,1),(2,1),(0,0)],free:=[],cob:=[] }
def Arm (N:Nat):List (Nat×Tw):=[(171,L5 N),(132,Ff N),(173,Abo N),(181,Akn N),(149,Dw N),(197,Aby N),(198,Aie N)]
def Ak4  (F:KF R):Nat→Nat→Bool→LA→LA→Option R:=(fun ai aj ak al am=>F (.tup [(.own 300000 0 ai),(.own 300001 0 aj),(.bool ak)]) [(300000,⟨false,false,true,false,1,al,false⟩),(300001,⟨false,false,true,false,1,am,false⟩)])
theorem Ak5 (N:Nat) (c:LA) (d:Nat) (e a:Bool) (f:LA) (g:Nat) (i b:Bool) (F:KF R):Ac Tryz.prog muts (Arm N) A3r N 175 [(.imm c d 1 e a),(.imm f g 1 i b)] [] F=(D0 N c d e a f g i b (Ak4 F)):=by
 have hK:Ac Tryz.prog muts (Arm N) A3r N 175 [(.imm c d 1 e a),(.imm f g 1 i b)] [] F=(A0d N (Ak4 F) c d e a f g i b):=by kernel_rfl
 rw [Axk]
 exact hK
def Vd (N:Nat) (args:List AV) (h:Aj) (k:KF R):Option R :=
 match args,h with
 | [(.imm c d 1 e a),(.imm f g 1 i b)],[]=>(D0 N c d e a f g i b (Ak4 k))
 | _,_=>none
def Ak6 (N:Nat):Tw:=⟨Vd N,fun args h k=>by
 unfold Vd;split
 exact twE (Ak5 ..) (Ak5 ..)
 rfl⟩
theorem A3s (N:Nat):A1 Tryz.prog 175 (Ak6 N):=fun args h res q hh=>by
 change Vd N args h (fun v q=>some (v,q))=_ at hh
 unfold Vd at hh;split at hh
 exact Aa (T:=Arm N) ⟨Qd N,Hu N,Ak1 N,Azw N,Fc N,Az8 N,A7k N,trivial⟩ follows ((Ak5 ..).trans hh)
 cases hh
def Ab2 (N:Nat)  (r0:Nat→Bool→LA→Option R) (j:LA) (i:Nat) (c:Bool) (b:Nat) (l:LA) (d:Bool) (k0:Int→Int→Int→LA→Option R)  (f g a:Int) (e:LA):Option R :=
 (cond (decide (a<g)) (cond (Am a b) (rdI .u32 (List.drop ((Int.toNat a)*1) l) fun u=>(cond (decide (a<((i:Nat):Int))) (cond (Am a i) (rdI .u32 (List.drop ((Int.toNat a)*1) j) fun w=>(cond (Am a b) (cond ((Nat.beq 1 1)&&((Nat.ble ((0+((Int.toNat a)*1))+1) (List.length e))&&(!false))) (k0 (Int.fdiv (IntKind.wrap .u64 ((IntKind.wrap .u64 ((IntKind.wrap .u64 u) - f)) - (IntKind.wrap .u64 w))) (2 ^ 63)) g (IntKind.wrap .i64 (a+(1:Int))) (List.set e (0+((Int.toNat a)*1)) (.int .u32 (IntKind.wrap .u32 (IntKind.wrap .u64 ((IntKind.wrap .u64 ((IntKind.wrap .u64 u) - f)) - (IntKind.wrap .u64 w))))))) none) none)) none) (cond (Am a b) (cond ((Nat.beq 1 1)&&((Nat.ble ((0+((Int.toNat a)*1))+1) (List.length e))&&(!false))) (k0 (Int.fdiv (IntKind.wrap .u64 ((IntKind.wrap .u64 u) - f)) (2 ^ 63)) g (IntKind.wrap .i64 (a+(1:Int))) (List.set e (0+((Int.toNat a)*1)) (.int .u32 (IntKind.wrap .u32 (IntKind.wrap .u64 ((IntKind.wrap .u64 u) - f)))))) none) none))) none) (Wu N b e (fun y=>(r0 y true e))))
def Tn (N:Nat)  (r0:Nat→Bool→LA→Option R) (j:LA) (i:Nat) (c:Bool) (b:Nat) (l:LA) (d:Bool):Nat→Int→Int→Int→LA→Option R
 | 0,_,_,_,_=>none
 | n+1,f,g,a,e=>(Ab2 N r0 j i c b l d (Tn N r0 j i c b l d n) f g a e)
def Bdj (N:Nat) (r0:Nat→Bool→LA→Option R) (q0:LA→Nat→Nat→LA→Int→Int→Int→LA→Option R) (m:LA) (o:Nat) (p d:Bool) (q:LA) (r:Nat) (t c:Bool):Option R :=
 (By N m o p d (fun l b=>(By N q r t c (fun j i=>(C9 N l b false d j i false c (fun z=>(cond (decide (z<(0:Int))) (r0 0 false []) (cond ((decide ((0:Int)≤((b:Nat):Int)))&&((decide (((b:Nat):Int)≤((b:Nat):Int)))&&((decide (((b:Nat):Int)≤(140737488355328:Int)))&&(decide ((((b:Nat):Int)*((4:Nat):Int))≤(140737488355328:Int)))))) (q0 j i b l 0 ((b:Nat):Int) 0 (List.replicate b (.int .u32 0))) none))))))))
def Bdk (N:Nat) (m:LA) (o:Nat) (p d:Bool) (q:LA) (r:Nat) (t c:Bool) (r0:Nat→Bool→LA→Option R):Option R:=(Bdj N r0 (fun j i b l f g a e=>(Tn N r0 j i c b l d N f g a e)) m o p d q r t c)
def Arn:=(Ai (@Bdk R)).1
theorem A0f:@Arn R=@Bdk R:=(Ai _).2
def Au4:Hints:={ H:=(hS (hR [0,1]) (hS (hR [0,1]) (hS (hS (hR [0,1,18]) (hN [0,1] (hS (hR [4,5]) hL) hL)) (hS (hR [0,1,6]) (hS (hR [0,1,6,7]) (hS (hS (hR [1,6,7,22,23,24]) (hN [6] (hN [1,6,7,22,23,24] (hS (hR [1,6,7,22,23,24,25]) (hS (hN [1,6,7,22,23,24] hL hL) (hS (hN [1,6,7,22,23,24] (hS (hR [1,6,7,8,9,22,23,24]) (hS (hR [1,6,8,10,22,23,24]) (hS (hS (hR [1,6,8,10,22,23,24,36]) (hN [1,6,8,10,22,23,24] (hR [1,6,8,10,22,23,24]) hL)) (hS (hR [1,6,10,22,23,24]) (hR [1,6,7,22,23,24]))))) hL) (hR [1,6,7,22,23,24])))) hL) hL)) (hS (hR [4,5]) hL))))))),nils:=[(4,1)],modes:=[(2,1),(0,0)],free:=[],cob:=[] }
def A3t (N:Nat):List (Nat×Tw):=[(171,C2 N),(132,Ff N)]
def A3u (N:Nat):Env:=mkE 54 Au4 (A3t N)
def Bst (N:Nat) (F:KF R):=Aq (A3u N) Tryz.f177 Au4.modes [] F
def Blm (N:Nat) (F:KF R):=atF (A3u N) [] N Tryz.f177 Au4 (Bst N F)
def Aif  (F:KF R):Nat→Bool→LA→Option R:=(fun aa ab ac=>F (.tup [(.own 300000 0 aa),(.bool ab)]) [(300000,⟨false,false,true,false,1,ac,false⟩)])
def Zx (j:LA) (i:Nat) (c:Bool) (b:Nat) (l:LA) (d:Bool) (f g a:Int) (e:LA):St:={ s:=[(1,(.imm j i 1 false c)),(6,(.own 300000 0 b)),(7,(.int .u64 f)),(22,(.imm l b 1 false d)),(23,(.int .i64 g)),(24,(.int .i64 a))],h:=[(300000,⟨false,false,true,false,1,e,false⟩)] }
def Bln (N:Nat) (F:KF R):St→Option R:=Bx (A3u N) [] N (Blm N F [1,1,1,1,1,0,1,0] []) N
def Au5 (N:Nat) (F:KF R) (n:Nat):St→Option R:=Ba (A3u N) [] N (Blm N F [1,1,1,1,1,0,1,0] []) n
theorem Boe (N:Nat)  (F:KF R) (j:LA) (i:Nat) (c:Bool) (b:Nat) (l:LA) (d:Bool):∀ (n:Nat) (f g a:Int) (e:LA),Au5 N F n (Zx j i c b l d f g a e)=(Tn N (Aif F) j i c b l d n f g a e):=by
 intro n
 induction n with
 | zero=>intros;kernel_rfl
 | succ n ih =>
  intro f g a e
  have e0:=funext fun f=>funext fun g=>funext fun a=>funext fun e=>(show Au5 N F n (Zx j i c b l d f g a e)=_ from ih f g a e)
  have hK:Au5 N F (n+1) (Zx j i c b l d f g a e)=(Ab2 N (Aif F) j i c b l d (fun f g a e=>Au5 N F n (Zx j i c b l d f g a e)) f g a e):=by kernel_rfl
  exact hK.trans (by rw [e0];rfl)
theorem A7l (N:Nat) (m:LA) (o:Nat) (p d:Bool) (q:LA) (r:Nat) (t c:Bool) (F:KF R):Ac Tryz.prog muts (A3t N) Au4 N 177 [(.imm m o 1 p d),(.imm q r 1 t c)] [] F=(Arn N m o p d q r t c (Aif F)):=by
 have e1:=funext fun j=>funext fun i=>funext fun b=>funext fun l=>funext fun f=>funext fun g=>funext fun a=>funext fun e=>(show Bln N F (Zx j i c b l d f g a e)=_ from (Ar ..).trans (Boe N F j i c b l d N f g a e))
 have hK:Ac Tryz.prog muts (A3t N) Au4 N 177 [(.imm m o 1 p d),(.imm q r 1 t c)] [] F=(Bdj N (Aif F) (fun j i b l f g a e=>Bln N F (Zx j i c b l d f g a e)) m o p d q r t c):=by kernel_rfl
 rw [A0f]
 exact hK.trans (by rw [e1];rfl)
def Ak7 (N:Nat) (args:List AV) (h:Aj) (k:KF R):Option R :=
 match args,h with
 | [(.imm m o 1 p d),(.imm q r 1 t c)],[]=>(Arn N m o p d q r t c (Aif k))
 | _,_=>none
def A7m (N:Nat):Tw:=⟨Ak7 N,fun args h k=>by
 unfold Ak7;split
 exact twE (A7l ..) (A7l ..)
 rfl⟩
theorem Blo (N:Nat):A1 Tryz.prog 177 (A7m N):=fun args h res x hh=>by
 change Ak7 N args h (fun v x=>some (v,x))=_ at hh
 unfold Ak7 at hh;split at hh
 exact Aa (T:=A3t N) ⟨Ef N,Hu N,trivial⟩ follows ((A7l ..).trans hh)
 cases hh
def Aro (N:Nat) (r0:Nat→LA→Option R)  (a:LA) (b:Nat) (j c:Bool) (d:Int) (e:LA) (f:Nat) (l g:Bool) (i:Int):Option R :=
 (Bo N d (fun m r=>(Akt N a b false c (List.take (m*1) r) m false true (fun n s=>(Bo N i (fun o t=>(Akt N e f false g (List.take (o*1) t) o false true (fun p u=>(Arn N (List.take (n*1) s) n false true (List.take (p*1) u) p false true (fun w aa x=>(r0 w x)))))))))))
def Arp (N:Nat) (a:LA) (b:Nat) (j c:Bool) (d:Int) (e:LA) (f:Nat) (l g:Bool) (i:Int) (r0:Nat→LA→Option R):Option R:=(Aro N r0 a b j c d e f l g i)
def El:=(Ai (@Arp R)).1
theorem Arq:@El R=@Arp R:=(Ai _).2
def Axl:Hints:={ H:=(hS (hR [0,1,2,3]) (hS (hR [9]) (hS (hR [8]) hL))),nils:=[(8,1)],modes:=[(2,1)],free:=[],cob:=[] }
def Ak8 (N:Nat):List (Nat×Tw):=[(149,Dw N),(135,Ah4 N),(177,A7m N)]
def Agn  (F:KF R):Nat→LA→Option R:=(fun y z=>F (.own 300000 0 y) [(300000,⟨false,false,true,false,1,z,false⟩)])
theorem Ago (N:Nat) (a:LA) (b:Nat) (j c:Bool) (d:Int) (e:LA) (f:Nat) (l g:Bool) (i:Int) (F:KF R):Ac Tryz.prog muts (Ak8 N) Axl N 196 [(.imm a b 1 j c),(.int .u64 d),(.imm e f 1 l g),(.int .u64 i)] [] F=(El N a b j c d e f l g i (Agn F)):=by
 have hK:Ac Tryz.prog muts (Ak8 N) Axl N 196 [(.imm a b 1 j c),(.int .u64 d),(.imm e f 1 l g),(.int .u64 i)] [] F=(Aro N (Agn F) a b j c d e f l g i):=by kernel_rfl
 rw [Arq]
 exact hK
def Qx (N:Nat) (args:List AV) (h:Aj) (k:KF R):Option R :=
 match args,h with
 | [(.imm a b 1 j c),(.int .u64 d),(.imm e f 1 l g),(.int .u64 i)],[]=>(El N a b j c d e f l g i (Agn k))
 | _,_=>none
def Axm (N:Nat):Tw:=⟨Qx N,fun args h k=>by
 unfold Qx;split
 exact twE (Ago ..) (Ago ..)
 rfl⟩
theorem Bkf (N:Nat):A1 Tryz.prog 196 (Axm N):=fun args h res q hh=>by
 change Qx N args h (fun v q=>some (v,q))=_ at hh
 unfold Qx at hh;split at hh
 exact Aa (T:=Ak8 N) ⟨Fc N,Au2 N,Blo N,trivial⟩ follows ((Ago ..).trans hh)
 cases hh
def Ak9 (N:Nat) (k1:LA→Nat→Bool→LA→Nat→Bool→Option R) (r0:Nat→LA→Option R)  (k2:Int→Int→Option R)  (i g:Int):Option R :=
 (cond (g != (0:Int)) (cond (g==(0:Int)) none (k2 g (Int.tmod i g))) (Bo N i (fun am an=>(r0 am an))))
def Pj (N:Nat) (k1:LA→Nat→Bool→LA→Nat→Bool→Option R) (r0:Nat→LA→Option R) :Nat→Int→Int→Option R
 | 0,_,_=>none
 | n+1,i,g=>(Ak9 N k1 r0 (Pj N k1 r0 n) i g)
def Ab3 (N:Nat)  (r0:Nat→LA→Option R)  (k1:LA→Nat→Bool→LA→Nat→Bool→Option R) (q2:Int→Int→Option R) (c:LA) (a:Nat) (d:Bool) (e:LA) (b:Nat) (f:Bool):Option R :=
 (cond (decide (((b:Nat):Int)>(0:Int))) (cond (decide (((a:Nat):Int)≤(2:Int))) (Qh N c a false d (fun ao=>(Qh N e b false f (fun ap=>(q2 ao ap))))) (Abv N c a false d e b false f (fun u=>(cond ((Nat.beq (List.length u) 5)&&((Nat.ble 5 5)&&(!false))) (rdI .u64 (List.drop 2 (setCells [(.int .u64 0),(.int .u64 0),(.int .u64 0),(.int .u64 0),(.bool false)] 0 u)) fun aq=>(cond (aq==(0:Int)) (D0 N c a false d e b false f (fun bm ag bn bo ar=>(k1 e b f (List.take (ag*1) ar) ag false))) (rdB (List.drop 4 (setCells [(.int .u64 0),(.int .u64 0),(.int .u64 0),(.int .u64 0),(.bool false)] 0 u)) fun au=>(cond au (rdI .u64 (setCells [(.int .u64 0),(.int .u64 0),(.int .u64 0),(.int .u64 0),(.bool false)] 0 u) fun av=>(rdI .u64 (List.drop 2 (setCells [(.int .u64 0),(.int .u64 0),(.int .u64 0),(.int .u64 0),(.bool false)] 0 u)) fun aw=>(El N c a false d av e b false f aw (fun ah ax=>(rdI .u64 (List.drop 3 (setCells [(.int .u64 0),(.int .u64 0),(.int .u64 0),(.int .u64 0),(.bool false)] 0 u)) fun ay=>(rdI .u64 (List.drop 1 (setCells [(.int .u64 0),(.int .u64 0),(.int .u64 0),(.int .u64 0),(.bool false)] 0 u)) fun az=>(El N e b false f ay c a false d az (fun ai ba=>(k1 (List.take (ah*1) ax) ah false (List.take (ai*1) ba) ai false))))))))) (rdI .u64 (List.drop 2 (setCells [(.int .u64 0),(.int .u64 0),(.int .u64 0),(.int .u64 0),(.bool false)] 0 u)) fun bb=>(rdI .u64 (setCells [(.int .u64 0),(.int .u64 0),(.int .u64 0),(.int .u64 0),(.bool false)] 0 u) fun bc=>(El N e b false f bb c a false d bc (fun aj bd=>(rdI .u64 (List.drop 1 (setCells [(.int .u64 0),(.int .u64 0),(.int .u64 0),(.int .u64 0),(.bool false)] 0 u)) fun be=>(rdI .u64 (List.drop 3 (setCells [(.int .u64 0),(.int .u64 0),(.int .u64 0),(.int .u64 0),(.bool false)] 0 u)) fun bf=>(El N c a false d be e b false f bf (fun ak bg=>(k1 (List.take (aj*1) bd) aj false (List.take (ak*1) bg) ak false))))))))))))) none)))) (Ys N c a false d (fun bh bi=>(r0 bh bi))))
def Dh (N:Nat)  (r0:Nat→LA→Option R) :Nat→LA→Nat→Bool→LA→Nat→Bool→Option R
 | 0,_,_,_,_,_,_=>none
 | n+1,c,a,d,e,b,f=>(Ab3 N r0 (Dh N r0 n) (fun i g=>(Pj N (Dh N r0 n) r0 N i g)) c a d e b f)
def A0g (N:Nat)  (r0:Nat→LA→Option R)   (q1:LA→Nat→Bool→LA→Nat→Bool→Option R) (j:LA) (l:Nat) (m:Bool) (o:LA) (p:Nat) (q:Bool):Option R :=
 (q1 j l m o p q)
def A7n (N:Nat)  (r0:Nat→LA→Option R)  (j:LA) (l:Nat) (m:Bool) (o:LA) (p:Nat) (q:Bool):Option R:=(A0g N r0 (fun c a d e b f=>(Dh N r0 N c a d e b f)) j l m o p q)
def Bof (N:Nat) (r0:Nat→LA→Option R) (q0:LA→Nat→Bool→LA→Nat→Bool→Option R) (w:LA) (x:Nat) (y r:Bool) (z:LA) (aa:Nat) (ab t:Bool):Option R :=
 (By N w x y r (fun ac ad=>(By N z aa ab t (fun ae af=>(C9 N ac ad false r ae af false t (fun bj=>(cond (decide (bj<(0:Int))) (q0 ae af t ac ad r) (q0 ac ad r ae af t))))))))
def Bog (N:Nat) (w:LA) (x:Nat) (y r:Bool) (z:LA) (aa:Nat) (ab t:Bool) (r0:Nat→LA→Option R):Option R:=(Bof N r0 (fun j l m o p q=>(A7n N r0 j l m o p q)) w x y r z aa ab t)
def A0h:=(Ai (@Bog R)).1
theorem Bgq:@A0h R=@Bog R:=(Ai _).2
def Au6:Hints:={ H:=(hS (hR [0,1]) (hS (hR [0,1]) (hJ (hS (hR [0,1,18]) (hN [0,1] (hR [0,1]) hL)) (hS (hN [0] (hN [0,1] (hS (hS (hR [0,1,23]) (hN [0,1] hL hL)) (hN [0,1] (hS (hS (hR [0,1,26]) (hN [0,1] (hS (hR [5,6]) (hS (hN [5] (hN [5,6] (hS (hS (hR [5,6,32]) (hN [5,6] hL hL)) (hN [5,6] (hR [5,6]) hL)) hL) hL) (hS (hR [4]) hL))) hL)) (hS (hR [0,1,7]) (hS (hS (hR [0,1,7,44]) (hN [0,1,7] (hS (hR [1,9]) (hS (hR [0,1]) hL)) hL)) (hS (hR [0,1,7,55]) (hN [0,1] (hR [0,1]) (hR [0,1])))))) hL)) hL) hL) (hS (hR [4]) hL))))),nils:=[(0,1000001),(1,1000001)],modes:=[(2,1)],free:=[],cob:=[] }
def A3v (N:Nat):List (Nat×Tw):=[(171,L5 N),(132,Ff N),(181,Akn N),(195,Axg N),(175,Ak6 N),(196,Axm N),(173,Abo N),(149,Dw N)]
def Wf (N:Nat):Env:=mkE 86 Au6 (A3v N)
def Bsu (N:Nat) (F:KF R):=Aq (Wf N) Tryz.f174 Au6.modes [] F
def Zy (N:Nat) (F:KF R):=atF (Wf N) [] N Tryz.f174 Au6 (Bsu N F)
def H0  (F:KF R):Nat→LA→Option R:=(fun bk bl=>F (.own 300000 0 bk) [(300000,⟨false,false,true,false,1,bl,false⟩)])
def Zz (i g:Int):St:={ s:=[(5,(.int .u64 i)),(6,(.int .u64 g))],h:=[] }
def Blp (N:Nat) (F:KF R) (Q1:St→Option R):St→Option R:=Bx (Wf N) [] N (Zy N F [1,1,1,0,0,0,1,0,0,1,0,1,0,0] [Q1]) N
def Au7 (N:Nat) (F:KF R) (Q1:St→Option R) (n:Nat):St→Option R:=Ba (Wf N) [] N (Zy N F [1,1,1,0,0,0,1,0,0,1,0,1,0,0] [Q1]) n
def Pk (c:LA) (a:Nat) (d:Bool) (e:LA) (b:Nat) (f:Bool):St:={ s:=[(0,(.imm c a 1 false d)),(1,(.imm e b 1 false f))],h:=[] }
def Blq (N:Nat) (F:KF R):St→Option R:=Bx (Wf N) [] N (Zy N F [1,1,1,0,0] []) N
def To (N:Nat) (F:KF R) (n:Nat):St→Option R:=Ba (Wf N) [] N (Zy N F [1,1,1,0,0] []) n
def Au8 (j:LA) (l:Nat) (m:Bool) (o:LA) (p:Nat) (q:Bool):St:={ s:=[(0,(.imm j l 1 false m)),(1,(.imm o p 1 false q))],h:=[] }
def Blr (N:Nat) (F:KF R):St→Option R:=Bm (Wf N) [] N (Zy N F [1,1,1] [])
def Bls (N:Nat) (F:KF R):St→Option R:=Bq (Wf N) [] N (Zy N F [1,1,1] [])
theorem Boh (N:Nat) (Q1:St→Option R) (F:KF R) :∀ (n:Nat) (i g:Int),Au7 N F Q1 n (Zz i g)=(Pj N (fun c a d e b f=>Q1 (Pk c a d e b f)) (H0 F) n i g):=by
 intro n
 induction n with
 | zero=>intros;kernel_rfl
 | succ n ih =>
  intro i g
  have e0:=funext fun i=>funext fun g=>(show Au7 N F Q1 n (Zz i g)=_ from ih i g)
  have hK:Au7 N F Q1 (n+1) (Zz i g)=(Ak9 N (fun c a d e b f=>Q1 (Pk c a d e b f)) (H0 F) (fun i g=>Au7 N F Q1 n (Zz i g)) i g):=by kernel_rfl
  exact hK.trans (by rw [e0];rfl)
theorem Boi (N:Nat)  (F:KF R) :∀ (n:Nat) (c:LA) (a:Nat) (d:Bool) (e:LA) (b:Nat) (f:Bool),To N F n (Pk c a d e b f)=(Dh N (H0 F) n c a d e b f):=by
 intro n
 induction n with
 | zero=>intros;kernel_rfl
 | succ n ih =>
  intro c a d e b f
  have e0:=funext fun c=>funext fun a=>funext fun d=>funext fun e=>funext fun b=>funext fun f=>(show To N F n (Pk c a d e b f)=_ from ih c a d e b f)
  have e1:(fun i g=>Blp N F (To N F n) (Zz i g))=(fun i g=>(Pj N (Dh N (H0 F) n) (H0 F) N i g)):=by funext i;funext g;exact ((Ar ..).trans (Boh N (To N F n) F N i g)).trans (by rw [e0])
  have hK:To N F (n+1) (Pk c a d e b f)=(Ab3 N (H0 F) (fun c a d e b f=>To N F n (Pk c a d e b f)) (fun i g=>Blp N F (To N F n) (Zz i g)) c a d e b f):=by kernel_rfl
  exact hK.trans (by rw [e0,e1];rfl)
theorem Boj (N:Nat)  (F:KF R) :∀ (j:LA) (l:Nat) (m:Bool) (o:LA) (p:Nat) (q:Bool),Bls N F (Au8 j l m o p q)=(A7n N (H0 F) j l m o p q):=by
 intro j l m o p q
 have e1:=funext fun c=>funext fun a=>funext fun d=>funext fun e=>funext fun b=>funext fun f=>(show Blq N F (Pk c a d e b f)=_ from (Ar ..).trans (Boi N F N c a d e b f))
 have hK:Bls N F (Au8 j l m o p q)=(A0g N (H0 F) (fun c a d e b f=>Blq N F (Pk c a d e b f)) j l m o p q):=by kernel_rfl
 exact hK.trans (by rw [e1];rfl)
theorem A7o (N:Nat) (w:LA) (x:Nat) (y r:Bool) (z:LA) (aa:Nat) (ab t:Bool) (F:KF R):Ac Tryz.prog muts (A3v N) Au6 N 174 [(.imm w x 1 y r),(.imm z aa 1 ab t)] [] F=(A0h N w x y r z aa ab t (H0 F)):=by
 have e1:=funext fun j=>funext fun l=>funext fun m=>funext fun o=>funext fun p=>funext fun q=>(show Blr N F (Au8 j l m o p q)=_ from (As ..).trans (Boj N F j l m o p q))
 have hK:Ac Tryz.prog muts (A3v N) Au6 N 174 [(.imm w x 1 y r),(.imm z aa 1 ab t)] [] F=(Bof N (H0 F) (fun j l m o p q=>Blr N F (Au8 j l m o p q)) w x y r z aa ab t):=by kernel_rfl
 rw [Bgq]
 exact hK.trans (by rw [e1];rfl)
def Ala (N:Nat) (args:List AV) (h:Aj) (k:KF R):Option R :=
 match args,h with
 | [(.imm w x 1 y r),(.imm z aa 1 ab t)],[]=>(A0h N w x y r z aa ab t (H0 k))
 | _,_=>none
def Blt (N:Nat):Tw:=⟨Ala N,fun args h k=>by
 unfold Ala;split
 exact twE (A7o ..) (A7o ..)
 rfl⟩
theorem Bu7 (N:Nat):A1 Tryz.prog 174 (Blt N):=fun args h res al hh=>by
 change Ala N args h (fun v al=>some (v,al))=_ at hh
 unfold Ala at hh;split at hh
 exact Aa (T:=A3v N) ⟨Qd N,Hu N,Azw N,Bkd N,A3s N,Bkf N,Ak1 N,Fc N,trivial⟩ follows ((A7o ..).trans hh)
 cases hh
def A0i (N:Nat) (r0:LA→Option R)  (a:LA) (b:Bool) (c:LA) (d:Nat) (g e:Bool):Option R :=
 (rdB a fun u=>(rdL 1 (List.drop 1 a) fun w x=>(cond (Nat.beq (List.length a) 2) (A3m N [(.bool u),(.imm w x 1 false b)] (b||false) (fun o i m=>(Ys N c d false e (fun j n=>(cond (((i:Nat):Int)==(0:Int)) (r0 [(.bool false),.nsl,(.imm [(.int .u32 1)] 1 1 false false)]) (A0h N (List.take (i*1) m) i false true (List.take (j*1) n) j false true (fun f l=>(cond ((((f:Nat):Int) != (1:Int))==false) (cond (Am (0:Int) f) (rdI .u32 l fun y=>(cond (cond false true (y != (1:Int))) (D0 N (List.take (i*1) m) i false true (List.take (f*1) l) f false true (fun p ae af z ag=>(D0 N (List.take (j*1) n) j false true (List.take (f*1) l) f false true (fun q ah ai aa aj=>(r0 [(.bool o),(.imm (List.take (p*1) z) p 1 false false),(.imm (List.take (q*1) aa) q 1 false false)]))))) (r0 [(.bool o),(.imm (List.take (i*1) m) i 1 false false),(.imm (List.take (j*1) n) j 1 false false)]))) none) (D0 N (List.take (i*1) m) i false true (List.take (f*1) l) f false true (fun r ak al ab am=>(D0 N (List.take (j*1) n) j false true (List.take (f*1) l) f false true (fun s an ao ac ap=>(r0 [(.bool o),(.imm (List.take (r*1) ab) r 1 false false),(.imm (List.take (s*1) ac) s 1 false false)]))))))))))))) none)))
def A0j (N:Nat) (a:LA) (b:Bool) (c:LA) (d:Nat) (g e:Bool) (r0:LA→Option R):Option R:=(A0i N r0 a b c d g e)
def Mi:=(Ai (@A0j R)).1
theorem Axn:@Mi R=@A0j R:=(Ai _).2
def A3w:Hints:={ H:=(hS (hR [1,2,4]) (hS (hR [1,2,4]) (hS (hS (hR [1,2,4,13]) (hN [1,2,4] (hS (hR [4]) hL) hL)) (hS (hR [1,2,4,5]) (hS (hS (hR [1,2,4,5,28]) (hN [1,2,4] (hS (hR [1,2,4,5]) (hR [1,2,4])) hL)) (hS (hR [4]) hL)))))),nils:=[],modes:=[(3,0)],free:=[],cob:=[2] }
def Arr (N:Nat):List (Nat×Tw):=[(172,Bgn N),(173,Abo N),(174,Blt N),(175,Ak6 N)]
def Alb  (F:KF R):LA→Option R:=(fun ad=>F (.pagg ad false) [])
theorem Alc (N:Nat) (a:LA) (b:Bool) (c:LA) (d:Nat) (g e:Bool) (F:KF R):Ac Tryz.prog muts (Arr N) A3w N 133 [(.pagg a b),(.imm c d 1 g e)] [] F=(Mi N a b c d g e (Alb F)):=by
 have hK:Ac Tryz.prog muts (Arr N) A3w N 133 [(.pagg a b),(.imm c d 1 g e)] [] F=(A0i N (Alb F) a b c d g e):=by kernel_rfl
 rw [Axn]
 exact hK
def Ve (N:Nat) (args:List AV) (h:Aj) (k:KF R):Option R :=
 match args,h with
 | [(.pagg a b),(.imm c d 1 g e)],[]=>(Mi N a b c d g e (Alb k))
 | _,_=>none
def Yw (N:Nat):Tw:=⟨Ve N,fun args h k=>by
 unfold Ve;split
 exact twE (Alc ..) (Alc ..)
 rfl⟩
theorem Ald (N:Nat):A1 Tryz.prog 133 (Yw N):=fun args h res t hh=>by
 change Ve N args h (fun v t=>some (v,t))=_ at hh
 unfold Ve at hh;split at hh
 exact Aa (T:=Arr N) ⟨Bss N,Ak1 N,Bu7 N,A3s N,trivial⟩ follows ((Alc ..).trans hh)
 cases hh
def A3x (N:Nat) (r0:LA→Option R)  (a:LA) (b:Bool):Option R :=
 (cond (Nat.ble 3 (List.length a)) (Fq N (List.take 3 a) b (fun f g i=>(cond i (Ih N f g (fun c=>(cond ((Nat.beq 0 0)&&((Nat.beq (List.length c) 3)&&(Nat.beq 3 3))) (cond (Nat.ble 3 (List.length c)) (r0 (List.take 3 c)) none) none))) (cond (Nat.ble 3 (List.length a)) (Jg N (List.take 3 a) b (fun j l m n o=>(Mi N j l m n false o (fun d=>(cond ((Nat.beq 0 0)&&((Nat.beq (List.length d) 3)&&(Nat.beq 3 3))) (cond (Nat.ble 3 (List.length d)) (r0 (List.take 3 d)) none) none))))) none)))) none)
def A3y (N:Nat) (a:LA) (b:Bool) (r0:LA→Option R):Option R:=(A3x N r0 a b)
def Aea:=(Ai (@A3y R)).1
theorem Ars:@Aea R=@A3y R:=(Ai _).2
def Bgr:Hints:={ H:=(hS (hR [1,2]) (hS (hS (hR [1,2,3,4,5]) (hS (hR [1,2,3,4,12]) (hN [1,2] (hS (hR [2]) hL) hL))) (hS (hR [2]) hL))),nils:=[],modes:=[(3,0)],free:=[],cob:=[] }
def A7p (N:Nat):List (Nat×Tw):=[(99,Wb N),(131,Qp N),(101,Ph N),(133,Yw N)]
def A0k  (F:KF R):LA→Option R:=(fun p=>F (.pagg p false) [])
theorem A0l (N:Nat) (a:LA) (b:Bool) (F:KF R):Ac Tryz.prog muts (A7p N) Bgr N 130 [(.pagg a b)] [] F=(Aea N a b (A0k F)):=by
 have hK:Ac Tryz.prog muts (A7p N) Bgr N 130 [(.pagg a b)] [] F=(A3x N (A0k F) a b):=by kernel_rfl
 rw [Ars]
 exact hK
def Aeb (N:Nat) (args:List AV) (h:Aj) (k:KF R):Option R :=
 match args,h with
 | [(.pagg a b)],[]=>(Aea N a b (A0k k))
 | _,_=>none
def A0m (N:Nat):Tw:=⟨Aeb N,fun args h k=>by
 unfold Aeb;split
 exact twE (A0l ..) (A0l ..)
 rfl⟩
theorem Bgs (N:Nat):A1 Tryz.prog 130 (A0m N):=fun args h res e hh=>by
 change Aeb N args h (fun v e=>some (v,e))=_ at hh
 unfold Aeb at hh;split at hh
 exact Aa (T:=A7p N) ⟨Ad5 N,Abn N,V9 N,Ald N,trivial⟩ follows ((A0l ..).trans hh)
 cases hh
def Ab4 (N:Nat)  (r0:Nat→LA→Option R) (b:LA) (a:Nat) (e:Bool) (f:LA) (c:Nat) (g:Bool) (k1:Nat→Int→Int→Int→LA→Option R)  (j:Nat) (l m d:Int) (i:LA):Option R :=
 (cond (decide (d<m)) (cond (Am d a) (rdI .u32 (List.drop ((Int.toNat d)*1) b) fun y=>(cond (decide (d<((c:Nat):Int))) (cond (Am d c) (rdI .u32 (List.drop ((Int.toNat d)*1) f) fun ab=>(cond (Am d j) (cond ((Nat.beq 1 1)&&((Nat.ble ((0+((Int.toNat d)*1))+1) (List.length i))&&(!false))) (k1 j (Int.fdiv (IntKind.wrap .u64 ((IntKind.wrap .u64 (l+(IntKind.wrap .u64 y)))+(IntKind.wrap .u64 ab))) (2 ^ 32)) m (IntKind.wrap .i64 (d+(1:Int))) (List.set i (0+((Int.toNat d)*1)) (.int .u32 (IntKind.wrap .u32 (IntKind.wrap .u64 ((IntKind.wrap .u64 (l+(IntKind.wrap .u64 y)))+(IntKind.wrap .u64 ab))))))) none) none)) none) (cond (Am d j) (cond ((Nat.beq 1 1)&&((Nat.ble ((0+((Int.toNat d)*1))+1) (List.length i))&&(!false))) (k1 j (Int.fdiv (IntKind.wrap .u64 (l+(IntKind.wrap .u64 y))) (2 ^ 32)) m (IntKind.wrap .i64 (d+(1:Int))) (List.set i (0+((Int.toNat d)*1)) (.int .u32 (IntKind.wrap .u32 (IntKind.wrap .u64 (l+(IntKind.wrap .u64 y))))))) none) none))) none) (cond (Am ((a:Nat):Int) j) (cond ((Nat.beq 1 1)&&((Nat.ble ((0+(a*1))+1) (List.length i))&&(!false))) (Wu N j (List.set i (0+(a*1)) (.int .u32 (IntKind.wrap .u32 l))) (fun af=>(r0 af (List.set i (0+(a*1)) (.int .u32 (IntKind.wrap .u32 l)))))) none) none))
def Tp (N:Nat)  (r0:Nat→LA→Option R) (b:LA) (a:Nat) (e:Bool) (f:LA) (c:Nat) (g:Bool):Nat→Nat→Int→Int→Int→LA→Option R
 | 0,_,_,_,_,_=>none
 | n+1,j,l,m,d,i=>(Ab4 N r0 b a e f c g (Tp N r0 b a e f c g n) j l m d i)
def A0n (N:Nat)  (r0:Nat→LA→Option R)   (q1:Nat→Int→Int→Int→LA→Option R) (b:LA) (a:Nat) (e:Bool) (f:LA) (c:Nat) (g:Bool):Option R :=
 (cond ((decide ((0:Int)≤(IntKind.wrap .i64 (((a:Nat):Int)+(1:Int)))))&&((decide ((IntKind.wrap .i64 (((a:Nat):Int)+(1:Int)))≤(IntKind.wrap .i64 (((a:Nat):Int)+(1:Int)))))&&((decide ((IntKind.wrap .i64 (((a:Nat):Int)+(1:Int)))≤(140737488355328:Int)))&&(decide (((IntKind.wrap .i64 (((a:Nat):Int)+(1:Int)))*((4:Nat):Int))≤(140737488355328:Int)))))) (q1 (Int.toNat (IntKind.wrap .i64 (((a:Nat):Int)+(1:Int)))) 0 ((a:Nat):Int) 0 (List.replicate (Int.toNat (IntKind.wrap .i64 (((a:Nat):Int)+(1:Int)))) (.int .u32 0))) none)
def Au9 (N:Nat)  (r0:Nat→LA→Option R)  (b:LA) (a:Nat) (e:Bool) (f:LA) (c:Nat) (g:Bool):Option R:=(A0n N r0 (fun j l m d i=>(Tp N r0 b a e f c g N j l m d i)) b a e f c g)
def Bdl (N:Nat) (r0:Nat→LA→Option R) (q0:LA→Nat→Bool→LA→Nat→Bool→Option R) (q:LA) (r:Nat) (t o:Bool) (u:LA) (w:Nat) (x p:Bool):Option R :=
 (By N q r t o (fun ac z=>(By N u w x p (fun ad aa=>(cond (decide (((z:Nat):Int)<((aa:Nat):Int))) (q0 ad aa p ac z o) (q0 ac z o ad aa p))))))
def Bdm (N:Nat) (q:LA) (r:Nat) (t o:Bool) (u:LA) (w:Nat) (x p:Bool) (r0:Nat→LA→Option R):Option R:=(Bdl N r0 (fun b a e f c g=>(Au9 N r0 b a e f c g)) q r t o u w x p)
def Bgt:=(Ai (@Bdm R)).1
theorem A0o:@Bgt R=@Bdm R:=(Ai _).2
def Ava:Hints:={ H:=(hS (hR [0,1]) (hS (hR [0,1]) (hJ (hS (hR [0,1,17]) (hN [0,1] (hR [0,1]) hL)) (hS (hR [0,1,5]) (hS (hR [0,1,5,6]) (hS (hS (hR [0,1,5,6,24,25,26]) (hN [0,5,6] (hN [0,1,5,6,24,25,26] (hS (hR [0,1,5,6,24,25,26,27]) (hS (hN [0,1,5,6,24,25,26] hL hL) (hS (hN [0,1,5,6,24,25,26] (hS (hR [0,1,5,6,7,8,24,25,26]) (hS (hR [0,1,5,6,7,24,25,26]) (hS (hS (hR [0,1,5,6,7,24,25,26,38]) (hN [0,1,5,6,7,24,25,26] (hR [0,1,5,6,7,24,25,26]) hL)) (hS (hR [0,1,5,6,24,25,26]) (hR [0,1,5,6,24,25,26]))))) hL) (hR [0,1,5,6,24,25,26])))) hL) hL)) (hS (hR [5]) (hS (hR [4]) hL)))))))),nils:=[(4,1)],modes:=[(2,1)],free:=[],cob:=[] }
def A3z (N:Nat):List (Nat×Tw):=[(171,C2 N)]
def Aig (N:Nat):Env:=mkE 62 Ava (A3z N)
def Bsv (N:Nat) (F:KF R):=Aq (Aig N) Tryz.f176 Ava.modes [] F
def Avb (N:Nat) (F:KF R):=atF (Aig N) [] N Tryz.f176 Ava (Bsv N F)
def Tq  (F:KF R):Nat→LA→Option R:=(fun ag ah=>F (.own 300000 0 ag) [(300000,⟨false,false,true,false,1,ah,false⟩)])
def Z0 (b:LA) (a:Nat) (e:Bool) (f:LA) (c:Nat) (g:Bool) (j:Nat) (l m d:Int) (i:LA):St:={ s:=[(0,(.imm b a 1 false e)),(1,(.imm f c 1 false g)),(5,(.own 300000 0 j)),(6,(.int .u64 l)),(24,(.imm b a 1 false e)),(25,(.int .i64 m)),(26,(.int .i64 d))],h:=[(300000,⟨false,false,true,false,1,i,false⟩)] }
def Blu (N:Nat) (F:KF R):St→Option R:=Bx (Aig N) [] N (Avb N F [1,1,1,1,1,0,1,0] []) N
def Avc (N:Nat) (F:KF R) (n:Nat):St→Option R:=Ba (Aig N) [] N (Avb N F [1,1,1,1,1,0,1,0] []) n
def Avd (b:LA) (a:Nat) (e:Bool) (f:LA) (c:Nat) (g:Bool):St:={ s:=[(0,(.imm b a 1 false e)),(1,(.imm f c 1 false g))],h:=[] }
def Blv (N:Nat) (F:KF R):St→Option R:=Bm (Aig N) [] N (Avb N F [1,1,1] [])
def Blw (N:Nat) (F:KF R):St→Option R:=Bq (Aig N) [] N (Avb N F [1,1,1] [])
theorem Bok (N:Nat)  (F:KF R) (b:LA) (a:Nat) (e:Bool) (f:LA) (c:Nat) (g:Bool):∀ (n j:Nat) (l m d:Int) (i:LA),Avc N F n (Z0 b a e f c g j l m d i)=(Tp N (Tq F) b a e f c g n j l m d i):=by
 intro n
 induction n with
 | zero=>intros;kernel_rfl
 | succ n ih =>
  intro j l m d i
  have e0:=funext fun j=>funext fun l=>funext fun m=>funext fun d=>funext fun i=>(show Avc N F n (Z0 b a e f c g j l m d i)=_ from ih j l m d i)
  have hK:Avc N F (n+1) (Z0 b a e f c g j l m d i)=(Ab4 N (Tq F) b a e f c g (fun j l m d i=>Avc N F n (Z0 b a e f c g j l m d i)) j l m d i):=by kernel_rfl
  exact hK.trans (by rw [e0];rfl)
theorem Bol (N:Nat)  (F:KF R) :∀ (b:LA) (a:Nat) (e:Bool) (f:LA) (c:Nat) (g:Bool),Blw N F (Avd b a e f c g)=(Au9 N (Tq F) b a e f c g):=by
 intro b a e f c g
 have e1:=funext fun j=>funext fun l=>funext fun m=>funext fun d=>funext fun i=>(show Blu N F (Z0 b a e f c g j l m d i)=_ from (Ar ..).trans (Bok N F b a e f c g N j l m d i))
 have hK:Blw N F (Avd b a e f c g)=(A0n N (Tq F) (fun j l m d i=>Blu N F (Z0 b a e f c g j l m d i)) b a e f c g):=by kernel_rfl
 exact hK.trans (by rw [e1];rfl)
theorem A7q (N:Nat) (q:LA) (r:Nat) (t o:Bool) (u:LA) (w:Nat) (x p:Bool) (F:KF R):Ac Tryz.prog muts (A3z N) Ava N 176 [(.imm q r 1 t o),(.imm u w 1 x p)] [] F=(Bgt N q r t o u w x p (Tq F)):=by
 have e1:=funext fun b=>funext fun a=>funext fun e=>funext fun f=>funext fun c=>funext fun g=>(show Blv N F (Avd b a e f c g)=_ from (As ..).trans (Bol N F b a e f c g))
 have hK:Ac Tryz.prog muts (A3z N) Ava N 176 [(.imm q r 1 t o),(.imm u w 1 x p)] [] F=(Bdl N (Tq F) (fun b a e f c g=>Blv N F (Avd b a e f c g)) q r t o u w x p):=by kernel_rfl
 rw [A0o]
 exact hK.trans (by rw [e1];rfl)
def Ale (N:Nat) (args:List AV) (h:Aj) (k:KF R):Option R :=
 match args,h with
 | [(.imm q r 1 t o),(.imm u w 1 x p)],[]=>(Bgt N q r t o u w x p (Tq k))
 | _,_=>none
def Blx (N:Nat):Tw:=⟨Ale N,fun args h k=>by
 unfold Ale;split
 exact twE (A7q ..) (A7q ..)
 rfl⟩
theorem Bu8 (N:Nat):A1 Tryz.prog 176 (Blx N):=fun args h res ae hh=>by
 change Ale N args h (fun v ae=>some (v,ae))=_ at hh
 unfold Ale at hh;split at hh
 exact Aa (T:=A3z N) ⟨Ef N,trivial⟩ follows ((A7q ..).trans hh)
 cases hh
def A30 (N:Nat) (r0:Bool→Nat→LA→Option R)  (a:LA) (c:Bool) (b:LA) (d:Bool):Option R :=
 (rdB a fun n=>(rdB b fun o=>(cond (n==o) (rdB a fun p=>(rdL 1 (List.drop 1 a) fun q r=>(rdL 1 (List.drop 1 b) fun s t=>(Bgt N q r false c s t false d (fun e f=>(Hr N p e f (fun u=>(r0 u e f)))))))) (rdL 1 (List.drop 1 a) fun w x=>(rdL 1 (List.drop 1 b) fun y z=>(Arn N w x false c y z false d (fun g aa i=>(cond aa (rdB a fun ab=>(Hr N ab g i (fun ac=>(r0 ac g i)))) (rdL 1 (List.drop 1 b) fun ad ae=>(rdL 1 (List.drop 1 a) fun af ag=>(Arn N ad ae false d af ag false c (fun j am l=>(rdB b fun ah=>(Hr N ah j l (fun ai=>(r0 ai j l))))))))))))))))
def A31 (N:Nat) (a:LA) (c:Bool) (b:LA) (d:Bool) (r0:Bool→Nat→LA→Option R):Option R:=(A30 N r0 a c b d)
def A7r:=(Ai (@A31 R)).1
theorem Alf:@A7r R=@A31 R:=(Ai _).2
def Bly:Hints:={ H:=(hS (hR [2,3,4]) (hS (hS (hR [2,3,4,13]) (hN [2,3,4] (hS (hR [4]) hL) hL)) (hS (hS (hR [2,3,4,5,6]) (hS (hR [2,3,4,5,30]) (hN [2,3,4] (hS (hR [4]) hL) hL))) (hS (hR [3,4,7]) (hS (hR [4]) hL))))),nils:=[],modes:=[],free:=[],cob:=[] }
def Bgu (N:Nat):List (Nat×Tw):=[(176,Blx N),(148,Qa N),(177,A7m N)]
def A7s  (F:KF R):Bool→Nat→LA→Option R:=(fun aj ak al=>F (.agg [(.bool aj),(.own 300000 0 ak)]) [(300000,⟨false,false,true,false,1,al,false⟩)])
theorem A7t (N:Nat) (a:LA) (c:Bool) (b:LA) (d:Bool) (F:KF R):Ac Tryz.prog muts (Bgu N) Bly N 134 [(.pagg a c),(.pagg b d)] [] F=(A7r N a c b d (A7s F)):=by
 have hK:Ac Tryz.prog muts (Bgu N) Bly N 134 [(.pagg a c),(.pagg b d)] [] F=(A30 N (A7s F) a c b d):=by kernel_rfl
 rw [Alf]
 exact hK
def Alg (N:Nat) (args:List AV) (h:Aj) (k:KF R):Option R :=
 match args,h with
 | [(.pagg a c),(.pagg b d)],[]=>(A7r N a c b d (A7s k))
 | _,_=>none
def Blz (N:Nat):Tw:=⟨Alg N,fun args h k=>by
 unfold Alg;split
 exact twE (A7t ..) (A7t ..)
 rfl⟩
theorem Bu9 (N:Nat):A1 Tryz.prog 134 (Blz N):=fun args h res m hh=>by
 change Alg N args h (fun v m=>some (v,m))=_ at hh
 unfold Alg at hh;split at hh
 exact Aa (T:=Bgu N) ⟨Bu8 N,Ye N,Blo N,trivial⟩ follows ((A7t ..).trans hh)
 cases hh
def Alh (N:Nat)  (r0:LA→Option R) (c:Bool) (a:LA) (d:Bool) (b:LA)   :Option R :=
 (cond (Nat.ble 3 (List.length a)) (Jg N (List.take 3 a) c (fun l aa o p m=>(cond ((Nat.beq 0 0)&&((Nat.beq (List.length l) 2)&&(Nat.beq 2 2))) (cond (Nat.ble 3 (List.length b)) (Jg N (List.take 3 b) d (fun n ab r t q=>(cond ((Nat.beq 0 0)&&((Nat.beq (List.length n) 2)&&(Nat.beq 2 2))) (C9 N o p false m r t false q (fun ai=>(cond (ai==(0:Int)) (cond (Nat.ble 2 (List.length l)) (cond (Nat.ble 2 (List.length n)) (A7r N (List.take 2 l) aa (List.take 2 n) ab (fun aj ac ak=>(Mi N [(.bool aj),(.imm (List.take (ac*1) ak) ac 1 false true)] true o p false m (fun u=>(cond ((Nat.beq 0 0)&&((Nat.beq (List.length u) 3)&&(Nat.beq 3 3))) (cond (Nat.ble 3 (List.length u)) (r0 (List.take 3 u)) none) none))))) none) none) (cond (Nat.ble 2 (List.length l)) (Akw N (List.take 2 l) aa [(.bool false),(.imm r t 1 false q)] (q||false) (fun al ad am=>(cond (Nat.ble 2 (List.length n)) (Akw N (List.take 2 n) ab [(.bool false),(.imm o p 1 false m)] (m||false) (fun an ae ao=>(A7r N [(.bool al),(.imm (List.take (ad*1) am) ad 1 false true)] true [(.bool an),(.imm (List.take (ae*1) ao) ae 1 false true)] true (fun ap af aq=>(Akt N o p false m r t false q (fun ag ar=>(Mi N [(.bool ap),(.imm (List.take (af*1) aq) af 1 false true)] true (List.take (ag*1) ar) ag false true (fun w=>(cond ((Nat.beq 0 0)&&((Nat.beq (List.length w) 3)&&(Nat.beq 3 3))) (cond (Nat.ble 3 (List.length w)) (r0 (List.take 3 w)) none) none))))))))) none))) none)))) none))) none) none))) none)
def Aih (N:Nat)  (r0:LA→Option R) (c:Bool) (a:LA) (d:Bool) (b:LA) :Option R:=(Alh N r0 c a d b)
def Ali (N:Nat)  (r0:LA→Option R) (g e i f:Int) (c:Bool) (a:LA) (d:Bool) (b:LA)  (q1:Option R) (j:Bool):Option R :=
 (cond j (Ih N (IntKind.wrap .i64 ((IntKind.wrap .i64 (g*f))+(IntKind.wrap .i64 (i*e)))) (IntKind.wrap .i64 (e*f)) (fun x=>(cond ((Nat.beq 0 0)&&((Nat.beq (List.length x) 3)&&(Nat.beq 3 3))) (cond (Nat.ble 3 (List.length x)) (r0 (List.take 3 x)) none) none))) q1)
def Tr (N:Nat)  (r0:LA→Option R) (g e i f:Int) (c:Bool) (a:LA) (d:Bool) (b:LA) (j:Bool):Option R:=(Ali N r0 g e i f c a d b (Aih N r0 c a d b) j)
def A32 (N:Nat) (r0:LA→Option R) (q0:Int→Int→Int→Int→Bool→Option R) (a:LA) (c:Bool) (b:LA) (d:Bool):Option R :=
 (cond (Nat.ble 3 (List.length a)) (Yn N (List.take 3 a) c (fun au=>(cond (au==(0:Int)) (cond (Nat.ble 3 (List.length b)) (Aea N (List.take 3 b) d (fun y=>(cond ((Nat.beq 0 0)&&((Nat.beq (List.length y) 3)&&(Nat.beq 3 3))) (cond (Nat.ble 3 (List.length y)) (r0 (List.take 3 y)) none) none))) none) (cond (Nat.ble 3 (List.length b)) (Yn N (List.take 3 b) d (fun av=>(cond (av==(0:Int)) (cond (Nat.ble 3 (List.length a)) (Aea N (List.take 3 a) c (fun z=>(cond ((Nat.beq 0 0)&&((Nat.beq (List.length z) 3)&&(Nat.beq 3 3))) (cond (Nat.ble 3 (List.length z)) (r0 (List.take 3 z)) none) none))) none) (cond (Nat.ble 3 (List.length a)) (Fq N (List.take 3 a) c (fun g e aw=>(cond (Nat.ble 3 (List.length b)) (Fq N (List.take 3 b) d (fun i f ax=>(cond (aw==true) (q0 g e i f (cond true ax false)) (q0 g e i f false)))) none))) none)))) none)))) none)
def A33 (N:Nat) (a:LA) (c:Bool) (b:LA) (d:Bool) (r0:LA→Option R):Option R:=(A32 N r0 (fun g e i f j=>(Tr N r0 g e i f c a d b j)) a c b d)
def Art:=(Ai (@A33 R)).1
theorem Alj:@Art R=@A33 R:=(Ai _).2
def Ave:Hints:={ H:=(hS (hR [2,3,4]) (hS (hS (hR [2,3,4,18]) (hN [2,3,4] (hS (hR [4]) hL) hL)) (hS (hS (hR [2,3,4,23]) (hN [2,3,4] (hS (hR [4]) hL) hL)) (hS (hR [2,3,4,5,6,7]) (hS (hR [2,3,4,5,6,7,8,9,10]) (hJ (hJ (hR [2,3,4,5,6,8,9,41]) (hN [2,3,4] (hS (hR [4]) hL) hL)) (hS (hR [3,4,11,12]) (hS (hR [4,11,12,13,14]) (hS (hS (hR [4,11,12,13,14,66]) (hN [4,11,12,13,14] (hS (hR [4]) hL) hL)) (hS (hR [4,12,14,15]) (hS (hR [4]) hL))))))))))),nils:=[],modes:=[(3,0)],free:=[],cob:=[] }
def A34 (N:Nat):List (Nat×Tw):=[(95,Akk N),(130,A0m N),(99,Wb N),(131,Qp N),(101,Ph N),(132,Ff N),(134,Blz N),(133,Yw N),(103,Au3 N),(135,Ah4 N)]
def Aii (N:Nat):Env:=mkE 86 Ave (A34 N)
def Bsw (N:Nat) (F:KF R):=Aq (Aii N) Tryz.f81 Ave.modes [] F
def Avf (N:Nat) (F:KF R):=atF (Aii N) [] N Tryz.f81 Ave (Bsw N F)
def Ts  (F:KF R):LA→Option R:=(fun ay=>F (.pagg ay false) [])
def Avg (c:Bool) (a:LA) (d:Bool) (b:LA):St:={ s:=[(2,(.optr 300000 0)),(3,(.optr 300001 0)),(4,(.optr 300002 0))],h:=[(300000,⟨false,false,true,c,0,a,false⟩),(300001,⟨false,false,true,d,0,b,false⟩),(300002,⟨false,false,false,false,0,[(.bool false),.nsl,.nsl],false⟩)] }
def Bl0 (N:Nat) (F:KF R):St→Option R:=Bm (Aii N) [] N (Avf N F [1,1,1,1,1,1] [])
def Bl1 (N:Nat) (F:KF R):St→Option R:=Bq (Aii N) [] N (Avf N F [1,1,1,1,1,1] [])
def Avh (g e i f:Int) (c:Bool) (a:LA) (d:Bool) (b:LA) (j:Bool):St:={ s:=[(2,(.optr 300000 0)),(3,(.optr 300001 0)),(4,(.optr 300002 0)),(5,(.int .i64 g)),(6,(.int .i64 e)),(8,(.int .i64 i)),(9,(.int .i64 f)),(41,(.bool j))],h:=[(300000,⟨false,false,true,c,0,a,false⟩),(300001,⟨false,false,true,d,0,b,false⟩),(300002,⟨false,false,false,false,0,[(.bool false),.nsl,.nsl],false⟩)] }
def Bl2 (N:Nat) (F:KF R):St→Option R:=Bm (Aii N) [] N (Avf N F [1,1,1,1,1,0,1] [])
def Bl3 (N:Nat) (F:KF R):St→Option R:=Bq (Aii N) [] N (Avf N F [1,1,1,1,1,0,1] [])
theorem Bom (N:Nat)  (F:KF R) (c:Bool) (a:LA) (d:Bool) (b:LA):Bl1 N F (Avg c a d b)=(Aih N (Ts F) c a d b):=by
 have hK:Bl1 N F (Avg c a d b)=(Alh N (Ts F) c a d b):=by kernel_rfl
 exact hK
theorem Bon (N:Nat)  (F:KF R) (g e i f:Int) (c:Bool) (a:LA) (d:Bool) (b:LA):∀ (j:Bool),Bl3 N F (Avh g e i f c a d b j)=(Tr N (Ts F) g e i f c a d b j):=by
 intro j
 have e1:=(show Bl0 N F (Avg c a d b)=_ from (As ..).trans (Bom N F c a d b))
 have hK:Bl3 N F (Avh g e i f c a d b j)=(Ali N (Ts F) g e i f c a d b (Bl0 N F (Avg c a d b)) j):=by kernel_rfl
 exact hK.trans (by rw [e1];rfl)
theorem A7u (N:Nat) (a:LA) (c:Bool) (b:LA) (d:Bool) (F:KF R):Ac Tryz.prog muts (A34 N) Ave N 81 [(.pagg a c),(.pagg b d)] [] F=(Art N a c b d (Ts F)):=by
 have e1:=funext fun g=>funext fun e=>funext fun i=>funext fun f=>funext fun j=>(show Bl2 N F (Avh g e i f c a d b j)=_ from (As ..).trans (Bon N F g e i f c a d b j))
 have hK:Ac Tryz.prog muts (A34 N) Ave N 81 [(.pagg a c),(.pagg b d)] [] F=(A32 N (Ts F) (fun g e i f j=>Bl2 N F (Avh g e i f c a d b j)) a c b d):=by kernel_rfl
 rw [Alj]
 exact hK.trans (by rw [e1];rfl)
def Alk (N:Nat) (args:List AV) (h:Aj) (k:KF R):Option R :=
 match args,h with
 | [(.pagg a c),(.pagg b d)],[]=>(Art N a c b d (Ts k))
 | _,_=>none
def A7v (N:Nat):Tw:=⟨Alk N,fun args h k=>by
 unfold Alk;split
 exact twE (A7u ..) (A7u ..)
 rfl⟩
theorem Bl4 (N:Nat):A1 Tryz.prog 81 (A7v N):=fun args h res ah hh=>by
 change Alk N args h (fun v ah=>some (v,ah))=_ at hh
 unfold Alk at hh;split at hh
 exact Aa (T:=A34 N) ⟨Azt N,Bgs N,Ad5 N,Abn N,V9 N,Hu N,Bu9 N,Ald N,A7b N,Au2 N,trivial⟩ follows ((A7u ..).trans hh)
 cases hh
def Boo (N:Nat) (r0:LA→Option R)  (a:LA) (b:Bool) (c:LA) (d:Bool):Option R :=
 (rdB a fun g=>(rdL 1 (List.drop 1 a) fun i j=>(rdL 1 (List.drop 2 a) fun l m=>(cond (Nat.beq (List.length a) 3) (rdB c fun n=>(rdL 1 (List.drop 1 c) fun o p=>(rdL 1 (List.drop 2 c) fun q r=>(cond (Nat.beq (List.length c) 3) (Art N [(.bool g),(.imm i j 1 false b),(.imm l m 1 false b)] (b||(b||false)) [(.bool (!n)),(.imm o p 1 false d),(.imm q r 1 false d)] (d||(d||false)) (fun e=>(cond ((Nat.beq 0 0)&&((Nat.beq (List.length e) 3)&&(Nat.beq 3 3))) (cond (Nat.ble 3 (List.length e)) (r0 (List.take 3 e)) none) none))) none)))) none))))
def Bop (N:Nat) (a:LA) (b:Bool) (c:LA) (d:Bool) (r0:LA→Option R):Option R:=(Boo N r0 a b c d)
def Aru:=(Ai (@Bop R)).1
theorem Bgv:@Aru R=@Bop R:=(Ai _).2
def Bl5:Hints:={ H:=(hS (hR [2,3,4]) (hS (hR [2,3,4]) (hS (hR [4]) hL))),nils:=[],modes:=[(3,0)],free:=[],cob:=[2,3] }
def Bgw (N:Nat):List (Nat×Tw):=[(81,A7v N)]
def A7w  (F:KF R):LA→Option R:=(fun s=>F (.pagg s false) [])
theorem A7x (N:Nat) (a:LA) (b:Bool) (c:LA) (d:Bool) (F:KF R):Ac Tryz.prog muts (Bgw N) Bl5 N 83 [(.pagg a b),(.pagg c d)] [] F=(Aru N a b c d (A7w F)):=by
 have hK:Ac Tryz.prog muts (Bgw N) Bl5 N 83 [(.pagg a b),(.pagg c d)] [] F=(Boo N (A7w F) a b c d):=by kernel_rfl
 rw [Bgv]
 exact hK
def All (N:Nat) (args:List AV) (h:Aj) (k:KF R):Option R :=
 match args,h with
 | [(.pagg a b),(.pagg c d)],[]=>(Aru N a b c d (A7w k))
 | _,_=>none
def Bl6 (N:Nat):Tw:=⟨All N,fun args h k=>by
 unfold All;split
 exact twE (A7x ..) (A7x ..)
 rfl⟩
theorem Bva (N:Nat):A1 Tryz.prog 83 (Bl6 N):=fun args h res f hh=>by
 change All N args h (fun v f=>some (v,f))=_ at hh
 unfold All at hh;split at hh
 exact Aa (T:=Bgw N) ⟨Bl4 N,trivial⟩ follows ((A7x ..).trans hh)
 cases hh
def Bdn (N:Nat) (r0:LA→Option R)  (a:LA) (c:Bool) (b:LA) (d:Bool):Option R :=
 (cond (Nat.ble 3 (List.length a)) (cond (Nat.ble 3 (List.length b)) (G0 N (List.take 3 a) c (List.take 3 b) d (fun i=>(cond (decide (i≤(0:Int))) (cond (Nat.ble 3 (List.length a)) (Aea N (List.take 3 a) c (fun e=>(cond ((Nat.beq 0 0)&&((Nat.beq (List.length e) 3)&&(Nat.beq 3 3))) (cond (Nat.ble 3 (List.length e)) (r0 (List.take 3 e)) none) none))) none) (cond (Nat.ble 3 (List.length b)) (Aea N (List.take 3 b) d (fun f=>(cond ((Nat.beq 0 0)&&((Nat.beq (List.length f) 3)&&(Nat.beq 3 3))) (cond (Nat.ble 3 (List.length f)) (r0 (List.take 3 f)) none) none))) none)))) none) none)
def Bdo (N:Nat) (a:LA) (c:Bool) (b:LA) (d:Bool) (r0:LA→Option R):Option R:=(Bdn N r0 a c b d)
def A7y:=(Ai (@Bdo R)).1
theorem A0p:@A7y R=@Bdo R:=(Ai _).2
def Bl7:Hints:={ H:=(hS (hR [2,3,4]) (hS (hS (hR [2,3,4,8]) (hN [3,4] (hS (hR [4]) hL) hL)) (hS (hR [4]) hL))),nils:=[],modes:=[(3,0)],free:=[],cob:=[] }
def Bgx (N:Nat):List (Nat×Tw):=[(59,U4 N),(130,A0m N)]
def A7z  (F:KF R):LA→Option R:=(fun j=>F (.pagg j false) [])
theorem A70 (N:Nat) (a:LA) (c:Bool) (b:LA) (d:Bool) (F:KF R):Ac Tryz.prog muts (Bgx N) Bl7 N 96 [(.pagg a c),(.pagg b d)] [] F=(A7y N a c b d (A7z F)):=by
 have hK:Ac Tryz.prog muts (Bgx N) Bl7 N 96 [(.pagg a c),(.pagg b d)] [] F=(Bdn N (A7z F) a c b d):=by kernel_rfl
 rw [A0p]
 exact hK
def Alm (N:Nat) (args:List AV) (h:Aj) (k:KF R):Option R :=
 match args,h with
 | [(.pagg a c),(.pagg b d)],[]=>(A7y N a c b d (A7z k))
 | _,_=>none
def Bl8 (N:Nat):Tw:=⟨Alm N,fun args h k=>by
 unfold Alm;split
 exact twE (A70 ..) (A70 ..)
 rfl⟩
theorem Bvb (N:Nat):A1 Tryz.prog 96 (Bl8 N):=fun args h res g hh=>by
 change Alm N args h (fun v g=>some (v,g))=_ at hh
 unfold Alm at hh;split at hh
 exact Aa (T:=Bgx N) ⟨Agg N,Bgs N,trivial⟩ follows ((A70 ..).trans hh)
 cases hh
def A0q (N:Nat)  (r0:LA→Option R) (c:Bool) (a:LA) (d:Bool) (b:LA)   :Option R :=
 (cond (Nat.ble 3 (List.length a)) (Jg N (List.take 3 a) c (fun e n o p q=>(cond ((Nat.beq 0 0)&&((Nat.beq (List.length e) 2)&&(Nat.beq 2 2))) (cond (Nat.ble 3 (List.length b)) (Jg N (List.take 3 b) d (fun f r t u w=>(cond ((Nat.beq 0 0)&&((Nat.beq (List.length f) 2)&&(Nat.beq 2 2))) (cond (Nat.ble 2 (List.length e)) (cond (Nat.ble 2 (List.length f)) (Akw N (List.take 2 e) n (List.take 2 f) r (fun x j y=>(Akt N o p false q t u false w (fun l z=>(Mi N [(.bool x),(.imm (List.take (j*1) y) j 1 false true)] true (List.take (l*1) z) l false true (fun g=>(cond ((Nat.beq 0 0)&&((Nat.beq (List.length g) 3)&&(Nat.beq 3 3))) (cond (Nat.ble 3 (List.length g)) (r0 (List.take 3 g)) none) none))))))) none) none) none))) none) none))) none)
def Avi (N:Nat)  (r0:LA→Option R) (c:Bool) (a:LA) (d:Bool) (b:LA) :Option R:=(A0q N r0 c a d b)
def A35 (N:Nat) (r0:LA→Option R) (q0:Option R) (a:LA) (c:Bool) (b:LA) (d:Bool):Option R :=
 (cond (Nat.ble 3 (List.length a)) (Fq N (List.take 3 a) c (fun aa ab ac=>(cond (Nat.ble 3 (List.length b)) (Fq N (List.take 3 b) d (fun ad ae af=>(cond (ac==true) (cond (cond true af false) (Ih N (IntKind.wrap .i64 (aa*ad)) (IntKind.wrap .i64 (ab*ae)) (fun i=>(cond ((Nat.beq 0 0)&&((Nat.beq (List.length i) 3)&&(Nat.beq 3 3))) (cond (Nat.ble 3 (List.length i)) (r0 (List.take 3 i)) none) none))) q0) q0))) none))) none)
def A36 (N:Nat) (a:LA) (c:Bool) (b:LA) (d:Bool) (r0:LA→Option R):Option R:=(A35 N r0 (Avi N r0 c a d b) a c b d)
def A71:=(Ai (@A36 R)).1
theorem Aln:@A71 R=@A36 R:=(Ai _).2
def Avj:Hints:={ H:=(hS (hR [2,3,4]) (hS (hR [2,3,4,5,6,7]) (hS (hR [2,3,4,5,6,7,8,9,10]) (hJ (hS (hR [2,3,4,5,6,8,9,30]) (hN [2,3,4] (hS (hR [4]) hL) hL)) (hS (hR [3,4,11,12]) (hS (hR [4,11,12,13,14]) (hS (hR [4]) hL))))))),nils:=[],modes:=[(3,0)],free:=[],cob:=[] }
def A37 (N:Nat):List (Nat×Tw):=[(99,Wb N),(131,Qp N),(101,Ph N),(103,Au3 N),(135,Ah4 N),(133,Yw N)]
def A38 (N:Nat):Env:=mkE 55 Avj (A37 N)
def Bsx (N:Nat) (F:KF R):=Aq (A38 N) Tryz.f82 Avj.modes [] F
def Bl9 (N:Nat) (F:KF R):=atF (A38 N) [] N Tryz.f82 Avj (Bsx N F)
def Aij  (F:KF R):LA→Option R:=(fun ag=>F (.pagg ag false) [])
def Avk (c:Bool) (a:LA) (d:Bool) (b:LA):St:={ s:=[(2,(.optr 300000 0)),(3,(.optr 300001 0)),(4,(.optr 300002 0))],h:=[(300000,⟨false,false,true,c,0,a,false⟩),(300001,⟨false,false,true,d,0,b,false⟩),(300002,⟨false,false,false,false,0,[(.bool false),.nsl,.nsl],false⟩)] }
def Bma (N:Nat) (F:KF R):St→Option R:=Bm (A38 N) [] N (Bl9 N F [1,1,1,1] [])
def Bmb (N:Nat) (F:KF R):St→Option R:=Bq (A38 N) [] N (Bl9 N F [1,1,1,1] [])
theorem Boq (N:Nat)  (F:KF R) (c:Bool) (a:LA) (d:Bool) (b:LA):Bmb N F (Avk c a d b)=(Avi N (Aij F) c a d b):=by
 have hK:Bmb N F (Avk c a d b)=(A0q N (Aij F) c a d b):=by kernel_rfl
 exact hK
theorem A72 (N:Nat) (a:LA) (c:Bool) (b:LA) (d:Bool) (F:KF R):Ac Tryz.prog muts (A37 N) Avj N 82 [(.pagg a c),(.pagg b d)] [] F=(A71 N a c b d (Aij F)):=by
 have e1:=(show Bma N F (Avk c a d b)=_ from (As ..).trans (Boq N F c a d b))
 have hK:Ac Tryz.prog muts (A37 N) Avj N 82 [(.pagg a c),(.pagg b d)] [] F=(A35 N (Aij F) (Bma N F (Avk c a d b)) a c b d):=by kernel_rfl
 rw [Aln]
 exact hK.trans (by rw [e1];rfl)
def Alo (N:Nat) (args:List AV) (h:Aj) (k:KF R):Option R :=
 match args,h with
 | [(.pagg a c),(.pagg b d)],[]=>(A71 N a c b d (Aij k))
 | _,_=>none
def Bmc (N:Nat):Tw:=⟨Alo N,fun args h k=>by
 unfold Alo;split
 exact twE (A72 ..) (A72 ..)
 rfl⟩
theorem Bvc (N:Nat):A1 Tryz.prog 82 (Bmc N):=fun args h res m hh=>by
 change Alo N args h (fun v m=>some (v,m))=_ at hh
 unfold Alo at hh;split at hh
 exact Aa (T:=A37 N) ⟨Ad5 N,Abn N,V9 N,A7b N,Au2 N,Ald N,trivial⟩ follows ((A72 ..).trans hh)
 cases hh
def A73 (N:Nat) (r0:LA→Option R)  (a:LA) (b:Bool):Option R :=
 (cond (Nat.ble 2 (List.length a)) (rdL 1 (List.drop 2 a) fun e f=>(Kx N (List.take 2 a) b [(.bool false),(.imm e f 1 false b)] (b||false) (fun c=>(cond ((Nat.beq 0 0)&&((Nat.beq (List.length c) 3)&&(Nat.beq 3 3))) (cond (Nat.ble 3 (List.length c)) (r0 (List.take 3 c)) none) none)))) none)
def A74 (N:Nat) (a:LA) (b:Bool) (r0:LA→Option R):Option R:=(A73 N r0 a b)
def H1:=(Ai (@A74 R)).1
theorem A39:@H1 R=@A74 R:=(Ai _).2
def Ba2:Hints:={ H:=(hS (hR [1,2]) (hS (hR [2]) hL)),nils:=[],modes:=[(3,0)],free:=[],cob:=[] }
def A0r (N:Nat):List (Nat×Tw):=[(54,Ky N)]
def Arv  (F:KF R):LA→Option R:=(fun g=>F (.pagg g false) [])
theorem Arw (N:Nat) (a:LA) (b:Bool) (F:KF R):Ac Tryz.prog muts (A0r N) Ba2 N 70 [(.pagg a b)] [] F=(H1 N a b (Arv F)):=by
 have hK:Ac Tryz.prog muts (A0r N) Ba2 N 70 [(.pagg a b)] [] F=(A73 N (Arv F) a b):=by kernel_rfl
 rw [A39]
 exact hK
def Yx (N:Nat) (args:List AV) (h:Aj) (k:KF R):Option R :=
 match args,h with
 | [(.pagg a b)],[]=>(H1 N a b (Arv k))
 | _,_=>none
def K3 (N:Nat):Tw:=⟨Yx N,fun args h k=>by
 unfold Yx;split
 exact twE (Arw ..) (Arw ..)
 rfl⟩
theorem Pl (N:Nat):A1 Tryz.prog 70 (K3 N):=fun args h res d hh=>by
 change Yx N args h (fun v d=>some (v,d))=_ at hh
 unfold Yx at hh;split at hh
 exact Aa (T:=A0r N) ⟨Pf N,trivial⟩ follows ((Arw ..).trans hh)
 cases hh
def Bgy (N:Nat) (r0:LA→Option R)  (a:LA) (b:Bool):Option R :=
 (cond (Nat.ble 3 (List.length a)) (H1 N (List.take 3 a) b (fun d=>(rdL 1 (List.drop 2 d) fun e f=>(r0 [(.bool false),(.imm e f 1 false false)])))) none)
def Bgz (N:Nat) (a:LA) (b:Bool) (r0:LA→Option R):Option R:=(Bgy N r0 a b)
def Qy:=(Ai (@Bgz R)).1
theorem Ba3:@Qy R=@Bgz R:=(Ai _).2
def Bg0:Hints:={ H:=(hS (hR [1,2]) (hS (hR [2]) hL)),nils:=[],modes:=[(3,0)],free:=[],cob:=[] }
def A75 (N:Nat):List (Nat×Tw):=[(70,K3 N)]
def A0s  (F:KF R):LA→Option R:=(fun g=>F (.pagg g false) [])
theorem A0t (N:Nat) (a:LA) (b:Bool) (F:KF R):Ac Tryz.prog muts (A75 N) Bg0 N 73 [(.pagg a b)] [] F=(Qy N a b (A0s F)):=by
 have hK:Ac Tryz.prog muts (A75 N) Bg0 N 73 [(.pagg a b)] [] F=(Bgy N (A0s F) a b):=by kernel_rfl
 rw [Ba3]
 exact hK
def Aec (N:Nat) (args:List AV) (h:Aj) (k:KF R):Option R :=
 match args,h with
 | [(.pagg a b)],[]=>(Qy N a b (A0s k))
 | _,_=>none
def Alp (N:Nat):Tw:=⟨Aec N,fun args h k=>by
 unfold Aec;split
 exact twE (A0t ..) (A0t ..)
 rfl⟩
theorem A0u (N:Nat):A1 Tryz.prog 73 (Alp N):=fun args h res c hh=>by
 change Aec N args h (fun v c=>some (v,c))=_ at hh
 unfold Aec at hh;split at hh
 exact Aa (T:=A75 N) ⟨Pl N,trivial⟩ follows ((A0t ..).trans hh)
 cases hh
def Bg1 (N:Nat) (r0:LA→Option R)  (a:LA) (b:Bool):Option R :=
 (cond (Nat.ble 3 (List.length a)) (H1 N (List.take 3 a) b (fun d=>(cond (Nat.ble 2 (List.length d)) (Yc N (List.take 2 d) false (fun f=>(cond (Nat.ble 3 (List.length a)) (Qy N (List.take 3 a) b (fun g=>(Kx N f false g false (fun c=>(cond ((Nat.beq 0 0)&&((Nat.beq (List.length c) 3)&&(Nat.beq 3 3))) (cond (Nat.ble 3 (List.length c)) (r0 (List.take 3 c)) none) none))))) none))) none))) none)
def Bg2 (N:Nat) (a:LA) (b:Bool) (r0:LA→Option R):Option R:=(Bg1 N r0 a b)
def A4a:=(Ai (@Bg2 R)).1
theorem Ba4:@A4a R=@Bg2 R:=(Ai _).2
def Bg3:Hints:={ H:=(hS (hR [1,2]) (hS (hR [2]) hL)),nils:=[],modes:=[(3,0)],free:=[],cob:=[] }
def A76 (N:Nat):List (Nat×Tw):=[(70,K3 N),(92,Aj4 N),(73,Alp N),(54,Ky N)]
def A0v  (F:KF R):LA→Option R:=(fun i=>F (.pagg i false) [])
theorem A0w (N:Nat) (a:LA) (b:Bool) (F:KF R):Ac Tryz.prog muts (A76 N) Bg3 N 74 [(.pagg a b)] [] F=(A4a N a b (A0v F)):=by
 have hK:Ac Tryz.prog muts (A76 N) Bg3 N 74 [(.pagg a b)] [] F=(Bg1 N (A0v F) a b):=by kernel_rfl
 rw [Ba4]
 exact hK
def Aed (N:Nat) (args:List AV) (h:Aj) (k:KF R):Option R :=
 match args,h with
 | [(.pagg a b)],[]=>(A4a N a b (A0v k))
 | _,_=>none
def Bg4 (N:Nat):Tw:=⟨Aed N,fun args h k=>by
 unfold Aed;split
 exact twE (A0w ..) (A0w ..)
 rfl⟩
theorem Bsy (N:Nat):A1 Tryz.prog 74 (Bg4 N):=fun args h res e hh=>by
 change Aed N args h (fun v e=>some (v,e))=_ at hh
 unfold Aed at hh;split at hh
 exact Aa (T:=A76 N) ⟨Pl N,Azd N,A0u N,Pf N,trivial⟩ follows ((A0w ..).trans hh)
 cases hh
def Aee (N:Nat) (k0:Nat→Int→LA→Option R) (r0:Nat→LA→Option R) (d:LA) (b:Nat) (f g:Bool) (e:LA) (a:Nat) (i j:Bool) (c:Nat) (k1:Int→Int→Int→LA→Option R)  (l p m:Int) (o:LA):Option R :=
 (cond (decide (m<((a:Nat):Int))) (cond (Am (IntKind.wrap .i64 (l+m)) c) (rdI .u32 (List.drop (0+((Int.toNat (IntKind.wrap .i64 (l+m)))*1)) o) fun t=>(cond (Am l b) (rdI .u32 (List.drop ((Int.toNat l)*1) d) fun u=>(cond (Am m a) (rdI .u32 (List.drop ((Int.toNat m)*1) e) fun w=>(cond (Am (IntKind.wrap .i64 (l+m)) c) (cond ((Nat.beq 1 1)&&((Nat.ble ((0+((Int.toNat (IntKind.wrap .i64 (l+m)))*1))+1) (List.length o))&&(!false))) (k1 l (Int.fdiv (IntKind.wrap .u64 (p+(IntKind.wrap .u64 ((IntKind.wrap .u64 t)+(IntKind.wrap .u64 ((IntKind.wrap .u64 u)*(IntKind.wrap .u64 w))))))) (2 ^ 32)) (IntKind.wrap .i64 (m+(1:Int))) (List.set o (0+((Int.toNat (IntKind.wrap .i64 (l+m)))*1)) (.int .u32 (IntKind.wrap .u32 (IntKind.wrap .u64 (p+(IntKind.wrap .u64 ((IntKind.wrap .u64 t)+(IntKind.wrap .u64 ((IntKind.wrap .u64 u)*(IntKind.wrap .u64 w))))))))))) none) none)) none)) none)) none) (cond (Am (IntKind.wrap .i64 (l+((a:Nat):Int))) c) (cond ((Nat.beq 1 1)&&((Nat.ble ((0+((Int.toNat (IntKind.wrap .i64 (l+((a:Nat):Int))))*1))+1) (List.length o))&&(!false))) (k0 c (IntKind.wrap .i64 (l+(1:Int))) (List.set o (0+((Int.toNat (IntKind.wrap .i64 (l+((a:Nat):Int))))*1)) (.int .u32 (IntKind.wrap .u32 p)))) none) none))
def O2 (N:Nat) (k0:Nat→Int→LA→Option R) (r0:Nat→LA→Option R) (d:LA) (b:Nat) (f g:Bool) (e:LA) (a:Nat) (i j:Bool) (c:Nat):Nat→Int→Int→Int→LA→Option R
 | 0,_,_,_,_=>none
 | n+1,l,p,m,o=>(Aee N k0 r0 d b f g e a i j c (O2 N k0 r0 d b f g e a i j c n) l p m o)
def Aef (N:Nat)  (r0:Nat→LA→Option R) (d:LA) (b:Nat) (f g:Bool) (e:LA) (a:Nat) (i j:Bool) (k0:Nat→Int→LA→Option R) (q1:Int→Int→Int→LA→Option R) (c:Nat) (q:Int) (r:LA):Option R :=
 (cond (decide (q<((b:Nat):Int))) (q1 q 0 0 r) (C1 N (List.take (c*1) r) c false true (fun y z=>(r0 y z))))
def I5 (N:Nat)  (r0:Nat→LA→Option R) (d:LA) (b:Nat) (f g:Bool) (e:LA) (a:Nat) (i j:Bool):Nat→Nat→Int→LA→Option R
 | 0,_,_,_=>none
 | n+1,c,q,r=>(Aef N r0 d b f g e a i j (I5 N r0 d b f g e a i j n) (fun l p m o=>(O2 N (I5 N r0 d b f g e a i j n) r0 d b f g e a i j c N l p m o)) c q r)
def Bg5 (N:Nat) (r0:Nat→LA→Option R) (q0:Nat→Int→LA→Option R) (d:LA) (b:Nat) (f g:Bool) (e:LA) (a:Nat) (i j:Bool):Option R :=
 (cond ((decide ((0:Int)≤(IntKind.wrap .i64 (((b:Nat):Int)+((a:Nat):Int)))))&&((decide ((IntKind.wrap .i64 (((b:Nat):Int)+((a:Nat):Int)))≤(IntKind.wrap .i64 (((b:Nat):Int)+((a:Nat):Int)))))&&((decide ((IntKind.wrap .i64 (((b:Nat):Int)+((a:Nat):Int)))≤(140737488355328:Int)))&&(decide (((IntKind.wrap .i64 (((b:Nat):Int)+((a:Nat):Int)))*((4:Nat):Int))≤(140737488355328:Int)))))) (q0 (Int.toNat (IntKind.wrap .i64 (((b:Nat):Int)+((a:Nat):Int)))) 0 (List.replicate (Int.toNat (IntKind.wrap .i64 (((b:Nat):Int)+((a:Nat):Int)))) (.int .u32 0))) none)
def Bg6 (N:Nat) (d:LA) (b:Nat) (f g:Bool) (e:LA) (a:Nat) (i j:Bool) (r0:Nat→LA→Option R):Option R:=(Bg5 N r0 (fun c q r=>(I5 N r0 d b f g e a i j N c q r)) d b f g e a i j)
def A4b:=(Ai (@Bg6 R)).1
theorem Ba5:@A4b R=@Bg6 R:=(Ai _).2
def Alq:Hints:={ H:=(hS (hR [0,1]) (hS (hR [0,1,5]) (hS (hS (hR [0,1,5,6]) (hN [5] (hN [0,1,5,6] (hS (hS (hR [0,1,5,6,18]) (hN [0,1,5,6] hL hL)) (hS (hN [0,1,5,6] (hS (hR [0,1,5,6,7]) (hS (hS (hR [0,1,5,6,7,8]) (hN [0,1,5,6,7] (hN [0,1,5,6,7,8] (hS (hS (hR [0,1,5,6,7,8,24]) (hN [0,1,5,6,7,8] hL hL)) (hS (hN [0,1,5,6,7,8] (hS (hR [0,1,5,6,7,8]) (hS (hR [0,1,5,6,7,8]) (hR [0,1,5,6,7,8]))) hL) (hR [0,1,5,6,7,8]))) hL) hL)) (hR [0,1,5,6]))) hL) (hR [0,1,5,6]))) hL) hL)) (hS (hR [4]) hL)))),nils:=[(4,1)],modes:=[(2,1)],free:=[],cob:=[] }
def Avl (N:Nat):List (Nat×Tw):=[(143,D7 N)]
def Z1 (N:Nat):Env:=mkE 67 Alq (Avl N)
def Bqt (N:Nat) (F:KF R):=Aq (Z1 N) Tryz.f124 Alq.modes [] F
def Alr (N:Nat) (F:KF R):=atF (Z1 N) [] N Tryz.f124 Alq (Bqt N F)
def I6  (F:KF R):Nat→LA→Option R:=(fun aa ab=>F (.own 300000 0 aa) [(300000,⟨false,false,true,false,1,ab,false⟩)])
def Tt (d:LA) (b:Nat) (f g:Bool) (e:LA) (a:Nat) (i j:Bool) (c:Nat) (l p m:Int) (o:LA):St:={ s:=[(0,(.imm d b 1 f g)),(1,(.imm e a 1 i j)),(5,(.own 300000 0 c)),(6,(.int .i64 l)),(7,(.int .u64 p)),(8,(.int .i64 m))],h:=[(300000,⟨false,false,true,false,1,o,false⟩)] }
def Bg7 (N:Nat) (F:KF R) (Q0:St→Option R):St→Option R:=Bx (Z1 N) [] N (Alr N F [1,1,0,1,0,0,1,0,0,1,0,1,0] [Q0]) N
def Als (N:Nat) (F:KF R) (Q0:St→Option R) (n:Nat):St→Option R:=Ba (Z1 N) [] N (Alr N F [1,1,0,1,0,0,1,0,0,1,0,1,0] [Q0]) n
def K4 (d:LA) (b:Nat) (f g:Bool) (e:LA) (a:Nat) (i j:Bool) (c:Nat) (q:Int) (r:LA):St:={ s:=[(0,(.imm d b 1 f g)),(1,(.imm e a 1 i j)),(5,(.own 300000 0 c)),(6,(.int .i64 q))],h:=[(300000,⟨false,false,true,false,1,r,false⟩)] }
def Bg8 (N:Nat) (F:KF R):St→Option R:=Bx (Z1 N) [] N (Alr N F [1,1,0,1,0] []) N
def O3 (N:Nat) (F:KF R) (n:Nat):St→Option R:=Ba (Z1 N) [] N (Alr N F [1,1,0,1,0] []) n
theorem Bkg (N:Nat) (Q0:St→Option R) (F:KF R) (d:LA) (b:Nat) (f g:Bool) (e:LA) (a:Nat) (i j:Bool) (c:Nat):∀ (n:Nat) (l p m:Int) (o:LA),Als N F Q0 n (Tt d b f g e a i j c l p m o)=(O2 N (fun c q r=>Q0 (K4 d b f g e a i j c q r)) (I6 F) d b f g e a i j c n l p m o):=by
 intro n
 induction n with
 | zero=>intros;kernel_rfl
 | succ n ih =>
  intro l p m o
  have e0:=funext fun l=>funext fun p=>funext fun m=>funext fun o=>(show Als N F Q0 n (Tt d b f g e a i j c l p m o)=_ from ih l p m o)
  have hK:Als N F Q0 (n+1) (Tt d b f g e a i j c l p m o)=(Aee N (fun c q r=>Q0 (K4 d b f g e a i j c q r)) (I6 F) d b f g e a i j c (fun l p m o=>Als N F Q0 n (Tt d b f g e a i j c l p m o)) l p m o):=by kernel_rfl
  exact hK.trans (by rw [e0];rfl)
theorem Bkh (N:Nat)  (F:KF R) (d:LA) (b:Nat) (f g:Bool) (e:LA) (a:Nat) (i j:Bool):∀ (n c:Nat) (q:Int) (r:LA),O3 N F n (K4 d b f g e a i j c q r)=(I5 N (I6 F) d b f g e a i j n c q r):=by
 intro n
 induction n with
 | zero=>intros;kernel_rfl
 | succ n ih =>
  intro c q r
  have e0:=funext fun c=>funext fun q=>funext fun r=>(show O3 N F n (K4 d b f g e a i j c q r)=_ from ih c q r)
  have e1:(fun l p m o=>Bg7 N F (O3 N F n) (Tt d b f g e a i j c l p m o))=(fun l p m o=>(O2 N (I5 N (I6 F) d b f g e a i j n) (I6 F) d b f g e a i j c N l p m o)):=by funext l;funext p;funext m;funext o;exact ((Ar ..).trans (Bkg N (O3 N F n) F d b f g e a i j c N l p m o)).trans (by rw [e0])
  have hK:O3 N F (n+1) (K4 d b f g e a i j c q r)=(Aef N (I6 F) d b f g e a i j (fun c q r=>O3 N F n (K4 d b f g e a i j c q r)) (fun l p m o=>Bg7 N F (O3 N F n) (Tt d b f g e a i j c l p m o)) c q r):=by kernel_rfl
  exact hK.trans (by rw [e0,e1];rfl)
theorem A0x (N:Nat) (d:LA) (b:Nat) (f g:Bool) (e:LA) (a:Nat) (i j:Bool) (F:KF R):Ac Tryz.prog muts (Avl N) Alq N 124 [(.imm d b 1 f g),(.imm e a 1 i j)] [] F=(A4b N d b f g e a i j (I6 F)):=by
 have e1:=funext fun c=>funext fun q=>funext fun r=>(show Bg8 N F (K4 d b f g e a i j c q r)=_ from (Ar ..).trans (Bkh N F d b f g e a i j N c q r))
 have hK:Ac Tryz.prog muts (Avl N) Alq N 124 [(.imm d b 1 f g),(.imm e a 1 i j)] [] F=(Bg5 N (I6 F) (fun c q r=>Bg8 N F (K4 d b f g e a i j c q r)) d b f g e a i j):=by kernel_rfl
 rw [Ba5]
 exact hK.trans (by rw [e1];rfl)
def Aeg (N:Nat) (args:List AV) (h:Aj) (k:KF R):Option R :=
 match args,h with
 | [(.imm d b 1 f g),(.imm e a 1 i j)],[]=>(A4b N d b f g e a i j (I6 k))
 | _,_=>none
def Bg9 (N:Nat):Tw:=⟨Aeg N,fun args h k=>by
 unfold Aeg;split
 exact twE (A0x ..) (A0x ..)
 rfl⟩
theorem Bsz (N:Nat):A1 Tryz.prog 124 (Bg9 N):=fun args h res x hh=>by
 change Aeg N args h (fun v x=>some (v,x))=_ at hh
 unfold Aeg at hh;split at hh
 exact Aa (T:=Avl N) ⟨E2 N,trivial⟩ follows ((A0x ..).trans hh)
 cases hh
def Bha (N:Nat) (r0:LA→Option R)  (a:LA) (c:Bool) (b:LA) (d:Bool):Option R :=
 (rdB a fun i=>(rdB b fun j=>(rdL 1 (List.drop 1 a) fun l m=>(rdL 1 (List.drop 1 b) fun n o=>(A4b N l m false c n o false d (fun f p=>(Es N (!(i==j)) (List.take (f*1) p) f false true (fun e=>(cond ((Nat.beq 0 0)&&((Nat.beq (List.length e) 2)&&(Nat.beq 2 2))) (cond (Nat.ble 2 (List.length e)) (r0 (List.take 2 e)) none) none)))))))))
def Bhb (N:Nat) (a:LA) (c:Bool) (b:LA) (d:Bool) (r0:LA→Option R):Option R:=(Bha N r0 a c b d)
def Vf:=(Ai (@Bhb R)).1
theorem Ba6:@Vf R=@Bhb R:=(Ai _).2
def Bhc:Hints:={ H:=(hS (hR [2,3,4]) (hS (hR [4]) hL)),nils:=[],modes:=[(3,0)],free:=[],cob:=[] }
def A77 (N:Nat):List (Nat×Tw):=[(124,Bg9 N),(93,Gl N)]
def A0y  (F:KF R):LA→Option R:=(fun q=>F (.pagg q false) [])
theorem A0z (N:Nat) (a:LA) (c:Bool) (b:LA) (d:Bool) (F:KF R):Ac Tryz.prog muts (A77 N) Bhc N 72 [(.pagg a c),(.pagg b d)] [] F=(Vf N a c b d (A0y F)):=by
 have hK:Ac Tryz.prog muts (A77 N) Bhc N 72 [(.pagg a c),(.pagg b d)] [] F=(Bha N (A0y F) a c b d):=by kernel_rfl
 rw [Ba6]
 exact hK
def Aeh (N:Nat) (args:List AV) (h:Aj) (k:KF R):Option R :=
 match args,h with
 | [(.pagg a c),(.pagg b d)],[]=>(Vf N a c b d (A0y k))
 | _,_=>none
def A00 (N:Nat):Tw:=⟨Aeh N,fun args h k=>by
 unfold Aeh;split
 exact twE (A0z ..) (A0z ..)
 rfl⟩
theorem Bhd (N:Nat):A1 Tryz.prog 72 (A00 N):=fun args h res g hh=>by
 change Aeh N args h (fun v g=>some (v,g))=_ at hh
 unfold Aeh at hh;split at hh
 exact Aa (T:=A77 N) ⟨Bsz N,If N,trivial⟩ follows ((A0z ..).trans hh)
 cases hh
def Bhe (N:Nat) (r0:LA→Option R)  (a:LA) (c:Bool) (b:LA) (d:Bool):Option R :=
 (cond (Nat.ble 3 (List.length a)) (H1 N (List.take 3 a) c (fun e=>(cond (Nat.ble 3 (List.length b)) (H1 N (List.take 3 b) d (fun f=>(cond ((Nat.beq 0 0)&&((Nat.beq (List.length e) 3)&&(Nat.beq 3 3))) (cond ((Nat.beq 0 0)&&((Nat.beq (List.length f) 3)&&(Nat.beq 3 3))) (cond (Nat.ble 2 (List.length e)) (cond (Nat.ble 3 (List.length b)) (Qy N (List.take 3 b) d (fun j=>(Vf N (List.take 2 e) false j false (fun l=>(cond (Nat.ble 2 (List.length f)) (cond (Nat.ble 3 (List.length a)) (Qy N (List.take 3 a) c (fun m=>(Vf N (List.take 2 f) false m false (fun n=>(Yb N l false n false (fun o=>(cond (Nat.ble 3 (List.length a)) (Qy N (List.take 3 a) c (fun p=>(cond (Nat.ble 3 (List.length b)) (Qy N (List.take 3 b) d (fun q=>(Vf N p false q false (fun r=>(Kx N o false r false (fun g=>(cond ((Nat.beq 0 0)&&((Nat.beq (List.length g) 3)&&(Nat.beq 3 3))) (cond (Nat.ble 3 (List.length g)) (r0 (List.take 3 g)) none) none))))))) none))) none))))))) none) none))))) none) none) none) none))) none))) none)
def Bhf (N:Nat) (a:LA) (c:Bool) (b:LA) (d:Bool) (r0:LA→Option R):Option R:=(Bhe N r0 a c b d)
def Alt:=(Ai (@Bhf R)).1
theorem Ba7:@Alt R=@Bhf R:=(Ai _).2
def Bhg:Hints:={ H:=(hS (hR [2,3,4]) (hS (hR [2,3,4,5,6]) (hS (hR [4]) hL))),nils:=[],modes:=[(3,0)],free:=[],cob:=[] }
def A78 (N:Nat):List (Nat×Tw):=[(70,K3 N),(73,Alp N),(72,A00 N),(71,Aj3 N),(54,Ky N)]
def A01  (F:KF R):LA→Option R:=(fun s=>F (.pagg s false) [])
theorem A02 (N:Nat) (a:LA) (c:Bool) (b:LA) (d:Bool) (F:KF R):Ac Tryz.prog muts (A78 N) Bhg N 32 [(.pagg a c),(.pagg b d)] [] F=(Alt N a c b d (A01 F)):=by
 have hK:Ac Tryz.prog muts (A78 N) Bhg N 32 [(.pagg a c),(.pagg b d)] [] F=(Bhe N (A01 F) a c b d):=by kernel_rfl
 rw [Ba7]
 exact hK
def Aei (N:Nat) (args:List AV) (h:Aj) (k:KF R):Option R :=
 match args,h with
 | [(.pagg a c),(.pagg b d)],[]=>(Alt N a c b d (A01 k))
 | _,_=>none
def A03 (N:Nat):Tw:=⟨Aei N,fun args h k=>by
 unfold Aei;split
 exact twE (A02 ..) (A02 ..)
 rfl⟩
theorem Bhh (N:Nat):A1 Tryz.prog 32 (A03 N):=fun args h res i hh=>by
 change Aei N args h (fun v i=>some (v,i))=_ at hh
 unfold Aei at hh;split at hh
 exact Aa (T:=A78 N) ⟨Pl N,A0u N,Bhd N,Aza N,Pf N,trivial⟩ follows ((A02 ..).trans hh)
 cases hh
def Bhi (N:Nat) (r0:LA→Option R)  (a:LA) (c:Bool) (b:LA) (d:Bool):Option R :=
 (cond (Nat.ble 3 (List.length a)) (cond (Nat.ble 3 (List.length b)) (A4a N (List.take 3 b) d (fun g=>(Alt N (List.take 3 a) c g false (fun e=>(cond ((Nat.beq 0 0)&&((Nat.beq (List.length e) 3)&&(Nat.beq 3 3))) (cond (Nat.ble 3 (List.length e)) (r0 (List.take 3 e)) none) none))))) none) none)
def Bhj (N:Nat) (a:LA) (c:Bool) (b:LA) (d:Bool) (r0:LA→Option R):Option R:=(Bhi N r0 a c b d)
def Aej:=(Ai (@Bhj R)).1
theorem Ba8:@Aej R=@Bhj R:=(Ai _).2
def Bhk:Hints:={ H:=(hS (hR [2,3,4]) (hS (hR [4]) hL)),nils:=[],modes:=[(3,0)],free:=[],cob:=[] }
def A79 (N:Nat):List (Nat×Tw):=[(74,Bg4 N),(32,A03 N)]
def A04  (F:KF R):LA→Option R:=(fun i=>F (.pagg i false) [])
theorem A05 (N:Nat) (a:LA) (c:Bool) (b:LA) (d:Bool) (F:KF R):Ac Tryz.prog muts (A79 N) Bhk N 33 [(.pagg a c),(.pagg b d)] [] F=(Aej N a c b d (A04 F)):=by
 have hK:Ac Tryz.prog muts (A79 N) Bhk N 33 [(.pagg a c),(.pagg b d)] [] F=(Bhi N (A04 F) a c b d):=by kernel_rfl
 rw [Ba8]
 exact hK
def Aek (N:Nat) (args:List AV) (h:Aj) (k:KF R):Option R :=
 match args,h with
 | [(.pagg a c),(.pagg b d)],[]=>(Aej N a c b d (A04 k))
 | _,_=>none
def A06 (N:Nat):Tw:=⟨Aek N,fun args h k=>by
 unfold Aek;split
 exact twE (A05 ..) (A05 ..)
 rfl⟩
theorem Bhl (N:Nat):A1 Tryz.prog 33 (A06 N):=fun args h res f hh=>by
 change Aek N args h (fun v f=>some (v,f))=_ at hh
 unfold Aek at hh;split at hh
 exact Aa (T:=A79 N) ⟨Bsy N,Bhh N,trivial⟩ follows ((A05 ..).trans hh)
 cases hh
def A8a (N:Nat) (r0:Int→Option R)  (a:LA) (b:Bool):Option R :=
 (cond (Nat.ble 3 (List.length a)) (H1 N (List.take 3 a) b (fun c=>(cond (Nat.ble 2 (List.length c)) (Aav N (List.take 2 c) false (fun e=>(r0 e))) none))) none)
def A8b (N:Nat) (a:LA) (b:Bool) (r0:Int→Option R):Option R:=(A8a N r0 a b)
def Arx:=(Ai (@A8b R)).1
theorem A4c:@Arx R=@A8b R:=(Ai _).2
def Ba9:Hints:={ H:=(hS (hR [1]) (hS (hR [2]) hL)),nils:=[],modes:=[],free:=[],cob:=[] }
def A07 (N:Nat):List (Nat×Tw):=[(70,K3 N),(75,Ap3 N)]
def Ary  (F:KF R):Int→Option R:=(fun f=>F (.int .i64 f) [])
theorem Arz (N:Nat) (a:LA) (b:Bool) (F:KF R):Ac Tryz.prog muts (A07 N) Ba9 N 34 [(.pagg a b)] [] F=(Arx N a b (Ary F)):=by
 have hK:Ac Tryz.prog muts (A07 N) Ba9 N 34 [(.pagg a b)] [] F=(A8a N (Ary F) a b):=by kernel_rfl
 rw [A4c]
 exact hK
def Yy (N:Nat) (args:List AV) (h:Aj) (k:KF R):Option R :=
 match args,h with
 | [(.pagg a b)],[]=>(Arx N a b (Ary k))
 | _,_=>none
def Bba (N:Nat):Tw:=⟨Yy N,fun args h k=>by
 unfold Yy;split
 exact twE (Arz ..) (Arz ..)
 rfl⟩
theorem Bqu (N:Nat):A1 Tryz.prog 34 (Bba N):=fun args h res d hh=>by
 change Yy N args h (fun v d=>some (v,d))=_ at hh
 unfold Yy at hh;split at hh
 exact Aa (T:=A07 N) ⟨Pl N,Bad N,trivial⟩ follows ((Arz ..).trans hh)
 cases hh
def Alu (N:Nat) (r0:Int→Option R)  (a:LA) (c:Bool) (b:LA) (d:Bool):Option R :=
 (cond (Nat.ble 3 (List.length a)) (cond (Nat.ble 3 (List.length b)) (Aej N (List.take 3 a) c (List.take 3 b) d (fun f=>(Arx N f false (fun g=>(r0 g))))) none) none)
def Alv (N:Nat) (a:LA) (c:Bool) (b:LA) (d:Bool) (r0:Int→Option R):Option R:=(Alu N r0 a c b d)
def A2:=(Ai (@Alv R)).1
theorem Aoi:@A2 R=@Alv R:=(Ai _).2
def Ar0:Hints:={ H:=(hS (hR [2,3]) (hS (hR [4]) hL)),nils:=[],modes:=[],free:=[],cob:=[] }
def Agp (N:Nat):List (Nat×Tw):=[(33,A06 N),(34,Bba N)]
def Ab5  (F:KF R):Int→Option R:=(fun i=>F (.int .i64 i) [])
theorem Ab6 (N:Nat) (a:LA) (c:Bool) (b:LA) (d:Bool) (F:KF R):Ac Tryz.prog muts (Agp N) Ar0 N 25 [(.pagg a c),(.pagg b d)] [] F=(A2 N a c b d (Ab5 F)):=by
 have hK:Ac Tryz.prog muts (Agp N) Ar0 N 25 [(.pagg a c),(.pagg b d)] [] F=(Alu N (Ab5 F) a c b d):=by kernel_rfl
 rw [Aoi]
 exact hK
def N9 (N:Nat) (args:List AV) (h:Aj) (k:KF R):Option R :=
 match args,h with
 | [(.pagg a c),(.pagg b d)],[]=>(A2 N a c b d (Ab5 k))
 | _,_=>none
def H2 (N:Nat):Tw:=⟨N9 N,fun args h k=>by
 unfold N9;split
 exact twE (Ab6 ..) (Ab6 ..)
 rfl⟩
theorem K5 (N:Nat):A1 Tryz.prog 25 (H2 N):=fun args h res e hh=>by
 change N9 N args h (fun v e=>some (v,e))=_ at hh
 unfold N9 at hh;split at hh
 exact Aa (T:=Agp N) ⟨Bhl N,Bqu N,trivial⟩ follows ((Ab6 ..).trans hh)
 cases hh
def Bor (N:Nat) (r0:LA→Option R)  (a b:Int):Option R :=
 (E3 N a (fun e=>(E3 N b (fun f=>(Kx N e false f false (fun c=>(cond ((Nat.beq 0 0)&&((Nat.beq (List.length c) 3)&&(Nat.beq 3 3))) (cond (Nat.ble 3 (List.length c)) (r0 (List.take 3 c)) none) none)))))))
def Bos (N:Nat) (a b:Int) (r0:LA→Option R):Option R:=(Bor N r0 a b)
def A8c:=(Ai (@Bos R)).1
theorem Bhm:@A8c R=@Bos R:=(Ai _).2
def Bmd:Hints:={ H:=(hS (hR [0,1,4]) (hS (hR [4]) hL)),nils:=[],modes:=[(3,0)],free:=[],cob:=[] }
def Bhn (N:Nat):List (Nat×Tw):=[(55,Pz N),(54,Ky N)]
def A8d  (F:KF R):LA→Option R:=(fun g=>F (.pagg g false) [])
theorem A8e (N:Nat) (a b:Int) (F:KF R):Ac Tryz.prog muts (Bhn N) Bmd N 19 [(.int .i64 a),(.int .i64 b)] [] F=(A8c N a b (A8d F)):=by
 have hK:Ac Tryz.prog muts (Bhn N) Bmd N 19 [(.int .i64 a),(.int .i64 b)] [] F=(Bor N (A8d F) a b):=by kernel_rfl
 rw [Bhm]
 exact hK
def Alw (N:Nat) (args:List AV) (h:Aj) (k:KF R):Option R :=
 match args,h with
 | [(.int .i64 a),(.int .i64 b)],[]=>(A8c N a b (A8d k))
 | _,_=>none
def Bme (N:Nat):Tw:=⟨Alw N,fun args h k=>by
 unfold Alw;split
 exact twE (A8e ..) (A8e ..)
 rfl⟩
theorem Bvd (N:Nat):A1 Tryz.prog 19 (Bme N):=fun args h res d hh=>by
 change Alw N args h (fun v d=>some (v,d))=_ at hh
 unfold Alw at hh;split at hh
 exact Aa (T:=Bhn N) ⟨Aat N,Pf N,trivial⟩ follows ((A8e ..).trans hh)
 cases hh
def Bho (N:Nat) (r0:LA→Option R)  (a:LA) (c:Bool) (b:LA) (d:Bool):Option R :=
 (cond (Nat.ble 3 (List.length a)) (cond (Nat.ble 3 (List.length b)) (A2 N (List.take 3 a) c (List.take 3 b) d (fun i=>(cond (decide (i≤(0:Int))) (cond (Nat.ble 3 (List.length a)) (H1 N (List.take 3 a) c (fun e=>(cond ((Nat.beq 0 0)&&((Nat.beq (List.length e) 3)&&(Nat.beq 3 3))) (cond (Nat.ble 3 (List.length e)) (r0 (List.take 3 e)) none) none))) none) (cond (Nat.ble 3 (List.length b)) (H1 N (List.take 3 b) d (fun f=>(cond ((Nat.beq 0 0)&&((Nat.beq (List.length f) 3)&&(Nat.beq 3 3))) (cond (Nat.ble 3 (List.length f)) (r0 (List.take 3 f)) none) none))) none)))) none) none)
def Bhp (N:Nat) (a:LA) (c:Bool) (b:LA) (d:Bool) (r0:LA→Option R):Option R:=(Bho N r0 a c b d)
def Avm:=(Ai (@Bhp R)).1
theorem Bbb:@Avm R=@Bhp R:=(Ai _).2
def Bhq:Hints:={ H:=(hS (hR [2,3,4]) (hS (hS (hR [2,3,4,8]) (hN [3,4] (hS (hR [4]) hL) hL)) (hS (hR [4]) hL))),nils:=[],modes:=[(3,0)],free:=[],cob:=[] }
def A8f (N:Nat):List (Nat×Tw):=[(25,H2 N),(70,K3 N)]
def A08  (F:KF R):LA→Option R:=(fun j=>F (.pagg j false) [])
theorem A09 (N:Nat) (a:LA) (c:Bool) (b:LA) (d:Bool) (F:KF R):Ac Tryz.prog muts (A8f N) Bhq N 97 [(.pagg a c),(.pagg b d)] [] F=(Avm N a c b d (A08 F)):=by
 have hK:Ac Tryz.prog muts (A8f N) Bhq N 97 [(.pagg a c),(.pagg b d)] [] F=(Bho N (A08 F) a c b d):=by kernel_rfl
 rw [Bbb]
 exact hK
def Ael (N:Nat) (args:List AV) (h:Aj) (k:KF R):Option R :=
 match args,h with
 | [(.pagg a c),(.pagg b d)],[]=>(Avm N a c b d (A08 k))
 | _,_=>none
def Bhr (N:Nat):Tw:=⟨Ael N,fun args h k=>by
 unfold Ael;split
 exact twE (A09 ..) (A09 ..)
 rfl⟩
theorem Bs0 (N:Nat):A1 Tryz.prog 97 (Bhr N):=fun args h res g hh=>by
 change Ael N args h (fun v g=>some (v,g))=_ at hh
 unfold Ael at hh;split at hh
 exact Aa (T:=A8f N) ⟨K5 N,Pl N,trivial⟩ follows ((A09 ..).trans hh)
 cases hh
def Bhs (N:Nat) (r0:LA→Option R)  (a:LA) (c:Bool) (b:LA) (d:Bool):Option R :=
 (cond (Nat.ble 3 (List.length a)) (H1 N (List.take 3 a) c (fun f=>(cond (Nat.ble 2 (List.length f)) (cond (Nat.ble 3 (List.length b)) (H1 N (List.take 3 b) d (fun g=>(cond (Nat.ble 2 (List.length g)) (Vf N (List.take 2 f) false (List.take 2 g) false (fun j=>(cond (Nat.ble 3 (List.length a)) (Qy N (List.take 3 a) c (fun l=>(cond (Nat.ble 3 (List.length b)) (Qy N (List.take 3 b) d (fun m=>(Vf N l false m false (fun n=>(Kx N j false n false (fun e=>(cond ((Nat.beq 0 0)&&((Nat.beq (List.length e) 3)&&(Nat.beq 3 3))) (cond (Nat.ble 3 (List.length e)) (r0 (List.take 3 e)) none) none))))))) none))) none))) none))) none) none))) none)
def Bht (N:Nat) (a:LA) (c:Bool) (b:LA) (d:Bool) (r0:LA→Option R):Option R:=(Bhs N r0 a c b d)
def Avn:=(Ai (@Bht R)).1
theorem Bbc:@Avn R=@Bht R:=(Ai _).2
def Bhu:Hints:={ H:=(hS (hR [2,3,4]) (hS (hR [4]) hL)),nils:=[],modes:=[(3,0)],free:=[],cob:=[] }
def A8g (N:Nat):List (Nat×Tw):=[(70,K3 N),(72,A00 N),(73,Alp N),(54,Ky N)]
def A1a  (F:KF R):LA→Option R:=(fun o=>F (.pagg o false) [])
theorem A1b (N:Nat) (a:LA) (c:Bool) (b:LA) (d:Bool) (F:KF R):Ac Tryz.prog muts (A8g N) Bhu N 35 [(.pagg a c),(.pagg b d)] [] F=(Avn N a c b d (A1a F)):=by
 have hK:Ac Tryz.prog muts (A8g N) Bhu N 35 [(.pagg a c),(.pagg b d)] [] F=(Bhs N (A1a F) a c b d):=by kernel_rfl
 rw [Bbc]
 exact hK
def Aem (N:Nat) (args:List AV) (h:Aj) (k:KF R):Option R :=
 match args,h with
 | [(.pagg a c),(.pagg b d)],[]=>(Avn N a c b d (A1a k))
 | _,_=>none
def Bhv (N:Nat):Tw:=⟨Aem N,fun args h k=>by
 unfold Aem;split
 exact twE (A1b ..) (A1b ..)
 rfl⟩
theorem Bs1 (N:Nat):A1 Tryz.prog 35 (Bhv N):=fun args h res i hh=>by
 change Aem N args h (fun v i=>some (v,i))=_ at hh
 unfold Aem at hh;split at hh
 exact Aa (T:=A8g N) ⟨Pl N,Bhd N,A0u N,Pf N,trivial⟩ follows ((A1b ..).trans hh)
 cases hh
end
end Gx
