/- A part of the proof: what it holds is said by each theorem. -/
import Derived.Test.YtlkhmflligkbkaaGreatP1
set_option linter.unusedVariables false
namespace Gx
open Go Go.Proofs
set_option maxRecDepth 100000
noncomputable section
variable {R:Type}
def W0 (N:Nat)  (r0:Nat→LA→Option R) (c:LA) (b:Nat) (e d:Bool) (k0:Int→Option R)  (a:Int):Option R :=
 (cond ((decide (a>(0:Int)))==true) (cond (Aj (IntKind.wrap .i64 (a - (1:Int))) b) (rdI .u32 (List.drop ((Int.toNat (IntKind.wrap .i64 (a - (1:Int))))*1) c) fun g=>(cond (cond true (g==(0:Int)) false) (k0 (IntKind.wrap .i64 (a - (1:Int)))) (cond ((decide ((0:Int)≤(0:Int)))&&((decide ((0:Int)≤a))&&((decide (a≤((b:Nat):Int)))&&(decide (((b:Nat):Int)≤((b:Nat):Int)))))) (cond ((!d)||(Bu (List.take ((Int.toNat a)*1) c))) (cond ((Nat.ble (0+(Int.toNat a)) 140737488355328)&&(Nat.ble ((0+(Int.toNat a))*4) 140737488355328)) (r0 (0+(Int.toNat a)) (List.take ((Int.toNat a)*1) c)) none) none) none))) none) (cond ((decide ((0:Int)≤(0:Int)))&&((decide ((0:Int)≤a))&&((decide (a≤((b:Nat):Int)))&&(decide (((b:Nat):Int)≤((b:Nat):Int)))))) (cond ((!d)||(Bu (List.take ((Int.toNat a)*1) c))) (cond ((Nat.ble (0+(Int.toNat a)) 140737488355328)&&(Nat.ble ((0+(Int.toNat a))*4) 140737488355328)) (r0 (0+(Int.toNat a)) (List.take ((Int.toNat a)*1) c)) none) none) none))
def Og (N:Nat)  (r0:Nat→LA→Option R) (c:LA) (b:Nat) (e d:Bool):Nat→Int→Option R
 | 0,_=>none
 | n+1,a=>(W0 N r0 c b e d (Og N r0 c b e d n) a)
def Asp (N:Nat) (r0:Nat→LA→Option R) (q0:Int→Option R) (c:LA) (b:Nat) (e d:Bool):Option R :=
 (q0 ((b:Nat):Int))
def Asq (N:Nat) (c:LA) (b:Nat) (e d:Bool) (r0:Nat→LA→Option R):Option R:=(Asp N r0 (fun a=>(Og N r0 c b e d N a)) c b e d)
def Cy:=(Al (@Asq R)).1
theorem Ah6:@Cy R=@Asq R:=(Al _).2
def Abz:Hints:={ H:=(hS (hR [0]) (hS (hR [0,3]) (hS (hN [0,3] (hN [0,3] (hS (hS (hR [0,3,15]) (hN [0,3] hL hL)) (hN [0,3] (hR [0,3]) hL)) hL) hL) (hS (hR [2]) hL)))),nils:=[(2,1)],modes:=[(2,1)],free:=[],cob:=[] }
def Ah7 (N:Nat):List (Nat×Tw):=[]
def Ah8 (N:Nat):Env:=mkE 23 Abz (Ah7 N)
def Bk6 (N:Nat) (F:KF R):=As (Ah8 N) Tryz.f143 Abz.modes [] F
def A7p (N:Nat) (F:KF R):=atF (Ah8 N) [] N Tryz.f143 Abz (Bk6 N F)
def U0  (F:KF R):Nat→LA→Option R:=(fun i j=>F (.own 300000 0 i) [(300000,⟨false,false,true,false,1,j,false⟩)])
def Oh (c:LA) (b:Nat) (e d:Bool) (a:Int):St:={ s:=[(0,(.imm c b 1 e d)),(3,(.int .i64 a))],h:=[] }
def A7q (N:Nat) (F:KF R):St→Option R:=Bx (Ah8 N) [] N (A7p N F [1,1,0,0] []) N
def Ab0 (N:Nat) (F:KF R) (n:Nat):St→Option R:=A9 (Ah8 N) [] N (A7p N F [1,1,0,0] []) n
theorem Bca (N:Nat)  (F:KF R) (c:LA) (b:Nat) (e d:Bool):∀ (n:Nat) (a:Int),Ab0 N F n (Oh c b e d a)=(Og N (U0 F) c b e d n a):=by
 intro n
 induction n with
 | zero=>intros;kernel_rfl
 | succ n ih =>
  intro a
  have e0:=funext fun a=>(show Ab0 N F n (Oh c b e d a)=_ from ih a)
  have hK:Ab0 N F (n+1) (Oh c b e d a)=(W0 N (U0 F) c b e d (fun a=>Ab0 N F n (Oh c b e d a)) a):=by kernel_rfl
  exact hK.trans (by rw [e0];rfl)
theorem An4 (N:Nat) (c:LA) (b:Nat) (e d:Bool) (F:KF R):Ac Tryz.prog muts (Ah7 N) Abz N 143 [(.imm c b 1 e d)] [] F=(Cy N c b e d (U0 F)):=by
 have e1:=funext fun a=>(show A7q N F (Oh c b e d a)=_ from (Au ..).trans (Bca N F c b e d N a))
 have hK:Ac Tryz.prog muts (Ah7 N) Abz N 143 [(.imm c b 1 e d)] [] F=(Asp N (U0 F) (fun a=>A7q N F (Oh c b e d a)) c b e d):=by kernel_rfl
 rw [Ah6]
 exact hK.trans (by rw [e1];rfl)
def W1 (N:Nat) (args:List AV) (h:Ak) (k:KF R):Option R :=
 match args,h with
 | [(.imm c b 1 e d)],[]=>(Cy N c b e d (U0 k))
 | _,_=>none
def Dy (N:Nat):Tw:=⟨W1 N,fun args h k=>by
 unfold W1;split
 exact twE (An4 ..) (An4 ..)
 rfl⟩
theorem Eq (N:Nat):Az Tryz.prog 143 (Dy N):=fun args h res f hh=>by
 change W1 N args h (fun v f=>some (v,f))=_ at hh
 unfold W1 at hh;split at hh
 exact Aa (T:=Ah7 N) trivial follows ((An4 ..).trans hh)
 cases hh
def Vu (N:Nat) (r0:Nat→LA→Option R)  (a:Int):Option R :=
 (Cy N [(.int .u32 (IntKind.wrap .u32 a)),(.int .u32 (IntKind.wrap .u32 (Int.fdiv a (2 ^ 32))))] 2 false true (fun c d=>(r0 c d)))
def Vv (N:Nat) (a:Int) (r0:Nat→LA→Option R):Option R:=(Vu N r0 a)
def Dz:=(Al (@Vv R)).1
theorem Zo:@Dz R=@Vv R:=(Al _).2
def Ab1:Hints:={ H:=(hS (hR [0]) (hS (hR [2]) hL)),nils:=[(2,1)],modes:=[(2,1)],free:=[],cob:=[] }
def Rl (N:Nat):List (Nat×Tw):=[(143,Dy N)]
def O2  (F:KF R):Nat→LA→Option R:=(fun e f=>F (.own 300000 0 e) [(300000,⟨false,false,true,false,1,f,false⟩)])
theorem O3 (N:Nat) (a:Int) (F:KF R):Ac Tryz.prog muts (Rl N) Ab1 N 94 [(.int .u64 a)] [] F=(Dz N a (O2 F)):=by
 have hK:Ac Tryz.prog muts (Rl N) Ab1 N 94 [(.int .u64 a)] [] F=(Vu N (O2 F) a):=by kernel_rfl
 rw [Zo]
 exact hK
def Ic (N:Nat) (args:List AV) (h:Ak) (k:KF R):Option R :=
 match args,h with
 | [(.int .u64 a)],[]=>(Dz N a (O2 k))
 | _,_=>none
def O4 (N:Nat):Tw:=⟨Ic N,fun args h k=>by
 unfold Ic;split
 exact twE (O3 ..) (O3 ..)
 rfl⟩
theorem Ab2 (N:Nat):Az Tryz.prog 94 (O4 N):=fun args h res b hh=>by
 change Ic N args h (fun v b=>some (v,b))=_ at hh
 unfold Ic at hh;split at hh
 exact Aa (T:=Rl N) ⟨Eq N,trivial⟩ follows ((O3 ..).trans hh)
 cases hh
def A36 (N:Nat) (r0:LA→Option R)  (a:Bool) (b:LA) (c:Nat) (e d:Bool):Option R :=
 (Cy N b c false d (fun f g=>(cond (a==true) (r0 [(.bool (cond true (decide (((f:Nat):Int)>(0:Int))) false)),(.imm (List.take (f*1) g) f 1 false false)]) (r0 [(.bool false),(.imm (List.take (f*1) g) f 1 false false)]))))
def A37 (N:Nat) (a:Bool) (b:LA) (c:Nat) (e d:Bool) (r0:LA→Option R):Option R:=(A36 N r0 a b c e d)
def Eh:=(Al (@A37 R)).1
theorem A0j:@Eh R=@A37 R:=(Al _).2
def A7r:Hints:={ H:=(hS (hR [0,1,4]) (hS (hR [0,4,5]) (hS (hR [4]) hL))),nils:=[],modes:=[(3,0)],free:=[],cob:=[] }
def Awq (N:Nat):List (Nat×Tw):=[(143,Dy N)]
def An5  (F:KF R):LA→Option R:=(fun j=>F (.pagg j false) [])
theorem An6 (N:Nat) (a:Bool) (b:LA) (c:Nat) (e d:Bool) (F:KF R):Ac Tryz.prog muts (Awq N) A7r N 93 [(.bool a),(.imm b c 1 e d)] [] F=(Eh N a b c e d (An5 F)):=by
 have hK:Ac Tryz.prog muts (Awq N) A7r N 93 [(.bool a),(.imm b c 1 e d)] [] F=(A36 N (An5 F) a b c e d):=by kernel_rfl
 rw [A0j]
 exact hK
def W2 (N:Nat) (args:List AV) (h:Ak) (k:KF R):Option R :=
 match args,h with
 | [(.bool a),(.imm b c 1 e d)],[]=>(Eh N a b c e d (An5 k))
 | _,_=>none
def F7 (N:Nat):Tw:=⟨W2 N,fun args h k=>by
 unfold W2;split
 exact twE (An6 ..) (An6 ..)
 rfl⟩
theorem Hy (N:Nat):Az Tryz.prog 93 (F7 N):=fun args h res i hh=>by
 change W2 N args h (fun v i=>some (v,i))=_ at hh
 unfold W2 at hh;split at hh
 exact Aa (T:=Awq N) ⟨Eq N,trivial⟩ follows ((An6 ..).trans hh)
 cases hh
def Ah9 (N:Nat) (r0:LA→Option R)  (a:Int):Option R :=
 (cond (decide (a<(0:Int))) (Dz N (IntKind.wrap .u64 ((IntKind.wrap .u64 (IntKind.wrap .i64 ((0:Int) - (IntKind.wrap .i64 (a+(1:Int))))))+(1:Int))) (fun d g=>(Eh N true (List.take (d*1) g) d false true (fun b=>(cond ((Nat.beq 0 0)&&((Nat.beq (List.length b) 2)&&(Nat.beq 2 2))) (cond (Nat.ble 2 (List.length b)) (r0 (List.take 2 b)) none) none))))) (Dz N (IntKind.wrap .u64 a) (fun e i=>(Eh N false (List.take (e*1) i) e false true (fun c=>(cond ((Nat.beq 0 0)&&((Nat.beq (List.length c) 2)&&(Nat.beq 2 2))) (cond (Nat.ble 2 (List.length c)) (r0 (List.take 2 c)) none) none))))))
def Aia (N:Nat) (a:Int) (r0:LA→Option R):Option R:=(Ah9 N r0 a)
def Hz:=(Al (@Aia R)).1
theorem Amo:@Hz R=@Aia R:=(Al _).2
def An7:Hints:={ H:=(hS (hR [0,2]) (hS (hS (hR [0,2,4]) (hN [0,2] (hS (hR [2]) hL) hL)) (hS (hR [2]) hL))),nils:=[],modes:=[(3,0)],free:=[],cob:=[] }
def Aes (N:Nat):List (Nat×Tw):=[(94,O4 N),(93,F7 N)]
def Zp  (F:KF R):LA→Option R:=(fun j=>F (.pagg j false) [])
theorem Zq (N:Nat) (a:Int) (F:KF R):Ac Tryz.prog muts (Aes N) An7 N 55 [(.int .i64 a)] [] F=(Hz N a (Zp F)):=by
 have hK:Ac Tryz.prog muts (Aes N) An7 N 55 [(.int .i64 a)] [] F=(Ah9 N (Zp F) a):=by kernel_rfl
 rw [Amo]
 exact hK
def M7 (N:Nat) (args:List AV) (h:Ak) (k:KF R):Option R :=
 match args,h with
 | [(.int .i64 a)],[]=>(Hz N a (Zp k))
 | _,_=>none
def Zr (N:Nat):Tw:=⟨M7 N,fun args h k=>by
 unfold M7;split
 exact twE (Zq ..) (Zq ..)
 rfl⟩
theorem An8 (N:Nat):Az Tryz.prog 55 (Zr N):=fun args h res f hh=>by
 change M7 N args h (fun v f=>some (v,f))=_ at hh
 unfold M7 at hh;split at hh
 exact Aa (T:=Aes N) ⟨Ab2 N,Hy N,trivial⟩ follows ((Zq ..).trans hh)
 cases hh
def A38 (N:Nat) (r0:LA→Option R)  (a:LA) (b:Bool):Option R :=
 (rdB a fun e=>(rdL 1 (List.drop 1 a) fun f g=>(Eh N e f g false b (fun c=>(cond ((Nat.beq 0 0)&&((Nat.beq (List.length c) 2)&&(Nat.beq 2 2))) (cond (Nat.ble 2 (List.length c)) (r0 (List.take 2 c)) none) none)))))
def A39 (N:Nat) (a:LA) (b:Bool) (r0:LA→Option R):Option R:=(A38 N r0 a b)
def Zs:=(Al (@A39 R)).1
theorem A0k:@Zs R=@A39 R:=(Al _).2
def A7s:Hints:={ H:=(hS (hR [1,2]) (hS (hR [2]) hL)),nils:=[],modes:=[(3,0)],free:=[],cob:=[] }
def Awr (N:Nat):List (Nat×Tw):=[(93,F7 N)]
def An9  (F:KF R):LA→Option R:=(fun i=>F (.pagg i false) [])
theorem Aoa (N:Nat) (a:LA) (b:Bool) (F:KF R):Ac Tryz.prog muts (Awr N) A7s N 88 [(.pagg a b)] [] F=(Zs N a b (An9 F)):=by
 have hK:Ac Tryz.prog muts (Awr N) A7s N 88 [(.pagg a b)] [] F=(A38 N (An9 F) a b):=by kernel_rfl
 rw [A0k]
 exact hK
def W3 (N:Nat) (args:List AV) (h:Ak) (k:KF R):Option R :=
 match args,h with
 | [(.pagg a b)],[]=>(Zs N a b (An9 k))
 | _,_=>none
def Aob (N:Nat):Tw:=⟨W3 N,fun args h k=>by
 unfold W3;split
 exact twE (Aoa ..) (Aoa ..)
 rfl⟩
theorem A7t (N:Nat):Az Tryz.prog 88 (Aob N):=fun args h res d hh=>by
 change W3 N args h (fun v d=>some (v,d))=_ at hh
 unfold W3 at hh;split at hh
 exact Aa (T:=Awr N) ⟨Hy N,trivial⟩ follows ((Aoa ..).trans hh)
 cases hh
def A4a (N:Nat) (r0:Int→Option R)  (a:LA) (b:Bool):Option R :=
 (cond (Nat.ble 2 (List.length a)) (Zs N (List.take 2 a) b (fun c=>(cond ((Nat.beq (List.length c) 2)&&((Nat.ble 2 (List.length a))&&(!false))) (rdB (setCells a 0 c) fun e=>(cond e (r0 (-1)) (rdL 1 (List.drop 1 (setCells a 0 c)) fun i f=>(cond (((f:Nat):Int)==(0:Int)) (r0 0) (r0 1))))) none))) none)
def A4b (N:Nat) (a:LA) (b:Bool) (r0:Int→Option R):Option R:=(A4a N r0 a b)
def Zt:=(Al (@A4b R)).1
theorem A0l:@Zt R=@A4b R:=(Al _).2
def A7u:Hints:={ H:=(hS (hR [1]) (hS (hR [1]) (hS (hS (hS (hR [1,5]) (hS (hS (hR [2]) hL) (hS (hR [8]) (hS (hS (hR [2]) hL) hL)))) hL) (hS (hR [2]) hL)))),nils:=[],modes:=[],free:=[],cob:=[] }
def Aws (N:Nat):List (Nat×Tw):=[(88,Aob N)]
def Aoc  (F:KF R):Int→Option R:=(fun g=>F (.int .i64 g) [])
theorem Aod (N:Nat) (a:LA) (b:Bool) (F:KF R):Ac Tryz.prog muts (Aws N) A7u N 75 [(.pagg a b)] [] F=(Zt N a b (Aoc F)):=by
 have hK:Ac Tryz.prog muts (Aws N) A7u N 75 [(.pagg a b)] [] F=(A4a N (Aoc F) a b):=by kernel_rfl
 rw [A0l]
 exact hK
def W4 (N:Nat) (args:List AV) (h:Ak) (k:KF R):Option R :=
 match args,h with
 | [(.pagg a b)],[]=>(Zt N a b (Aoc k))
 | _,_=>none
def Aoe (N:Nat):Tw:=⟨W4 N,fun args h k=>by
 unfold W4;split
 exact twE (Aod ..) (Aod ..)
 rfl⟩
theorem A7v (N:Nat):Az Tryz.prog 75 (Aoe N):=fun args h res d hh=>by
 change W4 N args h (fun v d=>some (v,d))=_ at hh
 unfold W4 at hh;split at hh
 exact Aa (T:=Aws N) ⟨A7t N,trivial⟩ follows ((Aod ..).trans hh)
 cases hh
def A4c (N:Nat) (r0:LA→Option R)  :Option R :=
 (r0 [(.bool false),(.imm [] 0 1 false false),(.imm [(.int .u32 1)] 1 1 false false)])
def A4d (N:Nat)  (r0:LA→Option R):Option R:=(A4c N r0)
def Aof:=(Al (@A4d R)).1
theorem A0m:@Aof R=@A4d R:=(Al _).2
def A7w:Hints:={ H:=(hS (hR [0]) (hS (hR [0]) hL)),nils:=[],modes:=[(3,0)],free:=[],cob:=[] }
def Awt (N:Nat):List (Nat×Tw):=[]
def Aog  (F:KF R):LA→Option R:=(fun b=>F (.pagg b false) [])
theorem Aoh (N:Nat)  (F:KF R):Ac Tryz.prog muts (Awt N) A7w N 41 [] [] F=(Aof N (Aog F)):=by
 have hK:Ac Tryz.prog muts (Awt N) A7w N 41 [] [] F=(A4c N (Aog F)):=by kernel_rfl
 rw [A0m]
 exact hK
def W5 (N:Nat) (args:List AV) (h:Ak) (k:KF R):Option R :=
 match args,h with
 | [],[]=>(Aof N (Aog k))
 | _,_=>none
def A7x (N:Nat):Tw:=⟨W5 N,fun args h k=>by
 unfold W5;split
 exact twE (Aoh ..) (Aoh ..)
 rfl⟩
theorem Bnk (N:Nat):Az Tryz.prog 41 (A7x N):=fun args h res a hh=>by
 change W5 N args h (fun v a=>some (v,a))=_ at hh
 unfold W5 at hh;split at hh
 exact Aa (T:=Awt N) trivial follows ((Aoh ..).trans hh)
 cases hh
def Tg (N:Nat)  (r0:Bool→Option R) (d:LA) (a:Nat) (f g:Bool) (e:LA) (b:Nat) (i j:Bool) (k0:Int→Option R)  (c:Int):Option R :=
 (cond (decide (c<((a:Nat):Int))) (cond (Aj c a) (rdI .u32 (List.drop ((Int.toNat c)*1) d) fun m=>(cond (Aj c b) (rdI .u32 (List.drop ((Int.toNat c)*1) e) fun o=>(cond (m != o) (r0 false) (k0 (IntKind.wrap .i64 (c+(1:Int)))))) none)) none) (r0 true))
def Lh (N:Nat)  (r0:Bool→Option R) (d:LA) (a:Nat) (f g:Bool) (e:LA) (b:Nat) (i j:Bool):Nat→Int→Option R
 | 0,_=>none
 | n+1,c=>(Tg N r0 d a f g e b i j (Lh N r0 d a f g e b i j n) c)
def Awu (N:Nat) (r0:Bool→Option R) (q0:Int→Option R) (d:LA) (a:Nat) (f g:Bool) (e:LA) (b:Nat) (i j:Bool):Option R :=
 (cond (((a:Nat):Int) != ((b:Nat):Int)) (r0 false) (q0 0))
def Awv (N:Nat) (d:LA) (a:Nat) (f g:Bool) (e:LA) (b:Nat) (i j:Bool) (r0:Bool→Option R):Option R:=(Awu N r0 (fun c=>(Lh N r0 d a f g e b i j N c)) d a f g e b i j)
def Agg:=(Al (@Awv R)).1
theorem Aup:@Agg R=@Awv R:=(Al _).2
def W6:Hints:={ H:=(hS (hR [0,1]) (hS (hS (hR [0,1,10]) (hN [0,1] (hS (hR [4]) hL) hL)) (hS (hS (hR [0,1,5]) (hS (hN [0,1,5] (hS (hS (hR [0,1,5,14]) (hN [0,1,5] hL hL)) (hS (hN [0,1,5] (hS (hR [0,1,5,25]) (hN [0,1,5] (hS (hR [4]) hL) hL)) hL) (hR [0,1,5]))) hL) hL)) (hS (hR [4]) hL)))),nils:=[],modes:=[],free:=[],cob:=[] }
def Ab3 (N:Nat):List (Nat×Tw):=[]
def Ab4 (N:Nat):Env:=mkE 26 W6 (Ab3 N)
def Bha (N:Nat) (F:KF R):=As (Ab4 N) Tryz.f89 W6.modes [] F
def A0n (N:Nat) (F:KF R):=atF (Ab4 N) [] N Tryz.f89 W6 (Bha N F)
def O5  (F:KF R):Bool→Option R:=(fun p=>F (.bool p) [])
def Li (d:LA) (a:Nat) (f g:Bool) (e:LA) (b:Nat) (i j:Bool) (c:Int):St:={ s:=[(0,(.imm d a 1 f g)),(1,(.imm e b 1 i j)),(5,(.int .i64 c))],h:=[] }
def A0o (N:Nat) (F:KF R):St→Option R:=Bx (Ab4 N) [] N (A0n N F [1,1,0,1,0] []) N
def W7 (N:Nat) (F:KF R) (n:Nat):St→Option R:=A9 (Ab4 N) [] N (A0n N F [1,1,0,1,0] []) n
theorem A96 (N:Nat)  (F:KF R) (d:LA) (a:Nat) (f g:Bool) (e:LA) (b:Nat) (i j:Bool):∀ (n:Nat) (c:Int),W7 N F n (Li d a f g e b i j c)=(Lh N (O5 F) d a f g e b i j n c):=by
 intro n
 induction n with
 | zero=>intros;kernel_rfl
 | succ n ih =>
  intro c
  have e0:=funext fun c=>(show W7 N F n (Li d a f g e b i j c)=_ from ih c)
  have hK:W7 N F (n+1) (Li d a f g e b i j c)=(Tg N (O5 F) d a f g e b i j (fun c=>W7 N F n (Li d a f g e b i j c)) c):=by kernel_rfl
  exact hK.trans (by rw [e0];rfl)
theorem Aib (N:Nat) (d:LA) (a:Nat) (f g:Bool) (e:LA) (b:Nat) (i j:Bool) (F:KF R):Ac Tryz.prog muts (Ab3 N) W6 N 89 [(.imm d a 1 f g),(.imm e b 1 i j)] [] F=(Agg N d a f g e b i j (O5 F)):=by
 have e1:=funext fun c=>(show A0o N F (Li d a f g e b i j c)=_ from (Au ..).trans (A96 N F d a f g e b i j N c))
 have hK:Ac Tryz.prog muts (Ab3 N) W6 N 89 [(.imm d a 1 f g),(.imm e b 1 i j)] [] F=(Awu N (O5 F) (fun c=>A0o N F (Li d a f g e b i j c)) d a f g e b i j):=by kernel_rfl
 rw [Aup]
 exact hK.trans (by rw [e1];rfl)
def Th (N:Nat) (args:List AV) (h:Ak) (k:KF R):Option R :=
 match args,h with
 | [(.imm d a 1 f g),(.imm e b 1 i j)],[]=>(Agg N d a f g e b i j (O5 k))
 | _,_=>none
def A0p (N:Nat):Tw:=⟨Th N,fun args h k=>by
 unfold Th;split
 exact twE (Aib ..) (Aib ..)
 rfl⟩
theorem Bk7 (N:Nat):Az Tryz.prog 89 (A0p N):=fun args h res l hh=>by
 change Th N args h (fun v l=>some (v,l))=_ at hh
 unfold Th at hh;split at hh
 exact Aa (T:=Ab3 N) trivial follows ((Aib ..).trans hh)
 cases hh
def D0 (N:Nat)  (r0:Int→Bool→Option R) (b:Nat) (d:LA) (k0:Int→Int→Option R)  (c a:Int):Option R :=
 (cond (decide (a≥(0:Int))) (cond (Aj a b) (rdI .u32 (List.drop (0+((Int.toNat a)*1)) d) fun l=>(k0 (Of .u64 (IntKind.wrap .u64 (c*2 ^ 32)) (IntKind.wrap .u64 l)) (IntKind.wrap .i64 (a - (1:Int))))) none) (r0 c true))
def Du (N:Nat)  (r0:Int→Bool→Option R) (b:Nat) (d:LA):Nat→Int→Int→Option R
 | 0,_,_=>none
 | n+1,c,a=>(D0 N r0 b d (Du N r0 b d n) c a)
def Aoi (N:Nat) (r0:Int→Bool→Option R) (q0:Nat→LA→Int→Int→Option R) (e:LA) (f:Nat) (i g:Bool):Option R :=
 (Cy N e f false g (fun b d=>(cond (decide (((b:Nat):Int)>(2:Int))) (r0 0 false) (q0 b d 0 (IntKind.wrap .i64 (((b:Nat):Int) - (1:Int)))))))
def Aoj (N:Nat) (e:LA) (f:Nat) (i g:Bool) (r0:Int→Bool→Option R):Option R:=(Aoi N r0 (fun b d c a=>(Du N r0 b d N c a)) e f i g)
def Rm:=(Al (@Aoj R)).1
theorem Aok:@Rm R=@Aoj R:=(Al _).2
def Ti:Hints:={ H:=(hS (hR [0]) (hS (hR [0]) (hS (hS (hR [0,10]) (hN [0] (hS (hR [2,3]) hL) hL)) (hS (hR [0,4]) (hS (hS (hR [0,4,5]) (hN [4] (hN [0,4,5] (hS (hS (hR [0,4,5,15]) (hN [0,4,5] hL hL)) (hS (hN [0,4,5] (hR [0,4,5]) hL) (hR [0,4,5]))) hL) hL)) (hS (hR [2,3]) hL)))))),nils:=[],modes:=[],free:=[],cob:=[] }
def W8 (N:Nat):List (Nat×Tw):=[(143,Dy N)]
def W9 (N:Nat):Env:=mkE 27 Ti (W8 N)
def Bcb (N:Nat) (F:KF R):=As (W9 N) Tryz.f178 Ti.modes [] F
def Auq (N:Nat) (F:KF R):=atF (W9 N) [] N Tryz.f178 Ti (Bcb N F)
def Mr  (F:KF R):Int→Bool→Option R:=(fun m o=>F (.tup [(.int .u64 m),(.bool o)]) [])
def Jd (b:Nat) (d:LA) (c a:Int):St:={ s:=[(0,(.own 300000 0 b)),(4,(.int .u64 c)),(5,(.int .i64 a))],h:=[(300000,⟨false,false,true,false,1,d,false⟩)] }
def Aur (N:Nat) (F:KF R):St→Option R:=Bx (W9 N) [] N (Auq N F [1,1,1,1,0,1,0] []) N
def Tj (N:Nat) (F:KF R) (n:Nat):St→Option R:=A9 (W9 N) [] N (Auq N F [1,1,1,1,0,1,0] []) n
theorem A4e (N:Nat)  (F:KF R) (b:Nat) (d:LA):∀ (n:Nat) (c a:Int),Tj N F n (Jd b d c a)=(Du N (Mr F) b d n c a):=by
 intro n
 induction n with
 | zero=>intros;kernel_rfl
 | succ n ih =>
  intro c a
  have e0:=funext fun c=>funext fun a=>(show Tj N F n (Jd b d c a)=_ from ih c a)
  have hK:Tj N F (n+1) (Jd b d c a)=(D0 N (Mr F) b d (fun c a=>Tj N F n (Jd b d c a)) c a):=by kernel_rfl
  exact hK.trans (by rw [e0];rfl)
theorem Aet (N:Nat) (e:LA) (f:Nat) (i g:Bool) (F:KF R):Ac Tryz.prog muts (W8 N) Ti N 178 [(.imm e f 1 i g)] [] F=(Rm N e f i g (Mr F)):=by
 have e1:=funext fun b=>funext fun d=>funext fun c=>funext fun a=>(show Aur N F (Jd b d c a)=_ from (Au ..).trans (A4e N F b d N c a))
 have hK:Ac Tryz.prog muts (W8 N) Ti N 178 [(.imm e f 1 i g)] [] F=(Aoi N (Mr F) (fun b d c a=>Aur N F (Jd b d c a)) e f i g):=by kernel_rfl
 rw [Aok]
 exact hK.trans (by rw [e1];rfl)
def O6 (N:Nat) (args:List AV) (h:Ak) (k:KF R):Option R :=
 match args,h with
 | [(.imm e f 1 i g)],[]=>(Rm N e f i g (Mr k))
 | _,_=>none
def Aus (N:Nat):Tw:=⟨O6 N,fun args h k=>by
 unfold O6;split
 exact twE (Aet ..) (Aet ..)
 rfl⟩
theorem Bhb (N:Nat):Az Tryz.prog 178 (Aus N):=fun args h res j hh=>by
 change O6 N args h (fun v j=>some (v,j))=_ at hh
 unfold O6 at hh;split at hh
 exact Aa (T:=W8 N) ⟨Eq N,trivial⟩ follows ((Aet ..).trans hh)
 cases hh
def O7 (N:Nat)  (r0:Int→Option R)  (k0:Int→Int→Option R)  (a b:Int):Option R :=
 (cond (decide (b>(0:Int))) (k0 (IntKind.wrap .i64 (a+(1:Int))) (Int.fdiv b (2 ^ 1))) (r0 a))
def Kf (N:Nat)  (r0:Int→Option R) :Nat→Int→Int→Option R
 | 0,_,_=>none
 | n+1,a,b=>(O7 N r0 (Kf N r0 n) a b)
def Asr (N:Nat) (r0:Int→Option R) (q0:Int→Int→Option R) (c:LA) (d:Nat) (f e:Bool):Option R :=
 (Cy N c d false e (fun g j=>(cond (((g:Nat):Int)==(0:Int)) (r0 0) (cond (Aj (IntKind.wrap .i64 (((g:Nat):Int) - (1:Int))) g) (rdI .u32 (List.drop (0+((Int.toNat (IntKind.wrap .i64 (((g:Nat):Int) - (1:Int))))*1)) j) fun l=>(q0 (IntKind.wrap .i64 ((32:Int)*(IntKind.wrap .i64 (((g:Nat):Int) - (1:Int))))) l)) none))))
def Ass (N:Nat) (c:LA) (d:Nat) (f e:Bool) (r0:Int→Option R):Option R:=(Asr N r0 (fun a b=>(Kf N r0 N a b)) c d f e)
def Aol:=(Al (@Ass R)).1
theorem Aic:@Aol R=@Ass R:=(Al _).2
def Ab5:Hints:={ H:=(hS (hR [0]) (hS (hR [0]) (hS (hS (hR [0,9]) (hN [0] (hS (hR [2]) hL) hL)) (hS (hR [0,3]) (hS (hS (hR [3,4]) (hN [3] (hN [3,4] (hS (hS (hR [3,4,21]) (hN [3,4] hL hL)) (hS (hN [3,4] (hR [3,4]) hL) (hR [3,4]))) hL) hL)) (hS (hR [2]) hL)))))),nils:=[],modes:=[],free:=[],cob:=[] }
def Aid (N:Nat):List (Nat×Tw):=[(143,Dy N)]
def Aie (N:Nat):Env:=mkE 27 Ab5 (Aid N)
def Bk8 (N:Nat) (F:KF R):=As (Aie N) Tryz.f179 Ab5.modes [] F
def A7y (N:Nat) (F:KF R):=atF (Aie N) [] N Tryz.f179 Ab5 (Bk8 N F)
def U4  (F:KF R):Int→Option R:=(fun m=>F (.int .i64 m) [])
def Oi (a b:Int):St:={ s:=[(3,(.int .i64 a)),(4,(.int .u32 b))],h:=[] }
def A7z (N:Nat) (F:KF R):St→Option R:=Bx (Aie N) [] N (A7y N F [1,1,1,1,0,1,0] []) N
def Ab6 (N:Nat) (F:KF R) (n:Nat):St→Option R:=A9 (Aie N) [] N (A7y N F [1,1,1,1,0,1,0] []) n
theorem Bcc (N:Nat)  (F:KF R) :∀ (n:Nat) (a b:Int),Ab6 N F n (Oi a b)=(Kf N (U4 F) n a b):=by
 intro n
 induction n with
 | zero=>intros;kernel_rfl
 | succ n ih =>
  intro a b
  have e0:=funext fun a=>funext fun b=>(show Ab6 N F n (Oi a b)=_ from ih a b)
  have hK:Ab6 N F (n+1) (Oi a b)=(O7 N (U4 F) (fun a b=>Ab6 N F n (Oi a b)) a b):=by kernel_rfl
  exact hK.trans (by rw [e0];rfl)
theorem Aom (N:Nat) (c:LA) (d:Nat) (f e:Bool) (F:KF R):Ac Tryz.prog muts (Aid N) Ab5 N 179 [(.imm c d 1 f e)] [] F=(Aol N c d f e (U4 F)):=by
 have e1:=funext fun a=>funext fun b=>(show A7z N F (Oi a b)=_ from (Au ..).trans (Bcc N F N a b))
 have hK:Ac Tryz.prog muts (Aid N) Ab5 N 179 [(.imm c d 1 f e)] [] F=(Asr N (U4 F) (fun a b=>A7z N F (Oi a b)) c d f e):=by kernel_rfl
 rw [Aic]
 exact hK.trans (by rw [e1];rfl)
def Xa (N:Nat) (args:List AV) (h:Ak) (k:KF R):Option R :=
 match args,h with
 | [(.imm c d 1 f e)],[]=>(Aol N c d f e (U4 k))
 | _,_=>none
def A70 (N:Nat):Tw:=⟨Xa N,fun args h k=>by
 unfold Xa;split
 exact twE (Aom ..) (Aom ..)
 rfl⟩
theorem Bnl (N:Nat):Az Tryz.prog 179 (A70 N):=fun args h res i hh=>by
 change Xa N args h (fun v i=>some (v,i))=_ at hh
 unfold Xa at hh;split at hh
 exact Aa (T:=Aid N) ⟨Eq N,trivial⟩ follows ((Aom ..).trans hh)
 cases hh
def Aon (N:Nat) (k0:Nat→Int→Int→LA→Option R) (r0:Nat→LA→Option R) (d:LA) (a:Nat) (g i:Bool) (e:LA) (b:Nat) (j l:Bool) (c:Nat) (f:LA)   (q o:Int):Option R :=
 (cond (decide (o<((b:Nat):Int))) (cond (Aj o b) (rdI .u32 (List.drop ((Int.toNat o)*1) e) fun r=>(cond (Aj o c) (cond ((Nat.beq 1 1)&&((Nat.ble ((0+((Int.toNat o)*1))+1) (List.length f))&&(!false))) (k0 c (Int.fdiv (IntKind.wrap .u64 (q+(IntKind.wrap .u64 r))) (2 ^ 32)) (IntKind.wrap .i64 (o+(1:Int))) (List.set f (0+((Int.toNat o)*1)) (.int .u32 (IntKind.wrap .u32 (IntKind.wrap .u64 (q+(IntKind.wrap .u64 r))))))) none) none)) none) (cond (Aj o c) (cond ((Nat.beq 1 1)&&((Nat.ble ((0+((Int.toNat o)*1))+1) (List.length f))&&(!false))) (k0 c (Int.fdiv q (2 ^ 32)) (IntKind.wrap .i64 (o+(1:Int))) (List.set f (0+((Int.toNat o)*1)) (.int .u32 (IntKind.wrap .u32 q)))) none) none))
def Zu (N:Nat) (k0:Nat→Int→Int→LA→Option R) (r0:Nat→LA→Option R) (d:LA) (a:Nat) (g i:Bool) (e:LA) (b:Nat) (j l:Bool) (c:Nat) (f:LA) (q o:Int):Option R:=(Aon N k0 r0 d a g i e b j l c f q o)
def Ab7 (N:Nat)  (r0:Nat→LA→Option R) (d:LA) (a:Nat) (g i:Bool) (e:LA) (b:Nat) (j l:Bool) (k0:Nat→Int→Int→LA→Option R) (q1:Int→Int→Option R) (c:Nat) (p m:Int) (f:LA):Option R :=
 (cond (decide (m<((c:Nat):Int))) (cond (decide (m<((a:Nat):Int))) (cond (Aj m a) (rdI .u32 (List.drop ((Int.toNat m)*1) d) fun u=>(q1 (IntKind.wrap .u64 (p+(IntKind.wrap .u64 u))) m)) none) (q1 p m)) (Cy N (List.take (c*1) f) c false true (fun w x=>(r0 w x))))
def Gg (N:Nat)  (r0:Nat→LA→Option R) (d:LA) (a:Nat) (g i:Bool) (e:LA) (b:Nat) (j l:Bool):Nat→Nat→Int→Int→LA→Option R
 | 0,_,_,_,_=>none
 | n+1,c,p,m,f=>(Ab7 N r0 d a g i e b j l (Gg N r0 d a g i e b j l n) (fun q o=>(Zu N (Gg N r0 d a g i e b j l n) r0 d a g i e b j l c f q o)) c p m f)
def Bcd (N:Nat) (r0:Nat→LA→Option R) (q0:Nat→Int→Int→LA→Option R) (d:LA) (a:Nat) (g i:Bool) (e:LA) (b:Nat) (j l:Bool):Option R :=
 (cond ((decide ((0:Int)≤(IntKind.wrap .i64 ((Zd ((a:Nat):Int) ((b:Nat):Int))+(1:Int)))))&&((decide ((IntKind.wrap .i64 ((Zd ((a:Nat):Int) ((b:Nat):Int))+(1:Int)))≤(IntKind.wrap .i64 ((Zd ((a:Nat):Int) ((b:Nat):Int))+(1:Int)))))&&((decide ((IntKind.wrap .i64 ((Zd ((a:Nat):Int) ((b:Nat):Int))+(1:Int)))≤(140737488355328:Int)))&&(decide (((IntKind.wrap .i64 ((Zd ((a:Nat):Int) ((b:Nat):Int))+(1:Int)))*((4:Nat):Int))≤(140737488355328:Int)))))) (q0 (Int.toNat (IntKind.wrap .i64 ((Zd ((a:Nat):Int) ((b:Nat):Int))+(1:Int)))) 0 0 (List.replicate (Int.toNat (IntKind.wrap .i64 ((Zd ((a:Nat):Int) ((b:Nat):Int))+(1:Int)))) (.int .u32 0))) none)
def Bce (N:Nat) (d:LA) (a:Nat) (g i:Bool) (e:LA) (b:Nat) (j l:Bool) (r0:Nat→LA→Option R):Option R:=(Bcd N r0 (fun c p m f=>(Gg N r0 d a g i e b j l N c p m f)) d a g i e b j l)
def Aif:=(Al (@Bce R)).1
theorem A71:@Aif R=@Bce R:=(Al _).2
def Aig:Hints:={ H:=(hS (hR [0,1]) (hS (hR [0,1,5]) (hS (hR [0,1,5,6]) (hS (hS (hR [0,1,5,6,7]) (hN [5] (hN [0,1,5,6,7] (hS (hS (hR [0,1,5,6,7,18]) (hN [0,1,5,6,7] hL hL)) (hS (hN [0,1,5,6,7] (hJ (hS (hR [0,1,5,6,7,24]) (hN [0,1,5,6,7] (hR [0,1,5,6,7]) hL)) (hS (hS (hR [0,1,5,6,7,35]) (hN [0,1,5,6,7] (hR [0,1,5,6,7]) hL)) (hS (hR [0,1,5,6,7]) (hR [0,1,5,6,7])))) hL) (hR [0,1,5,6,7]))) hL) hL)) (hS (hR [4]) hL))))),nils:=[(4,1)],modes:=[(2,1)],free:=[],cob:=[] }
def Ast (N:Nat):List (Nat×Tw):=[(143,Dy N)]
def Yo (N:Nat):Env:=mkE 52 Aig (Ast N)
def Bnm (N:Nat) (F:KF R):=As (Yo N) Tryz.f122 Aig.modes [] F
def Aih (N:Nat) (F:KF R):=atF (Yo N) [] N Tryz.f122 Aig (Bnm N F)
def Id  (F:KF R):Nat→LA→Option R:=(fun y z=>F (.own 300000 0 y) [(300000,⟨false,false,true,false,1,z,false⟩)])
def Aii (d:LA) (a:Nat) (g i:Bool) (e:LA) (b:Nat) (j l:Bool) (c:Nat) (f:LA) (q o:Int):St:={ s:=[(0,(.imm d a 1 g i)),(1,(.imm e b 1 j l)),(5,(.own 300000 0 c)),(6,(.int .u64 q)),(7,(.int .i64 o))],h:=[(300000,⟨false,false,true,false,1,f,false⟩)] }
def Bcf (N:Nat) (F:KF R) (Q0:St→Option R):St→Option R:=Bh (Yo N) [] N (Aih N F [1,1,1,0,1,0,0,1,0,0,1] [Q0])
def Bcg (N:Nat) (F:KF R) (Q0:St→Option R):St→Option R:=Bl (Yo N) [] N (Aih N F [1,1,1,0,1,0,0,1,0,0,1] [Q0])
def Kg (d:LA) (a:Nat) (g i:Bool) (e:LA) (b:Nat) (j l:Bool) (c:Nat) (p m:Int) (f:LA):St:={ s:=[(0,(.imm d a 1 g i)),(1,(.imm e b 1 j l)),(5,(.own 300000 0 c)),(6,(.int .u64 p)),(7,(.int .i64 m))],h:=[(300000,⟨false,false,true,false,1,f,false⟩)] }
def Bch (N:Nat) (F:KF R):St→Option R:=Bx (Yo N) [] N (Aih N F [1,1,1,0,1,0] []) N
def N0 (N:Nat) (F:KF R) (n:Nat):St→Option R:=A9 (Yo N) [] N (Aih N F [1,1,1,0,1,0] []) n
theorem Bhc (N:Nat) (Q0:St→Option R) (F:KF R) (d:LA) (a:Nat) (g i:Bool) (e:LA) (b:Nat) (j l:Bool) (c:Nat) (f:LA):∀ (q o:Int),Bcg N F Q0 (Aii d a g i e b j l c f q o)=(Zu N (fun c p m f=>Q0 (Kg d a g i e b j l c p m f)) (Id F) d a g i e b j l c f q o):=by
 intro q o
 have hK:Bcg N F Q0 (Aii d a g i e b j l c f q o)=(Aon N (fun c p m f=>Q0 (Kg d a g i e b j l c p m f)) (Id F) d a g i e b j l c f q o):=by kernel_rfl
 exact hK
theorem Bhd (N:Nat)  (F:KF R) (d:LA) (a:Nat) (g i:Bool) (e:LA) (b:Nat) (j l:Bool):∀ (n c:Nat) (p m:Int) (f:LA),N0 N F n (Kg d a g i e b j l c p m f)=(Gg N (Id F) d a g i e b j l n c p m f):=by
 intro n
 induction n with
 | zero=>intros;kernel_rfl
 | succ n ih =>
  intro c p m f
  have e0:=funext fun c=>funext fun p=>funext fun m=>funext fun f=>(show N0 N F n (Kg d a g i e b j l c p m f)=_ from ih c p m f)
  have e1:(fun q o=>Bcf N F (N0 N F n) (Aii d a g i e b j l c f q o))=(fun q o=>(Zu N (Gg N (Id F) d a g i e b j l n) (Id F) d a g i e b j l c f q o)):=by funext q;funext o;exact ((Aq ..).trans (Bhc N (N0 N F n) F d a g i e b j l c f q o)).trans (by rw [e0])
  have hK:N0 N F (n+1) (Kg d a g i e b j l c p m f)=(Ab7 N (Id F) d a g i e b j l (fun c p m f=>N0 N F n (Kg d a g i e b j l c p m f)) (fun q o=>Bcf N F (N0 N F n) (Aii d a g i e b j l c f q o)) c p m f):=by kernel_rfl
  exact hK.trans (by rw [e0,e1];rfl)
theorem Aww (N:Nat) (d:LA) (a:Nat) (g i:Bool) (e:LA) (b:Nat) (j l:Bool) (F:KF R):Ac Tryz.prog muts (Ast N) Aig N 122 [(.imm d a 1 g i),(.imm e b 1 j l)] [] F=(Aif N d a g i e b j l (Id F)):=by
 have e1:=funext fun c=>funext fun p=>funext fun m=>funext fun f=>(show Bch N F (Kg d a g i e b j l c p m f)=_ from (Au ..).trans (Bhd N F d a g i e b j l N c p m f))
 have hK:Ac Tryz.prog muts (Ast N) Aig N 122 [(.imm d a 1 g i),(.imm e b 1 j l)] [] F=(Bcd N (Id F) (fun c p m f=>Bch N F (Kg d a g i e b j l c p m f)) d a g i e b j l):=by kernel_rfl
 rw [A71]
 exact hK.trans (by rw [e1];rfl)
def Ab8 (N:Nat) (args:List AV) (h:Ak) (k:KF R):Option R :=
 match args,h with
 | [(.imm d a 1 g i),(.imm e b 1 j l)],[]=>(Aif N d a g i e b j l (Id k))
 | _,_=>none
def Awx (N:Nat):Tw:=⟨Ab8 N,fun args h k=>by
 unfold Ab8;split
 exact twE (Aww ..) (Aww ..)
 rfl⟩
theorem Bci (N:Nat):Az Tryz.prog 122 (Awx N):=fun args h res t hh=>by
 change Ab8 N args h (fun v t=>some (v,t))=_ at hh
 unfold Ab8 at hh;split at hh
 exact Aa (T:=Ast N) ⟨Eq N,trivial⟩ follows ((Aww ..).trans hh)
 cases hh
def Bcj (N:Nat) (r0:Int→Option R)  (c:LA) (b:Nat) (d e:Bool) (a:Int):Option R :=
 (cond (decide ((IntKind.wrap .i64 (Int.tdiv a (32:Int)))≥((b:Nat):Int))) (r0 0) (cond (Aj (IntKind.wrap .i64 (Int.tdiv a (32:Int))) b) (rdI .u32 (List.drop ((Int.toNat (IntKind.wrap .i64 (Int.tdiv a (32:Int))))*1) c) fun g=>(cond (decide ((IntKind.wrap .u64 (Int.tmod a (32:Int)))<(0:Int))) none (r0 (Bpk .u32 (Int.fdiv g (2 ^ (min (Int.toNat (IntKind.wrap .u64 (Int.tmod a (32:Int)))) 32))) (1:Int))))) none))
def Bck (N:Nat) (c:LA) (b:Nat) (d e:Bool) (a:Int) (r0:Int→Option R):Option R:=(Bcj N r0 c b d e a)
def A0q:=(Al (@Bck R)).1
theorem A72:@A0q R=@Bck R:=(Al _).2
def Bcl:Hints:={ H:=(hS (hR [0,1]) (hS (hS (hR [0,1,9]) (hN [0,1] (hS (hR [4]) hL) hL)) (hS (hR [4]) hL))),nils:=[],modes:=[],free:=[],cob:=[] }
def A4f (N:Nat):List (Nat×Tw):=[]
def Awy  (F:KF R):Int→Option R:=(fun i=>F (.int .u32 i) [])
theorem Awz (N:Nat) (c:LA) (b:Nat) (d e:Bool) (a:Int) (F:KF R):Ac Tryz.prog muts (A4f N) Bcl N 180 [(.imm c b 1 d e),(.int .i64 a)] [] F=(A0q N c b d e a (Awy F)):=by
 have hK:Ac Tryz.prog muts (A4f N) Bcl N 180 [(.imm c b 1 d e),(.int .i64 a)] [] F=(Bcj N (Awy F) c b d e a):=by kernel_rfl
 rw [A72]
 exact hK
def Ab9 (N:Nat) (args:List AV) (h:Ak) (k:KF R):Option R :=
 match args,h with
 | [(.imm c b 1 d e),(.int .i64 a)],[]=>(A0q N c b d e a (Awy k))
 | _,_=>none
def Bcm (N:Nat):Tw:=⟨Ab9 N,fun args h k=>by
 unfold Ab9;split
 exact twE (Awz ..) (Awz ..)
 rfl⟩
theorem Bpl (N:Nat):Az Tryz.prog 180 (Bcm N):=fun args h res f hh=>by
 change Ab9 N args h (fun v f=>some (v,f))=_ at hh
 unfold Ab9 at hh;split at hh
 exact Aa (T:=A4f N) trivial follows ((Awz ..).trans hh)
 cases hh
def M8 (N:Nat)  (r0:Int→Option R) (b c:Nat) (d e:LA) (k0:Int→Option R)  (a:Int):Option R :=
 (cond (decide (a≥(0:Int))) (cond (Aj a b) (rdI .u32 (List.drop (0+((Int.toNat a)*1)) d) fun r=>(cond (Aj a c) (rdI .u32 (List.drop (0+((Int.toNat a)*1)) e) fun t=>(cond (decide (r<t)) (r0 (-1)) (cond (Aj a b) (rdI .u32 (List.drop (0+((Int.toNat a)*1)) d) fun u=>(cond (Aj a c) (rdI .u32 (List.drop (0+((Int.toNat a)*1)) e) fun w=>(cond (decide (u>w)) (r0 1) (k0 (IntKind.wrap .i64 (a - (1:Int)))))) none)) none))) none)) none) (r0 0))
def Hd (N:Nat)  (r0:Int→Option R) (b c:Nat) (d e:LA):Nat→Int→Option R
 | 0,_=>none
 | n+1,a=>(M8 N r0 b c d e (Hd N r0 b c d e n) a)
def Aij (N:Nat) (r0:Int→Option R) (q0:Nat→Nat→LA→LA→Int→Option R) (f:LA) (g:Nat) (o i:Bool) (j:LA) (l:Nat) (p m:Bool):Option R :=
 (Cy N f g false i (fun b d=>(Cy N j l false m (fun c e=>(cond (((b:Nat):Int) != ((c:Nat):Int)) (cond (decide (((b:Nat):Int)<((c:Nat):Int))) (r0 (-1)) (r0 1)) (q0 b c d e (IntKind.wrap .i64 (((b:Nat):Int) - (1:Int)))))))))
def Aik (N:Nat) (f:LA) (g:Nat) (o i:Bool) (j:LA) (l:Nat) (p m:Bool) (r0:Int→Option R):Option R:=(Aij N r0 (fun b c d e a=>(Hd N r0 b c d e N a)) f g o i j l p m)
def U5:=(Al (@Aik R)).1
theorem Amp:@U5 R=@Aik R:=(Al _).2
def O8:Hints:={ H:=(hS (hR [0,1]) (hS (hR [0,1]) (hS (hS (hR [0,1,14]) (hN [0,1] (hS (hS (hR [19]) (hS (hS (hR [4]) hL) hL)) (hS (hR [4]) hL)) hL)) (hS (hS (hR [0,1,5]) (hS (hN [0,1,5] (hS (hS (hR [0,1,5,24]) (hN [0,1,5] hL hL)) (hS (hN [0,1,5] (hS (hS (hR [0,1,5,35]) (hN [0,1,5] (hS (hR [4]) hL) hL)) (hS (hR [0,1,5,44]) (hN [0,1,5] (hS (hR [4]) hL) hL))) hL) (hR [0,1,5]))) hL) hL)) (hS (hR [4]) hL))))),nils:=[],modes:=[],free:=[],cob:=[] }
def Tk (N:Nat):List (Nat×Tw):=[(143,Dy N)]
def Tl (N:Nat):Env:=mkE 45 O8 (Tk N)
def A97 (N:Nat) (F:KF R):=As (Tl N) Tryz.f168 O8.modes [] F
def Aoo (N:Nat) (F:KF R):=atF (Tl N) [] N Tryz.f168 O8 (A97 N F)
def Kh  (F:KF R):Int→Option R:=(fun x=>F (.int .i64 x) [])
def He (b c:Nat) (d e:LA) (a:Int):St:={ s:=[(0,(.own 300000 0 b)),(1,(.own 300001 0 c)),(5,(.int .i64 a))],h:=[(300000,⟨false,false,true,false,1,d,false⟩),(300001,⟨false,false,true,false,1,e,false⟩)] }
def Aop (N:Nat) (F:KF R):St→Option R:=Bx (Tl N) [] N (Aoo N F [1,1,1,0,1,0] []) N
def O9 (N:Nat) (F:KF R) (n:Nat):St→Option R:=A9 (Tl N) [] N (Aoo N F [1,1,1,0,1,0] []) n
theorem A0r (N:Nat)  (F:KF R) (b c:Nat) (d e:LA):∀ (n:Nat) (a:Int),O9 N F n (He b c d e a)=(Hd N (Kh F) b c d e n a):=by
 intro n
 induction n with
 | zero=>intros;kernel_rfl
 | succ n ih =>
  intro a
  have e0:=funext fun a=>(show O9 N F n (He b c d e a)=_ from ih a)
  have hK:O9 N F (n+1) (He b c d e a)=(M8 N (Kh F) b c d e (fun a=>O9 N F n (He b c d e a)) a):=by kernel_rfl
  exact hK.trans (by rw [e0];rfl)
theorem Zv (N:Nat) (f:LA) (g:Nat) (o i:Bool) (j:LA) (l:Nat) (p m:Bool) (F:KF R):Ac Tryz.prog muts (Tk N) O8 N 168 [(.imm f g 1 o i),(.imm j l 1 p m)] [] F=(U5 N f g o i j l p m (Kh F)):=by
 have e1:=funext fun b=>funext fun c=>funext fun d=>funext fun e=>funext fun a=>(show Aop N F (He b c d e a)=_ from (Au ..).trans (A0r N F b c d e N a))
 have hK:Ac Tryz.prog muts (Tk N) O8 N 168 [(.imm f g 1 o i),(.imm j l 1 p m)] [] F=(Aij N (Kh F) (fun b c d e a=>Aop N F (He b c d e a)) f g o i j l p m):=by kernel_rfl
 rw [Amp]
 exact hK.trans (by rw [e1];rfl)
def M9 (N:Nat) (args:List AV) (h:Ak) (k:KF R):Option R :=
 match args,h with
 | [(.imm f g 1 o i),(.imm j l 1 p m)],[]=>(U5 N f g o i j l p m (Kh k))
 | _,_=>none
def Aoq (N:Nat):Tw:=⟨M9 N,fun args h k=>by
 unfold M9;split
 exact twE (Zv ..) (Zv ..)
 rfl⟩
theorem Bcn (N:Nat):Az Tryz.prog 168 (Aoq N):=fun args h res q hh=>by
 change M9 N args h (fun v q=>some (v,q))=_ at hh
 unfold M9 at hh;split at hh
 exact Aa (T:=Tk N) ⟨Eq N,trivial⟩ follows ((Zv ..).trans hh)
 cases hh
def Aor (N:Nat) (k0:Int→Int→LA→Option R) (r0:Nat→Bool→LA→Option R) (a c:Nat) (d e b:LA)   (g j:Int):Option R :=
 (cond (Aj g a) (rdI .u32 (List.drop (0+((Int.toNat g)*1)) d) fun w=>(cond (decide ((IntKind.wrap .u64 w)<j)) (cond (Aj g a) (cond ((Nat.beq 1 1)&&((Nat.ble ((0+((Int.toNat g)*1))+1) (List.length b))&&(!false))) (k0 1 (IntKind.wrap .i64 (g+(1:Int))) (List.set b (0+((Int.toNat g)*1)) (.int .u32 (IntKind.wrap .u32 (IntKind.wrap .u64 ((IntKind.wrap .u64 ((IntKind.wrap .u64 w)+(4294967296:Int))) - j)))))) none) none) (cond (Aj g a) (cond ((Nat.beq 1 1)&&((Nat.ble ((0+((Int.toNat g)*1))+1) (List.length b))&&(!false))) (k0 0 (IntKind.wrap .i64 (g+(1:Int))) (List.set b (0+((Int.toNat g)*1)) (.int .u32 (IntKind.wrap .u32 (IntKind.wrap .u64 ((IntKind.wrap .u64 w) - j)))))) none) none))) none)
def Zw (N:Nat) (k0:Int→Int→LA→Option R) (r0:Nat→Bool→LA→Option R) (a c:Nat) (d e b:LA) (g j:Int):Option R:=(Aor N k0 r0 a c d e b g j)
def Aca (N:Nat)  (r0:Nat→Bool→LA→Option R) (a c:Nat) (d e:LA) (k0:Int→Int→LA→Option R) (q1:Int→Int→Option R) (i f:Int) (b:LA):Option R :=
 (cond (decide (f<((a:Nat):Int))) (cond (decide (f<((c:Nat):Int))) (cond (Aj f c) (rdI .u32 (List.drop (0+((Int.toNat f)*1)) e) fun y=>(q1 f (IntKind.wrap .u64 (i+(IntKind.wrap .u64 y))))) none) (q1 f i)) (Cy N (List.take (a*1) b) a false true (fun z aa=>(r0 z true aa))))
def Gh (N:Nat)  (r0:Nat→Bool→LA→Option R) (a c:Nat) (d e:LA):Nat→Int→Int→LA→Option R
 | 0,_,_,_=>none
 | n+1,i,f,b=>(Aca N r0 a c d e (Gh N r0 a c d e n) (fun g j=>(Zw N (Gh N r0 a c d e n) r0 a c d e b g j)) i f b)
def Bco (N:Nat) (r0:Nat→Bool→LA→Option R) (q0:Nat→Nat→LA→LA→Int→Int→LA→Option R) (l:LA) (m:Nat) (t o:Bool) (p:LA) (q:Nat) (u r:Bool):Option R :=
 (U5 N l m false o p q false r (fun ab=>(cond (decide (ab<(0:Int))) (r0 0 false []) (Cy N l m false o (fun a d=>(Cy N p q false r (fun c e=>(cond ((decide ((0:Int)≤((a:Nat):Int)))&&((decide (((a:Nat):Int)≤((a:Nat):Int)))&&((decide (((a:Nat):Int)≤(140737488355328:Int)))&&(decide ((((a:Nat):Int)*((4:Nat):Int))≤(140737488355328:Int)))))) (q0 a c d e 0 0 (List.replicate a (.int .u32 0))) none))))))))
def Bcp (N:Nat) (l:LA) (m:Nat) (t o:Bool) (p:LA) (q:Nat) (u r:Bool) (r0:Nat→Bool→LA→Option R):Option R:=(Bco N r0 (fun a c d e i f b=>(Gh N r0 a c d e N i f b)) l m t o p q u r)
def Ail:=(Al (@Bcp R)).1
theorem A73:@Ail R=@Bcp R:=(Al _).2
def Aim:Hints:={ H:=(hS (hR [0,1]) (hS (hS (hR [0,1,14]) (hN [0,1] (hS (hR [4,5]) hL) hL)) (hS (hR [0,1]) (hS (hR [0,1,6]) (hS (hR [0,1,6,7]) (hS (hS (hR [0,1,6,7,8]) (hN [6] (hN [0,1,6,7,8] (hS (hS (hR [0,1,6,7,8,25]) (hN [0,1,6,7,8] hL hL)) (hS (hN [0,1,6,7,8] (hS (hR [0,1,6,8,9]) (hJ (hS (hR [0,1,6,8,9,32]) (hN [0,1,6,8,9] (hR [0,1,6,8,9]) hL)) (hS (hR [0,1,6,8,9,10]) (hS (hR [0,1,6,7,8,9,10]) (hS (hS (hR [0,1,6,7,8,9,10,47]) (hN [0,1,6,7,8,9,10] (hS (hR [0,1,6,8,9,10]) (hR [0,1,6,7,8,9,10])) hL)) (hR [0,1,6,7,8])))))) hL) (hR [0,1,6,7,8]))) hL) hL)) (hS (hR [4,5]) hL))))))),nils:=[(4,1)],modes:=[(2,1),(0,0)],free:=[],cob:=[] }
def Asu (N:Nat):List (Nat×Tw):=[(168,Aoq N),(143,Dy N)]
def Yp (N:Nat):Env:=mkE 59 Aim (Asu N)
def Bnn (N:Nat) (F:KF R):=As (Yp N) Tryz.f123 Aim.modes [] F
def Ain (N:Nat) (F:KF R):=atF (Yp N) [] N Tryz.f123 Aim (Bnn N F)
def If  (F:KF R):Nat→Bool→LA→Option R:=(fun ac ad ae=>F (.tup [(.own 300000 0 ac),(.bool ad)]) [(300000,⟨false,false,true,false,1,ae,false⟩)])
def Aio (a c:Nat) (d e b:LA) (g j:Int):St:={ s:=[(0,(.own 300000 0 a)),(1,(.own 300001 0 c)),(6,(.own 300002 0 a)),(8,(.int .i64 g)),(9,(.int .u64 j))],h:=[(300000,⟨false,false,true,false,1,d,false⟩),(300001,⟨false,false,true,false,1,e,false⟩),(300002,⟨false,false,true,false,1,b,false⟩)] }
def Bcq (N:Nat) (F:KF R) (Q0:St→Option R):St→Option R:=Bh (Yp N) [] N (Ain N F [1,1,1,1,1,0,1,0,0,1,0,0,1,1] [Q0])
def Bcr (N:Nat) (F:KF R) (Q0:St→Option R):St→Option R:=Bl (Yp N) [] N (Ain N F [1,1,1,1,1,0,1,0,0,1,0,0,1,1] [Q0])
def Ki (a c:Nat) (d e:LA) (i f:Int) (b:LA):St:={ s:=[(0,(.own 300000 0 a)),(1,(.own 300001 0 c)),(6,(.own 300002 0 a)),(7,(.int .u64 i)),(8,(.int .i64 f))],h:=[(300000,⟨false,false,true,false,1,d,false⟩),(300001,⟨false,false,true,false,1,e,false⟩),(300002,⟨false,false,true,false,1,b,false⟩)] }
def Bcs (N:Nat) (F:KF R):St→Option R:=Bx (Yp N) [] N (Ain N F [1,1,1,1,1,0,1,0] []) N
def N1 (N:Nat) (F:KF R) (n:Nat):St→Option R:=A9 (Yp N) [] N (Ain N F [1,1,1,1,1,0,1,0] []) n
theorem Bhe (N:Nat) (Q0:St→Option R) (F:KF R) (a c:Nat) (d e b:LA):∀ (g j:Int),Bcr N F Q0 (Aio a c d e b g j)=(Zw N (fun i f b=>Q0 (Ki a c d e i f b)) (If F) a c d e b g j):=by
 intro g j
 have hK:Bcr N F Q0 (Aio a c d e b g j)=(Aor N (fun i f b=>Q0 (Ki a c d e i f b)) (If F) a c d e b g j):=by kernel_rfl
 exact hK
theorem Bhf (N:Nat)  (F:KF R) (a c:Nat) (d e:LA):∀ (n:Nat) (i f:Int) (b:LA),N1 N F n (Ki a c d e i f b)=(Gh N (If F) a c d e n i f b):=by
 intro n
 induction n with
 | zero=>intros;kernel_rfl
 | succ n ih =>
  intro i f b
  have e0:=funext fun i=>funext fun f=>funext fun b=>(show N1 N F n (Ki a c d e i f b)=_ from ih i f b)
  have e1:(fun g j=>Bcq N F (N1 N F n) (Aio a c d e b g j))=(fun g j=>(Zw N (Gh N (If F) a c d e n) (If F) a c d e b g j)):=by funext g;funext j;exact ((Aq ..).trans (Bhe N (N1 N F n) F a c d e b g j)).trans (by rw [e0])
  have hK:N1 N F (n+1) (Ki a c d e i f b)=(Aca N (If F) a c d e (fun i f b=>N1 N F n (Ki a c d e i f b)) (fun g j=>Bcq N F (N1 N F n) (Aio a c d e b g j)) i f b):=by kernel_rfl
  exact hK.trans (by rw [e0,e1];rfl)
theorem Aw0 (N:Nat) (l:LA) (m:Nat) (t o:Bool) (p:LA) (q:Nat) (u r:Bool) (F:KF R):Ac Tryz.prog muts (Asu N) Aim N 123 [(.imm l m 1 t o),(.imm p q 1 u r)] [] F=(Ail N l m t o p q u r (If F)):=by
 have e1:=funext fun a=>funext fun c=>funext fun d=>funext fun e=>funext fun i=>funext fun f=>funext fun b=>(show Bcs N F (Ki a c d e i f b)=_ from (Au ..).trans (Bhf N F a c d e N i f b))
 have hK:Ac Tryz.prog muts (Asu N) Aim N 123 [(.imm l m 1 t o),(.imm p q 1 u r)] [] F=(Bco N (If F) (fun a c d e i f b=>Bcs N F (Ki a c d e i f b)) l m t o p q u r):=by kernel_rfl
 rw [A73]
 exact hK.trans (by rw [e1];rfl)
def Acb (N:Nat) (args:List AV) (h:Ak) (k:KF R):Option R :=
 match args,h with
 | [(.imm l m 1 t o),(.imm p q 1 u r)],[]=>(Ail N l m t o p q u r (If k))
 | _,_=>none
def Aw1 (N:Nat):Tw:=⟨Acb N,fun args h k=>by
 unfold Acb;split
 exact twE (Aw0 ..) (Aw0 ..)
 rfl⟩
theorem Bct (N:Nat):Az Tryz.prog 123 (Aw1 N):=fun args h res x hh=>by
 change Acb N args h (fun v x=>some (v,x))=_ at hh
 unfold Acb at hh;split at hh
 exact Aa (T:=Asu N) ⟨Bcn N,Eq N,trivial⟩ follows ((Aw0 ..).trans hh)
 cases hh
def Zx (N:Nat) (k1:Nat→Int→LA→LA→Option R) (r0:Nat→Nat→Bool→LA→LA→Option R) (b:LA) (a:Nat) (e c:Bool) (d:Nat) (g:Int) (f i:LA)   (m:Nat) (o:LA):Option R :=
 (Ail N (List.take (m*1) o) m false true (List.take (d*1) f) d false true (fun aa ab ac=>(cond ab (cond (Aj (IntKind.wrap .i64 (Int.tdiv g (32:Int))) a) (rdI .u32 (List.drop (0+((Int.toNat (IntKind.wrap .i64 (Int.tdiv g (32:Int))))*1)) i) fun ad=>(cond (decide ((IntKind.wrap .u64 (Int.tmod g (32:Int)))<(0:Int))) none (cond (Aj (IntKind.wrap .i64 (Int.tdiv g (32:Int))) a) (cond ((Nat.beq 1 1)&&((Nat.ble ((0+((Int.toNat (IntKind.wrap .i64 (Int.tdiv g (32:Int))))*1))+1) (List.length i))&&(!false))) (k1 aa (IntKind.wrap .i64 (g - (1:Int))) (List.set i (0+((Int.toNat (IntKind.wrap .i64 (Int.tdiv g (32:Int))))*1)) (.int .u32 (Of .u32 ad (IntKind.wrap .u32 ((1:Int)*2 ^ (min (Int.toNat (IntKind.wrap .u64 (Int.tmod g (32:Int)))) 32)))))) ac) none) none))) none) (k1 m (IntKind.wrap .i64 (g - (1:Int))) i o))))
def Je (N:Nat) (k1:Nat→Int→LA→LA→Option R) (r0:Nat→Nat→Bool→LA→LA→Option R) (b:LA) (a:Nat) (e c:Bool) (d:Nat) (g:Int) (f i:LA) (m:Nat) (o:LA):Option R:=(Zx N k1 r0 b a e c d g f i m o)
def Pa (N:Nat)  (r0:Nat→Nat→Bool→LA→LA→Option R) (b:LA) (a:Nat) (e c:Bool) (d:Nat) (f:LA) (k1:Nat→Int→LA→LA→Option R) (q2:Nat→LA→Option R) (j:Nat) (g:Int) (i l:LA):Option R :=
 (cond (decide (g≥(0:Int))) (Aif N (List.take (j*1) l) j false true (List.take (j*1) l) j false true (fun w x=>(A0q N b a false c g (fun ae=>(cond (ae==(1:Int)) (Aif N (List.take (w*1) x) w false true [(.int .u32 1)] 1 false true (fun af ag=>(q2 af ag))) (q2 w x)))))) (Cy N (List.take (a*1) i) a false true (fun ah ai=>(Cy N (List.take (j*1) l) j false true (fun aj ak=>(r0 ah aj true ai ak))))))
def C6 (N:Nat)  (r0:Nat→Nat→Bool→LA→LA→Option R) (b:LA) (a:Nat) (e c:Bool) (d:Nat) (f:LA):Nat→Nat→Int→LA→LA→Option R
 | 0,_,_,_,_=>none
 | n+1,j,g,i,l=>(Pa N r0 b a e c d f (C6 N r0 b a e c d f n) (fun m o=>(Je N (C6 N r0 b a e c d f n) r0 b a e c d g f i m o)) j g i l)
def Zy (N:Nat)  (r0:Nat→Nat→Bool→LA→LA→Option R) (b:LA) (a:Nat) (e c:Bool) (d:Nat) (f:LA)  (q1:Nat→Int→LA→LA→Option R) :Option R :=
 (cond ((decide ((0:Int)≤((a:Nat):Int)))&&((decide (((a:Nat):Int)≤((a:Nat):Int)))&&((decide (((a:Nat):Int)≤(140737488355328:Int)))&&(decide ((((a:Nat):Int)*((4:Nat):Int))≤(140737488355328:Int)))))) (Aol N b a false c (fun al=>(q1 0 (IntKind.wrap .i64 (al - (1:Int))) (List.replicate a (.int .u32 0)) []))) none)
def Tm (N:Nat)  (r0:Nat→Nat→Bool→LA→LA→Option R) (b:LA) (a:Nat) (e c:Bool) (d:Nat) (f:LA) :Option R:=(Zy N r0 b a e c d f (fun j g i l=>(C6 N r0 b a e c d f N j g i l)))
def Aos (N:Nat) (r0:Nat→Nat→Bool→LA→LA→Option R) (q0:Nat→LA→Option R) (b:LA) (a:Nat) (e c:Bool) (p:LA) (q:Nat) (t r:Bool):Option R :=
 (Cy N p q false r (fun d f=>(cond (((d:Nat):Int)==(0:Int)) (r0 0 0 false [] []) (Rm N b a false c (fun y am=>(Rm N (List.take (d*1) f) d false true (fun u an=>(cond (am==true) (cond (cond true an false) (cond (u==(0:Int)) none (Dz N (IntKind.wrap .u64 (Int.tdiv y u)) (fun ao ap=>(cond (u==(0:Int)) none (Dz N (Int.tmod y u) (fun aq ar=>(r0 ao aq true ap ar))))))) (q0 d f)) (q0 d f)))))))))
def Aot (N:Nat) (b:LA) (a:Nat) (e c:Bool) (p:LA) (q:Nat) (t r:Bool) (r0:Nat→Nat→Bool→LA→LA→Option R):Option R:=(Aos N r0 (fun d f=>(Tm N r0 b a e c d f)) b a e c p q t r)
def Rn:=(Al (@Aot R)).1
theorem Aou:@Rn R=@Aot R:=(Al _).2
def Tn:Hints:={ H:=(hS (hR [0,1,5]) (hS (hR [0,1,5]) (hS (hS (hR [0,1,5,18]) (hN [0,1,5] (hS (hR [4,5,6]) hL) hL)) (hS (hR [0,1,5,7,8]) (hJ (hS (hR [0,1,5,7,8,9,10]) (hS (hR [0,1,5,7,9,32]) (hN [0,1,5] (hS (hR [4,5,6]) hL) hL))) (hS (hR [0,1,4,5]) (hS (hS (hR [0,1,4,5,11]) (hN [4,5] (hN [0,1,4,5,11] (hS (hS (hR [0,1,4,5,11,48]) (hN [0,1,4,5,11] hL hL)) (hS (hN [0,1,4,5,11] (hS (hR [0,1,4,5,11]) (hJ (hS (hR [0,1,4,5,11,57]) (hN [0,1,4,5,11] (hR [0,1,4,5,11]) hL)) (hS (hR [0,1,4,5,11,12,13]) (hS (hR [0,1,4,5,11,12,67]) (hN [0,1,4,5,11] (hS (hR [0,1,4,5,11]) (hR [0,1,4,5,11])) hL))))) hL) (hR [0,1,4,5,11]))) hL) hL)) (hS (hR [4,5,6]) hL)))))))),nils:=[(4,1),(5,1)],modes:=[(2,1),(2,1),(0,0)],free:=[],cob:=[] }
def Xb (N:Nat):List (Nat×Tw):=[(143,Dy N),(178,Aus N),(94,O4 N),(179,A70 N),(122,Awx N),(180,Bcm N),(123,Aw1 N)]
def F8 (N:Nat):Env:=mkE 84 Tn (Xb N)
def Bcu (N:Nat) (F:KF R):=As (F8 N) Tryz.f140 Tn.modes [] F
def Jf (N:Nat) (F:KF R):=atF (F8 N) [] N Tryz.f140 Tn (Bcu N F)
def Ct  (F:KF R):Nat→Nat→Bool→LA→LA→Option R:=(fun au av aw ax ay=>F (.tup [(.own 300000 0 au),(.own 300001 0 av),(.bool aw)]) [(300000,⟨false,false,true,false,1,ax,false⟩),(300001,⟨false,false,true,false,1,ay,false⟩)])
def To (b:LA) (a:Nat) (e c:Bool) (d:Nat) (g:Int) (f i:LA) (m:Nat) (o:LA):St:={ s:=[(0,(.imm b a 1 e c)),(1,(.own 300000 0 d)),(4,(.own 300001 0 a)),(5,(.own 300002 0 m)),(11,(.int .i64 g))],h:=[(300000,⟨false,false,true,false,1,f,false⟩),(300001,⟨false,false,true,false,1,i,false⟩),(300002,⟨false,false,true,false,1,o,false⟩)] }
def Aut (N:Nat) (F:KF R) (Q1:St→Option R):St→Option R:=Bh (F8 N) [] N (Jf N F [1,1,1,1,1,1,0,1,0,0,1,0,0,1,1] [Q1])
def Auu (N:Nat) (F:KF R) (Q1:St→Option R):St→Option R:=Bl (F8 N) [] N (Jf N F [1,1,1,1,1,1,0,1,0,0,1,0,0,1,1] [Q1])
def Er (b:LA) (a:Nat) (e c:Bool) (d:Nat) (f:LA) (j:Nat) (g:Int) (i l:LA):St:={ s:=[(0,(.imm b a 1 e c)),(1,(.own 300000 0 d)),(4,(.own 300001 0 a)),(5,(.own 300002 0 j)),(11,(.int .i64 g))],h:=[(300000,⟨false,false,true,false,1,f,false⟩),(300001,⟨false,false,true,false,1,i,false⟩),(300002,⟨false,false,true,false,1,l,false⟩)] }
def Auv (N:Nat) (F:KF R):St→Option R:=Bx (F8 N) [] N (Jf N F [1,1,1,1,1,1,0,1,0] []) N
def Gi (N:Nat) (F:KF R) (n:Nat):St→Option R:=A9 (F8 N) [] N (Jf N F [1,1,1,1,1,1,0,1,0] []) n
def Tp (b:LA) (a:Nat) (e c:Bool) (d:Nat) (f:LA):St:={ s:=[(0,(.imm b a 1 e c)),(1,(.own 300000 0 d)),(5,(.own 300001 0 0))],h:=[(300000,⟨false,false,true,false,1,f,false⟩),(300001,⟨false,false,true,false,1,[],false⟩)] }
def Auw (N:Nat) (F:KF R):St→Option R:=Bh (F8 N) [] N (Jf N F [1,1,1,1,1] [])
def Aux (N:Nat) (F:KF R):St→Option R:=Bl (F8 N) [] N (Jf N F [1,1,1,1,1] [])
theorem A4g (N:Nat) (Q1:St→Option R) (F:KF R) (b:LA) (a:Nat) (e c:Bool) (d:Nat) (g:Int) (f i:LA):∀ (m:Nat) (o:LA),Auu N F Q1 (To b a e c d g f i m o)=(Je N (fun j g i l=>Q1 (Er b a e c d f j g i l)) (Ct F) b a e c d g f i m o):=by
 intro m o
 have hK:Auu N F Q1 (To b a e c d g f i m o)=(Zx N (fun j g i l=>Q1 (Er b a e c d f j g i l)) (Ct F) b a e c d g f i m o):=by kernel_rfl
 exact hK
theorem A4h (N:Nat)  (F:KF R) (b:LA) (a:Nat) (e c:Bool) (d:Nat) (f:LA):∀ (n j:Nat) (g:Int) (i l:LA),Gi N F n (Er b a e c d f j g i l)=(C6 N (Ct F) b a e c d f n j g i l):=by
 intro n
 induction n with
 | zero=>intros;kernel_rfl
 | succ n ih =>
  intro j g i l
  have e0:=funext fun j=>funext fun g=>funext fun i=>funext fun l=>(show Gi N F n (Er b a e c d f j g i l)=_ from ih j g i l)
  have e1:(fun m o=>Aut N F (Gi N F n) (To b a e c d g f i m o))=(fun m o=>(Je N (C6 N (Ct F) b a e c d f n) (Ct F) b a e c d g f i m o)):=by funext m;funext o;exact ((Aq ..).trans (A4g N (Gi N F n) F b a e c d g f i m o)).trans (by rw [e0])
  have hK:Gi N F (n+1) (Er b a e c d f j g i l)=(Pa N (Ct F) b a e c d f (fun j g i l=>Gi N F n (Er b a e c d f j g i l)) (fun m o=>Aut N F (Gi N F n) (To b a e c d g f i m o)) j g i l):=by kernel_rfl
  exact hK.trans (by rw [e0,e1];rfl)
theorem A4i (N:Nat)  (F:KF R) (b:LA) (a:Nat) (e c:Bool) (d:Nat) (f:LA):Aux N F (Tp b a e c d f)=(Tm N (Ct F) b a e c d f):=by
 have e1:=funext fun j=>funext fun g=>funext fun i=>funext fun l=>(show Auv N F (Er b a e c d f j g i l)=_ from (Au ..).trans (A4h N F b a e c d f N j g i l))
 have hK:Aux N F (Tp b a e c d f)=(Zy N (Ct F) b a e c d f (fun j g i l=>Auv N F (Er b a e c d f j g i l))):=by kernel_rfl
 exact hK.trans (by rw [e1];rfl)
theorem Aeu (N:Nat) (b:LA) (a:Nat) (e c:Bool) (p:LA) (q:Nat) (t r:Bool) (F:KF R):Ac Tryz.prog muts (Xb N) Tn N 140 [(.imm b a 1 e c),(.imm p q 1 t r)] [] F=(Rn N b a e c p q t r (Ct F)):=by
 have e1:=funext fun d=>funext fun f=>(show Auw N F (Tp b a e c d f)=_ from (Aq ..).trans (A4i N F b a e c d f))
 have hK:Ac Tryz.prog muts (Xb N) Tn N 140 [(.imm b a 1 e c),(.imm p q 1 t r)] [] F=(Aos N (Ct F) (fun d f=>Auw N F (Tp b a e c d f)) b a e c p q t r):=by kernel_rfl
 rw [Aou]
 exact hK.trans (by rw [e1];rfl)
def Pb (N:Nat) (args:List AV) (h:Ak) (k:KF R):Option R :=
 match args,h with
 | [(.imm b a 1 e c),(.imm p q 1 t r)],[]=>(Rn N b a e c p q t r (Ct k))
 | _,_=>none
def Aev (N:Nat):Tw:=⟨Pb N,fun args h k=>by
 unfold Pb;split
 exact twE (Aeu ..) (Aeu ..)
 rfl⟩
theorem Auy (N:Nat):Az Tryz.prog 140 (Aev N):=fun args h res z hh=>by
 change Pb N args h (fun v z=>some (v,z))=_ at hh
 unfold Pb at hh;split at hh
 exact Aa (T:=Xb N) ⟨Eq N,Bhb N,Ab2 N,Bnl N,Bci N,Bpl N,Bct N,trivial⟩ follows ((Aeu ..).trans hh)
 cases hh
def Oj (N:Nat)  (r0:Nat→LA→Option R)  (k0:Nat→Nat→LA→LA→Option R)  (b a:Nat) (c d:LA):Option R :=
 (cond (decide (((a:Nat):Int)>(0:Int))) (Rn N (List.take (b*1) c) b false true (List.take (a*1) d) a false true (fun aa q ab ac r=>(k0 a q d r))) (r0 b c))
def Dn (N:Nat)  (r0:Nat→LA→Option R) :Nat→Nat→Nat→LA→LA→Option R
 | 0,_,_,_,_=>none
 | n+1,b,a,c,d=>(Oj N r0 (Dn N r0 n) b a c d)
def Bcv (N:Nat) (r0:Nat→LA→Option R) (q0:Nat→Nat→LA→LA→Option R) (e:LA) (f:Nat) (m g:Bool) (i:LA) (j:Nat) (o l:Bool):Option R :=
 (Cy N e f false g (fun t u=>(Cy N i j false l (fun w x=>(q0 t w u x)))))
def Bcw (N:Nat) (e:LA) (f:Nat) (m g:Bool) (i:LA) (j:Nat) (o l:Bool) (r0:Nat→LA→Option R):Option R:=(Bcv N r0 (fun b a c d=>(Dn N r0 N b a c d)) e f m g i j o l)
def A0s:=(Al (@Bcw R)).1
theorem A74:@A0s R=@Bcw R:=(Al _).2
def Aip:Hints:={ H:=(hS (hR [0,1]) (hS (hR [0,1]) (hS (hN [0] (hN [0,1] (hS (hS (hR [0,1,14]) (hN [0,1] hL hL)) (hN [0,1] (hS (hR [1,6]) (hR [0,1])) hL)) hL) hL) (hS (hR [4]) hL)))),nils:=[(4,1)],modes:=[(2,1)],free:=[],cob:=[] }
def Asv (N:Nat):List (Nat×Tw):=[(143,Dy N),(140,Aev N)]
def Asw (N:Nat):Env:=mkE 25 Aip (Asv N)
def Bno (N:Nat) (F:KF R):=As (Asw N) Tryz.f139 Aip.modes [] F
def Bcx (N:Nat) (F:KF R):=atF (Asw N) [] N Tryz.f139 Aip (Bno N F)
def Zz  (F:KF R):Nat→LA→Option R:=(fun y z=>F (.own 300000 0 y) [(300000,⟨false,false,true,false,1,z,false⟩)])
def Ro (b a:Nat) (c d:LA):St:={ s:=[(0,(.own 300000 0 b)),(1,(.own 300001 0 a))],h:=[(300000,⟨false,false,true,false,1,c,false⟩),(300001,⟨false,false,true,false,1,d,false⟩)] }
def Bcy (N:Nat) (F:KF R):St→Option R:=Bx (Asw N) [] N (Bcx N F [1,1,0,0] []) N
def Aiq (N:Nat) (F:KF R) (n:Nat):St→Option R:=A9 (Asw N) [] N (Bcx N F [1,1,0,0] []) n
theorem Bhg (N:Nat)  (F:KF R) :∀ (n b a:Nat) (c d:LA),Aiq N F n (Ro b a c d)=(Dn N (Zz F) n b a c d):=by
 intro n
 induction n with
 | zero=>intros;kernel_rfl
 | succ n ih =>
  intro b a c d
  have e0:=funext fun b=>funext fun a=>funext fun c=>funext fun d=>(show Aiq N F n (Ro b a c d)=_ from ih b a c d)
  have hK:Aiq N F (n+1) (Ro b a c d)=(Oj N (Zz F) (fun b a c d=>Aiq N F n (Ro b a c d)) b a c d):=by kernel_rfl
  exact hK.trans (by rw [e0];rfl)
theorem Aw2 (N:Nat) (e:LA) (f:Nat) (m g:Bool) (i:LA) (j:Nat) (o l:Bool) (F:KF R):Ac Tryz.prog muts (Asv N) Aip N 139 [(.imm e f 1 m g),(.imm i j 1 o l)] [] F=(A0s N e f m g i j o l (Zz F)):=by
 have e1:=funext fun b=>funext fun a=>funext fun c=>funext fun d=>(show Bcy N F (Ro b a c d)=_ from (Au ..).trans (Bhg N F N b a c d))
 have hK:Ac Tryz.prog muts (Asv N) Aip N 139 [(.imm e f 1 m g),(.imm i j 1 o l)] [] F=(Bcv N (Zz F) (fun b a c d=>Bcy N F (Ro b a c d)) e f m g i j o l):=by kernel_rfl
 rw [A74]
 exact hK.trans (by rw [e1];rfl)
def Acc (N:Nat) (args:List AV) (h:Ak) (k:KF R):Option R :=
 match args,h with
 | [(.imm e f 1 m g),(.imm i j 1 o l)],[]=>(A0s N e f m g i j o l (Zz k))
 | _,_=>none
def Bcz (N:Nat):Tw:=⟨Acc N,fun args h k=>by
 unfold Acc;split
 exact twE (Aw2 ..) (Aw2 ..)
 rfl⟩
theorem Bpm (N:Nat):Az Tryz.prog 139 (Bcz N):=fun args h res p hh=>by
 change Acc N args h (fun v p=>some (v,p))=_ at hh
 unfold Acc at hh;split at hh
 exact Aa (T:=Asv N) ⟨Eq N,Auy N,trivial⟩ follows ((Aw2 ..).trans hh)
 cases hh
def Bc0 (N:Nat) (r0:LA→Option R)  (a:LA) (b:Bool) (c:LA) (d:Bool):Option R :=
 (rdL 1 (List.drop 1 a) fun i j=>(rdL 1 (List.drop 1 c) fun l m=>(A0s N i j false b l m false d (fun f n=>(Eh N false (List.take (f*1) n) f false true (fun e=>(cond ((Nat.beq 0 0)&&((Nat.beq (List.length e) 2)&&(Nat.beq 2 2))) (cond (Nat.ble 2 (List.length e)) (r0 (List.take 2 e)) none) none)))))))
def Bc1 (N:Nat) (a:LA) (b:Bool) (c:LA) (d:Bool) (r0:LA→Option R):Option R:=(Bc0 N r0 a b c d)
def A0t:=(Al (@Bc1 R)).1
theorem A75:@A0t R=@Bc1 R:=(Al _).2
def Bc2:Hints:={ H:=(hS (hR [2,3,4]) (hS (hR [4]) hL)),nils:=[],modes:=[(3,0)],free:=[],cob:=[] }
def A4j (N:Nat):List (Nat×Tw):=[(139,Bcz N),(93,F7 N)]
def Aw3  (F:KF R):LA→Option R:=(fun o=>F (.pagg o false) [])
theorem Aw4 (N:Nat) (a:LA) (b:Bool) (c:LA) (d:Bool) (F:KF R):Ac Tryz.prog muts (A4j N) Bc2 N 90 [(.pagg a b),(.pagg c d)] [] F=(A0t N a b c d (Aw3 F)):=by
 have hK:Ac Tryz.prog muts (A4j N) Bc2 N 90 [(.pagg a b),(.pagg c d)] [] F=(Bc0 N (Aw3 F) a b c d):=by kernel_rfl
 rw [A75]
 exact hK
def Acd (N:Nat) (args:List AV) (h:Ak) (k:KF R):Option R :=
 match args,h with
 | [(.pagg a b),(.pagg c d)],[]=>(A0t N a b c d (Aw3 k))
 | _,_=>none
def Bc3 (N:Nat):Tw:=⟨Acd N,fun args h k=>by
 unfold Acd;split
 exact twE (Aw4 ..) (Aw4 ..)
 rfl⟩
theorem Bpn (N:Nat):Az Tryz.prog 90 (Bc3 N):=fun args h res g hh=>by
 change Acd N args h (fun v g=>some (v,g))=_ at hh
 unfold Acd at hh;split at hh
 exact Aa (T:=A4j N) ⟨Bpm N,Hy N,trivial⟩ follows ((Aw4 ..).trans hh)
 cases hh
def Bnp (N:Nat) (r0:LA→Option R)  (a:LA) (b:Bool):Option R :=
 (rdL 1 (List.drop 1 a) fun e f=>(Eh N false e f false b (fun c=>(cond ((Nat.beq 0 0)&&((Nat.beq (List.length c) 2)&&(Nat.beq 2 2))) (cond (Nat.ble 2 (List.length c)) (r0 (List.take 2 c)) none) none))))
def Bnq (N:Nat) (a:LA) (b:Bool) (r0:LA→Option R):Option R:=(Bnp N r0 a b)
def Bat:=(Al (@Bnq R)).1
theorem Bnr:@Bat R=@Bnq R:=(Al _).2
def Bc4:Hints:={ H:=(hS (hR [1,2]) (hS (hR [2]) hL)),nils:=[],modes:=[(3,0)],free:=[],cob:=[] }
def A4k (N:Nat):List (Nat×Tw):=[(93,F7 N)]
def Aw5  (F:KF R):LA→Option R:=(fun g=>F (.pagg g false) [])
theorem Aw6 (N:Nat) (a:LA) (b:Bool) (F:KF R):Ac Tryz.prog muts (A4k N) Bc4 N 141 [(.pagg a b)] [] F=(Bat N a b (Aw5 F)):=by
 have hK:Ac Tryz.prog muts (A4k N) Bc4 N 141 [(.pagg a b)] [] F=(Bnp N (Aw5 F) a b):=by kernel_rfl
 rw [Bnr]
 exact hK
def Ace (N:Nat) (args:List AV) (h:Ak) (k:KF R):Option R :=
 match args,h with
 | [(.pagg a b)],[]=>(Bat N a b (Aw5 k))
 | _,_=>none
def Bc5 (N:Nat):Tw:=⟨Ace N,fun args h k=>by
 unfold Ace;split
 exact twE (Aw6 ..) (Aw6 ..)
 rfl⟩
theorem Bpo (N:Nat):Az Tryz.prog 141 (Bc5 N):=fun args h res d hh=>by
 change Ace N args h (fun v d=>some (v,d))=_ at hh
 unfold Ace at hh;split at hh
 exact Aa (T:=A4k N) ⟨Hy N,trivial⟩ follows ((Aw6 ..).trans hh)
 cases hh
def Bc6 (N:Nat) (r0:LA→Option R)  (a:LA) (c:Bool) (b:LA) (d:Bool):Option R :=
 (rdB a fun n=>(rdB b fun o=>(cond (n==o) (rdB a fun p=>(rdL 1 (List.drop 1 a) fun q r=>(rdL 1 (List.drop 1 b) fun s t=>(Aif N q r false c s t false d (fun i u=>(Eh N p (List.take (i*1) u) i false true (fun e=>(cond ((Nat.beq 0 0)&&((Nat.beq (List.length e) 2)&&(Nat.beq 2 2))) (cond (Nat.ble 2 (List.length e)) (r0 (List.take 2 e)) none) none)))))))) (rdL 1 (List.drop 1 a) fun w x=>(rdL 1 (List.drop 1 b) fun y z=>(Ail N w x false c y z false d (fun j aa ab=>(cond aa (rdB a fun ac=>(Eh N ac (List.take (j*1) ab) j false true (fun f=>(cond ((Nat.beq 0 0)&&((Nat.beq (List.length f) 2)&&(Nat.beq 2 2))) (cond (Nat.ble 2 (List.length f)) (r0 (List.take 2 f)) none) none)))) (rdL 1 (List.drop 1 b) fun ad ae=>(rdL 1 (List.drop 1 a) fun af ag=>(Ail N ad ae false d af ag false c (fun l ak ah=>(rdB b fun ai=>(Eh N ai (List.take (l*1) ah) l false true (fun g=>(cond ((Nat.beq 0 0)&&((Nat.beq (List.length g) 2)&&(Nat.beq 2 2))) (cond (Nat.ble 2 (List.length g)) (r0 (List.take 2 g)) none) none))))))))))))))))
def Bc7 (N:Nat) (a:LA) (c:Bool) (b:LA) (d:Bool) (r0:LA→Option R):Option R:=(Bc6 N r0 a c b d)
def Xc:=(Al (@Bc7 R)).1
theorem A76:@Xc R=@Bc7 R:=(Al _).2
def Bc8:Hints:={ H:=(hS (hR [2,3,4]) (hS (hS (hR [2,3,4,13]) (hN [2,3,4] (hS (hR [4]) hL) hL)) (hS (hS (hR [2,3,4,5,6]) (hS (hR [2,3,4,5,30]) (hN [2,3,4] (hS (hR [4]) hL) hL))) (hS (hR [3,4,7]) (hS (hR [4]) hL))))),nils:=[],modes:=[(3,0)],free:=[],cob:=[] }
def A4l (N:Nat):List (Nat×Tw):=[(122,Awx N),(93,F7 N),(123,Aw1 N)]
def Aw7  (F:KF R):LA→Option R:=(fun aj=>F (.pagg aj false) [])
theorem Aw8 (N:Nat) (a:LA) (c:Bool) (b:LA) (d:Bool) (F:KF R):Ac Tryz.prog muts (A4l N) Bc8 N 71 [(.pagg a c),(.pagg b d)] [] F=(Xc N a c b d (Aw7 F)):=by
 have hK:Ac Tryz.prog muts (A4l N) Bc8 N 71 [(.pagg a c),(.pagg b d)] [] F=(Bc6 N (Aw7 F) a c b d):=by kernel_rfl
 rw [A76]
 exact hK
def Acf (N:Nat) (args:List AV) (h:Ak) (k:KF R):Option R :=
 match args,h with
 | [(.pagg a c),(.pagg b d)],[]=>(Xc N a c b d (Aw7 k))
 | _,_=>none
def Air (N:Nat):Tw:=⟨Acf N,fun args h k=>by
 unfold Acf;split
 exact twE (Aw8 ..) (Aw8 ..)
 rfl⟩
theorem Aw9 (N:Nat):Az Tryz.prog 71 (Air N):=fun args h res m hh=>by
 change Acf N args h (fun v m=>some (v,m))=_ at hh
 unfold Acf at hh;split at hh
 exact Aa (T:=A4l N) ⟨Bci N,Hy N,Bct N,trivial⟩ follows ((Aw8 ..).trans hh)
 cases hh
def Bc9 (N:Nat) (r0:LA→Option R)  (a:LA) (b:Bool):Option R :=
 (rdB a fun e=>(rdL 1 (List.drop 1 a) fun f g=>(Eh N (!e) f g false b (fun c=>(cond ((Nat.beq 0 0)&&((Nat.beq (List.length c) 2)&&(Nat.beq 2 2))) (cond (Nat.ble 2 (List.length c)) (r0 (List.take 2 c)) none) none)))))
def Bda (N:Nat) (a:LA) (b:Bool) (r0:LA→Option R):Option R:=(Bc9 N r0 a b)
def Xd:=(Al (@Bda R)).1
theorem A77:@Xd R=@Bda R:=(Al _).2
def Bdb:Hints:={ H:=(hS (hR [1,2]) (hS (hR [2]) hL)),nils:=[],modes:=[(3,0)],free:=[],cob:=[] }
def A4m (N:Nat):List (Nat×Tw):=[(93,F7 N)]
def Axa  (F:KF R):LA→Option R:=(fun i=>F (.pagg i false) [])
theorem Axb (N:Nat) (a:LA) (b:Bool) (F:KF R):Ac Tryz.prog muts (A4m N) Bdb N 92 [(.pagg a b)] [] F=(Xd N a b (Axa F)):=by
 have hK:Ac Tryz.prog muts (A4m N) Bdb N 92 [(.pagg a b)] [] F=(Bc9 N (Axa F) a b):=by kernel_rfl
 rw [A77]
 exact hK
def Acg (N:Nat) (args:List AV) (h:Ak) (k:KF R):Option R :=
 match args,h with
 | [(.pagg a b)],[]=>(Xd N a b (Axa k))
 | _,_=>none
def Ais (N:Nat):Tw:=⟨Acg N,fun args h k=>by
 unfold Acg;split
 exact twE (Axb ..) (Axb ..)
 rfl⟩
theorem Axc (N:Nat):Az Tryz.prog 92 (Ais N):=fun args h res d hh=>by
 change Acg N args h (fun v d=>some (v,d))=_ at hh
 unfold Acg at hh;split at hh
 exact Aa (T:=A4m N) ⟨Hy N,trivial⟩ follows ((Axb ..).trans hh)
 cases hh
def Bns (N:Nat) (r0:LA→Option R)  (a:LA) (c:Bool) (b:LA) (d:Bool):Option R :=
 (cond (Nat.ble 2 (List.length a)) (cond (Nat.ble 2 (List.length b)) (Xd N (List.take 2 b) d (fun g=>(Xc N (List.take 2 a) c g false (fun e=>(cond ((Nat.beq 0 0)&&((Nat.beq (List.length e) 2)&&(Nat.beq 2 2))) (cond (Nat.ble 2 (List.length e)) (r0 (List.take 2 e)) none) none))))) none) none)
def Bnt (N:Nat) (a:LA) (c:Bool) (b:LA) (d:Bool) (r0:LA→Option R):Option R:=(Bns N r0 a c b d)
def Bau:=(Al (@Bnt R)).1
theorem Bnu:@Bau R=@Bnt R:=(Al _).2
def Bdc:Hints:={ H:=(hS (hR [2,3,4]) (hS (hR [4]) hL)),nils:=[],modes:=[(3,0)],free:=[],cob:=[] }
def A4n (N:Nat):List (Nat×Tw):=[(92,Ais N),(71,Air N)]
def Axd  (F:KF R):LA→Option R:=(fun i=>F (.pagg i false) [])
theorem Axe (N:Nat) (a:LA) (c:Bool) (b:LA) (d:Bool) (F:KF R):Ac Tryz.prog muts (A4n N) Bdc N 142 [(.pagg a c),(.pagg b d)] [] F=(Bau N a c b d (Axd F)):=by
 have hK:Ac Tryz.prog muts (A4n N) Bdc N 142 [(.pagg a c),(.pagg b d)] [] F=(Bns N (Axd F) a c b d):=by kernel_rfl
 rw [Bnu]
 exact hK
def Ach (N:Nat) (args:List AV) (h:Ak) (k:KF R):Option R :=
 match args,h with
 | [(.pagg a c),(.pagg b d)],[]=>(Bau N a c b d (Axd k))
 | _,_=>none
def Bdd (N:Nat):Tw:=⟨Ach N,fun args h k=>by
 unfold Ach;split
 exact twE (Axe ..) (Axe ..)
 rfl⟩
theorem Bpp (N:Nat):Az Tryz.prog 142 (Bdd N):=fun args h res f hh=>by
 change Ach N args h (fun v f=>some (v,f))=_ at hh
 unfold Ach at hh;split at hh
 exact Aa (T:=A4n N) ⟨Axc N,Aw9 N,trivial⟩ follows ((Axe ..).trans hh)
 cases hh
def Aov (N:Nat) (r0:LA→LA→Bool→Option R)  (e:LA) (g:Bool) (d:LA) (f:Bool):Option R :=
 (rdL 1 (List.drop 1 e) fun o p=>(rdL 1 (List.drop 1 d) fun q r=>(Rn N o p false g q r false f (fun l m s t u=>(cond (!s) (r0 [(.bool false),.nsl] [(.bool false),.nsl] false) (rdB e fun w=>(rdB d fun x=>(Eh N (!(w==x)) (List.take (l*1) t) l false true (fun a=>(rdB e fun y=>(Eh N y (List.take (m*1) u) m false true (fun b=>(cond ((Nat.beq 0 0)&&((Nat.beq (List.length a) 2)&&(Nat.beq 2 2))) (cond ((Nat.beq 0 0)&&((Nat.beq (List.length b) 2)&&(Nat.beq 2 2))) (rdB b fun z=>(cond z (cond (Nat.ble 2 (List.length b)) (cond (Nat.ble 2 (List.length d)) (Bat N (List.take 2 d) f (fun aa=>(Xc N (List.take 2 b) false aa false (fun c=>(cond ((Nat.beq (List.length c) 2)&&((Nat.ble 2 (List.length b))&&(!false))) (rdB d fun ab=>(cond ab (cond (Nat.ble 2 (List.length a)) (Hz N 1 (fun ac=>(Xc N (List.take 2 a) false ac false (fun i=>(cond ((Nat.beq (List.length i) 2)&&((Nat.ble 2 (List.length a))&&(!false))) (cond (Nat.ble 2 (List.length (setCells a 0 i))) (cond (Nat.ble 2 (List.length (setCells b 0 c))) (cond ((Nat.beq (List.length (List.take 2 (setCells a 0 i))) 2)&&((Nat.ble 2 (List.length (setCells a 0 i)))&&(!false))) (cond ((Nat.beq (List.length (List.take 2 (setCells b 0 c))) 2)&&((Nat.ble 2 (List.length (setCells b 0 c)))&&(!false))) (cond (Nat.ble 2 (List.length (setCells (setCells a 0 i) 0 (List.take 2 (setCells a 0 i))))) (cond (Nat.ble 2 (List.length (setCells (setCells b 0 c) 0 (List.take 2 (setCells b 0 c))))) (r0 (List.take 2 (setCells (setCells a 0 i) 0 (List.take 2 (setCells a 0 i)))) (List.take 2 (setCells (setCells b 0 c) 0 (List.take 2 (setCells b 0 c)))) true) none) none) none) none) none) none) none))))) none) (cond (Nat.ble 2 (List.length a)) (Hz N 1 (fun ad=>(Bau N (List.take 2 a) false ad false (fun j=>(cond ((Nat.beq (List.length j) 2)&&((Nat.ble 2 (List.length a))&&(!false))) (cond (Nat.ble 2 (List.length (setCells a 0 j))) (cond (Nat.ble 2 (List.length (setCells b 0 c))) (cond ((Nat.beq (List.length (List.take 2 (setCells a 0 j))) 2)&&((Nat.ble 2 (List.length (setCells a 0 j)))&&(!false))) (cond ((Nat.beq (List.length (List.take 2 (setCells b 0 c))) 2)&&((Nat.ble 2 (List.length (setCells b 0 c)))&&(!false))) (cond (Nat.ble 2 (List.length (setCells (setCells a 0 j) 0 (List.take 2 (setCells a 0 j))))) (cond (Nat.ble 2 (List.length (setCells (setCells b 0 c) 0 (List.take 2 (setCells b 0 c))))) (r0 (List.take 2 (setCells (setCells a 0 j) 0 (List.take 2 (setCells a 0 j)))) (List.take 2 (setCells (setCells b 0 c) 0 (List.take 2 (setCells b 0 c)))) true) none) none) none) none) none) none) none))))) none))) none))))) none) none) (cond (Nat.ble 2 (List.length a)) (cond (Nat.ble 2 (List.length b)) (cond ((Nat.beq (List.length (List.take 2 a)) 2)&&((Nat.ble 2 (List.length a))&&(!false))) (cond ((Nat.beq (List.length (List.take 2 b)) 2)&&((Nat.ble 2 (List.length b))&&(!false))) (cond (Nat.ble 2 (List.length (setCells a 0 (List.take 2 a)))) (cond (Nat.ble 2 (List.length (setCells b 0 (List.take 2 b)))) (r0 (List.take 2 (setCells a 0 (List.take 2 a))) (List.take 2 (setCells b 0 (List.take 2 b))) true) none) none) none) none) none) none))) none) none)))))))))))))
def Aow (N:Nat) (e:LA) (g:Bool) (d:LA) (f:Bool) (r0:LA→LA→Bool→Option R):Option R:=(Aov N r0 e g d f)
def Rp:=(Al (@Aow R)).1
theorem Aox:@Rp R=@Aow R:=(Al _).2
def Auz:Hints:={ H:=(hS (hR [2,3,4,5]) (hS (hR [2,3,4,5,6,7,8]) (hS (hS (hR [2,3,4,5,7,8,19]) (hN [2,3,4,5,7,8] (hS (hR [4,5,6]) hL) hL)) (hS (hR [3,4,5]) (hS (hS (hR [3,4,5,34]) (hN [4,5] (hS (hR [3,4,5]) (hS (hR [4,5,40]) (hN [4,5] (hR [4,5]) (hR [4,5])))) hL)) (hS (hR [4,5,6]) hL)))))),nils:=[],modes:=[(3,0),(3,0),(0,0)],free:=[],cob:=[] }
def Ait (N:Nat):List (Nat×Tw):=[(140,Aev N),(93,F7 N),(141,Bc5 N),(71,Air N),(55,Zr N),(142,Bdd N)]
def Aew  (F:KF R):LA→LA→Bool→Option R:=(fun ae af ag=>F (.tup [(.pagg ae false),(.pagg af false),(.bool ag)]) [])
theorem Aex (N:Nat) (e:LA) (g:Bool) (d:LA) (f:Bool) (F:KF R):Ac Tryz.prog muts (Ait N) Auz N 91 [(.pagg e g),(.pagg d f)] [] F=(Rp N e g d f (Aew F)):=by
 have hK:Ac Tryz.prog muts (Ait N) Auz N 91 [(.pagg e g),(.pagg d f)] [] F=(Aov N (Aew F) e g d f):=by kernel_rfl
 rw [Aox]
 exact hK
def Pc (N:Nat) (args:List AV) (h:Ak) (k:KF R):Option R :=
 match args,h with
 | [(.pagg e g),(.pagg d f)],[]=>(Rp N e g d f (Aew k))
 | _,_=>none
def Au0 (N:Nat):Tw:=⟨Pc N,fun args h k=>by
 unfold Pc;split
 exact twE (Aex ..) (Aex ..)
 rfl⟩
theorem Bhh (N:Nat):Az Tryz.prog 91 (Au0 N):=fun args h res n hh=>by
 change Pc N args h (fun v n=>some (v,n))=_ at hh
 unfold Pc at hh;split at hh
 exact Aa (T:=Ait N) ⟨Auy N,Hy N,Bpo N,Aw9 N,An8 N,Bpp N,trivial⟩ follows ((Aex ..).trans hh)
 cases hh
def Aiu (N:Nat)  (r0:LA→Option R) (d:Bool) (b:LA) (c:Bool) (a:LA)   :Option R :=
 (cond (Nat.ble 2 (List.length b)) (cond (Nat.ble 2 (List.length a)) (A0t N (List.take 2 b) d (List.take 2 a) c (fun i=>(cond ((Nat.beq 0 0)&&((Nat.beq (List.length i) 2)&&(Nat.beq 2 2))) (cond (Nat.ble 2 (List.length b)) (cond (Nat.ble 2 (List.length i)) (Rp N (List.take 2 b) d (List.take 2 i) false (fun e x ag=>(cond ((Nat.beq 0 0)&&((Nat.beq (List.length e) 2)&&(Nat.beq 2 2))) (cond ((Nat.beq 0 0)&&((Nat.beq (List.length x) 2)&&(Nat.beq 2 2))) (cond (Nat.ble 2 (List.length a)) (cond (Nat.ble 2 (List.length i)) (Rp N (List.take 2 a) c (List.take 2 i) false (fun f y ah=>(cond ((Nat.beq 0 0)&&((Nat.beq (List.length f) 2)&&(Nat.beq 2 2))) (cond ((Nat.beq 0 0)&&((Nat.beq (List.length y) 2)&&(Nat.beq 2 2))) (rdB f fun z=>(cond z (cond (Nat.ble 2 (List.length e)) (Xd N (List.take 2 e) false (fun g=>(cond (Nat.ble 2 (List.length f)) (Xd N (List.take 2 f) false (fun u=>(cond ((Nat.beq (List.length g) 2)&&((Nat.ble 2 (List.length e))&&(!false))) (cond ((Nat.beq (List.length u) 2)&&((Nat.ble 2 (List.length f))&&(!false))) (cond (Nat.ble 2 (List.length (setCells e 0 g))) (rdL 1 (List.drop 1 (setCells f 0 u)) fun m n=>(cond ((Nat.beq (List.length (List.take 2 (setCells e 0 g))) 2)&&(Nat.ble 2 3)) (cond ((Nat.beq 1 1)&&(Nat.ble 3 (List.length (setCells [(.bool false),.nsl,.nsl] 0 (List.take 2 (setCells e 0 g)))))) (cond ((Nat.beq 0 0)&&((Nat.beq (List.length (List.set (setCells [(.bool false),.nsl,.nsl] 0 (List.take 2 (setCells e 0 g))) 2 (.imm m n 1 false false))) 3)&&(Nat.beq 3 3))) (cond (Nat.ble 3 (List.length (List.set (setCells [(.bool false),.nsl,.nsl] 0 (List.take 2 (setCells e 0 g))) 2 (.imm m n 1 false false)))) (r0 (List.take 3 (List.set (setCells [(.bool false),.nsl,.nsl] 0 (List.take 2 (setCells e 0 g))) 2 (.imm m n 1 false false)))) none) none) none) none)) none) none) none))) none))) none) (cond (Nat.ble 2 (List.length e)) (rdL 1 (List.drop 1 f) fun o p=>(cond ((Nat.beq (List.length (List.take 2 e)) 2)&&(Nat.ble 2 3)) (cond ((Nat.beq 1 1)&&(Nat.ble 3 (List.length (setCells [(.bool false),.nsl,.nsl] 0 (List.take 2 e))))) (cond ((Nat.beq 0 0)&&((Nat.beq (List.length (List.set (setCells [(.bool false),.nsl,.nsl] 0 (List.take 2 e)) 2 (.imm o p 1 false false))) 3)&&(Nat.beq 3 3))) (cond (Nat.ble 3 (List.length (List.set (setCells [(.bool false),.nsl,.nsl] 0 (List.take 2 e)) 2 (.imm o p 1 false false)))) (r0 (List.take 3 (List.set (setCells [(.bool false),.nsl,.nsl] 0 (List.take 2 e)) 2 (.imm o p 1 false false)))) none) none) none) none)) none))) none) none))) none) none) none) none))) none) none) none))) none) none)
def Aoy (N:Nat)  (r0:LA→Option R) (d:Bool) (b:LA) (c:Bool) (a:LA) :Option R:=(Aiu N r0 d b c a)
def A4o (N:Nat) (r0:LA→Option R) (q0:Option R) (b:LA) (d:Bool) (a:LA) (c:Bool):Option R :=
 (cond (Nat.ble 2 (List.length a)) (Zt N (List.take 2 a) c (fun aa=>(cond (aa==(0:Int)) (Aof N (fun q=>(cond ((Nat.beq 0 0)&&((Nat.beq (List.length q) 3)&&(Nat.beq 3 3))) (cond (Nat.ble 3 (List.length q)) (r0 (List.take 3 q)) none) none))) (cond (Nat.ble 2 (List.length a)) (Zs N (List.take 2 a) c (fun l=>(cond ((Nat.beq 0 0)&&((Nat.beq (List.length l) 2)&&(Nat.beq 2 2))) (rdB l fun ab=>(cond ((!ab)==true) (rdL 1 (List.drop 1 l) fun ac ad=>(Agg N ac ad false false [(.int .u32 1)] 1 false true (fun ae=>(cond (cond true ae false) (cond (Nat.ble 2 (List.length b)) (Zs N (List.take 2 b) d (fun j=>(rdL 1 (List.drop 1 l) fun r t=>(cond ((Nat.beq (List.length j) 2)&&(Nat.ble 2 3)) (cond ((Nat.beq 1 1)&&(Nat.ble 3 (List.length (setCells [(.bool false),.nsl,.nsl] 0 j)))) (cond ((Nat.beq 0 0)&&((Nat.beq (List.length (List.set (setCells [(.bool false),.nsl,.nsl] 0 j) 2 (.imm r t 1 false false))) 3)&&(Nat.beq 3 3))) (cond (Nat.ble 3 (List.length (List.set (setCells [(.bool false),.nsl,.nsl] 0 j) 2 (.imm r t 1 false false)))) (r0 (List.take 3 (List.set (setCells [(.bool false),.nsl,.nsl] 0 j) 2 (.imm r t 1 false false)))) none) none) none) none)))) none) q0)))) q0)) none))) none)))) none)
def A4p (N:Nat) (b:LA) (d:Bool) (a:LA) (c:Bool) (r0:LA→Option R):Option R:=(A4o N r0 (Aoy N r0 d b c a) b d a c)
def Pd:=(Al (@A4p R)).1
theorem A0u:@Pd R=@A4p R:=(Al _).2
def Aci:Hints:={ H:=(hS (hR [2,3,4]) (hS (hS (hR [2,3,4,15]) (hN [2,3,4] (hS (hR [4]) hL) hL)) (hJ (hS (hR [2,3,4,5]) (hS (hR [2,3,4,5,27]) (hN [2,3,4] (hS (hR [4]) hL) hL))) (hS (hR [2,3,4,6]) (hS (hR [3,4,6,7]) (hS (hR [4,7,10]) (hS (hS (hR [4,7,10,51]) (hN [4,7,10] (hR [4,7,10]) hL)) (hS (hR [4]) hL)))))))),nils:=[],modes:=[(3,0)],free:=[],cob:=[] }
def Aiv (N:Nat):List (Nat×Tw):=[(75,Aoe N),(41,A7x N),(88,Aob N),(89,A0p N),(90,Bc3 N),(91,Au0 N),(92,Ais N)]
def Aiw (N:Nat):Env:=mkE 60 Aci (Aiv N)
def Bk9 (N:Nat) (F:KF R):=As (Aiw N) Tryz.f54 Aci.modes [] F
def A78 (N:Nat) (F:KF R):=atF (Aiw N) [] N Tryz.f54 Aci (Bk9 N F)
def U6  (F:KF R):LA→Option R:=(fun af=>F (.pagg af false) [])
def Acj (d:Bool) (b:LA) (c:Bool) (a:LA):St:={ s:=[(2,(.optr 300000 0)),(3,(.optr 300001 0)),(4,(.optr 300002 0))],h:=[(300000,⟨false,false,true,d,0,b,false⟩),(300001,⟨false,false,true,c,0,a,false⟩),(300002,⟨false,false,false,false,0,[(.bool false),.nsl,.nsl],false⟩)] }
def A79 (N:Nat) (F:KF R):St→Option R:=Bh (Aiw N) [] N (A78 N F [1,1,1] [])
def A8a (N:Nat) (F:KF R):St→Option R:=Bl (Aiw N) [] N (A78 N F [1,1,1] [])
theorem Bde (N:Nat)  (F:KF R) (d:Bool) (b:LA) (c:Bool) (a:LA):A8a N F (Acj d b c a)=(Aoy N (U6 F) d b c a):=by
 have hK:A8a N F (Acj d b c a)=(Aiu N (U6 F) d b c a):=by kernel_rfl
 exact hK
theorem Aoz (N:Nat) (b:LA) (d:Bool) (a:LA) (c:Bool) (F:KF R):Ac Tryz.prog muts (Aiv N) Aci N 54 [(.pagg b d),(.pagg a c)] [] F=(Pd N b d a c (U6 F)):=by
 have e1:=(show A79 N F (Acj d b c a)=_ from (Aq ..).trans (Bde N F d b c a))
 have hK:Ac Tryz.prog muts (Aiv N) Aci N 54 [(.pagg b d),(.pagg a c)] [] F=(A4o N (U6 F) (A79 N F (Acj d b c a)) b d a c):=by kernel_rfl
 rw [A0u]
 exact hK.trans (by rw [e1];rfl)
def Xe (N:Nat) (args:List AV) (h:Ak) (k:KF R):Option R :=
 match args,h with
 | [(.pagg b d),(.pagg a c)],[]=>(Pd N b d a c (U6 k))
 | _,_=>none
def U7 (N:Nat):Tw:=⟨Xe N,fun args h k=>by
 unfold Xe;split
 exact twE (Aoz ..) (Aoz ..)
 rfl⟩
theorem Ack (N:Nat):Az Tryz.prog 54 (U7 N):=fun args h res w hh=>by
 change Xe N args h (fun v w=>some (v,w))=_ at hh
 unfold Xe at hh;split at hh
 exact Aa (T:=Aiv N) ⟨A7v N,Bnk N,A7t N,Bk7 N,Bpn N,Bhh N,Axc N,trivial⟩ follows ((Aoz ..).trans hh)
 cases hh
def Aix (N:Nat) (r0:LA→Option R)  (a:Int):Option R :=
 (Hz N a (fun d=>(Hz N 1 (fun e=>(Pd N d false e false (fun b=>(cond ((Nat.beq 0 0)&&((Nat.beq (List.length b) 3)&&(Nat.beq 3 3))) (cond (Nat.ble 3 (List.length b)) (r0 (List.take 3 b)) none) none)))))))
def Aiy (N:Nat) (a:Int) (r0:LA→Option R):Option R:=(Aix N r0 a)
def Es:=(Al (@Aiy R)).1
theorem Amq:@Es R=@Aiy R:=(Al _).2
def Ao0:Hints:={ H:=(hS (hR [0,2]) (hS (hR [2]) hL)),nils:=[],modes:=[(3,0)],free:=[],cob:=[] }
def Aey (N:Nat):List (Nat×Tw):=[(55,Zr N),(54,U7 N)]
def Z0  (F:KF R):LA→Option R:=(fun f=>F (.pagg f false) [])
theorem Z1 (N:Nat) (a:Int) (F:KF R):Ac Tryz.prog muts (Aey N) Ao0 N 20 [(.int .i64 a)] [] F=(Es N a (Z0 F)):=by
 have hK:Ac Tryz.prog muts (Aey N) Ao0 N 20 [(.int .i64 a)] [] F=(Aix N (Z0 F) a):=by kernel_rfl
 rw [Amq]
 exact hK
def Na (N:Nat) (args:List AV) (h:Ak) (k:KF R):Option R :=
 match args,h with
 | [(.int .i64 a)],[]=>(Es N a (Z0 k))
 | _,_=>none
def Ao1 (N:Nat):Tw:=⟨Na N,fun args h k=>by
 unfold Na;split
 exact twE (Z1 ..) (Z1 ..)
 rfl⟩
theorem Bdf (N:Nat):Az Tryz.prog 20 (Ao1 N):=fun args h res c hh=>by
 change Na N args h (fun v c=>some (v,c))=_ at hh
 unfold Na at hh;split at hh
 exact Aa (T:=Aey N) ⟨An8 N,Ack N,trivial⟩ follows ((Z1 ..).trans hh)
 cases hh
def Aiz (N:Nat)  (r0:Nat→Option R) (a:Nat) (b:LA) (k0:Int→Option R)  (c:Int):Option R :=
 (cond ((decide (c>(0:Int)))==true) (cond (Aj (IntKind.wrap .i64 (c - (1:Int))) a) (rdI .u32 (List.drop (0+((Int.toNat (IntKind.wrap .i64 (c - (1:Int))))*1)) b) fun e=>(cond (cond true (e==(0:Int)) false) (k0 (IntKind.wrap .i64 (c - (1:Int)))) (cond ((decide ((0:Int)≤(0:Int)))&&((decide ((0:Int)≤c))&&((decide (c≤((a:Nat):Int)))&&(decide (((a:Nat):Int)≤((a:Nat):Int)))))) (r0 (Int.toNat c)) none))) none) (cond ((decide ((0:Int)≤(0:Int)))&&((decide ((0:Int)≤c))&&((decide (c≤((a:Nat):Int)))&&(decide (((a:Nat):Int)≤((a:Nat):Int)))))) (r0 (Int.toNat c)) none))
def Yq (N:Nat)  (r0:Nat→Option R) (a:Nat) (b:LA):Nat→Int→Option R
 | 0,_=>none
 | n+1,c=>(Aiz N r0 a b (Yq N r0 a b n) c)
def Bav (N:Nat) (r0:Nat→Option R) (q0:Int→Option R) (a:Nat) (b:LA):Option R :=
 (q0 ((a:Nat):Int))
def Baw (N a:Nat) (b:LA) (r0:Nat→Option R):Option R:=(Bav N r0 (fun c=>(Yq N r0 a b N c)) a b)
def Vw:=(Al (@Baw R)).1
theorem Axf:@Vw R=@Baw R:=(Al _).2
def Asx:Hints:={ H:=(hS (hR [0]) (hS (hR [0,3]) (hS (hN [0,3] (hN [0,3] (hS (hS (hR [0,3,15]) (hN [0,3] hL hL)) (hN [0,3] (hR [0,3]) hL)) hL) hL) (hS (hR [2]) hL)))),nils:=[(2,1)],modes:=[(2,1)],free:=[],cob:=[] }
def Ao2 (N:Nat):List (Nat×Tw):=[]
def A0v (N:Nat):Env:=mkE 21 Asx (Ao2 N)
def Bpq (N:Nat) (F:KF R):=As (A0v N) Tryz.f171 Asx.modes [100000] F
def Biq (N:Nat) (F:KF R):=atF (A0v N) [100000] N Tryz.f171 Asx (Bpq N F)
def Yr (b:LA) (F:KF R):Nat→Option R:=(fun f=>F (.own 100000 0 f) [(100000,⟨false,false,true,false,1,b,false⟩)])
def Ys (a:Nat) (b:LA) (c:Int):St:={ s:=[(0,(.own 100000 0 a)),(3,(.int .i64 c))],h:=[(100000,⟨false,false,true,false,1,b,false⟩)] }
def Bir (N:Nat) (F:KF R):St→Option R:=Bx (A0v N) [100000] N (Biq N F [1,1,0,0] []) N
def Asy (N:Nat) (F:KF R) (n:Nat):St→Option R:=A9 (A0v N) [100000] N (Biq N F [1,1,0,0] []) n
theorem Bla (N:Nat)  (F:KF R) (a:Nat) (b:LA):∀ (n:Nat) (c:Int),Asy N F n (Ys a b c)=(Yq N (Yr b F) a b n c):=by
 intro n
 induction n with
 | zero=>intros;kernel_rfl
 | succ n ih =>
  intro c
  have e0:=funext fun c=>(show Asy N F n (Ys a b c)=_ from ih c)
  have hK:Asy N F (n+1) (Ys a b c)=(Aiz N (Yr b F) a b (fun c=>Asy N F n (Ys a b c)) c):=by kernel_rfl
  exact hK.trans (by rw [e0];rfl)
theorem Yt (N a:Nat) (b:LA) (F:KF R):Ac Tryz.prog muts (Ao2 N) Asx N 171 [(.own 100000 0 a)] [(100000,⟨false,false,true,false,1,b,false⟩)] F=(Vw N a b (Yr b F)):=by
 have e1:=funext fun c=>(show Bir N F (Ys a b c)=_ from (Au ..).trans (Bla N F a b N c))
 have hK:Ac Tryz.prog muts (Ao2 N) Asx N 171 [(.own 100000 0 a)] [(100000,⟨false,false,true,false,1,b,false⟩)] F=(Bav N (Yr b F) (fun c=>Bir N F (Ys a b c)) a b):=by kernel_rfl
 rw [Axf]
 exact hK.trans (by rw [e1];rfl)
def Ai0 (N:Nat) (args:List AV) (h:Ak) (k:KF R):Option R :=
 match args,h with
 | [(.own 100000 0 a)],[(100000,⟨false,false,true,false,1,b,false⟩)]=>(Vw N a b (Yr b k))
 | _,_=>none
def Asz (N:Nat):Tw:=⟨Ai0 N,fun args h k=>by
 unfold Ai0;split
 exact twE (Yt ..) (Yt ..)
 rfl⟩
theorem A4q (N:Nat):Az Tryz.prog 171 (Asz N):=fun args h res d hh=>by
 change Ai0 N args h (fun v d=>some (v,d))=_ at hh
 unfold Ai0 at hh;split at hh
 exact Aa (T:=Ao2 N) trivial follows ((Yt ..).trans hh)
 cases hh
def Z2 (N:Nat) (r0:Nat→LA→Option R)  (a:Int):Option R :=
 (Vw N 2 [(.int .u32 (IntKind.wrap .u32 a)),(.int .u32 (IntKind.wrap .u32 (Int.fdiv a (2 ^ 32))))] (fun c=>(r0 c [(.int .u32 (IntKind.wrap .u32 a)),(.int .u32 (IntKind.wrap .u32 (Int.fdiv a (2 ^ 32))))])))
def Z3 (N:Nat) (a:Int) (r0:Nat→LA→Option R):Option R:=(Z2 N r0 a)
def Bj:=(Al (@Z3 R)).1
theorem Acl:@Bj R=@Z3 R:=(Al _).2
def Agh:Hints:={ H:=(hS (hR [0]) (hS (hR [2]) hL)),nils:=[(2,1)],modes:=[(2,1)],free:=[],cob:=[] }
def Vx (N:Nat):List (Nat×Tw):=[(171,Asz N)]
def Rq  (F:KF R):Nat→LA→Option R:=(fun d e=>F (.own 300000 0 d) [(300000,⟨false,false,true,false,1,e,false⟩)])
theorem Rr (N:Nat) (a:Int) (F:KF R):Ac Tryz.prog muts (Vx N) Agh N 149 [(.int .u64 a)] [] F=(Bj N a (Rq F)):=by
 have hK:Ac Tryz.prog muts (Vx N) Agh N 149 [(.int .u64 a)] [] F=(Z2 N (Rq F) a):=by kernel_rfl
 rw [Acl]
 exact hK
def Jt (N:Nat) (args:List AV) (h:Ak) (k:KF R):Option R :=
 match args,h with
 | [(.int .u64 a)],[]=>(Bj N a (Rq k))
 | _,_=>none
def Do (N:Nat):Tw:=⟨Jt N,fun args h k=>by
 unfold Jt;split
 exact twE (Rr ..) (Rr ..)
 rfl⟩
theorem E2 (N:Nat):Az Tryz.prog 149 (Do N):=fun args h res b hh=>by
 change Jt N args h (fun v b=>some (v,b))=_ at hh
 unfold Jt at hh;split at hh
 exact Aa (T:=Vx N) ⟨A4q N,trivial⟩ follows ((Rr ..).trans hh)
 cases hh
def Axg (N:Nat) (r0:Bool→Option R)  (c:Bool) (a:Nat) (b:LA):Option R :=
 (cond (c==true) (r0 (cond true (decide (((a:Nat):Int)>(0:Int))) false)) (r0 false))
def Axh (N:Nat) (c:Bool) (a:Nat) (b:LA) (r0:Bool→Option R):Option R:=(Axg N r0 c a b)
def Hf:=(Al (@Axh R)).1
theorem Au1:@Hf R=@Axh R:=(Al _).2
def A0w:Hints:={ H:=(hS (hR [0,1,4]) (hS (hR [4]) hL)),nils:=[],modes:=[],free:=[],cob:=[] }
def Ao3 (N:Nat):List (Nat×Tw):=[]
def Ai1 (a:Nat) (b:LA) (F:KF R):Bool→Option R:=(fun e=>F (.agg [(.bool e),(.own 100000 0 a)]) [(100000,⟨false,false,true,false,1,b,false⟩)])
theorem Ai2 (N:Nat) (c:Bool) (a:Nat) (b:LA) (F:KF R):Ac Tryz.prog muts (Ao3 N) A0w N 148 [(.bool c),(.own 100000 0 a)] [(100000,⟨false,false,true,false,1,b,false⟩)] F=(Hf N c a b (Ai1 a b F)):=by
 have hK:Ac Tryz.prog muts (Ao3 N) A0w N 148 [(.bool c),(.own 100000 0 a)] [(100000,⟨false,false,true,false,1,b,false⟩)] F=(Axg N (Ai1 a b F) c a b):=by kernel_rfl
 rw [Au1]
 exact hK
def Tq (N:Nat) (args:List AV) (h:Ak) (k:KF R):Option R :=
 match args,h with
 | [(.bool c),(.own 100000 0 a)],[(100000,⟨false,false,true,false,1,b,false⟩)]=>(Hf N c a b (Ai1 a b k))
 | _,_=>none
def Pe (N:Nat):Tw:=⟨Tq N,fun args h k=>by
 unfold Tq;split
 exact twE (Ai2 ..) (Ai2 ..)
 rfl⟩
theorem Xf (N:Nat):Az Tryz.prog 148 (Pe N):=fun args h res d hh=>by
 change Tq N args h (fun v d=>some (v,d))=_ at hh
 unfold Tq at hh;split at hh
 exact Aa (T:=Ao3 N) trivial follows ((Ai2 ..).trans hh)
 cases hh
def Ao4 (N:Nat) (r0:Bool→Nat→LA→Option R)  (a:Int):Option R :=
 (cond (decide (a<(0:Int))) (Bj N (IntKind.wrap .u64 ((0:Int) - (IntKind.wrap .u64 a))) (fun b c=>(Hf N true b c (fun g=>(r0 g b c))))) (Bj N (IntKind.wrap .u64 a) (fun d e=>(Hf N false d e (fun i=>(r0 i d e))))))
def Ao5 (N:Nat) (a:Int) (r0:Bool→Nat→LA→Option R):Option R:=(Ao4 N r0 a)
def Z4:=(Al (@Ao5 R)).1
theorem Ao6:@Z4 R=@Ao5 R:=(Al _).2
def Au2:Hints:={ H:=(hS (hR [0,2]) (hS (hS (hR [0,2,4]) (hN [0,2] (hS (hR [2]) hL) hL)) (hS (hR [2]) hL))),nils:=[],modes:=[],free:=[],cob:=[] }
def Ai3 (N:Nat):List (Nat×Tw):=[(149,Do N),(148,Pe N)]
def Aez  (F:KF R):Bool→Nat→LA→Option R:=(fun j l m=>F (.agg [(.bool j),(.own 300000 0 l)]) [(300000,⟨false,false,true,false,1,m,false⟩)])
theorem Ae0 (N:Nat) (a:Int) (F:KF R):Ac Tryz.prog muts (Ai3 N) Au2 N 104 [(.int .i64 a)] [] F=(Z4 N a (Aez F)):=by
 have hK:Ac Tryz.prog muts (Ai3 N) Au2 N 104 [(.int .i64 a)] [] F=(Ao4 N (Aez F) a):=by kernel_rfl
 rw [Ao6]
 exact hK
def Pf (N:Nat) (args:List AV) (h:Ak) (k:KF R):Option R :=
 match args,h with
 | [(.int .i64 a)],[]=>(Z4 N a (Aez k))
 | _,_=>none
def Au3 (N:Nat):Tw:=⟨Pf N,fun args h k=>by
 unfold Pf;split
 exact twE (Ae0 ..) (Ae0 ..)
 rfl⟩
theorem Bhi (N:Nat):Az Tryz.prog 104 (Au3 N):=fun args h res f hh=>by
 change Pf N args h (fun v f=>some (v,f))=_ at hh
 unfold Pf at hh;split at hh
 exact Aa (T:=Ai3 N) ⟨E2 N,Xf N,trivial⟩ follows ((Ae0 ..).trans hh)
 cases hh
def Ao7 (N:Nat) (r0:LA→Option R)  (a:Int):Option R :=
 (Z4 N a (fun d b e=>(r0 [(.bool d),(.imm (List.take (b*1) e) b 1 false false),(.imm [(.int .u32 1)] 1 1 false false)])))
def Ao8 (N:Nat) (a:Int) (r0:LA→Option R):Option R:=(Ao7 N r0 a)
def Cx:=(Al (@Ao8 R)).1
theorem Ao9:@Cx R=@Ao8 R:=(Al _).2
def Au4:Hints:={ H:=(hS (hR [0,2]) (hS (hR [2]) hL)),nils:=[],modes:=[(3,0)],free:=[],cob:=[] }
def Ai4 (N:Nat):List (Nat×Tw):=[(104,Au3 N)]
def Ae1  (F:KF R):LA→Option R:=(fun f=>F (.pagg f false) [])
theorem Ae2 (N:Nat) (a:Int) (F:KF R):Ac Tryz.prog muts (Ai4 N) Au4 N 60 [(.int .i64 a)] [] F=(Cx N a (Ae1 F)):=by
 have hK:Ac Tryz.prog muts (Ai4 N) Au4 N 60 [(.int .i64 a)] [] F=(Ao7 N (Ae1 F) a):=by kernel_rfl
 rw [Ao9]
 exact hK
def Pg (N:Nat) (args:List AV) (h:Ak) (k:KF R):Option R :=
 match args,h with
 | [(.int .i64 a)],[]=>(Cx N a (Ae1 k))
 | _,_=>none
def Ms (N:Nat):Tw:=⟨Pg N,fun args h k=>by
 unfold Pg;split
 exact twE (Ae2 ..) (Ae2 ..)
 rfl⟩
theorem Tr (N:Nat):Az Tryz.prog 60 (Ms N):=fun args h res c hh=>by
 change Pg N args h (fun v c=>some (v,c))=_ at hh
 unfold Pg at hh;split at hh
 exact Aa (T:=Ai4 N) ⟨Bhi N,trivial⟩ follows ((Ae2 ..).trans hh)
 cases hh
def Ts (N:Nat)  (r0:LA→Nat→Option R) (d:LA) (a:Nat) (e c:Bool) (k0:Int→Option R)  (b:Int):Option R :=
 (cond ((decide (b>(0:Int)))==true) (cond (Aj (IntKind.wrap .i64 (b - (1:Int))) a) (rdI .u32 (List.drop ((Int.toNat (IntKind.wrap .i64 (b - (1:Int))))*1) d) fun g=>(cond (cond true (g==(0:Int)) false) (k0 (IntKind.wrap .i64 (b - (1:Int)))) (cond ((decide ((0:Int)≤(0:Int)))&&((decide ((0:Int)≤b))&&((decide (b≤((a:Nat):Int)))&&(decide (((a:Nat):Int)≤((a:Nat):Int)))))) (r0 (List.take ((Int.toNat b)*1) d) (Int.toNat b)) none))) none) (cond ((decide ((0:Int)≤(0:Int)))&&((decide ((0:Int)≤b))&&((decide (b≤((a:Nat):Int)))&&(decide (((a:Nat):Int)≤((a:Nat):Int)))))) (r0 (List.take ((Int.toNat b)*1) d) (Int.toNat b)) none))
def Lj (N:Nat)  (r0:LA→Nat→Option R) (d:LA) (a:Nat) (e c:Bool):Nat→Int→Option R
 | 0,_=>none
 | n+1,b=>(Ts N r0 d a e c (Lj N r0 d a e c n) b)
def Axi (N:Nat) (r0:LA→Nat→Option R) (q0:Int→Option R) (d:LA) (a:Nat) (e c:Bool):Option R :=
 (q0 ((a:Nat):Int))
def Axj (N:Nat) (d:LA) (a:Nat) (e c:Bool) (r0:LA→Nat→Option R):Option R:=(Axi N r0 (fun b=>(Lj N r0 d a e c N b)) d a e c)
def Bv:=(Al (@Axj R)).1
theorem Au5:@Bv R=@Axj R:=(Al _).2
def Xg:Hints:={ H:=(hS (hR [0]) (hS (hR [0,3]) (hS (hN [0,3] (hN [0,3] (hS (hS (hR [0,3,15]) (hN [0,3] hL hL)) (hN [0,3] (hR [0,3]) hL)) hL) hL) (hS (hR [2]) hL)))),nils:=[(2,1)],modes:=[(2,1)],free:=[],cob:=[] }
def Ok (N:Nat):List (Nat×Tw):=[]
def Acm (N:Nat):Env:=mkE 21 Xg (Ok N)
def Bhj (N:Nat) (F:KF R):=As (Acm N) Tryz.f171 Xg.modes [] F
def A0x (N:Nat) (F:KF R):=atF (Acm N) [] N Tryz.f171 Xg (Bhj N F)
def Ig (c:Bool) (F:KF R):LA→Nat→Option R:=(fun i j=>F (.imm i j 1 false c) [])
def Lk (d:LA) (a:Nat) (e c:Bool) (b:Int):St:={ s:=[(0,(.imm d a 1 e c)),(3,(.int .i64 b))],h:=[] }
def A0y (N:Nat) (F:KF R):St→Option R:=Bx (Acm N) [] N (A0x N F [1,1,0,0] []) N
def Xh (N:Nat) (F:KF R) (n:Nat):St→Option R:=A9 (Acm N) [] N (A0x N F [1,1,0,0] []) n
theorem A98 (N:Nat)  (F:KF R) (d:LA) (a:Nat) (e c:Bool):∀ (n:Nat) (b:Int),Xh N F n (Lk d a e c b)=(Lj N (Ig c F) d a e c n b):=by
 intro n
 induction n with
 | zero=>intros;kernel_rfl
 | succ n ih =>
  intro b
  have e0:=funext fun b=>(show Xh N F n (Lk d a e c b)=_ from ih b)
  have hK:Xh N F (n+1) (Lk d a e c b)=(Ts N (Ig c F) d a e c (fun b=>Xh N F n (Lk d a e c b)) b):=by kernel_rfl
  exact hK.trans (by rw [e0];rfl)
theorem Ej (N:Nat) (d:LA) (a:Nat) (e c:Bool) (F:KF R):Ac Tryz.prog muts (Ok N) Xg N 171 [(.imm d a 1 e c)] [] F=(Bv N d a e c (Ig c F)):=by
 have e1:=funext fun b=>(show A0y N F (Lk d a e c b)=_ from (Au ..).trans (A98 N F d a e c N b))
 have hK:Ac Tryz.prog muts (Ok N) Xg N 171 [(.imm d a 1 e c)] [] F=(Axi N (Ig c F) (fun b=>A0y N F (Lk d a e c b)) d a e c):=by kernel_rfl
 rw [Au5]
 exact hK.trans (by rw [e1];rfl)
def Tt (N:Nat) (args:List AV) (h:Ak) (k:KF R):Option R :=
 match args,h with
 | [(.imm d a 1 e c)],[]=>(Bv N d a e c (Ig c k))
 | _,_=>none
def Ll (N:Nat):Tw:=⟨Tt N,fun args h k=>by
 unfold Tt;split
 exact twE (Ej ..) (Ej ..)
 rfl⟩
theorem Ph (N:Nat):Az Tryz.prog 171 (Ll N):=fun args h res f hh=>by
 change Tt N args h (fun v f=>some (v,f))=_ at hh
 unfold Tt at hh;split at hh
 exact Aa (T:=Ok N) trivial follows ((Ej ..).trans hh)
 cases hh
def Au6 (N:Nat)  (r0:LA→Option R)  (k0:Option R)  :Option R :=
 (r0 [])
def Xi (N:Nat)  (r0:LA→Option R) :Nat→Option R
 | 0=>none
 | n+1=>(Au6 N r0 (Xi N r0 n))
def Axk (N:Nat) (r0:LA→Option R) (q0:Option R) :Option R :=
 q0
def Axl (N:Nat)  (r0:LA→Option R):Option R:=(Axk N r0 (Xi N r0 N))
def Agi:=(Al (@Axl R)).1
theorem Au7:@Agi R=@Axl R:=(Al _).2
def Xj:Hints:={ H:=(hS (hR [0]) (hS (hR [0,3]) (hS (hN [0,3] (hN [0,3] (hS (hS (hR [0,3,15]) (hN [0,3] hL hL)) (hN [0,3] (hR [0,3]) hL)) hL) hL) (hS (hR [2]) hL)))),nils:=[(2,1)],modes:=[(2,1)],free:=[],cob:=[] }
def Acn (N:Nat):List (Nat×Tw):=[]
def Aco (N:Nat):Env:=mkE 21 Xj (Acn N)
def Bhk (N:Nat) (F:KF R):=As (Aco N) Tryz.f171 Xj.modes [] F
def A0z (N:Nat) (F:KF R):=atF (Aco N) [] N Tryz.f171 Xj (Bhk N F)
def Pi  (F:KF R):LA→Option R:=(fun b=>F (.own 300000 0 0) [(300000,⟨false,false,true,false,1,b,false⟩)])
def Lm :St:={ s:=[(0,.nsl),(3,(.int .i64 0))],h:=[] }
def A00 (N:Nat) (F:KF R):St→Option R:=Bx (Aco N) [] N (A0z N F [1,1,0,0] []) N
def Xk (N:Nat) (F:KF R) (n:Nat):St→Option R:=A9 (Aco N) [] N (A0z N F [1,1,0,0] []) n
theorem A99 (N:Nat)  (F:KF R) :∀ (n:Nat) ,Xk N F n Lm=(Xi N (Pi F) n):=by
 intro n
 induction n with
 | zero=>intros;kernel_rfl
 | succ n ih =>
  have e0:=(show Xk N F n Lm=_ from ih)
  have hK:Xk N F (n+1) Lm=(Au6 N (Pi F) (Xk N F n Lm)):=by kernel_rfl
  exact hK.trans (by rw [e0];rfl)
theorem Ai5 (N:Nat)  (F:KF R):Ac Tryz.prog muts (Acn N) Xj N 171 [.nsl] [] F=(Agi N (Pi F)):=by
 have e1:=(show A00 N F Lm=_ from (Au ..).trans (A99 N F N))
 have hK:Ac Tryz.prog muts (Acn N) Xj N 171 [.nsl] [] F=(Axk N (Pi F) (A00 N F Lm)):=by kernel_rfl
 rw [Au7]
 exact hK.trans (by rw [e1];rfl)
def Z5 (N:Nat)  (r0:Int→Option R) (d:LA) (c:Nat) (b:Bool) (e:LA) (k0:Int→Option R)  (a:Int):Option R :=
 (cond (decide (a≥(0:Int))) (cond (Aj a c) (rdI .u32 (List.drop ((Int.toNat a)*1) d) fun l=>(cond (Aj a 0) (rdI .u32 (List.drop (0+((Int.toNat a)*1)) e) fun m=>(cond (decide (l<m)) (r0 (-1)) (cond (Aj a c) (rdI .u32 (List.drop ((Int.toNat a)*1) d) fun o=>(cond (Aj a 0) (rdI .u32 (List.drop (0+((Int.toNat a)*1)) e) fun p=>(cond (decide (o>p)) (r0 1) (k0 (IntKind.wrap .i64 (a - (1:Int)))))) none)) none))) none)) none) (r0 0))
def Tu (N:Nat)  (r0:Int→Option R) (d:LA) (c:Nat) (b:Bool) (e:LA):Nat→Int→Option R
 | 0,_=>none
 | n+1,a=>(Z5 N r0 d c b e (Tu N r0 d c b e n) a)
def Apa (N:Nat) (r0:Int→Option R) (q0:LA→Nat→LA→Int→Option R) (f:LA) (g:Nat) (i b:Bool):Option R :=
 (Bv N f g i b (fun d c=>(Agi N (fun e=>(cond (((c:Nat):Int) != (0:Int)) (cond (decide (((c:Nat):Int)<(0:Int))) (r0 (-1)) (r0 1)) (q0 d c e (IntKind.wrap .i64 (((c:Nat):Int) - (1:Int)))))))))
def Apb (N:Nat) (f:LA) (g:Nat) (i b:Bool) (r0:Int→Option R):Option R:=(Apa N r0 (fun d c e a=>(Tu N r0 d c b e N a)) f g i b)
def Rs:=(Al (@Apb R)).1
theorem Apc:@Rs R=@Apb R:=(Al _).2
def Tv:Hints:={ H:=(hS (hR [0,1]) (hS (hR [0,1]) (hS (hS (hR [0,1,14]) (hN [0,1] (hS (hS (hR [19]) (hS (hS (hR [4]) hL) hL)) (hS (hR [4]) hL)) hL)) (hS (hS (hR [0,1,5]) (hS (hN [0,1,5] (hS (hS (hR [0,1,5,24]) (hN [0,1,5] hL hL)) (hS (hN [0,1,5] (hS (hS (hR [0,1,5,35]) (hN [0,1,5] (hS (hR [4]) hL) hL)) (hS (hR [0,1,5,44]) (hN [0,1,5] (hS (hR [4]) hL) hL))) hL) (hR [0,1,5]))) hL) hL)) (hS (hR [4]) hL))))),nils:=[],modes:=[],free:=[],cob:=[] }
def C4 (N:Nat) (args:List AV) (h:Ak) (k:KF R):Option R :=
 match args,h with
 | [(.imm f g 1 i b)],[]=>(Bv N f g i b (Ig b k))
 | [.nsl],[]=>(Agi N (Pi k))
 | _,_=>none
def Kj (N:Nat):Tw:=⟨C4 N,fun args h k=>by
 unfold C4;split
 exact twE (Ej ..) (Ej ..)
 exact twE (Ai5 ..) (Ai5 ..)
 rfl⟩
theorem Z6 (N:Nat):Az Tryz.prog 171 (Kj N):=fun args h res j hh=>by
 change C4 N args h (fun v j=>some (v,j))=_ at hh
 unfold C4 at hh;split at hh
 exact Aa (T:=Ok N) trivial follows ((Ej ..).trans hh)
 exact Aa (T:=Acn N) trivial follows ((Ai5 ..).trans hh)
 cases hh
def Xl (N:Nat):List (Nat×Tw):=[(171,Kj N)]
def Xm (N:Nat):Env:=mkE 45 Tv (Xl N)
def Bdg (N:Nat) (F:KF R):=As (Xm N) Tryz.f132 Tv.modes [] F
def Au8 (N:Nat) (F:KF R):=atF (Xm N) [] N Tryz.f132 Tv (Bdg N F)
def Mt  (F:KF R):Int→Option R:=(fun q=>F (.int .i64 q) [])
def Jg (d:LA) (c:Nat) (b:Bool) (e:LA) (a:Int):St:={ s:=[(0,(.imm d c 1 false b)),(1,(.own 300000 0 0)),(5,(.int .i64 a))],h:=[(300000,⟨false,false,true,false,1,e,false⟩)] }
def Au9 (N:Nat) (F:KF R):St→Option R:=Bx (Xm N) [] N (Au8 N F [1,1,1,0,1,0] []) N
def Tx (N:Nat) (F:KF R) (n:Nat):St→Option R:=A9 (Xm N) [] N (Au8 N F [1,1,1,0,1,0] []) n
theorem A4r (N:Nat)  (F:KF R) (d:LA) (c:Nat) (b:Bool) (e:LA):∀ (n:Nat) (a:Int),Tx N F n (Jg d c b e a)=(Tu N (Mt F) d c b e n a):=by
 intro n
 induction n with
 | zero=>intros;kernel_rfl
 | succ n ih =>
  intro a
  have e0:=funext fun a=>(show Tx N F n (Jg d c b e a)=_ from ih a)
  have hK:Tx N F (n+1) (Jg d c b e a)=(Z5 N (Mt F) d c b e (fun a=>Tx N F n (Jg d c b e a)) a):=by kernel_rfl
  exact hK.trans (by rw [e0];rfl)
theorem Ae3 (N:Nat) (f:LA) (g:Nat) (i b:Bool) (F:KF R):Ac Tryz.prog muts (Xl N) Tv N 132 [(.imm f g 1 i b),.nsl] [] F=(Rs N f g i b (Mt F)):=by
 have e1:=funext fun d=>funext fun c=>funext fun e=>funext fun a=>(show Au9 N F (Jg d c b e a)=_ from (Au ..).trans (A4r N F d c b e N a))
 have hK:Ac Tryz.prog muts (Xl N) Tv N 132 [(.imm f g 1 i b),.nsl] [] F=(Apa N (Mt F) (fun d c e a=>Au9 N F (Jg d c b e a)) f g i b):=by kernel_rfl
 rw [Apc]
 exact hK.trans (by rw [e1];rfl)
def Pj (N:Nat) (args:List AV) (h:Ak) (k:KF R):Option R :=
 match args,h with
 | [(.imm f g 1 i b),.nsl],[]=>(Rs N f g i b (Mt k))
 | _,_=>none
def Ae4 (N:Nat):Tw:=⟨Pj N,fun args h k=>by
 unfold Pj;split
 exact twE (Ae3 ..) (Ae3 ..)
 rfl⟩
theorem Ava (N:Nat):Az Tryz.prog 132 (Ae4 N):=fun args h res j hh=>by
 change Pj N args h (fun v j=>some (v,j))=_ at hh
 unfold Pj at hh;split at hh
 exact Aa (T:=Xl N) ⟨Z6 N,trivial⟩ follows ((Ae3 ..).trans hh)
 cases hh
def As0 (N:Nat) (r0:LA→Bool→LA→Nat→Bool→Option R)  (a:LA) (b:Bool):Option R :=
 (rdL 1 (List.drop 2 a) fun d e=>(Rs N d e false b (fun f=>(cond (f==(0:Int)) (r0 [(.bool false),.nsl] false [(.int .u32 1)] 1 false) (cond (Nat.ble 2 (List.length a)) (rdL 1 (List.drop 2 a) fun g i=>(cond ((Nat.beq 0 0)&&((Nat.beq (List.length (List.take 2 a)) 2)&&(Nat.beq 2 2))) (cond (Nat.ble 2 (List.length (List.take 2 a))) (r0 (List.take 2 (List.take 2 a)) b g i b) none) none)) none)))))
def As1 (N:Nat) (a:LA) (b:Bool) (r0:LA→Bool→LA→Nat→Bool→Option R):Option R:=(As0 N r0 a b)
def I0:=(Al (@As1 R)).1
theorem Ai6:@I0 R=@As1 R:=(Al _).2
def A8b:Hints:={ H:=(hS (hR [1,2]) (hS (hS (hR [1,2,7]) (hN [1,2] (hS (hR [2,3]) hL) hL)) (hS (hR [2,3]) hL))),nils:=[(3,1)],modes:=[(3,0),(1,1)],free:=[],cob:=[] }
def Axm (N:Nat):List (Nat×Tw):=[(132,Ae4 N)]
def Apd  (F:KF R):LA→Bool→LA→Nat→Bool→Option R:=(fun j l m n o=>F (.tup [(.pagg j l),(.imm m n 1 false o)]) [])
theorem Ape (N:Nat) (a:LA) (b:Bool) (F:KF R):Ac Tryz.prog muts (Axm N) A8b N 101 [(.pagg a b)] [] F=(I0 N a b (Apd F)):=by
 have hK:Ac Tryz.prog muts (Axm N) A8b N 101 [(.pagg a b)] [] F=(As0 N (Apd F) a b):=by kernel_rfl
 rw [Ai6]
 exact hK
def Xn (N:Nat) (args:List AV) (h:Ak) (k:KF R):Option R :=
 match args,h with
 | [(.pagg a b)],[]=>(I0 N a b (Apd k))
 | _,_=>none
def Ol (N:Nat):Tw:=⟨Xn N,fun args h k=>by
 unfold Xn;split
 exact twE (Ape ..) (Ape ..)
 rfl⟩
theorem U8 (N:Nat):Az Tryz.prog 101 (Ol N):=fun args h res c hh=>by
 change Xn N args h (fun v c=>some (v,c))=_ at hh
 unfold Xn at hh;split at hh
 exact Aa (T:=Axm N) ⟨Ava N,trivial⟩ follows ((Ape ..).trans hh)
 cases hh
def Bdh (N:Nat) (r0:Int→Option R)  (a:LA) (b:Bool):Option R :=
 (rdL 1 (List.drop 1 a) fun d e=>(Rs N d e false b (fun f=>(cond (f==(0:Int)) (r0 0) (rdB a fun g=>(cond g (r0 (-1)) (r0 1)))))))
def Bdi (N:Nat) (a:LA) (b:Bool) (r0:Int→Option R):Option R:=(Bdh N r0 a b)
def Ai7:=(Al (@Bdi R)).1
theorem A8c:@Ai7 R=@Bdi R:=(Al _).2
def Bdj:Hints:={ H:=(hS (hR [1]) (hS (hS (hS (hR [1,3]) (hS (hS (hR [2]) hL) (hS (hR [8]) (hS (hS (hR [2]) hL) hL)))) hL) (hS (hR [2]) hL))),nils:=[],modes:=[],free:=[],cob:=[] }
def A4s (N:Nat):List (Nat×Tw):=[(132,Ae4 N)]
def Axn  (F:KF R):Int→Option R:=(fun i=>F (.int .i64 i) [])
theorem Axo (N:Nat) (a:LA) (b:Bool) (F:KF R):Ac Tryz.prog muts (A4s N) Bdj N 144 [(.pagg a b)] [] F=(Ai7 N a b (Axn F)):=by
 have hK:Ac Tryz.prog muts (A4s N) Bdj N 144 [(.pagg a b)] [] F=(Bdh N (Axn F) a b):=by kernel_rfl
 rw [A8c]
 exact hK
def Acp (N:Nat) (args:List AV) (h:Ak) (k:KF R):Option R :=
 match args,h with
 | [(.pagg a b)],[]=>(Ai7 N a b (Axn k))
 | _,_=>none
def Axp (N:Nat):Tw:=⟨Acp N,fun args h k=>by
 unfold Acp;split
 exact twE (Axo ..) (Axo ..)
 rfl⟩
theorem Bdk (N:Nat):Az Tryz.prog 144 (Axp N):=fun args h res c hh=>by
 change Acp N args h (fun v c=>some (v,c))=_ at hh
 unfold Acp at hh;split at hh
 exact Aa (T:=A4s N) ⟨Ava N,trivial⟩ follows ((Axo ..).trans hh)
 cases hh
def Bdl (N:Nat) (r0:Int→Option R)  (a:LA) (b:Bool):Option R :=
 (cond (Nat.ble 3 (List.length a)) (I0 N (List.take 3 a) b (fun c e i j l=>(cond ((Nat.beq 0 0)&&((Nat.beq (List.length c) 2)&&(Nat.beq 2 2))) (cond (Nat.ble 2 (List.length c)) (Ai7 N (List.take 2 c) e (fun f=>(r0 f))) none) none))) none)
def Bdm (N:Nat) (a:LA) (b:Bool) (r0:Int→Option R):Option R:=(Bdl N r0 a b)
def Xo:=(Al (@Bdm R)).1
theorem A8d:@Xo R=@Bdm R:=(Al _).2
def Bdn:Hints:={ H:=(hS (hR [1]) (hS (hR [3]) (hS (hR [2]) hL))),nils:=[],modes:=[],free:=[],cob:=[] }
def A4t (N:Nat):List (Nat×Tw):=[(101,Ol N),(144,Axp N)]
def Axq  (F:KF R):Int→Option R:=(fun g=>F (.int .i64 g) [])
theorem Axr (N:Nat) (a:LA) (b:Bool) (F:KF R):Ac Tryz.prog muts (A4t N) Bdn N 95 [(.pagg a b)] [] F=(Xo N a b (Axq F)):=by
 have hK:Ac Tryz.prog muts (A4t N) Bdn N 95 [(.pagg a b)] [] F=(Bdl N (Axq F) a b):=by kernel_rfl
 rw [A8d]
 exact hK
def Acq (N:Nat) (args:List AV) (h:Ak) (k:KF R):Option R :=
 match args,h with
 | [(.pagg a b)],[]=>(Xo N a b (Axq k))
 | _,_=>none
def Ai8 (N:Nat):Tw:=⟨Acq N,fun args h k=>by
 unfold Acq;split
 exact twE (Axr ..) (Axr ..)
 rfl⟩
theorem Axs (N:Nat):Az Tryz.prog 95 (Ai8 N):=fun args h res d hh=>by
 change Acq N args h (fun v d=>some (v,d))=_ at hh
 unfold Acq at hh;split at hh
 exact Aa (T:=A4t N) ⟨U8 N,Bdk N,trivial⟩ follows ((Axr ..).trans hh)
 cases hh
def Z7 (N:Nat) (r0:Bool→Option R)  (a:Int):Option R :=
 (r0 (a != a))
def Z8 (N:Nat) (a:Int) (r0:Bool→Option R):Option R:=(Z7 N r0 a)
def Mu:=(Al (@Z8 R)).1
theorem Acr:@Mu R=@Z8 R:=(Al _).2
def Agj:Hints:={ H:=(hS (hR [0]) (hS (hR [2]) hL)),nils:=[],modes:=[],free:=[],cob:=[] }
def Vy (N:Nat):List (Nat×Tw):=[]
def Rt  (F:KF R):Bool→Option R:=(fun c=>F (.bool c) [])
theorem Ru (N:Nat) (a:Int) (F:KF R):Ac Tryz.prog muts (Vy N) Agj N 145 [(.int .i64 a)] [] F=(Mu N a (Rt F)):=by
 have hK:Ac Tryz.prog muts (Vy N) Agj N 145 [(.int .i64 a)] [] F=(Z7 N (Rt F) a):=by kernel_rfl
 rw [Acr]
 exact hK
def Ju (N:Nat) (args:List AV) (h:Ak) (k:KF R):Option R :=
 match args,h with
 | [(.int .i64 a)],[]=>(Mu N a (Rt k))
 | _,_=>none
def Agk (N:Nat):Tw:=⟨Ju N,fun args h k=>by
 unfold Ju;split
 exact twE (Ru ..) (Ru ..)
 rfl⟩
theorem A4u (N:Nat):Az Tryz.prog 145 (Agk N):=fun args h res b hh=>by
 change Ju N args h (fun v b=>some (v,b))=_ at hh
 unfold Ju at hh;split at hh
 exact Aa (T:=Vy N) trivial follows ((Ru ..).trans hh)
 cases hh
def Rv (N:Nat) (r0:Int→Option R)  (a b:Int):Option R :=
 (Mu N a (fun e=>(Mu N b (fun c=>(cond e (cond c (r0 0) (r0 (-1))) (cond c (r0 1) (cond (decide (a<b)) (r0 (-1)) (cond (decide (a>b)) (r0 1) (r0 0)))))))))
def Rw (N:Nat) (a b:Int) (r0:Int→Option R):Option R:=(Rv N r0 a b)
def I3:=(Al (@Rw R)).1
theorem Wh:@I3 R=@Rw R:=(Al _).2
def Z9:Hints:={ H:=(hS (hR [0,1]) (hS (hR [0,1,5]) (hS (hR [0,1,5,6]) (hS (hS (hR [0,1,6,11]) (hN [0,1,6] (hS (hS (hR [12]) (hS (hS (hR [4]) hL) hL)) (hS (hR [4]) hL)) hL)) (hS (hS (hR [0,1,13]) (hN [0,1] (hS (hR [4]) hL) hL)) (hS (hS (hR [0,1,16]) (hN [0,1] (hS (hR [4]) hL) hL)) (hS (hS (hR [19]) (hS (hS (hR [4]) hL) hL)) (hS (hR [4]) hL)))))))),nils:=[],modes:=[],free:=[],cob:=[] }
def Pk (N:Nat):List (Nat×Tw):=[(145,Agk N)]
def N2  (F:KF R):Int→Option R:=(fun f=>F (.int .i64 f) [])
theorem N3 (N:Nat) (a b:Int) (F:KF R):Ac Tryz.prog muts (Pk N) Z9 N 98 [(.int .i64 a),(.int .i64 b)] [] F=(I3 N a b (N2 F)):=by
 have hK:Ac Tryz.prog muts (Pk N) Z9 N 98 [(.int .i64 a),(.int .i64 b)] [] F=(Rv N (N2 F) a b):=by kernel_rfl
 rw [Wh]
 exact hK
def Gq (N:Nat) (args:List AV) (h:Ak) (k:KF R):Option R :=
 match args,h with
 | [(.int .i64 a),(.int .i64 b)],[]=>(I3 N a b (N2 k))
 | _,_=>none
def Aaa (N:Nat):Tw:=⟨Gq N,fun args h k=>by
 unfold Gq;split
 exact twE (N3 ..) (N3 ..)
 rfl⟩
theorem Axt (N:Nat):Az Tryz.prog 98 (Aaa N):=fun args h res d hh=>by
 change Gq N args h (fun v d=>some (v,d))=_ at hh
 unfold Gq at hh;split at hh
 exact Aa (T:=Pk N) ⟨A4u N,trivial⟩ follows ((N3 ..).trans hh)
 cases hh
def H0 (N:Nat)  (r0:Int→Option R) (c:LA) (a:Nat) (d e:Bool) (k0:Int→Int→Int→Option R)  (f g b:Int):Option R :=
 (cond (decide (b<g)) (cond (Aj b a) (rdI .u32 (List.drop ((Int.toNat b)*1) c) fun j=>(cond (decide ((IntKind.wrap .i64 ((32:Int)*b))<(0:Int))) none (k0 (Of .u64 f (IntKind.wrap .u64 ((IntKind.wrap .u64 j)*2 ^ (min (Int.toNat (IntKind.wrap .i64 ((32:Int)*b))) 64)))) g (IntKind.wrap .i64 (b+(1:Int)))))) none) (r0 f))
def Ih (N:Nat)  (r0:Int→Option R) (c:LA) (a:Nat) (d e:Bool):Nat→Int→Int→Int→Option R
 | 0,_,_,_=>none
 | n+1,f,g,b=>(H0 N r0 c a d e (Ih N r0 c a d e n) f g b)
def Bdo (N:Nat) (r0:Int→Option R) (q0:Int→Int→Int→Option R) (c:LA) (a:Nat) (d e:Bool):Option R :=
 (q0 0 ((a:Nat):Int) 0)
def Bdp (N:Nat) (c:LA) (a:Nat) (d e:Bool) (r0:Int→Option R):Option R:=(Bdo N r0 (fun f g b=>(Ih N r0 c a d e N f g b)) c a d e)
def Pl:=(Al (@Bdp R)).1
theorem A8e:@Pl R=@Bdp R:=(Al _).2
def Ai9:Hints:={ H:=(hS (hR [0]) (hS (hR [0,3]) (hS (hS (hR [3,6,7,8]) (hN [3] (hN [3,6,7,8] (hS (hR [3,6,7,8,9]) (hS (hN [3,6,7,8] hL hL) (hS (hN [3,6,7,8] (hS (hR [3,4,5,6,7,8]) (hR [3,6,7,8])) hL) (hR [3,6,7,8])))) hL) hL)) (hS (hR [2]) hL)))),nils:=[],modes:=[],free:=[],cob:=[] }
def As2 (N:Nat):List (Nat×Tw):=[]
def As3 (N:Nat):Env:=mkE 22 Ai9 (As2 N)
def Bnv (N:Nat) (F:KF R):=As (As3 N) Tryz.f181 Ai9.modes [] F
def Bdq (N:Nat) (F:KF R):=atF (As3 N) [] N Tryz.f181 Ai9 (Bnv N F)
def Aab  (F:KF R):Int→Option R:=(fun l=>F (.int .u64 l) [])
def Rx (c:LA) (a:Nat) (d e:Bool) (f g b:Int):St:={ s:=[(3,(.int .u64 f)),(6,(.imm c a 1 d e)),(7,(.int .i64 g)),(8,(.int .i64 b))],h:=[] }
def Bdr (N:Nat) (F:KF R):St→Option R:=Bx (As3 N) [] N (Bdq N F [1,1,0,1,0] []) N
def Aja (N:Nat) (F:KF R) (n:Nat):St→Option R:=A9 (As3 N) [] N (Bdq N F [1,1,0,1,0] []) n
theorem Bhl (N:Nat)  (F:KF R) (c:LA) (a:Nat) (d e:Bool):∀ (n:Nat) (f g b:Int),Aja N F n (Rx c a d e f g b)=(Ih N (Aab F) c a d e n f g b):=by
 intro n
 induction n with
 | zero=>intros;kernel_rfl
 | succ n ih =>
  intro f g b
  have e0:=funext fun f=>funext fun g=>funext fun b=>(show Aja N F n (Rx c a d e f g b)=_ from ih f g b)
  have hK:Aja N F (n+1) (Rx c a d e f g b)=(H0 N (Aab F) c a d e (fun f g b=>Aja N F n (Rx c a d e f g b)) f g b):=by kernel_rfl
  exact hK.trans (by rw [e0];rfl)
theorem Axu (N:Nat) (c:LA) (a:Nat) (d e:Bool) (F:KF R):Ac Tryz.prog muts (As2 N) Ai9 N 181 [(.imm c a 1 d e)] [] F=(Pl N c a d e (Aab F)):=by
 have e1:=funext fun f=>funext fun g=>funext fun b=>(show Bdr N F (Rx c a d e f g b)=_ from (Au ..).trans (Bhl N F c a d e N f g b))
 have hK:Ac Tryz.prog muts (As2 N) Ai9 N 181 [(.imm c a 1 d e)] [] F=(Bdo N (Aab F) (fun f g b=>Bdr N F (Rx c a d e f g b)) c a d e):=by kernel_rfl
 rw [A8e]
 exact hK.trans (by rw [e1];rfl)
def Acs (N:Nat) (args:List AV) (h:Ak) (k:KF R):Option R :=
 match args,h with
 | [(.imm c a 1 d e)],[]=>(Pl N c a d e (Aab k))
 | _,_=>none
def Ajb (N:Nat):Tw:=⟨Acs N,fun args h k=>by
 unfold Acs;split
 exact twE (Axu ..) (Axu ..)
 rfl⟩
theorem Axv (N:Nat):Az Tryz.prog 181 (Ajb N):=fun args h res i hh=>by
 change Acs N args h (fun v i=>some (v,i))=_ at hh
 unfold Acs at hh;split at hh
 exact Aa (T:=As2 N) trivial follows ((Axu ..).trans hh)
 cases hh
def Axw (N:Nat) (r0:Int→Bool→Option R)  (b:LA) (c:Nat) (d a:Bool):Option R :=
 (Bv N b c d a (fun g e=>(cond (decide (((e:Nat):Int)>(2:Int))) (r0 0 false) (Pl N g e false a (fun i=>(r0 i true))))))
def Axx (N:Nat) (b:LA) (c:Nat) (d a:Bool) (r0:Int→Bool→Option R):Option R:=(Axw N r0 b c d a)
def Yu:=(Al (@Axx R)).1
theorem Avb:@Yu R=@Axx R:=(Al _).2
def A01:Hints:={ H:=(hS (hR [0]) (hS (hR [0]) (hS (hS (hR [0,8]) (hN [0] (hS (hR [2,3]) hL) hL)) (hS (hR [2,3]) hL)))),nils:=[],modes:=[],free:=[],cob:=[] }
def Apf (N:Nat):List (Nat×Tw):=[(171,Ll N),(181,Ajb N)]
def Ajc  (F:KF R):Int→Bool→Option R:=(fun j l=>F (.tup [(.int .u64 j),(.bool l)]) [])
theorem Ajd (N:Nat) (b:LA) (c:Nat) (d a:Bool) (F:KF R):Ac Tryz.prog muts (Apf N) A01 N 146 [(.imm b c 1 d a)] [] F=(Yu N b c d a (Ajc F)):=by
 have hK:Ac Tryz.prog muts (Apf N) A01 N 146 [(.imm b c 1 d a)] [] F=(Axw N (Ajc F) b c d a):=by kernel_rfl
 rw [Avb]
 exact hK
def Ty (N:Nat) (args:List AV) (h:Ak) (k:KF R):Option R :=
 match args,h with
 | [(.imm b c 1 d a)],[]=>(Yu N b c d a (Ajc k))
 | _,_=>none
def A02 (N:Nat):Tw:=⟨Ty N,fun args h k=>by
 unfold Ty;split
 exact twE (Ajd ..) (Ajd ..)
 rfl⟩
theorem Blb (N:Nat):Az Tryz.prog 146 (A02 N):=fun args h res f hh=>by
 change Ty N args h (fun v f=>some (v,f))=_ at hh
 unfold Ty at hh;split at hh
 exact Aa (T:=Apf N) ⟨Ph N,Axv N,trivial⟩ follows ((Ajd ..).trans hh)
 cases hh
def Ek (N:Nat)  (r0:Int→Int→Bool→Option R) (d b:Int) (c:Bool) (a:LA)   (e:Bool):Option R :=
 (cond e (r0 0 0 false) (cond (b==(0:Int)) (r0 0 1 true) (rdB a fun g=>(cond g (r0 (IntKind.wrap .i64 ((0:Int) - (IntKind.wrap .i64 d))) (IntKind.wrap .i64 b) true) (r0 (IntKind.wrap .i64 d) (IntKind.wrap .i64 b) true)))))
def Et (N:Nat)  (r0:Int→Int→Bool→Option R) (d b:Int) (c:Bool) (a:LA) (e:Bool):Option R:=(Ek N r0 d b c a e)
def Agl (N:Nat) (r0:Int→Int→Bool→Option R) (q0:Int→Int→Bool→Option R) (a:LA) (c:Bool):Option R :=
 (rdL 1 (List.drop 1 a) fun i j=>(Yu N i j false c (fun d l=>(rdL 1 (List.drop 2 a) fun m n=>(Yu N m n false c (fun b o=>(cond ((!l)==false) (cond ((cond false true (!o))==false) (cond ((cond false true (decide (d≥(2147483648:Int))))==false) (q0 d b (cond false true (decide (b≥(2147483648:Int))))) (q0 d b true)) (q0 d b true)) (q0 d b true))))))))
def Agm (N:Nat) (a:LA) (c:Bool) (r0:Int→Int→Bool→Option R):Option R:=(Agl N r0 (fun d b e=>(Et N r0 d b c a e)) a c)
def Fh:=(Al (@Agm R)).1
theorem Xp:@Fh R=@Agm R:=(Al _).2
def Acu:Hints:={ H:=(hS (hR [1]) (hS (hR [1,4,5]) (hS (hR [1,4,5,6,7]) (hS (hN [5,6] (hJ (hR [1,5,6,21]) (hN [5,6] (hS (hR [2,3,4]) hL) (hS (hR [1,5,6,36]) (hN [5,6] (hS (hR [2,3,4]) hL) (hS (hR [5,6,39]) (hN [5,6] (hS (hR [2,3,4]) hL) hL)))))) hL) (hS (hR [2,3,4]) hL))))),nils:=[],modes:=[],free:=[],cob:=[] }
def Aje (N:Nat):List (Nat×Tw):=[(146,A02 N)]
def Ajf (N:Nat):Env:=mkE 52 Acu (Aje N)
def Blc (N:Nat) (F:KF R):=As (Ajf N) Tryz.f99 Acu.modes [] F
def A8f (N:Nat) (F:KF R):=atF (Ajf N) [] N Tryz.f99 Acu (Blc N F)
def U9  (F:KF R):Int→Int→Bool→Option R:=(fun p q r=>F (.tup [(.int .i64 p),(.int .i64 q),(.bool r)]) [])
def Acv (d b:Int) (c:Bool) (a:LA) (e:Bool):St:={ s:=[(1,(.optr 16 0)),(5,(.int .u64 d)),(6,(.int .u64 b)),(21,(.bool e))],h:=[(16,⟨false,false,true,c,0,a,false⟩)] }
def A8g (N:Nat) (F:KF R):St→Option R:=Bh (Ajf N) [] N (A8f N F [1,1,1,0,0,1] [])
def A8h (N:Nat) (F:KF R):St→Option R:=Bl (Ajf N) [] N (A8f N F [1,1,1,0,0,1] [])
theorem Bds (N:Nat)  (F:KF R) (d b:Int) (c:Bool) (a:LA):∀ (e:Bool),A8h N F (Acv d b c a e)=(Et N (U9 F) d b c a e):=by
 intro e
 have hK:A8h N F (Acv d b c a e)=(Ek N (U9 F) d b c a e):=by kernel_rfl
 exact hK
theorem Apg (N:Nat) (a:LA) (c:Bool) (F:KF R):Ac Tryz.prog muts (Aje N) Acu N 99 [(.pagg a c)] [] F=(Fh N a c (U9 F)):=by
 have e1:=funext fun d=>funext fun b=>funext fun e=>(show A8g N F (Acv d b c a e)=_ from (Aq ..).trans (Bds N F d b c a e))
 have hK:Ac Tryz.prog muts (Aje N) Acu N 99 [(.pagg a c)] [] F=(Agl N (U9 F) (fun d b e=>A8g N F (Acv d b c a e)) a c):=by kernel_rfl
 rw [Xp]
 exact hK.trans (by rw [e1];rfl)
def Xq (N:Nat) (args:List AV) (h:Ak) (k:KF R):Option R :=
 match args,h with
 | [(.pagg a c)],[]=>(Fh N a c (U9 k))
 | _,_=>none
def Va (N:Nat):Tw:=⟨Xq N,fun args h k=>by
 unfold Xq;split
 exact twE (Apg ..) (Apg ..)
 rfl⟩
theorem Acw (N:Nat):Az Tryz.prog 99 (Va N):=fun args h res f hh=>by
 change Xq N args h (fun v f=>some (v,f))=_ at hh
 unfold Xq at hh;split at hh
 exact Aa (T:=Aje N) ⟨Blb N,trivial⟩ follows ((Apg ..).trans hh)
 cases hh
def Ry (N:Nat) (r0:Bool→Option R)  (a:Int):Option R :=
 (r0 (a != a))
def Rz (N:Nat) (a:Int) (r0:Bool→Option R):Option R:=(Ry N r0 a)
def I4:=(Al (@Rz R)).1
theorem Wi:@I4 R=@Rz R:=(Al _).2
def Aac:Hints:={ H:=(hS (hR [0]) (hS (hR [2]) hL)),nils:=[],modes:=[],free:=[],cob:=[] }
def Pm (N:Nat):List (Nat×Tw):=[]
def N4  (F:KF R):Bool→Option R:=(fun c=>F (.bool c) [])
theorem N5 (N:Nat) (a:Int) (F:KF R):Ac Tryz.prog muts (Pm N) Aac N 147 [(.int .i64 a)] [] F=(I4 N a (N4 F)):=by
 have hK:Ac Tryz.prog muts (Pm N) Aac N 147 [(.int .i64 a)] [] F=(Ry N (N4 F) a):=by kernel_rfl
 rw [Wi]
 exact hK
def Gr (N:Nat) (args:List AV) (h:Ak) (k:KF R):Option R :=
 match args,h with
 | [(.int .i64 a)],[]=>(I4 N a (N4 k))
 | _,_=>none
def Aad (N:Nat):Tw:=⟨Gr N,fun args h k=>by
 unfold Gr;split
 exact twE (N5 ..) (N5 ..)
 rfl⟩
theorem Axy (N:Nat):Az Tryz.prog 147 (Aad N):=fun args h res b hh=>by
 change Gr N args h (fun v b=>some (v,b))=_ at hh
 unfold Gr at hh;split at hh
 exact Aa (T:=Pm N) trivial follows ((N5 ..).trans hh)
 cases hh
def N6 (N:Nat) (r0:Int→Option R)  (a b:Int):Option R :=
 (I4 N a (fun e=>(I4 N b (fun c=>(cond e (cond c (r0 0) (r0 (-1))) (cond c (r0 1) (cond (decide (a<b)) (r0 (-1)) (cond (decide (a>b)) (r0 1) (r0 0)))))))))
def N7 (N:Nat) (a b:Int) (r0:Int→Option R):Option R:=(N6 N r0 a b)
def F9:=(Al (@N7 R)).1
theorem Rb:@F9 R=@N7 R:=(Al _).2
def Vb:Hints:={ H:=(hS (hR [0,1]) (hS (hR [0,1,5]) (hS (hR [0,1,5,6]) (hS (hS (hR [0,1,6,11]) (hN [0,1,6] (hS (hS (hR [12]) (hS (hS (hR [4]) hL) hL)) (hS (hR [4]) hL)) hL)) (hS (hS (hR [0,1,13]) (hN [0,1] (hS (hR [4]) hL) hL)) (hS (hS (hR [0,1,16]) (hN [0,1] (hS (hR [4]) hL) hL)) (hS (hS (hR [19]) (hS (hS (hR [4]) hL) hL)) (hS (hR [4]) hL)))))))),nils:=[],modes:=[],free:=[],cob:=[] }
def Ml (N:Nat):List (Nat×Tw):=[(147,Aad N)]
def Kk  (F:KF R):Int→Option R:=(fun f=>F (.int .i64 f) [])
theorem Kl (N:Nat) (a b:Int) (F:KF R):Ac Tryz.prog muts (Ml N) Vb N 100 [(.int .i64 a),(.int .i64 b)] [] F=(F9 N a b (Kk F)):=by
 have hK:Ac Tryz.prog muts (Ml N) Vb N 100 [(.int .i64 a),(.int .i64 b)] [] F=(N6 N (Kk F) a b):=by kernel_rfl
 rw [Rb]
 exact hK
def Fs (N:Nat) (args:List AV) (h:Ak) (k:KF R):Option R :=
 match args,h with
 | [(.int .i64 a),(.int .i64 b)],[]=>(F9 N a b (Kk k))
 | _,_=>none
def Vc (N:Nat):Tw:=⟨Fs N,fun args h k=>by
 unfold Fs;split
 exact twE (Kl ..) (Kl ..)
 rfl⟩
theorem Aph (N:Nat):Az Tryz.prog 100 (Vc N):=fun args h res d hh=>by
 change Fs N args h (fun v d=>some (v,d))=_ at hh
 unfold Fs at hh;split at hh
 exact Aa (T:=Ml N) ⟨Axy N,trivial⟩ follows ((Kl ..).trans hh)
 cases hh
def Ajg (N:Nat) (k1:Nat→Int→Int→LA→Option R) (r0:Nat→LA→Option R) (e:LA) (a:Nat) (d:Bool) (i:Nat) (f q:Int) (g:LA) (b:Nat) (c:Bool) (j:Int) (k2:Int→Int→Int→LA→Option R)  (p r l:Int) (m:LA):Option R :=
 (cond (decide (l<r)) (cond (Aj l a) (rdI .u32 (List.drop ((Int.toNat l)*1) e) fun ab=>(cond (Aj (IntKind.wrap .i64 (f+l)) i) (rdI .u32 (List.drop (0+((Int.toNat (IntKind.wrap .i64 (f+l)))*1)) m) fun ac=>(cond (Aj (IntKind.wrap .i64 (f+l)) i) (cond ((Nat.beq 1 1)&&((Nat.ble ((0+((Int.toNat (IntKind.wrap .i64 (f+l)))*1))+1) (List.length m))&&(!false))) (k2 (Int.fdiv (IntKind.wrap .u64 (p+(IntKind.wrap .u64 ((IntKind.wrap .u64 ((IntKind.wrap .u64 q)*(IntKind.wrap .u64 ab)))+(IntKind.wrap .u64 ac))))) (2 ^ 32)) r (IntKind.wrap .i64 (l+(1:Int))) (List.set m (0+((Int.toNat (IntKind.wrap .i64 (f+l)))*1)) (.int .u32 (IntKind.wrap .u32 (IntKind.wrap .u64 (p+(IntKind.wrap .u64 ((IntKind.wrap .u64 ((IntKind.wrap .u64 q)*(IntKind.wrap .u64 ab)))+(IntKind.wrap .u64 ac))))))))) none) none)) none)) none) (cond (Aj (IntKind.wrap .i64 (f+((a:Nat):Int))) i) (cond ((Nat.beq 1 1)&&((Nat.ble ((0+((Int.toNat (IntKind.wrap .i64 (f+((a:Nat):Int))))*1))+1) (List.length m))&&(!false))) (k1 i j (IntKind.wrap .i64 (f+(1:Int))) (List.set m (0+((Int.toNat (IntKind.wrap .i64 (f+((a:Nat):Int))))*1)) (.int .u32 (IntKind.wrap .u32 p)))) none) none))
def R3 (N:Nat) (k1:Nat→Int→Int→LA→Option R) (r0:Nat→LA→Option R) (e:LA) (a:Nat) (d:Bool) (i:Nat) (f q:Int) (g:LA) (b:Nat) (c:Bool) (j:Int):Nat→Int→Int→Int→LA→Option R
 | 0,_,_,_,_=>none
 | n+1,p,r,l,m=>(Ajg N k1 r0 e a d i f q g b c j (R3 N k1 r0 e a d i f q g b c j n) p r l m)
def Aae (N:Nat)  (r0:Nat→LA→Option R) (e:LA) (a:Nat) (d:Bool) (g:LA) (b:Nat) (c:Bool) (k1:Nat→Int→Int→LA→Option R) (q2:Int→Int→Int→Int→LA→Option R) (i:Nat) (j f:Int) (o:LA):Option R :=
 (cond (decide (f<j)) (cond (Aj f b) (rdI .u32 (List.drop ((Int.toNat f)*1) g) fun q=>(cond (q==(0:Int)) (k1 i j (IntKind.wrap .i64 (f+(1:Int))) o) (q2 q 0 ((a:Nat):Int) 0 o))) none) (Vw N i o (fun ae=>(r0 ae o))))
def Jh (N:Nat)  (r0:Nat→LA→Option R) (e:LA) (a:Nat) (d:Bool) (g:LA) (b:Nat) (c:Bool):Nat→Nat→Int→Int→LA→Option R
 | 0,_,_,_,_=>none
 | n+1,i,j,f,o=>(Aae N r0 e a d g b c (Jh N r0 e a d g b c n) (fun q p r l m=>(R3 N (Jh N r0 e a d g b c n) r0 e a d i f q g b c j N p r l m)) i j f o)
def Axz (N:Nat)  (r0:Nat→LA→Option R) (g:LA) (b:Nat) (c:Bool) (e:LA) (a:Nat) (d:Bool)  (q1:Nat→Int→Int→LA→Option R) :Option R :=
 (cond ((decide ((0:Int)≤(IntKind.wrap .i64 (((b:Nat):Int)+((a:Nat):Int)))))&&((decide ((IntKind.wrap .i64 (((b:Nat):Int)+((a:Nat):Int)))≤(IntKind.wrap .i64 (((b:Nat):Int)+((a:Nat):Int)))))&&((decide ((IntKind.wrap .i64 (((b:Nat):Int)+((a:Nat):Int)))≤(140737488355328:Int)))&&(decide (((IntKind.wrap .i64 (((b:Nat):Int)+((a:Nat):Int)))*((4:Nat):Int))≤(140737488355328:Int)))))) (q1 (Int.toNat (IntKind.wrap .i64 (((b:Nat):Int)+((a:Nat):Int)))) ((b:Nat):Int) 0 (List.replicate (Int.toNat (IntKind.wrap .i64 (((b:Nat):Int)+((a:Nat):Int)))) (.int .u32 0))) none)
def A4v (N:Nat)  (r0:Nat→LA→Option R) (g:LA) (b:Nat) (c:Bool) (e:LA) (a:Nat) (d:Bool) :Option R:=(Axz N r0 g b c e a d (fun i j f o=>(Jh N r0 e a d g b c N i j f o)))
def A03 (N:Nat) (r0:Nat→LA→Option R) (q0:LA→Nat→LA→Nat→Option R) (u:LA) (t:Nat) (w c:Bool) (x:LA) (y:Nat) (z d:Bool):Option R :=
 (Bv N u t w c (fun g b=>(Bv N x y z d (fun e a=>(cond ((((b:Nat):Int)==(0:Int))==false) (cond (cond false true (((a:Nat):Int)==(0:Int))) (r0 0 []) (q0 g b e a)) (r0 0 []))))))
def A04 (N:Nat) (u:LA) (t:Nat) (w c:Bool) (x:LA) (y:Nat) (z d:Bool) (r0:Nat→LA→Option R):Option R:=(A03 N r0 (fun g b e a=>(A4v N r0 g b c e a d)) u t w c x y z d)
def Ajh:=(Al (@A04 R)).1
theorem Aji:@Ajh R=@A04 R:=(Al _).2
def As4:Hints:={ H:=(hS (hR [0,1]) (hS (hR [0,1]) (hJ (hS (hR [0,1,22]) (hN [0,1] (hS (hR [4]) hL) hL)) (hS (hR [0,1,5]) (hS (hS (hR [1,5,29,30,31]) (hN [5] (hN [1,5,29,30,31] (hS (hR [1,5,29,30,31,32]) (hS (hN [1,5,29,30,31] hL hL) (hS (hN [1,5,29,30,31] (hS (hR [1,5,6,7,29,30,31]) (hS (hS (hR [1,5,6,7,29,30,31,37]) (hN [1,5,6,7,29,30,31] hL hL)) (hS (hR [1,5,6,7,8,29,30,31]) (hS (hS (hR [1,5,6,7,8,29,30,31,38,39,40]) (hN [1,5,6,8,29,30,31] (hN [1,5,6,7,8,29,30,31,38,39,40] (hS (hR [1,5,6,7,8,29,30,31,38,39,40,41]) (hS (hN [1,5,6,7,8,29,30,31,38,39,40] hL hL) (hS (hN [1,5,6,7,8,29,30,31,38,39,40] (hS (hR [1,5,6,7,8,9,10,29,30,31,38,39,40]) (hS (hR [1,5,6,7,8,9,29,30,31,38,39,40]) (hS (hR [1,5,6,7,8,29,30,31,38,39,40]) (hR [1,5,6,7,8,29,30,31,38,39,40])))) hL) (hR [1,5,6,7,8,29,30,31,38,39,40])))) hL) hL)) (hR [1,5,29,30,31]))))) hL) (hR [1,5,29,30,31])))) hL) hL)) (hS (hR [4]) hL)))))),nils:=[(4,1)],modes:=[(2,1)],free:=[],cob:=[] }
def Dv (N:Nat) (args:List AV) (h:Ak) (k:KF R):Option R :=
 match args,h with
 | [(.imm u t 1 w c)],[]=>(Bv N u t w c (Ig c k))
 | [(.own 100000 0 t)],[(100000,⟨false,false,true,false,1,ad,false⟩)]=>(Vw N t ad (Yr ad k))
 | _,_=>none
def Cz (N:Nat):Tw:=⟨Dv N,fun args h k=>by
 unfold Dv;split
 exact twE (Ej ..) (Ej ..)
 exact twE (Yt ..) (Yt ..)
 rfl⟩
theorem D4 (N:Nat):Az Tryz.prog 171 (Cz N):=fun args h res aa hh=>by
 change Dv N args h (fun v aa=>some (v,aa))=_ at hh
 unfold Dv at hh;split at hh
 exact Aa (T:=Ok N) trivial follows ((Ej ..).trans hh)
 exact Aa (T:=Ao2 N) trivial follows ((Yt ..).trans hh)
 cases hh
def A05 (N:Nat):List (Nat×Tw):=[(171,Cz N)]
def Vd (N:Nat):Env:=mkE 81 As4 (A05 N)
def Bpr (N:Nat) (F:KF R):=As (Vd N) Tryz.f135 As4.modes [] F
def Yv (N:Nat) (F:KF R):=atF (Vd N) [] N Tryz.f135 As4 (Bpr N F)
def Hg  (F:KF R):Nat→LA→Option R:=(fun af ag=>F (.own 300000 0 af) [(300000,⟨false,false,true,false,1,ag,false⟩)])
def Yw (e:LA) (a:Nat) (d:Bool) (i:Nat) (f q:Int) (g:LA) (b:Nat) (c:Bool) (j p r l:Int) (m:LA):St:={ s:=[(1,(.imm e a 1 false d)),(5,(.own 300000 0 i)),(6,(.int .i64 f)),(7,(.int .u32 q)),(8,(.int .u64 p)),(29,(.imm g b 1 false c)),(30,(.int .i64 j)),(31,(.int .i64 f)),(38,(.imm e a 1 false d)),(39,(.int .i64 r)),(40,(.int .i64 l))],h:=[(300000,⟨false,false,true,false,1,m,false⟩)] }
def Bis (N:Nat) (F:KF R) (Q1:St→Option R):St→Option R:=Bx (Vd N) [] N (Yv N F [1,1,1,1,0,1,0,0,1,1,0,0,1,1,1,0,1,0] [Q1]) N
def As5 (N:Nat) (F:KF R) (Q1:St→Option R) (n:Nat):St→Option R:=A9 (Vd N) [] N (Yv N F [1,1,1,1,0,1,0,0,1,1,0,0,1,1,1,0,1,0] [Q1]) n
def Om (e:LA) (a:Nat) (d:Bool) (g:LA) (b:Nat) (c:Bool) (i:Nat) (j f:Int) (o:LA):St:={ s:=[(1,(.imm e a 1 false d)),(5,(.own 300000 0 i)),(29,(.imm g b 1 false c)),(30,(.int .i64 j)),(31,(.int .i64 f))],h:=[(300000,⟨false,false,true,false,1,o,false⟩)] }
def Bit (N:Nat) (F:KF R):St→Option R:=Bx (Vd N) [] N (Yv N F [1,1,1,1,0,1,0] []) N
def R4 (N:Nat) (F:KF R) (n:Nat):St→Option R:=A9 (Vd N) [] N (Yv N F [1,1,1,1,0,1,0] []) n
def As6 (g:LA) (b:Nat) (c:Bool) (e:LA) (a:Nat) (d:Bool):St:={ s:=[(0,(.imm g b 1 false c)),(1,(.imm e a 1 false d))],h:=[] }
def Biu (N:Nat) (F:KF R):St→Option R:=Bh (Vd N) [] N (Yv N F [1,1,1] [])
def Biv (N:Nat) (F:KF R):St→Option R:=Bl (Vd N) [] N (Yv N F [1,1,1] [])
theorem Bld (N:Nat) (Q1:St→Option R) (F:KF R) (e:LA) (a:Nat) (d:Bool) (i:Nat) (f q:Int) (g:LA) (b:Nat) (c:Bool) (j:Int):∀ (n:Nat) (p r l:Int) (m:LA),As5 N F Q1 n (Yw e a d i f q g b c j p r l m)=(R3 N (fun i j f o=>Q1 (Om e a d g b c i j f o)) (Hg F) e a d i f q g b c j n p r l m):=by
 intro n
 induction n with
 | zero=>intros;kernel_rfl
 | succ n ih =>
  intro p r l m
  have e0:=funext fun p=>funext fun r=>funext fun l=>funext fun m=>(show As5 N F Q1 n (Yw e a d i f q g b c j p r l m)=_ from ih p r l m)
  have hK:As5 N F Q1 (n+1) (Yw e a d i f q g b c j p r l m)=(Ajg N (fun i j f o=>Q1 (Om e a d g b c i j f o)) (Hg F) e a d i f q g b c j (fun p r l m=>As5 N F Q1 n (Yw e a d i f q g b c j p r l m)) p r l m):=by kernel_rfl
  exact hK.trans (by rw [e0];rfl)
theorem Ble (N:Nat)  (F:KF R) (e:LA) (a:Nat) (d:Bool) (g:LA) (b:Nat) (c:Bool):∀ (n i:Nat) (j f:Int) (o:LA),R4 N F n (Om e a d g b c i j f o)=(Jh N (Hg F) e a d g b c n i j f o):=by
 intro n
 induction n with
 | zero=>intros;kernel_rfl
 | succ n ih =>
  intro i j f o
  have e0:=funext fun i=>funext fun j=>funext fun f=>funext fun o=>(show R4 N F n (Om e a d g b c i j f o)=_ from ih i j f o)
  have e1:(fun q p r l m=>Bis N F (R4 N F n) (Yw e a d i f q g b c j p r l m))=(fun q p r l m=>(R3 N (Jh N (Hg F) e a d g b c n) (Hg F) e a d i f q g b c j N p r l m)):=by funext q;funext p;funext r;funext l;funext m;exact ((Au ..).trans (Bld N (R4 N F n) F e a d i f q g b c j N p r l m)).trans (by rw [e0])
  have hK:R4 N F (n+1) (Om e a d g b c i j f o)=(Aae N (Hg F) e a d g b c (fun i j f o=>R4 N F n (Om e a d g b c i j f o)) (fun q p r l m=>Bis N F (R4 N F n) (Yw e a d i f q g b c j p r l m)) i j f o):=by kernel_rfl
  exact hK.trans (by rw [e0,e1];rfl)
theorem Blf (N:Nat)  (F:KF R) (g:LA) (b:Nat) (c:Bool) (e:LA) (a:Nat) (d:Bool):Biv N F (As6 g b c e a d)=(A4v N (Hg F) g b c e a d):=by
 have e1:=funext fun i=>funext fun j=>funext fun f=>funext fun o=>(show Bit N F (Om e a d g b c i j f o)=_ from (Au ..).trans (Ble N F e a d g b c N i j f o))
 have hK:Biv N F (As6 g b c e a d)=(Axz N (Hg F) g b c e a d (fun i j f o=>Bit N F (Om e a d g b c i j f o))):=by kernel_rfl
 exact hK.trans (by rw [e1];rfl)
theorem A4w (N:Nat) (u:LA) (t:Nat) (w c:Bool) (x:LA) (y:Nat) (z d:Bool) (F:KF R):Ac Tryz.prog muts (A05 N) As4 N 135 [(.imm u t 1 w c),(.imm x y 1 z d)] [] F=(Ajh N u t w c x y z d (Hg F)):=by
 have e1:=funext fun g=>funext fun b=>funext fun e=>funext fun a=>(show Biu N F (As6 g b c e a d)=_ from (Aq ..).trans (Blf N F g b c e a d))
 have hK:Ac Tryz.prog muts (A05 N) As4 N 135 [(.imm u t 1 w c),(.imm x y 1 z d)] [] F=(A03 N (Hg F) (fun g b e a=>Biu N F (As6 g b c e a d)) u t w c x y z d):=by kernel_rfl
 rw [Aji]
 exact hK.trans (by rw [e1];rfl)
def Ajj (N:Nat) (args:List AV) (h:Ak) (k:KF R):Option R :=
 match args,h with
 | [(.imm u t 1 w c),(.imm x y 1 z d)],[]=>(Ajh N u t w c x y z d (Hg k))
 | _,_=>none
def Agn (N:Nat):Tw:=⟨Ajj N,fun args h k=>by
 unfold Ajj;split
 exact twE (A4w ..) (A4w ..)
 rfl⟩
theorem As7 (N:Nat):Az Tryz.prog 135 (Agn N):=fun args h res aa hh=>by
 change Ajj N args h (fun v aa=>some (v,aa))=_ at hh
 unfold Ajj at hh;split at hh
 exact Aa (T:=A05 N) ⟨D4 N,trivial⟩ follows ((A4w ..).trans hh)
 cases hh
def Blg (N:Nat) (r0:Bool→Nat→LA→Option R)  (a:LA) (c:Bool) (b:LA) (d:Bool):Option R :=
 (rdB a fun i=>(rdB b fun j=>(rdL 1 (List.drop 1 a) fun l m=>(rdL 1 (List.drop 1 b) fun n o=>(Ajh N l m false c n o false d (fun e f=>(Hf N (!(i==j)) e f (fun p=>(r0 p e f)))))))))
def Blh (N:Nat) (a:LA) (c:Bool) (b:LA) (d:Bool) (r0:Bool→Nat→LA→Option R):Option R:=(Blg N r0 a c b d)
def Ajk:=(Al (@Blh R)).1
theorem Bdt:@Ajk R=@Blh R:=(Al _).2
def Biw:Hints:={ H:=(hS (hR [2,3,4]) (hS (hR [4]) hL)),nils:=[],modes:=[],free:=[],cob:=[] }
def Bdu (N:Nat):List (Nat×Tw):=[(135,Agn N),(148,Pe N)]
def A4x  (F:KF R):Bool→Nat→LA→Option R:=(fun q r s=>F (.agg [(.bool q),(.own 300000 0 r)]) [(300000,⟨false,false,true,false,1,s,false⟩)])
theorem A4y (N:Nat) (a:LA) (c:Bool) (b:LA) (d:Bool) (F:KF R):Ac Tryz.prog muts (Bdu N) Biw N 103 [(.pagg a c),(.pagg b d)] [] F=(Ajk N a c b d (A4x F)):=by
 have hK:Ac Tryz.prog muts (Bdu N) Biw N 103 [(.pagg a c),(.pagg b d)] [] F=(Blg N (A4x F) a c b d):=by kernel_rfl
 rw [Bdt]
 exact hK
def Ajl (N:Nat) (args:List AV) (h:Ak) (k:KF R):Option R :=
 match args,h with
 | [(.pagg a c),(.pagg b d)],[]=>(Ajk N a c b d (A4x k))
 | _,_=>none
def As8 (N:Nat):Tw:=⟨Ajl N,fun args h k=>by
 unfold Ajl;split
 exact twE (A4y ..) (A4y ..)
 rfl⟩
theorem A4z (N:Nat):Az Tryz.prog 103 (As8 N):=fun args h res g hh=>by
 change Ajl N args h (fun v g=>some (v,g))=_ at hh
 unfold Ajl at hh;split at hh
 exact Aa (T:=Bdu N) ⟨As7 N,Xf N,trivial⟩ follows ((A4y ..).trans hh)
 cases hh
def Jv (N:Nat)  (r0:Int→Option R) (f:LA) (d:Nat) (b:Bool) (g:LA) (e:Nat) (c:Bool) (k0:Int→Option R)  (a:Int):Option R :=
 (cond (decide (a≥(0:Int))) (cond (Aj a d) (rdI .u32 (List.drop ((Int.toNat a)*1) f) fun r=>(cond (Aj a e) (rdI .u32 (List.drop ((Int.toNat a)*1) g) fun t=>(cond (decide (r<t)) (r0 (-1)) (cond (Aj a d) (rdI .u32 (List.drop ((Int.toNat a)*1) f) fun u=>(cond (Aj a e) (rdI .u32 (List.drop ((Int.toNat a)*1) g) fun w=>(cond (decide (u>w)) (r0 1) (k0 (IntKind.wrap .i64 (a - (1:Int)))))) none)) none))) none)) none) (r0 0))
def E3 (N:Nat)  (r0:Int→Option R) (f:LA) (d:Nat) (b:Bool) (g:LA) (e:Nat) (c:Bool):Nat→Int→Option R
 | 0,_=>none
 | n+1,a=>(Jv N r0 f d b g e c (E3 N r0 f d b g e c n) a)
def Aaf (N:Nat) (r0:Int→Option R) (q0:LA→Nat→LA→Nat→Int→Option R) (i:LA) (j:Nat) (l b:Bool) (m:LA) (o:Nat) (p c:Bool):Option R :=
 (Bv N i j l b (fun f d=>(Bv N m o p c (fun g e=>(cond (((d:Nat):Int) != ((e:Nat):Int)) (cond (decide (((d:Nat):Int)<((e:Nat):Int))) (r0 (-1)) (r0 1)) (q0 f d g e (IntKind.wrap .i64 (((d:Nat):Int) - (1:Int)))))))))
def Aag (N:Nat) (i:LA) (j:Nat) (l b:Bool) (m:LA) (o:Nat) (p c:Bool) (r0:Int→Option R):Option R:=(Aaf N r0 (fun f d g e a=>(E3 N r0 f d b g e c N a)) i j l b m o p c)
def C7:=(Al (@Aag R)).1
theorem Acx:@C7 R=@Aag R:=(Al _).2
def Ln:Hints:={ H:=(hS (hR [0,1]) (hS (hR [0,1]) (hS (hS (hR [0,1,14]) (hN [0,1] (hS (hS (hR [19]) (hS (hS (hR [4]) hL) hL)) (hS (hR [4]) hL)) hL)) (hS (hS (hR [0,1,5]) (hS (hN [0,1,5] (hS (hS (hR [0,1,5,24]) (hN [0,1,5] hL hL)) (hS (hN [0,1,5] (hS (hS (hR [0,1,5,35]) (hN [0,1,5] (hS (hR [4]) hL) hL)) (hS (hR [0,1,5,44]) (hN [0,1,5] (hS (hR [4]) hL) hL))) hL) (hR [0,1,5]))) hL) hL)) (hS (hR [4]) hL))))),nils:=[],modes:=[],free:=[],cob:=[] }
def Nb (N:Nat):List (Nat×Tw):=[(171,Ll N)]
def Nc (N:Nat):Env:=mkE 45 Ln (Nb N)
def A06 (N:Nat) (F:KF R):=As (Nc N) Tryz.f132 Ln.modes [] F
def Ago (N:Nat) (F:KF R):=atF (Nc N) [] N Tryz.f132 Ln (A06 N F)
def Hh  (F:KF R):Int→Option R:=(fun x=>F (.int .i64 x) [])
def E4 (f:LA) (d:Nat) (b:Bool) (g:LA) (e:Nat) (c:Bool) (a:Int):St:={ s:=[(0,(.imm f d 1 false b)),(1,(.imm g e 1 false c)),(5,(.int .i64 a))],h:=[] }
def Agp (N:Nat) (F:KF R):St→Option R:=Bx (Nc N) [] N (Ago N F [1,1,1,0,1,0] []) N
def Lo (N:Nat) (F:KF R) (n:Nat):St→Option R:=A9 (Nc N) [] N (Ago N F [1,1,1,0,1,0] []) n
theorem At7 (N:Nat)  (F:KF R) (f:LA) (d:Nat) (b:Bool) (g:LA) (e:Nat) (c:Bool):∀ (n:Nat) (a:Int),Lo N F n (E4 f d b g e c a)=(E3 N (Hh F) f d b g e c n a):=by
 intro n
 induction n with
 | zero=>intros;kernel_rfl
 | succ n ih =>
  intro a
  have e0:=funext fun a=>(show Lo N F n (E4 f d b g e c a)=_ from ih a)
  have hK:Lo N F (n+1) (E4 f d b g e c a)=(Jv N (Hh F) f d b g e c (fun a=>Lo N F n (E4 f d b g e c a)) a):=by kernel_rfl
  exact hK.trans (by rw [e0];rfl)
theorem R5 (N:Nat) (i:LA) (j:Nat) (l b:Bool) (m:LA) (o:Nat) (p c:Bool) (F:KF R):Ac Tryz.prog muts (Nb N) Ln N 132 [(.imm i j 1 l b),(.imm m o 1 p c)] [] F=(C7 N i j l b m o p c (Hh F)):=by
 have e1:=funext fun f=>funext fun d=>funext fun g=>funext fun e=>funext fun a=>(show Agp N F (E4 f d b g e c a)=_ from (Au ..).trans (At7 N F f d b g e c N a))
 have hK:Ac Tryz.prog muts (Nb N) Ln N 132 [(.imm i j 1 l b),(.imm m o 1 p c)] [] F=(Aaf N (Hh F) (fun f d g e a=>Agp N F (E4 f d b g e c a)) i j l b m o p c):=by kernel_rfl
 rw [Acx]
 exact hK.trans (by rw [e1];rfl)
def Jw (N:Nat) (args:List AV) (h:Ak) (k:KF R):Option R :=
 match args,h with
 | [(.imm i j 1 l b),(.imm m o 1 p c)],[]=>(C7 N i j l b m o p c (Hh k))
 | _,_=>none
def E5 (N:Nat):Tw:=⟨Jw N,fun args h k=>by
 unfold Jw;split
 exact twE (R5 ..) (R5 ..)
 rfl⟩
theorem Hi (N:Nat):Az Tryz.prog 132 (E5 N):=fun args h res q hh=>by
 change Jw N args h (fun v q=>some (v,q))=_ at hh
 unfold Jw at hh;split at hh
 exact Aa (T:=Nb N) ⟨Ph N,trivial⟩ follows ((R5 ..).trans hh)
 cases hh
def Api (N:Nat) (r0:Int→Option R)  (a:LA) (c:Bool) (b:LA) (d:Bool):Option R :=
 (cond (Nat.ble 2 (List.length a)) (Ai7 N (List.take 2 a) c (fun e=>(cond (Nat.ble 2 (List.length b)) (Ai7 N (List.take 2 b) d (fun f=>(cond (decide (e<f)) (r0 (-1)) (cond (decide (e>f)) (r0 1) (cond (decide (e<(0:Int))) (rdL 1 (List.drop 1 b) fun i j=>(rdL 1 (List.drop 1 a) fun l m=>(C7 N i j false d l m false c (fun n=>(r0 n))))) (rdL 1 (List.drop 1 a) fun o p=>(rdL 1 (List.drop 1 b) fun q r=>(C7 N o p false c q r false d (fun s=>(r0 s)))))))))) none))) none)
def Apj (N:Nat) (a:LA) (c:Bool) (b:LA) (d:Bool) (r0:Int→Option R):Option R:=(Api N r0 a c b d)
def Aah:=(Al (@Apj R)).1
theorem Apk:@Aah R=@Apj R:=(Al _).2
def Avc:Hints:={ H:=(hS (hR [2,3]) (hS (hR [2,3,5,6]) (hS (hN [2,3] (hS (hR [2,3,5,6,11]) (hN [2,3] (hS (hR [4]) hL) (hS (hR [2,3,5,15]) (hN [2,3] (hS (hR [4]) hL) (hS (hR [2,3,19]) (hN [2,3] (hS (hR [4]) hL) hL)))))) hL) (hS (hR [4]) hL)))),nils:=[],modes:=[],free:=[],cob:=[] }
def Ajm (N:Nat):List (Nat×Tw):=[(144,Axp N),(132,E5 N)]
def Ae5  (F:KF R):Int→Option R:=(fun t=>F (.int .i64 t) [])
theorem Ae6 (N:Nat) (a:LA) (c:Bool) (b:LA) (d:Bool) (F:KF R):Ac Tryz.prog muts (Ajm N) Avc N 102 [(.pagg a c),(.pagg b d)] [] F=(Aah N a c b d (Ae5 F)):=by
 have hK:Ac Tryz.prog muts (Ajm N) Avc N 102 [(.pagg a c),(.pagg b d)] [] F=(Api N (Ae5 F) a c b d):=by kernel_rfl
 rw [Apk]
 exact hK
def Pn (N:Nat) (args:List AV) (h:Ak) (k:KF R):Option R :=
 match args,h with
 | [(.pagg a c),(.pagg b d)],[]=>(Aah N a c b d (Ae5 k))
 | _,_=>none
def Avd (N:Nat):Tw:=⟨Pn N,fun args h k=>by
 unfold Pn;split
 exact twE (Ae6 ..) (Ae6 ..)
 rfl⟩
theorem Bhm (N:Nat):Az Tryz.prog 102 (Avd N):=fun args h res g hh=>by
 change Pn N args h (fun v g=>some (v,g))=_ at hh
 unfold Pn at hh;split at hh
 exact Aa (T:=Ajm N) ⟨Bdk N,Hi N,trivial⟩ follows ((Ae6 ..).trans hh)
 cases hh
def Aai (N:Nat)  (r0:Int→Option R) (c:Bool) (a:LA) (d:Bool) (b:LA)   :Option R :=
 (cond (Nat.ble 3 (List.length a)) (I0 N (List.take 3 a) c (fun e p q r g=>(cond ((Nat.beq 0 0)&&((Nat.beq (List.length e) 2)&&(Nat.beq 2 2))) (cond (Nat.ble 3 (List.length b)) (I0 N (List.take 3 b) d (fun f t u w i=>(cond ((Nat.beq 0 0)&&((Nat.beq (List.length f) 2)&&(Nat.beq 2 2))) (cond (Nat.ble 2 (List.length e)) (Ajk N (List.take 2 e) p [(.bool false),(.imm u w 1 false i)] (i||false) (fun x j y=>(cond (Nat.ble 2 (List.length f)) (Ajk N (List.take 2 f) t [(.bool false),(.imm q r 1 false g)] (g||false) (fun z l aa=>(Aah N [(.bool x),(.imm (List.take (j*1) y) j 1 false true)] true [(.bool z),(.imm (List.take (l*1) aa) l 1 false true)] true (fun ab=>(r0 ab))))) none))) none) none))) none) none))) none)
def Tz (N:Nat)  (r0:Int→Option R) (c:Bool) (a:LA) (d:Bool) (b:LA) :Option R:=(Aai N r0 c a d b)
def Apl (N:Nat) (r0:Int→Option R) (q0:Option R) (a:LA) (c:Bool) (b:LA) (d:Bool):Option R :=
 (cond (Nat.ble 3 (List.length a)) (Xo N (List.take 3 a) c (fun m=>(cond (Nat.ble 3 (List.length b)) (Xo N (List.take 3 b) d (fun n=>(cond (m != n) (I3 N m n (fun ac=>(r0 ac))) (cond (Nat.ble 3 (List.length a)) (Fh N (List.take 3 a) c (fun ad ae af=>(cond (Nat.ble 3 (List.length b)) (Fh N (List.take 3 b) d (fun ag ah ai=>(cond (af==true) (cond (cond true ai false) (F9 N (IntKind.wrap .i64 (ad*ah)) (IntKind.wrap .i64 (ag*ae)) (fun aj=>(r0 aj))) q0) q0))) none))) none)))) none))) none)
def Apm (N:Nat) (a:LA) (c:Bool) (b:LA) (d:Bool) (r0:Int→Option R):Option R:=(Apl N r0 (Tz N r0 c a d b) a c b d)
def Gj:=(Al (@Apm R)).1
theorem Apn:@Gj R=@Apm R:=(Al _).2
def T0:Hints:={ H:=(hS (hR [2,3]) (hS (hS (hR [2,3,5,6]) (hS (hR [2,3,5,6,23]) (hN [2,3] (hS (hR [4]) hL) hL))) (hS (hR [2,3,7,8,9]) (hS (hR [2,3,7,8,9,10,11,12]) (hJ (hS (hR [2,3,7,8,10,11,42]) (hN [2,3] (hS (hR [4]) hL) hL)) (hS (hR [3,13,14]) (hS (hR [13,14,15,16]) (hS (hR [4]) hL)))))))),nils:=[],modes:=[],free:=[],cob:=[] }
def Xr (N:Nat):List (Nat×Tw):=[(95,Ai8 N),(98,Aaa N),(99,Va N),(100,Vc N),(101,Ol N),(103,As8 N),(102,Avd N)]
def Xs (N:Nat):Env:=mkE 69 T0 (Xr N)
def Bdv (N:Nat) (F:KF R):=As (Xs N) Tryz.f59 T0.modes [] F
def Ave (N:Nat) (F:KF R):=atF (Xs N) [] N Tryz.f59 T0 (Bdv N F)
def Mv  (F:KF R):Int→Option R:=(fun ak=>F (.int .i64 ak) [])
def T1 (c:Bool) (a:LA) (d:Bool) (b:LA):St:={ s:=[(2,(.optr 300000 0)),(3,(.optr 300001 0))],h:=[(300000,⟨false,false,true,c,0,a,false⟩),(300001,⟨false,false,true,d,0,b,false⟩)] }
def Avf (N:Nat) (F:KF R):St→Option R:=Bh (Xs N) [] N (Ave N F [1,1,1,1,1] [])
def Avg (N:Nat) (F:KF R):St→Option R:=Bl (Xs N) [] N (Ave N F [1,1,1,1,1] [])
theorem A40 (N:Nat)  (F:KF R) (c:Bool) (a:LA) (d:Bool) (b:LA):Avg N F (T1 c a d b)=(Tz N (Mv F) c a d b):=by
 have hK:Avg N F (T1 c a d b)=(Aai N (Mv F) c a d b):=by kernel_rfl
 exact hK
theorem Ae7 (N:Nat) (a:LA) (c:Bool) (b:LA) (d:Bool) (F:KF R):Ac Tryz.prog muts (Xr N) T0 N 59 [(.pagg a c),(.pagg b d)] [] F=(Gj N a c b d (Mv F)):=by
 have e1:=(show Avf N F (T1 c a d b)=_ from (Aq ..).trans (A40 N F c a d b))
 have hK:Ac Tryz.prog muts (Xr N) T0 N 59 [(.pagg a c),(.pagg b d)] [] F=(Apl N (Mv F) (Avf N F (T1 c a d b)) a c b d):=by kernel_rfl
 rw [Apn]
 exact hK.trans (by rw [e1];rfl)
def Po (N:Nat) (args:List AV) (h:Ak) (k:KF R):Option R :=
 match args,h with
 | [(.pagg a c),(.pagg b d)],[]=>(Gj N a c b d (Mv k))
 | _,_=>none
def T2 (N:Nat):Tw:=⟨Po N,fun args h k=>by
 unfold Po;split
 exact twE (Ae7 ..) (Ae7 ..)
 rfl⟩
theorem Ae8 (N:Nat):Az Tryz.prog 59 (T2 N):=fun args h res o hh=>by
 change Po N args h (fun v o=>some (v,o))=_ at hh
 unfold Po at hh;split at hh
 exact Aa (T:=Xr N) ⟨Axs N,Axt N,Acw N,Aph N,U8 N,A4z N,Bhm N,trivial⟩ follows ((Ae7 ..).trans hh)
 cases hh
def I5 (N:Nat)  (r0:LA→Option R) (a b c:Int) (k1:Int→Int→Option R)  (d e:Int):Option R :=
 (cond (e != (0:Int)) (cond (e==(0:Int)) none (k1 e (Int.tmod d e))) (cond (d==(0:Int)) none (Bj N (IntKind.wrap .u64 (Int.tdiv c d)) (fun f j=>(cond (d==(0:Int)) none (Bj N (IntKind.wrap .u64 (Int.tdiv (IntKind.wrap .u64 b) d)) (fun g l=>(r0 [(.bool (decide (a<(0:Int)))),(.imm (List.take (f*1) j) f 1 false false),(.imm (List.take (g*1) l) g 1 false false)]))))))))
def Cc (N:Nat)  (r0:LA→Option R) (a b c:Int):Nat→Int→Int→Option R
 | 0,_,_=>none
 | n+1,d,e=>(I5 N r0 a b c (Cc N r0 a b c n) d e)
def Vz (N:Nat)  (r0:LA→Option R) (a b:Int)  (q1:Int→Int→Option R) (c:Int):Option R :=
 (q1 (IntKind.wrap .u64 b) c)
def Aaj (N:Nat)  (r0:LA→Option R) (a b c:Int):Option R:=(Vz N r0 a b (fun d e=>(Cc N r0 a b c N d e)) c)
def Ajn (N:Nat) (r0:LA→Option R) (q0:Int→Option R) (a b:Int):Option R :=
 (cond (decide (a<(0:Int))) (q0 (IntKind.wrap .u64 ((0:Int) - (IntKind.wrap .u64 a)))) (q0 (IntKind.wrap .u64 a)))
def Ajo (N:Nat) (a b:Int) (r0:LA→Option R):Option R:=(Ajn N r0 (fun c=>(Aaj N r0 a b c)) a b)
def H1:=(Al (@Ajo R)).1
theorem Amr:@H1 R=@Ajo R:=(Al _).2
def Pp:Hints:={ H:=(hS (hR [0,1,4]) (hS (hR [0,1,4,5]) (hJ (hS (hR [0,1,4,5,11]) (hN [0,1,4,5] (hR [0,1,4,5]) hL)) (hS (hR [0,1,4,5,6,7]) (hS (hN [0,1,4,5,6] (hN [0,1,4,5,6,7] (hS (hS (hR [0,1,4,5,6,7,18]) (hN [0,1,4,5,6,7] hL hL)) (hN [0,1,4,5,6,7] (hR [0,1,4,5,6,7]) hL)) hL) hL) (hS (hR [4]) hL)))))),nils:=[],modes:=[(3,0)],free:=[],cob:=[] }
def T3 (N:Nat):List (Nat×Tw):=[(149,Do N)]
def Ji (N:Nat):Env:=mkE 36 Pp (T3 N)
def Baa (N:Nat) (F:KF R):=As (Ji N) Tryz.f131 Pp.modes [] F
def Pq (N:Nat) (F:KF R):=atF (Ji N) [] N Tryz.f131 Pp (Baa N F)
def Fi  (F:KF R):LA→Option R:=(fun m=>F (.pagg m false) [])
def Hj (a b c d e:Int):St:={ s:=[(0,(.int .i64 a)),(1,(.int .i64 b)),(4,(.optr 300000 0)),(5,(.int .u64 c)),(6,(.int .u64 d)),(7,(.int .u64 e))],h:=[(300000,⟨false,false,false,false,0,[(.bool false),.nsl,.nsl],false⟩)] }
def Apo (N:Nat) (F:KF R):St→Option R:=Bx (Ji N) [] N (Pq N F [1,1,1,1,0,0] []) N
def Pr (N:Nat) (F:KF R) (n:Nat):St→Option R:=A9 (Ji N) [] N (Pq N F [1,1,1,1,0,0] []) n
def Ps (a b c:Int):St:={ s:=[(0,(.int .i64 a)),(1,(.int .i64 b)),(4,(.optr 300000 0)),(5,(.int .u64 c))],h:=[(300000,⟨false,false,false,false,0,[(.bool false),.nsl,.nsl],false⟩)] }
def App (N:Nat) (F:KF R):St→Option R:=Bh (Ji N) [] N (Pq N F [1,1,1] [])
def Apq (N:Nat) (F:KF R):St→Option R:=Bl (Ji N) [] N (Pq N F [1,1,1] [])
theorem A07 (N:Nat)  (F:KF R) (a b c:Int):∀ (n:Nat) (d e:Int),Pr N F n (Hj a b c d e)=(Cc N (Fi F) a b c n d e):=by
 intro n
 induction n with
 | zero=>intros;kernel_rfl
 | succ n ih =>
  intro d e
  have e0:=funext fun d=>funext fun e=>(show Pr N F n (Hj a b c d e)=_ from ih d e)
  have hK:Pr N F (n+1) (Hj a b c d e)=(I5 N (Fi F) a b c (fun d e=>Pr N F n (Hj a b c d e)) d e):=by kernel_rfl
  exact hK.trans (by rw [e0];rfl)
theorem A08 (N:Nat)  (F:KF R) (a b:Int):∀ (c:Int),Apq N F (Ps a b c)=(Aaj N (Fi F) a b c):=by
 intro c
 have e1:=funext fun d=>funext fun e=>(show Apo N F (Hj a b c d e)=_ from (Au ..).trans (A07 N F a b c N d e))
 have hK:Apq N F (Ps a b c)=(Vz N (Fi F) a b (fun d e=>Apo N F (Hj a b c d e)) c):=by kernel_rfl
 exact hK.trans (by rw [e1];rfl)
theorem Aak (N:Nat) (a b:Int) (F:KF R):Ac Tryz.prog muts (T3 N) Pp N 131 [(.int .i64 a),(.int .i64 b)] [] F=(H1 N a b (Fi F)):=by
 have e1:=funext fun c=>(show App N F (Ps a b c)=_ from (Aq ..).trans (A08 N F a b c))
 have hK:Ac Tryz.prog muts (T3 N) Pp N 131 [(.int .i64 a),(.int .i64 b)] [] F=(Ajn N (Fi F) (fun c=>App N F (Ps a b c)) a b):=by kernel_rfl
 rw [Amr]
 exact hK.trans (by rw [e1];rfl)
def Nd (N:Nat) (args:List AV) (h:Ak) (k:KF R):Option R :=
 match args,h with
 | [(.int .i64 a),(.int .i64 b)],[]=>(H1 N a b (Fi k))
 | _,_=>none
def Pt (N:Nat):Tw:=⟨Nd N,fun args h k=>by
 unfold Nd;split
 exact twE (Aak ..) (Aak ..)
 rfl⟩
theorem Aal (N:Nat):Az Tryz.prog 131 (Pt N):=fun args h res i hh=>by
 change Nd N args h (fun v i=>some (v,i))=_ at hh
 unfold Nd at hh;split at hh
 exact Aa (T:=T3 N) ⟨E2 N,trivial⟩ follows ((Aak ..).trans hh)
 cases hh
def Bdw (N:Nat) (r0:Nat→LA→Option R)  (b:LA) (c:Nat) (d a:Bool):Option R :=
 (Bv N b c d a (fun f e=>(cond ((decide ((0:Int)≤((e:Nat):Int)))&&((decide (((e:Nat):Int)≤((e:Nat):Int)))&&((decide (((e:Nat):Int)≤(140737488355328:Int)))&&(decide ((((e:Nat):Int)*((4:Nat):Int))≤(140737488355328:Int)))))) (cond ((!a)||(Bu f)) (r0 e (D9 (List.replicate e (.int .u32 0)) 0 (List.take ((min e e)*1) f))) none) none)))
def Bdx (N:Nat) (b:LA) (c:Nat) (d a:Bool) (r0:Nat→LA→Option R):Option R:=(Bdw N r0 b c d a)
def Xt:=(Al (@Bdx R)).1
theorem A8i:@Xt R=@Bdx R:=(Al _).2
def Bdy:Hints:={ H:=(hS (hR [0]) (hS (hR [0]) (hS (hR [0,3]) (hS (hR [3]) (hS (hR [2]) hL))))),nils:=[(2,1)],modes:=[(2,1)],free:=[],cob:=[] }
def A41 (N:Nat):List (Nat×Tw):=[(171,Ll N)]
def Ax0  (F:KF R):Nat→LA→Option R:=(fun i j=>F (.own 300000 0 i) [(300000,⟨false,false,true,false,1,j,false⟩)])
theorem Ax1 (N:Nat) (b:LA) (c:Nat) (d a:Bool) (F:KF R):Ac Tryz.prog muts (A41 N) Bdy N 173 [(.imm b c 1 d a)] [] F=(Xt N b c d a (Ax0 F)):=by
 have hK:Ac Tryz.prog muts (A41 N) Bdy N 173 [(.imm b c 1 d a)] [] F=(Bdw N (Ax0 F) b c d a):=by kernel_rfl
 rw [A8i]
 exact hK
def Acy (N:Nat) (args:List AV) (h:Ak) (k:KF R):Option R :=
 match args,h with
 | [(.imm b c 1 d a)],[]=>(Xt N b c d a (Ax0 k))
 | _,_=>none
def Aam (N:Nat):Tw:=⟨Acy N,fun args h k=>by
 unfold Acy;split
 exact twE (Ax1 ..) (Ax1 ..)
 rfl⟩
theorem Ajp (N:Nat):Az Tryz.prog 173 (Aam N):=fun args h res g hh=>by
 change Acy N args h (fun v g=>some (v,g))=_ at hh
 unfold Acy at hh;split at hh
 exact Aa (T:=A41 N) ⟨Ph N,trivial⟩ follows ((Ax1 ..).trans hh)
 cases hh
def Bdz (N:Nat) (r0:Bool→Nat→LA→Option R)  (a:LA) (b:Bool):Option R :=
 (rdB a fun f=>(rdL 1 (List.drop 1 a) fun g i=>(Xt N g i false b (fun c d=>(Hf N f c d (fun j=>(r0 j c d)))))))
def Bd0 (N:Nat) (a:LA) (b:Bool) (r0:Bool→Nat→LA→Option R):Option R:=(Bdz N r0 a b)
def A09:=(Al (@Bd0 R)).1
theorem A8j:@A09 R=@Bd0 R:=(Al _).2
def Bd1:Hints:={ H:=(hS (hR [1,2]) (hS (hR [2]) hL)),nils:=[],modes:=[],free:=[],cob:=[] }
def A42 (N:Nat):List (Nat×Tw):=[(173,Aam N),(148,Pe N)]
def Ax2  (F:KF R):Bool→Nat→LA→Option R:=(fun l m n=>F (.agg [(.bool l),(.own 300000 0 m)]) [(300000,⟨false,false,true,false,1,n,false⟩)])
theorem Ax3 (N:Nat) (a:LA) (b:Bool) (F:KF R):Ac Tryz.prog muts (A42 N) Bd1 N 172 [(.pagg a b)] [] F=(A09 N a b (Ax2 F)):=by
 have hK:Ac Tryz.prog muts (A42 N) Bd1 N 172 [(.pagg a b)] [] F=(Bdz N (Ax2 F) a b):=by kernel_rfl
 rw [A8j]
 exact hK
def Acz (N:Nat) (args:List AV) (h:Ak) (k:KF R):Option R :=
 match args,h with
 | [(.pagg a b)],[]=>(A09 N a b (Ax2 k))
 | _,_=>none
def Bd2 (N:Nat):Tw:=⟨Acz N,fun args h k=>by
 unfold Acz;split
 exact twE (Ax3 ..) (Ax3 ..)
 rfl⟩
theorem Bps (N:Nat):Az Tryz.prog 172 (Bd2 N):=fun args h res e hh=>by
 change Acz N args h (fun v e=>some (v,e))=_ at hh
 unfold Acz at hh;split at hh
 exact Aa (T:=A42 N) ⟨Ajp N,Xf N,trivial⟩ follows ((Ax3 ..).trans hh)
 cases hh
def Gs (N:Nat)  (r0:Int→Option R)    (a b:Int):Option R :=
 (cond (decide (a≥(256:Int))) (cond (Aj (IntKind.wrap .u8 (Int.fdiv a (2 ^ 8))) 256) (r0 (IntKind.wrap .i64 ((IntKind.wrap .i64 (b+(8:Int)))+(IntKind.wrap .i64 ((UInt8.toNat (List.getD ([0,1,2,2,3,3,3,3,4,4,4,4,4,4,4,4,5,5,5,5,5,5,5,5,5,5,5,5,5,5,5,5,6,6,6,6,6,6,6,6,6,6,6,6,6,6,6,6,6,6,6,6,6,6,6,6,6,6,6,6,6,6,6,6,7,7,7,7,7,7,7,7,7,7,7,7,7,7,7,7,7,7,7,7,7,7,7,7,7,7,7,7,7,7,7,7,7,7,7,7,7,7,7,7,7,7,7,7,7,7,7,7,7,7,7,7,7,7,7,7,7,7,7,7,7,7,7,7,8,8,8,8,8,8,8,8,8,8,8,8,8,8,8,8,8,8,8,8,8,8,8,8,8,8,8,8,8,8,8,8,8,8,8,8,8,8,8,8,8,8,8,8,8,8,8,8,8,8,8,8,8,8,8,8,8,8,8,8,8,8,8,8,8,8,8,8,8,8,8,8,8,8,8,8,8,8,8,8,8,8,8,8,8,8,8,8,8,8,8,8,8,8,8,8,8,8,8,8,8,8,8,8,8,8,8,8,8,8,8,8,8,8,8,8,8,8,8,8,8,8,8,8,8,8,8,8]:List UInt8) (Int.toNat (IntKind.wrap .u8 (Int.fdiv a (2 ^ 8)))) 0):Nat):Int))))) none) (cond (Aj (IntKind.wrap .u8 a) 256) (r0 (IntKind.wrap .i64 (b+(IntKind.wrap .i64 ((UInt8.toNat (List.getD ([0,1,2,2,3,3,3,3,4,4,4,4,4,4,4,4,5,5,5,5,5,5,5,5,5,5,5,5,5,5,5,5,6,6,6,6,6,6,6,6,6,6,6,6,6,6,6,6,6,6,6,6,6,6,6,6,6,6,6,6,6,6,6,6,7,7,7,7,7,7,7,7,7,7,7,7,7,7,7,7,7,7,7,7,7,7,7,7,7,7,7,7,7,7,7,7,7,7,7,7,7,7,7,7,7,7,7,7,7,7,7,7,7,7,7,7,7,7,7,7,7,7,7,7,7,7,7,7,8,8,8,8,8,8,8,8,8,8,8,8,8,8,8,8,8,8,8,8,8,8,8,8,8,8,8,8,8,8,8,8,8,8,8,8,8,8,8,8,8,8,8,8,8,8,8,8,8,8,8,8,8,8,8,8,8,8,8,8,8,8,8,8,8,8,8,8,8,8,8,8,8,8,8,8,8,8,8,8,8,8,8,8,8,8,8,8,8,8,8,8,8,8,8,8,8,8,8,8,8,8,8,8,8,8,8,8,8,8,8,8,8,8,8,8,8,8,8,8,8,8,8,8,8,8,8,8]:List UInt8) (Int.toNat (IntKind.wrap .u8 a)) 0):Nat):Int))))) none))
def Fj (N:Nat)  (r0:Int→Option R)  (a b:Int):Option R:=(Gs N r0 a b)
def R6 (N:Nat) (r0:Int→Option R) (q0:Int→Int→Option R) (c:Int):Option R :=
 (cond (decide (c≥(65536:Int))) (q0 (Int.fdiv c (2 ^ 16)) 16) (q0 c 0))
def R7 (N:Nat) (c:Int) (r0:Int→Option R):Option R:=(R6 N r0 (fun a b=>(Fj N r0 a b)) c)
def I6:=(Al (@R7 R)).1
theorem Wj:@I6 R=@R7 R:=(Al _).2
def Ii:Hints:={ H:=(hS (hR [0,2]) (hJ (hS (hR [0,2,4]) (hN [0,2] (hS (hR [0]) (hR [0,2])) hL)) (hS (hS (hR [0,2,8]) (hN [0,2] (hS (hR [0,2]) (hR [0,2])) hL)) (hS (hR [2]) hL)))),nils:=[],modes:=[],free:=[],cob:=[] }
def Jx (N:Nat):List (Nat×Tw):=[]
def Jy (N:Nat):Env:=mkE 19 Ii (Jx N)
def At8 (N:Nat) (F:KF R):=As (Jy N) Tryz.f205 Ii.modes [] F
def Aan (N:Nat) (F:KF R):=atF (Jy N) [] N Tryz.f205 Ii (At8 N F)
def Fk  (F:KF R):Int→Option R:=(fun e=>F (.int .i64 e) [])
def Ij (a b:Int):St:={ s:=[(0,(.int .u32 a)),(2,(.int .i64 b))],h:=[] }
def Aao (N:Nat) (F:KF R):St→Option R:=Bh (Jy N) [] N (Aan N F [1,1] [])
def Aap (N:Nat) (F:KF R):St→Option R:=Bl (Jy N) [] N (Aan N F [1,1] [])
theorem Anj (N:Nat)  (F:KF R) :∀ (a b:Int),Aap N F (Ij a b)=(Fj N (Fk F) a b):=by
 intro a b
 have hK:Aap N F (Ij a b)=(Gs N (Fk F) a b):=by kernel_rfl
 exact hK
theorem N8 (N:Nat) (c:Int) (F:KF R):Ac Tryz.prog muts (Jx N) Ii N 205 [(.int .u32 c)] [] F=(I6 N c (Fk F)):=by
 have e1:=funext fun a=>funext fun b=>(show Aao N F (Ij a b)=_ from (Aq ..).trans (Anj N F a b))
 have hK:Ac Tryz.prog muts (Jx N) Ii N 205 [(.int .u32 c)] [] F=(R6 N (Fk F) (fun a b=>Aao N F (Ij a b)) c):=by kernel_rfl
 rw [Wj]
 exact hK.trans (by rw [e1];rfl)
def Gt (N:Nat) (args:List AV) (h:Ak) (k:KF R):Option R :=
 match args,h with
 | [(.int .u32 c)],[]=>(I6 N c (Fk k))
 | _,_=>none
def Aaq (N:Nat):Tw:=⟨Gt N,fun args h k=>by
 unfold Gt;split
 exact twE (N8 ..) (N8 ..)
 rfl⟩
theorem Ax4 (N:Nat):Az Tryz.prog 205 (Aaq N):=fun args h res d hh=>by
 change Gt N args h (fun v d=>some (v,d))=_ at hh
 unfold Gt at hh;split at hh
 exact Aa (T:=Jx N) trivial follows ((N8 ..).trans hh)
 cases hh
def Fv (N:Nat) (r0:Int→Option R)  (a:Int):Option R :=
 (I6 N a (fun c=>(r0 (IntKind.wrap .i64 ((32:Int) - c)))))
def Fw (N:Nat) (a:Int) (r0:Int→Option R):Option R:=(Fv N r0 a)
def Bq:=(Al (@Fw R)).1
theorem I7:@Bq R=@Fw R:=(Al _).2
def Jz:Hints:={ H:=(hS (hR [0]) (hS (hR [2]) hL)),nils:=[],modes:=[],free:=[],cob:=[] }
def Fl (N:Nat):List (Nat×Tw):=[(205,Aaq N)]
def El  (F:KF R):Int→Option R:=(fun d=>F (.int .i64 d) [])
theorem Em (N:Nat) (a:Int) (F:KF R):Ac Tryz.prog muts (Fl N) Jz N 200 [(.int .u32 a)] [] F=(Bq N a (El F)):=by
 have hK:Ac Tryz.prog muts (Fl N) Jz N 200 [(.int .u32 a)] [] F=(Fv N (El F) a):=by kernel_rfl
 rw [I7]
 exact hK
def Cw (N:Nat) (args:List AV) (h:Ak) (k:KF R):Option R :=
 match args,h with
 | [(.int .u32 a)],[]=>(Bq N a (El k))
 | _,_=>none
def En (N:Nat):Tw:=⟨Cw N,fun args h k=>by
 unfold Cw;split
 exact twE (Em ..) (Em ..)
 rfl⟩
theorem J3 (N:Nat):Az Tryz.prog 200 (En N):=fun args h res b hh=>by
 change Cw N args h (fun v b=>some (v,b))=_ at hh
 unfold Cw at hh;split at hh
 exact Aa (T:=Fl N) ⟨Ax4 N,trivial⟩ follows ((Em ..).trans hh)
 cases hh
def Ae9 (N:Nat) (r0:Int→Option R)  (e:Int) (b:LA) (a:Nat) (c d:Bool):Option R :=
 (cond (decide (e<((a:Nat):Int))) (cond (Aj e a) (rdI .u32 (List.drop ((Int.toNat e)*1) b) fun g=>(r0 (IntKind.wrap .u64 g))) none) (r0 0))
def Afa (N:Nat) (e:Int) (b:LA) (a:Nat) (c d:Bool) (r0:Int→Option R):Option R:=(Ae9 N r0 e b a c d)
def Ik:=(Al (@Afa R)).1
theorem Agq:@Ik R=@Afa R:=(Al _).2
def Ams:Hints:={ H:=(hS (hR [0,1]) (hS (hS (hR [0,1,7]) (hS (hS (hR [3]) hL) hL)) (hS (hR [3]) hL))),nils:=[],modes:=[],free:=[],cob:=[] }
def Aar (N:Nat):List (Nat×Tw):=[]
def V0 (b:LA) (a:Nat) (c d:Bool) (F:KF R):Int→Option R:=(fun i=>F (.int .u64 i) [(100000,⟨false,false,false,false,0,[(.imm b a 1 c d)],false⟩)])
theorem V1 (N:Nat) (e:Int) (b:LA) (a:Nat) (c d:Bool) (F:KF R):Ac Tryz.prog muts (Aar N) Ams N 206 [(.int .i64 e),(.optr 100000 0)] [(100000,⟨false,false,false,false,0,[(.imm b a 1 c d)],false⟩)] F=(Ik N e b a c d (V0 b a c d F)):=by
 have hK:Ac Tryz.prog muts (Aar N) Ams N 206 [(.int .i64 e),(.optr 100000 0)] [(100000,⟨false,false,false,false,0,[(.imm b a 1 c d)],false⟩)] F=(Ae9 N (V0 b a c d F) e b a c d):=by kernel_rfl
 rw [Agq]
 exact hK
def Lp (N:Nat) (args:List AV) (h:Ak) (k:KF R):Option R :=
 match args,h with
 | [(.int .i64 e),(.optr 100000 0)],[(100000,⟨false,false,false,false,0,[(.imm b a 1 c d)],false⟩)]=>(Ik N e b a c d (V0 b a c d k))
 | _,_=>none
def Amt (N:Nat):Tw:=⟨Lp N,fun args h k=>by
 unfold Lp;split
 exact twE (V1 ..) (V1 ..)
 rfl⟩
theorem Bab (N:Nat):Az Tryz.prog 206 (Amt N):=fun args h res f hh=>by
 change Lp N args h (fun v f=>some (v,f))=_ at hh
 unfold Lp at hh;split at hh
 exact Aa (T:=Aar N) trivial follows ((V1 ..).trans hh)
 cases hh
def Ax5 (N:Nat) (r0:Int→Option R)  (b:LA) (c:Nat) (d e:Bool) (f a:Int):Option R :=
 (Ik N (IntKind.wrap .i64 (f - (1:Int))) b c d e (fun i=>(Ik N (IntKind.wrap .i64 (f - (2:Int))) b c d e (fun j=>(cond (decide (a<(0:Int))) none (Ik N (IntKind.wrap .i64 (f - (3:Int))) b c d e (fun l=>(cond (decide ((IntKind.wrap .i64 ((32:Int) - a))<(0:Int))) none (r0 (Of .u64 (IntKind.wrap .u64 ((Of .u64 (IntKind.wrap .u64 (i*2 ^ 32)) j)*2 ^ (min (Int.toNat a) 64))) (Int.fdiv l (2 ^ (min (Int.toNat (IntKind.wrap .i64 ((32:Int) - a))) 64)))))))))))))
def Ax6 (N:Nat) (b:LA) (c:Nat) (d e:Bool) (f a:Int) (r0:Int→Option R):Option R:=(Ax5 N r0 b c d e f a)
def Yx:=(Al (@Ax6 R)).1
theorem Avh:@Yx R=@Ax6 R:=(Al _).2
def A1a:Hints:={ H:=(hS (hR [1,2,3]) (hS (hR [1,2,7]) (hS (hR [6]) hL))),nils:=[],modes:=[],free:=[],cob:=[] }
def Apr (N:Nat):List (Nat×Tw):=[(206,Amt N)]
def Ajq  (F:KF R):Int→Option R:=(fun m=>F (.int .u64 m) [])
theorem Ajr (N:Nat) (b:LA) (c:Nat) (d e:Bool) (f a:Int) (F:KF R):Ac Tryz.prog muts (Apr N) A1a N 201 [(.imm b c 1 d e),(.int .i64 f),(.int .i64 a)] [] F=(Yx N b c d e f a (Ajq F)):=by
 have hK:Ac Tryz.prog muts (Apr N) A1a N 201 [(.imm b c 1 d e),(.int .i64 f),(.int .i64 a)] [] F=(Ax5 N (Ajq F) b c d e f a):=by kernel_rfl
 rw [Avh]
 exact hK
def T4 (N:Nat) (args:List AV) (h:Ak) (k:KF R):Option R :=
 match args,h with
 | [(.imm b c 1 d e),(.int .i64 f),(.int .i64 a)],[]=>(Yx N b c d e f a (Ajq k))
 | _,_=>none
def A1b (N:Nat):Tw:=⟨T4 N,fun args h k=>by
 unfold T4;split
 exact twE (Ajr ..) (Ajr ..)
 rfl⟩
theorem Bli (N:Nat):Az Tryz.prog 201 (A1b N):=fun args h res g hh=>by
 change T4 N args h (fun v g=>some (v,g))=_ at hh
 unfold T4 at hh;split at hh
 exact Aa (T:=Apr N) ⟨Bab N,trivial⟩ follows ((Ajr ..).trans hh)
 cases hh
def Aas (N:Nat) (k0:Int→Int→Int→Int→Int→Int→Int→Int→Bool→Option R) (r0:LA→Option R)    (m l o p q r:Int) (t:Bool):Option R :=
 (cond (l==(0:Int)) none (cond (l==(0:Int)) none (k0 l (Int.tmod m l) o p (IntKind.wrap .u64 (o+(IntKind.wrap .u64 ((IntKind.wrap .u64 (Int.tdiv m l))*p)))) q r (IntKind.wrap .u64 (q+(IntKind.wrap .u64 ((IntKind.wrap .u64 (Int.tdiv m l))*r)))) (!t))))
def T5 (N:Nat) (k0:Int→Int→Int→Int→Int→Int→Int→Int→Bool→Option R) (r0:LA→Option R)  (m l o p q r:Int) (t:Bool):Option R:=(Aas N k0 r0 m l o p q r t)
def Hk (N:Nat)  (r0:LA→Option R)  (k0:Int→Int→Int→Int→Int→Int→Int→Int→Bool→Option R) (q1:Int→Int→Int→Int→Int→Int→Bool→Option R) (f b g c j i a d:Int) (e:Bool):Option R :=
 (cond ((decide (b≥d))==true) (cond (cond true (decide ((IntKind.wrap .u64 (f - b))≥(IntKind.wrap .u64 (a+d)))) false) (q1 f b c j a d e) (r0 [(.int .u64 g),(.int .u64 c),(.int .u64 i),(.int .u64 a),(.bool e)])) (r0 [(.int .u64 g),(.int .u64 c),(.int .u64 i),(.int .u64 a),(.bool e)]))
def C8 (N:Nat)  (r0:LA→Option R) :Nat→Int→Int→Int→Int→Int→Int→Int→Int→Bool→Option R
 | 0,_,_,_,_,_,_,_,_,_=>none
 | n+1,f,b,g,c,j,i,a,d,e=>(Hk N r0 (C8 N r0 n) (fun m l o p q r t=>(T5 N (C8 N r0 n) r0 m l o p q r t)) f b g c j i a d e)
def Aps (N:Nat) (r0:LA→Option R) (q0:Int→Int→Int→Int→Int→Int→Int→Int→Bool→Option R) (w:LA) (u:Nat) (ab x:Bool) (y:LA) (z:Nat) (ac aa:Bool):Option R :=
 (cond (Aj (IntKind.wrap .i64 (((u:Nat):Int) - (1:Int))) u) (rdI .u32 (List.drop ((Int.toNat (IntKind.wrap .i64 (((u:Nat):Int) - (1:Int))))*1) w) fun af=>(Bq N af (fun ad=>(Yx N w u false x ((u:Nat):Int) ad (fun ag=>(Yx N y z false aa ((u:Nat):Int) ad (fun ah=>(q0 ag ah 0 1 0 0 0 1 false)))))))) none)
def Apt (N:Nat) (w:LA) (u:Nat) (ab x:Bool) (y:LA) (z:Nat) (ac aa:Bool) (r0:LA→Option R):Option R:=(Aps N r0 (fun f b g c j i a d e=>(C8 N r0 N f b g c j i a d e)) w u ab x y z ac aa)
def Aat:=(Al (@Apt R)).1
theorem Apu:@Aat R=@Apt R:=(Al _).2
def T6:Hints:={ H:=(hS (hR [0,1,4]) (hS (hR [0,1,4,5]) (hS (hR [0,1,4,5,6]) (hS (hR [4,7,8]) (hS (hR [4,7,8,9,10,11]) (hS (hR [4,7,8,9,10,11,12,13,14]) (hS (hR [4,7,8,9,10,11,12,13,14,15]) (hS (hN [4,9,10,12,13,15] (hN [4,7,8,9,10,11,12,13,14,15] (hJ (hS (hR [4,7,8,9,10,11,12,13,14,15,44]) (hN [4,7,8,10,11,13,14,15] hL hL)) (hN [4,7,8,9,10,11,12,13,14,15] (hS (hR [4,7,8,10,11,13,14,15,16]) (hS (hR [4,7,8,10,11,13,14,15,16]) (hS (hR [4,7,8,9,10,11,13,14,15,16]) (hS (hR [4,7,8,9,10,11,12,13,14,15]) (hR [4,7,8,9,10,11,12,13,14,15]))))) hL)) hL) hL) (hS (hR [4]) hL))))))))),nils:=[],modes:=[(3,0)],free:=[],cob:=[] }
def Xu (N:Nat):List (Nat×Tw):=[(200,En N),(201,A1b N)]
def Lq (N:Nat):Env:=mkE 74 T6 (Xu N)
def Bd3 (N:Nat) (F:KF R):=As (Lq N) Tryz.f195 T6.modes [] F
def T7 (N:Nat) (F:KF R):=atF (Lq N) [] N Tryz.f195 T6 (Bd3 N F)
def Dw  (F:KF R):LA→Option R:=(fun ai=>F (.pagg ai false) [])
def T8 (m l o p q r:Int) (t:Bool):St:={ s:=[(4,(.optr 300000 0)),(7,(.int .u64 m)),(8,(.int .u64 l)),(10,(.int .u64 o)),(11,(.int .u64 p)),(13,(.int .u64 q)),(14,(.int .u64 r)),(15,(.bool t))],h:=[(300000,⟨false,false,true,false,0,[(.int .u64 0),(.int .u64 0),(.int .u64 0),(.int .u64 0),(.bool false)],false⟩)] }
def Avi (N:Nat) (F:KF R) (Q0:St→Option R):St→Option R:=Bh (Lq N) [] N (T7 N F [1,1,1,1,1,1,1,0,0,0,1] [Q0])
def Avj (N:Nat) (F:KF R) (Q0:St→Option R):St→Option R:=Bl (Lq N) [] N (T7 N F [1,1,1,1,1,1,1,0,0,0,1] [Q0])
def Eu (f b g c j i a d:Int) (e:Bool):St:={ s:=[(4,(.optr 300000 0)),(7,(.int .u64 f)),(8,(.int .u64 b)),(9,(.int .u64 g)),(10,(.int .u64 c)),(11,(.int .u64 j)),(12,(.int .u64 i)),(13,(.int .u64 a)),(14,(.int .u64 d)),(15,(.bool e))],h:=[(300000,⟨false,false,true,false,0,[(.int .u64 0),(.int .u64 0),(.int .u64 0),(.int .u64 0),(.bool false)],false⟩)] }
def Avk (N:Nat) (F:KF R):St→Option R:=Bx (Lq N) [] N (T7 N F [1,1,1,1,1,1,1,0,0] []) N
def Gk (N:Nat) (F:KF R) (n:Nat):St→Option R:=A9 (Lq N) [] N (T7 N F [1,1,1,1,1,1,1,0,0] []) n
theorem A43 (N:Nat) (Q0:St→Option R) (F:KF R) :∀ (m l o p q r:Int) (t:Bool),Avj N F Q0 (T8 m l o p q r t)=(T5 N (fun f b g c j i a d e=>Q0 (Eu f b g c j i a d e)) (Dw F) m l o p q r t):=by
 intro m l o p q r t
 have hK:Avj N F Q0 (T8 m l o p q r t)=(Aas N (fun f b g c j i a d e=>Q0 (Eu f b g c j i a d e)) (Dw F) m l o p q r t):=by kernel_rfl
 exact hK
theorem A44 (N:Nat)  (F:KF R) :∀ (n:Nat) (f b g c j i a d:Int) (e:Bool),Gk N F n (Eu f b g c j i a d e)=(C8 N (Dw F) n f b g c j i a d e):=by
 intro n
 induction n with
 | zero=>intros;kernel_rfl
 | succ n ih =>
  intro f b g c j i a d e
  have e0:=funext fun f=>funext fun b=>funext fun g=>funext fun c=>funext fun j=>funext fun i=>funext fun a=>funext fun d=>funext fun e=>(show Gk N F n (Eu f b g c j i a d e)=_ from ih f b g c j i a d e)
  have e1:(fun m l o p q r t=>Avi N F (Gk N F n) (T8 m l o p q r t))=(fun m l o p q r t=>(T5 N (C8 N (Dw F) n) (Dw F) m l o p q r t)):=by funext m;funext l;funext o;funext p;funext q;funext r;funext t;exact ((Aq ..).trans (A43 N (Gk N F n) F m l o p q r t)).trans (by rw [e0])
  have hK:Gk N F (n+1) (Eu f b g c j i a d e)=(Hk N (Dw F) (fun f b g c j i a d e=>Gk N F n (Eu f b g c j i a d e)) (fun m l o p q r t=>Avi N F (Gk N F n) (T8 m l o p q r t)) f b g c j i a d e):=by kernel_rfl
  exact hK.trans (by rw [e0,e1];rfl)
theorem Afb (N:Nat) (w:LA) (u:Nat) (ab x:Bool) (y:LA) (z:Nat) (ac aa:Bool) (F:KF R):Ac Tryz.prog muts (Xu N) T6 N 195 [(.imm w u 1 ab x),(.imm y z 1 ac aa)] [] F=(Aat N w u ab x y z ac aa (Dw F)):=by
 have e1:=funext fun f=>funext fun b=>funext fun g=>funext fun c=>funext fun j=>funext fun i=>funext fun a=>funext fun d=>funext fun e=>(show Avk N F (Eu f b g c j i a d e)=_ from (Au ..).trans (A44 N F N f b g c j i a d e))
 have hK:Ac Tryz.prog muts (Xu N) T6 N 195 [(.imm w u 1 ab x),(.imm y z 1 ac aa)] [] F=(Aps N (Dw F) (fun f b g c j i a d e=>Avk N F (Eu f b g c j i a d e)) w u ab x y z ac aa):=by kernel_rfl
 rw [Apu]
 exact hK.trans (by rw [e1];rfl)
def Pu (N:Nat) (args:List AV) (h:Ak) (k:KF R):Option R :=
 match args,h with
 | [(.imm w u 1 ab x),(.imm y z 1 ac aa)],[]=>(Aat N w u ab x y z ac aa (Dw k))
 | _,_=>none
def Avl (N:Nat):Tw:=⟨Pu N,fun args h k=>by
 unfold Pu;split
 exact twE (Afb ..) (Afb ..)
 rfl⟩
theorem Bhn (N:Nat):Az Tryz.prog 195 (Avl N):=fun args h res ae hh=>by
 change Pu N args h (fun v ae=>some (v,ae))=_ at hh
 unfold Pu at hh;split at hh
 exact Aa (T:=Xu N) ⟨J3 N,Bli N,trivial⟩ follows ((Afb ..).trans hh)
 cases hh
def Gu (N:Nat)  (r0:Nat→Nat→LA→LA→Option R) (d:LA) (a:Nat) (e f:Bool) (b:Int) (k0:Int→Int→LA→Option R)  (i c:Int) (g:LA):Option R :=
 (cond (decide (c≥(0:Int))) (cond (Aj c a) (rdI .u32 (List.drop ((Int.toNat c)*1) d) fun j=>(cond ((IntKind.wrap .u64 b)==(0:Int)) none (cond (Aj c a) (cond ((Nat.beq 1 1)&&((Nat.ble ((0+((Int.toNat c)*1))+1) (List.length g))&&(!false))) (cond ((IntKind.wrap .u64 b)==(0:Int)) none (k0 (Int.tmod (Of .u64 (IntKind.wrap .u64 (i*2 ^ 32)) (IntKind.wrap .u64 j)) (IntKind.wrap .u64 b)) (IntKind.wrap .i64 (c - (1:Int))) (List.set g (0+((Int.toNat c)*1)) (.int .u32 (IntKind.wrap .u32 (IntKind.wrap .u64 (Int.tdiv (Of .u64 (IntKind.wrap .u64 (i*2 ^ 32)) (IntKind.wrap .u64 j)) (IntKind.wrap .u64 b)))))))) none) none))) none) (Vw N a g (fun m=>(Bj N i (fun o p=>(r0 m o g p))))))
def Dp (N:Nat)  (r0:Nat→Nat→LA→LA→Option R) (d:LA) (a:Nat) (e f:Bool) (b:Int):Nat→Int→Int→LA→Option R
 | 0,_,_,_=>none
 | n+1,i,c,g=>(Gu N r0 d a e f b (Dp N r0 d a e f b n) i c g)
def R8 (N:Nat) (r0:Nat→Nat→LA→LA→Option R) (q0:Int→Int→LA→Option R) (d:LA) (a:Nat) (e f:Bool) (b:Int):Option R :=
 (cond ((decide ((0:Int)≤((a:Nat):Int)))&&((decide (((a:Nat):Int)≤((a:Nat):Int)))&&((decide (((a:Nat):Int)≤(140737488355328:Int)))&&(decide ((((a:Nat):Int)*((4:Nat):Int))≤(140737488355328:Int)))))) (q0 0 (IntKind.wrap .i64 (((a:Nat):Int) - (1:Int))) (List.replicate a (.int .u32 0))) none)
def R9 (N:Nat) (d:LA) (a:Nat) (e f:Bool) (b:Int) (r0:Nat→Nat→LA→LA→Option R):Option R:=(R8 N r0 (fun i c g=>(Dp N r0 d a e f b N i c g)) d a e f b)
def Fz:=(Al (@R9 R)).1
theorem Wk:@Fz R=@R9 R:=(Al _).2
def Il:Hints:={ H:=(hS (hR [0,1]) (hS (hR [0,1,4]) (hS (hR [0,1,4,6]) (hS (hS (hR [0,1,4,6,7]) (hN [4,6] (hN [0,1,4,6,7] (hS (hS (hR [0,1,4,6,7,15]) (hN [0,1,4,6,7] hL hL)) (hS (hN [0,1,4,6,7] (hS (hR [0,1,4,6,7]) (hS (hR [0,1,4,6,7]) (hR [0,1,4,6,7]))) hL) (hR [0,1,4,6,7]))) hL) hL)) (hS (hR [4,5]) hL))))),nils:=[(4,1),(5,1)],modes:=[(2,1),(2,1)],free:=[],cob:=[] }
def J4 (N:Nat):List (Nat×Tw):=[(171,Asz N),(149,Do N)]
def J5 (N:Nat):Env:=mkE 42 Il (J4 N)
def At9 (N:Nat) (F:KF R):=As (J5 N) Tryz.f197 Il.modes [] F
def Aau (N:Nat) (F:KF R):=atF (J5 N) [] N Tryz.f197 Il (At9 N F)
def Fm  (F:KF R):Nat→Nat→LA→LA→Option R:=(fun q r t u=>F (.tup [(.own 300000 0 q),(.own 300001 0 r)]) [(300000,⟨false,false,true,false,1,t,false⟩),(300001,⟨false,false,true,false,1,u,false⟩)])
def Dq (d:LA) (a:Nat) (e f:Bool) (b i c:Int) (g:LA):St:={ s:=[(0,(.imm d a 1 e f)),(1,(.int .u32 b)),(4,(.own 300000 0 a)),(6,(.int .u64 i)),(7,(.int .i64 c))],h:=[(300000,⟨false,false,true,false,1,g,false⟩)] }
def Aav (N:Nat) (F:KF R):St→Option R:=Bx (J5 N) [] N (Aau N F [1,1,1,0,1,0] []) N
def Im (N:Nat) (F:KF R) (n:Nat):St→Option R:=A9 (J5 N) [] N (Aau N F [1,1,1,0,1,0] []) n
theorem Ank (N:Nat)  (F:KF R) (d:LA) (a:Nat) (e f:Bool) (b:Int):∀ (n:Nat) (i c:Int) (g:LA),Im N F n (Dq d a e f b i c g)=(Dp N (Fm F) d a e f b n i c g):=by
 intro n
 induction n with
 | zero=>intros;kernel_rfl
 | succ n ih =>
  intro i c g
  have e0:=funext fun i=>funext fun c=>funext fun g=>(show Im N F n (Dq d a e f b i c g)=_ from ih i c g)
  have hK:Im N F (n+1) (Dq d a e f b i c g)=(Gu N (Fm F) d a e f b (fun i c g=>Im N F n (Dq d a e f b i c g)) i c g):=by kernel_rfl
  exact hK.trans (by rw [e0];rfl)
theorem N9 (N:Nat) (d:LA) (a:Nat) (e f:Bool) (b:Int) (F:KF R):Ac Tryz.prog muts (J4 N) Il N 197 [(.imm d a 1 e f),(.int .u32 b)] [] F=(Fz N d a e f b (Fm F)):=by
 have e1:=funext fun i=>funext fun c=>funext fun g=>(show Aav N F (Dq d a e f b i c g)=_ from (Au ..).trans (Ank N F d a e f b N i c g))
 have hK:Ac Tryz.prog muts (J4 N) Il N 197 [(.imm d a 1 e f),(.int .u32 b)] [] F=(R8 N (Fm F) (fun i c g=>Aav N F (Dq d a e f b i c g)) d a e f b):=by kernel_rfl
 rw [Wk]
 exact hK.trans (by rw [e1];rfl)
def Gv (N:Nat) (args:List AV) (h:Ak) (k:KF R):Option R :=
 match args,h with
 | [(.imm d a 1 e f),(.int .u32 b)],[]=>(Fz N d a e f b (Fm k))
 | _,_=>none
def Aaw (N:Nat):Tw:=⟨Gv N,fun args h k=>by
 unfold Gv;split
 exact twE (N9 ..) (N9 ..)
 rfl⟩
theorem Ax7 (N:Nat):Az Tryz.prog 197 (Aaw N):=fun args h res l hh=>by
 change Gv N args h (fun v l=>some (v,l))=_ at hh
 unfold Gv at hh;split at hh
 exact Aa (T:=J4 N) ⟨A4q N,E2 N,trivial⟩ follows ((N9 ..).trans hh)
 cases hh
def Pv (N:Nat)  (r0:Nat→LA→Option R) (d:LA) (a:Nat) (e f:Bool) (b:Int) (k0:Nat→Int→Int→Int→LA→Option R)  (g:Nat) (j l c:Int) (i:LA):Option R :=
 (cond (decide (c<l)) (cond (Aj c a) (rdI .u32 (List.drop ((Int.toNat c)*1) d) fun m=>(cond (decide (b<(0:Int))) none (cond (Aj c g) (cond ((Nat.beq 1 1)&&((Nat.ble ((0+((Int.toNat c)*1))+1) (List.length i))&&(!false))) (k0 g (Int.fdiv (Of .u64 j (IntKind.wrap .u64 ((IntKind.wrap .u64 m)*2 ^ (min (Int.toNat b) 64)))) (2 ^ 32)) l (IntKind.wrap .i64 (c+(1:Int))) (List.set i (0+((Int.toNat c)*1)) (.int .u32 (IntKind.wrap .u32 (Of .u64 j (IntKind.wrap .u64 ((IntKind.wrap .u64 m)*2 ^ (min (Int.toNat b) 64)))))))) none) none))) none) (cond (Aj ((a:Nat):Int) g) (cond ((Nat.beq 1 1)&&((Nat.ble ((0+(a*1))+1) (List.length i))&&(!false))) (r0 g (List.set i (0+(a*1)) (.int .u32 (IntKind.wrap .u32 j)))) none) none))
def Jj (N:Nat)  (r0:Nat→LA→Option R) (d:LA) (a:Nat) (e f:Bool) (b:Int):Nat→Nat→Int→Int→Int→LA→Option R
 | 0,_,_,_,_,_=>none
 | n+1,g,j,l,c,i=>(Pv N r0 d a e f b (Jj N r0 d a e f b n) g j l c i)
def Apv (N:Nat) (r0:Nat→LA→Option R) (q0:Nat→Int→Int→Int→LA→Option R) (d:LA) (a:Nat) (e f:Bool) (b:Int):Option R :=
 (cond ((decide ((0:Int)≤(IntKind.wrap .i64 (((a:Nat):Int)+(1:Int)))))&&((decide ((IntKind.wrap .i64 (((a:Nat):Int)+(1:Int)))≤(IntKind.wrap .i64 (((a:Nat):Int)+(1:Int)))))&&((decide ((IntKind.wrap .i64 (((a:Nat):Int)+(1:Int)))≤(140737488355328:Int)))&&(decide (((IntKind.wrap .i64 (((a:Nat):Int)+(1:Int)))*((4:Nat):Int))≤(140737488355328:Int)))))) (q0 (Int.toNat (IntKind.wrap .i64 (((a:Nat):Int)+(1:Int)))) 0 ((a:Nat):Int) 0 (List.replicate (Int.toNat (IntKind.wrap .i64 (((a:Nat):Int)+(1:Int)))) (.int .u32 0))) none)
def Apw (N:Nat) (d:LA) (a:Nat) (e f:Bool) (b:Int) (r0:Nat→LA→Option R):Option R:=(Apv N r0 (fun g j l c i=>(Jj N r0 d a e f b N g j l c i)) d a e f b)
def Sa:=(Al (@Apw R)).1
theorem Apx:@Sa R=@Apw R:=(Al _).2
def T9:Hints:={ H:=(hS (hR [0,1]) (hS (hR [0,1,5]) (hS (hR [0,1,5,6]) (hS (hS (hR [0,1,5,6,13,14,15]) (hN [0,5,6] (hN [0,1,5,6,13,14,15] (hS (hR [0,1,5,6,13,14,15,16]) (hS (hN [0,1,5,6,13,14,15] hL hL) (hS (hN [0,1,5,6,13,14,15] (hS (hR [0,1,5,6,7,8,13,14,15]) (hS (hR [0,1,5,6,7,13,14,15]) (hS (hR [0,1,5,6,13,14,15]) (hR [0,1,5,6,13,14,15])))) hL) (hR [0,1,5,6,13,14,15])))) hL) hL)) (hS (hR [5]) (hS (hR [4]) hL)))))),nils:=[(4,1)],modes:=[(2,1)],free:=[],cob:=[] }
def Xv (N:Nat):List (Nat×Tw):=[]
def Xw (N:Nat):Env:=mkE 41 T9 (Xv N)
def Bd4 (N:Nat) (F:KF R):=As (Xw N) Tryz.f202 T9.modes [] F
def Avm (N:Nat) (F:KF R):=atF (Xw N) [] N Tryz.f202 T9 (Bd4 N F)
def Mw  (F:KF R):Nat→LA→Option R:=(fun p q=>F (.own 300000 0 p) [(300000,⟨false,false,true,false,1,q,false⟩)])
def Jk (d:LA) (a:Nat) (e f:Bool) (b:Int) (g:Nat) (j l c:Int) (i:LA):St:={ s:=[(0,(.imm d a 1 e f)),(1,(.int .i64 b)),(5,(.own 300000 0 g)),(6,(.int .u64 j)),(13,(.imm d a 1 e f)),(14,(.int .i64 l)),(15,(.int .i64 c))],h:=[(300000,⟨false,false,true,false,1,i,false⟩)] }
def Avn (N:Nat) (F:KF R):St→Option R:=Bx (Xw N) [] N (Avm N F [1,1,1,0,1,0] []) N
def Ua (N:Nat) (F:KF R) (n:Nat):St→Option R:=A9 (Xw N) [] N (Avm N F [1,1,1,0,1,0] []) n
theorem A45 (N:Nat)  (F:KF R) (d:LA) (a:Nat) (e f:Bool) (b:Int):∀ (n g:Nat) (j l c:Int) (i:LA),Ua N F n (Jk d a e f b g j l c i)=(Jj N (Mw F) d a e f b n g j l c i):=by
 intro n
 induction n with
 | zero=>intros;kernel_rfl
 | succ n ih =>
  intro g j l c i
  have e0:=funext fun g=>funext fun j=>funext fun l=>funext fun c=>funext fun i=>(show Ua N F n (Jk d a e f b g j l c i)=_ from ih g j l c i)
  have hK:Ua N F (n+1) (Jk d a e f b g j l c i)=(Pv N (Mw F) d a e f b (fun g j l c i=>Ua N F n (Jk d a e f b g j l c i)) g j l c i):=by kernel_rfl
  exact hK.trans (by rw [e0];rfl)
theorem Afc (N:Nat) (d:LA) (a:Nat) (e f:Bool) (b:Int) (F:KF R):Ac Tryz.prog muts (Xv N) T9 N 202 [(.imm d a 1 e f),(.int .i64 b)] [] F=(Sa N d a e f b (Mw F)):=by
 have e1:=funext fun g=>funext fun j=>funext fun l=>funext fun c=>funext fun i=>(show Avn N F (Jk d a e f b g j l c i)=_ from (Au ..).trans (A45 N F d a e f b N g j l c i))
 have hK:Ac Tryz.prog muts (Xv N) T9 N 202 [(.imm d a 1 e f),(.int .i64 b)] [] F=(Apv N (Mw F) (fun g j l c i=>Avn N F (Jk d a e f b g j l c i)) d a e f b):=by kernel_rfl
 rw [Apx]
 exact hK.trans (by rw [e1];rfl)
def Pw (N:Nat) (args:List AV) (h:Ak) (k:KF R):Option R :=
 match args,h with
 | [(.imm d a 1 e f),(.int .i64 b)],[]=>(Sa N d a e f b (Mw k))
 | _,_=>none
def Avo (N:Nat):Tw:=⟨Pw N,fun args h k=>by
 unfold Pw;split
 exact twE (Afc ..) (Afc ..)
 rfl⟩
theorem Bho (N:Nat):Az Tryz.prog 202 (Avo N):=fun args h res o hh=>by
 change Pw N args h (fun v o=>some (v,o))=_ at hh
 unfold Pw at hh;split at hh
 exact Aa (T:=Xv N) trivial follows ((Afc ..).trans hh)
 cases hh
def Lr (N:Nat)  (r0:Int→LA→Option R) (b d:Nat) (c j:Int) (e:LA) (a:Nat) (f g:Bool) (k4:Int→Int→Int→LA→Option R)  (u w o:Int) (r:LA):Option R :=
 (cond (decide (o<w)) (cond (Aj o a) (rdI .u32 (List.drop ((Int.toNat o)*1) e) fun aa=>(cond (Aj o d) (rdI .u32 (List.drop (b+((Int.toNat o)*1)) r) fun ab=>(cond (Aj o d) (cond ((Nat.beq 1 1)&&((Nat.ble ((b+((Int.toNat o)*1))+1) (List.length r))&&(!false))) (k4 (Int.fdiv (IntKind.wrap .u64 (u+(IntKind.wrap .u64 ((IntKind.wrap .u64 ab)+(IntKind.wrap .u64 aa))))) (2 ^ 32)) w (IntKind.wrap .i64 (o+(1:Int))) (List.set r (b+((Int.toNat o)*1)) (.int .u32 (IntKind.wrap .u32 (IntKind.wrap .u64 (u+(IntKind.wrap .u64 ((IntKind.wrap .u64 ab)+(IntKind.wrap .u64 aa))))))))) none) none)) none)) none) (cond (Aj c d) (rdI .u32 (List.drop (b+((Int.toNat c)*1)) r) fun aj=>(cond (Aj c d) (cond ((Nat.beq 1 1)&&((Nat.ble ((b+((Int.toNat c)*1))+1) (List.length r))&&(!false))) (r0 (IntKind.wrap .u32 (IntKind.wrap .u64 (j - (1:Int)))) (List.set r (b+((Int.toNat c)*1)) (.int .u32 (IntKind.wrap .u32 (aj+(IntKind.wrap .u32 u)))))) none) none)) none))
def F0 (N:Nat)  (r0:Int→LA→Option R) (b d:Nat) (c j:Int) (e:LA) (a:Nat) (f g:Bool):Nat→Int→Int→Int→LA→Option R
 | 0,_,_,_,_=>none
 | n+1,u,w,o,r=>(Lr N r0 b d c j e a f g (F0 N r0 b d c j e a f g n) u w o r)
def Hl (N:Nat)  (r0:Int→LA→Option R) (b d:Nat) (e:LA) (a:Nat) (f g:Bool) (c j:Int) (k3:Int→Int→Int→LA→Option R) (q4:Int→Int→Int→LA→Option R) (t x p:Int) (q:LA):Option R :=
 (cond (decide (p<x)) (cond (Aj p a) (rdI .u32 (List.drop ((Int.toNat p)*1) e) fun y=>(cond (Aj p d) (rdI .u32 (List.drop (b+((Int.toNat p)*1)) q) fun ac=>(cond (Aj p d) (cond ((Nat.beq 1 1)&&((Nat.ble ((b+((Int.toNat p)*1))+1) (List.length q))&&(!false))) (k3 (IntKind.wrap .u64 ((Int.fdiv (IntKind.wrap .u64 ((IntKind.wrap .u64 (j*(IntKind.wrap .u64 y)))+t)) (2 ^ 32))+(Int.fdiv (IntKind.wrap .u64 ((IntKind.wrap .u64 ac) - (IntKind.wrap .u64 (IntKind.wrap .u32 (IntKind.wrap .u64 ((IntKind.wrap .u64 (j*(IntKind.wrap .u64 y)))+t)))))) (2 ^ 63)))) x (IntKind.wrap .i64 (p+(1:Int))) (List.set q (b+((Int.toNat p)*1)) (.int .u32 (IntKind.wrap .u32 (IntKind.wrap .u64 ((IntKind.wrap .u64 ac) - (IntKind.wrap .u64 (IntKind.wrap .u32 (IntKind.wrap .u64 ((IntKind.wrap .u64 (j*(IntKind.wrap .u64 y)))+t)))))))))) none) none)) none)) none) (cond (Aj c d) (rdI .u32 (List.drop (b+((Int.toNat c)*1)) q) fun z=>(cond (Aj c d) (cond ((Nat.beq 1 1)&&((Nat.ble ((b+((Int.toNat c)*1))+1) (List.length q))&&(!false))) (cond ((Int.fdiv (IntKind.wrap .u64 ((IntKind.wrap .u64 z) - t)) (2 ^ 63))==(0:Int)) (r0 (IntKind.wrap .u32 j) (List.set q (b+((Int.toNat c)*1)) (.int .u32 (IntKind.wrap .u32 (IntKind.wrap .u64 ((IntKind.wrap .u64 z) - t)))))) (q4 0 ((a:Nat):Int) 0 (List.set q (b+((Int.toNat c)*1)) (.int .u32 (IntKind.wrap .u32 (IntKind.wrap .u64 ((IntKind.wrap .u64 z) - t))))))) none) none)) none))
def Ea (N:Nat)  (r0:Int→LA→Option R) (b d:Nat) (e:LA) (a:Nat) (f g:Bool) (c j:Int):Nat→Int→Int→Int→LA→Option R
 | 0,_,_,_,_=>none
 | n+1,t,x,p,q=>(Hl N r0 b d e a f g c j (Ea N r0 b d e a f g c j n) (fun u w o r=>(F0 N r0 b d c j e a f g N u w o r)) t x p q)
def Sb (N:Nat)  (r0:Int→LA→Option R) (b d:Nat) (e:LA) (a:Nat) (f g:Bool) (c:Int) (i:LA)  (q3:Int→Int→Int→LA→Option R) (j:Int):Option R :=
 (q3 0 ((a:Nat):Int) 0 i)
def Di (N:Nat)  (r0:Int→LA→Option R) (b d:Nat) (e:LA) (a:Nat) (f g:Bool) (c:Int) (i:LA) (j:Int):Option R:=(Sb N r0 b d e a f g c i (fun t x p q=>(Ea N r0 b d e a f g c j N t x p q)) j)
def Sc (N:Nat) (k0:Int→Int→Int→Option R) (r0:Int→LA→Option R) (b d:Nat) (e:LA) (a:Nat) (f g:Bool) (c l m:Int) (i:LA)  (q2:Int→Option R) :Option R :=
 (cond (Aj (IntKind.wrap .i64 (c - (1:Int))) a) (rdI .u32 (List.drop ((Int.toNat (IntKind.wrap .i64 (c - (1:Int))))*1) e) fun ad=>(cond ((Int.fdiv (IntKind.wrap .u64 (m+(IntKind.wrap .u64 ad))) (2 ^ 32)) != (0:Int)) (q2 (IntKind.wrap .u64 (l - (1:Int)))) (k0 c (IntKind.wrap .u64 (l - (1:Int))) (IntKind.wrap .u64 (m+(IntKind.wrap .u64 ad)))))) none)
def I8 (N:Nat) (k0:Int→Int→Int→Option R) (r0:Int→LA→Option R) (b d:Nat) (e:LA) (a:Nat) (f g:Bool) (c l m:Int) (i:LA) :Option R:=(Sc N k0 r0 b d e a f g c l m i (fun j=>(Di N r0 b d e a f g c i j)))
def Sd (N:Nat)  (r0:Int→LA→Option R) (b d:Nat) (e:LA) (a:Nat) (f g:Bool) (i:LA) (k0:Int→Int→Int→Option R) (q1:Option R) (q2:Int→Option R) (c l m:Int):Option R :=
 (cond (((Int.fdiv l (2 ^ 32)) != (0:Int))==false) (cond (Aj (IntKind.wrap .i64 (c - (2:Int))) a) (rdI .u32 (List.drop ((Int.toNat (IntKind.wrap .i64 (c - (2:Int))))*1) e) fun ak=>(cond (Aj (IntKind.wrap .i64 (c - (2:Int))) d) (rdI .u32 (List.drop (b+((Int.toNat (IntKind.wrap .i64 (c - (2:Int))))*1)) i) fun al=>(cond (cond false true (decide ((IntKind.wrap .u64 (l*(IntKind.wrap .u64 ak)))>(Of .u64 (IntKind.wrap .u64 (m*2 ^ 32)) (IntKind.wrap .u64 al))))) q1 (q2 l))) none)) none) q1)
def Dj (N:Nat)  (r0:Int→LA→Option R) (b d:Nat) (e:LA) (a:Nat) (f g:Bool) (i:LA):Nat→Int→Int→Int→Option R
 | 0,_,_,_=>none
 | n+1,c,l,m=>(Sd N r0 b d e a f g i (Dj N r0 b d e a f g i n) (I8 N (Dj N r0 b d e a f g i n) r0 b d e a f g c l m i) (fun j=>(Di N r0 b d e a f g c i j)) c l m)
def Afd (N:Nat) (r0:Int→LA→Option R) (q0:Int→Int→Int→Option R) (b d:Nat) (e:LA) (a:Nat) (f g:Bool) (i:LA):Option R :=
 (cond (Aj ((a:Nat):Int) d) (rdI .u32 (List.drop (b+(a*1)) i) fun ae=>(cond (Aj (IntKind.wrap .i64 (((a:Nat):Int) - (1:Int))) d) (rdI .u32 (List.drop (b+((Int.toNat (IntKind.wrap .i64 (((a:Nat):Int) - (1:Int))))*1)) i) fun af=>(cond (Aj (IntKind.wrap .i64 (((a:Nat):Int) - (1:Int))) a) (rdI .u32 (List.drop ((Int.toNat (IntKind.wrap .i64 (((a:Nat):Int) - (1:Int))))*1) e) fun ag=>(cond ((IntKind.wrap .u64 ag)==(0:Int)) none (cond (Aj (IntKind.wrap .i64 (((a:Nat):Int) - (1:Int))) a) (rdI .u32 (List.drop ((Int.toNat (IntKind.wrap .i64 (((a:Nat):Int) - (1:Int))))*1) e) fun ah=>(cond ((IntKind.wrap .u64 ah)==(0:Int)) none (q0 ((a:Nat):Int) (IntKind.wrap .u64 (Int.tdiv (Of .u64 (IntKind.wrap .u64 ((IntKind.wrap .u64 ae)*2 ^ 32)) (IntKind.wrap .u64 af)) (IntKind.wrap .u64 ag))) (Int.tmod (Of .u64 (IntKind.wrap .u64 ((IntKind.wrap .u64 ae)*2 ^ 32)) (IntKind.wrap .u64 af)) (IntKind.wrap .u64 ah))))) none))) none)) none)) none)
def Afe (N b d:Nat) (e:LA) (a:Nat) (f g:Bool) (i:LA) (r0:Int→LA→Option R):Option R:=(Afd N r0 (fun c l m=>(Dj N r0 b d e a f g i N c l m)) b d e a f g i)
def Ls:=(Al (@Afe R)).1
theorem Agr:@Ls R=@Afe R:=(Al _).2
def Ne:Hints:={ H:=(hS (hR [0,1]) (hS (hR [0,1,5]) (hS (hR [0,1,5,6]) (hS (hR [0,1,5,7,8]) (hJ (hN [0,1,5,7] (hN [0,1,5,7,8] (hJ (hS (hR [0,1,5,7,8,70]) (hN [0,1,5,7,8] hL hL)) (hN [0,1,5,7,8] (hS (hR [0,1,5,7,8]) (hS (hR [0,1,5,7,8]) (hS (hR [0,1,5,7,8,83]) (hN [0,1,5,7,8] hL hL)))) hL)) hL) hL) (hS (hR [0,1,5,7,9]) (hS (hS (hR [0,1,5,7,9,84,85,86]) (hN [0,1,5,7,9] (hN [0,1,5,7,9,84,85,86] (hS (hR [0,1,5,7,9,84,85,86,87]) (hS (hN [0,1,5,7,9,84,85,86] hL hL) (hS (hN [0,1,5,7,9,84,85,86] (hS (hR [0,1,5,7,9,10,11,84,85,86]) (hS (hR [0,1,5,7,10,12,84,85,86]) (hS (hR [0,1,5,7,10,12,13,84,85,86]) (hS (hR [0,1,5,7,12,13,84,85,86]) (hR [0,1,5,7,9,84,85,86]))))) hL) (hR [0,1,5,7,9,84,85,86])))) hL) hL)) (hS (hR [0,1,5,7,14]) (hS (hR [0,1,5,7,14]) (hS (hS (hR [0,1,5,7,131]) (hN [0,1,5,7] (hS (hR [4]) hL) hL)) (hS (hR [0,1,5,7,9]) (hS (hS (hR [0,5,7,9,134,135,136]) (hN [0,5,7,9] (hN [0,5,7,9,134,135,136] (hS (hR [0,5,7,9,134,135,136,137]) (hS (hN [0,5,7,9,134,135,136] hL hL) (hS (hN [0,5,7,9,134,135,136] (hS (hR [0,5,7,9,15,16,134,135,136]) (hS (hR [0,5,7,9,15,134,135,136]) (hS (hR [0,5,7,9,134,135,136]) (hR [0,5,7,9,134,135,136])))) hL) (hR [0,5,7,9,134,135,136])))) hL) hL)) (hS (hR [7]) (hS (hR [4]) hL)))))))))))))),nils:=[],modes:=[],free:=[],cob:=[] }
def Px (N:Nat):List (Nat×Tw):=[]
def Bz (N:Nat):Env:=mkE 170 Ne (Px N)
def A46 (N:Nat) (F:KF R):=As (Bz N) Tryz.f203 Ne.modes [100000] F
def Cg (N:Nat) (F:KF R):=atF (Bz N) [100000] N Tryz.f203 Ne (A46 N F)
def Ba  (F:KF R):Int→LA→Option R:=(fun am an=>F (.int .u32 am) [(100000,⟨false,false,true,false,1,an,false⟩)])
def F1 (b d:Nat) (c j:Int) (e:LA) (a:Nat) (f g:Bool) (u w o:Int) (r:LA):St:={ s:=[(0,(.own 100000 b d)),(5,(.int .i64 c)),(7,(.int .u64 j)),(9,(.int .u64 u)),(134,(.imm e a 1 f g)),(135,(.int .i64 w)),(136,(.int .i64 o))],h:=[(100000,⟨false,false,true,false,1,r,false⟩)] }
def Amu (N:Nat) (F:KF R):St→Option R:=Bx (Bz N) [100000] N (Cg N F [1,1,1,1,1,1,1,1,1,1,1,0,1,0] []) N
def Nf (N:Nat) (F:KF R) (n:Nat):St→Option R:=A9 (Bz N) [100000] N (Cg N F [1,1,1,1,1,1,1,1,1,1,1,0,1,0] []) n
def F2 (b d:Nat) (e:LA) (a:Nat) (f g:Bool) (c j t x p:Int) (q:LA):St:={ s:=[(0,(.own 100000 b d)),(1,(.imm e a 1 f g)),(5,(.int .i64 c)),(7,(.int .u64 j)),(9,(.int .u64 t)),(84,(.imm e a 1 f g)),(85,(.int .i64 x)),(86,(.int .i64 p))],h:=[(100000,⟨false,false,true,false,1,q,false⟩)] }
def Amv (N:Nat) (F:KF R):St→Option R:=Bx (Bz N) [100000] N (Cg N F [1,1,1,1,1,1,0,1,0] []) N
def Ng (N:Nat) (F:KF R) (n:Nat):St→Option R:=A9 (Bz N) [100000] N (Cg N F [1,1,1,1,1,1,0,1,0] []) n
def F3 (b d:Nat) (e:LA) (a:Nat) (f g:Bool) (c:Int) (i:LA) (j:Int):St:={ s:=[(0,(.own 100000 b d)),(1,(.imm e a 1 f g)),(5,(.int .i64 c)),(7,(.int .u64 j))],h:=[(100000,⟨false,false,true,false,1,i,false⟩)] }
def Nh (N:Nat) (F:KF R):St→Option R:=Bh (Bz N) [100000] N (Cg N F [1,1,1,1,1] [])
def Amw (N:Nat) (F:KF R):St→Option R:=Bl (Bz N) [100000] N (Cg N F [1,1,1,1,1] [])
def Ni (b d:Nat) (e:LA) (a:Nat) (f g:Bool) (c l m:Int) (i:LA):St:={ s:=[(0,(.own 100000 b d)),(1,(.imm e a 1 f g)),(5,(.int .i64 c)),(7,(.int .u64 l)),(8,(.int .u64 m))],h:=[(100000,⟨false,false,true,false,1,i,false⟩)] }
def Amx (N:Nat) (F:KF R) (Q0:St→Option R):St→Option R:=Bh (Bz N) [100000] N (Cg N F [1,1,1,1,0,0,0,1] [Q0])
def Amy (N:Nat) (F:KF R) (Q0:St→Option R):St→Option R:=Bl (Bz N) [100000] N (Cg N F [1,1,1,1,0,0,0,1] [Q0])
def Dk (b d:Nat) (e:LA) (a:Nat) (f g:Bool) (i:LA) (c l m:Int):St:={ s:=[(0,(.own 100000 b d)),(1,(.imm e a 1 f g)),(5,(.int .i64 c)),(7,(.int .u64 l)),(8,(.int .u64 m))],h:=[(100000,⟨false,false,true,false,1,i,false⟩)] }
def Amz (N:Nat) (F:KF R):St→Option R:=Bx (Bz N) [100000] N (Cg N F [1,1,1,1,0,0] []) N
def Eb (N:Nat) (F:KF R) (n:Nat):St→Option R:=A9 (Bz N) [100000] N (Cg N F [1,1,1,1,0,0] []) n
theorem Ax8 (N:Nat)  (F:KF R) (b d:Nat) (c j:Int) (e:LA) (a:Nat) (f g:Bool):∀ (n:Nat) (u w o:Int) (r:LA),Nf N F n (F1 b d c j e a f g u w o r)=(F0 N (Ba F) b d c j e a f g n u w o r):=by
 intro n
 induction n with
 | zero=>intros;kernel_rfl
 | succ n ih =>
  intro u w o r
  have e0:=funext fun u=>funext fun w=>funext fun o=>funext fun r=>(show Nf N F n (F1 b d c j e a f g u w o r)=_ from ih u w o r)
  have hK:Nf N F (n+1) (F1 b d c j e a f g u w o r)=(Lr N (Ba F) b d c j e a f g (fun u w o r=>Nf N F n (F1 b d c j e a f g u w o r)) u w o r):=by kernel_rfl
  exact hK.trans (by rw [e0];rfl)
theorem Ax9 (N:Nat)  (F:KF R) (b d:Nat) (e:LA) (a:Nat) (f g:Bool) (c j:Int):∀ (n:Nat) (t x p:Int) (q:LA),Ng N F n (F2 b d e a f g c j t x p q)=(Ea N (Ba F) b d e a f g c j n t x p q):=by
 intro n
 induction n with
 | zero=>intros;kernel_rfl
 | succ n ih =>
  intro t x p q
  have e0:=funext fun t=>funext fun x=>funext fun p=>funext fun q=>(show Ng N F n (F2 b d e a f g c j t x p q)=_ from ih t x p q)
  have e1:=funext fun u=>funext fun w=>funext fun o=>funext fun r=>(show Amu N F (F1 b d c j e a f g u w o r)=_ from (Au ..).trans (Ax8 N F b d c j e a f g N u w o r))
  have hK:Ng N F (n+1) (F2 b d e a f g c j t x p q)=(Hl N (Ba F) b d e a f g c j (fun t x p q=>Ng N F n (F2 b d e a f g c j t x p q)) (fun u w o r=>Amu N F (F1 b d c j e a f g u w o r)) t x p q):=by kernel_rfl
  exact hK.trans (by rw [e0,e1];rfl)
theorem Aax (N:Nat)  (F:KF R) (b d:Nat) (e:LA) (a:Nat) (f g:Bool) (c:Int) (i:LA):∀ (j:Int),Amw N F (F3 b d e a f g c i j)=(Di N (Ba F) b d e a f g c i j):=by
 intro j
 have e1:=funext fun t=>funext fun x=>funext fun p=>funext fun q=>(show Amv N F (F2 b d e a f g c j t x p q)=_ from (Au ..).trans (Ax9 N F b d e a f g c j N t x p q))
 have hK:Amw N F (F3 b d e a f g c i j)=(Sb N (Ba F) b d e a f g c i (fun t x p q=>Amv N F (F2 b d e a f g c j t x p q)) j):=by kernel_rfl
 exact hK.trans (by rw [e1];rfl)
theorem Aya (N:Nat) (Q0:St→Option R) (F:KF R) (b d:Nat) (e:LA) (a:Nat) (f g:Bool) (c l m:Int) (i:LA):Amy N F Q0 (Ni b d e a f g c l m i)=(I8 N (fun c l m=>Q0 (Dk b d e a f g i c l m)) (Ba F) b d e a f g c l m i):=by
 have e1:=funext fun j=>(show Nh N F (F3 b d e a f g c i j)=_ from (Aq ..).trans (Aax N F b d e a f g c i j))
 have hK:Amy N F Q0 (Ni b d e a f g c l m i)=(Sc N (fun c l m=>Q0 (Dk b d e a f g i c l m)) (Ba F) b d e a f g c l m i (fun j=>Nh N F (F3 b d e a f g c i j))):=by kernel_rfl
 exact hK.trans (by rw [e1];rfl)
theorem Ayb (N:Nat)  (F:KF R) (b d:Nat) (e:LA) (a:Nat) (f g:Bool) (i:LA):∀ (n:Nat) (c l m:Int),Eb N F n (Dk b d e a f g i c l m)=(Dj N (Ba F) b d e a f g i n c l m):=by
 intro n
 induction n with
 | zero=>intros;kernel_rfl
 | succ n ih =>
  intro c l m
  have e0:=funext fun c=>funext fun l=>funext fun m=>(show Eb N F n (Dk b d e a f g i c l m)=_ from ih c l m)
  have e1:(Amx N F (Eb N F n) (Ni b d e a f g c l m i))=(I8 N (Dj N (Ba F) b d e a f g i n) (Ba F) b d e a f g c l m i):=by exact ((Aq ..).trans (Aya N (Eb N F n) F b d e a f g c l m i)).trans (by rw [e0])
  have e2:=funext fun j=>(show Nh N F (F3 b d e a f g c i j)=_ from (Aq ..).trans (Aax N F b d e a f g c i j))
  have hK:Eb N F (n+1) (Dk b d e a f g i c l m)=(Sd N (Ba F) b d e a f g i (fun c l m=>Eb N F n (Dk b d e a f g i c l m)) (Amx N F (Eb N F n) (Ni b d e a f g c l m i)) (fun j=>Nh N F (F3 b d e a f g c i j)) c l m):=by kernel_rfl
  exact hK.trans (by rw [e0,e1,e2];rfl)
theorem V3 (N b d:Nat) (e:LA) (a:Nat) (f g:Bool) (i:LA) (F:KF R):Ac Tryz.prog muts (Px N) Ne N 203 [(.own 100000 b d),(.imm e a 1 f g)] [(100000,⟨false,false,true,false,1,i,false⟩)] F=(Ls N b d e a f g i (Ba F)):=by
 have e1:=funext fun c=>funext fun l=>funext fun m=>(show Amz N F (Dk b d e a f g i c l m)=_ from (Au ..).trans (Ayb N F b d e a f g i N c l m))
 have hK:Ac Tryz.prog muts (Px N) Ne N 203 [(.own 100000 b d),(.imm e a 1 f g)] [(100000,⟨false,false,true,false,1,i,false⟩)] F=(Afd N (Ba F) (fun c l m=>Amz N F (Dk b d e a f g i c l m)) b d e a f g i):=by kernel_rfl
 rw [Agr]
 exact hK.trans (by rw [e1];rfl)
def Lt (N:Nat) (args:List AV) (h:Ak) (k:KF R):Option R :=
 match args,h with
 | [(.own 100000 b d),(.imm e a 1 f g)],[(100000,⟨false,false,true,false,1,i,false⟩)]=>(Ls N b d e a f g i (Ba k))
 | _,_=>none
def Am0 (N:Nat):Tw:=⟨Lt N,fun args h k=>by
 unfold Lt;split
 exact twE (V3 ..) (V3 ..)
 rfl⟩
theorem Bac (N:Nat):Az Tryz.prog 203 (Am0 N):=fun args h res ai hh=>by
 change Lt N args h (fun v ai=>some (v,ai))=_ at hh
 unfold Lt at hh;split at hh
 exact Aa (T:=Px N) trivial follows ((V3 ..).trans hh)
 cases hh
end
end Gx

namespace Gx
open Go Go.Proofs
set_option maxRecDepth 100000
noncomputable section
variable {R:Type}
def Ga (N:Nat)  (r0:Nat→Bool→LA→Option R) (b:Bool) (k0:LA→Nat→Int→Nat→LA→Nat→Int→Int→LA→Option R)  (i:LA) (g:Nat) (c:Int) (f:Nat) (j:LA) (l:Nat) (m a:Int) (d:LA):Option R :=
 (cond (decide (a<m)) (cond (Aj a l) (rdI .u32 (List.drop ((Int.toNat a)*1) j) fun t=>(cond (decide ((IntKind.wrap .i64 (a+(1:Int)))<((g:Nat):Int))) (cond (Aj (IntKind.wrap .i64 (a+(1:Int))) g) (rdI .u32 (List.drop ((Int.toNat (IntKind.wrap .i64 (a+(1:Int))))*1) i) fun x=>(cond (decide (c<(0:Int))) none (cond (Aj a f) (cond ((Nat.beq 1 1)&&((Nat.ble ((0+((Int.toNat a)*1))+1) (List.length d))&&(!false))) (k0 i g c f j l m (IntKind.wrap .i64 (a+(1:Int))) (List.set d (0+((Int.toNat a)*1)) (.int .u32 (IntKind.wrap .u32 (Int.fdiv (Of .u64 (IntKind.wrap .u64 t) (IntKind.wrap .u64 ((IntKind.wrap .u64 x)*2 ^ 32))) (2 ^ (min (Int.toNat c) 64))))))) none) none))) none) (cond (decide (c<(0:Int))) none (cond (Aj a f) (cond ((Nat.beq 1 1)&&((Nat.ble ((0+((Int.toNat a)*1))+1) (List.length d))&&(!false))) (k0 i g c f j l m (IntKind.wrap .i64 (a+(1:Int))) (List.set d (0+((Int.toNat a)*1)) (.int .u32 (IntKind.wrap .u32 (Int.fdiv (IntKind.wrap .u64 t) (2 ^ (min (Int.toNat c) 64))))))) none) none)))) none) (Vw N f d (fun y=>(r0 y true d))))
def C0 (N:Nat)  (r0:Nat→Bool→LA→Option R) (b:Bool):Nat→LA→Nat→Int→Nat→LA→Nat→Int→Int→LA→Option R
 | 0,_,_,_,_,_,_,_,_,_=>none
 | n+1,i,g,c,f,j,l,m,a,d=>(Ga N r0 b (C0 N r0 b n) i g c f j l m a d)
def Py (N:Nat) (r0:Nat→Bool→LA→Option R) (q0:LA→Nat→Int→Nat→LA→Nat→Int→Int→LA→Option R) (p:LA) (q:Nat) (r b:Bool) (e:Int):Option R :=
 (cond (decide (e<(0:Int))) (r0 0 false []) (Bv N p q r b (fun u o=>(cond (decide ((IntKind.wrap .i64 (Int.tdiv e (32:Int)))≥((o:Nat):Int))) (r0 0 true []) (cond ((decide ((0:Int)≤(IntKind.wrap .i64 (Int.tdiv e (32:Int)))))&&((decide ((IntKind.wrap .i64 (Int.tdiv e (32:Int)))≤((o:Nat):Int)))&&((decide (((o:Nat):Int)≤((o:Nat):Int)))&&(decide (((o:Nat):Int)≤((o:Nat):Int)))))) (cond ((decide ((0:Int)≤(((o - (Int.toNat (IntKind.wrap .i64 (Int.tdiv e (32:Int))))):Nat):Int)))&&((decide ((((o - (Int.toNat (IntKind.wrap .i64 (Int.tdiv e (32:Int))))):Nat):Int)≤(((o - (Int.toNat (IntKind.wrap .i64 (Int.tdiv e (32:Int))))):Nat):Int)))&&((decide ((((o - (Int.toNat (IntKind.wrap .i64 (Int.tdiv e (32:Int))))):Nat):Int)≤(140737488355328:Int)))&&(decide (((((o - (Int.toNat (IntKind.wrap .i64 (Int.tdiv e (32:Int))))):Nat):Int)*((4:Nat):Int))≤(140737488355328:Int)))))) (q0 (List.take ((o - (Int.toNat (IntKind.wrap .i64 (Int.tdiv e (32:Int)))))*1) (List.drop ((Int.toNat (IntKind.wrap .i64 (Int.tdiv e (32:Int))))*1) u)) (o - (Int.toNat (IntKind.wrap .i64 (Int.tdiv e (32:Int))))) (Int.tmod e (32:Int)) (o - (Int.toNat (IntKind.wrap .i64 (Int.tdiv e (32:Int))))) (List.take ((o - (Int.toNat (IntKind.wrap .i64 (Int.tdiv e (32:Int)))))*1) (List.drop ((Int.toNat (IntKind.wrap .i64 (Int.tdiv e (32:Int))))*1) u)) (o - (Int.toNat (IntKind.wrap .i64 (Int.tdiv e (32:Int))))) (((o - (Int.toNat (IntKind.wrap .i64 (Int.tdiv e (32:Int))))):Nat):Int) 0 (List.replicate (o - (Int.toNat (IntKind.wrap .i64 (Int.tdiv e (32:Int))))) (.int .u32 0))) none) none)))))
def Pz (N:Nat) (p:LA) (q:Nat) (r b:Bool) (e:Int) (r0:Nat→Bool→LA→Option R):Option R:=(Py N r0 (fun i g c f j l m a d=>(C0 N r0 b N i g c f j l m a d)) p q r b e)
def Mx:=(Al (@Pz R)).1
theorem P0:@Mx R=@Pz R:=(Al _).2
def Lu:Hints:={ H:=(hS (hR [0,1]) (hS (hS (hR [0,1,12]) (hN [0,1] (hS (hR [4,5]) hL) hL)) (hS (hR [0,1]) (hS (hS (hR [0,1,19]) (hN [0,1] (hS (hR [4,5]) hL) hL)) (hS (hR [0,1]) (hS (hR [0,6]) (hS (hR [0,6,7]) (hS (hS (hR [0,6,7,29,30,31]) (hN [7] (hN [0,6,7,29,30,31] (hS (hR [0,6,7,29,30,31,32]) (hS (hN [0,6,7,29,30,31] hL hL) (hS (hN [0,6,7,29,30,31] (hS (hR [0,6,7,8,9,29,30,31]) (hS (hR [0,6,7,8,10,29,30,31]) (hS (hS (hR [0,6,7,8,10,29,30,31,42]) (hN [0,6,7,8,10,29,30,31] (hR [0,6,7,8,10,29,30,31]) hL)) (hR [0,6,7,29,30,31])))) hL) (hR [0,6,7,29,30,31])))) hL) hL)) (hS (hR [4,5]) hL))))))))),nils:=[(4,1)],modes:=[(2,1),(0,0)],free:=[],cob:=[] }
def Nj (N:Nat):List (Nat×Tw):=[(171,Cz N)]
def Nk (N:Nat):Env:=mkE 62 Lu (Nj N)
def A1c (N:Nat) (F:KF R):=As (Nk N) Tryz.f204 Lu.modes [] F
def Ags (N:Nat) (F:KF R):=atF (Nk N) [] N Tryz.f204 Lu (A1c N F)
def Hm  (F:KF R):Nat→Bool→LA→Option R:=(fun z aa ab=>F (.tup [(.own 300000 0 z),(.bool aa)]) [(300000,⟨false,false,true,false,1,ab,false⟩)])
def E6 (b:Bool) (i:LA) (g:Nat) (c:Int) (f:Nat) (j:LA) (l:Nat) (m a:Int) (d:LA):St:={ s:=[(0,(.imm i g 1 false b)),(6,(.int .i64 c)),(7,(.own 300000 0 f)),(29,(.imm j l 1 false b)),(30,(.int .i64 m)),(31,(.int .i64 a))],h:=[(300000,⟨false,false,true,false,1,d,false⟩)] }
def Agt (N:Nat) (F:KF R):St→Option R:=Bx (Nk N) [] N (Ags N F [1,1,1,1,1,1,1,0,1,0] []) N
def Lv (N:Nat) (F:KF R) (n:Nat):St→Option R:=A9 (Nk N) [] N (Ags N F [1,1,1,1,1,1,1,0,1,0] []) n
theorem Aua (N:Nat)  (F:KF R) (b:Bool):∀ (n:Nat) (i:LA) (g:Nat) (c:Int) (f:Nat) (j:LA) (l:Nat) (m a:Int) (d:LA),Lv N F n (E6 b i g c f j l m a d)=(C0 N (Hm F) b n i g c f j l m a d):=by
 intro n
 induction n with
 | zero=>intros;kernel_rfl
 | succ n ih =>
  intro i g c f j l m a d
  have e0:=funext fun i=>funext fun g=>funext fun c=>funext fun f=>funext fun j=>funext fun l=>funext fun m=>funext fun a=>funext fun d=>(show Lv N F n (E6 b i g c f j l m a d)=_ from ih i g c f j l m a d)
  have hK:Lv N F (n+1) (E6 b i g c f j l m a d)=(Ga N (Hm F) b (fun i g c f j l m a d=>Lv N F n (E6 b i g c f j l m a d)) i g c f j l m a d):=by kernel_rfl
  exact hK.trans (by rw [e0];rfl)
theorem Se (N:Nat) (p:LA) (q:Nat) (r b:Bool) (e:Int) (F:KF R):Ac Tryz.prog muts (Nj N) Lu N 204 [(.imm p q 1 r b),(.int .i64 e)] [] F=(Mx N p q r b e (Hm F)):=by
 have e1:=funext fun i=>funext fun g=>funext fun c=>funext fun f=>funext fun j=>funext fun l=>funext fun m=>funext fun a=>funext fun d=>(show Agt N F (E6 b i g c f j l m a d)=_ from (Au ..).trans (Aua N F b N i g c f j l m a d))
 have hK:Ac Tryz.prog muts (Nj N) Lu N 204 [(.imm p q 1 r b),(.int .i64 e)] [] F=(Py N (Hm F) (fun i g c f j l m a d=>Agt N F (E6 b i g c f j l m a d)) p q r b e):=by kernel_rfl
 rw [P0]
 exact hK.trans (by rw [e1];rfl)
def J6 (N:Nat) (args:List AV) (h:Ak) (k:KF R):Option R :=
 match args,h with
 | [(.imm p q 1 r b),(.int .i64 e)],[]=>(Mx N p q r b e (Hm k))
 | _,_=>none
def Agu (N:Nat):Tw:=⟨J6 N,fun args h k=>by
 unfold J6;split
 exact twE (Se ..) (Se ..)
 rfl⟩
theorem A47 (N:Nat):Az Tryz.prog 204 (Agu N):=fun args h res w hh=>by
 change J6 N args h (fun v w=>some (v,w))=_ at hh
 unfold J6 at hh;split at hh
 exact Aa (T:=Nj N) ⟨D4 N,trivial⟩ follows ((Se ..).trans hh)
 cases hh
def J7 (N:Nat)  (r0:Nat→Nat→LA→LA→Option R) (i:Int) (a b:Nat) (m:LA) (k0:Nat→Int→Int→Int→Int→LA→LA→Option R)  (g:Nat) (e d j c:Int) (f l:LA):Option R :=
 (cond (decide (c<j)) (cond ((decide ((0:Int)≤(IntKind.wrap .i64 ((IntKind.wrap .i64 (d - (1:Int))) - c))))&&((decide ((IntKind.wrap .i64 ((IntKind.wrap .i64 (d - (1:Int))) - c))≤(IntKind.wrap .i64 ((IntKind.wrap .i64 ((IntKind.wrap .i64 ((IntKind.wrap .i64 (d - (1:Int))) - c))+e))+(1:Int)))))&&((decide ((IntKind.wrap .i64 ((IntKind.wrap .i64 ((IntKind.wrap .i64 ((IntKind.wrap .i64 (d - (1:Int))) - c))+e))+(1:Int)))≤((b:Nat):Int)))&&(decide (((b:Nat):Int)≤((b:Nat):Int)))))) (Ls N (0+((Int.toNat (IntKind.wrap .i64 ((IntKind.wrap .i64 (d - (1:Int))) - c)))*1)) ((Int.toNat (IntKind.wrap .i64 ((IntKind.wrap .i64 ((IntKind.wrap .i64 ((IntKind.wrap .i64 (d - (1:Int))) - c))+e))+(1:Int)))) - (Int.toNat (IntKind.wrap .i64 ((IntKind.wrap .i64 (d - (1:Int))) - c)))) (List.take (a*1) m) a false true l (fun z aa=>(cond (Aj (IntKind.wrap .i64 ((IntKind.wrap .i64 (d - (1:Int))) - c)) g) (cond ((Nat.beq 1 1)&&((Nat.ble ((0+((Int.toNat (IntKind.wrap .i64 ((IntKind.wrap .i64 (d - (1:Int))) - c)))*1))+1) (List.length f))&&(!false))) (k0 g e d j (IntKind.wrap .i64 (c+(1:Int))) (List.set f (0+((Int.toNat (IntKind.wrap .i64 ((IntKind.wrap .i64 (d - (1:Int))) - c)))*1)) (.int .u32 z)) aa) none) none))) none) (cond ((decide ((0:Int)≤(0:Int)))&&((decide ((0:Int)≤e))&&((decide (e≤((b:Nat):Int)))&&(decide (((b:Nat):Int)≤((b:Nat):Int)))))) (Mx N (List.take ((Int.toNat e)*1) l) (Int.toNat e) false true i (fun ab ak ac=>(Vw N g f (fun ad=>(r0 ad ab f ac))))) none))
def Dr (N:Nat)  (r0:Nat→Nat→LA→LA→Option R) (i:Int) (a b:Nat) (m:LA):Nat→Nat→Int→Int→Int→Int→LA→LA→Option R
 | 0,_,_,_,_,_,_,_=>none
 | n+1,g,e,d,j,c,f,l=>(J7 N r0 i a b m (Dr N r0 i a b m n) g e d j c f l)
def Aay (N:Nat) (r0:Nat→Nat→LA→LA→Option R) (q0:Int→Nat→LA→Nat→Int→Int→Int→Int→LA→LA→Option R) (p:LA) (q:Nat) (u r:Bool) (o:LA) (a:Nat) (w t:Bool):Option R :=
 (cond (Aj (IntKind.wrap .i64 (((a:Nat):Int) - (1:Int))) a) (rdI .u32 (List.drop ((Int.toNat (IntKind.wrap .i64 (((a:Nat):Int) - (1:Int))))*1) o) fun ae=>(Bq N ae (fun i=>(Sa N o a false t i (fun x m=>(cond ((decide ((0:Int)≤(0:Int)))&&((decide ((0:Int)≤((a:Nat):Int)))&&((decide (((a:Nat):Int)≤((x:Nat):Int)))&&(decide (((x:Nat):Int)≤((x:Nat):Int)))))) (Sa N p q false r i (fun b af=>(cond ((decide ((0:Int)≤(IntKind.wrap .i64 (((b:Nat):Int) - ((a:Nat):Int)))))&&((decide ((IntKind.wrap .i64 (((b:Nat):Int) - ((a:Nat):Int)))≤(IntKind.wrap .i64 (((b:Nat):Int) - ((a:Nat):Int)))))&&((decide ((IntKind.wrap .i64 (((b:Nat):Int) - ((a:Nat):Int)))≤(140737488355328:Int)))&&(decide (((IntKind.wrap .i64 (((b:Nat):Int) - ((a:Nat):Int)))*((4:Nat):Int))≤(140737488355328:Int)))))) (q0 i b m (Int.toNat (IntKind.wrap .i64 (((b:Nat):Int) - ((a:Nat):Int)))) ((a:Nat):Int) (IntKind.wrap .i64 (((b:Nat):Int) - ((a:Nat):Int))) (IntKind.wrap .i64 (((b:Nat):Int) - ((a:Nat):Int))) 0 (List.replicate (Int.toNat (IntKind.wrap .i64 (((b:Nat):Int) - ((a:Nat):Int)))) (.int .u32 0)) af) none))) none)))))) none)
def Aaz (N:Nat) (p:LA) (q:Nat) (u r:Bool) (o:LA) (a:Nat) (w t:Bool) (r0:Nat→Nat→LA→LA→Option R):Option R:=(Aay N r0 (fun i b m g e d j c f l=>(Dr N r0 i a b m N g e d j c f l)) p q u r o a w t)
def Jl:=(Al (@Aaz R)).1
theorem Ac0:@Jl R=@Aaz R:=(Al _).2
def Lw:Hints:={ H:=(hS (hR [0,1]) (hS (hR [0,1,6]) (hS (hR [0,1,6,7]) (hS (hR [0,6,7,8]) (hS (hR [6,7,8,9]) (hS (hR [6,7,8,9,10]) (hS (hR [4,6,7,8,9,10]) (hS (hS (hR [4,6,7,8,9,10,35,36]) (hN [4,6,7,9] (hN [4,6,7,8,9,10,35,36] (hS (hR [4,6,7,8,9,10,35,36,37]) (hS (hN [4,6,7,8,9,10,35,36] hL hL) (hS (hN [4,6,7,8,9,10,35,36] (hS (hR [4,6,7,8,9,10,11,35,36]) (hS (hR [4,6,7,8,9,10,12,35,36]) (hR [4,6,7,8,9,10,35,36]))) hL) (hR [4,6,7,8,9,10,35,36])))) hL) hL)) (hS (hR [4,5]) (hS (hR [4,5]) hL)))))))))),nils:=[(4,1),(5,1)],modes:=[(2,1),(2,1)],free:=[],cob:=[] }
def Nl (N:Nat):List (Nat×Tw):=[(200,En N),(202,Avo N),(203,Am0 N),(204,Agu N),(171,Asz N)]
def Nm (N:Nat):Env:=mkE 67 Lw (Nl N)
def A1d (N:Nat) (F:KF R):=As (Nm N) Tryz.f198 Lw.modes [] F
def Agv (N:Nat) (F:KF R):=atF (Nm N) [] N Tryz.f198 Lw (A1d N F)
def Hn  (F:KF R):Nat→Nat→LA→LA→Option R:=(fun ag ah ai aj=>F (.tup [(.own 300000 0 ag),(.own 300001 0 ah)]) [(300000,⟨false,false,true,false,1,ai,false⟩),(300001,⟨false,false,true,false,1,aj,false⟩)])
def E7 (i:Int) (a b:Nat) (m:LA) (g:Nat) (e d j c:Int) (f l:LA):St:={ s:=[(4,(.own 300000 0 g)),(6,(.int .i64 e)),(7,(.int .i64 i)),(8,(.own 300001 0 a)),(9,(.own 300002 0 b)),(10,(.int .i64 d)),(35,(.int .i64 j)),(36,(.int .i64 c))],h:=[(300000,⟨false,false,true,false,1,f,false⟩),(300001,⟨false,false,true,false,1,m,false⟩),(300002,⟨false,false,true,false,1,l,false⟩)] }
def Agw (N:Nat) (F:KF R):St→Option R:=Bx (Nm N) [] N (Agv N F [1,1,1,1,1,1,1,0,1,0] []) N
def Lx (N:Nat) (F:KF R) (n:Nat):St→Option R:=A9 (Nm N) [] N (Agv N F [1,1,1,1,1,1,1,0,1,0] []) n
theorem Aub (N:Nat)  (F:KF R) (i:Int) (a b:Nat) (m:LA):∀ (n g:Nat) (e d j c:Int) (f l:LA),Lx N F n (E7 i a b m g e d j c f l)=(Dr N (Hn F) i a b m n g e d j c f l):=by
 intro n
 induction n with
 | zero=>intros;kernel_rfl
 | succ n ih =>
  intro g e d j c f l
  have e0:=funext fun g=>funext fun e=>funext fun d=>funext fun j=>funext fun c=>funext fun f=>funext fun l=>(show Lx N F n (E7 i a b m g e d j c f l)=_ from ih g e d j c f l)
  have hK:Lx N F (n+1) (E7 i a b m g e d j c f l)=(J7 N (Hn F) i a b m (fun g e d j c f l=>Lx N F n (E7 i a b m g e d j c f l)) g e d j c f l):=by kernel_rfl
  exact hK.trans (by rw [e0];rfl)
theorem Sf (N:Nat) (p:LA) (q:Nat) (u r:Bool) (o:LA) (a:Nat) (w t:Bool) (F:KF R):Ac Tryz.prog muts (Nl N) Lw N 198 [(.imm p q 1 u r),(.imm o a 1 w t)] [] F=(Jl N p q u r o a w t (Hn F)):=by
 have e1:=funext fun i=>funext fun b=>funext fun m=>funext fun g=>funext fun e=>funext fun d=>funext fun j=>funext fun c=>funext fun f=>funext fun l=>(show Agw N F (E7 i a b m g e d j c f l)=_ from (Au ..).trans (Aub N F i a b m N g e d j c f l))
 have hK:Ac Tryz.prog muts (Nl N) Lw N 198 [(.imm p q 1 u r),(.imm o a 1 w t)] [] F=(Aay N (Hn F) (fun i b m g e d j c f l=>Agw N F (E7 i a b m g e d j c f l)) p q u r o a w t):=by kernel_rfl
 rw [Ac0]
 exact hK.trans (by rw [e1];rfl)
def J8 (N:Nat) (args:List AV) (h:Ak) (k:KF R):Option R :=
 match args,h with
 | [(.imm p q 1 u r),(.imm o a 1 w t)],[]=>(Jl N p q u r o a w t (Hn k))
 | _,_=>none
def Agx (N:Nat):Tw:=⟨J8 N,fun args h k=>by
 unfold J8;split
 exact twE (Sf ..) (Sf ..)
 rfl⟩
theorem A48 (N:Nat):Az Tryz.prog 198 (Agx N):=fun args h res y hh=>by
 change J8 N args h (fun v y=>some (v,y))=_ at hh
 unfold J8 at hh;split at hh
 exact Aa (T:=Nl N) ⟨J3 N,Bho N,Bac N,A47 N,A4q N,trivial⟩ follows ((Sf ..).trans hh)
 cases hh
def Ayc (N:Nat) (r0:Nat→Nat→Bool→LA→LA→Option R)  (c:LA) (d:Nat) (e a:Bool) (f:LA) (g:Nat) (i b:Bool):Option R :=
 (Bv N c d e a (fun m j=>(Bv N f g i b (fun n l=>(cond (((l:Nat):Int)==(0:Int)) (r0 0 0 false [] []) (C7 N m j false a n l false b (fun r=>(cond (decide (r<(0:Int))) (Xt N m j false a (fun s t=>(r0 0 s true [] t))) (cond (decide (((j:Nat):Int)≤(2:Int))) (Pl N m j false a (fun p=>(Pl N n l false b (fun o=>(cond (o==(0:Int)) none (Bj N (IntKind.wrap .u64 (Int.tdiv p o)) (fun u w=>(cond (o==(0:Int)) none (Bj N (Int.tmod p o) (fun x y=>(r0 u x true w y))))))))))) (cond (((l:Nat):Int)==(1:Int)) (cond (Aj (0:Int) l) (rdI .u32 n fun z=>(Fz N m j false a z (fun aa ab ac ad=>(r0 aa ab true ac ad)))) none) (Jl N m j false a n l false b (fun ae af ag ah=>(r0 ae af true ag ah)))))))))))))
def Ayd (N:Nat) (c:LA) (d:Nat) (e a:Bool) (f:LA) (g:Nat) (i b:Bool) (r0:Nat→Nat→Bool→LA→LA→Option R):Option R:=(Ayc N r0 c d e a f g i b)
def Ds:=(Al (@Ayd R)).1
theorem Avp:@Ds R=@Ayd R:=(Al _).2
def A1e:Hints:={ H:=(hS (hR [0,1]) (hS (hR [0,1]) (hS (hN [0,1] (hS (hR [0,1,13]) (hN [0,1] (hS (hR [4,5,6]) hL) (hS (hR [0,1,17]) (hN [0,1] (hS (hR [4,5,6]) hL) (hS (hR [0,1,24]) (hN [0,1] (hS (hR [7,8]) (hS (hR [4,5,6]) hL)) (hS (hR [0,1,40]) (hN [0,1] (hS (hR [4,5]) (hS (hR [4,5,6]) hL)) hL)))))))) hL) (hS (hR [4,5]) (hS (hR [4,5,6]) hL))))),nils:=[(4,1),(5,1)],modes:=[(2,1),(2,1),(0,0)],free:=[],cob:=[] }
def Apy (N:Nat):List (Nat×Tw):=[(171,Ll N),(132,E5 N),(173,Aam N),(181,Ajb N),(149,Do N),(197,Aaw N),(198,Agx N)]
def Ajs  (F:KF R):Nat→Nat→Bool→LA→LA→Option R:=(fun ai aj ak al am=>F (.tup [(.own 300000 0 ai),(.own 300001 0 aj),(.bool ak)]) [(300000,⟨false,false,true,false,1,al,false⟩),(300001,⟨false,false,true,false,1,am,false⟩)])
theorem Ajt (N:Nat) (c:LA) (d:Nat) (e a:Bool) (f:LA) (g:Nat) (i b:Bool) (F:KF R):Ac Tryz.prog muts (Apy N) A1e N 175 [(.imm c d 1 e a),(.imm f g 1 i b)] [] F=(Ds N c d e a f g i b (Ajs F)):=by
 have hK:Ac Tryz.prog muts (Apy N) A1e N 175 [(.imm c d 1 e a),(.imm f g 1 i b)] [] F=(Ayc N (Ajs F) c d e a f g i b):=by kernel_rfl
 rw [Avp]
 exact hK
def Ub (N:Nat) (args:List AV) (h:Ak) (k:KF R):Option R :=
 match args,h with
 | [(.imm c d 1 e a),(.imm f g 1 i b)],[]=>(Ds N c d e a f g i b (Ajs k))
 | _,_=>none
def Aju (N:Nat):Tw:=⟨Ub N,fun args h k=>by
 unfold Ub;split
 exact twE (Ajt ..) (Ajt ..)
 rfl⟩
theorem A1f (N:Nat):Az Tryz.prog 175 (Aju N):=fun args h res q hh=>by
 change Ub N args h (fun v q=>some (v,q))=_ at hh
 unfold Ub at hh;split at hh
 exact Aa (T:=Apy N) ⟨Ph N,Hi N,Ajp N,Axv N,E2 N,Ax7 N,A48 N,trivial⟩ follows ((Ajt ..).trans hh)
 cases hh
def Aa0 (N:Nat)  (r0:Nat→Bool→LA→Option R) (j:LA) (i:Nat) (c:Bool) (b:Nat) (l:LA) (d:Bool) (k0:Int→Int→Int→LA→Option R)  (f g a:Int) (e:LA):Option R :=
 (cond (decide (a<g)) (cond (Aj a b) (rdI .u32 (List.drop ((Int.toNat a)*1) l) fun u=>(cond (decide (a<((i:Nat):Int))) (cond (Aj a i) (rdI .u32 (List.drop ((Int.toNat a)*1) j) fun w=>(cond (Aj a b) (cond ((Nat.beq 1 1)&&((Nat.ble ((0+((Int.toNat a)*1))+1) (List.length e))&&(!false))) (k0 (Int.fdiv (IntKind.wrap .u64 ((IntKind.wrap .u64 ((IntKind.wrap .u64 u) - f)) - (IntKind.wrap .u64 w))) (2 ^ 63)) g (IntKind.wrap .i64 (a+(1:Int))) (List.set e (0+((Int.toNat a)*1)) (.int .u32 (IntKind.wrap .u32 (IntKind.wrap .u64 ((IntKind.wrap .u64 ((IntKind.wrap .u64 u) - f)) - (IntKind.wrap .u64 w))))))) none) none)) none) (cond (Aj a b) (cond ((Nat.beq 1 1)&&((Nat.ble ((0+((Int.toNat a)*1))+1) (List.length e))&&(!false))) (k0 (Int.fdiv (IntKind.wrap .u64 ((IntKind.wrap .u64 u) - f)) (2 ^ 63)) g (IntKind.wrap .i64 (a+(1:Int))) (List.set e (0+((Int.toNat a)*1)) (.int .u32 (IntKind.wrap .u32 (IntKind.wrap .u64 ((IntKind.wrap .u64 u) - f)))))) none) none))) none) (Vw N b e (fun y=>(r0 y true e))))
def Sg (N:Nat)  (r0:Nat→Bool→LA→Option R) (j:LA) (i:Nat) (c:Bool) (b:Nat) (l:LA) (d:Bool):Nat→Int→Int→Int→LA→Option R
 | 0,_,_,_,_=>none
 | n+1,f,g,a,e=>(Aa0 N r0 j i c b l d (Sg N r0 j i c b l d n) f g a e)
def Bax (N:Nat) (r0:Nat→Bool→LA→Option R) (q0:LA→Nat→Nat→LA→Int→Int→Int→LA→Option R) (m:LA) (o:Nat) (p d:Bool) (q:LA) (r:Nat) (t c:Bool):Option R :=
 (Bv N m o p d (fun l b=>(Bv N q r t c (fun j i=>(C7 N l b false d j i false c (fun z=>(cond (decide (z<(0:Int))) (r0 0 false []) (cond ((decide ((0:Int)≤((b:Nat):Int)))&&((decide (((b:Nat):Int)≤((b:Nat):Int)))&&((decide (((b:Nat):Int)≤(140737488355328:Int)))&&(decide ((((b:Nat):Int)*((4:Nat):Int))≤(140737488355328:Int)))))) (q0 j i b l 0 ((b:Nat):Int) 0 (List.replicate b (.int .u32 0))) none))))))))
def Bay (N:Nat) (m:LA) (o:Nat) (p d:Bool) (q:LA) (r:Nat) (t c:Bool) (r0:Nat→Bool→LA→Option R):Option R:=(Bax N r0 (fun j i b l f g a e=>(Sg N r0 j i c b l d N f g a e)) m o p d q r t c)
def Apz:=(Al (@Bay R)).1
theorem Aye:@Apz R=@Bay R:=(Al _).2
def As9:Hints:={ H:=(hS (hR [0,1]) (hS (hR [0,1]) (hS (hS (hR [0,1,18]) (hN [0,1] (hS (hR [4,5]) hL) hL)) (hS (hR [0,1,6]) (hS (hR [0,1,6,7]) (hS (hS (hR [1,6,7,22,23,24]) (hN [6] (hN [1,6,7,22,23,24] (hS (hR [1,6,7,22,23,24,25]) (hS (hN [1,6,7,22,23,24] hL hL) (hS (hN [1,6,7,22,23,24] (hS (hR [1,6,7,8,9,22,23,24]) (hS (hR [1,6,8,10,22,23,24]) (hS (hS (hR [1,6,8,10,22,23,24,36]) (hN [1,6,8,10,22,23,24] (hR [1,6,8,10,22,23,24]) hL)) (hS (hR [1,6,10,22,23,24]) (hR [1,6,7,22,23,24]))))) hL) (hR [1,6,7,22,23,24])))) hL) hL)) (hS (hR [4,5]) hL))))))),nils:=[(4,1)],modes:=[(2,1),(0,0)],free:=[],cob:=[] }
def A1g (N:Nat):List (Nat×Tw):=[(171,Cz N),(132,E5 N)]
def A1h (N:Nat):Env:=mkE 54 As9 (A1g N)
def Bpt (N:Nat) (F:KF R):=As (A1h N) Tryz.f177 As9.modes [] F
def Bix (N:Nat) (F:KF R):=atF (A1h N) [] N Tryz.f177 As9 (Bpt N F)
def Agy  (F:KF R):Nat→Bool→LA→Option R:=(fun aa ab ac=>F (.tup [(.own 300000 0 aa),(.bool ab)]) [(300000,⟨false,false,true,false,1,ac,false⟩)])
def Yy (j:LA) (i:Nat) (c:Bool) (b:Nat) (l:LA) (d:Bool) (f g a:Int) (e:LA):St:={ s:=[(1,(.imm j i 1 false c)),(6,(.own 300000 0 b)),(7,(.int .u64 f)),(22,(.imm l b 1 false d)),(23,(.int .i64 g)),(24,(.int .i64 a))],h:=[(300000,⟨false,false,true,false,1,e,false⟩)] }
def Biy (N:Nat) (F:KF R):St→Option R:=Bx (A1h N) [] N (Bix N F [1,1,1,1,1,0,1,0] []) N
def Ata (N:Nat) (F:KF R) (n:Nat):St→Option R:=A9 (A1h N) [] N (Bix N F [1,1,1,1,1,0,1,0] []) n
theorem Blj (N:Nat)  (F:KF R) (j:LA) (i:Nat) (c:Bool) (b:Nat) (l:LA) (d:Bool):∀ (n:Nat) (f g a:Int) (e:LA),Ata N F n (Yy j i c b l d f g a e)=(Sg N (Agy F) j i c b l d n f g a e):=by
 intro n
 induction n with
 | zero=>intros;kernel_rfl
 | succ n ih =>
  intro f g a e
  have e0:=funext fun f=>funext fun g=>funext fun a=>funext fun e=>(show Ata N F n (Yy j i c b l d f g a e)=_ from ih f g a e)
  have hK:Ata N F (n+1) (Yy j i c b l d f g a e)=(Aa0 N (Agy F) j i c b l d (fun f g a e=>Ata N F n (Yy j i c b l d f g a e)) f g a e):=by kernel_rfl
  exact hK.trans (by rw [e0];rfl)
theorem A49 (N:Nat) (m:LA) (o:Nat) (p d:Bool) (q:LA) (r:Nat) (t c:Bool) (F:KF R):Ac Tryz.prog muts (A1g N) As9 N 177 [(.imm m o 1 p d),(.imm q r 1 t c)] [] F=(Apz N m o p d q r t c (Agy F)):=by
 have e1:=funext fun j=>funext fun i=>funext fun b=>funext fun l=>funext fun f=>funext fun g=>funext fun a=>funext fun e=>(show Biy N F (Yy j i c b l d f g a e)=_ from (Au ..).trans (Blj N F j i c b l d N f g a e))
 have hK:Ac Tryz.prog muts (A1g N) As9 N 177 [(.imm m o 1 p d),(.imm q r 1 t c)] [] F=(Bax N (Agy F) (fun j i b l f g a e=>Biy N F (Yy j i c b l d f g a e)) m o p d q r t c):=by kernel_rfl
 rw [Aye]
 exact hK.trans (by rw [e1];rfl)
def Ajv (N:Nat) (args:List AV) (h:Ak) (k:KF R):Option R :=
 match args,h with
 | [(.imm m o 1 p d),(.imm q r 1 t c)],[]=>(Apz N m o p d q r t c (Agy k))
 | _,_=>none
def A5a (N:Nat):Tw:=⟨Ajv N,fun args h k=>by
 unfold Ajv;split
 exact twE (A49 ..) (A49 ..)
 rfl⟩
theorem Biz (N:Nat):Az Tryz.prog 177 (A5a N):=fun args h res x hh=>by
 change Ajv N args h (fun v x=>some (v,x))=_ at hh
 unfold Ajv at hh;split at hh
 exact Aa (T:=A1g N) ⟨D4 N,Hi N,trivial⟩ follows ((A49 ..).trans hh)
 cases hh
def Ap0 (N:Nat) (r0:Nat→LA→Option R)  (a:LA) (b:Nat) (j c:Bool) (d:Int) (e:LA) (f:Nat) (l g:Bool) (i:Int):Option R :=
 (Bj N d (fun m r=>(Ajh N a b false c (List.take (m*1) r) m false true (fun n s=>(Bj N i (fun o t=>(Ajh N e f false g (List.take (o*1) t) o false true (fun p u=>(Apz N (List.take (n*1) s) n false true (List.take (p*1) u) p false true (fun w aa x=>(r0 w x)))))))))))
def Ap1 (N:Nat) (a:LA) (b:Nat) (j c:Bool) (d:Int) (e:LA) (f:Nat) (l g:Bool) (i:Int) (r0:Nat→LA→Option R):Option R:=(Ap0 N r0 a b j c d e f l g i)
def Ec:=(Al (@Ap1 R)).1
theorem Ap2:@Ec R=@Ap1 R:=(Al _).2
def Avq:Hints:={ H:=(hS (hR [0,1,2,3]) (hS (hR [9]) (hS (hR [8]) hL))),nils:=[(8,1)],modes:=[(2,1)],free:=[],cob:=[] }
def Ajw (N:Nat):List (Nat×Tw):=[(149,Do N),(135,Agn N),(177,A5a N)]
def Aff  (F:KF R):Nat→LA→Option R:=(fun y z=>F (.own 300000 0 y) [(300000,⟨false,false,true,false,1,z,false⟩)])
theorem Afg (N:Nat) (a:LA) (b:Nat) (j c:Bool) (d:Int) (e:LA) (f:Nat) (l g:Bool) (i:Int) (F:KF R):Ac Tryz.prog muts (Ajw N) Avq N 196 [(.imm a b 1 j c),(.int .u64 d),(.imm e f 1 l g),(.int .u64 i)] [] F=(Ec N a b j c d e f l g i (Aff F)):=by
 have hK:Ac Tryz.prog muts (Ajw N) Avq N 196 [(.imm a b 1 j c),(.int .u64 d),(.imm e f 1 l g),(.int .u64 i)] [] F=(Ap0 N (Aff F) a b j c d e f l g i):=by kernel_rfl
 rw [Ap2]
 exact hK
def P3 (N:Nat) (args:List AV) (h:Ak) (k:KF R):Option R :=
 match args,h with
 | [(.imm a b 1 j c),(.int .u64 d),(.imm e f 1 l g),(.int .u64 i)],[]=>(Ec N a b j c d e f l g i (Aff k))
 | _,_=>none
def Avr (N:Nat):Tw:=⟨P3 N,fun args h k=>by
 unfold P3;split
 exact twE (Afg ..) (Afg ..)
 rfl⟩
theorem Bhp (N:Nat):Az Tryz.prog 196 (Avr N):=fun args h res q hh=>by
 change P3 N args h (fun v q=>some (v,q))=_ at hh
 unfold P3 at hh;split at hh
 exact Aa (T:=Ajw N) ⟨E2 N,As7 N,Biz N,trivial⟩ follows ((Afg ..).trans hh)
 cases hh
def Ajx (N:Nat) (k1:LA→Nat→Bool→LA→Nat→Bool→Option R) (r0:Nat→LA→Option R)  (k2:Int→Int→Option R)  (i g:Int):Option R :=
 (cond (g != (0:Int)) (cond (g==(0:Int)) none (k2 g (Int.tmod i g))) (Bj N i (fun am an=>(r0 am an))))
def On (N:Nat) (k1:LA→Nat→Bool→LA→Nat→Bool→Option R) (r0:Nat→LA→Option R) :Nat→Int→Int→Option R
 | 0,_,_=>none
 | n+1,i,g=>(Ajx N k1 r0 (On N k1 r0 n) i g)
def Aa1 (N:Nat)  (r0:Nat→LA→Option R)  (k1:LA→Nat→Bool→LA→Nat→Bool→Option R) (q2:Int→Int→Option R) (c:LA) (a:Nat) (d:Bool) (e:LA) (b:Nat) (f:Bool):Option R :=
 (cond (decide (((b:Nat):Int)>(0:Int))) (cond (decide (((a:Nat):Int)≤(2:Int))) (Pl N c a false d (fun ao=>(Pl N e b false f (fun ap=>(q2 ao ap))))) (Aat N c a false d e b false f (fun u=>(cond ((Nat.beq (List.length u) 5)&&((Nat.ble 5 5)&&(!false))) (rdI .u64 (List.drop 2 (setCells [(.int .u64 0),(.int .u64 0),(.int .u64 0),(.int .u64 0),(.bool false)] 0 u)) fun aq=>(cond (aq==(0:Int)) (Ds N c a false d e b false f (fun bm ag bn bo ar=>(k1 e b f (List.take (ag*1) ar) ag false))) (rdB (List.drop 4 (setCells [(.int .u64 0),(.int .u64 0),(.int .u64 0),(.int .u64 0),(.bool false)] 0 u)) fun au=>(cond au (rdI .u64 (setCells [(.int .u64 0),(.int .u64 0),(.int .u64 0),(.int .u64 0),(.bool false)] 0 u) fun av=>(rdI .u64 (List.drop 2 (setCells [(.int .u64 0),(.int .u64 0),(.int .u64 0),(.int .u64 0),(.bool false)] 0 u)) fun aw=>(Ec N c a false d av e b false f aw (fun ah ax=>(rdI .u64 (List.drop 3 (setCells [(.int .u64 0),(.int .u64 0),(.int .u64 0),(.int .u64 0),(.bool false)] 0 u)) fun ay=>(rdI .u64 (List.drop 1 (setCells [(.int .u64 0),(.int .u64 0),(.int .u64 0),(.int .u64 0),(.bool false)] 0 u)) fun az=>(Ec N e b false f ay c a false d az (fun ai ba=>(k1 (List.take (ah*1) ax) ah false (List.take (ai*1) ba) ai false))))))))) (rdI .u64 (List.drop 2 (setCells [(.int .u64 0),(.int .u64 0),(.int .u64 0),(.int .u64 0),(.bool false)] 0 u)) fun bb=>(rdI .u64 (setCells [(.int .u64 0),(.int .u64 0),(.int .u64 0),(.int .u64 0),(.bool false)] 0 u) fun bc=>(Ec N e b false f bb c a false d bc (fun aj bd=>(rdI .u64 (List.drop 1 (setCells [(.int .u64 0),(.int .u64 0),(.int .u64 0),(.int .u64 0),(.bool false)] 0 u)) fun be=>(rdI .u64 (List.drop 3 (setCells [(.int .u64 0),(.int .u64 0),(.int .u64 0),(.int .u64 0),(.bool false)] 0 u)) fun bf=>(Ec N c a false d be e b false f bf (fun ak bg=>(k1 (List.take (aj*1) bd) aj false (List.take (ak*1) bg) ak false))))))))))))) none)))) (Xt N c a false d (fun bh bi=>(r0 bh bi))))
def Df (N:Nat)  (r0:Nat→LA→Option R) :Nat→LA→Nat→Bool→LA→Nat→Bool→Option R
 | 0,_,_,_,_,_,_=>none
 | n+1,c,a,d,e,b,f=>(Aa1 N r0 (Df N r0 n) (fun i g=>(On N (Df N r0 n) r0 N i g)) c a d e b f)
def Ayf (N:Nat)  (r0:Nat→LA→Option R)   (q1:LA→Nat→Bool→LA→Nat→Bool→Option R) (j:LA) (l:Nat) (m:Bool) (o:LA) (p:Nat) (q:Bool):Option R :=
 (q1 j l m o p q)
def A5b (N:Nat)  (r0:Nat→LA→Option R)  (j:LA) (l:Nat) (m:Bool) (o:LA) (p:Nat) (q:Bool):Option R:=(Ayf N r0 (fun c a d e b f=>(Df N r0 N c a d e b f)) j l m o p q)
def Bll (N:Nat) (r0:Nat→LA→Option R) (q0:LA→Nat→Bool→LA→Nat→Bool→Option R) (w:LA) (x:Nat) (y r:Bool) (z:LA) (aa:Nat) (ab t:Bool):Option R :=
 (Bv N w x y r (fun ac ad=>(Bv N z aa ab t (fun ae af=>(C7 N ac ad false r ae af false t (fun bj=>(cond (decide (bj<(0:Int))) (q0 ae af t ac ad r) (q0 ac ad r ae af t))))))))
def Blm (N:Nat) (w:LA) (x:Nat) (y r:Bool) (z:LA) (aa:Nat) (ab t:Bool) (r0:Nat→LA→Option R):Option R:=(Bll N r0 (fun j l m o p q=>(A5b N r0 j l m o p q)) w x y r z aa ab t)
def Ayg:=(Al (@Blm R)).1
theorem Bd5:@Ayg R=@Blm R:=(Al _).2
def Atb:Hints:={ H:=(hS (hR [0,1]) (hS (hR [0,1]) (hJ (hS (hR [0,1,18]) (hN [0,1] (hR [0,1]) hL)) (hS (hN [0] (hN [0,1] (hS (hS (hR [0,1,23]) (hN [0,1] hL hL)) (hN [0,1] (hS (hS (hR [0,1,26]) (hN [0,1] (hS (hR [5,6]) (hS (hN [5] (hN [5,6] (hS (hS (hR [5,6,32]) (hN [5,6] hL hL)) (hN [5,6] (hR [5,6]) hL)) hL) hL) (hS (hR [4]) hL))) hL)) (hS (hR [0,1,7]) (hS (hS (hR [0,1,7,44]) (hN [0,1,7] (hS (hR [1,9]) (hS (hR [0,1]) hL)) hL)) (hS (hR [0,1,7,55]) (hN [0,1] (hR [0,1]) (hR [0,1])))))) hL)) hL) hL) (hS (hR [4]) hL))))),nils:=[(0,1000001),(1,1000001)],modes:=[(2,1)],free:=[],cob:=[] }
def A1i (N:Nat):List (Nat×Tw):=[(171,Ll N),(132,E5 N),(181,Ajb N),(195,Avl N),(175,Aju N),(196,Avr N),(173,Aam N),(149,Do N)]
def Ve (N:Nat):Env:=mkE 86 Atb (A1i N)
def Bpu (N:Nat) (F:KF R):=As (Ve N) Tryz.f174 Atb.modes [] F
def Yz (N:Nat) (F:KF R):=atF (Ve N) [] N Tryz.f174 Atb (Bpu N F)
def Ho  (F:KF R):Nat→LA→Option R:=(fun bk bl=>F (.own 300000 0 bk) [(300000,⟨false,false,true,false,1,bl,false⟩)])
def Y0 (i g:Int):St:={ s:=[(5,(.int .u64 i)),(6,(.int .u64 g))],h:=[] }
def Bi0 (N:Nat) (F:KF R) (Q1:St→Option R):St→Option R:=Bx (Ve N) [] N (Yz N F [1,1,1,0,0,0,1,0,0,1,0,1,0,0] [Q1]) N
def Atc (N:Nat) (F:KF R) (Q1:St→Option R) (n:Nat):St→Option R:=A9 (Ve N) [] N (Yz N F [1,1,1,0,0,0,1,0,0,1,0,1,0,0] [Q1]) n
def Oo (c:LA) (a:Nat) (d:Bool) (e:LA) (b:Nat) (f:Bool):St:={ s:=[(0,(.imm c a 1 false d)),(1,(.imm e b 1 false f))],h:=[] }
def Bi1 (N:Nat) (F:KF R):St→Option R:=Bx (Ve N) [] N (Yz N F [1,1,1,0,0] []) N
def Sh (N:Nat) (F:KF R) (n:Nat):St→Option R:=A9 (Ve N) [] N (Yz N F [1,1,1,0,0] []) n
def Atd (j:LA) (l:Nat) (m:Bool) (o:LA) (p:Nat) (q:Bool):St:={ s:=[(0,(.imm j l 1 false m)),(1,(.imm o p 1 false q))],h:=[] }
def Bi2 (N:Nat) (F:KF R):St→Option R:=Bh (Ve N) [] N (Yz N F [1,1,1] [])
def Bi3 (N:Nat) (F:KF R):St→Option R:=Bl (Ve N) [] N (Yz N F [1,1,1] [])
theorem Bln (N:Nat) (Q1:St→Option R) (F:KF R) :∀ (n:Nat) (i g:Int),Atc N F Q1 n (Y0 i g)=(On N (fun c a d e b f=>Q1 (Oo c a d e b f)) (Ho F) n i g):=by
 intro n
 induction n with
 | zero=>intros;kernel_rfl
 | succ n ih =>
  intro i g
  have e0:=funext fun i=>funext fun g=>(show Atc N F Q1 n (Y0 i g)=_ from ih i g)
  have hK:Atc N F Q1 (n+1) (Y0 i g)=(Ajx N (fun c a d e b f=>Q1 (Oo c a d e b f)) (Ho F) (fun i g=>Atc N F Q1 n (Y0 i g)) i g):=by kernel_rfl
  exact hK.trans (by rw [e0];rfl)
theorem Blo (N:Nat)  (F:KF R) :∀ (n:Nat) (c:LA) (a:Nat) (d:Bool) (e:LA) (b:Nat) (f:Bool),Sh N F n (Oo c a d e b f)=(Df N (Ho F) n c a d e b f):=by
 intro n
 induction n with
 | zero=>intros;kernel_rfl
 | succ n ih =>
  intro c a d e b f
  have e0:=funext fun c=>funext fun a=>funext fun d=>funext fun e=>funext fun b=>funext fun f=>(show Sh N F n (Oo c a d e b f)=_ from ih c a d e b f)
  have e1:(fun i g=>Bi0 N F (Sh N F n) (Y0 i g))=(fun i g=>(On N (Df N (Ho F) n) (Ho F) N i g)):=by funext i;funext g;exact ((Au ..).trans (Bln N (Sh N F n) F N i g)).trans (by rw [e0])
  have hK:Sh N F (n+1) (Oo c a d e b f)=(Aa1 N (Ho F) (fun c a d e b f=>Sh N F n (Oo c a d e b f)) (fun i g=>Bi0 N F (Sh N F n) (Y0 i g)) c a d e b f):=by kernel_rfl
  exact hK.trans (by rw [e0,e1];rfl)
theorem Blp (N:Nat)  (F:KF R) :∀ (j:LA) (l:Nat) (m:Bool) (o:LA) (p:Nat) (q:Bool),Bi3 N F (Atd j l m o p q)=(A5b N (Ho F) j l m o p q):=by
 intro j l m o p q
 have e1:=funext fun c=>funext fun a=>funext fun d=>funext fun e=>funext fun b=>funext fun f=>(show Bi1 N F (Oo c a d e b f)=_ from (Au ..).trans (Blo N F N c a d e b f))
 have hK:Bi3 N F (Atd j l m o p q)=(Ayf N (Ho F) (fun c a d e b f=>Bi1 N F (Oo c a d e b f)) j l m o p q):=by kernel_rfl
 exact hK.trans (by rw [e1];rfl)
theorem A5c (N:Nat) (w:LA) (x:Nat) (y r:Bool) (z:LA) (aa:Nat) (ab t:Bool) (F:KF R):Ac Tryz.prog muts (A1i N) Atb N 174 [(.imm w x 1 y r),(.imm z aa 1 ab t)] [] F=(Ayg N w x y r z aa ab t (Ho F)):=by
 have e1:=funext fun j=>funext fun l=>funext fun m=>funext fun o=>funext fun p=>funext fun q=>(show Bi2 N F (Atd j l m o p q)=_ from (Aq ..).trans (Blp N F j l m o p q))
 have hK:Ac Tryz.prog muts (A1i N) Atb N 174 [(.imm w x 1 y r),(.imm z aa 1 ab t)] [] F=(Bll N (Ho F) (fun j l m o p q=>Bi2 N F (Atd j l m o p q)) w x y r z aa ab t):=by kernel_rfl
 rw [Bd5]
 exact hK.trans (by rw [e1];rfl)
def Ajy (N:Nat) (args:List AV) (h:Ak) (k:KF R):Option R :=
 match args,h with
 | [(.imm w x 1 y r),(.imm z aa 1 ab t)],[]=>(Ayg N w x y r z aa ab t (Ho k))
 | _,_=>none
def Bi4 (N:Nat):Tw:=⟨Ajy N,fun args h k=>by
 unfold Ajy;split
 exact twE (A5c ..) (A5c ..)
 rfl⟩
theorem Br5 (N:Nat):Az Tryz.prog 174 (Bi4 N):=fun args h res al hh=>by
 change Ajy N args h (fun v al=>some (v,al))=_ at hh
 unfold Ajy at hh;split at hh
 exact Aa (T:=A1i N) ⟨Ph N,Hi N,Axv N,Bhn N,A1f N,Bhp N,Ajp N,E2 N,trivial⟩ follows ((A5c ..).trans hh)
 cases hh
def Ayh (N:Nat) (r0:LA→Option R)  (a:LA) (b:Bool) (c:LA) (d:Nat) (g e:Bool):Option R :=
 (rdB a fun u=>(rdL 1 (List.drop 1 a) fun w x=>(cond (Nat.beq (List.length a) 2) (A09 N [(.bool u),(.imm w x 1 false b)] (b||false) (fun o i m=>(Xt N c d false e (fun j n=>(cond (((i:Nat):Int)==(0:Int)) (r0 [(.bool false),.nsl,(.imm [(.int .u32 1)] 1 1 false false)]) (Ayg N (List.take (i*1) m) i false true (List.take (j*1) n) j false true (fun f l=>(cond ((((f:Nat):Int) != (1:Int))==false) (cond (Aj (0:Int) f) (rdI .u32 l fun y=>(cond (cond false true (y != (1:Int))) (Ds N (List.take (i*1) m) i false true (List.take (f*1) l) f false true (fun p ae af z ag=>(Ds N (List.take (j*1) n) j false true (List.take (f*1) l) f false true (fun q ah ai aa aj=>(r0 [(.bool o),(.imm (List.take (p*1) z) p 1 false false),(.imm (List.take (q*1) aa) q 1 false false)]))))) (r0 [(.bool o),(.imm (List.take (i*1) m) i 1 false false),(.imm (List.take (j*1) n) j 1 false false)]))) none) (Ds N (List.take (i*1) m) i false true (List.take (f*1) l) f false true (fun r ak al ab am=>(Ds N (List.take (j*1) n) j false true (List.take (f*1) l) f false true (fun s an ao ac ap=>(r0 [(.bool o),(.imm (List.take (r*1) ab) r 1 false false),(.imm (List.take (s*1) ac) s 1 false false)]))))))))))))) none)))
def Ayi (N:Nat) (a:LA) (b:Bool) (c:LA) (d:Nat) (g e:Bool) (r0:LA→Option R):Option R:=(Ayh N r0 a b c d g e)
def Ly:=(Al (@Ayi R)).1
theorem Avs:@Ly R=@Ayi R:=(Al _).2
def A1j:Hints:={ H:=(hS (hR [1,2,4]) (hS (hR [1,2,4]) (hS (hS (hR [1,2,4,13]) (hN [1,2,4] (hS (hR [4]) hL) hL)) (hS (hR [1,2,4,5]) (hS (hS (hR [1,2,4,5,28]) (hN [1,2,4] (hS (hR [1,2,4,5]) (hR [1,2,4])) hL)) (hS (hR [4]) hL)))))),nils:=[],modes:=[(3,0)],free:=[],cob:=[2] }
def Ap3 (N:Nat):List (Nat×Tw):=[(172,Bd2 N),(173,Aam N),(174,Bi4 N),(175,Aju N)]
def Ajz  (F:KF R):LA→Option R:=(fun ad=>F (.pagg ad false) [])
theorem Aj0 (N:Nat) (a:LA) (b:Bool) (c:LA) (d:Nat) (g e:Bool) (F:KF R):Ac Tryz.prog muts (Ap3 N) A1j N 133 [(.pagg a b),(.imm c d 1 g e)] [] F=(Ly N a b c d g e (Ajz F)):=by
 have hK:Ac Tryz.prog muts (Ap3 N) A1j N 133 [(.pagg a b),(.imm c d 1 g e)] [] F=(Ayh N (Ajz F) a b c d g e):=by kernel_rfl
 rw [Avs]
 exact hK
def Uc (N:Nat) (args:List AV) (h:Ak) (k:KF R):Option R :=
 match args,h with
 | [(.pagg a b),(.imm c d 1 g e)],[]=>(Ly N a b c d g e (Ajz k))
 | _,_=>none
def Xx (N:Nat):Tw:=⟨Uc N,fun args h k=>by
 unfold Uc;split
 exact twE (Aj0 ..) (Aj0 ..)
 rfl⟩
theorem Aj1 (N:Nat):Az Tryz.prog 133 (Xx N):=fun args h res t hh=>by
 change Uc N args h (fun v t=>some (v,t))=_ at hh
 unfold Uc at hh;split at hh
 exact Aa (T:=Ap3 N) ⟨Bps N,Ajp N,Br5 N,A1f N,trivial⟩ follows ((Aj0 ..).trans hh)
 cases hh
def A1k (N:Nat) (r0:LA→Option R)  (a:LA) (b:Bool):Option R :=
 (cond (Nat.ble 3 (List.length a)) (Fh N (List.take 3 a) b (fun f g i=>(cond i (H1 N f g (fun c=>(cond ((Nat.beq 0 0)&&((Nat.beq (List.length c) 3)&&(Nat.beq 3 3))) (cond (Nat.ble 3 (List.length c)) (r0 (List.take 3 c)) none) none))) (cond (Nat.ble 3 (List.length a)) (I0 N (List.take 3 a) b (fun j l m n o=>(Ly N j l m n false o (fun d=>(cond ((Nat.beq 0 0)&&((Nat.beq (List.length d) 3)&&(Nat.beq 3 3))) (cond (Nat.ble 3 (List.length d)) (r0 (List.take 3 d)) none) none))))) none)))) none)
def A1l (N:Nat) (a:LA) (b:Bool) (r0:LA→Option R):Option R:=(A1k N r0 a b)
def Ac1:=(Al (@A1l R)).1
theorem Ap4:@Ac1 R=@A1l R:=(Al _).2
def Bd6:Hints:={ H:=(hS (hR [1,2]) (hS (hS (hR [1,2,3,4,5]) (hS (hR [1,2,3,4,12]) (hN [1,2] (hS (hR [2]) hL) hL))) (hS (hR [2]) hL))),nils:=[],modes:=[(3,0)],free:=[],cob:=[] }
def A5d (N:Nat):List (Nat×Tw):=[(99,Va N),(131,Pt N),(101,Ol N),(133,Xx N)]
def Ayj  (F:KF R):LA→Option R:=(fun p=>F (.pagg p false) [])
theorem Ayk (N:Nat) (a:LA) (b:Bool) (F:KF R):Ac Tryz.prog muts (A5d N) Bd6 N 130 [(.pagg a b)] [] F=(Ac1 N a b (Ayj F)):=by
 have hK:Ac Tryz.prog muts (A5d N) Bd6 N 130 [(.pagg a b)] [] F=(A1k N (Ayj F) a b):=by kernel_rfl
 rw [Ap4]
 exact hK
def Ac2 (N:Nat) (args:List AV) (h:Ak) (k:KF R):Option R :=
 match args,h with
 | [(.pagg a b)],[]=>(Ac1 N a b (Ayj k))
 | _,_=>none
def Ayl (N:Nat):Tw:=⟨Ac2 N,fun args h k=>by
 unfold Ac2;split
 exact twE (Ayk ..) (Ayk ..)
 rfl⟩
theorem Bd7 (N:Nat):Az Tryz.prog 130 (Ayl N):=fun args h res e hh=>by
 change Ac2 N args h (fun v e=>some (v,e))=_ at hh
 unfold Ac2 at hh;split at hh
 exact Aa (T:=A5d N) ⟨Acw N,Aal N,U8 N,Aj1 N,trivial⟩ follows ((Ayk ..).trans hh)
 cases hh
def Aa2 (N:Nat)  (r0:Nat→LA→Option R) (b:LA) (a:Nat) (e:Bool) (f:LA) (c:Nat) (g:Bool) (k1:Nat→Int→Int→Int→LA→Option R)  (j:Nat) (l m d:Int) (i:LA):Option R :=
 (cond (decide (d<m)) (cond (Aj d a) (rdI .u32 (List.drop ((Int.toNat d)*1) b) fun y=>(cond (decide (d<((c:Nat):Int))) (cond (Aj d c) (rdI .u32 (List.drop ((Int.toNat d)*1) f) fun ab=>(cond (Aj d j) (cond ((Nat.beq 1 1)&&((Nat.ble ((0+((Int.toNat d)*1))+1) (List.length i))&&(!false))) (k1 j (Int.fdiv (IntKind.wrap .u64 ((IntKind.wrap .u64 (l+(IntKind.wrap .u64 y)))+(IntKind.wrap .u64 ab))) (2 ^ 32)) m (IntKind.wrap .i64 (d+(1:Int))) (List.set i (0+((Int.toNat d)*1)) (.int .u32 (IntKind.wrap .u32 (IntKind.wrap .u64 ((IntKind.wrap .u64 (l+(IntKind.wrap .u64 y)))+(IntKind.wrap .u64 ab))))))) none) none)) none) (cond (Aj d j) (cond ((Nat.beq 1 1)&&((Nat.ble ((0+((Int.toNat d)*1))+1) (List.length i))&&(!false))) (k1 j (Int.fdiv (IntKind.wrap .u64 (l+(IntKind.wrap .u64 y))) (2 ^ 32)) m (IntKind.wrap .i64 (d+(1:Int))) (List.set i (0+((Int.toNat d)*1)) (.int .u32 (IntKind.wrap .u32 (IntKind.wrap .u64 (l+(IntKind.wrap .u64 y))))))) none) none))) none) (cond (Aj ((a:Nat):Int) j) (cond ((Nat.beq 1 1)&&((Nat.ble ((0+(a*1))+1) (List.length i))&&(!false))) (Vw N j (List.set i (0+(a*1)) (.int .u32 (IntKind.wrap .u32 l))) (fun af=>(r0 af (List.set i (0+(a*1)) (.int .u32 (IntKind.wrap .u32 l)))))) none) none))
def Si (N:Nat)  (r0:Nat→LA→Option R) (b:LA) (a:Nat) (e:Bool) (f:LA) (c:Nat) (g:Bool):Nat→Nat→Int→Int→Int→LA→Option R
 | 0,_,_,_,_,_=>none
 | n+1,j,l,m,d,i=>(Aa2 N r0 b a e f c g (Si N r0 b a e f c g n) j l m d i)
def Aym (N:Nat)  (r0:Nat→LA→Option R)   (q1:Nat→Int→Int→Int→LA→Option R) (b:LA) (a:Nat) (e:Bool) (f:LA) (c:Nat) (g:Bool):Option R :=
 (cond ((decide ((0:Int)≤(IntKind.wrap .i64 (((a:Nat):Int)+(1:Int)))))&&((decide ((IntKind.wrap .i64 (((a:Nat):Int)+(1:Int)))≤(IntKind.wrap .i64 (((a:Nat):Int)+(1:Int)))))&&((decide ((IntKind.wrap .i64 (((a:Nat):Int)+(1:Int)))≤(140737488355328:Int)))&&(decide (((IntKind.wrap .i64 (((a:Nat):Int)+(1:Int)))*((4:Nat):Int))≤(140737488355328:Int)))))) (q1 (Int.toNat (IntKind.wrap .i64 (((a:Nat):Int)+(1:Int)))) 0 ((a:Nat):Int) 0 (List.replicate (Int.toNat (IntKind.wrap .i64 (((a:Nat):Int)+(1:Int)))) (.int .u32 0))) none)
def Ate (N:Nat)  (r0:Nat→LA→Option R)  (b:LA) (a:Nat) (e:Bool) (f:LA) (c:Nat) (g:Bool):Option R:=(Aym N r0 (fun j l m d i=>(Si N r0 b a e f c g N j l m d i)) b a e f c g)
def Baz (N:Nat) (r0:Nat→LA→Option R) (q0:LA→Nat→Bool→LA→Nat→Bool→Option R) (q:LA) (r:Nat) (t o:Bool) (u:LA) (w:Nat) (x p:Bool):Option R :=
 (Bv N q r t o (fun ac z=>(Bv N u w x p (fun ad aa=>(cond (decide (((z:Nat):Int)<((aa:Nat):Int))) (q0 ad aa p ac z o) (q0 ac z o ad aa p))))))
def Ba0 (N:Nat) (q:LA) (r:Nat) (t o:Bool) (u:LA) (w:Nat) (x p:Bool) (r0:Nat→LA→Option R):Option R:=(Baz N r0 (fun b a e f c g=>(Ate N r0 b a e f c g)) q r t o u w x p)
def Bd8:=(Al (@Ba0 R)).1
theorem Ayn:@Bd8 R=@Ba0 R:=(Al _).2
def Atf:Hints:={ H:=(hS (hR [0,1]) (hS (hR [0,1]) (hJ (hS (hR [0,1,17]) (hN [0,1] (hR [0,1]) hL)) (hS (hR [0,1,5]) (hS (hR [0,1,5,6]) (hS (hS (hR [0,1,5,6,24,25,26]) (hN [0,5,6] (hN [0,1,5,6,24,25,26] (hS (hR [0,1,5,6,24,25,26,27]) (hS (hN [0,1,5,6,24,25,26] hL hL) (hS (hN [0,1,5,6,24,25,26] (hS (hR [0,1,5,6,7,8,24,25,26]) (hS (hR [0,1,5,6,7,24,25,26]) (hS (hS (hR [0,1,5,6,7,24,25,26,38]) (hN [0,1,5,6,7,24,25,26] (hR [0,1,5,6,7,24,25,26]) hL)) (hS (hR [0,1,5,6,24,25,26]) (hR [0,1,5,6,24,25,26]))))) hL) (hR [0,1,5,6,24,25,26])))) hL) hL)) (hS (hR [5]) (hS (hR [4]) hL)))))))),nils:=[(4,1)],modes:=[(2,1)],free:=[],cob:=[] }
def A1m (N:Nat):List (Nat×Tw):=[(171,Cz N)]
def Agz (N:Nat):Env:=mkE 62 Atf (A1m N)
def Bpv (N:Nat) (F:KF R):=As (Agz N) Tryz.f176 Atf.modes [] F
def Atg (N:Nat) (F:KF R):=atF (Agz N) [] N Tryz.f176 Atf (Bpv N F)
def Sj  (F:KF R):Nat→LA→Option R:=(fun ag ah=>F (.own 300000 0 ag) [(300000,⟨false,false,true,false,1,ah,false⟩)])
def Y1 (b:LA) (a:Nat) (e:Bool) (f:LA) (c:Nat) (g:Bool) (j:Nat) (l m d:Int) (i:LA):St:={ s:=[(0,(.imm b a 1 false e)),(1,(.imm f c 1 false g)),(5,(.own 300000 0 j)),(6,(.int .u64 l)),(24,(.imm b a 1 false e)),(25,(.int .i64 m)),(26,(.int .i64 d))],h:=[(300000,⟨false,false,true,false,1,i,false⟩)] }
def Bi5 (N:Nat) (F:KF R):St→Option R:=Bx (Agz N) [] N (Atg N F [1,1,1,1,1,0,1,0] []) N
def Ath (N:Nat) (F:KF R) (n:Nat):St→Option R:=A9 (Agz N) [] N (Atg N F [1,1,1,1,1,0,1,0] []) n
def Ati (b:LA) (a:Nat) (e:Bool) (f:LA) (c:Nat) (g:Bool):St:={ s:=[(0,(.imm b a 1 false e)),(1,(.imm f c 1 false g))],h:=[] }
def Bi6 (N:Nat) (F:KF R):St→Option R:=Bh (Agz N) [] N (Atg N F [1,1,1] [])
def Bi7 (N:Nat) (F:KF R):St→Option R:=Bl (Agz N) [] N (Atg N F [1,1,1] [])
theorem Blq (N:Nat)  (F:KF R) (b:LA) (a:Nat) (e:Bool) (f:LA) (c:Nat) (g:Bool):∀ (n j:Nat) (l m d:Int) (i:LA),Ath N F n (Y1 b a e f c g j l m d i)=(Si N (Sj F) b a e f c g n j l m d i):=by
 intro n
 induction n with
 | zero=>intros;kernel_rfl
 | succ n ih =>
  intro j l m d i
  have e0:=funext fun j=>funext fun l=>funext fun m=>funext fun d=>funext fun i=>(show Ath N F n (Y1 b a e f c g j l m d i)=_ from ih j l m d i)
  have hK:Ath N F (n+1) (Y1 b a e f c g j l m d i)=(Aa2 N (Sj F) b a e f c g (fun j l m d i=>Ath N F n (Y1 b a e f c g j l m d i)) j l m d i):=by kernel_rfl
  exact hK.trans (by rw [e0];rfl)
theorem Blr (N:Nat)  (F:KF R) :∀ (b:LA) (a:Nat) (e:Bool) (f:LA) (c:Nat) (g:Bool),Bi7 N F (Ati b a e f c g)=(Ate N (Sj F) b a e f c g):=by
 intro b a e f c g
 have e1:=funext fun j=>funext fun l=>funext fun m=>funext fun d=>funext fun i=>(show Bi5 N F (Y1 b a e f c g j l m d i)=_ from (Au ..).trans (Blq N F b a e f c g N j l m d i))
 have hK:Bi7 N F (Ati b a e f c g)=(Aym N (Sj F) (fun j l m d i=>Bi5 N F (Y1 b a e f c g j l m d i)) b a e f c g):=by kernel_rfl
 exact hK.trans (by rw [e1];rfl)
theorem A5e (N:Nat) (q:LA) (r:Nat) (t o:Bool) (u:LA) (w:Nat) (x p:Bool) (F:KF R):Ac Tryz.prog muts (A1m N) Atf N 176 [(.imm q r 1 t o),(.imm u w 1 x p)] [] F=(Bd8 N q r t o u w x p (Sj F)):=by
 have e1:=funext fun b=>funext fun a=>funext fun e=>funext fun f=>funext fun c=>funext fun g=>(show Bi6 N F (Ati b a e f c g)=_ from (Aq ..).trans (Blr N F b a e f c g))
 have hK:Ac Tryz.prog muts (A1m N) Atf N 176 [(.imm q r 1 t o),(.imm u w 1 x p)] [] F=(Baz N (Sj F) (fun b a e f c g=>Bi6 N F (Ati b a e f c g)) q r t o u w x p):=by kernel_rfl
 rw [Ayn]
 exact hK.trans (by rw [e1];rfl)
def Aj2 (N:Nat) (args:List AV) (h:Ak) (k:KF R):Option R :=
 match args,h with
 | [(.imm q r 1 t o),(.imm u w 1 x p)],[]=>(Bd8 N q r t o u w x p (Sj k))
 | _,_=>none
def Bi8 (N:Nat):Tw:=⟨Aj2 N,fun args h k=>by
 unfold Aj2;split
 exact twE (A5e ..) (A5e ..)
 rfl⟩
theorem Br6 (N:Nat):Az Tryz.prog 176 (Bi8 N):=fun args h res ae hh=>by
 change Aj2 N args h (fun v ae=>some (v,ae))=_ at hh
 unfold Aj2 at hh;split at hh
 exact Aa (T:=A1m N) ⟨D4 N,trivial⟩ follows ((A5e ..).trans hh)
 cases hh
def A1n (N:Nat) (r0:Bool→Nat→LA→Option R)  (a:LA) (c:Bool) (b:LA) (d:Bool):Option R :=
 (rdB a fun n=>(rdB b fun o=>(cond (n==o) (rdB a fun p=>(rdL 1 (List.drop 1 a) fun q r=>(rdL 1 (List.drop 1 b) fun s t=>(Bd8 N q r false c s t false d (fun e f=>(Hf N p e f (fun u=>(r0 u e f)))))))) (rdL 1 (List.drop 1 a) fun w x=>(rdL 1 (List.drop 1 b) fun y z=>(Apz N w x false c y z false d (fun g aa i=>(cond aa (rdB a fun ab=>(Hf N ab g i (fun ac=>(r0 ac g i)))) (rdL 1 (List.drop 1 b) fun ad ae=>(rdL 1 (List.drop 1 a) fun af ag=>(Apz N ad ae false d af ag false c (fun j am l=>(rdB b fun ah=>(Hf N ah j l (fun ai=>(r0 ai j l))))))))))))))))
def A1o (N:Nat) (a:LA) (c:Bool) (b:LA) (d:Bool) (r0:Bool→Nat→LA→Option R):Option R:=(A1n N r0 a c b d)
def A5f:=(Al (@A1o R)).1
theorem Aj3:@A5f R=@A1o R:=(Al _).2
def Bi9:Hints:={ H:=(hS (hR [2,3,4]) (hS (hS (hR [2,3,4,13]) (hN [2,3,4] (hS (hR [4]) hL) hL)) (hS (hS (hR [2,3,4,5,6]) (hS (hR [2,3,4,5,30]) (hN [2,3,4] (hS (hR [4]) hL) hL))) (hS (hR [3,4,7]) (hS (hR [4]) hL))))),nils:=[],modes:=[],free:=[],cob:=[] }
def Bd9 (N:Nat):List (Nat×Tw):=[(176,Bi8 N),(148,Pe N),(177,A5a N)]
def A5g  (F:KF R):Bool→Nat→LA→Option R:=(fun aj ak al=>F (.agg [(.bool aj),(.own 300000 0 ak)]) [(300000,⟨false,false,true,false,1,al,false⟩)])
theorem A5h (N:Nat) (a:LA) (c:Bool) (b:LA) (d:Bool) (F:KF R):Ac Tryz.prog muts (Bd9 N) Bi9 N 134 [(.pagg a c),(.pagg b d)] [] F=(A5f N a c b d (A5g F)):=by
 have hK:Ac Tryz.prog muts (Bd9 N) Bi9 N 134 [(.pagg a c),(.pagg b d)] [] F=(A1n N (A5g F) a c b d):=by kernel_rfl
 rw [Aj3]
 exact hK
def Aj4 (N:Nat) (args:List AV) (h:Ak) (k:KF R):Option R :=
 match args,h with
 | [(.pagg a c),(.pagg b d)],[]=>(A5f N a c b d (A5g k))
 | _,_=>none
def Bja (N:Nat):Tw:=⟨Aj4 N,fun args h k=>by
 unfold Aj4;split
 exact twE (A5h ..) (A5h ..)
 rfl⟩
theorem Br7 (N:Nat):Az Tryz.prog 134 (Bja N):=fun args h res m hh=>by
 change Aj4 N args h (fun v m=>some (v,m))=_ at hh
 unfold Aj4 at hh;split at hh
 exact Aa (T:=Bd9 N) ⟨Br6 N,Xf N,Biz N,trivial⟩ follows ((A5h ..).trans hh)
 cases hh
def Aj5 (N:Nat)  (r0:LA→Option R) (c:Bool) (a:LA) (d:Bool) (b:LA)   :Option R :=
 (cond (Nat.ble 3 (List.length a)) (I0 N (List.take 3 a) c (fun l aa o p m=>(cond ((Nat.beq 0 0)&&((Nat.beq (List.length l) 2)&&(Nat.beq 2 2))) (cond (Nat.ble 3 (List.length b)) (I0 N (List.take 3 b) d (fun n ab r t q=>(cond ((Nat.beq 0 0)&&((Nat.beq (List.length n) 2)&&(Nat.beq 2 2))) (C7 N o p false m r t false q (fun ai=>(cond (ai==(0:Int)) (cond (Nat.ble 2 (List.length l)) (cond (Nat.ble 2 (List.length n)) (A5f N (List.take 2 l) aa (List.take 2 n) ab (fun aj ac ak=>(Ly N [(.bool aj),(.imm (List.take (ac*1) ak) ac 1 false true)] true o p false m (fun u=>(cond ((Nat.beq 0 0)&&((Nat.beq (List.length u) 3)&&(Nat.beq 3 3))) (cond (Nat.ble 3 (List.length u)) (r0 (List.take 3 u)) none) none))))) none) none) (cond (Nat.ble 2 (List.length l)) (Ajk N (List.take 2 l) aa [(.bool false),(.imm r t 1 false q)] (q||false) (fun al ad am=>(cond (Nat.ble 2 (List.length n)) (Ajk N (List.take 2 n) ab [(.bool false),(.imm o p 1 false m)] (m||false) (fun an ae ao=>(A5f N [(.bool al),(.imm (List.take (ad*1) am) ad 1 false true)] true [(.bool an),(.imm (List.take (ae*1) ao) ae 1 false true)] true (fun ap af aq=>(Ajh N o p false m r t false q (fun ag ar=>(Ly N [(.bool ap),(.imm (List.take (af*1) aq) af 1 false true)] true (List.take (ag*1) ar) ag false true (fun w=>(cond ((Nat.beq 0 0)&&((Nat.beq (List.length w) 3)&&(Nat.beq 3 3))) (cond (Nat.ble 3 (List.length w)) (r0 (List.take 3 w)) none) none))))))))) none))) none)))) none))) none) none))) none)
def Ag0 (N:Nat)  (r0:LA→Option R) (c:Bool) (a:LA) (d:Bool) (b:LA) :Option R:=(Aj5 N r0 c a d b)
def Aj6 (N:Nat)  (r0:LA→Option R) (g e i f:Int) (c:Bool) (a:LA) (d:Bool) (b:LA)  (q1:Option R) (j:Bool):Option R :=
 (cond j (H1 N (IntKind.wrap .i64 ((IntKind.wrap .i64 (g*f))+(IntKind.wrap .i64 (i*e)))) (IntKind.wrap .i64 (e*f)) (fun x=>(cond ((Nat.beq 0 0)&&((Nat.beq (List.length x) 3)&&(Nat.beq 3 3))) (cond (Nat.ble 3 (List.length x)) (r0 (List.take 3 x)) none) none))) q1)
def Sk (N:Nat)  (r0:LA→Option R) (g e i f:Int) (c:Bool) (a:LA) (d:Bool) (b:LA) (j:Bool):Option R:=(Aj6 N r0 g e i f c a d b (Ag0 N r0 c a d b) j)
def A1p (N:Nat) (r0:LA→Option R) (q0:Int→Int→Int→Int→Bool→Option R) (a:LA) (c:Bool) (b:LA) (d:Bool):Option R :=
 (cond (Nat.ble 3 (List.length a)) (Xo N (List.take 3 a) c (fun au=>(cond (au==(0:Int)) (cond (Nat.ble 3 (List.length b)) (Ac1 N (List.take 3 b) d (fun y=>(cond ((Nat.beq 0 0)&&((Nat.beq (List.length y) 3)&&(Nat.beq 3 3))) (cond (Nat.ble 3 (List.length y)) (r0 (List.take 3 y)) none) none))) none) (cond (Nat.ble 3 (List.length b)) (Xo N (List.take 3 b) d (fun av=>(cond (av==(0:Int)) (cond (Nat.ble 3 (List.length a)) (Ac1 N (List.take 3 a) c (fun z=>(cond ((Nat.beq 0 0)&&((Nat.beq (List.length z) 3)&&(Nat.beq 3 3))) (cond (Nat.ble 3 (List.length z)) (r0 (List.take 3 z)) none) none))) none) (cond (Nat.ble 3 (List.length a)) (Fh N (List.take 3 a) c (fun g e aw=>(cond (Nat.ble 3 (List.length b)) (Fh N (List.take 3 b) d (fun i f ax=>(cond (aw==true) (q0 g e i f (cond true ax false)) (q0 g e i f false)))) none))) none)))) none)))) none)
def A1q (N:Nat) (a:LA) (c:Bool) (b:LA) (d:Bool) (r0:LA→Option R):Option R:=(A1p N r0 (fun g e i f j=>(Sk N r0 g e i f c a d b j)) a c b d)
def Ap5:=(Al (@A1q R)).1
theorem Aj7:@Ap5 R=@A1q R:=(Al _).2
def Atj:Hints:={ H:=(hS (hR [2,3,4]) (hS (hS (hR [2,3,4,18]) (hN [2,3,4] (hS (hR [4]) hL) hL)) (hS (hS (hR [2,3,4,23]) (hN [2,3,4] (hS (hR [4]) hL) hL)) (hS (hR [2,3,4,5,6,7]) (hS (hR [2,3,4,5,6,7,8,9,10]) (hJ (hJ (hR [2,3,4,5,6,8,9,41]) (hN [2,3,4] (hS (hR [4]) hL) hL)) (hS (hR [3,4,11,12]) (hS (hR [4,11,12,13,14]) (hS (hS (hR [4,11,12,13,14,66]) (hN [4,11,12,13,14] (hS (hR [4]) hL) hL)) (hS (hR [4,12,14,15]) (hS (hR [4]) hL))))))))))),nils:=[],modes:=[(3,0)],free:=[],cob:=[] }
def A1r (N:Nat):List (Nat×Tw):=[(95,Ai8 N),(130,Ayl N),(99,Va N),(131,Pt N),(101,Ol N),(132,E5 N),(134,Bja N),(133,Xx N),(103,As8 N),(135,Agn N)]
def Ag1 (N:Nat):Env:=mkE 86 Atj (A1r N)
def Bpw (N:Nat) (F:KF R):=As (Ag1 N) Tryz.f81 Atj.modes [] F
def Atk (N:Nat) (F:KF R):=atF (Ag1 N) [] N Tryz.f81 Atj (Bpw N F)
def Sm  (F:KF R):LA→Option R:=(fun ay=>F (.pagg ay false) [])
def Atl (c:Bool) (a:LA) (d:Bool) (b:LA):St:={ s:=[(2,(.optr 300000 0)),(3,(.optr 300001 0)),(4,(.optr 300002 0))],h:=[(300000,⟨false,false,true,c,0,a,false⟩),(300001,⟨false,false,true,d,0,b,false⟩),(300002,⟨false,false,false,false,0,[(.bool false),.nsl,.nsl],false⟩)] }
def Bjb (N:Nat) (F:KF R):St→Option R:=Bh (Ag1 N) [] N (Atk N F [1,1,1,1,1,1] [])
def Bjc (N:Nat) (F:KF R):St→Option R:=Bl (Ag1 N) [] N (Atk N F [1,1,1,1,1,1] [])
def Atm (g e i f:Int) (c:Bool) (a:LA) (d:Bool) (b:LA) (j:Bool):St:={ s:=[(2,(.optr 300000 0)),(3,(.optr 300001 0)),(4,(.optr 300002 0)),(5,(.int .i64 g)),(6,(.int .i64 e)),(8,(.int .i64 i)),(9,(.int .i64 f)),(41,(.bool j))],h:=[(300000,⟨false,false,true,c,0,a,false⟩),(300001,⟨false,false,true,d,0,b,false⟩),(300002,⟨false,false,false,false,0,[(.bool false),.nsl,.nsl],false⟩)] }
def Bjd (N:Nat) (F:KF R):St→Option R:=Bh (Ag1 N) [] N (Atk N F [1,1,1,1,1,0,1] [])
def Bje (N:Nat) (F:KF R):St→Option R:=Bl (Ag1 N) [] N (Atk N F [1,1,1,1,1,0,1] [])
theorem Bls (N:Nat)  (F:KF R) (c:Bool) (a:LA) (d:Bool) (b:LA):Bjc N F (Atl c a d b)=(Ag0 N (Sm F) c a d b):=by
 have hK:Bjc N F (Atl c a d b)=(Aj5 N (Sm F) c a d b):=by kernel_rfl
 exact hK
theorem Blt (N:Nat)  (F:KF R) (g e i f:Int) (c:Bool) (a:LA) (d:Bool) (b:LA):∀ (j:Bool),Bje N F (Atm g e i f c a d b j)=(Sk N (Sm F) g e i f c a d b j):=by
 intro j
 have e1:=(show Bjb N F (Atl c a d b)=_ from (Aq ..).trans (Bls N F c a d b))
 have hK:Bje N F (Atm g e i f c a d b j)=(Aj6 N (Sm F) g e i f c a d b (Bjb N F (Atl c a d b)) j):=by kernel_rfl
 exact hK.trans (by rw [e1];rfl)
theorem A5i (N:Nat) (a:LA) (c:Bool) (b:LA) (d:Bool) (F:KF R):Ac Tryz.prog muts (A1r N) Atj N 81 [(.pagg a c),(.pagg b d)] [] F=(Ap5 N a c b d (Sm F)):=by
 have e1:=funext fun g=>funext fun e=>funext fun i=>funext fun f=>funext fun j=>(show Bjd N F (Atm g e i f c a d b j)=_ from (Aq ..).trans (Blt N F g e i f c a d b j))
 have hK:Ac Tryz.prog muts (A1r N) Atj N 81 [(.pagg a c),(.pagg b d)] [] F=(A1p N (Sm F) (fun g e i f j=>Bjd N F (Atm g e i f c a d b j)) a c b d):=by kernel_rfl
 rw [Aj7]
 exact hK.trans (by rw [e1];rfl)
def Aj8 (N:Nat) (args:List AV) (h:Ak) (k:KF R):Option R :=
 match args,h with
 | [(.pagg a c),(.pagg b d)],[]=>(Ap5 N a c b d (Sm k))
 | _,_=>none
def A5j (N:Nat):Tw:=⟨Aj8 N,fun args h k=>by
 unfold Aj8;split
 exact twE (A5i ..) (A5i ..)
 rfl⟩
theorem Bjf (N:Nat):Az Tryz.prog 81 (A5j N):=fun args h res ah hh=>by
 change Aj8 N args h (fun v ah=>some (v,ah))=_ at hh
 unfold Aj8 at hh;split at hh
 exact Aa (T:=A1r N) ⟨Axs N,Bd7 N,Acw N,Aal N,U8 N,Hi N,Br7 N,Aj1 N,A4z N,As7 N,trivial⟩ follows ((A5i ..).trans hh)
 cases hh
def Blu (N:Nat) (r0:LA→Option R)  (a:LA) (b:Bool) (c:LA) (d:Bool):Option R :=
 (rdB a fun g=>(rdL 1 (List.drop 1 a) fun i j=>(rdL 1 (List.drop 2 a) fun l m=>(cond (Nat.beq (List.length a) 3) (rdB c fun n=>(rdL 1 (List.drop 1 c) fun o p=>(rdL 1 (List.drop 2 c) fun q r=>(cond (Nat.beq (List.length c) 3) (Ap5 N [(.bool g),(.imm i j 1 false b),(.imm l m 1 false b)] (b||(b||false)) [(.bool (!n)),(.imm o p 1 false d),(.imm q r 1 false d)] (d||(d||false)) (fun e=>(cond ((Nat.beq 0 0)&&((Nat.beq (List.length e) 3)&&(Nat.beq 3 3))) (cond (Nat.ble 3 (List.length e)) (r0 (List.take 3 e)) none) none))) none)))) none))))
def Blv (N:Nat) (a:LA) (b:Bool) (c:LA) (d:Bool) (r0:LA→Option R):Option R:=(Blu N r0 a b c d)
def Ap6:=(Al (@Blv R)).1
theorem Bea:@Ap6 R=@Blv R:=(Al _).2
def Bjg:Hints:={ H:=(hS (hR [2,3,4]) (hS (hR [2,3,4]) (hS (hR [4]) hL))),nils:=[],modes:=[(3,0)],free:=[],cob:=[2,3] }
def Beb (N:Nat):List (Nat×Tw):=[(81,A5j N)]
def A5k  (F:KF R):LA→Option R:=(fun s=>F (.pagg s false) [])
theorem A5l (N:Nat) (a:LA) (b:Bool) (c:LA) (d:Bool) (F:KF R):Ac Tryz.prog muts (Beb N) Bjg N 83 [(.pagg a b),(.pagg c d)] [] F=(Ap6 N a b c d (A5k F)):=by
 have hK:Ac Tryz.prog muts (Beb N) Bjg N 83 [(.pagg a b),(.pagg c d)] [] F=(Blu N (A5k F) a b c d):=by kernel_rfl
 rw [Bea]
 exact hK
def Aj9 (N:Nat) (args:List AV) (h:Ak) (k:KF R):Option R :=
 match args,h with
 | [(.pagg a b),(.pagg c d)],[]=>(Ap6 N a b c d (A5k k))
 | _,_=>none
def Bjh (N:Nat):Tw:=⟨Aj9 N,fun args h k=>by
 unfold Aj9;split
 exact twE (A5l ..) (A5l ..)
 rfl⟩
theorem Br8 (N:Nat):Az Tryz.prog 83 (Bjh N):=fun args h res f hh=>by
 change Aj9 N args h (fun v f=>some (v,f))=_ at hh
 unfold Aj9 at hh;split at hh
 exact Aa (T:=Beb N) ⟨Bjf N,trivial⟩ follows ((A5l ..).trans hh)
 cases hh
def Ba1 (N:Nat) (r0:LA→Option R)  (a:LA) (c:Bool) (b:LA) (d:Bool):Option R :=
 (cond (Nat.ble 3 (List.length a)) (cond (Nat.ble 3 (List.length b)) (Gj N (List.take 3 a) c (List.take 3 b) d (fun i=>(cond (decide (i≤(0:Int))) (cond (Nat.ble 3 (List.length a)) (Ac1 N (List.take 3 a) c (fun e=>(cond ((Nat.beq 0 0)&&((Nat.beq (List.length e) 3)&&(Nat.beq 3 3))) (cond (Nat.ble 3 (List.length e)) (r0 (List.take 3 e)) none) none))) none) (cond (Nat.ble 3 (List.length b)) (Ac1 N (List.take 3 b) d (fun f=>(cond ((Nat.beq 0 0)&&((Nat.beq (List.length f) 3)&&(Nat.beq 3 3))) (cond (Nat.ble 3 (List.length f)) (r0 (List.take 3 f)) none) none))) none)))) none) none)
def Ba2 (N:Nat) (a:LA) (c:Bool) (b:LA) (d:Bool) (r0:LA→Option R):Option R:=(Ba1 N r0 a c b d)
def A5m:=(Al (@Ba2 R)).1
theorem Ayo:@A5m R=@Ba2 R:=(Al _).2
def Bji:Hints:={ H:=(hS (hR [2,3,4]) (hS (hS (hR [2,3,4,8]) (hN [3,4] (hS (hR [4]) hL) hL)) (hS (hR [4]) hL))),nils:=[],modes:=[(3,0)],free:=[],cob:=[] }
def Bec (N:Nat):List (Nat×Tw):=[(59,T2 N),(130,Ayl N)]
def A5n  (F:KF R):LA→Option R:=(fun j=>F (.pagg j false) [])
theorem A5o (N:Nat) (a:LA) (c:Bool) (b:LA) (d:Bool) (F:KF R):Ac Tryz.prog muts (Bec N) Bji N 96 [(.pagg a c),(.pagg b d)] [] F=(A5m N a c b d (A5n F)):=by
 have hK:Ac Tryz.prog muts (Bec N) Bji N 96 [(.pagg a c),(.pagg b d)] [] F=(Ba1 N (A5n F) a c b d):=by kernel_rfl
 rw [Ayo]
 exact hK
def Aka (N:Nat) (args:List AV) (h:Ak) (k:KF R):Option R :=
 match args,h with
 | [(.pagg a c),(.pagg b d)],[]=>(A5m N a c b d (A5n k))
 | _,_=>none
def Bjj (N:Nat):Tw:=⟨Aka N,fun args h k=>by
 unfold Aka;split
 exact twE (A5o ..) (A5o ..)
 rfl⟩
theorem Br9 (N:Nat):Az Tryz.prog 96 (Bjj N):=fun args h res g hh=>by
 change Aka N args h (fun v g=>some (v,g))=_ at hh
 unfold Aka at hh;split at hh
 exact Aa (T:=Bec N) ⟨Ae8 N,Bd7 N,trivial⟩ follows ((A5o ..).trans hh)
 cases hh
def Ayp (N:Nat)  (r0:LA→Option R) (c:Bool) (a:LA) (d:Bool) (b:LA)   :Option R :=
 (cond (Nat.ble 3 (List.length a)) (I0 N (List.take 3 a) c (fun e n o p q=>(cond ((Nat.beq 0 0)&&((Nat.beq (List.length e) 2)&&(Nat.beq 2 2))) (cond (Nat.ble 3 (List.length b)) (I0 N (List.take 3 b) d (fun f r t u w=>(cond ((Nat.beq 0 0)&&((Nat.beq (List.length f) 2)&&(Nat.beq 2 2))) (cond (Nat.ble 2 (List.length e)) (cond (Nat.ble 2 (List.length f)) (Ajk N (List.take 2 e) n (List.take 2 f) r (fun x j y=>(Ajh N o p false q t u false w (fun l z=>(Ly N [(.bool x),(.imm (List.take (j*1) y) j 1 false true)] true (List.take (l*1) z) l false true (fun g=>(cond ((Nat.beq 0 0)&&((Nat.beq (List.length g) 3)&&(Nat.beq 3 3))) (cond (Nat.ble 3 (List.length g)) (r0 (List.take 3 g)) none) none))))))) none) none) none))) none) none))) none)
def Atn (N:Nat)  (r0:LA→Option R) (c:Bool) (a:LA) (d:Bool) (b:LA) :Option R:=(Ayp N r0 c a d b)
def A1s (N:Nat) (r0:LA→Option R) (q0:Option R) (a:LA) (c:Bool) (b:LA) (d:Bool):Option R :=
 (cond (Nat.ble 3 (List.length a)) (Fh N (List.take 3 a) c (fun aa ab ac=>(cond (Nat.ble 3 (List.length b)) (Fh N (List.take 3 b) d (fun ad ae af=>(cond (ac==true) (cond (cond true af false) (H1 N (IntKind.wrap .i64 (aa*ad)) (IntKind.wrap .i64 (ab*ae)) (fun i=>(cond ((Nat.beq 0 0)&&((Nat.beq (List.length i) 3)&&(Nat.beq 3 3))) (cond (Nat.ble 3 (List.length i)) (r0 (List.take 3 i)) none) none))) q0) q0))) none))) none)
def A1t (N:Nat) (a:LA) (c:Bool) (b:LA) (d:Bool) (r0:LA→Option R):Option R:=(A1s N r0 (Atn N r0 c a d b) a c b d)
def A5p:=(Al (@A1t R)).1
theorem Akb:@A5p R=@A1t R:=(Al _).2
def Ato:Hints:={ H:=(hS (hR [2,3,4]) (hS (hR [2,3,4,5,6,7]) (hS (hR [2,3,4,5,6,7,8,9,10]) (hJ (hS (hR [2,3,4,5,6,8,9,30]) (hN [2,3,4] (hS (hR [4]) hL) hL)) (hS (hR [3,4,11,12]) (hS (hR [4,11,12,13,14]) (hS (hR [4]) hL))))))),nils:=[],modes:=[(3,0)],free:=[],cob:=[] }
def A1u (N:Nat):List (Nat×Tw):=[(99,Va N),(131,Pt N),(101,Ol N),(103,As8 N),(135,Agn N),(133,Xx N)]
def A1v (N:Nat):Env:=mkE 55 Ato (A1u N)
def Bpx (N:Nat) (F:KF R):=As (A1v N) Tryz.f82 Ato.modes [] F
def Bjk (N:Nat) (F:KF R):=atF (A1v N) [] N Tryz.f82 Ato (Bpx N F)
def Ag2  (F:KF R):LA→Option R:=(fun ag=>F (.pagg ag false) [])
def Atp (c:Bool) (a:LA) (d:Bool) (b:LA):St:={ s:=[(2,(.optr 300000 0)),(3,(.optr 300001 0)),(4,(.optr 300002 0))],h:=[(300000,⟨false,false,true,c,0,a,false⟩),(300001,⟨false,false,true,d,0,b,false⟩),(300002,⟨false,false,false,false,0,[(.bool false),.nsl,.nsl],false⟩)] }
def Bjl (N:Nat) (F:KF R):St→Option R:=Bh (A1v N) [] N (Bjk N F [1,1,1,1] [])
def Bjm (N:Nat) (F:KF R):St→Option R:=Bl (A1v N) [] N (Bjk N F [1,1,1,1] [])
theorem Blw (N:Nat)  (F:KF R) (c:Bool) (a:LA) (d:Bool) (b:LA):Bjm N F (Atp c a d b)=(Atn N (Ag2 F) c a d b):=by
 have hK:Bjm N F (Atp c a d b)=(Ayp N (Ag2 F) c a d b):=by kernel_rfl
 exact hK
theorem A5q (N:Nat) (a:LA) (c:Bool) (b:LA) (d:Bool) (F:KF R):Ac Tryz.prog muts (A1u N) Ato N 82 [(.pagg a c),(.pagg b d)] [] F=(A5p N a c b d (Ag2 F)):=by
 have e1:=(show Bjl N F (Atp c a d b)=_ from (Aq ..).trans (Blw N F c a d b))
 have hK:Ac Tryz.prog muts (A1u N) Ato N 82 [(.pagg a c),(.pagg b d)] [] F=(A1s N (Ag2 F) (Bjl N F (Atp c a d b)) a c b d):=by kernel_rfl
 rw [Akb]
 exact hK.trans (by rw [e1];rfl)
def Akc (N:Nat) (args:List AV) (h:Ak) (k:KF R):Option R :=
 match args,h with
 | [(.pagg a c),(.pagg b d)],[]=>(A5p N a c b d (Ag2 k))
 | _,_=>none
def Bjn (N:Nat):Tw:=⟨Akc N,fun args h k=>by
 unfold Akc;split
 exact twE (A5q ..) (A5q ..)
 rfl⟩
theorem Bsa (N:Nat):Az Tryz.prog 82 (Bjn N):=fun args h res m hh=>by
 change Akc N args h (fun v m=>some (v,m))=_ at hh
 unfold Akc at hh;split at hh
 exact Aa (T:=A1u N) ⟨Acw N,Aal N,U8 N,A4z N,As7 N,Aj1 N,trivial⟩ follows ((A5q ..).trans hh)
 cases hh
def A5r (N:Nat) (r0:LA→Option R)  (a:LA) (b:Bool):Option R :=
 (cond (Nat.ble 2 (List.length a)) (rdL 1 (List.drop 2 a) fun e f=>(Pd N (List.take 2 a) b [(.bool false),(.imm e f 1 false b)] (b||false) (fun c=>(cond ((Nat.beq 0 0)&&((Nat.beq (List.length c) 3)&&(Nat.beq 3 3))) (cond (Nat.ble 3 (List.length c)) (r0 (List.take 3 c)) none) none)))) none)
def A5s (N:Nat) (a:LA) (b:Bool) (r0:LA→Option R):Option R:=(A5r N r0 a b)
def P4:=(Al (@A5s R)).1
theorem A1w:@P4 R=@A5s R:=(Al _).2
def A8k:Hints:={ H:=(hS (hR [1,2]) (hS (hR [2]) hL)),nils:=[],modes:=[(3,0)],free:=[],cob:=[] }
def Ayq (N:Nat):List (Nat×Tw):=[(54,U7 N)]
def Ap7  (F:KF R):LA→Option R:=(fun g=>F (.pagg g false) [])
theorem Ap8 (N:Nat) (a:LA) (b:Bool) (F:KF R):Ac Tryz.prog muts (Ayq N) A8k N 70 [(.pagg a b)] [] F=(P4 N a b (Ap7 F)):=by
 have hK:Ac Tryz.prog muts (Ayq N) A8k N 70 [(.pagg a b)] [] F=(A5r N (Ap7 F) a b):=by kernel_rfl
 rw [A1w]
 exact hK
def Xy (N:Nat) (args:List AV) (h:Ak) (k:KF R):Option R :=
 match args,h with
 | [(.pagg a b)],[]=>(P4 N a b (Ap7 k))
 | _,_=>none
def Vf (N:Nat):Tw:=⟨Xy N,fun args h k=>by
 unfold Xy;split
 exact twE (Ap8 ..) (Ap8 ..)
 rfl⟩
theorem Ac3 (N:Nat):Az Tryz.prog 70 (Vf N):=fun args h res d hh=>by
 change Xy N args h (fun v d=>some (v,d))=_ at hh
 unfold Xy at hh;split at hh
 exact Aa (T:=Ayq N) ⟨Ack N,trivial⟩ follows ((Ap8 ..).trans hh)
 cases hh
def Bed (N:Nat) (r0:LA→Option R)  (a:LA) (b:Bool):Option R :=
 (cond (Nat.ble 3 (List.length a)) (P4 N (List.take 3 a) b (fun d=>(rdL 1 (List.drop 2 d) fun e f=>(r0 [(.bool false),(.imm e f 1 false false)])))) none)
def Bee (N:Nat) (a:LA) (b:Bool) (r0:LA→Option R):Option R:=(Bed N r0 a b)
def Xz:=(Al (@Bee R)).1
theorem A8l:@Xz R=@Bee R:=(Al _).2
def Bef:Hints:={ H:=(hS (hR [1,2]) (hS (hR [2]) hL)),nils:=[],modes:=[(3,0)],free:=[],cob:=[] }
def A5t (N:Nat):List (Nat×Tw):=[(70,Vf N)]
def Ayr  (F:KF R):LA→Option R:=(fun g=>F (.pagg g false) [])
theorem Ays (N:Nat) (a:LA) (b:Bool) (F:KF R):Ac Tryz.prog muts (A5t N) Bef N 73 [(.pagg a b)] [] F=(Xz N a b (Ayr F)):=by
 have hK:Ac Tryz.prog muts (A5t N) Bef N 73 [(.pagg a b)] [] F=(Bed N (Ayr F) a b):=by kernel_rfl
 rw [A8l]
 exact hK
def Ac4 (N:Nat) (args:List AV) (h:Ak) (k:KF R):Option R :=
 match args,h with
 | [(.pagg a b)],[]=>(Xz N a b (Ayr k))
 | _,_=>none
def Ayt (N:Nat):Tw:=⟨Ac4 N,fun args h k=>by
 unfold Ac4;split
 exact twE (Ays ..) (Ays ..)
 rfl⟩
theorem Beg (N:Nat):Az Tryz.prog 73 (Ayt N):=fun args h res c hh=>by
 change Ac4 N args h (fun v c=>some (v,c))=_ at hh
 unfold Ac4 at hh;split at hh
 exact Aa (T:=A5t N) ⟨Ac3 N,trivial⟩ follows ((Ays ..).trans hh)
 cases hh
def Beh (N:Nat) (r0:LA→Option R)  (a:LA) (b:Bool):Option R :=
 (cond (Nat.ble 3 (List.length a)) (P4 N (List.take 3 a) b (fun d=>(cond (Nat.ble 2 (List.length d)) (Xd N (List.take 2 d) false (fun f=>(cond (Nat.ble 3 (List.length a)) (Xz N (List.take 3 a) b (fun g=>(Pd N f false g false (fun c=>(cond ((Nat.beq 0 0)&&((Nat.beq (List.length c) 3)&&(Nat.beq 3 3))) (cond (Nat.ble 3 (List.length c)) (r0 (List.take 3 c)) none) none))))) none))) none))) none)
def Bei (N:Nat) (a:LA) (b:Bool) (r0:LA→Option R):Option R:=(Beh N r0 a b)
def A1x:=(Al (@Bei R)).1
theorem A8m:@A1x R=@Bei R:=(Al _).2
def Bej:Hints:={ H:=(hS (hR [1,2]) (hS (hR [2]) hL)),nils:=[],modes:=[(3,0)],free:=[],cob:=[] }
def A5u (N:Nat):List (Nat×Tw):=[(70,Vf N),(92,Ais N),(73,Ayt N),(54,U7 N)]
def Ayu  (F:KF R):LA→Option R:=(fun i=>F (.pagg i false) [])
theorem Ayv (N:Nat) (a:LA) (b:Bool) (F:KF R):Ac Tryz.prog muts (A5u N) Bej N 74 [(.pagg a b)] [] F=(A1x N a b (Ayu F)):=by
 have hK:Ac Tryz.prog muts (A5u N) Bej N 74 [(.pagg a b)] [] F=(Beh N (Ayu F) a b):=by kernel_rfl
 rw [A8m]
 exact hK
def Ac5 (N:Nat) (args:List AV) (h:Ak) (k:KF R):Option R :=
 match args,h with
 | [(.pagg a b)],[]=>(A1x N a b (Ayu k))
 | _,_=>none
def Bek (N:Nat):Tw:=⟨Ac5 N,fun args h k=>by
 unfold Ac5;split
 exact twE (Ayv ..) (Ayv ..)
 rfl⟩
theorem Bpy (N:Nat):Az Tryz.prog 74 (Bek N):=fun args h res e hh=>by
 change Ac5 N args h (fun v e=>some (v,e))=_ at hh
 unfold Ac5 at hh;split at hh
 exact Aa (T:=A5u N) ⟨Ac3 N,Axc N,Beg N,Ack N,trivial⟩ follows ((Ayv ..).trans hh)
 cases hh
def Ac6 (N:Nat) (k0:Nat→Int→LA→Option R) (r0:Nat→LA→Option R) (d:LA) (b:Nat) (f g:Bool) (e:LA) (a:Nat) (i j:Bool) (c:Nat) (k1:Int→Int→Int→LA→Option R)  (l p m:Int) (o:LA):Option R :=
 (cond (decide (m<((a:Nat):Int))) (cond (Aj (IntKind.wrap .i64 (l+m)) c) (rdI .u32 (List.drop (0+((Int.toNat (IntKind.wrap .i64 (l+m)))*1)) o) fun t=>(cond (Aj l b) (rdI .u32 (List.drop ((Int.toNat l)*1) d) fun u=>(cond (Aj m a) (rdI .u32 (List.drop ((Int.toNat m)*1) e) fun w=>(cond (Aj (IntKind.wrap .i64 (l+m)) c) (cond ((Nat.beq 1 1)&&((Nat.ble ((0+((Int.toNat (IntKind.wrap .i64 (l+m)))*1))+1) (List.length o))&&(!false))) (k1 l (Int.fdiv (IntKind.wrap .u64 (p+(IntKind.wrap .u64 ((IntKind.wrap .u64 t)+(IntKind.wrap .u64 ((IntKind.wrap .u64 u)*(IntKind.wrap .u64 w))))))) (2 ^ 32)) (IntKind.wrap .i64 (m+(1:Int))) (List.set o (0+((Int.toNat (IntKind.wrap .i64 (l+m)))*1)) (.int .u32 (IntKind.wrap .u32 (IntKind.wrap .u64 (p+(IntKind.wrap .u64 ((IntKind.wrap .u64 t)+(IntKind.wrap .u64 ((IntKind.wrap .u64 u)*(IntKind.wrap .u64 w))))))))))) none) none)) none)) none)) none) (cond (Aj (IntKind.wrap .i64 (l+((a:Nat):Int))) c) (cond ((Nat.beq 1 1)&&((Nat.ble ((0+((Int.toNat (IntKind.wrap .i64 (l+((a:Nat):Int))))*1))+1) (List.length o))&&(!false))) (k0 c (IntKind.wrap .i64 (l+(1:Int))) (List.set o (0+((Int.toNat (IntKind.wrap .i64 (l+((a:Nat):Int))))*1)) (.int .u32 (IntKind.wrap .u32 p)))) none) none))
def Oa (N:Nat) (k0:Nat→Int→LA→Option R) (r0:Nat→LA→Option R) (d:LA) (b:Nat) (f g:Bool) (e:LA) (a:Nat) (i j:Bool) (c:Nat):Nat→Int→Int→Int→LA→Option R
 | 0,_,_,_,_=>none
 | n+1,l,p,m,o=>(Ac6 N k0 r0 d b f g e a i j c (Oa N k0 r0 d b f g e a i j c n) l p m o)
def Ac7 (N:Nat)  (r0:Nat→LA→Option R) (d:LA) (b:Nat) (f g:Bool) (e:LA) (a:Nat) (i j:Bool) (k0:Nat→Int→LA→Option R) (q1:Int→Int→Int→LA→Option R) (c:Nat) (q:Int) (r:LA):Option R :=
 (cond (decide (q<((b:Nat):Int))) (q1 q 0 0 r) (Cy N (List.take (c*1) r) c false true (fun y z=>(r0 y z))))
def In (N:Nat)  (r0:Nat→LA→Option R) (d:LA) (b:Nat) (f g:Bool) (e:LA) (a:Nat) (i j:Bool):Nat→Nat→Int→LA→Option R
 | 0,_,_,_=>none
 | n+1,c,q,r=>(Ac7 N r0 d b f g e a i j (In N r0 d b f g e a i j n) (fun l p m o=>(Oa N (In N r0 d b f g e a i j n) r0 d b f g e a i j c N l p m o)) c q r)
def Bel (N:Nat) (r0:Nat→LA→Option R) (q0:Nat→Int→LA→Option R) (d:LA) (b:Nat) (f g:Bool) (e:LA) (a:Nat) (i j:Bool):Option R :=
 (cond ((decide ((0:Int)≤(IntKind.wrap .i64 (((b:Nat):Int)+((a:Nat):Int)))))&&((decide ((IntKind.wrap .i64 (((b:Nat):Int)+((a:Nat):Int)))≤(IntKind.wrap .i64 (((b:Nat):Int)+((a:Nat):Int)))))&&((decide ((IntKind.wrap .i64 (((b:Nat):Int)+((a:Nat):Int)))≤(140737488355328:Int)))&&(decide (((IntKind.wrap .i64 (((b:Nat):Int)+((a:Nat):Int)))*((4:Nat):Int))≤(140737488355328:Int)))))) (q0 (Int.toNat (IntKind.wrap .i64 (((b:Nat):Int)+((a:Nat):Int)))) 0 (List.replicate (Int.toNat (IntKind.wrap .i64 (((b:Nat):Int)+((a:Nat):Int)))) (.int .u32 0))) none)
def Bem (N:Nat) (d:LA) (b:Nat) (f g:Bool) (e:LA) (a:Nat) (i j:Bool) (r0:Nat→LA→Option R):Option R:=(Bel N r0 (fun c q r=>(In N r0 d b f g e a i j N c q r)) d b f g e a i j)
def A1y:=(Al (@Bem R)).1
theorem A8n:@A1y R=@Bem R:=(Al _).2
def Akd:Hints:={ H:=(hS (hR [0,1]) (hS (hR [0,1,5]) (hS (hS (hR [0,1,5,6]) (hN [5] (hN [0,1,5,6] (hS (hS (hR [0,1,5,6,18]) (hN [0,1,5,6] hL hL)) (hS (hN [0,1,5,6] (hS (hR [0,1,5,6,7]) (hS (hS (hR [0,1,5,6,7,8]) (hN [0,1,5,6,7] (hN [0,1,5,6,7,8] (hS (hS (hR [0,1,5,6,7,8,24]) (hN [0,1,5,6,7,8] hL hL)) (hS (hN [0,1,5,6,7,8] (hS (hR [0,1,5,6,7,8]) (hS (hR [0,1,5,6,7,8]) (hR [0,1,5,6,7,8]))) hL) (hR [0,1,5,6,7,8]))) hL) hL)) (hR [0,1,5,6]))) hL) (hR [0,1,5,6]))) hL) hL)) (hS (hR [4]) hL)))),nils:=[(4,1)],modes:=[(2,1)],free:=[],cob:=[] }
def Atq (N:Nat):List (Nat×Tw):=[(143,Dy N)]
def Y2 (N:Nat):Env:=mkE 67 Akd (Atq N)
def Bnw (N:Nat) (F:KF R):=As (Y2 N) Tryz.f124 Akd.modes [] F
def Ake (N:Nat) (F:KF R):=atF (Y2 N) [] N Tryz.f124 Akd (Bnw N F)
def Io  (F:KF R):Nat→LA→Option R:=(fun aa ab=>F (.own 300000 0 aa) [(300000,⟨false,false,true,false,1,ab,false⟩)])
def Sn (d:LA) (b:Nat) (f g:Bool) (e:LA) (a:Nat) (i j:Bool) (c:Nat) (l p m:Int) (o:LA):St:={ s:=[(0,(.imm d b 1 f g)),(1,(.imm e a 1 i j)),(5,(.own 300000 0 c)),(6,(.int .i64 l)),(7,(.int .u64 p)),(8,(.int .i64 m))],h:=[(300000,⟨false,false,true,false,1,o,false⟩)] }
def Ben (N:Nat) (F:KF R) (Q0:St→Option R):St→Option R:=Bx (Y2 N) [] N (Ake N F [1,1,0,1,0,0,1,0,0,1,0,1,0] [Q0]) N
def Akf (N:Nat) (F:KF R) (Q0:St→Option R) (n:Nat):St→Option R:=A9 (Y2 N) [] N (Ake N F [1,1,0,1,0,0,1,0,0,1,0,1,0] [Q0]) n
def Km (d:LA) (b:Nat) (f g:Bool) (e:LA) (a:Nat) (i j:Bool) (c:Nat) (q:Int) (r:LA):St:={ s:=[(0,(.imm d b 1 f g)),(1,(.imm e a 1 i j)),(5,(.own 300000 0 c)),(6,(.int .i64 q))],h:=[(300000,⟨false,false,true,false,1,r,false⟩)] }
def Beo (N:Nat) (F:KF R):St→Option R:=Bx (Y2 N) [] N (Ake N F [1,1,0,1,0] []) N
def Ob (N:Nat) (F:KF R) (n:Nat):St→Option R:=A9 (Y2 N) [] N (Ake N F [1,1,0,1,0] []) n
theorem Bhq (N:Nat) (Q0:St→Option R) (F:KF R) (d:LA) (b:Nat) (f g:Bool) (e:LA) (a:Nat) (i j:Bool) (c:Nat):∀ (n:Nat) (l p m:Int) (o:LA),Akf N F Q0 n (Sn d b f g e a i j c l p m o)=(Oa N (fun c q r=>Q0 (Km d b f g e a i j c q r)) (Io F) d b f g e a i j c n l p m o):=by
 intro n
 induction n with
 | zero=>intros;kernel_rfl
 | succ n ih =>
  intro l p m o
  have e0:=funext fun l=>funext fun p=>funext fun m=>funext fun o=>(show Akf N F Q0 n (Sn d b f g e a i j c l p m o)=_ from ih l p m o)
  have hK:Akf N F Q0 (n+1) (Sn d b f g e a i j c l p m o)=(Ac6 N (fun c q r=>Q0 (Km d b f g e a i j c q r)) (Io F) d b f g e a i j c (fun l p m o=>Akf N F Q0 n (Sn d b f g e a i j c l p m o)) l p m o):=by kernel_rfl
  exact hK.trans (by rw [e0];rfl)
theorem Bhr (N:Nat)  (F:KF R) (d:LA) (b:Nat) (f g:Bool) (e:LA) (a:Nat) (i j:Bool):∀ (n c:Nat) (q:Int) (r:LA),Ob N F n (Km d b f g e a i j c q r)=(In N (Io F) d b f g e a i j n c q r):=by
 intro n
 induction n with
 | zero=>intros;kernel_rfl
 | succ n ih =>
  intro c q r
  have e0:=funext fun c=>funext fun q=>funext fun r=>(show Ob N F n (Km d b f g e a i j c q r)=_ from ih c q r)
  have e1:(fun l p m o=>Ben N F (Ob N F n) (Sn d b f g e a i j c l p m o))=(fun l p m o=>(Oa N (In N (Io F) d b f g e a i j n) (Io F) d b f g e a i j c N l p m o)):=by funext l;funext p;funext m;funext o;exact ((Au ..).trans (Bhq N (Ob N F n) F d b f g e a i j c N l p m o)).trans (by rw [e0])
  have hK:Ob N F (n+1) (Km d b f g e a i j c q r)=(Ac7 N (Io F) d b f g e a i j (fun c q r=>Ob N F n (Km d b f g e a i j c q r)) (fun l p m o=>Ben N F (Ob N F n) (Sn d b f g e a i j c l p m o)) c q r):=by kernel_rfl
  exact hK.trans (by rw [e0,e1];rfl)
theorem Ayw (N:Nat) (d:LA) (b:Nat) (f g:Bool) (e:LA) (a:Nat) (i j:Bool) (F:KF R):Ac Tryz.prog muts (Atq N) Akd N 124 [(.imm d b 1 f g),(.imm e a 1 i j)] [] F=(A1y N d b f g e a i j (Io F)):=by
 have e1:=funext fun c=>funext fun q=>funext fun r=>(show Beo N F (Km d b f g e a i j c q r)=_ from (Au ..).trans (Bhr N F d b f g e a i j N c q r))
 have hK:Ac Tryz.prog muts (Atq N) Akd N 124 [(.imm d b 1 f g),(.imm e a 1 i j)] [] F=(Bel N (Io F) (fun c q r=>Beo N F (Km d b f g e a i j c q r)) d b f g e a i j):=by kernel_rfl
 rw [A8n]
 exact hK.trans (by rw [e1];rfl)
def Ac8 (N:Nat) (args:List AV) (h:Ak) (k:KF R):Option R :=
 match args,h with
 | [(.imm d b 1 f g),(.imm e a 1 i j)],[]=>(A1y N d b f g e a i j (Io k))
 | _,_=>none
def Bep (N:Nat):Tw:=⟨Ac8 N,fun args h k=>by
 unfold Ac8;split
 exact twE (Ayw ..) (Ayw ..)
 rfl⟩
theorem Bpz (N:Nat):Az Tryz.prog 124 (Bep N):=fun args h res x hh=>by
 change Ac8 N args h (fun v x=>some (v,x))=_ at hh
 unfold Ac8 at hh;split at hh
 exact Aa (T:=Atq N) ⟨Eq N,trivial⟩ follows ((Ayw ..).trans hh)
 cases hh
def Beq (N:Nat) (r0:LA→Option R)  (a:LA) (c:Bool) (b:LA) (d:Bool):Option R :=
 (rdB a fun i=>(rdB b fun j=>(rdL 1 (List.drop 1 a) fun l m=>(rdL 1 (List.drop 1 b) fun n o=>(A1y N l m false c n o false d (fun f p=>(Eh N (!(i==j)) (List.take (f*1) p) f false true (fun e=>(cond ((Nat.beq 0 0)&&((Nat.beq (List.length e) 2)&&(Nat.beq 2 2))) (cond (Nat.ble 2 (List.length e)) (r0 (List.take 2 e)) none) none)))))))))
def Ber (N:Nat) (a:LA) (c:Bool) (b:LA) (d:Bool) (r0:LA→Option R):Option R:=(Beq N r0 a c b d)
def Ac9:=(Al (@Ber R)).1
theorem A8o:@Ac9 R=@Ber R:=(Al _).2
def Bes:Hints:={ H:=(hS (hR [2,3,4]) (hS (hR [4]) hL)),nils:=[],modes:=[(3,0)],free:=[],cob:=[] }
def A5v (N:Nat):List (Nat×Tw):=[(124,Bep N),(93,F7 N)]
def Ayx  (F:KF R):LA→Option R:=(fun q=>F (.pagg q false) [])
theorem Ayy (N:Nat) (a:LA) (c:Bool) (b:LA) (d:Bool) (F:KF R):Ac Tryz.prog muts (A5v N) Bes N 72 [(.pagg a c),(.pagg b d)] [] F=(Ac9 N a c b d (Ayx F)):=by
 have hK:Ac Tryz.prog muts (A5v N) Bes N 72 [(.pagg a c),(.pagg b d)] [] F=(Beq N (Ayx F) a c b d):=by kernel_rfl
 rw [A8o]
 exact hK
def Ada (N:Nat) (args:List AV) (h:Ak) (k:KF R):Option R :=
 match args,h with
 | [(.pagg a c),(.pagg b d)],[]=>(Ac9 N a c b d (Ayx k))
 | _,_=>none
def Bet (N:Nat):Tw:=⟨Ada N,fun args h k=>by
 unfold Ada;split
 exact twE (Ayy ..) (Ayy ..)
 rfl⟩
theorem Bp0 (N:Nat):Az Tryz.prog 72 (Bet N):=fun args h res g hh=>by
 change Ada N args h (fun v g=>some (v,g))=_ at hh
 unfold Ada at hh;split at hh
 exact Aa (T:=A5v N) ⟨Bpz N,Hy N,trivial⟩ follows ((Ayy ..).trans hh)
 cases hh
def Beu (N:Nat) (r0:LA→Option R)  (a:LA) (c:Bool) (b:LA) (d:Bool):Option R :=
 (cond (Nat.ble 3 (List.length a)) (P4 N (List.take 3 a) c (fun e=>(cond (Nat.ble 3 (List.length b)) (P4 N (List.take 3 b) d (fun f=>(cond ((Nat.beq 0 0)&&((Nat.beq (List.length e) 3)&&(Nat.beq 3 3))) (cond ((Nat.beq 0 0)&&((Nat.beq (List.length f) 3)&&(Nat.beq 3 3))) (cond (Nat.ble 2 (List.length e)) (cond (Nat.ble 3 (List.length b)) (Xz N (List.take 3 b) d (fun j=>(Ac9 N (List.take 2 e) false j false (fun l=>(cond (Nat.ble 2 (List.length f)) (cond (Nat.ble 3 (List.length a)) (Xz N (List.take 3 a) c (fun m=>(Ac9 N (List.take 2 f) false m false (fun n=>(Xc N l false n false (fun o=>(cond (Nat.ble 3 (List.length a)) (Xz N (List.take 3 a) c (fun p=>(cond (Nat.ble 3 (List.length b)) (Xz N (List.take 3 b) d (fun q=>(Ac9 N p false q false (fun r=>(Pd N o false r false (fun g=>(cond ((Nat.beq 0 0)&&((Nat.beq (List.length g) 3)&&(Nat.beq 3 3))) (cond (Nat.ble 3 (List.length g)) (r0 (List.take 3 g)) none) none))))))) none))) none))))))) none) none))))) none) none) none) none))) none))) none)
def Bev (N:Nat) (a:LA) (c:Bool) (b:LA) (d:Bool) (r0:LA→Option R):Option R:=(Beu N r0 a c b d)
def A1z:=(Al (@Bev R)).1
theorem A8p:@A1z R=@Bev R:=(Al _).2
def Bew:Hints:={ H:=(hS (hR [2,3,4]) (hS (hR [2,3,4,5,6]) (hS (hR [4]) hL))),nils:=[],modes:=[(3,0)],free:=[],cob:=[] }
def A5w (N:Nat):List (Nat×Tw):=[(70,Vf N),(73,Ayt N),(72,Bet N),(71,Air N),(54,U7 N)]
def Ayz  (F:KF R):LA→Option R:=(fun s=>F (.pagg s false) [])
theorem Ay0 (N:Nat) (a:LA) (c:Bool) (b:LA) (d:Bool) (F:KF R):Ac Tryz.prog muts (A5w N) Bew N 32 [(.pagg a c),(.pagg b d)] [] F=(A1z N a c b d (Ayz F)):=by
 have hK:Ac Tryz.prog muts (A5w N) Bew N 32 [(.pagg a c),(.pagg b d)] [] F=(Beu N (Ayz F) a c b d):=by kernel_rfl
 rw [A8p]
 exact hK
def Adb (N:Nat) (args:List AV) (h:Ak) (k:KF R):Option R :=
 match args,h with
 | [(.pagg a c),(.pagg b d)],[]=>(A1z N a c b d (Ayz k))
 | _,_=>none
def Bex (N:Nat):Tw:=⟨Adb N,fun args h k=>by
 unfold Adb;split
 exact twE (Ay0 ..) (Ay0 ..)
 rfl⟩
theorem Bp1 (N:Nat):Az Tryz.prog 32 (Bex N):=fun args h res i hh=>by
 change Adb N args h (fun v i=>some (v,i))=_ at hh
 unfold Adb at hh;split at hh
 exact Aa (T:=A5w N) ⟨Ac3 N,Beg N,Bp0 N,Aw9 N,Ack N,trivial⟩ follows ((Ay0 ..).trans hh)
 cases hh
def Bey (N:Nat) (r0:LA→Option R)  (a:LA) (c:Bool) (b:LA) (d:Bool):Option R :=
 (cond (Nat.ble 3 (List.length a)) (cond (Nat.ble 3 (List.length b)) (A1x N (List.take 3 b) d (fun g=>(A1z N (List.take 3 a) c g false (fun e=>(cond ((Nat.beq 0 0)&&((Nat.beq (List.length e) 3)&&(Nat.beq 3 3))) (cond (Nat.ble 3 (List.length e)) (r0 (List.take 3 e)) none) none))))) none) none)
def Bez (N:Nat) (a:LA) (c:Bool) (b:LA) (d:Bool) (r0:LA→Option R):Option R:=(Bey N r0 a c b d)
def A10:=(Al (@Bez R)).1
theorem A8q:@A10 R=@Bez R:=(Al _).2
def Be0:Hints:={ H:=(hS (hR [2,3,4]) (hS (hR [4]) hL)),nils:=[],modes:=[(3,0)],free:=[],cob:=[] }
def A5x (N:Nat):List (Nat×Tw):=[(74,Bek N),(32,Bex N)]
def Ay1  (F:KF R):LA→Option R:=(fun i=>F (.pagg i false) [])
theorem Ay2 (N:Nat) (a:LA) (c:Bool) (b:LA) (d:Bool) (F:KF R):Ac Tryz.prog muts (A5x N) Be0 N 33 [(.pagg a c),(.pagg b d)] [] F=(A10 N a c b d (Ay1 F)):=by
 have hK:Ac Tryz.prog muts (A5x N) Be0 N 33 [(.pagg a c),(.pagg b d)] [] F=(Bey N (Ay1 F) a c b d):=by kernel_rfl
 rw [A8q]
 exact hK
def Adc (N:Nat) (args:List AV) (h:Ak) (k:KF R):Option R :=
 match args,h with
 | [(.pagg a c),(.pagg b d)],[]=>(A10 N a c b d (Ay1 k))
 | _,_=>none
def Be1 (N:Nat):Tw:=⟨Adc N,fun args h k=>by
 unfold Adc;split
 exact twE (Ay2 ..) (Ay2 ..)
 rfl⟩
theorem Bp2 (N:Nat):Az Tryz.prog 33 (Be1 N):=fun args h res f hh=>by
 change Adc N args h (fun v f=>some (v,f))=_ at hh
 unfold Adc at hh;split at hh
 exact Aa (T:=A5x N) ⟨Bpy N,Bp1 N,trivial⟩ follows ((Ay2 ..).trans hh)
 cases hh
def A5y (N:Nat) (r0:Int→Option R)  (a:LA) (b:Bool):Option R :=
 (cond (Nat.ble 3 (List.length a)) (P4 N (List.take 3 a) b (fun c=>(cond (Nat.ble 2 (List.length c)) (Zt N (List.take 2 c) false (fun e=>(r0 e))) none))) none)
def A5z (N:Nat) (a:LA) (b:Bool) (r0:Int→Option R):Option R:=(A5y N r0 a b)
def Ap9:=(Al (@A5z R)).1
theorem A11:@Ap9 R=@A5z R:=(Al _).2
def A8r:Hints:={ H:=(hS (hR [1]) (hS (hR [2]) hL)),nils:=[],modes:=[],free:=[],cob:=[] }
def Ay3 (N:Nat):List (Nat×Tw):=[(70,Vf N),(75,Aoe N)]
def Aqa  (F:KF R):Int→Option R:=(fun f=>F (.int .i64 f) [])
theorem Aqb (N:Nat) (a:LA) (b:Bool) (F:KF R):Ac Tryz.prog muts (Ay3 N) A8r N 34 [(.pagg a b)] [] F=(Ap9 N a b (Aqa F)):=by
 have hK:Ac Tryz.prog muts (Ay3 N) A8r N 34 [(.pagg a b)] [] F=(A5y N (Aqa F) a b):=by kernel_rfl
 rw [A11]
 exact hK
def X0 (N:Nat) (args:List AV) (h:Ak) (k:KF R):Option R :=
 match args,h with
 | [(.pagg a b)],[]=>(Ap9 N a b (Aqa k))
 | _,_=>none
def A8s (N:Nat):Tw:=⟨X0 N,fun args h k=>by
 unfold X0;split
 exact twE (Aqb ..) (Aqb ..)
 rfl⟩
theorem Bnx (N:Nat):Az Tryz.prog 34 (A8s N):=fun args h res d hh=>by
 change X0 N args h (fun v d=>some (v,d))=_ at hh
 unfold X0 at hh;split at hh
 exact Aa (T:=Ay3 N) ⟨Ac3 N,A7v N,trivial⟩ follows ((Aqb ..).trans hh)
 cases hh
def Akg (N:Nat) (r0:Int→Option R)  (a:LA) (c:Bool) (b:LA) (d:Bool):Option R :=
 (cond (Nat.ble 3 (List.length a)) (cond (Nat.ble 3 (List.length b)) (A10 N (List.take 3 a) c (List.take 3 b) d (fun f=>(Ap9 N f false (fun g=>(r0 g))))) none) none)
def Akh (N:Nat) (a:LA) (c:Bool) (b:LA) (d:Bool) (r0:Int→Option R):Option R:=(Akg N r0 a c b d)
def H2:=(Al (@Akh R)).1
theorem Am1:@H2 R=@Akh R:=(Al _).2
def Aqc:Hints:={ H:=(hS (hR [2,3]) (hS (hR [4]) hL)),nils:=[],modes:=[],free:=[],cob:=[] }
def Afh (N:Nat):List (Nat×Tw):=[(33,Be1 N),(34,A8s N)]
def Aa3  (F:KF R):Int→Option R:=(fun i=>F (.int .i64 i) [])
theorem Aa4 (N:Nat) (a:LA) (c:Bool) (b:LA) (d:Bool) (F:KF R):Ac Tryz.prog muts (Afh N) Aqc N 25 [(.pagg a c),(.pagg b d)] [] F=(H2 N a c b d (Aa3 F)):=by
 have hK:Ac Tryz.prog muts (Afh N) Aqc N 25 [(.pagg a c),(.pagg b d)] [] F=(Akg N (Aa3 F) a c b d):=by kernel_rfl
 rw [Am1]
 exact hK
def Nn (N:Nat) (args:List AV) (h:Ak) (k:KF R):Option R :=
 match args,h with
 | [(.pagg a c),(.pagg b d)],[]=>(H2 N a c b d (Aa3 k))
 | _,_=>none
def Aqd (N:Nat):Tw:=⟨Nn N,fun args h k=>by
 unfold Nn;split
 exact twE (Aa4 ..) (Aa4 ..)
 rfl⟩
theorem Be2 (N:Nat):Az Tryz.prog 25 (Aqd N):=fun args h res e hh=>by
 change Nn N args h (fun v e=>some (v,e))=_ at hh
 unfold Nn at hh;split at hh
 exact Aa (T:=Afh N) ⟨Bp2 N,Bnx N,trivial⟩ follows ((Aa4 ..).trans hh)
 cases hh
end
end Gx

namespace Gx
open Go Go.Proofs
set_option maxRecDepth 100000
noncomputable section
variable {R:Type}
def Aki (N:Nat) (r0:Bool→Option R)  (a:LA) (b:Bool):Option R :=
 (rdL 1 (List.drop 18 a) fun g d=>(cond ((decide (((d:Nat):Int)≤(40:Int)))==true) (rdL 2 (List.drop 4 a) fun i e=>(r0 (cond true (decide (((e:Nat):Int)≤(20:Int))) false))) (r0 false)))
def Akj (N:Nat) (a:LA) (b:Bool) (r0:Bool→Option R):Option R:=(Aki N r0 a b)
def Vg:=(Al (@Akj R)).1
theorem Am2:@Vg R=@Akj R:=(Al _).2
def Aqe:Hints:={ H:=(hS (hR [1]) (hS (hR [2]) hL)),nils:=[],modes:=[],free:=[],cob:=[] }
def Afi (N:Nat):List (Nat×Tw):=[]
def Aa5  (F:KF R):Bool→Option R:=(fun f=>F (.bool f) [])
theorem Aa6 (N:Nat) (a:LA) (b:Bool) (F:KF R):Ac Tryz.prog muts (Afi N) Aqe N 11 [(.pagg a b)] [] F=(Vg N a b (Aa5 F)):=by
 have hK:Ac Tryz.prog muts (Afi N) Aqe N 11 [(.pagg a b)] [] F=(Aki N (Aa5 F) a b):=by kernel_rfl
 rw [Am2]
 exact hK
def No (N:Nat) (args:List AV) (h:Ak) (k:KF R):Option R :=
 match args,h with
 | [(.pagg a b)],[]=>(Vg N a b (Aa5 k))
 | _,_=>none
def Aqf (N:Nat):Tw:=⟨No N,fun args h k=>by
 unfold No;split
 exact twE (Aa6 ..) (Aa6 ..)
 rfl⟩
theorem Be3 (N:Nat):Az Tryz.prog 11 (Aqf N):=fun args h res c hh=>by
 change No N args h (fun v c=>some (v,c))=_ at hh
 unfold No at hh;split at hh
 exact Aa (T:=Afi N) trivial follows ((Aa6 ..).trans hh)
 cases hh
def Ay4 (N:Nat) (r0:Int→Option R)  (b a:Int):Option R :=
 (cond (a==(0:Int)) none (cond (a==(0:Int)) none (r0 (Int.tmod (IntKind.wrap .i64 ((Int.tmod b a)+a)) a))))
def Ay5 (N:Nat) (b a:Int) (r0:Int→Option R):Option R:=(Ay4 N r0 b a)
def Aw:=(Al (@Ay5 R)).1
theorem Avt:@Aw R=@Ay5 R:=(Al _).2
def A12:Hints:={ H:=(hS (hR [0,1]) (hS (hR [4]) hL)),nils:=[],modes:=[],free:=[],cob:=[] }
def Aqg (N:Nat):List (Nat×Tw):=[]
def Akk  (F:KF R):Int→Option R:=(fun d=>F (.int .i64 d) [])
theorem Akl (N:Nat) (b a:Int) (F:KF R):Ac Tryz.prog muts (Aqg N) A12 N 12 [(.int .i64 b),(.int .i64 a)] [] F=(Aw N b a (Akk F)):=by
 have hK:Ac Tryz.prog muts (Aqg N) A12 N 12 [(.int .i64 b),(.int .i64 a)] [] F=(Ay4 N (Akk F) b a):=by kernel_rfl
 rw [Avt]
 exact hK
def Ud (N:Nat) (args:List AV) (h:Ak) (k:KF R):Option R :=
 match args,h with
 | [(.int .i64 b),(.int .i64 a)],[]=>(Aw N b a (Akk k))
 | _,_=>none
def P5 (N:Nat):Tw:=⟨Ud N,fun args h k=>by
 unfold Ud;split
 exact twE (Akl ..) (Akl ..)
 rfl⟩
theorem X1 (N:Nat):Az Tryz.prog 12 (P5 N):=fun args h res c hh=>by
 change Ud N args h (fun v c=>some (v,c))=_ at hh
 unfold Ud at hh;split at hh
 exact Aa (T:=Aqg N) trivial follows ((Akl ..).trans hh)
 cases hh
def Ay6 (N:Nat) (r0:Int→Option R)  (b a:Int):Option R :=
 (cond (a==(0:Int)) none (cond (a==(0:Int)) none (r0 (Int.tmod (IntKind.wrap .i64 ((Int.tmod b a)+a)) a))))
def Ay7 (N:Nat) (b a:Int) (r0:Int→Option R):Option R:=(Ay6 N r0 b a)
def E8:=(Al (@Ay7 R)).1
theorem Avu:@E8 R=@Ay7 R:=(Al _).2
def A13:Hints:={ H:=(hS (hR [0,1]) (hS (hR [4]) hL)),nils:=[],modes:=[],free:=[],cob:=[] }
def Aqh (N:Nat):List (Nat×Tw):=[]
def Akm  (F:KF R):Int→Option R:=(fun d=>F (.int .i64 d) [])
theorem Akn (N:Nat) (b a:Int) (F:KF R):Ac Tryz.prog muts (Aqh N) A13 N 87 [(.int .i64 b),(.int .i64 a)] [] F=(E8 N b a (Akm F)):=by
 have hK:Ac Tryz.prog muts (Aqh N) A13 N 87 [(.int .i64 b),(.int .i64 a)] [] F=(Ay6 N (Akm F) b a):=by kernel_rfl
 rw [Avu]
 exact hK
def Ue (N:Nat) (args:List AV) (h:Ak) (k:KF R):Option R :=
 match args,h with
 | [(.int .i64 b),(.int .i64 a)],[]=>(E8 N b a (Akm k))
 | _,_=>none
def A14 (N:Nat):Tw:=⟨Ue N,fun args h k=>by
 unfold Ue;split
 exact twE (Akn ..) (Akn ..)
 rfl⟩
theorem Blx (N:Nat):Az Tryz.prog 87 (A14 N):=fun args h res c hh=>by
 change Ue N args h (fun v c=>some (v,c))=_ at hh
 unfold Ue at hh;split at hh
 exact Aa (T:=Aqh N) trivial follows ((Akn ..).trans hh)
 cases hh
def Ako (N:Nat) (k1:Nat→Int→LA→Option R) (r0:Int→Int→Int→Int→Nat→Int→Int→LA→Option R) (a:List UInt8) (b c d:Int) (e:LA) (f:Nat) (g i:Bool) (j l m o p ac ad af q r ae t u:Int) (y:LA) (x:Nat) (z aa:Bool) (ab ag w:Int)   (ak:Nat) (al:Int) (am:LA):Option R :=
 (cond (Aj al x) (rdI .i64 (List.drop ((Int.toNat al)*1) y) fun ay=>(E8 N ay 12 (fun az=>(cond ((Nat.ble (ak+1) 140737488355328)&&(Nat.ble ((ak+1)*8) 140737488355328)) (k1 (ak+1) (IntKind.wrap .i64 (al+(1:Int))) ((List.take (ak*1) am)++[(.int .i64 az)])) none)))) none)
def Add (N:Nat) (k1:Nat→Int→LA→Option R) (r0:Int→Int→Int→Int→Nat→Int→Int→LA→Option R) (a:List UInt8) (b c d:Int) (e:LA) (f:Nat) (g i:Bool) (j l m o p ac ad af q r ae t u:Int) (y:LA) (x:Nat) (z aa:Bool) (ab ag w:Int) (ak:Nat) (al:Int) (am:LA):Option R:=(Ako N k1 r0 a b c d e f g i j l m o p ac ad af q r ae t u y x z aa ab ag w ak al am)
def Akp (N:Nat)  (r0:Int→Int→Int→Int→Nat→Int→Int→LA→Option R) (a:List UInt8) (b c d:Int) (e:LA) (f:Nat) (g i:Bool) (j l m o p ac ad af q r ae t u:Int) (y:LA) (x:Nat) (z aa:Bool) (ab ag w:Int) (k1:Nat→Int→LA→Option R) (q2:Nat→Int→LA→Option R) (ah:Nat) (ai:Int) (aj:LA):Option R :=
 (cond ((decide (ai<((x:Nat):Int)))==true) (cond (cond true (decide (ai<(4:Int))) false) (q2 ah ai aj) (r0 ac ad af ae ah ab ag aj)) (r0 ac ad af ae ah ab ag aj))
def H3 (N:Nat)  (r0:Int→Int→Int→Int→Nat→Int→Int→LA→Option R) (a:List UInt8) (b c d:Int) (e:LA) (f:Nat) (g i:Bool) (j l m o p ac ad af q r ae t u:Int) (y:LA) (x:Nat) (z aa:Bool) (ab ag w:Int):Nat→Nat→Int→LA→Option R
 | 0,_,_,_=>none
 | n+1,ah,ai,aj=>(Akp N r0 a b c d e f g i j l m o p ac ad af q r ae t u y x z aa ab ag w (H3 N r0 a b c d e f g i j l m o p ac ad af q r ae t u y x z aa ab ag w n) (fun ak al am=>(Add N (H3 N r0 a b c d e f g i j l m o p ac ad af q r ae t u y x z aa ab ag w n) r0 a b c d e f g i j l m o p ac ad af q r ae t u y x z aa ab ag w ak al am)) ah ai aj)
def Akq (N:Nat)  (r0:Int→Int→Int→Int→Nat→Int→Int→LA→Option R) (a:List UInt8) (b c d:Int) (e:LA) (f:Nat) (g i:Bool) (j l m o p ac ad q r ae t u:Int) (y:LA) (x:Nat) (z aa:Bool) (ab w:Int)  (q1:Nat→Int→LA→Option R) (af ag:Int):Option R :=
 (q1 0 0 [])
def Aqi (N:Nat)  (r0:Int→Int→Int→Int→Nat→Int→Int→LA→Option R) (a:List UInt8) (b c d:Int) (e:LA) (f:Nat) (g i:Bool) (j l m o p ac ad q r ae t u:Int) (y:LA) (x:Nat) (z aa:Bool) (ab w af ag:Int):Option R:=(Akq N r0 a b c d e f g i j l m o p ac ad q r ae t u y x z aa ab w (fun ah ai aj=>(H3 N r0 a b c d e f g i j l m o p ac ad af q r ae t u y x z aa ab ag w N ah ai aj)) af ag)
def A50 (N:Nat) (r0:Int→Int→Int→Int→Nat→Int→Int→LA→Option R) (q0:Int→Int→Int→Int→Int→Int→Option R) (a:List UInt8) (b c d:Int) (e:LA) (f:Nat) (g i:Bool) (j l m o p an ao ap q r aq t u:Int) (y:LA) (x:Nat) (z aa:Bool) (ar au w:Int):Option R :=
 (E8 N an 4 (fun ac=>(E8 N ao 4 (fun ad=>(E8 N ap 3 (fun av=>(E8 N aq 4 (fun ae=>(E8 N ar 3 (fun ab=>(E8 N au 6 (fun aw=>(cond (ab==(1:Int)) (cond (av==(0:Int)) (E8 N (IntKind.wrap .i64 ((1:Int)+aw)) 1 (fun ba=>(q0 ac ad ae ab 1 (IntKind.wrap .i64 ((1:Int)+ba))))) (E8 N (IntKind.wrap .i64 ((1:Int)+aw)) av (fun bb=>(q0 ac ad ae ab av (IntKind.wrap .i64 ((1:Int)+bb)))))) (q0 ac ad ae ab av (IntKind.wrap .i64 ((1:Int)+aw))))))))))))))))
def A51 (N:Nat) (a:List UInt8) (b c d:Int) (e:LA) (f:Nat) (g i:Bool) (j l m o p an ao ap q r aq t u:Int) (y:LA) (x:Nat) (z aa:Bool) (ar au w:Int) (r0:Int→Int→Int→Int→Nat→Int→Int→LA→Option R):Option R:=(A50 N r0 (fun ac ad ae ab af ag=>(Aqi N r0 a b c d e f g i j l m o p ac ad q r ae t u y x z aa ab w af ag)) a b c d e f g i j l m o p an ao ap q r aq t u y x z aa ar au w)
def Aqj:=(Al (@A51 R)).1
theorem A15:@Aqj R=@A51 R:=(Al _).2
def Ade:Hints:={ H:=(hS (hR [1,2]) (hS (hR [1,2]) (hS (hR [1,2]) (hJ (hS (hR [1,2,32]) (hN [1,2] (hS (hS (hR [1,2,35]) (hN [1,2] (hR [1,2]) hL)) (hR [1,2])) hL)) (hS (hR [1,2,3]) (hS (hS (hR [1,2,3,4]) (hN [1,2,3] (hN [1,2,3,4] (hJ (hS (hR [1,2,3,4,52]) (hN [1,2,3,4] hL hL)) (hS (hN [1,2,3,4] (hR [1,2,3,4]) hL) (hR [1,2,3,4]))) hL) hL)) (hS (hR [1,2]) (hS (hR [2]) hL)))))))),nils:=[(3,1)],modes:=[],free:=[],cob:=[] }
def Akr (N:Nat):List (Nat×Tw):=[(87,A14 N)]
def Kn (N:Nat):Env:=mkE 67 Ade (Akr N)
def Bly (N:Nat) (F:KF R):=As (Kn N) Tryz.f44 Ade.modes [] F
def Oq (N:Nat) (F:KF R):=atF (Kn N) [] N Tryz.f44 Ade (Bly N F)
def D1 (a:List UInt8) (b c d:Int) (e:LA) (f:Nat) (g i:Bool) (j l m o p q r t u w:Int) (F:KF R):Int→Int→Int→Int→Nat→Int→Int→LA→Option R:=(fun bc bd be bf bg bh bi bj=>F (.agg [(.str a),(.int .i64 b),(.int .i64 c),(.int .i64 d),(.imm e f 2 g i),(.int .i64 j),(.int .i64 l),(.int .i64 m),(.int .i64 o),(.int .i64 p),(.int .i64 bc),(.int .i64 bd),(.int .i64 be),(.int .i64 q),(.int .i64 r),(.int .i64 bf),(.int .i64 t),(.int .i64 u),(.own 300000 0 bg),(.int .i64 bh),(.int .i64 bi),(.int .i64 w)]) [(300000,⟨false,false,true,false,1,bj,false⟩)])
def Adf (a:List UInt8) (b c d:Int) (e:LA) (f:Nat) (g i:Bool) (j l m o p ac ad af q r ae t u:Int) (y:LA) (x:Nat) (z aa:Bool) (ab ag w:Int) (ak:Nat) (al:Int) (am:LA):St:={ s:=[(1,(.optr 300000 0)),(2,(.optr 300001 0)),(3,(.own 300002 0 ak)),(4,(.int .i64 al))],h:=[(300000,⟨false,false,false,false,0,[(.str a),(.int .i64 b),(.int .i64 c),(.int .i64 d),(.imm e f 2 g i),(.int .i64 j),(.int .i64 l),(.int .i64 m),(.int .i64 o),(.int .i64 p),(.int .i64 ac),(.int .i64 ad),(.int .i64 af),(.int .i64 q),(.int .i64 r),(.int .i64 ae),(.int .i64 t),(.int .i64 u),(.imm y x 1 z aa),(.int .i64 ab),(.int .i64 ag),(.int .i64 w)],false⟩),(300001,⟨false,false,false,false,0,[(.str ([]:List UInt8)),(.int .i64 0),(.int .i64 0),(.int .i64 0),.nsl,(.int .i64 0),(.int .i64 0),(.int .i64 0),(.int .i64 0),(.int .i64 0),(.int .i64 0),(.int .i64 0),(.int .i64 0),(.int .i64 0),(.int .i64 0),(.int .i64 0),(.int .i64 0),(.int .i64 0),.nsl,(.int .i64 0),(.int .i64 0),(.int .i64 0)],false⟩),(300002,⟨false,false,true,false,1,am,false⟩)] }
def A8t (N:Nat) (F:KF R) (Q1:St→Option R):St→Option R:=Bh (Kn N) [] N (Oq N F [1,1,1,1,1,0,1,0,0,1] [Q1])
def A8u (N:Nat) (F:KF R) (Q1:St→Option R):St→Option R:=Bl (Kn N) [] N (Oq N F [1,1,1,1,1,0,1,0,0,1] [Q1])
def H4 (a:List UInt8) (b c d:Int) (e:LA) (f:Nat) (g i:Bool) (j l m o p ac ad af q r ae t u:Int) (y:LA) (x:Nat) (z aa:Bool) (ab ag w:Int) (ah:Nat) (ai:Int) (aj:LA):St:={ s:=[(1,(.optr 300000 0)),(2,(.optr 300001 0)),(3,(.own 300002 0 ah)),(4,(.int .i64 ai))],h:=[(300000,⟨false,false,false,false,0,[(.str a),(.int .i64 b),(.int .i64 c),(.int .i64 d),(.imm e f 2 g i),(.int .i64 j),(.int .i64 l),(.int .i64 m),(.int .i64 o),(.int .i64 p),(.int .i64 ac),(.int .i64 ad),(.int .i64 af),(.int .i64 q),(.int .i64 r),(.int .i64 ae),(.int .i64 t),(.int .i64 u),(.imm y x 1 z aa),(.int .i64 ab),(.int .i64 ag),(.int .i64 w)],false⟩),(300001,⟨false,false,false,false,0,[(.str ([]:List UInt8)),(.int .i64 0),(.int .i64 0),(.int .i64 0),.nsl,(.int .i64 0),(.int .i64 0),(.int .i64 0),(.int .i64 0),(.int .i64 0),(.int .i64 0),(.int .i64 0),(.int .i64 0),(.int .i64 0),(.int .i64 0),(.int .i64 0),(.int .i64 0),(.int .i64 0),.nsl,(.int .i64 0),(.int .i64 0),(.int .i64 0)],false⟩),(300002,⟨false,false,true,false,1,aj,false⟩)] }
def A8v (N:Nat) (F:KF R):St→Option R:=Bx (Kn N) [] N (Oq N F [1,1,1,1,1,0,1,0] []) N
def Ko (N:Nat) (F:KF R) (n:Nat):St→Option R:=A9 (Kn N) [] N (Oq N F [1,1,1,1,1,0,1,0] []) n
def Adg (a:List UInt8) (b c d:Int) (e:LA) (f:Nat) (g i:Bool) (j l m o p ac ad q r ae t u:Int) (y:LA) (x:Nat) (z aa:Bool) (ab w af ag:Int):St:={ s:=[(1,(.optr 300000 0)),(2,(.optr 300001 0))],h:=[(300000,⟨false,false,false,false,0,[(.str a),(.int .i64 b),(.int .i64 c),(.int .i64 d),(.imm e f 2 g i),(.int .i64 j),(.int .i64 l),(.int .i64 m),(.int .i64 o),(.int .i64 p),(.int .i64 ac),(.int .i64 ad),(.int .i64 af),(.int .i64 q),(.int .i64 r),(.int .i64 ae),(.int .i64 t),(.int .i64 u),(.imm y x 1 z aa),(.int .i64 ab),(.int .i64 ag),(.int .i64 w)],false⟩),(300001,⟨false,false,false,false,0,[(.str ([]:List UInt8)),(.int .i64 0),(.int .i64 0),(.int .i64 0),.nsl,(.int .i64 0),(.int .i64 0),(.int .i64 0),(.int .i64 0),(.int .i64 0),(.int .i64 0),(.int .i64 0),(.int .i64 0),(.int .i64 0),(.int .i64 0),(.int .i64 0),(.int .i64 0),(.int .i64 0),.nsl,(.int .i64 0),(.int .i64 0),(.int .i64 0)],false⟩)] }
def A8w (N:Nat) (F:KF R):St→Option R:=Bh (Kn N) [] N (Oq N F [1,1,1,1] [])
def A8x (N:Nat) (F:KF R):St→Option R:=Bl (Kn N) [] N (Oq N F [1,1,1,1] [])
theorem Be4 (N:Nat) (Q1:St→Option R) (F:KF R) (a:List UInt8) (b c d:Int) (e:LA) (f:Nat) (g i:Bool) (j l m o p ac ad af q r ae t u:Int) (y:LA) (x:Nat) (z aa:Bool) (ab ag w:Int):∀ (ak:Nat) (al:Int) (am:LA),A8u N F Q1 (Adf a b c d e f g i j l m o p ac ad af q r ae t u y x z aa ab ag w ak al am)=(Add N (fun ah ai aj=>Q1 (H4 a b c d e f g i j l m o p ac ad af q r ae t u y x z aa ab ag w ah ai aj)) (D1 a b c d e f g i j l m o p q r t u w F) a b c d e f g i j l m o p ac ad af q r ae t u y x z aa ab ag w ak al am):=by
 intro ak al am
 have hK:A8u N F Q1 (Adf a b c d e f g i j l m o p ac ad af q r ae t u y x z aa ab ag w ak al am)=(Ako N (fun ah ai aj=>Q1 (H4 a b c d e f g i j l m o p ac ad af q r ae t u y x z aa ab ag w ah ai aj)) (D1 a b c d e f g i j l m o p q r t u w F) a b c d e f g i j l m o p ac ad af q r ae t u y x z aa ab ag w ak al am):=by kernel_rfl
 exact hK
theorem Be5 (N:Nat)  (F:KF R) (a:List UInt8) (b c d:Int) (e:LA) (f:Nat) (g i:Bool) (j l m o p ac ad af q r ae t u:Int) (y:LA) (x:Nat) (z aa:Bool) (ab ag w:Int):∀ (n ah:Nat) (ai:Int) (aj:LA),Ko N F n (H4 a b c d e f g i j l m o p ac ad af q r ae t u y x z aa ab ag w ah ai aj)=(H3 N (D1 a b c d e f g i j l m o p q r t u w F) a b c d e f g i j l m o p ac ad af q r ae t u y x z aa ab ag w n ah ai aj):=by
 intro n
 induction n with
 | zero=>intros;kernel_rfl
 | succ n ih =>
  intro ah ai aj
  have e0:=funext fun ah=>funext fun ai=>funext fun aj=>(show Ko N F n (H4 a b c d e f g i j l m o p ac ad af q r ae t u y x z aa ab ag w ah ai aj)=_ from ih ah ai aj)
  have e1:(fun ak al am=>A8t N F (Ko N F n) (Adf a b c d e f g i j l m o p ac ad af q r ae t u y x z aa ab ag w ak al am))=(fun ak al am=>(Add N (H3 N (D1 a b c d e f g i j l m o p q r t u w F) a b c d e f g i j l m o p ac ad af q r ae t u y x z aa ab ag w n) (D1 a b c d e f g i j l m o p q r t u w F) a b c d e f g i j l m o p ac ad af q r ae t u y x z aa ab ag w ak al am)):=by funext ak;funext al;funext am;exact ((Aq ..).trans (Be4 N (Ko N F n) F a b c d e f g i j l m o p ac ad af q r ae t u y x z aa ab ag w ak al am)).trans (by rw [e0])
  have hK:Ko N F (n+1) (H4 a b c d e f g i j l m o p ac ad af q r ae t u y x z aa ab ag w ah ai aj)=(Akp N (D1 a b c d e f g i j l m o p q r t u w F) a b c d e f g i j l m o p ac ad af q r ae t u y x z aa ab ag w (fun ah ai aj=>Ko N F n (H4 a b c d e f g i j l m o p ac ad af q r ae t u y x z aa ab ag w ah ai aj)) (fun ak al am=>A8t N F (Ko N F n) (Adf a b c d e f g i j l m o p ac ad af q r ae t u y x z aa ab ag w ak al am)) ah ai aj):=by kernel_rfl
  exact hK.trans (by rw [e0,e1];rfl)
theorem Be6 (N:Nat)  (F:KF R) (a:List UInt8) (b c d:Int) (e:LA) (f:Nat) (g i:Bool) (j l m o p ac ad q r ae t u:Int) (y:LA) (x:Nat) (z aa:Bool) (ab w:Int):∀ (af ag:Int),A8x N F (Adg a b c d e f g i j l m o p ac ad q r ae t u y x z aa ab w af ag)=(Aqi N (D1 a b c d e f g i j l m o p q r t u w F) a b c d e f g i j l m o p ac ad q r ae t u y x z aa ab w af ag):=by
 intro af ag
 have e1:=funext fun ah=>funext fun ai=>funext fun aj=>(show A8v N F (H4 a b c d e f g i j l m o p ac ad af q r ae t u y x z aa ab ag w ah ai aj)=_ from (Au ..).trans (Be5 N F a b c d e f g i j l m o p ac ad af q r ae t u y x z aa ab ag w N ah ai aj))
 have hK:A8x N F (Adg a b c d e f g i j l m o p ac ad q r ae t u y x z aa ab w af ag)=(Akq N (D1 a b c d e f g i j l m o p q r t u w F) a b c d e f g i j l m o p ac ad q r ae t u y x z aa ab w (fun ah ai aj=>A8v N F (H4 a b c d e f g i j l m o p ac ad af q r ae t u y x z aa ab ag w ah ai aj)) af ag):=by kernel_rfl
 exact hK.trans (by rw [e1];rfl)
theorem Aqk (N:Nat) (a:List UInt8) (b c d:Int) (e:LA) (f:Nat) (g i:Bool) (j l m o p an ao ap q r aq t u:Int) (y:LA) (x:Nat) (z aa:Bool) (ar au w:Int) (F:KF R):Ac Tryz.prog muts (Akr N) Ade N 44 [(.agg [(.str a),(.int .i64 b),(.int .i64 c),(.int .i64 d),(.imm e f 2 g i),(.int .i64 j),(.int .i64 l),(.int .i64 m),(.int .i64 o),(.int .i64 p),(.int .i64 an),(.int .i64 ao),(.int .i64 ap),(.int .i64 q),(.int .i64 r),(.int .i64 aq),(.int .i64 t),(.int .i64 u),(.imm y x 1 z aa),(.int .i64 ar),(.int .i64 au),(.int .i64 w)])] [] F=(Aqj N a b c d e f g i j l m o p an ao ap q r aq t u y x z aa ar au w (D1 a b c d e f g i j l m o p q r t u w F)):=by
 have e1:=funext fun ac=>funext fun ad=>funext fun ae=>funext fun ab=>funext fun af=>funext fun ag=>(show A8w N F (Adg a b c d e f g i j l m o p ac ad q r ae t u y x z aa ab w af ag)=_ from (Aq ..).trans (Be6 N F a b c d e f g i j l m o p ac ad q r ae t u y x z aa ab w af ag))
 have hK:Ac Tryz.prog muts (Akr N) Ade N 44 [(.agg [(.str a),(.int .i64 b),(.int .i64 c),(.int .i64 d),(.imm e f 2 g i),(.int .i64 j),(.int .i64 l),(.int .i64 m),(.int .i64 o),(.int .i64 p),(.int .i64 an),(.int .i64 ao),(.int .i64 ap),(.int .i64 q),(.int .i64 r),(.int .i64 aq),(.int .i64 t),(.int .i64 u),(.imm y x 1 z aa),(.int .i64 ar),(.int .i64 au),(.int .i64 w)])] [] F=(A50 N (D1 a b c d e f g i j l m o p q r t u w F) (fun ac ad ae ab af ag=>A8w N F (Adg a b c d e f g i j l m o p ac ad q r ae t u y x z aa ab w af ag)) a b c d e f g i j l m o p an ao ap q r aq t u y x z aa ar au w):=by kernel_rfl
 rw [A15]
 exact hK.trans (by rw [e1];rfl)
def X2 (N:Nat) (args:List AV) (h:Ak) (k:KF R):Option R :=
 match args,h with
 | [(.agg [(.str a),(.int .i64 b),(.int .i64 c),(.int .i64 d),(.imm e f 2 g i),(.int .i64 j),(.int .i64 l),(.int .i64 m),(.int .i64 o),(.int .i64 p),(.int .i64 an),(.int .i64 ao),(.int .i64 ap),(.int .i64 q),(.int .i64 r),(.int .i64 aq),(.int .i64 t),(.int .i64 u),(.imm y x 1 z aa),(.int .i64 ar),(.int .i64 au),(.int .i64 w)])],[]=>(Aqj N a b c d e f g i j l m o p an ao ap q r aq t u y x z aa ar au w (D1 a b c d e f g i j l m o p q r t u w k))
 | _,_=>none
def A8y (N:Nat):Tw:=⟨X2 N,fun args h k=>by
 unfold X2;split
 exact twE (Aqk ..) (Aqk ..)
 rfl⟩
theorem Bny (N:Nat):Az Tryz.prog 44 (A8y N):=fun args h res ax hh=>by
 change X2 N args h (fun v ax=>some (v,ax))=_ at hh
 unfold X2 at hh;split at hh
 exact Aa (T:=Akr N) ⟨Blx N,trivial⟩ follows ((Aqk ..).trans hh)
 cases hh
def Aks (N:Nat)  (r0:Bool→Option R) (b:LA) (a:Nat) (d e:Bool) (c:Int) (k0:Int→Option R)  (f:Int):Option R :=
 (cond (decide (f<((a:Nat):Int))) (cond (Aj f a) (rdI .i64 (List.drop ((Int.toNat f)*1) b) fun i=>(cond (i==c) (r0 true) (k0 (IntKind.wrap .i64 (f+(1:Int)))))) none) (r0 false))
def Y3 (N:Nat)  (r0:Bool→Option R) (b:LA) (a:Nat) (d e:Bool) (c:Int):Nat→Int→Option R
 | 0,_=>none
 | n+1,f=>(Aks N r0 b a d e c (Y3 N r0 b a d e c n) f)
def Blz (N:Nat) (r0:Bool→Option R) (q0:Int→Option R) (b:LA) (a:Nat) (d e:Bool) (c:Int):Option R :=
 (q0 0)
def Bl0 (N:Nat) (b:LA) (a:Nat) (d e:Bool) (c:Int) (r0:Bool→Option R):Option R:=(Blz N r0 (fun f=>(Y3 N r0 b a d e c N f)) b a d e c)
def Be7:=(Al (@Bl0 R)).1
theorem Be8:@Be7 R=@Bl0 R:=(Al _).2
def Atr:Hints:={ H:=(hS (hR [0,1]) (hS (hS (hR [0,1,5]) (hS (hN [0,1,5] (hS (hS (hR [0,1,5,9]) (hN [0,1,5] hL hL)) (hS (hN [0,1,5] (hS (hR [0,1,5,17]) (hN [0,1,5] (hS (hR [4]) hL) hL)) hL) (hR [0,1,5]))) hL) hL)) (hS (hR [4]) hL))),nils:=[],modes:=[],free:=[],cob:=[] }
def A16 (N:Nat):List (Nat×Tw):=[]
def A17 (N:Nat):Env:=mkE 18 Atr (A16 N)
def Bp3 (N:Nat) (F:KF R):=As (A17 N) Tryz.f45 Atr.modes [] F
def Bjo (N:Nat) (F:KF R):=atF (A17 N) [] N Tryz.f45 Atr (Bp3 N F)
def Ag3  (F:KF R):Bool→Option R:=(fun j=>F (.bool j) [])
def Y4 (b:LA) (a:Nat) (d e:Bool) (c f:Int):St:={ s:=[(0,(.imm b a 1 d e)),(1,(.int .i64 c)),(5,(.int .i64 f))],h:=[] }
def Bjp (N:Nat) (F:KF R):St→Option R:=Bx (A17 N) [] N (Bjo N F [1,0,1,0] []) N
def Ats (N:Nat) (F:KF R) (n:Nat):St→Option R:=A9 (A17 N) [] N (Bjo N F [1,0,1,0] []) n
theorem Bl1 (N:Nat)  (F:KF R) (b:LA) (a:Nat) (d e:Bool) (c:Int):∀ (n:Nat) (f:Int),Ats N F n (Y4 b a d e c f)=(Y3 N (Ag3 F) b a d e c n f):=by
 intro n
 induction n with
 | zero=>intros;kernel_rfl
 | succ n ih =>
  intro f
  have e0:=funext fun f=>(show Ats N F n (Y4 b a d e c f)=_ from ih f)
  have hK:Ats N F (n+1) (Y4 b a d e c f)=(Aks N (Ag3 F) b a d e c (fun f=>Ats N F n (Y4 b a d e c f)) f):=by kernel_rfl
  exact hK.trans (by rw [e0];rfl)
theorem A52 (N:Nat) (b:LA) (a:Nat) (d e:Bool) (c:Int) (F:KF R):Ac Tryz.prog muts (A16 N) Atr N 45 [(.imm b a 1 d e),(.int .i64 c)] [] F=(Be7 N b a d e c (Ag3 F)):=by
 have e1:=funext fun f=>(show Bjp N F (Y4 b a d e c f)=_ from (Au ..).trans (Bl1 N F b a d e c N f))
 have hK:Ac Tryz.prog muts (A16 N) Atr N 45 [(.imm b a 1 d e),(.int .i64 c)] [] F=(Blz N (Ag3 F) (fun f=>Bjp N F (Y4 b a d e c f)) b a d e c):=by kernel_rfl
 rw [Be8]
 exact hK.trans (by rw [e1];rfl)
def Akt (N:Nat) (args:List AV) (h:Ak) (k:KF R):Option R :=
 match args,h with
 | [(.imm b a 1 d e),(.int .i64 c)],[]=>(Be7 N b a d e c (Ag3 k))
 | _,_=>none
def Bjq (N:Nat):Tw:=⟨Akt N,fun args h k=>by
 unfold Akt;split
 exact twE (A52 ..) (A52 ..)
 rfl⟩
theorem Bsb (N:Nat):Az Tryz.prog 45 (Bjq N):=fun args h res g hh=>by
 change Akt N args h (fun v g=>some (v,g))=_ at hh
 unfold Akt at hh;split at hh
 exact Aa (T:=A16 N) trivial follows ((A52 ..).trans hh)
 cases hh
end
end Gx
