/- A part of the proof: what it holds is said by each theorem. -/
import Derived.Test.YtlkhmflligkbkaaGreatP1
set_option linter.unusedVariables false
namespace Gx
open Go Go.Proofs
set_option maxRecDepth 100000
noncomputable section
variable {R:Type}
def Ab3 (N:Nat)  (r0:Nat→LA→Option R) (c:LA) (b:Nat) (e d:Bool) (k0:Int→Option R)  (a:Int):Option R :=
 (cond ((decide (a>(0:Int)))==true) (cond (Aj (IntKind.wrap .i64 (a - (1:Int))) b) (rdI .u32 (List.drop ((Int.toNat (IntKind.wrap .i64 (a - (1:Int))))*1) c) fun g=>(cond (cond true (g==(0:Int)) false) (k0 (IntKind.wrap .i64 (a - (1:Int)))) (cond ((decide ((0:Int)≤(0:Int)))&&((decide ((0:Int)≤a))&&((decide (a≤((b:Nat):Int)))&&(decide (((b:Nat):Int)≤((b:Nat):Int)))))) (cond ((!d)||(Bm (List.take ((Int.toNat a)*1) c))) (cond ((Nat.ble (0+(Int.toNat a)) 140737488355328)&&(Nat.ble ((0+(Int.toNat a))*4) 140737488355328)) (r0 (0+(Int.toNat a)) (List.take ((Int.toNat a)*1) c)) none) none) none))) none) (cond ((decide ((0:Int)≤(0:Int)))&&((decide ((0:Int)≤a))&&((decide (a≤((b:Nat):Int)))&&(decide (((b:Nat):Int)≤((b:Nat):Int)))))) (cond ((!d)||(Bm (List.take ((Int.toNat a)*1) c))) (cond ((Nat.ble (0+(Int.toNat a)) 140737488355328)&&(Nat.ble ((0+(Int.toNat a))*4) 140737488355328)) (r0 (0+(Int.toNat a)) (List.take ((Int.toNat a)*1) c)) none) none) none))
def Rg (N:Nat)  (r0:Nat→LA→Option R) (c:LA) (b:Nat) (e d:Bool):Nat→Int→Option R
 | 0,_=>none
 | n+1,a=>(Ab3 N r0 c b e d (Rg N r0 c b e d n) a)
def A2z (N:Nat) (r0:Nat→LA→Option R) (q0:Int→Option R) (c:LA) (b:Nat) (e d:Bool):Option R :=
 (q0 ((b:Nat):Int))
def A20 (N:Nat) (c:LA) (b:Nat) (e d:Bool) (r0:Nat→LA→Option R):Option R:=(A2z N r0 (fun a=>(Rg N r0 c b e d N a)) c b e d)
def Dr:=(Ai (@A20 R)).1
theorem Aqc:@Dr R=@A20 R:=(Ai _).2
def Air:Hints:={ H:=(hS (hR [0]) (hS (hR [0,3]) (hS (hN [0,3] (hN [0,3] (hS (hS (hR [0,3,15]) (hN [0,3] hL hL)) (hN [0,3] (hR [0,3]) hL)) hL) hL) (hS (hR [2]) hL)))),nils:=[(2,1)],modes:=[(2,1)],free:=[],cob:=[] }
def Aqd (N:Nat):List (Nat×Tw):=[]
def Aqe (N:Nat):Env:=mkE 23 Air (Aqd N)
def Bz2 (N:Nat) (F:KF R):=Ao (Aqe N) Tryz.f143 Air.modes [] F
def Bku (N:Nat) (F:KF R):=atF (Aqe N) [] N Tryz.f143 Air (Bz2 N F)
def Zs  (F:KF R):Nat→LA→Option R:=(fun i j=>F (.own 300000 0 i) [(300000,⟨false,false,true,false,1,j,false⟩)])
def Rh (c:LA) (b:Nat) (e d:Bool) (a:Int):St:={ s:=[(0,(.imm c b 1 e d)),(3,(.int .i64 a))],h:=[] }
def Bkv (N:Nat) (F:KF R):St→Option R:=Bq (Aqe N) [] N (Bku N F [1,1,0,0] []) N
def Ais (N:Nat) (F:KF R) (n:Nat):St→Option R:=A4 (Aqe N) [] N (Bku N F [1,1,0,0] []) n
theorem Bpw (N:Nat)  (F:KF R) (c:LA) (b:Nat) (e d:Bool):∀ (n:Nat) (a:Int),Ais N F n (Rh c b e d a)=(Rg N (Zs F) c b e d n a):=by
 intro n
 induction n with
 | zero=>intros;kernel_rfl
 | succ n ih =>
  intro a
  have e0:=funext fun a=>(show Ais N F n (Rh c b e d a)=_ from ih a)
  have hK:Ais N F (n+1) (Rh c b e d a)=(Ab3 N (Zs F) c b e d (fun a=>Ais N F n (Rh c b e d a)) a):=by kernel_rfl
  exact hK.trans (by rw [e0];rfl)
theorem Axe (N:Nat) (c:LA) (b:Nat) (e d:Bool) (F:KF R):Ab Tryz.prog muts (Aqd N) Air N 143 [(.imm c b 1 e d)] [] F=(Dr N c b e d (Zs F)):=by
 have e1:=funext fun a=>(show Bkv N F (Rh c b e d a)=_ from (Ap ..).trans (Bpw N F c b e d N a))
 have hK:Ab Tryz.prog muts (Aqd N) Air N 143 [(.imm c b 1 e d)] [] F=(A2z N (Zs F) (fun a=>Bkv N F (Rh c b e d a)) c b e d):=by kernel_rfl
 rw [Aqc]
 exact hK.trans (by rw [e1];rfl)
def Ab4 (N:Nat) (args:List AV) (h:Ak) (k:KF R):Option R :=
 match args,h with
 | [(.imm c b 1 e d)],[]=>(Dr N c b e d (Zs k))
 | _,_=>none
def Er (N:Nat):Tw:=⟨Ab4 N,fun args h k=>by
 unfold Ab4;split
 exact twE (Axe ..) (Axe ..)
 rfl⟩
theorem Fp (N:Nat):Ax Tryz.prog 143 (Er N):=fun args h res f hh=>by
 change Ab4 N args h (fun v f=>some (v,f))=_ at hh
 unfold Ab4 at hh;split at hh
 exact Aa (T:=Aqd N) trivial follows ((Axe ..).trans hh)
 cases hh
def Aao (N:Nat) (r0:Nat→LA→Option R)  (a:Int):Option R :=
 (Dr N [(.int .u32 (IntKind.wrap .u32 a)),(.int .u32 (IntKind.wrap .u32 (Int.fdiv a (2 ^ 32))))] 2 false true (fun c d=>(r0 c d)))
def Aap (N:Nat) (a:Int) (r0:Nat→LA→Option R):Option R:=(Aao N r0 a)
def Es:=(Ai (@Aap R)).1
theorem Afg:@Es R=@Aap R:=(Ai _).2
def Ait:Hints:={ H:=(hS (hR [0]) (hS (hR [2]) hL)),nils:=[(2,1)],modes:=[(2,1)],free:=[],cob:=[] }
def Vy (N:Nat):List (Nat×Tw):=[(143,Er N)]
def Sg  (F:KF R):Nat→LA→Option R:=(fun e f=>F (.own 300000 0 e) [(300000,⟨false,false,true,false,1,f,false⟩)])
theorem Sh (N:Nat) (a:Int) (F:KF R):Ab Tryz.prog muts (Vy N) Ait N 94 [(.int .u64 a)] [] F=(Es N a (Sg F)):=by
 have hK:Ab Tryz.prog muts (Vy N) Ait N 94 [(.int .u64 a)] [] F=(Aao N (Sg F) a):=by kernel_rfl
 rw [Afg]
 exact hK
def Jj (N:Nat) (args:List AV) (h:Ak) (k:KF R):Option R :=
 match args,h with
 | [(.int .u64 a)],[]=>(Es N a (Sg k))
 | _,_=>none
def Si (N:Nat):Tw:=⟨Jj N,fun args h k=>by
 unfold Jj;split
 exact twE (Sh ..) (Sh ..)
 rfl⟩
theorem Aiu (N:Nat):Ax Tryz.prog 94 (Si N):=fun args h res b hh=>by
 change Jj N args h (fun v b=>some (v,b))=_ at hh
 unfold Jj at hh;split at hh
 exact Aa (T:=Vy N) ⟨Fp N,trivial⟩ follows ((Sh ..).trans hh)
 cases hh
def Bgm (N:Nat) (r0:LA→Option R)  (a:Bool) (b:LA) (c:Nat) (e d:Bool):Option R :=
 (Dr N b c false d (fun f g=>(cond (a==true) (r0 [(.bool (cond true (decide (((f:Nat):Int)>(0:Int))) false)),(.imm (List.take (f*1) g) f 1 false false)]) (r0 [(.bool false),(.imm (List.take (f*1) g) f 1 false false)]))))
def Bgn (N:Nat) (a:Bool) (b:LA) (c:Nat) (e d:Bool) (r0:LA→Option R):Option R:=(Bgm N r0 a b c e d)
def Fg:=(Ai (@Bgn R)).1
theorem Bce:@Fg R=@Bgn R:=(Ai _).2
def Bkw:Hints:={ H:=(hS (hR [0,1,4]) (hS (hR [0,4,5]) (hS (hR [4]) hL))),nils:=[],modes:=[(3,0)],free:=[],cob:=[] }
def A71 (N:Nat):List (Nat×Tw):=[(143,Er N)]
def Axf  (F:KF R):LA→Option R:=(fun j=>F (.pagg j false) [])
theorem Axg (N:Nat) (a:Bool) (b:LA) (c:Nat) (e d:Bool) (F:KF R):Ab Tryz.prog muts (A71 N) Bkw N 93 [(.bool a),(.imm b c 1 e d)] [] F=(Fg N a b c e d (Axf F)):=by
 have hK:Ab Tryz.prog muts (A71 N) Bkw N 93 [(.bool a),(.imm b c 1 e d)] [] F=(Bgm N (Axf F) a b c e d):=by kernel_rfl
 rw [Bce]
 exact hK
def Ab5 (N:Nat) (args:List AV) (h:Ak) (k:KF R):Option R :=
 match args,h with
 | [(.bool a),(.imm b c 1 e d)],[]=>(Fg N a b c e d (Axf k))
 | _,_=>none
def Hc (N:Nat):Tw:=⟨Ab5 N,fun args h k=>by
 unfold Ab5;split
 exact twE (Axg ..) (Axg ..)
 rfl⟩
theorem Ja (N:Nat):Ax Tryz.prog 93 (Hc N):=fun args h res i hh=>by
 change Ab5 N args h (fun v i=>some (v,i))=_ at hh
 unfold Ab5 at hh;split at hh
 exact Aa (T:=A71 N) ⟨Fp N,trivial⟩ follows ((Axg ..).trans hh)
 cases hh
def Aqf (N:Nat) (r0:LA→Option R)  (a:Int):Option R :=
 (cond (decide (a<(0:Int))) (Es N (IntKind.wrap .u64 ((IntKind.wrap .u64 (IntKind.wrap .i64 ((0:Int) - (IntKind.wrap .i64 (a+(1:Int))))))+(1:Int))) (fun d g=>(Fg N true (List.take (d*1) g) d false true (fun b=>(cond ((Nat.beq 0 0)&&((Nat.beq (List.length b) 2)&&(Nat.beq 2 2))) (cond (Nat.ble 2 (List.length b)) (r0 (List.take 2 b)) none) none))))) (Es N (IntKind.wrap .u64 a) (fun e i=>(Fg N false (List.take (e*1) i) e false true (fun c=>(cond ((Nat.beq 0 0)&&((Nat.beq (List.length c) 2)&&(Nat.beq 2 2))) (cond (Nat.ble 2 (List.length c)) (r0 (List.take 2 c)) none) none))))))
def Aqg (N:Nat) (a:Int) (r0:LA→Option R):Option R:=(Aqf N r0 a)
def Jb:=(Ai (@Aqg R)).1
theorem Avl:@Jb R=@Aqg R:=(Ai _).2
def Axh:Hints:={ H:=(hS (hR [0,2]) (hS (hS (hR [0,2,4]) (hN [0,2] (hS (hR [2]) hL) hL)) (hS (hR [2]) hL))),nils:=[],modes:=[(3,0)],free:=[],cob:=[] }
def Alz (N:Nat):List (Nat×Tw):=[(94,Si N),(93,Hc N)]
def Afh  (F:KF R):LA→Option R:=(fun j=>F (.pagg j false) [])
theorem Afi (N:Nat) (a:Int) (F:KF R):Ab Tryz.prog muts (Alz N) Axh N 55 [(.int .i64 a)] [] F=(Jb N a (Afh F)):=by
 have hK:Ab Tryz.prog muts (Alz N) Axh N 55 [(.int .i64 a)] [] F=(Aqf N (Afh F) a):=by kernel_rfl
 rw [Avl]
 exact hK
def Pk (N:Nat) (args:List AV) (h:Ak) (k:KF R):Option R :=
 match args,h with
 | [(.int .i64 a)],[]=>(Jb N a (Afh k))
 | _,_=>none
def Afj (N:Nat):Tw:=⟨Pk N,fun args h k=>by
 unfold Pk;split
 exact twE (Afi ..) (Afi ..)
 rfl⟩
theorem Axi (N:Nat):Ax Tryz.prog 55 (Afj N):=fun args h res f hh=>by
 change Pk N args h (fun v f=>some (v,f))=_ at hh
 unfold Pk at hh;split at hh
 exact Aa (T:=Alz N) ⟨Aiu N,Ja N,trivial⟩ follows ((Afi ..).trans hh)
 cases hh
def Bgo (N:Nat) (r0:LA→Option R)  (a:LA) (b:Bool):Option R :=
 (rdB a fun e=>(rdL 1 (List.drop 1 a) fun f g=>(Fg N e f g false b (fun c=>(cond ((Nat.beq 0 0)&&((Nat.beq (List.length c) 2)&&(Nat.beq 2 2))) (cond (Nat.ble 2 (List.length c)) (r0 (List.take 2 c)) none) none)))))
def Bgp (N:Nat) (a:LA) (b:Bool) (r0:LA→Option R):Option R:=(Bgo N r0 a b)
def Afk:=(Ai (@Bgp R)).1
theorem Bcf:@Afk R=@Bgp R:=(Ai _).2
def Bkx:Hints:={ H:=(hS (hR [1,2]) (hS (hR [2]) hL)),nils:=[],modes:=[(3,0)],free:=[],cob:=[] }
def A72 (N:Nat):List (Nat×Tw):=[(93,Hc N)]
def Axj  (F:KF R):LA→Option R:=(fun i=>F (.pagg i false) [])
theorem Axk (N:Nat) (a:LA) (b:Bool) (F:KF R):Ab Tryz.prog muts (A72 N) Bkx N 88 [(.pagg a b)] [] F=(Afk N a b (Axj F)):=by
 have hK:Ab Tryz.prog muts (A72 N) Bkx N 88 [(.pagg a b)] [] F=(Bgo N (Axj F) a b):=by kernel_rfl
 rw [Bcf]
 exact hK
def Ab6 (N:Nat) (args:List AV) (h:Ak) (k:KF R):Option R :=
 match args,h with
 | [(.pagg a b)],[]=>(Afk N a b (Axj k))
 | _,_=>none
def Axl (N:Nat):Tw:=⟨Ab6 N,fun args h k=>by
 unfold Ab6;split
 exact twE (Axk ..) (Axk ..)
 rfl⟩
theorem Bky (N:Nat):Ax Tryz.prog 88 (Axl N):=fun args h res d hh=>by
 change Ab6 N args h (fun v d=>some (v,d))=_ at hh
 unfold Ab6 at hh;split at hh
 exact Aa (T:=A72 N) ⟨Ja N,trivial⟩ follows ((Axk ..).trans hh)
 cases hh
def Bgq (N:Nat) (r0:Int→Option R)  (a:LA) (b:Bool):Option R :=
 (cond (Nat.ble 2 (List.length a)) (Afk N (List.take 2 a) b (fun c=>(cond ((Nat.beq (List.length c) 2)&&((Nat.ble 2 (List.length a))&&(!false))) (rdB (setCells a 0 c) fun e=>(cond e (r0 (-1)) (rdL 1 (List.drop 1 (setCells a 0 c)) fun i f=>(cond (((f:Nat):Int)==(0:Int)) (r0 0) (r0 1))))) none))) none)
def Bgr (N:Nat) (a:LA) (b:Bool) (r0:Int→Option R):Option R:=(Bgq N r0 a b)
def Afl:=(Ai (@Bgr R)).1
theorem Bcg:@Afl R=@Bgr R:=(Ai _).2
def Bkz:Hints:={ H:=(hS (hR [1]) (hS (hR [1]) (hS (hS (hS (hR [1,5]) (hS (hS (hR [2]) hL) (hS (hR [8]) (hS (hS (hR [2]) hL) hL)))) hL) (hS (hR [2]) hL)))),nils:=[],modes:=[],free:=[],cob:=[] }
def A73 (N:Nat):List (Nat×Tw):=[(88,Axl N)]
def Axm  (F:KF R):Int→Option R:=(fun g=>F (.int .i64 g) [])
theorem Axn (N:Nat) (a:LA) (b:Bool) (F:KF R):Ab Tryz.prog muts (A73 N) Bkz N 75 [(.pagg a b)] [] F=(Afl N a b (Axm F)):=by
 have hK:Ab Tryz.prog muts (A73 N) Bkz N 75 [(.pagg a b)] [] F=(Bgq N (Axm F) a b):=by kernel_rfl
 rw [Bcg]
 exact hK
def Ab7 (N:Nat) (args:List AV) (h:Ak) (k:KF R):Option R :=
 match args,h with
 | [(.pagg a b)],[]=>(Afl N a b (Axm k))
 | _,_=>none
def Axo (N:Nat):Tw:=⟨Ab7 N,fun args h k=>by
 unfold Ab7;split
 exact twE (Axn ..) (Axn ..)
 rfl⟩
theorem Bk0 (N:Nat):Ax Tryz.prog 75 (Axo N):=fun args h res d hh=>by
 change Ab7 N args h (fun v d=>some (v,d))=_ at hh
 unfold Ab7 at hh;split at hh
 exact Aa (T:=A73 N) ⟨Bky N,trivial⟩ follows ((Axn ..).trans hh)
 cases hh
def Bgs (N:Nat) (r0:LA→Option R)  :Option R :=
 (r0 [(.bool false),(.imm [] 0 1 false false),(.imm [(.int .u32 1)] 1 1 false false)])
def Bgt (N:Nat)  (r0:LA→Option R):Option R:=(Bgs N r0)
def Afm:=(Ai (@Bgt R)).1
theorem Bch:@Afm R=@Bgt R:=(Ai _).2
def Bk1:Hints:={ H:=(hS (hR [0]) (hS (hR [0]) hL)),nils:=[],modes:=[(3,0)],free:=[],cob:=[] }
def A74 (N:Nat):List (Nat×Tw):=[]
def Axp  (F:KF R):LA→Option R:=(fun b=>F (.pagg b false) [])
theorem Axq (N:Nat)  (F:KF R):Ab Tryz.prog muts (A74 N) Bk1 N 41 [] [] F=(Afm N (Axp F)):=by
 have hK:Ab Tryz.prog muts (A74 N) Bk1 N 41 [] [] F=(Bgs N (Axp F)):=by kernel_rfl
 rw [Bch]
 exact hK
def Ab8 (N:Nat) (args:List AV) (h:Ak) (k:KF R):Option R :=
 match args,h with
 | [],[]=>(Afm N (Axp k))
 | _,_=>none
def Aiv (N:Nat):Tw:=⟨Ab8 N,fun args h k=>by
 unfold Ab8;split
 exact twE (Axq ..) (Axq ..)
 rfl⟩
theorem Axr (N:Nat):Ax Tryz.prog 41 (Aiv N):=fun args h res a hh=>by
 change Ab8 N args h (fun v a=>some (v,a))=_ at hh
 unfold Ab8 at hh;split at hh
 exact Aa (T:=A74 N) trivial follows ((Axq ..).trans hh)
 cases hh
def Xu (N:Nat)  (r0:Bool→Option R) (d:LA) (a:Nat) (f g:Bool) (e:LA) (b:Nat) (i j:Bool) (k0:Int→Option R)  (c:Int):Option R :=
 (cond (decide (c<((a:Nat):Int))) (cond (Aj c a) (rdI .u32 (List.drop ((Int.toNat c)*1) d) fun m=>(cond (Aj c b) (rdI .u32 (List.drop ((Int.toNat c)*1) e) fun o=>(cond (m != o) (r0 false) (k0 (IntKind.wrap .i64 (c+(1:Int)))))) none)) none) (r0 true))
def Ni (N:Nat)  (r0:Bool→Option R) (d:LA) (a:Nat) (f g:Bool) (e:LA) (b:Nat) (i j:Bool):Nat→Int→Option R
 | 0,_=>none
 | n+1,c=>(Xu N r0 d a f g e b i j (Ni N r0 d a f g e b i j n) c)
def A75 (N:Nat) (r0:Bool→Option R) (q0:Int→Option R) (d:LA) (a:Nat) (f g:Bool) (e:LA) (b:Nat) (i j:Bool):Option R :=
 (cond (((a:Nat):Int) != ((b:Nat):Int)) (r0 false) (q0 0))
def A76 (N:Nat) (d:LA) (a:Nat) (f g:Bool) (e:LA) (b:Nat) (i j:Bool) (r0:Bool→Option R):Option R:=(A75 N r0 (fun c=>(Ni N r0 d a f g e b i j N c)) d a f g e b i j)
def Aof:=(Ai (@A76 R)).1
theorem A5e:@Aof R=@A76 R:=(Ai _).2
def Ab9:Hints:={ H:=(hS (hR [0,1]) (hS (hS (hR [0,1,10]) (hN [0,1] (hS (hR [4]) hL) hL)) (hS (hS (hR [0,1,5]) (hS (hN [0,1,5] (hS (hS (hR [0,1,5,14]) (hN [0,1,5] hL hL)) (hS (hN [0,1,5] (hS (hR [0,1,5,25]) (hN [0,1,5] (hS (hR [4]) hL) hL)) hL) (hR [0,1,5]))) hL) hL)) (hS (hR [4]) hL)))),nils:=[],modes:=[],free:=[],cob:=[] }
def Aiw (N:Nat):List (Nat×Tw):=[]
def Aix (N:Nat):Env:=mkE 26 Ab9 (Aiw N)
def Bvl (N:Nat) (F:KF R):=Ao (Aix N) Tryz.f89 Ab9.modes [] F
def Bci (N:Nat) (F:KF R):=atF (Aix N) [] N Tryz.f89 Ab9 (Bvl N F)
def Sj  (F:KF R):Bool→Option R:=(fun p=>F (.bool p) [])
def Nj (d:LA) (a:Nat) (f g:Bool) (e:LA) (b:Nat) (i j:Bool) (c:Int):St:={ s:=[(0,(.imm d a 1 f g)),(1,(.imm e b 1 i j)),(5,(.int .i64 c))],h:=[] }
def Bcj (N:Nat) (F:KF R):St→Option R:=Bq (Aix N) [] N (Bci N F [1,1,0,1,0] []) N
def Aca (N:Nat) (F:KF R) (n:Nat):St→Option R:=A4 (Aix N) [] N (Bci N F [1,1,0,1,0] []) n
theorem Bnc (N:Nat)  (F:KF R) (d:LA) (a:Nat) (f g:Bool) (e:LA) (b:Nat) (i j:Bool):∀ (n:Nat) (c:Int),Aca N F n (Nj d a f g e b i j c)=(Ni N (Sj F) d a f g e b i j n c):=by
 intro n
 induction n with
 | zero=>intros;kernel_rfl
 | succ n ih =>
  intro c
  have e0:=funext fun c=>(show Aca N F n (Nj d a f g e b i j c)=_ from ih c)
  have hK:Aca N F (n+1) (Nj d a f g e b i j c)=(Xu N (Sj F) d a f g e b i j (fun c=>Aca N F n (Nj d a f g e b i j c)) c):=by kernel_rfl
  exact hK.trans (by rw [e0];rfl)
theorem Aqh (N:Nat) (d:LA) (a:Nat) (f g:Bool) (e:LA) (b:Nat) (i j:Bool) (F:KF R):Ab Tryz.prog muts (Aiw N) Ab9 N 89 [(.imm d a 1 f g),(.imm e b 1 i j)] [] F=(Aof N d a f g e b i j (Sj F)):=by
 have e1:=funext fun c=>(show Bcj N F (Nj d a f g e b i j c)=_ from (Ap ..).trans (Bnc N F d a f g e b i j N c))
 have hK:Ab Tryz.prog muts (Aiw N) Ab9 N 89 [(.imm d a 1 f g),(.imm e b 1 i j)] [] F=(A75 N (Sj F) (fun c=>Bcj N F (Nj d a f g e b i j c)) d a f g e b i j):=by kernel_rfl
 rw [A5e]
 exact hK.trans (by rw [e1];rfl)
def Xv (N:Nat) (args:List AV) (h:Ak) (k:KF R):Option R :=
 match args,h with
 | [(.imm d a 1 f g),(.imm e b 1 i j)],[]=>(Aof N d a f g e b i j (Sj k))
 | _,_=>none
def Bck (N:Nat):Tw:=⟨Xv N,fun args h k=>by
 unfold Xv;split
 exact twE (Aqh ..) (Aqh ..)
 rfl⟩
theorem Bz3 (N:Nat):Ax Tryz.prog 89 (Bck N):=fun args h res l hh=>by
 change Xv N args h (fun v l=>some (v,l))=_ at hh
 unfold Xv at hh;split at hh
 exact Aa (T:=Aiw N) trivial follows ((Aqh ..).trans hh)
 cases hh
def Et (N:Nat)  (r0:Int→Bool→Option R) (b:Nat) (d:LA) (k0:Int→Int→Option R)  (c a:Int):Option R :=
 (cond (decide (a≥(0:Int))) (cond (Aj a b) (rdI .u32 (List.drop (0+((Int.toNat a)*1)) d) fun l=>(k0 (Rf .u64 (IntKind.wrap .u64 (c*2 ^ 32)) (IntKind.wrap .u64 l)) (IntKind.wrap .i64 (a - (1:Int))))) none) (r0 c true))
def Ej (N:Nat)  (r0:Int→Bool→Option R) (b:Nat) (d:LA):Nat→Int→Int→Option R
 | 0,_,_=>none
 | n+1,c,a=>(Et N r0 b d (Ej N r0 b d n) c a)
def Axs (N:Nat) (r0:Int→Bool→Option R) (q0:Nat→LA→Int→Int→Option R) (e:LA) (f:Nat) (i g:Bool):Option R :=
 (Dr N e f false g (fun b d=>(cond (decide (((b:Nat):Int)>(2:Int))) (r0 0 false) (q0 b d 0 (IntKind.wrap .i64 (((b:Nat):Int) - (1:Int)))))))
def Axt (N:Nat) (e:LA) (f:Nat) (i g:Bool) (r0:Int→Bool→Option R):Option R:=(Axs N r0 (fun b d c a=>(Ej N r0 b d N c a)) e f i g)
def Vz:=(Ai (@Axt R)).1
theorem Axu:@Vz R=@Axt R:=(Ai _).2
def Xw:Hints:={ H:=(hS (hR [0]) (hS (hR [0]) (hS (hS (hR [0,10]) (hN [0] (hS (hR [2,3]) hL) hL)) (hS (hR [0,4]) (hS (hS (hR [0,4,5]) (hN [4] (hN [0,4,5] (hS (hS (hR [0,4,5,15]) (hN [0,4,5] hL hL)) (hS (hN [0,4,5] (hR [0,4,5]) hL) (hR [0,4,5]))) hL) hL)) (hS (hR [2,3]) hL)))))),nils:=[],modes:=[],free:=[],cob:=[] }
def Acb (N:Nat):List (Nat×Tw):=[(143,Er N)]
def Acc (N:Nat):Env:=mkE 27 Xw (Acb N)
def Bpx (N:Nat) (F:KF R):=Ao (Acc N) Tryz.f178 Xw.modes [] F
def A5f (N:Nat) (F:KF R):=atF (Acc N) [] N Tryz.f178 Xw (Bpx N F)
def O2  (F:KF R):Int→Bool→Option R:=(fun m o=>F (.tup [(.int .u64 m),(.bool o)]) [])
def Kt (b:Nat) (d:LA) (c a:Int):St:={ s:=[(0,(.own 300000 0 b)),(4,(.int .u64 c)),(5,(.int .i64 a))],h:=[(300000,⟨false,false,true,false,1,d,false⟩)] }
def A5g (N:Nat) (F:KF R):St→Option R:=Bq (Acc N) [] N (A5f N F [1,1,1,1,0,1,0] []) N
def Xx (N:Nat) (F:KF R) (n:Nat):St→Option R:=A4 (Acc N) [] N (A5f N F [1,1,1,1,0,1,0] []) n
theorem Bgu (N:Nat)  (F:KF R) (b:Nat) (d:LA):∀ (n:Nat) (c a:Int),Xx N F n (Kt b d c a)=(Ej N (O2 F) b d n c a):=by
 intro n
 induction n with
 | zero=>intros;kernel_rfl
 | succ n ih =>
  intro c a
  have e0:=funext fun c=>funext fun a=>(show Xx N F n (Kt b d c a)=_ from ih c a)
  have hK:Xx N F (n+1) (Kt b d c a)=(Et N (O2 F) b d (fun c a=>Xx N F n (Kt b d c a)) c a):=by kernel_rfl
  exact hK.trans (by rw [e0];rfl)
theorem Al0 (N:Nat) (e:LA) (f:Nat) (i g:Bool) (F:KF R):Ab Tryz.prog muts (Acb N) Xw N 178 [(.imm e f 1 i g)] [] F=(Vz N e f i g (O2 F)):=by
 have e1:=funext fun b=>funext fun d=>funext fun c=>funext fun a=>(show A5g N F (Kt b d c a)=_ from (Ap ..).trans (Bgu N F b d N c a))
 have hK:Ab Tryz.prog muts (Acb N) Xw N 178 [(.imm e f 1 i g)] [] F=(Axs N (O2 F) (fun b d c a=>A5g N F (Kt b d c a)) e f i g):=by kernel_rfl
 rw [Axu]
 exact hK.trans (by rw [e1];rfl)
def Sk (N:Nat) (args:List AV) (h:Ak) (k:KF R):Option R :=
 match args,h with
 | [(.imm e f 1 i g)],[]=>(Vz N e f i g (O2 k))
 | _,_=>none
def A5h (N:Nat):Tw:=⟨Sk N,fun args h k=>by
 unfold Sk;split
 exact twE (Al0 ..) (Al0 ..)
 rfl⟩
theorem Bvm (N:Nat):Ax Tryz.prog 178 (A5h N):=fun args h res j hh=>by
 change Sk N args h (fun v j=>some (v,j))=_ at hh
 unfold Sk at hh;split at hh
 exact Aa (T:=Acb N) ⟨Fp N,trivial⟩ follows ((Al0 ..).trans hh)
 cases hh
def Sm (N:Nat)  (r0:Int→Option R)  (k0:Int→Int→Option R)  (a b:Int):Option R :=
 (cond (decide (b>(0:Int))) (k0 (IntKind.wrap .i64 (a+(1:Int))) (Int.fdiv b (2 ^ 1))) (r0 a))
def Mb (N:Nat)  (r0:Int→Option R) :Nat→Int→Int→Option R
 | 0,_,_=>none
 | n+1,a,b=>(Sm N r0 (Mb N r0 n) a b)
def A21 (N:Nat) (r0:Int→Option R) (q0:Int→Int→Option R) (c:LA) (d:Nat) (f e:Bool):Option R :=
 (Dr N c d false e (fun g j=>(cond (((g:Nat):Int)==(0:Int)) (r0 0) (cond (Aj (IntKind.wrap .i64 (((g:Nat):Int) - (1:Int))) g) (rdI .u32 (List.drop (0+((Int.toNat (IntKind.wrap .i64 (((g:Nat):Int) - (1:Int))))*1)) j) fun l=>(q0 (IntKind.wrap .i64 ((32:Int)*(IntKind.wrap .i64 (((g:Nat):Int) - (1:Int))))) l)) none))))
def A22 (N:Nat) (c:LA) (d:Nat) (f e:Bool) (r0:Int→Option R):Option R:=(A21 N r0 (fun a b=>(Mb N r0 N a b)) c d f e)
def Axv:=(Ai (@A22 R)).1
theorem Aqi:@Axv R=@A22 R:=(Ai _).2
def Aiy:Hints:={ H:=(hS (hR [0]) (hS (hR [0]) (hS (hS (hR [0,9]) (hN [0] (hS (hR [2]) hL) hL)) (hS (hR [0,3]) (hS (hS (hR [3,4]) (hN [3] (hN [3,4] (hS (hS (hR [3,4,21]) (hN [3,4] hL hL)) (hS (hN [3,4] (hR [3,4]) hL) (hR [3,4]))) hL) hL)) (hS (hR [2]) hL)))))),nils:=[],modes:=[],free:=[],cob:=[] }
def Aqj (N:Nat):List (Nat×Tw):=[(143,Er N)]
def Aqk (N:Nat):Env:=mkE 27 Aiy (Aqj N)
def Bz4 (N:Nat) (F:KF R):=Ao (Aqk N) Tryz.f179 Aiy.modes [] F
def Bk2 (N:Nat) (F:KF R):=atF (Aqk N) [] N Tryz.f179 Aiy (Bz4 N F)
def Zt  (F:KF R):Int→Option R:=(fun m=>F (.int .i64 m) [])
def Ri (a b:Int):St:={ s:=[(3,(.int .i64 a)),(4,(.int .u32 b))],h:=[] }
def Bk3 (N:Nat) (F:KF R):St→Option R:=Bq (Aqk N) [] N (Bk2 N F [1,1,1,1,0,1,0] []) N
def Aiz (N:Nat) (F:KF R) (n:Nat):St→Option R:=A4 (Aqk N) [] N (Bk2 N F [1,1,1,1,0,1,0] []) n
theorem Bpy (N:Nat)  (F:KF R) :∀ (n:Nat) (a b:Int),Aiz N F n (Ri a b)=(Mb N (Zt F) n a b):=by
 intro n
 induction n with
 | zero=>intros;kernel_rfl
 | succ n ih =>
  intro a b
  have e0:=funext fun a=>funext fun b=>(show Aiz N F n (Ri a b)=_ from ih a b)
  have hK:Aiz N F (n+1) (Ri a b)=(Sm N (Zt F) (fun a b=>Aiz N F n (Ri a b)) a b):=by kernel_rfl
  exact hK.trans (by rw [e0];rfl)
theorem Axw (N:Nat) (c:LA) (d:Nat) (f e:Bool) (F:KF R):Ab Tryz.prog muts (Aqj N) Aiy N 179 [(.imm c d 1 f e)] [] F=(Axv N c d f e (Zt F)):=by
 have e1:=funext fun a=>funext fun b=>(show Bk3 N F (Ri a b)=_ from (Ap ..).trans (Bpy N F N a b))
 have hK:Ab Tryz.prog muts (Aqj N) Aiy N 179 [(.imm c d 1 f e)] [] F=(A21 N (Zt F) (fun a b=>Bk3 N F (Ri a b)) c d f e):=by kernel_rfl
 rw [Aqi]
 exact hK.trans (by rw [e1];rfl)
def Acd (N:Nat) (args:List AV) (h:Ak) (k:KF R):Option R :=
 match args,h with
 | [(.imm c d 1 f e)],[]=>(Axv N c d f e (Zt k))
 | _,_=>none
def Bk4 (N:Nat):Tw:=⟨Acd N,fun args h k=>by
 unfold Acd;split
 exact twE (Axw ..) (Axw ..)
 rfl⟩
theorem B2u (N:Nat):Ax Tryz.prog 179 (Bk4 N):=fun args h res i hh=>by
 change Acd N args h (fun v i=>some (v,i))=_ at hh
 unfold Acd at hh;split at hh
 exact Aa (T:=Aqj N) ⟨Fp N,trivial⟩ follows ((Axw ..).trans hh)
 cases hh
def Axx (N:Nat) (k0:Nat→Int→Int→LA→Option R) (r0:Nat→LA→Option R) (d:LA) (a:Nat) (g i:Bool) (e:LA) (b:Nat) (j l:Bool) (c:Nat) (f:LA)   (q o:Int):Option R :=
 (cond (decide (o<((b:Nat):Int))) (cond (Aj o b) (rdI .u32 (List.drop ((Int.toNat o)*1) e) fun r=>(cond (Aj o c) (cond ((Nat.beq 1 1)&&((Nat.ble ((0+((Int.toNat o)*1))+1) (List.length f))&&(!false))) (k0 c (Int.fdiv (IntKind.wrap .u64 (q+(IntKind.wrap .u64 r))) (2 ^ 32)) (IntKind.wrap .i64 (o+(1:Int))) (List.set f (0+((Int.toNat o)*1)) (.int .u32 (IntKind.wrap .u32 (IntKind.wrap .u64 (q+(IntKind.wrap .u64 r))))))) none) none)) none) (cond (Aj o c) (cond ((Nat.beq 1 1)&&((Nat.ble ((0+((Int.toNat o)*1))+1) (List.length f))&&(!false))) (k0 c (Int.fdiv q (2 ^ 32)) (IntKind.wrap .i64 (o+(1:Int))) (List.set f (0+((Int.toNat o)*1)) (.int .u32 (IntKind.wrap .u32 q)))) none) none))
def Afn (N:Nat) (k0:Nat→Int→Int→LA→Option R) (r0:Nat→LA→Option R) (d:LA) (a:Nat) (g i:Bool) (e:LA) (b:Nat) (j l:Bool) (c:Nat) (f:LA) (q o:Int):Option R:=(Axx N k0 r0 d a g i e b j l c f q o)
def Ai0 (N:Nat)  (r0:Nat→LA→Option R) (d:LA) (a:Nat) (g i:Bool) (e:LA) (b:Nat) (j l:Bool) (k0:Nat→Int→Int→LA→Option R) (q1:Int→Int→Option R) (c:Nat) (p m:Int) (f:LA):Option R :=
 (cond (decide (m<((c:Nat):Int))) (cond (decide (m<((a:Nat):Int))) (cond (Aj m a) (rdI .u32 (List.drop ((Int.toNat m)*1) d) fun u=>(q1 (IntKind.wrap .u64 (p+(IntKind.wrap .u64 u))) m)) none) (q1 p m)) (Dr N (List.take (c*1) f) c false true (fun w x=>(r0 w x))))
def Hp (N:Nat)  (r0:Nat→LA→Option R) (d:LA) (a:Nat) (g i:Bool) (e:LA) (b:Nat) (j l:Bool):Nat→Nat→Int→Int→LA→Option R
 | 0,_,_,_,_=>none
 | n+1,c,p,m,f=>(Ai0 N r0 d a g i e b j l (Hp N r0 d a g i e b j l n) (fun q o=>(Afn N (Hp N r0 d a g i e b j l n) r0 d a g i e b j l c f q o)) c p m f)
def Bpz (N:Nat) (r0:Nat→LA→Option R) (q0:Nat→Int→Int→LA→Option R) (d:LA) (a:Nat) (g i:Bool) (e:LA) (b:Nat) (j l:Bool):Option R :=
 (cond ((decide ((0:Int)≤(IntKind.wrap .i64 ((Qp ((a:Nat):Int) ((b:Nat):Int))+(1:Int)))))&&((decide ((IntKind.wrap .i64 ((Qp ((a:Nat):Int) ((b:Nat):Int))+(1:Int)))≤(IntKind.wrap .i64 ((Qp ((a:Nat):Int) ((b:Nat):Int))+(1:Int)))))&&((decide ((IntKind.wrap .i64 ((Qp ((a:Nat):Int) ((b:Nat):Int))+(1:Int)))≤(140737488355328:Int)))&&(decide (((IntKind.wrap .i64 ((Qp ((a:Nat):Int) ((b:Nat):Int))+(1:Int)))*((4:Nat):Int))≤(140737488355328:Int)))))) (q0 (Int.toNat (IntKind.wrap .i64 ((Qp ((a:Nat):Int) ((b:Nat):Int))+(1:Int)))) 0 0 (List.replicate (Int.toNat (IntKind.wrap .i64 ((Qp ((a:Nat):Int) ((b:Nat):Int))+(1:Int)))) (.int .u32 0))) none)
def Bp0 (N:Nat) (d:LA) (a:Nat) (g i:Bool) (e:LA) (b:Nat) (j l:Bool) (r0:Nat→LA→Option R):Option R:=(Bpz N r0 (fun c p m f=>(Hp N r0 d a g i e b j l N c p m f)) d a g i e b j l)
def Aql:=(Ai (@Bp0 R)).1
theorem Bk5:@Aql R=@Bp0 R:=(Ai _).2
def Aqm:Hints:={ H:=(hS (hR [0,1]) (hS (hR [0,1,5]) (hS (hR [0,1,5,6]) (hS (hS (hR [0,1,5,6,7]) (hN [5] (hN [0,1,5,6,7] (hS (hS (hR [0,1,5,6,7,18]) (hN [0,1,5,6,7] hL hL)) (hS (hN [0,1,5,6,7] (hJ (hS (hR [0,1,5,6,7,24]) (hN [0,1,5,6,7] (hR [0,1,5,6,7]) hL)) (hS (hS (hR [0,1,5,6,7,35]) (hN [0,1,5,6,7] (hR [0,1,5,6,7]) hL)) (hS (hR [0,1,5,6,7]) (hR [0,1,5,6,7])))) hL) (hR [0,1,5,6,7]))) hL) hL)) (hS (hR [4]) hL))))),nils:=[(4,1)],modes:=[(2,1)],free:=[],cob:=[] }
def A23 (N:Nat):List (Nat×Tw):=[(143,Er N)]
def Aed (N:Nat):Env:=mkE 52 Aqm (A23 N)
def B2v (N:Nat) (F:KF R):=Ao (Aed N) Tryz.f122 Aqm.modes [] F
def Aqn (N:Nat) (F:KF R):=atF (Aed N) [] N Tryz.f122 Aqm (B2v N F)
def Jk  (F:KF R):Nat→LA→Option R:=(fun y z=>F (.own 300000 0 y) [(300000,⟨false,false,true,false,1,z,false⟩)])
def Aqo (d:LA) (a:Nat) (g i:Bool) (e:LA) (b:Nat) (j l:Bool) (c:Nat) (f:LA) (q o:Int):St:={ s:=[(0,(.imm d a 1 g i)),(1,(.imm e b 1 j l)),(5,(.own 300000 0 c)),(6,(.int .u64 q)),(7,(.int .i64 o))],h:=[(300000,⟨false,false,true,false,1,f,false⟩)] }
def Bp1 (N:Nat) (F:KF R) (Q0:St→Option R):St→Option R:=Cg (Aed N) [] N (Aqn N F [1,1,1,0,1,0,0,1,0,0,1] [Q0])
def Bp2 (N:Nat) (F:KF R) (Q0:St→Option R):St→Option R:=Ck (Aed N) [] N (Aqn N F [1,1,1,0,1,0,0,1,0,0,1] [Q0])
def Mc (d:LA) (a:Nat) (g i:Bool) (e:LA) (b:Nat) (j l:Bool) (c:Nat) (p m:Int) (f:LA):St:={ s:=[(0,(.imm d a 1 g i)),(1,(.imm e b 1 j l)),(5,(.own 300000 0 c)),(6,(.int .u64 p)),(7,(.int .i64 m))],h:=[(300000,⟨false,false,true,false,1,f,false⟩)] }
def Bp3 (N:Nat) (F:KF R):St→Option R:=Bq (Aed N) [] N (Aqn N F [1,1,1,0,1,0] []) N
def Qq (N:Nat) (F:KF R) (n:Nat):St→Option R:=A4 (Aed N) [] N (Aqn N F [1,1,1,0,1,0] []) n
theorem Bvn (N:Nat) (Q0:St→Option R) (F:KF R) (d:LA) (a:Nat) (g i:Bool) (e:LA) (b:Nat) (j l:Bool) (c:Nat) (f:LA):∀ (q o:Int),Bp2 N F Q0 (Aqo d a g i e b j l c f q o)=(Afn N (fun c p m f=>Q0 (Mc d a g i e b j l c p m f)) (Jk F) d a g i e b j l c f q o):=by
 intro q o
 have hK:Bp2 N F Q0 (Aqo d a g i e b j l c f q o)=(Axx N (fun c p m f=>Q0 (Mc d a g i e b j l c p m f)) (Jk F) d a g i e b j l c f q o):=by kernel_rfl
 exact hK
theorem Bvo (N:Nat)  (F:KF R) (d:LA) (a:Nat) (g i:Bool) (e:LA) (b:Nat) (j l:Bool):∀ (n c:Nat) (p m:Int) (f:LA),Qq N F n (Mc d a g i e b j l c p m f)=(Hp N (Jk F) d a g i e b j l n c p m f):=by
 intro n
 induction n with
 | zero=>intros;kernel_rfl
 | succ n ih =>
  intro c p m f
  have e0:=funext fun c=>funext fun p=>funext fun m=>funext fun f=>(show Qq N F n (Mc d a g i e b j l c p m f)=_ from ih c p m f)
  have e1:(fun q o=>Bp1 N F (Qq N F n) (Aqo d a g i e b j l c f q o))=(fun q o=>(Afn N (Hp N (Jk F) d a g i e b j l n) (Jk F) d a g i e b j l c f q o)):=by funext q;funext o;exact ((Aw ..).trans (Bvn N (Qq N F n) F d a g i e b j l c f q o)).trans (by rw [e0])
  have hK:Qq N F (n+1) (Mc d a g i e b j l c p m f)=(Ai0 N (Jk F) d a g i e b j l (fun c p m f=>Qq N F n (Mc d a g i e b j l c p m f)) (fun q o=>Bp1 N F (Qq N F n) (Aqo d a g i e b j l c f q o)) c p m f):=by kernel_rfl
  exact hK.trans (by rw [e0,e1];rfl)
theorem A77 (N:Nat) (d:LA) (a:Nat) (g i:Bool) (e:LA) (b:Nat) (j l:Bool) (F:KF R):Ab Tryz.prog muts (A23 N) Aqm N 122 [(.imm d a 1 g i),(.imm e b 1 j l)] [] F=(Aql N d a g i e b j l (Jk F)):=by
 have e1:=funext fun c=>funext fun p=>funext fun m=>funext fun f=>(show Bp3 N F (Mc d a g i e b j l c p m f)=_ from (Ap ..).trans (Bvo N F d a g i e b j l N c p m f))
 have hK:Ab Tryz.prog muts (A23 N) Aqm N 122 [(.imm d a 1 g i),(.imm e b 1 j l)] [] F=(Bpz N (Jk F) (fun c p m f=>Bp3 N F (Mc d a g i e b j l c p m f)) d a g i e b j l):=by kernel_rfl
 rw [Bk5]
 exact hK.trans (by rw [e1];rfl)
def Ai1 (N:Nat) (args:List AV) (h:Ak) (k:KF R):Option R :=
 match args,h with
 | [(.imm d a 1 g i),(.imm e b 1 j l)],[]=>(Aql N d a g i e b j l (Jk k))
 | _,_=>none
def A78 (N:Nat):Tw:=⟨Ai1 N,fun args h k=>by
 unfold Ai1;split
 exact twE (A77 ..) (A77 ..)
 rfl⟩
theorem Bp4 (N:Nat):Ax Tryz.prog 122 (A78 N):=fun args h res t hh=>by
 change Ai1 N args h (fun v t=>some (v,t))=_ at hh
 unfold Ai1 at hh;split at hh
 exact Aa (T:=A23 N) ⟨Fp N,trivial⟩ follows ((A77 ..).trans hh)
 cases hh
def Bp5 (N:Nat) (r0:Int→Option R)  (c:LA) (b:Nat) (d e:Bool) (a:Int):Option R :=
 (cond (decide ((IntKind.wrap .i64 (Int.tdiv a (32:Int)))≥((b:Nat):Int))) (r0 0) (cond (Aj (IntKind.wrap .i64 (Int.tdiv a (32:Int))) b) (rdI .u32 (List.drop ((Int.toNat (IntKind.wrap .i64 (Int.tdiv a (32:Int))))*1) c) fun g=>(cond (decide ((IntKind.wrap .u64 (Int.tmod a (32:Int)))<(0:Int))) none (r0 (B46 .u32 (Int.fdiv g (2 ^ (min (Int.toNat (IntKind.wrap .u64 (Int.tmod a (32:Int)))) 32))) (1:Int))))) none))
def Bp6 (N:Nat) (c:LA) (b:Nat) (d e:Bool) (a:Int) (r0:Int→Option R):Option R:=(Bp5 N r0 c b d e a)
def Bcl:=(Ai (@Bp6 R)).1
theorem Bk6:@Bcl R=@Bp6 R:=(Ai _).2
def Bp7:Hints:={ H:=(hS (hR [0,1]) (hS (hS (hR [0,1,9]) (hN [0,1] (hS (hR [4]) hL) hL)) (hS (hR [4]) hL))),nils:=[],modes:=[],free:=[],cob:=[] }
def Bgv (N:Nat):List (Nat×Tw):=[]
def A79  (F:KF R):Int→Option R:=(fun i=>F (.int .u32 i) [])
theorem A8a (N:Nat) (c:LA) (b:Nat) (d e:Bool) (a:Int) (F:KF R):Ab Tryz.prog muts (Bgv N) Bp7 N 180 [(.imm c b 1 d e),(.int .i64 a)] [] F=(Bcl N c b d e a (A79 F)):=by
 have hK:Ab Tryz.prog muts (Bgv N) Bp7 N 180 [(.imm c b 1 d e),(.int .i64 a)] [] F=(Bp5 N (A79 F) c b d e a):=by kernel_rfl
 rw [Bk6]
 exact hK
def Ai2 (N:Nat) (args:List AV) (h:Ak) (k:KF R):Option R :=
 match args,h with
 | [(.imm c b 1 d e),(.int .i64 a)],[]=>(Bcl N c b d e a (A79 k))
 | _,_=>none
def Bp8 (N:Nat):Tw:=⟨Ai2 N,fun args h k=>by
 unfold Ai2;split
 exact twE (A8a ..) (A8a ..)
 rfl⟩
theorem B47 (N:Nat):Ax Tryz.prog 180 (Bp8 N):=fun args h res f hh=>by
 change Ai2 N args h (fun v f=>some (v,f))=_ at hh
 unfold Ai2 at hh;split at hh
 exact Aa (T:=Bgv N) trivial follows ((A8a ..).trans hh)
 cases hh
def Pl (N:Nat)  (r0:Int→Option R) (b c:Nat) (d e:LA) (k0:Int→Option R)  (a:Int):Option R :=
 (cond (decide (a≥(0:Int))) (cond (Aj a b) (rdI .u32 (List.drop (0+((Int.toNat a)*1)) d) fun r=>(cond (Aj a c) (rdI .u32 (List.drop (0+((Int.toNat a)*1)) e) fun t=>(cond (decide (r<t)) (r0 (-1)) (cond (Aj a b) (rdI .u32 (List.drop (0+((Int.toNat a)*1)) d) fun u=>(cond (Aj a c) (rdI .u32 (List.drop (0+((Int.toNat a)*1)) e) fun w=>(cond (decide (u>w)) (r0 1) (k0 (IntKind.wrap .i64 (a - (1:Int)))))) none)) none))) none)) none) (r0 0))
def Ih (N:Nat)  (r0:Int→Option R) (b c:Nat) (d e:LA):Nat→Int→Option R
 | 0,_=>none
 | n+1,a=>(Pl N r0 b c d e (Ih N r0 b c d e n) a)
def Aqp (N:Nat) (r0:Int→Option R) (q0:Nat→Nat→LA→LA→Int→Option R) (f:LA) (g:Nat) (o i:Bool) (j:LA) (l:Nat) (p m:Bool):Option R :=
 (Dr N f g false i (fun b d=>(Dr N j l false m (fun c e=>(cond (((b:Nat):Int) != ((c:Nat):Int)) (cond (decide (((b:Nat):Int)<((c:Nat):Int))) (r0 (-1)) (r0 1)) (q0 b c d e (IntKind.wrap .i64 (((b:Nat):Int) - (1:Int)))))))))
def Aqq (N:Nat) (f:LA) (g:Nat) (o i:Bool) (j:LA) (l:Nat) (p m:Bool) (r0:Int→Option R):Option R:=(Aqp N r0 (fun b c d e a=>(Ih N r0 b c d e N a)) f g o i j l p m)
def Zu:=(Ai (@Aqq R)).1
theorem Avm:@Zu R=@Aqq R:=(Ai _).2
def Sn:Hints:={ H:=(hS (hR [0,1]) (hS (hR [0,1]) (hS (hS (hR [0,1,14]) (hN [0,1] (hS (hS (hR [19]) (hS (hS (hR [4]) hL) hL)) (hS (hR [4]) hL)) hL)) (hS (hS (hR [0,1,5]) (hS (hN [0,1,5] (hS (hS (hR [0,1,5,24]) (hN [0,1,5] hL hL)) (hS (hN [0,1,5] (hS (hS (hR [0,1,5,35]) (hN [0,1,5] (hS (hR [4]) hL) hL)) (hS (hR [0,1,5,44]) (hN [0,1,5] (hS (hR [4]) hL) hL))) hL) (hR [0,1,5]))) hL) hL)) (hS (hR [4]) hL))))),nils:=[],modes:=[],free:=[],cob:=[] }
def Xy (N:Nat):List (Nat×Tw):=[(143,Er N)]
def Xz (N:Nat):Env:=mkE 45 Sn (Xy N)
def Bnd (N:Nat) (F:KF R):=Ao (Xz N) Tryz.f168 Sn.modes [] F
def Axy (N:Nat) (F:KF R):=atF (Xz N) [] N Tryz.f168 Sn (Bnd N F)
def Md  (F:KF R):Int→Option R:=(fun x=>F (.int .i64 x) [])
def Ii (b c:Nat) (d e:LA) (a:Int):St:={ s:=[(0,(.own 300000 0 b)),(1,(.own 300001 0 c)),(5,(.int .i64 a))],h:=[(300000,⟨false,false,true,false,1,d,false⟩),(300001,⟨false,false,true,false,1,e,false⟩)] }
def Axz (N:Nat) (F:KF R):St→Option R:=Bq (Xz N) [] N (Axy N F [1,1,1,0,1,0] []) N
def So (N:Nat) (F:KF R) (n:Nat):St→Option R:=A4 (Xz N) [] N (Axy N F [1,1,1,0,1,0] []) n
theorem Bcm (N:Nat)  (F:KF R) (b c:Nat) (d e:LA):∀ (n:Nat) (a:Int),So N F n (Ii b c d e a)=(Ih N (Md F) b c d e n a):=by
 intro n
 induction n with
 | zero=>intros;kernel_rfl
 | succ n ih =>
  intro a
  have e0:=funext fun a=>(show So N F n (Ii b c d e a)=_ from ih a)
  have hK:So N F (n+1) (Ii b c d e a)=(Pl N (Md F) b c d e (fun a=>So N F n (Ii b c d e a)) a):=by kernel_rfl
  exact hK.trans (by rw [e0];rfl)
theorem Afo (N:Nat) (f:LA) (g:Nat) (o i:Bool) (j:LA) (l:Nat) (p m:Bool) (F:KF R):Ab Tryz.prog muts (Xy N) Sn N 168 [(.imm f g 1 o i),(.imm j l 1 p m)] [] F=(Zu N f g o i j l p m (Md F)):=by
 have e1:=funext fun b=>funext fun c=>funext fun d=>funext fun e=>funext fun a=>(show Axz N F (Ii b c d e a)=_ from (Ap ..).trans (Bcm N F b c d e N a))
 have hK:Ab Tryz.prog muts (Xy N) Sn N 168 [(.imm f g 1 o i),(.imm j l 1 p m)] [] F=(Aqp N (Md F) (fun b c d e a=>Axz N F (Ii b c d e a)) f g o i j l p m):=by kernel_rfl
 rw [Avm]
 exact hK.trans (by rw [e1];rfl)
def Pm (N:Nat) (args:List AV) (h:Ak) (k:KF R):Option R :=
 match args,h with
 | [(.imm f g 1 o i),(.imm j l 1 p m)],[]=>(Zu N f g o i j l p m (Md k))
 | _,_=>none
def Ax0 (N:Nat):Tw:=⟨Pm N,fun args h k=>by
 unfold Pm;split
 exact twE (Afo ..) (Afo ..)
 rfl⟩
theorem Bp9 (N:Nat):Ax Tryz.prog 168 (Ax0 N):=fun args h res q hh=>by
 change Pm N args h (fun v q=>some (v,q))=_ at hh
 unfold Pm at hh;split at hh
 exact Aa (T:=Xy N) ⟨Fp N,trivial⟩ follows ((Afo ..).trans hh)
 cases hh
def Ax1 (N:Nat) (k0:Int→Int→LA→Option R) (r0:Nat→Bool→LA→Option R) (a c:Nat) (d e b:LA)   (g j:Int):Option R :=
 (cond (Aj g a) (rdI .u32 (List.drop (0+((Int.toNat g)*1)) d) fun w=>(cond (decide ((IntKind.wrap .u64 w)<j)) (cond (Aj g a) (cond ((Nat.beq 1 1)&&((Nat.ble ((0+((Int.toNat g)*1))+1) (List.length b))&&(!false))) (k0 1 (IntKind.wrap .i64 (g+(1:Int))) (List.set b (0+((Int.toNat g)*1)) (.int .u32 (IntKind.wrap .u32 (IntKind.wrap .u64 ((IntKind.wrap .u64 ((IntKind.wrap .u64 w)+(4294967296:Int))) - j)))))) none) none) (cond (Aj g a) (cond ((Nat.beq 1 1)&&((Nat.ble ((0+((Int.toNat g)*1))+1) (List.length b))&&(!false))) (k0 0 (IntKind.wrap .i64 (g+(1:Int))) (List.set b (0+((Int.toNat g)*1)) (.int .u32 (IntKind.wrap .u32 (IntKind.wrap .u64 ((IntKind.wrap .u64 w) - j)))))) none) none))) none)
def Afp (N:Nat) (k0:Int→Int→LA→Option R) (r0:Nat→Bool→LA→Option R) (a c:Nat) (d e b:LA) (g j:Int):Option R:=(Ax1 N k0 r0 a c d e b g j)
def Ai3 (N:Nat)  (r0:Nat→Bool→LA→Option R) (a c:Nat) (d e:LA) (k0:Int→Int→LA→Option R) (q1:Int→Int→Option R) (i f:Int) (b:LA):Option R :=
 (cond (decide (f<((a:Nat):Int))) (cond (decide (f<((c:Nat):Int))) (cond (Aj f c) (rdI .u32 (List.drop (0+((Int.toNat f)*1)) e) fun y=>(q1 f (IntKind.wrap .u64 (i+(IntKind.wrap .u64 y))))) none) (q1 f i)) (Dr N (List.take (a*1) b) a false true (fun z aa=>(r0 z true aa))))
def Hq (N:Nat)  (r0:Nat→Bool→LA→Option R) (a c:Nat) (d e:LA):Nat→Int→Int→LA→Option R
 | 0,_,_,_=>none
 | n+1,i,f,b=>(Ai3 N r0 a c d e (Hq N r0 a c d e n) (fun g j=>(Afp N (Hq N r0 a c d e n) r0 a c d e b g j)) i f b)
def Bqa (N:Nat) (r0:Nat→Bool→LA→Option R) (q0:Nat→Nat→LA→LA→Int→Int→LA→Option R) (l:LA) (m:Nat) (t o:Bool) (p:LA) (q:Nat) (u r:Bool):Option R :=
 (Zu N l m false o p q false r (fun ab=>(cond (decide (ab<(0:Int))) (r0 0 false []) (Dr N l m false o (fun a d=>(Dr N p q false r (fun c e=>(cond ((decide ((0:Int)≤((a:Nat):Int)))&&((decide (((a:Nat):Int)≤((a:Nat):Int)))&&((decide (((a:Nat):Int)≤(140737488355328:Int)))&&(decide ((((a:Nat):Int)*((4:Nat):Int))≤(140737488355328:Int)))))) (q0 a c d e 0 0 (List.replicate a (.int .u32 0))) none))))))))
def Bqb (N:Nat) (l:LA) (m:Nat) (t o:Bool) (p:LA) (q:Nat) (u r:Bool) (r0:Nat→Bool→LA→Option R):Option R:=(Bqa N r0 (fun a c d e i f b=>(Hq N r0 a c d e N i f b)) l m t o p q u r)
def Aqr:=(Ai (@Bqb R)).1
theorem Bk7:@Aqr R=@Bqb R:=(Ai _).2
def Aqs:Hints:={ H:=(hS (hR [0,1]) (hS (hS (hR [0,1,14]) (hN [0,1] (hS (hR [4,5]) hL) hL)) (hS (hR [0,1]) (hS (hR [0,1,6]) (hS (hR [0,1,6,7]) (hS (hS (hR [0,1,6,7,8]) (hN [6] (hN [0,1,6,7,8] (hS (hS (hR [0,1,6,7,8,25]) (hN [0,1,6,7,8] hL hL)) (hS (hN [0,1,6,7,8] (hS (hR [0,1,6,8,9]) (hJ (hS (hR [0,1,6,8,9,32]) (hN [0,1,6,8,9] (hR [0,1,6,8,9]) hL)) (hS (hR [0,1,6,8,9,10]) (hS (hR [0,1,6,7,8,9,10]) (hS (hS (hR [0,1,6,7,8,9,10,47]) (hN [0,1,6,7,8,9,10] (hS (hR [0,1,6,8,9,10]) (hR [0,1,6,7,8,9,10])) hL)) (hR [0,1,6,7,8])))))) hL) (hR [0,1,6,7,8]))) hL) hL)) (hS (hR [4,5]) hL))))))),nils:=[(4,1)],modes:=[(2,1),(0,0)],free:=[],cob:=[] }
def A24 (N:Nat):List (Nat×Tw):=[(168,Ax0 N),(143,Er N)]
def Aee (N:Nat):Env:=mkE 59 Aqs (A24 N)
def B2w (N:Nat) (F:KF R):=Ao (Aee N) Tryz.f123 Aqs.modes [] F
def Aqt (N:Nat) (F:KF R):=atF (Aee N) [] N Tryz.f123 Aqs (B2w N F)
def Jl  (F:KF R):Nat→Bool→LA→Option R:=(fun ac ad ae=>F (.tup [(.own 300000 0 ac),(.bool ad)]) [(300000,⟨false,false,true,false,1,ae,false⟩)])
def Aqu (a c:Nat) (d e b:LA) (g j:Int):St:={ s:=[(0,(.own 300000 0 a)),(1,(.own 300001 0 c)),(6,(.own 300002 0 a)),(8,(.int .i64 g)),(9,(.int .u64 j))],h:=[(300000,⟨false,false,true,false,1,d,false⟩),(300001,⟨false,false,true,false,1,e,false⟩),(300002,⟨false,false,true,false,1,b,false⟩)] }
def Bqc (N:Nat) (F:KF R) (Q0:St→Option R):St→Option R:=Cg (Aee N) [] N (Aqt N F [1,1,1,1,1,0,1,0,0,1,0,0,1,1] [Q0])
def Bqd (N:Nat) (F:KF R) (Q0:St→Option R):St→Option R:=Ck (Aee N) [] N (Aqt N F [1,1,1,1,1,0,1,0,0,1,0,0,1,1] [Q0])
def Me (a c:Nat) (d e:LA) (i f:Int) (b:LA):St:={ s:=[(0,(.own 300000 0 a)),(1,(.own 300001 0 c)),(6,(.own 300002 0 a)),(7,(.int .u64 i)),(8,(.int .i64 f))],h:=[(300000,⟨false,false,true,false,1,d,false⟩),(300001,⟨false,false,true,false,1,e,false⟩),(300002,⟨false,false,true,false,1,b,false⟩)] }
def Bqe (N:Nat) (F:KF R):St→Option R:=Bq (Aee N) [] N (Aqt N F [1,1,1,1,1,0,1,0] []) N
def Qr (N:Nat) (F:KF R) (n:Nat):St→Option R:=A4 (Aee N) [] N (Aqt N F [1,1,1,1,1,0,1,0] []) n
theorem Bvp (N:Nat) (Q0:St→Option R) (F:KF R) (a c:Nat) (d e b:LA):∀ (g j:Int),Bqd N F Q0 (Aqu a c d e b g j)=(Afp N (fun i f b=>Q0 (Me a c d e i f b)) (Jl F) a c d e b g j):=by
 intro g j
 have hK:Bqd N F Q0 (Aqu a c d e b g j)=(Ax1 N (fun i f b=>Q0 (Me a c d e i f b)) (Jl F) a c d e b g j):=by kernel_rfl
 exact hK
theorem Bvq (N:Nat)  (F:KF R) (a c:Nat) (d e:LA):∀ (n:Nat) (i f:Int) (b:LA),Qr N F n (Me a c d e i f b)=(Hq N (Jl F) a c d e n i f b):=by
 intro n
 induction n with
 | zero=>intros;kernel_rfl
 | succ n ih =>
  intro i f b
  have e0:=funext fun i=>funext fun f=>funext fun b=>(show Qr N F n (Me a c d e i f b)=_ from ih i f b)
  have e1:(fun g j=>Bqc N F (Qr N F n) (Aqu a c d e b g j))=(fun g j=>(Afp N (Hq N (Jl F) a c d e n) (Jl F) a c d e b g j)):=by funext g;funext j;exact ((Aw ..).trans (Bvp N (Qr N F n) F a c d e b g j)).trans (by rw [e0])
  have hK:Qr N F (n+1) (Me a c d e i f b)=(Ai3 N (Jl F) a c d e (fun i f b=>Qr N F n (Me a c d e i f b)) (fun g j=>Bqc N F (Qr N F n) (Aqu a c d e b g j)) i f b):=by kernel_rfl
  exact hK.trans (by rw [e0,e1];rfl)
theorem A8b (N:Nat) (l:LA) (m:Nat) (t o:Bool) (p:LA) (q:Nat) (u r:Bool) (F:KF R):Ab Tryz.prog muts (A24 N) Aqs N 123 [(.imm l m 1 t o),(.imm p q 1 u r)] [] F=(Aqr N l m t o p q u r (Jl F)):=by
 have e1:=funext fun a=>funext fun c=>funext fun d=>funext fun e=>funext fun i=>funext fun f=>funext fun b=>(show Bqe N F (Me a c d e i f b)=_ from (Ap ..).trans (Bvq N F a c d e N i f b))
 have hK:Ab Tryz.prog muts (A24 N) Aqs N 123 [(.imm l m 1 t o),(.imm p q 1 u r)] [] F=(Bqa N (Jl F) (fun a c d e i f b=>Bqe N F (Me a c d e i f b)) l m t o p q u r):=by kernel_rfl
 rw [Bk7]
 exact hK.trans (by rw [e1];rfl)
def Ai4 (N:Nat) (args:List AV) (h:Ak) (k:KF R):Option R :=
 match args,h with
 | [(.imm l m 1 t o),(.imm p q 1 u r)],[]=>(Aqr N l m t o p q u r (Jl k))
 | _,_=>none
def A8c (N:Nat):Tw:=⟨Ai4 N,fun args h k=>by
 unfold Ai4;split
 exact twE (A8b ..) (A8b ..)
 rfl⟩
theorem Bqf (N:Nat):Ax Tryz.prog 123 (A8c N):=fun args h res x hh=>by
 change Ai4 N args h (fun v x=>some (v,x))=_ at hh
 unfold Ai4 at hh;split at hh
 exact Aa (T:=A24 N) ⟨Bp9 N,Fp N,trivial⟩ follows ((A8b ..).trans hh)
 cases hh
def Afq (N:Nat) (k1:Nat→Int→LA→LA→Option R) (r0:Nat→Nat→Bool→LA→LA→Option R) (b:LA) (a:Nat) (e c:Bool) (d:Nat) (g:Int) (f i:LA)   (m:Nat) (o:LA):Option R :=
 (Aqr N (List.take (m*1) o) m false true (List.take (d*1) f) d false true (fun aa ab ac=>(cond ab (cond (Aj (IntKind.wrap .i64 (Int.tdiv g (32:Int))) a) (rdI .u32 (List.drop (0+((Int.toNat (IntKind.wrap .i64 (Int.tdiv g (32:Int))))*1)) i) fun ad=>(cond (decide ((IntKind.wrap .u64 (Int.tmod g (32:Int)))<(0:Int))) none (cond (Aj (IntKind.wrap .i64 (Int.tdiv g (32:Int))) a) (cond ((Nat.beq 1 1)&&((Nat.ble ((0+((Int.toNat (IntKind.wrap .i64 (Int.tdiv g (32:Int))))*1))+1) (List.length i))&&(!false))) (k1 aa (IntKind.wrap .i64 (g - (1:Int))) (List.set i (0+((Int.toNat (IntKind.wrap .i64 (Int.tdiv g (32:Int))))*1)) (.int .u32 (Rf .u32 ad (IntKind.wrap .u32 ((1:Int)*2 ^ (min (Int.toNat (IntKind.wrap .u64 (Int.tmod g (32:Int)))) 32)))))) ac) none) none))) none) (k1 m (IntKind.wrap .i64 (g - (1:Int))) i o))))
def Ku (N:Nat) (k1:Nat→Int→LA→LA→Option R) (r0:Nat→Nat→Bool→LA→LA→Option R) (b:LA) (a:Nat) (e c:Bool) (d:Nat) (g:Int) (f i:LA) (m:Nat) (o:LA):Option R:=(Afq N k1 r0 b a e c d g f i m o)
def Sp (N:Nat)  (r0:Nat→Nat→Bool→LA→LA→Option R) (b:LA) (a:Nat) (e c:Bool) (d:Nat) (f:LA) (k1:Nat→Int→LA→LA→Option R) (q2:Nat→LA→Option R) (j:Nat) (g:Int) (i l:LA):Option R :=
 (cond (decide (g≥(0:Int))) (Aql N (List.take (j*1) l) j false true (List.take (j*1) l) j false true (fun w x=>(Bcl N b a false c g (fun ae=>(cond (ae==(1:Int)) (Aql N (List.take (w*1) x) w false true [(.int .u32 1)] 1 false true (fun af ag=>(q2 af ag))) (q2 w x)))))) (Dr N (List.take (a*1) i) a false true (fun ah ai=>(Dr N (List.take (j*1) l) j false true (fun aj ak=>(r0 ah aj true ai ak))))))
def Dx (N:Nat)  (r0:Nat→Nat→Bool→LA→LA→Option R) (b:LA) (a:Nat) (e c:Bool) (d:Nat) (f:LA):Nat→Nat→Int→LA→LA→Option R
 | 0,_,_,_,_=>none
 | n+1,j,g,i,l=>(Sp N r0 b a e c d f (Dx N r0 b a e c d f n) (fun m o=>(Ku N (Dx N r0 b a e c d f n) r0 b a e c d g f i m o)) j g i l)
def Afr (N:Nat)  (r0:Nat→Nat→Bool→LA→LA→Option R) (b:LA) (a:Nat) (e c:Bool) (d:Nat) (f:LA)  (q1:Nat→Int→LA→LA→Option R) :Option R :=
 (cond ((decide ((0:Int)≤((a:Nat):Int)))&&((decide (((a:Nat):Int)≤((a:Nat):Int)))&&((decide (((a:Nat):Int)≤(140737488355328:Int)))&&(decide ((((a:Nat):Int)*((4:Nat):Int))≤(140737488355328:Int)))))) (Axv N b a false c (fun al=>(q1 0 (IntKind.wrap .i64 (al - (1:Int))) (List.replicate a (.int .u32 0)) []))) none)
def X0 (N:Nat)  (r0:Nat→Nat→Bool→LA→LA→Option R) (b:LA) (a:Nat) (e c:Bool) (d:Nat) (f:LA) :Option R:=(Afr N r0 b a e c d f (fun j g i l=>(Dx N r0 b a e c d f N j g i l)))
def Ax2 (N:Nat) (r0:Nat→Nat→Bool→LA→LA→Option R) (q0:Nat→LA→Option R) (b:LA) (a:Nat) (e c:Bool) (p:LA) (q:Nat) (t r:Bool):Option R :=
 (Dr N p q false r (fun d f=>(cond (((d:Nat):Int)==(0:Int)) (r0 0 0 false [] []) (Vz N b a false c (fun y am=>(Vz N (List.take (d*1) f) d false true (fun u an=>(cond (am==true) (cond (cond true an false) (cond (u==(0:Int)) none (Es N (IntKind.wrap .u64 (Int.tdiv y u)) (fun ao ap=>(cond (u==(0:Int)) none (Es N (Int.tmod y u) (fun aq ar=>(r0 ao aq true ap ar))))))) (q0 d f)) (q0 d f)))))))))
def Ax3 (N:Nat) (b:LA) (a:Nat) (e c:Bool) (p:LA) (q:Nat) (t r:Bool) (r0:Nat→Nat→Bool→LA→LA→Option R):Option R:=(Ax2 N r0 (fun d f=>(X0 N r0 b a e c d f)) b a e c p q t r)
def V0:=(Ai (@Ax3 R)).1
theorem Ax4:@V0 R=@Ax3 R:=(Ai _).2
def X1:Hints:={ H:=(hS (hR [0,1,5]) (hS (hR [0,1,5]) (hS (hS (hR [0,1,5,18]) (hN [0,1,5] (hS (hR [4,5,6]) hL) hL)) (hS (hR [0,1,5,7,8]) (hJ (hS (hR [0,1,5,7,8,9,10]) (hS (hR [0,1,5,7,9,32]) (hN [0,1,5] (hS (hR [4,5,6]) hL) hL))) (hS (hR [0,1,4,5]) (hS (hS (hR [0,1,4,5,11]) (hN [4,5] (hN [0,1,4,5,11] (hS (hS (hR [0,1,4,5,11,48]) (hN [0,1,4,5,11] hL hL)) (hS (hN [0,1,4,5,11] (hS (hR [0,1,4,5,11]) (hJ (hS (hR [0,1,4,5,11,57]) (hN [0,1,4,5,11] (hR [0,1,4,5,11]) hL)) (hS (hR [0,1,4,5,11,12,13]) (hS (hR [0,1,4,5,11,12,67]) (hN [0,1,4,5,11] (hS (hR [0,1,4,5,11]) (hR [0,1,4,5,11])) hL))))) hL) (hR [0,1,4,5,11]))) hL) hL)) (hS (hR [4,5,6]) hL)))))))),nils:=[(4,1),(5,1)],modes:=[(2,1),(2,1),(0,0)],free:=[],cob:=[] }
def Ace (N:Nat):List (Nat×Tw):=[(143,Er N),(178,A5h N),(94,Si N),(179,Bk4 N),(122,A78 N),(180,Bp8 N),(123,A8c N)]
def Hd (N:Nat):Env:=mkE 84 X1 (Ace N)
def Bqg (N:Nat) (F:KF R):=Ao (Hd N) Tryz.f140 X1.modes [] F
def Kv (N:Nat) (F:KF R):=atF (Hd N) [] N Tryz.f140 X1 (Bqg N F)
def Dp  (F:KF R):Nat→Nat→Bool→LA→LA→Option R:=(fun au av aw ax ay=>F (.tup [(.own 300000 0 au),(.own 300001 0 av),(.bool aw)]) [(300000,⟨false,false,true,false,1,ax,false⟩),(300001,⟨false,false,true,false,1,ay,false⟩)])
def X2 (b:LA) (a:Nat) (e c:Bool) (d:Nat) (g:Int) (f i:LA) (m:Nat) (o:LA):St:={ s:=[(0,(.imm b a 1 e c)),(1,(.own 300000 0 d)),(4,(.own 300001 0 a)),(5,(.own 300002 0 m)),(11,(.int .i64 g))],h:=[(300000,⟨false,false,true,false,1,f,false⟩),(300001,⟨false,false,true,false,1,i,false⟩),(300002,⟨false,false,true,false,1,o,false⟩)] }
def A5i (N:Nat) (F:KF R) (Q1:St→Option R):St→Option R:=Cg (Hd N) [] N (Kv N F [1,1,1,1,1,1,0,1,0,0,1,0,0,1,1] [Q1])
def A5j (N:Nat) (F:KF R) (Q1:St→Option R):St→Option R:=Ck (Hd N) [] N (Kv N F [1,1,1,1,1,1,0,1,0,0,1,0,0,1,1] [Q1])
def Fq (b:LA) (a:Nat) (e c:Bool) (d:Nat) (f:LA) (j:Nat) (g:Int) (i l:LA):St:={ s:=[(0,(.imm b a 1 e c)),(1,(.own 300000 0 d)),(4,(.own 300001 0 a)),(5,(.own 300002 0 j)),(11,(.int .i64 g))],h:=[(300000,⟨false,false,true,false,1,f,false⟩),(300001,⟨false,false,true,false,1,i,false⟩),(300002,⟨false,false,true,false,1,l,false⟩)] }
def A5k (N:Nat) (F:KF R):St→Option R:=Bq (Hd N) [] N (Kv N F [1,1,1,1,1,1,0,1,0] []) N
def Hr (N:Nat) (F:KF R) (n:Nat):St→Option R:=A4 (Hd N) [] N (Kv N F [1,1,1,1,1,1,0,1,0] []) n
def X3 (b:LA) (a:Nat) (e c:Bool) (d:Nat) (f:LA):St:={ s:=[(0,(.imm b a 1 e c)),(1,(.own 300000 0 d)),(5,(.own 300001 0 0))],h:=[(300000,⟨false,false,true,false,1,f,false⟩),(300001,⟨false,false,true,false,1,[],false⟩)] }
def A5l (N:Nat) (F:KF R):St→Option R:=Cg (Hd N) [] N (Kv N F [1,1,1,1,1] [])
def A5m (N:Nat) (F:KF R):St→Option R:=Ck (Hd N) [] N (Kv N F [1,1,1,1,1] [])
theorem Bgw (N:Nat) (Q1:St→Option R) (F:KF R) (b:LA) (a:Nat) (e c:Bool) (d:Nat) (g:Int) (f i:LA):∀ (m:Nat) (o:LA),A5j N F Q1 (X2 b a e c d g f i m o)=(Ku N (fun j g i l=>Q1 (Fq b a e c d f j g i l)) (Dp F) b a e c d g f i m o):=by
 intro m o
 have hK:A5j N F Q1 (X2 b a e c d g f i m o)=(Afq N (fun j g i l=>Q1 (Fq b a e c d f j g i l)) (Dp F) b a e c d g f i m o):=by kernel_rfl
 exact hK
theorem Bgx (N:Nat)  (F:KF R) (b:LA) (a:Nat) (e c:Bool) (d:Nat) (f:LA):∀ (n j:Nat) (g:Int) (i l:LA),Hr N F n (Fq b a e c d f j g i l)=(Dx N (Dp F) b a e c d f n j g i l):=by
 intro n
 induction n with
 | zero=>intros;kernel_rfl
 | succ n ih =>
  intro j g i l
  have e0:=funext fun j=>funext fun g=>funext fun i=>funext fun l=>(show Hr N F n (Fq b a e c d f j g i l)=_ from ih j g i l)
  have e1:(fun m o=>A5i N F (Hr N F n) (X2 b a e c d g f i m o))=(fun m o=>(Ku N (Dx N (Dp F) b a e c d f n) (Dp F) b a e c d g f i m o)):=by funext m;funext o;exact ((Aw ..).trans (Bgw N (Hr N F n) F b a e c d g f i m o)).trans (by rw [e0])
  have hK:Hr N F (n+1) (Fq b a e c d f j g i l)=(Sp N (Dp F) b a e c d f (fun j g i l=>Hr N F n (Fq b a e c d f j g i l)) (fun m o=>A5i N F (Hr N F n) (X2 b a e c d g f i m o)) j g i l):=by kernel_rfl
  exact hK.trans (by rw [e0,e1];rfl)
theorem Bgy (N:Nat)  (F:KF R) (b:LA) (a:Nat) (e c:Bool) (d:Nat) (f:LA):A5m N F (X3 b a e c d f)=(X0 N (Dp F) b a e c d f):=by
 have e1:=funext fun j=>funext fun g=>funext fun i=>funext fun l=>(show A5k N F (Fq b a e c d f j g i l)=_ from (Ap ..).trans (Bgx N F b a e c d f N j g i l))
 have hK:A5m N F (X3 b a e c d f)=(Afr N (Dp F) b a e c d f (fun j g i l=>A5k N F (Fq b a e c d f j g i l))):=by kernel_rfl
 exact hK.trans (by rw [e1];rfl)
theorem Al1 (N:Nat) (b:LA) (a:Nat) (e c:Bool) (p:LA) (q:Nat) (t r:Bool) (F:KF R):Ab Tryz.prog muts (Ace N) X1 N 140 [(.imm b a 1 e c),(.imm p q 1 t r)] [] F=(V0 N b a e c p q t r (Dp F)):=by
 have e1:=funext fun d=>funext fun f=>(show A5l N F (X3 b a e c d f)=_ from (Aw ..).trans (Bgy N F b a e c d f))
 have hK:Ab Tryz.prog muts (Ace N) X1 N 140 [(.imm b a 1 e c),(.imm p q 1 t r)] [] F=(Ax2 N (Dp F) (fun d f=>A5l N F (X3 b a e c d f)) b a e c p q t r):=by kernel_rfl
 rw [Ax4]
 exact hK.trans (by rw [e1];rfl)
def Ss (N:Nat) (args:List AV) (h:Ak) (k:KF R):Option R :=
 match args,h with
 | [(.imm b a 1 e c),(.imm p q 1 t r)],[]=>(V0 N b a e c p q t r (Dp k))
 | _,_=>none
def Al2 (N:Nat):Tw:=⟨Ss N,fun args h k=>by
 unfold Ss;split
 exact twE (Al1 ..) (Al1 ..)
 rfl⟩
theorem A5n (N:Nat):Ax Tryz.prog 140 (Al2 N):=fun args h res z hh=>by
 change Ss N args h (fun v z=>some (v,z))=_ at hh
 unfold Ss at hh;split at hh
 exact Aa (T:=Ace N) ⟨Fp N,Bvm N,Aiu N,B2u N,Bp4 N,B47 N,Bqf N,trivial⟩ follows ((Al1 ..).trans hh)
 cases hh
def Rj (N:Nat)  (r0:Nat→LA→Option R)  (k0:Nat→Nat→LA→LA→Option R)  (b a:Nat) (c d:LA):Option R :=
 (cond (decide (((a:Nat):Int)>(0:Int))) (V0 N (List.take (b*1) c) b false true (List.take (a*1) d) a false true (fun aa q ab ac r=>(k0 a q d r))) (r0 b c))
def Eb (N:Nat)  (r0:Nat→LA→Option R) :Nat→Nat→Nat→LA→LA→Option R
 | 0,_,_,_,_=>none
 | n+1,b,a,c,d=>(Rj N r0 (Eb N r0 n) b a c d)
def Bqh (N:Nat) (r0:Nat→LA→Option R) (q0:Nat→Nat→LA→LA→Option R) (e:LA) (f:Nat) (m g:Bool) (i:LA) (j:Nat) (o l:Bool):Option R :=
 (Dr N e f false g (fun t u=>(Dr N i j false l (fun w x=>(q0 t w u x)))))
def Bqi (N:Nat) (e:LA) (f:Nat) (m g:Bool) (i:LA) (j:Nat) (o l:Bool) (r0:Nat→LA→Option R):Option R:=(Bqh N r0 (fun b a c d=>(Eb N r0 N b a c d)) e f m g i j o l)
def Bcn:=(Ai (@Bqi R)).1
theorem Bk8:@Bcn R=@Bqi R:=(Ai _).2
def Aqv:Hints:={ H:=(hS (hR [0,1]) (hS (hR [0,1]) (hS (hN [0] (hN [0,1] (hS (hS (hR [0,1,14]) (hN [0,1] hL hL)) (hN [0,1] (hS (hR [1,6]) (hR [0,1])) hL)) hL) hL) (hS (hR [4]) hL)))),nils:=[(4,1)],modes:=[(2,1)],free:=[],cob:=[] }
def A25 (N:Nat):List (Nat×Tw):=[(143,Er N),(140,Al2 N)]
def A26 (N:Nat):Env:=mkE 25 Aqv (A25 N)
def B2x (N:Nat) (F:KF R):=Ao (A26 N) Tryz.f139 Aqv.modes [] F
def Bqj (N:Nat) (F:KF R):=atF (A26 N) [] N Tryz.f139 Aqv (B2x N F)
def Afs  (F:KF R):Nat→LA→Option R:=(fun y z=>F (.own 300000 0 y) [(300000,⟨false,false,true,false,1,z,false⟩)])
def V1 (b a:Nat) (c d:LA):St:={ s:=[(0,(.own 300000 0 b)),(1,(.own 300001 0 a))],h:=[(300000,⟨false,false,true,false,1,c,false⟩),(300001,⟨false,false,true,false,1,d,false⟩)] }
def Bqk (N:Nat) (F:KF R):St→Option R:=Bq (A26 N) [] N (Bqj N F [1,1,0,0] []) N
def Aqw (N:Nat) (F:KF R) (n:Nat):St→Option R:=A4 (A26 N) [] N (Bqj N F [1,1,0,0] []) n
theorem Bvr (N:Nat)  (F:KF R) :∀ (n b a:Nat) (c d:LA),Aqw N F n (V1 b a c d)=(Eb N (Afs F) n b a c d):=by
 intro n
 induction n with
 | zero=>intros;kernel_rfl
 | succ n ih =>
  intro b a c d
  have e0:=funext fun b=>funext fun a=>funext fun c=>funext fun d=>(show Aqw N F n (V1 b a c d)=_ from ih b a c d)
  have hK:Aqw N F (n+1) (V1 b a c d)=(Rj N (Afs F) (fun b a c d=>Aqw N F n (V1 b a c d)) b a c d):=by kernel_rfl
  exact hK.trans (by rw [e0];rfl)
theorem A8d (N:Nat) (e:LA) (f:Nat) (m g:Bool) (i:LA) (j:Nat) (o l:Bool) (F:KF R):Ab Tryz.prog muts (A25 N) Aqv N 139 [(.imm e f 1 m g),(.imm i j 1 o l)] [] F=(Bcn N e f m g i j o l (Afs F)):=by
 have e1:=funext fun b=>funext fun a=>funext fun c=>funext fun d=>(show Bqk N F (V1 b a c d)=_ from (Ap ..).trans (Bvr N F N b a c d))
 have hK:Ab Tryz.prog muts (A25 N) Aqv N 139 [(.imm e f 1 m g),(.imm i j 1 o l)] [] F=(Bqh N (Afs F) (fun b a c d=>Bqk N F (V1 b a c d)) e f m g i j o l):=by kernel_rfl
 rw [Bk8]
 exact hK.trans (by rw [e1];rfl)
def Ai5 (N:Nat) (args:List AV) (h:Ak) (k:KF R):Option R :=
 match args,h with
 | [(.imm e f 1 m g),(.imm i j 1 o l)],[]=>(Bcn N e f m g i j o l (Afs k))
 | _,_=>none
def Bql (N:Nat):Tw:=⟨Ai5 N,fun args h k=>by
 unfold Ai5;split
 exact twE (A8d ..) (A8d ..)
 rfl⟩
theorem B48 (N:Nat):Ax Tryz.prog 139 (Bql N):=fun args h res p hh=>by
 change Ai5 N args h (fun v p=>some (v,p))=_ at hh
 unfold Ai5 at hh;split at hh
 exact Aa (T:=A25 N) ⟨Fp N,A5n N,trivial⟩ follows ((A8d ..).trans hh)
 cases hh
def Bqm (N:Nat) (r0:LA→Option R)  (a:LA) (b:Bool) (c:LA) (d:Bool):Option R :=
 (rdL 1 (List.drop 1 a) fun i j=>(rdL 1 (List.drop 1 c) fun l m=>(Bcn N i j false b l m false d (fun f n=>(Fg N false (List.take (f*1) n) f false true (fun e=>(cond ((Nat.beq 0 0)&&((Nat.beq (List.length e) 2)&&(Nat.beq 2 2))) (cond (Nat.ble 2 (List.length e)) (r0 (List.take 2 e)) none) none)))))))
def Bqn (N:Nat) (a:LA) (b:Bool) (c:LA) (d:Bool) (r0:LA→Option R):Option R:=(Bqm N r0 a b c d)
def Bco:=(Ai (@Bqn R)).1
theorem Bk9:@Bco R=@Bqn R:=(Ai _).2
def Bqo:Hints:={ H:=(hS (hR [2,3,4]) (hS (hR [4]) hL)),nils:=[],modes:=[(3,0)],free:=[],cob:=[] }
def Bgz (N:Nat):List (Nat×Tw):=[(139,Bql N),(93,Hc N)]
def A8e  (F:KF R):LA→Option R:=(fun o=>F (.pagg o false) [])
theorem A8f (N:Nat) (a:LA) (b:Bool) (c:LA) (d:Bool) (F:KF R):Ab Tryz.prog muts (Bgz N) Bqo N 90 [(.pagg a b),(.pagg c d)] [] F=(Bco N a b c d (A8e F)):=by
 have hK:Ab Tryz.prog muts (Bgz N) Bqo N 90 [(.pagg a b),(.pagg c d)] [] F=(Bqm N (A8e F) a b c d):=by kernel_rfl
 rw [Bk9]
 exact hK
def Ai6 (N:Nat) (args:List AV) (h:Ak) (k:KF R):Option R :=
 match args,h with
 | [(.pagg a b),(.pagg c d)],[]=>(Bco N a b c d (A8e k))
 | _,_=>none
def Bqp (N:Nat):Tw:=⟨Ai6 N,fun args h k=>by
 unfold Ai6;split
 exact twE (A8f ..) (A8f ..)
 rfl⟩
theorem B49 (N:Nat):Ax Tryz.prog 90 (Bqp N):=fun args h res g hh=>by
 change Ai6 N args h (fun v g=>some (v,g))=_ at hh
 unfold Ai6 at hh;split at hh
 exact Aa (T:=Bgz N) ⟨B48 N,Ja N,trivial⟩ follows ((A8f ..).trans hh)
 cases hh
def B2y (N:Nat) (r0:LA→Option R)  (a:LA) (b:Bool):Option R :=
 (rdL 1 (List.drop 1 a) fun e f=>(Fg N false e f false b (fun c=>(cond ((Nat.beq 0 0)&&((Nat.beq (List.length c) 2)&&(Nat.beq 2 2))) (cond (Nat.ble 2 (List.length c)) (r0 (List.take 2 c)) none) none))))
def B2z (N:Nat) (a:LA) (b:Bool) (r0:LA→Option R):Option R:=(B2y N r0 a b)
def Bob:=(Ai (@B2z R)).1
theorem B20:@Bob R=@B2z R:=(Ai _).2
def Bqq:Hints:={ H:=(hS (hR [1,2]) (hS (hR [2]) hL)),nils:=[],modes:=[(3,0)],free:=[],cob:=[] }
def Bg0 (N:Nat):List (Nat×Tw):=[(93,Hc N)]
def A8g  (F:KF R):LA→Option R:=(fun g=>F (.pagg g false) [])
theorem A8h (N:Nat) (a:LA) (b:Bool) (F:KF R):Ab Tryz.prog muts (Bg0 N) Bqq N 141 [(.pagg a b)] [] F=(Bob N a b (A8g F)):=by
 have hK:Ab Tryz.prog muts (Bg0 N) Bqq N 141 [(.pagg a b)] [] F=(B2y N (A8g F) a b):=by kernel_rfl
 rw [B20]
 exact hK
def Ai7 (N:Nat) (args:List AV) (h:Ak) (k:KF R):Option R :=
 match args,h with
 | [(.pagg a b)],[]=>(Bob N a b (A8g k))
 | _,_=>none
def Bqr (N:Nat):Tw:=⟨Ai7 N,fun args h k=>by
 unfold Ai7;split
 exact twE (A8h ..) (A8h ..)
 rfl⟩
theorem B5a (N:Nat):Ax Tryz.prog 141 (Bqr N):=fun args h res d hh=>by
 change Ai7 N args h (fun v d=>some (v,d))=_ at hh
 unfold Ai7 at hh;split at hh
 exact Aa (T:=Bg0 N) ⟨Ja N,trivial⟩ follows ((A8h ..).trans hh)
 cases hh
def Bqs (N:Nat) (r0:LA→Option R)  (a:LA) (c:Bool) (b:LA) (d:Bool):Option R :=
 (rdB a fun n=>(rdB b fun o=>(cond (n==o) (rdB a fun p=>(rdL 1 (List.drop 1 a) fun q r=>(rdL 1 (List.drop 1 b) fun s t=>(Aql N q r false c s t false d (fun i u=>(Fg N p (List.take (i*1) u) i false true (fun e=>(cond ((Nat.beq 0 0)&&((Nat.beq (List.length e) 2)&&(Nat.beq 2 2))) (cond (Nat.ble 2 (List.length e)) (r0 (List.take 2 e)) none) none)))))))) (rdL 1 (List.drop 1 a) fun w x=>(rdL 1 (List.drop 1 b) fun y z=>(Aqr N w x false c y z false d (fun j aa ab=>(cond aa (rdB a fun ac=>(Fg N ac (List.take (j*1) ab) j false true (fun f=>(cond ((Nat.beq 0 0)&&((Nat.beq (List.length f) 2)&&(Nat.beq 2 2))) (cond (Nat.ble 2 (List.length f)) (r0 (List.take 2 f)) none) none)))) (rdL 1 (List.drop 1 b) fun ad ae=>(rdL 1 (List.drop 1 a) fun af ag=>(Aqr N ad ae false d af ag false c (fun l ak ah=>(rdB b fun ai=>(Fg N ai (List.take (l*1) ah) l false true (fun g=>(cond ((Nat.beq 0 0)&&((Nat.beq (List.length g) 2)&&(Nat.beq 2 2))) (cond (Nat.ble 2 (List.length g)) (r0 (List.take 2 g)) none) none))))))))))))))))
def Bqt (N:Nat) (a:LA) (c:Bool) (b:LA) (d:Bool) (r0:LA→Option R):Option R:=(Bqs N r0 a c b d)
def Acf:=(Ai (@Bqt R)).1
theorem Bla:@Acf R=@Bqt R:=(Ai _).2
def Bqu:Hints:={ H:=(hS (hR [2,3,4]) (hS (hS (hR [2,3,4,13]) (hN [2,3,4] (hS (hR [4]) hL) hL)) (hS (hS (hR [2,3,4,5,6]) (hS (hR [2,3,4,5,30]) (hN [2,3,4] (hS (hR [4]) hL) hL))) (hS (hR [3,4,7]) (hS (hR [4]) hL))))),nils:=[],modes:=[(3,0)],free:=[],cob:=[] }
def Bg1 (N:Nat):List (Nat×Tw):=[(122,A78 N),(93,Hc N),(123,A8c N)]
def A8i  (F:KF R):LA→Option R:=(fun aj=>F (.pagg aj false) [])
theorem A8j (N:Nat) (a:LA) (c:Bool) (b:LA) (d:Bool) (F:KF R):Ab Tryz.prog muts (Bg1 N) Bqu N 71 [(.pagg a c),(.pagg b d)] [] F=(Acf N a c b d (A8i F)):=by
 have hK:Ab Tryz.prog muts (Bg1 N) Bqu N 71 [(.pagg a c),(.pagg b d)] [] F=(Bqs N (A8i F) a c b d):=by kernel_rfl
 rw [Bla]
 exact hK
def Ai8 (N:Nat) (args:List AV) (h:Ak) (k:KF R):Option R :=
 match args,h with
 | [(.pagg a c),(.pagg b d)],[]=>(Acf N a c b d (A8i k))
 | _,_=>none
def Aqx (N:Nat):Tw:=⟨Ai8 N,fun args h k=>by
 unfold Ai8;split
 exact twE (A8j ..) (A8j ..)
 rfl⟩
theorem A8k (N:Nat):Ax Tryz.prog 71 (Aqx N):=fun args h res m hh=>by
 change Ai8 N args h (fun v m=>some (v,m))=_ at hh
 unfold Ai8 at hh;split at hh
 exact Aa (T:=Bg1 N) ⟨Bp4 N,Ja N,Bqf N,trivial⟩ follows ((A8j ..).trans hh)
 cases hh
def Bqv (N:Nat) (r0:LA→Option R)  (a:LA) (b:Bool):Option R :=
 (rdB a fun e=>(rdL 1 (List.drop 1 a) fun f g=>(Fg N (!e) f g false b (fun c=>(cond ((Nat.beq 0 0)&&((Nat.beq (List.length c) 2)&&(Nat.beq 2 2))) (cond (Nat.ble 2 (List.length c)) (r0 (List.take 2 c)) none) none)))))
def Bqw (N:Nat) (a:LA) (b:Bool) (r0:LA→Option R):Option R:=(Bqv N r0 a b)
def Acg:=(Ai (@Bqw R)).1
theorem Blb:@Acg R=@Bqw R:=(Ai _).2
def Bqx:Hints:={ H:=(hS (hR [1,2]) (hS (hR [2]) hL)),nils:=[],modes:=[(3,0)],free:=[],cob:=[] }
def Bg2 (N:Nat):List (Nat×Tw):=[(93,Hc N)]
def A8l  (F:KF R):LA→Option R:=(fun i=>F (.pagg i false) [])
theorem A8m (N:Nat) (a:LA) (b:Bool) (F:KF R):Ab Tryz.prog muts (Bg2 N) Bqx N 92 [(.pagg a b)] [] F=(Acg N a b (A8l F)):=by
 have hK:Ab Tryz.prog muts (Bg2 N) Bqx N 92 [(.pagg a b)] [] F=(Bqv N (A8l F) a b):=by kernel_rfl
 rw [Blb]
 exact hK
def Ai9 (N:Nat) (args:List AV) (h:Ak) (k:KF R):Option R :=
 match args,h with
 | [(.pagg a b)],[]=>(Acg N a b (A8l k))
 | _,_=>none
def Aqy (N:Nat):Tw:=⟨Ai9 N,fun args h k=>by
 unfold Ai9;split
 exact twE (A8m ..) (A8m ..)
 rfl⟩
theorem A8n (N:Nat):Ax Tryz.prog 92 (Aqy N):=fun args h res d hh=>by
 change Ai9 N args h (fun v d=>some (v,d))=_ at hh
 unfold Ai9 at hh;split at hh
 exact Aa (T:=Bg2 N) ⟨Ja N,trivial⟩ follows ((A8m ..).trans hh)
 cases hh
def B21 (N:Nat) (r0:LA→Option R)  (a:LA) (c:Bool) (b:LA) (d:Bool):Option R :=
 (cond (Nat.ble 2 (List.length a)) (cond (Nat.ble 2 (List.length b)) (Acg N (List.take 2 b) d (fun g=>(Acf N (List.take 2 a) c g false (fun e=>(cond ((Nat.beq 0 0)&&((Nat.beq (List.length e) 2)&&(Nat.beq 2 2))) (cond (Nat.ble 2 (List.length e)) (r0 (List.take 2 e)) none) none))))) none) none)
def B22 (N:Nat) (a:LA) (c:Bool) (b:LA) (d:Bool) (r0:LA→Option R):Option R:=(B21 N r0 a c b d)
def Boc:=(Ai (@B22 R)).1
theorem B23:@Boc R=@B22 R:=(Ai _).2
def Bqy:Hints:={ H:=(hS (hR [2,3,4]) (hS (hR [4]) hL)),nils:=[],modes:=[(3,0)],free:=[],cob:=[] }
def Bg3 (N:Nat):List (Nat×Tw):=[(92,Aqy N),(71,Aqx N)]
def A8o  (F:KF R):LA→Option R:=(fun i=>F (.pagg i false) [])
theorem A8p (N:Nat) (a:LA) (c:Bool) (b:LA) (d:Bool) (F:KF R):Ab Tryz.prog muts (Bg3 N) Bqy N 142 [(.pagg a c),(.pagg b d)] [] F=(Boc N a c b d (A8o F)):=by
 have hK:Ab Tryz.prog muts (Bg3 N) Bqy N 142 [(.pagg a c),(.pagg b d)] [] F=(B21 N (A8o F) a c b d):=by kernel_rfl
 rw [B23]
 exact hK
def Aja (N:Nat) (args:List AV) (h:Ak) (k:KF R):Option R :=
 match args,h with
 | [(.pagg a c),(.pagg b d)],[]=>(Boc N a c b d (A8o k))
 | _,_=>none
def Bqz (N:Nat):Tw:=⟨Aja N,fun args h k=>by
 unfold Aja;split
 exact twE (A8p ..) (A8p ..)
 rfl⟩
theorem B5b (N:Nat):Ax Tryz.prog 142 (Bqz N):=fun args h res f hh=>by
 change Aja N args h (fun v f=>some (v,f))=_ at hh
 unfold Aja at hh;split at hh
 exact Aa (T:=Bg3 N) ⟨A8n N,A8k N,trivial⟩ follows ((A8p ..).trans hh)
 cases hh
def Ax5 (N:Nat) (r0:LA→LA→Bool→Option R)  (e:LA) (g:Bool) (d:LA) (f:Bool):Option R :=
 (rdL 1 (List.drop 1 e) fun o p=>(rdL 1 (List.drop 1 d) fun q r=>(V0 N o p false g q r false f (fun l m s t u=>(cond (!s) (r0 [(.bool false),.nsl] [(.bool false),.nsl] false) (rdB e fun w=>(rdB d fun x=>(Fg N (!(w==x)) (List.take (l*1) t) l false true (fun a=>(rdB e fun y=>(Fg N y (List.take (m*1) u) m false true (fun b=>(cond ((Nat.beq 0 0)&&((Nat.beq (List.length a) 2)&&(Nat.beq 2 2))) (cond ((Nat.beq 0 0)&&((Nat.beq (List.length b) 2)&&(Nat.beq 2 2))) (rdB b fun z=>(cond z (cond (Nat.ble 2 (List.length b)) (cond (Nat.ble 2 (List.length d)) (Bob N (List.take 2 d) f (fun aa=>(Acf N (List.take 2 b) false aa false (fun c=>(cond ((Nat.beq (List.length c) 2)&&((Nat.ble 2 (List.length b))&&(!false))) (rdB d fun ab=>(cond ab (cond (Nat.ble 2 (List.length a)) (Jb N 1 (fun ac=>(Acf N (List.take 2 a) false ac false (fun i=>(cond ((Nat.beq (List.length i) 2)&&((Nat.ble 2 (List.length a))&&(!false))) (cond (Nat.ble 2 (List.length (setCells a 0 i))) (cond (Nat.ble 2 (List.length (setCells b 0 c))) (cond ((Nat.beq (List.length (List.take 2 (setCells a 0 i))) 2)&&((Nat.ble 2 (List.length (setCells a 0 i)))&&(!false))) (cond ((Nat.beq (List.length (List.take 2 (setCells b 0 c))) 2)&&((Nat.ble 2 (List.length (setCells b 0 c)))&&(!false))) (cond (Nat.ble 2 (List.length (setCells (setCells a 0 i) 0 (List.take 2 (setCells a 0 i))))) (cond (Nat.ble 2 (List.length (setCells (setCells b 0 c) 0 (List.take 2 (setCells b 0 c))))) (r0 (List.take 2 (setCells (setCells a 0 i) 0 (List.take 2 (setCells a 0 i)))) (List.take 2 (setCells (setCells b 0 c) 0 (List.take 2 (setCells b 0 c)))) true) none) none) none) none) none) none) none))))) none) (cond (Nat.ble 2 (List.length a)) (Jb N 1 (fun ad=>(Boc N (List.take 2 a) false ad false (fun j=>(cond ((Nat.beq (List.length j) 2)&&((Nat.ble 2 (List.length a))&&(!false))) (cond (Nat.ble 2 (List.length (setCells a 0 j))) (cond (Nat.ble 2 (List.length (setCells b 0 c))) (cond ((Nat.beq (List.length (List.take 2 (setCells a 0 j))) 2)&&((Nat.ble 2 (List.length (setCells a 0 j)))&&(!false))) (cond ((Nat.beq (List.length (List.take 2 (setCells b 0 c))) 2)&&((Nat.ble 2 (List.length (setCells b 0 c)))&&(!false))) (cond (Nat.ble 2 (List.length (setCells (setCells a 0 j) 0 (List.take 2 (setCells a 0 j))))) (cond (Nat.ble 2 (List.length (setCells (setCells b 0 c) 0 (List.take 2 (setCells b 0 c))))) (r0 (List.take 2 (setCells (setCells a 0 j) 0 (List.take 2 (setCells a 0 j)))) (List.take 2 (setCells (setCells b 0 c) 0 (List.take 2 (setCells b 0 c)))) true) none) none) none) none) none) none) none))))) none))) none))))) none) none) (cond (Nat.ble 2 (List.length a)) (cond (Nat.ble 2 (List.length b)) (cond ((Nat.beq (List.length (List.take 2 a)) 2)&&((Nat.ble 2 (List.length a))&&(!false))) (cond ((Nat.beq (List.length (List.take 2 b)) 2)&&((Nat.ble 2 (List.length b))&&(!false))) (cond (Nat.ble 2 (List.length (setCells a 0 (List.take 2 a)))) (cond (Nat.ble 2 (List.length (setCells b 0 (List.take 2 b)))) (r0 (List.take 2 (setCells a 0 (List.take 2 a))) (List.take 2 (setCells b 0 (List.take 2 b))) true) none) none) none) none) none) none))) none) none)))))))))))))
def Ax6 (N:Nat) (e:LA) (g:Bool) (d:LA) (f:Bool) (r0:LA→LA→Bool→Option R):Option R:=(Ax5 N r0 e g d f)
def V3:=(Ai (@Ax6 R)).1
theorem Ax7:@V3 R=@Ax6 R:=(Ai _).2
def A5o:Hints:={ H:=(hS (hR [2,3,4,5]) (hS (hR [2,3,4,5,6,7,8]) (hS (hS (hR [2,3,4,5,7,8,19]) (hN [2,3,4,5,7,8] (hS (hR [4,5,6]) hL) hL)) (hS (hR [3,4,5]) (hS (hS (hR [3,4,5,34]) (hN [4,5] (hS (hR [3,4,5]) (hS (hR [4,5,40]) (hN [4,5] (hR [4,5]) (hR [4,5])))) hL)) (hS (hR [4,5,6]) hL)))))),nils:=[],modes:=[(3,0),(3,0),(0,0)],free:=[],cob:=[] }
def Aqz (N:Nat):List (Nat×Tw):=[(140,Al2 N),(93,Hc N),(141,Bqr N),(71,Aqx N),(55,Afj N),(142,Bqz N)]
def Al3  (F:KF R):LA→LA→Bool→Option R:=(fun ae af ag=>F (.tup [(.pagg ae false),(.pagg af false),(.bool ag)]) [])
theorem Al4 (N:Nat) (e:LA) (g:Bool) (d:LA) (f:Bool) (F:KF R):Ab Tryz.prog muts (Aqz N) A5o N 91 [(.pagg e g),(.pagg d f)] [] F=(V3 N e g d f (Al3 F)):=by
 have hK:Ab Tryz.prog muts (Aqz N) A5o N 91 [(.pagg e g),(.pagg d f)] [] F=(Ax5 N (Al3 F) e g d f):=by kernel_rfl
 rw [Ax7]
 exact hK
def Sw (N:Nat) (args:List AV) (h:Ak) (k:KF R):Option R :=
 match args,h with
 | [(.pagg e g),(.pagg d f)],[]=>(V3 N e g d f (Al3 k))
 | _,_=>none
def A5p (N:Nat):Tw:=⟨Sw N,fun args h k=>by
 unfold Sw;split
 exact twE (Al4 ..) (Al4 ..)
 rfl⟩
theorem Bvs (N:Nat):Ax Tryz.prog 91 (A5p N):=fun args h res n hh=>by
 change Sw N args h (fun v n=>some (v,n))=_ at hh
 unfold Sw at hh;split at hh
 exact Aa (T:=Aqz N) ⟨A5n N,Ja N,B5a N,A8k N,Axi N,B5b N,trivial⟩ follows ((Al4 ..).trans hh)
 cases hh
def Aq0 (N:Nat)  (r0:LA→Option R) (d:Bool) (b:LA) (c:Bool) (a:LA)   :Option R :=
 (cond (Nat.ble 2 (List.length b)) (cond (Nat.ble 2 (List.length a)) (Bco N (List.take 2 b) d (List.take 2 a) c (fun i=>(cond ((Nat.beq 0 0)&&((Nat.beq (List.length i) 2)&&(Nat.beq 2 2))) (cond (Nat.ble 2 (List.length b)) (cond (Nat.ble 2 (List.length i)) (V3 N (List.take 2 b) d (List.take 2 i) false (fun e x ag=>(cond ((Nat.beq 0 0)&&((Nat.beq (List.length e) 2)&&(Nat.beq 2 2))) (cond ((Nat.beq 0 0)&&((Nat.beq (List.length x) 2)&&(Nat.beq 2 2))) (cond (Nat.ble 2 (List.length a)) (cond (Nat.ble 2 (List.length i)) (V3 N (List.take 2 a) c (List.take 2 i) false (fun f y ah=>(cond ((Nat.beq 0 0)&&((Nat.beq (List.length f) 2)&&(Nat.beq 2 2))) (cond ((Nat.beq 0 0)&&((Nat.beq (List.length y) 2)&&(Nat.beq 2 2))) (rdB f fun z=>(cond z (cond (Nat.ble 2 (List.length e)) (Acg N (List.take 2 e) false (fun g=>(cond (Nat.ble 2 (List.length f)) (Acg N (List.take 2 f) false (fun u=>(cond ((Nat.beq (List.length g) 2)&&((Nat.ble 2 (List.length e))&&(!false))) (cond ((Nat.beq (List.length u) 2)&&((Nat.ble 2 (List.length f))&&(!false))) (cond (Nat.ble 2 (List.length (setCells e 0 g))) (rdL 1 (List.drop 1 (setCells f 0 u)) fun m n=>(cond ((Nat.beq (List.length (List.take 2 (setCells e 0 g))) 2)&&(Nat.ble 2 3)) (cond ((Nat.beq 1 1)&&(Nat.ble 3 (List.length (setCells [(.bool false),.nsl,.nsl] 0 (List.take 2 (setCells e 0 g)))))) (cond ((Nat.beq 0 0)&&((Nat.beq (List.length (List.set (setCells [(.bool false),.nsl,.nsl] 0 (List.take 2 (setCells e 0 g))) 2 (.imm m n 1 false false))) 3)&&(Nat.beq 3 3))) (cond (Nat.ble 3 (List.length (List.set (setCells [(.bool false),.nsl,.nsl] 0 (List.take 2 (setCells e 0 g))) 2 (.imm m n 1 false false)))) (r0 (List.take 3 (List.set (setCells [(.bool false),.nsl,.nsl] 0 (List.take 2 (setCells e 0 g))) 2 (.imm m n 1 false false)))) none) none) none) none)) none) none) none))) none))) none) (cond (Nat.ble 2 (List.length e)) (rdL 1 (List.drop 1 f) fun o p=>(cond ((Nat.beq (List.length (List.take 2 e)) 2)&&(Nat.ble 2 3)) (cond ((Nat.beq 1 1)&&(Nat.ble 3 (List.length (setCells [(.bool false),.nsl,.nsl] 0 (List.take 2 e))))) (cond ((Nat.beq 0 0)&&((Nat.beq (List.length (List.set (setCells [(.bool false),.nsl,.nsl] 0 (List.take 2 e)) 2 (.imm o p 1 false false))) 3)&&(Nat.beq 3 3))) (cond (Nat.ble 3 (List.length (List.set (setCells [(.bool false),.nsl,.nsl] 0 (List.take 2 e)) 2 (.imm o p 1 false false)))) (r0 (List.take 3 (List.set (setCells [(.bool false),.nsl,.nsl] 0 (List.take 2 e)) 2 (.imm o p 1 false false)))) none) none) none) none)) none))) none) none))) none) none) none) none))) none) none) none))) none) none)
def Ax8 (N:Nat)  (r0:LA→Option R) (d:Bool) (b:LA) (c:Bool) (a:LA) :Option R:=(Aq0 N r0 d b c a)
def Bg4 (N:Nat) (r0:LA→Option R) (q0:Option R) (b:LA) (d:Bool) (a:LA) (c:Bool):Option R :=
 (cond (Nat.ble 2 (List.length a)) (Afl N (List.take 2 a) c (fun aa=>(cond (aa==(0:Int)) (Afm N (fun q=>(cond ((Nat.beq 0 0)&&((Nat.beq (List.length q) 3)&&(Nat.beq 3 3))) (cond (Nat.ble 3 (List.length q)) (r0 (List.take 3 q)) none) none))) (cond (Nat.ble 2 (List.length a)) (Afk N (List.take 2 a) c (fun l=>(cond ((Nat.beq 0 0)&&((Nat.beq (List.length l) 2)&&(Nat.beq 2 2))) (rdB l fun ab=>(cond ((!ab)==true) (rdL 1 (List.drop 1 l) fun ac ad=>(Aof N ac ad false false [(.int .u32 1)] 1 false true (fun ae=>(cond (cond true ae false) (cond (Nat.ble 2 (List.length b)) (Afk N (List.take 2 b) d (fun j=>(rdL 1 (List.drop 1 l) fun r t=>(cond ((Nat.beq (List.length j) 2)&&(Nat.ble 2 3)) (cond ((Nat.beq 1 1)&&(Nat.ble 3 (List.length (setCells [(.bool false),.nsl,.nsl] 0 j)))) (cond ((Nat.beq 0 0)&&((Nat.beq (List.length (List.set (setCells [(.bool false),.nsl,.nsl] 0 j) 2 (.imm r t 1 false false))) 3)&&(Nat.beq 3 3))) (cond (Nat.ble 3 (List.length (List.set (setCells [(.bool false),.nsl,.nsl] 0 j) 2 (.imm r t 1 false false)))) (r0 (List.take 3 (List.set (setCells [(.bool false),.nsl,.nsl] 0 j) 2 (.imm r t 1 false false)))) none) none) none) none)))) none) q0)))) q0)) none))) none)))) none)
def Bg5 (N:Nat) (b:LA) (d:Bool) (a:LA) (c:Bool) (r0:LA→Option R):Option R:=(Bg4 N r0 (Ax8 N r0 d b c a) b d a c)
def O3:=(Ai (@Bg5 R)).1
theorem Bcp:@O3 R=@Bg5 R:=(Ai _).2
def Ajb:Hints:={ H:=(hS (hR [2,3,4]) (hS (hS (hR [2,3,4,15]) (hN [2,3,4] (hS (hR [4]) hL) hL)) (hJ (hS (hR [2,3,4,5]) (hS (hR [2,3,4,5,27]) (hN [2,3,4] (hS (hR [4]) hL) hL))) (hS (hR [2,3,4,6]) (hS (hR [3,4,6,7]) (hS (hR [4,7,10]) (hS (hS (hR [4,7,10,51]) (hN [4,7,10] (hR [4,7,10]) hL)) (hS (hR [4]) hL)))))))),nils:=[],modes:=[(3,0)],free:=[],cob:=[] }
def Aq1 (N:Nat):List (Nat×Tw):=[(75,Axo N),(41,Aiv N),(88,Axl N),(89,Bck N),(90,Bqp N),(91,A5p N),(92,Aqy N)]
def Aq2 (N:Nat):Env:=mkE 60 Ajb (Aq1 N)
def Bz5 (N:Nat) (F:KF R):=Ao (Aq2 N) Tryz.f54 Ajb.modes [] F
def Blc (N:Nat) (F:KF R):=atF (Aq2 N) [] N Tryz.f54 Ajb (Bz5 N F)
def Zv  (F:KF R):LA→Option R:=(fun af=>F (.pagg af false) [])
def Ajc (d:Bool) (b:LA) (c:Bool) (a:LA):St:={ s:=[(2,(.optr 300000 0)),(3,(.optr 300001 0)),(4,(.optr 300002 0))],h:=[(300000,⟨false,false,true,d,0,b,false⟩),(300001,⟨false,false,true,c,0,a,false⟩),(300002,⟨false,false,false,false,0,[(.bool false),.nsl,.nsl],false⟩)] }
def Bld (N:Nat) (F:KF R):St→Option R:=Cg (Aq2 N) [] N (Blc N F [1,1,1] [])
def Ble (N:Nat) (F:KF R):St→Option R:=Ck (Aq2 N) [] N (Blc N F [1,1,1] [])
theorem Bq0 (N:Nat)  (F:KF R) (d:Bool) (b:LA) (c:Bool) (a:LA):Ble N F (Ajc d b c a)=(Ax8 N (Zv F) d b c a):=by
 have hK:Ble N F (Ajc d b c a)=(Aq0 N (Zv F) d b c a):=by kernel_rfl
 exact hK
theorem Ax9 (N:Nat) (b:LA) (d:Bool) (a:LA) (c:Bool) (F:KF R):Ab Tryz.prog muts (Aq1 N) Ajb N 54 [(.pagg b d),(.pagg a c)] [] F=(O3 N b d a c (Zv F)):=by
 have e1:=(show Bld N F (Ajc d b c a)=_ from (Aw ..).trans (Bq0 N F d b c a))
 have hK:Ab Tryz.prog muts (Aq1 N) Ajb N 54 [(.pagg b d),(.pagg a c)] [] F=(Bg4 N (Zv F) (Bld N F (Ajc d b c a)) b d a c):=by kernel_rfl
 rw [Bcp]
 exact hK.trans (by rw [e1];rfl)
def Ach (N:Nat) (args:List AV) (h:Ak) (k:KF R):Option R :=
 match args,h with
 | [(.pagg b d),(.pagg a c)],[]=>(O3 N b d a c (Zv k))
 | _,_=>none
def Rk (N:Nat):Tw:=⟨Ach N,fun args h k=>by
 unfold Ach;split
 exact twE (Ax9 ..) (Ax9 ..)
 rfl⟩
theorem Zw (N:Nat):Ax Tryz.prog 54 (Rk N):=fun args h res w hh=>by
 change Ach N args h (fun v w=>some (v,w))=_ at hh
 unfold Ach at hh;split at hh
 exact Aa (T:=Aq1 N) ⟨Bk0 N,Axr N,Bky N,Bz3 N,B49 N,Bvs N,A8n N,trivial⟩ follows ((Ax9 ..).trans hh)
 cases hh
def Aq3 (N:Nat) (r0:LA→Option R)  (a:Int):Option R :=
 (Jb N a (fun d=>(Jb N 1 (fun e=>(O3 N d false e false (fun b=>(cond ((Nat.beq 0 0)&&((Nat.beq (List.length b) 3)&&(Nat.beq 3 3))) (cond (Nat.ble 3 (List.length b)) (r0 (List.take 3 b)) none) none)))))))
def Aq4 (N:Nat) (a:Int) (r0:LA→Option R):Option R:=(Aq3 N r0 a)
def Bf:=(Ai (@Aq4 R)).1
theorem Avn:@Bf R=@Aq4 R:=(Ai _).2
def Aya:Hints:={ H:=(hS (hR [0,2]) (hS (hR [2]) hL)),nils:=[],modes:=[(3,0)],free:=[],cob:=[] }
def Al5 (N:Nat):List (Nat×Tw):=[(55,Afj N),(54,Rk N)]
def Aft  (F:KF R):LA→Option R:=(fun f=>F (.pagg f false) [])
theorem Afu (N:Nat) (a:Int) (F:KF R):Ab Tryz.prog muts (Al5 N) Aya N 20 [(.int .i64 a)] [] F=(Bf N a (Aft F)):=by
 have hK:Ab Tryz.prog muts (Al5 N) Aya N 20 [(.int .i64 a)] [] F=(Aq3 N (Aft F) a):=by kernel_rfl
 rw [Avn]
 exact hK
def Pn (N:Nat) (args:List AV) (h:Ak) (k:KF R):Option R :=
 match args,h with
 | [(.int .i64 a)],[]=>(Bf N a (Aft k))
 | _,_=>none
def Eu (N:Nat):Tw:=⟨Pn N,fun args h k=>by
 unfold Pn;split
 exact twE (Afu ..) (Afu ..)
 rfl⟩
theorem Ge (N:Nat):Ax Tryz.prog 20 (Eu N):=fun args h res c hh=>by
 change Pn N args h (fun v c=>some (v,c))=_ at hh
 unfold Pn at hh;split at hh
 exact Aa (T:=Al5 N) ⟨Axi N,Zw N,trivial⟩ follows ((Afu ..).trans hh)
 cases hh
def Aq5 (N:Nat)  (r0:Nat→Option R) (a:Nat) (b:LA) (k0:Int→Option R)  (c:Int):Option R :=
 (cond ((decide (c>(0:Int)))==true) (cond (Aj (IntKind.wrap .i64 (c - (1:Int))) a) (rdI .u32 (List.drop (0+((Int.toNat (IntKind.wrap .i64 (c - (1:Int))))*1)) b) fun e=>(cond (cond true (e==(0:Int)) false) (k0 (IntKind.wrap .i64 (c - (1:Int)))) (cond ((decide ((0:Int)≤(0:Int)))&&((decide ((0:Int)≤c))&&((decide (c≤((a:Nat):Int)))&&(decide (((a:Nat):Int)≤((a:Nat):Int)))))) (r0 (Int.toNat c)) none))) none) (cond ((decide ((0:Int)≤(0:Int)))&&((decide ((0:Int)≤c))&&((decide (c≤((a:Nat):Int)))&&(decide (((a:Nat):Int)≤((a:Nat):Int)))))) (r0 (Int.toNat c)) none))
def Aef (N:Nat)  (r0:Nat→Option R) (a:Nat) (b:LA):Nat→Int→Option R
 | 0,_=>none
 | n+1,c=>(Aq5 N r0 a b (Aef N r0 a b n) c)
def Bod (N:Nat) (r0:Nat→Option R) (q0:Int→Option R) (a:Nat) (b:LA):Option R :=
 (q0 ((a:Nat):Int))
def Boe (N a:Nat) (b:LA) (r0:Nat→Option R):Option R:=(Bod N r0 (fun c=>(Aef N r0 a b N c)) a b)
def Aaq:=(Ai (@Boe R)).1
theorem A8q:@Aaq R=@Boe R:=(Ai _).2
def A27:Hints:={ H:=(hS (hR [0]) (hS (hR [0,3]) (hS (hN [0,3] (hN [0,3] (hS (hS (hR [0,3,15]) (hN [0,3] hL hL)) (hN [0,3] (hR [0,3]) hL)) hL) hL) (hS (hR [2]) hL)))),nils:=[(2,1)],modes:=[(2,1)],free:=[],cob:=[] }
def Ayb (N:Nat):List (Nat×Tw):=[]
def Bcq (N:Nat):Env:=mkE 21 A27 (Ayb N)
def B5c (N:Nat) (F:KF R):=Ao (Bcq N) Tryz.f171 A27.modes [100000] F
def Bxd (N:Nat) (F:KF R):=atF (Bcq N) [100000] N Tryz.f171 A27 (B5c N F)
def Aeg (b:LA) (F:KF R):Nat→Option R:=(fun f=>F (.own 100000 0 f) [(100000,⟨false,false,true,false,1,b,false⟩)])
def Aeh (a:Nat) (b:LA) (c:Int):St:={ s:=[(0,(.own 100000 0 a)),(3,(.int .i64 c))],h:=[(100000,⟨false,false,true,false,1,b,false⟩)] }
def Bxe (N:Nat) (F:KF R):St→Option R:=Bq (Bcq N) [100000] N (Bxd N F [1,1,0,0] []) N
def A28 (N:Nat) (F:KF R) (n:Nat):St→Option R:=A4 (Bcq N) [100000] N (Bxd N F [1,1,0,0] []) n
theorem Bz6 (N:Nat)  (F:KF R) (a:Nat) (b:LA):∀ (n:Nat) (c:Int),A28 N F n (Aeh a b c)=(Aef N (Aeg b F) a b n c):=by
 intro n
 induction n with
 | zero=>intros;kernel_rfl
 | succ n ih =>
  intro c
  have e0:=funext fun c=>(show A28 N F n (Aeh a b c)=_ from ih c)
  have hK:A28 N F (n+1) (Aeh a b c)=(Aq5 N (Aeg b F) a b (fun c=>A28 N F n (Aeh a b c)) c):=by kernel_rfl
  exact hK.trans (by rw [e0];rfl)
theorem Aei (N a:Nat) (b:LA) (F:KF R):Ab Tryz.prog muts (Ayb N) A27 N 171 [(.own 100000 0 a)] [(100000,⟨false,false,true,false,1,b,false⟩)] F=(Aaq N a b (Aeg b F)):=by
 have e1:=funext fun c=>(show Bxe N F (Aeh a b c)=_ from (Ap ..).trans (Bz6 N F a b N c))
 have hK:Ab Tryz.prog muts (Ayb N) A27 N 171 [(.own 100000 0 a)] [(100000,⟨false,false,true,false,1,b,false⟩)] F=(Bod N (Aeg b F) (fun c=>Bxe N F (Aeh a b c)) a b):=by kernel_rfl
 rw [A8q]
 exact hK.trans (by rw [e1];rfl)
def Aq6 (N:Nat) (args:List AV) (h:Ak) (k:KF R):Option R :=
 match args,h with
 | [(.own 100000 0 a)],[(100000,⟨false,false,true,false,1,b,false⟩)]=>(Aaq N a b (Aeg b k))
 | _,_=>none
def A29 (N:Nat):Tw:=⟨Aq6 N,fun args h k=>by
 unfold Aq6;split
 exact twE (Aei ..) (Aei ..)
 rfl⟩
theorem Bg6 (N:Nat):Ax Tryz.prog 171 (A29 N):=fun args h res d hh=>by
 change Aq6 N args h (fun v d=>some (v,d))=_ at hh
 unfold Aq6 at hh;split at hh
 exact Aa (T:=Ayb N) trivial follows ((Aei ..).trans hh)
 cases hh
def Afv (N:Nat) (r0:Nat→LA→Option R)  (a:Int):Option R :=
 (Aaq N 2 [(.int .u32 (IntKind.wrap .u32 a)),(.int .u32 (IntKind.wrap .u32 (Int.fdiv a (2 ^ 32))))] (fun c=>(r0 c [(.int .u32 (IntKind.wrap .u32 a)),(.int .u32 (IntKind.wrap .u32 (Int.fdiv a (2 ^ 32))))])))
def Afw (N:Nat) (a:Int) (r0:Nat→LA→Option R):Option R:=(Afv N r0 a)
def Cb:=(Ai (@Afw R)).1
theorem Ajd:@Cb R=@Afw R:=(Ai _).2
def Aog:Hints:={ H:=(hS (hR [0]) (hS (hR [2]) hL)),nils:=[(2,1)],modes:=[(2,1)],free:=[],cob:=[] }
def Aar (N:Nat):List (Nat×Tw):=[(171,A29 N)]
def V4  (F:KF R):Nat→LA→Option R:=(fun d e=>F (.own 300000 0 d) [(300000,⟨false,false,true,false,1,e,false⟩)])
theorem V5 (N:Nat) (a:Int) (F:KF R):Ab Tryz.prog muts (Aar N) Aog N 149 [(.int .u64 a)] [] F=(Cb N a (V4 F)):=by
 have hK:Ab Tryz.prog muts (Aar N) Aog N 149 [(.int .u64 a)] [] F=(Afv N (V4 F) a):=by kernel_rfl
 rw [Ajd]
 exact hK
def Lj (N:Nat) (args:List AV) (h:Ak) (k:KF R):Option R :=
 match args,h with
 | [(.int .u64 a)],[]=>(Cb N a (V4 k))
 | _,_=>none
def Ec (N:Nat):Tw:=⟨Lj N,fun args h k=>by
 unfold Lj;split
 exact twE (V5 ..) (V5 ..)
 rfl⟩
theorem Fz (N:Nat):Ax Tryz.prog 149 (Ec N):=fun args h res b hh=>by
 change Lj N args h (fun v b=>some (v,b))=_ at hh
 unfold Lj at hh;split at hh
 exact Aa (T:=Aar N) ⟨Bg6 N,trivial⟩ follows ((V5 ..).trans hh)
 cases hh
def A8r (N:Nat) (r0:Bool→Option R)  (c:Bool) (a:Nat) (b:LA):Option R :=
 (cond (c==true) (r0 (cond true (decide (((a:Nat):Int)>(0:Int))) false)) (r0 false))
def A8s (N:Nat) (c:Bool) (a:Nat) (b:LA) (r0:Bool→Option R):Option R:=(A8r N r0 c a b)
def Ij:=(Ai (@A8s R)).1
theorem A5q:@Ij R=@A8s R:=(Ai _).2
def Bcr:Hints:={ H:=(hS (hR [0,1,4]) (hS (hR [4]) hL)),nils:=[],modes:=[],free:=[],cob:=[] }
def Ayc (N:Nat):List (Nat×Tw):=[]
def Aq7 (a:Nat) (b:LA) (F:KF R):Bool→Option R:=(fun e=>F (.agg [(.bool e),(.own 100000 0 a)]) [(100000,⟨false,false,true,false,1,b,false⟩)])
theorem Aq8 (N:Nat) (c:Bool) (a:Nat) (b:LA) (F:KF R):Ab Tryz.prog muts (Ayc N) Bcr N 148 [(.bool c),(.own 100000 0 a)] [(100000,⟨false,false,true,false,1,b,false⟩)] F=(Ij N c a b (Aq7 a b F)):=by
 have hK:Ab Tryz.prog muts (Ayc N) Bcr N 148 [(.bool c),(.own 100000 0 a)] [(100000,⟨false,false,true,false,1,b,false⟩)] F=(A8r N (Aq7 a b F) c a b):=by kernel_rfl
 rw [A5q]
 exact hK
def X4 (N:Nat) (args:List AV) (h:Ak) (k:KF R):Option R :=
 match args,h with
 | [(.bool c),(.own 100000 0 a)],[(100000,⟨false,false,true,false,1,b,false⟩)]=>(Ij N c a b (Aq7 a b k))
 | _,_=>none
def Sz (N:Nat):Tw:=⟨X4 N,fun args h k=>by
 unfold X4;split
 exact twE (Aq8 ..) (Aq8 ..)
 rfl⟩
theorem Aci (N:Nat):Ax Tryz.prog 148 (Sz N):=fun args h res d hh=>by
 change X4 N args h (fun v d=>some (v,d))=_ at hh
 unfold X4 at hh;split at hh
 exact Aa (T:=Ayc N) trivial follows ((Aq8 ..).trans hh)
 cases hh
def Ayd (N:Nat) (r0:Bool→Nat→LA→Option R)  (a:Int):Option R :=
 (cond (decide (a<(0:Int))) (Cb N (IntKind.wrap .u64 ((0:Int) - (IntKind.wrap .u64 a))) (fun b c=>(Ij N true b c (fun g=>(r0 g b c))))) (Cb N (IntKind.wrap .u64 a) (fun d e=>(Ij N false d e (fun i=>(r0 i d e))))))
def Aye (N:Nat) (a:Int) (r0:Bool→Nat→LA→Option R):Option R:=(Ayd N r0 a)
def Afx:=(Ai (@Aye R)).1
theorem Ayf:@Afx R=@Aye R:=(Ai _).2
def A5r:Hints:={ H:=(hS (hR [0,2]) (hS (hS (hR [0,2,4]) (hN [0,2] (hS (hR [2]) hL) hL)) (hS (hR [2]) hL))),nils:=[],modes:=[],free:=[],cob:=[] }
def Aq9 (N:Nat):List (Nat×Tw):=[(149,Ec N),(148,Sz N)]
def Al6  (F:KF R):Bool→Nat→LA→Option R:=(fun j l m=>F (.agg [(.bool j),(.own 300000 0 l)]) [(300000,⟨false,false,true,false,1,m,false⟩)])
theorem Al7 (N:Nat) (a:Int) (F:KF R):Ab Tryz.prog muts (Aq9 N) A5r N 104 [(.int .i64 a)] [] F=(Afx N a (Al6 F)):=by
 have hK:Ab Tryz.prog muts (Aq9 N) A5r N 104 [(.int .i64 a)] [] F=(Ayd N (Al6 F) a):=by kernel_rfl
 rw [Ayf]
 exact hK
def S5 (N:Nat) (args:List AV) (h:Ak) (k:KF R):Option R :=
 match args,h with
 | [(.int .i64 a)],[]=>(Afx N a (Al6 k))
 | _,_=>none
def A5s (N:Nat):Tw:=⟨S5 N,fun args h k=>by
 unfold S5;split
 exact twE (Al7 ..) (Al7 ..)
 rfl⟩
theorem Bvt (N:Nat):Ax Tryz.prog 104 (A5s N):=fun args h res f hh=>by
 change S5 N args h (fun v f=>some (v,f))=_ at hh
 unfold S5 at hh;split at hh
 exact Aa (T:=Aq9 N) ⟨Fz N,Aci N,trivial⟩ follows ((Al7 ..).trans hh)
 cases hh
def Ayg (N:Nat) (r0:LA→Option R)  (a:Int):Option R :=
 (Afx N a (fun d b e=>(r0 [(.bool d),(.imm (List.take (b*1) e) b 1 false false),(.imm [(.int .u32 1)] 1 1 false false)])))
def Ayh (N:Nat) (a:Int) (r0:LA→Option R):Option R:=(Ayg N r0 a)
def B0:=(Ai (@Ayh R)).1
theorem Ayi:@B0 R=@Ayh R:=(Ai _).2
def A5t:Hints:={ H:=(hS (hR [0,2]) (hS (hR [2]) hL)),nils:=[],modes:=[(3,0)],free:=[],cob:=[] }
def Ara (N:Nat):List (Nat×Tw):=[(104,A5s N)]
def Al8  (F:KF R):LA→Option R:=(fun f=>F (.pagg f false) [])
theorem Al9 (N:Nat) (a:Int) (F:KF R):Ab Tryz.prog muts (Ara N) A5t N 60 [(.int .i64 a)] [] F=(B0 N a (Al8 F)):=by
 have hK:Ab Tryz.prog muts (Ara N) A5t N 60 [(.int .i64 a)] [] F=(Ayg N (Al8 F) a):=by kernel_rfl
 rw [Ayi]
 exact hK
def S6 (N:Nat) (args:List AV) (h:Ak) (k:KF R):Option R :=
 match args,h with
 | [(.int .i64 a)],[]=>(B0 N a (Al8 k))
 | _,_=>none
def Dy (N:Nat):Tw:=⟨S6 N,fun args h k=>by
 unfold S6;split
 exact twE (Al9 ..) (Al9 ..)
 rfl⟩
theorem Ek (N:Nat):Ax Tryz.prog 60 (Dy N):=fun args h res c hh=>by
 change S6 N args h (fun v c=>some (v,c))=_ at hh
 unfold S6 at hh;split at hh
 exact Aa (T:=Ara N) ⟨Bvt N,trivial⟩ follows ((Al9 ..).trans hh)
 cases hh
def X5 (N:Nat)  (r0:LA→Nat→Option R) (d:LA) (a:Nat) (e c:Bool) (k0:Int→Option R)  (b:Int):Option R :=
 (cond ((decide (b>(0:Int)))==true) (cond (Aj (IntKind.wrap .i64 (b - (1:Int))) a) (rdI .u32 (List.drop ((Int.toNat (IntKind.wrap .i64 (b - (1:Int))))*1) d) fun g=>(cond (cond true (g==(0:Int)) false) (k0 (IntKind.wrap .i64 (b - (1:Int)))) (cond ((decide ((0:Int)≤(0:Int)))&&((decide ((0:Int)≤b))&&((decide (b≤((a:Nat):Int)))&&(decide (((a:Nat):Int)≤((a:Nat):Int)))))) (r0 (List.take ((Int.toNat b)*1) d) (Int.toNat b)) none))) none) (cond ((decide ((0:Int)≤(0:Int)))&&((decide ((0:Int)≤b))&&((decide (b≤((a:Nat):Int)))&&(decide (((a:Nat):Int)≤((a:Nat):Int)))))) (r0 (List.take ((Int.toNat b)*1) d) (Int.toNat b)) none))
def Nk (N:Nat)  (r0:LA→Nat→Option R) (d:LA) (a:Nat) (e c:Bool):Nat→Int→Option R
 | 0,_=>none
 | n+1,b=>(X5 N r0 d a e c (Nk N r0 d a e c n) b)
def A8t (N:Nat) (r0:LA→Nat→Option R) (q0:Int→Option R) (d:LA) (a:Nat) (e c:Bool):Option R :=
 (q0 ((a:Nat):Int))
def A8u (N:Nat) (d:LA) (a:Nat) (e c:Bool) (r0:LA→Nat→Option R):Option R:=(A8t N r0 (fun b=>(Nk N r0 d a e c N b)) d a e c)
def Cm:=(Ai (@A8u R)).1
theorem A5u:@Cm R=@A8u R:=(Ai _).2
def Acj:Hints:={ H:=(hS (hR [0]) (hS (hR [0,3]) (hS (hN [0,3] (hN [0,3] (hS (hS (hR [0,3,15]) (hN [0,3] hL hL)) (hN [0,3] (hR [0,3]) hL)) hL) hL) (hS (hR [2]) hL)))),nils:=[(2,1)],modes:=[(2,1)],free:=[],cob:=[] }
def Rl (N:Nat):List (Nat×Tw):=[]
def Aje (N:Nat):Env:=mkE 21 Acj (Rl N)
def Bvu (N:Nat) (F:KF R):=Ao (Aje N) Tryz.f171 Acj.modes [] F
def Bcs (N:Nat) (F:KF R):=atF (Aje N) [] N Tryz.f171 Acj (Bvu N F)
def Jm (c:Bool) (F:KF R):LA→Nat→Option R:=(fun i j=>F (.imm i j 1 false c) [])
def Nl (d:LA) (a:Nat) (e c:Bool) (b:Int):St:={ s:=[(0,(.imm d a 1 e c)),(3,(.int .i64 b))],h:=[] }
def Bct (N:Nat) (F:KF R):St→Option R:=Bq (Aje N) [] N (Bcs N F [1,1,0,0] []) N
def Ack (N:Nat) (F:KF R) (n:Nat):St→Option R:=A4 (Aje N) [] N (Bcs N F [1,1,0,0] []) n
theorem Bne (N:Nat)  (F:KF R) (d:LA) (a:Nat) (e c:Bool):∀ (n:Nat) (b:Int),Ack N F n (Nl d a e c b)=(Nk N (Jm c F) d a e c n b):=by
 intro n
 induction n with
 | zero=>intros;kernel_rfl
 | succ n ih =>
  intro b
  have e0:=funext fun b=>(show Ack N F n (Nl d a e c b)=_ from ih b)
  have hK:Ack N F (n+1) (Nl d a e c b)=(X5 N (Jm c F) d a e c (fun b=>Ack N F n (Nl d a e c b)) b):=by kernel_rfl
  exact hK.trans (by rw [e0];rfl)
theorem Fi (N:Nat) (d:LA) (a:Nat) (e c:Bool) (F:KF R):Ab Tryz.prog muts (Rl N) Acj N 171 [(.imm d a 1 e c)] [] F=(Cm N d a e c (Jm c F)):=by
 have e1:=funext fun b=>(show Bct N F (Nl d a e c b)=_ from (Ap ..).trans (Bne N F d a e c N b))
 have hK:Ab Tryz.prog muts (Rl N) Acj N 171 [(.imm d a 1 e c)] [] F=(A8t N (Jm c F) (fun b=>Bct N F (Nl d a e c b)) d a e c):=by kernel_rfl
 rw [A5u]
 exact hK.trans (by rw [e1];rfl)
def X6 (N:Nat) (args:List AV) (h:Ak) (k:KF R):Option R :=
 match args,h with
 | [(.imm d a 1 e c)],[]=>(Cm N d a e c (Jm c k))
 | _,_=>none
def Nm (N:Nat):Tw:=⟨X6 N,fun args h k=>by
 unfold X6;split
 exact twE (Fi ..) (Fi ..)
 rfl⟩
theorem S7 (N:Nat):Ax Tryz.prog 171 (Nm N):=fun args h res f hh=>by
 change X6 N args h (fun v f=>some (v,f))=_ at hh
 unfold X6 at hh;split at hh
 exact Aa (T:=Rl N) trivial follows ((Fi ..).trans hh)
 cases hh
def A5v (N:Nat)  (r0:LA→Option R)  (k0:Option R)  :Option R :=
 (r0 [])
def Acl (N:Nat)  (r0:LA→Option R) :Nat→Option R
 | 0=>none
 | n+1=>(A5v N r0 (Acl N r0 n))
def A8v (N:Nat) (r0:LA→Option R) (q0:Option R) :Option R :=
 q0
def A8w (N:Nat)  (r0:LA→Option R):Option R:=(A8v N r0 (Acl N r0 N))
def Aoh:=(Ai (@A8w R)).1
theorem A5w:@Aoh R=@A8w R:=(Ai _).2
def Acm:Hints:={ H:=(hS (hR [0]) (hS (hR [0,3]) (hS (hN [0,3] (hN [0,3] (hS (hS (hR [0,3,15]) (hN [0,3] hL hL)) (hN [0,3] (hR [0,3]) hL)) hL) hL) (hS (hR [2]) hL)))),nils:=[(2,1)],modes:=[(2,1)],free:=[],cob:=[] }
def Ajf (N:Nat):List (Nat×Tw):=[]
def Ajg (N:Nat):Env:=mkE 21 Acm (Ajf N)
def Bvv (N:Nat) (F:KF R):=Ao (Ajg N) Tryz.f171 Acm.modes [] F
def Bcu (N:Nat) (F:KF R):=atF (Ajg N) [] N Tryz.f171 Acm (Bvv N F)
def S8  (F:KF R):LA→Option R:=(fun b=>F (.own 300000 0 0) [(300000,⟨false,false,true,false,1,b,false⟩)])
def Nn :St:={ s:=[(0,.nsl),(3,(.int .i64 0))],h:=[] }
def Bcv (N:Nat) (F:KF R):St→Option R:=Bq (Ajg N) [] N (Bcu N F [1,1,0,0] []) N
def Acn (N:Nat) (F:KF R) (n:Nat):St→Option R:=A4 (Ajg N) [] N (Bcu N F [1,1,0,0] []) n
theorem Bnf (N:Nat)  (F:KF R) :∀ (n:Nat) ,Acn N F n Nn=(Acl N (S8 F) n):=by
 intro n
 induction n with
 | zero=>intros;kernel_rfl
 | succ n ih =>
  have e0:=(show Acn N F n Nn=_ from ih)
  have hK:Acn N F (n+1) Nn=(A5v N (S8 F) (Acn N F n Nn)):=by kernel_rfl
  exact hK.trans (by rw [e0];rfl)
theorem Arb (N:Nat)  (F:KF R):Ab Tryz.prog muts (Ajf N) Acm N 171 [.nsl] [] F=(Aoh N (S8 F)):=by
 have e1:=(show Bcv N F Nn=_ from (Ap ..).trans (Bnf N F N))
 have hK:Ab Tryz.prog muts (Ajf N) Acm N 171 [.nsl] [] F=(A8v N (S8 F) (Bcv N F Nn)):=by kernel_rfl
 rw [A5w]
 exact hK.trans (by rw [e1];rfl)
def Afy (N:Nat)  (r0:Int→Option R) (d:LA) (c:Nat) (b:Bool) (e:LA) (k0:Int→Option R)  (a:Int):Option R :=
 (cond (decide (a≥(0:Int))) (cond (Aj a c) (rdI .u32 (List.drop ((Int.toNat a)*1) d) fun l=>(cond (Aj a 0) (rdI .u32 (List.drop (0+((Int.toNat a)*1)) e) fun m=>(cond (decide (l<m)) (r0 (-1)) (cond (Aj a c) (rdI .u32 (List.drop ((Int.toNat a)*1) d) fun o=>(cond (Aj a 0) (rdI .u32 (List.drop (0+((Int.toNat a)*1)) e) fun p=>(cond (decide (o>p)) (r0 1) (k0 (IntKind.wrap .i64 (a - (1:Int)))))) none)) none))) none)) none) (r0 0))
def X7 (N:Nat)  (r0:Int→Option R) (d:LA) (c:Nat) (b:Bool) (e:LA):Nat→Int→Option R
 | 0,_=>none
 | n+1,a=>(Afy N r0 d c b e (X7 N r0 d c b e n) a)
def Ayj (N:Nat) (r0:Int→Option R) (q0:LA→Nat→LA→Int→Option R) (f:LA) (g:Nat) (i b:Bool):Option R :=
 (Cm N f g i b (fun d c=>(Aoh N (fun e=>(cond (((c:Nat):Int) != (0:Int)) (cond (decide (((c:Nat):Int)<(0:Int))) (r0 (-1)) (r0 1)) (q0 d c e (IntKind.wrap .i64 (((c:Nat):Int) - (1:Int)))))))))
def Ayk (N:Nat) (f:LA) (g:Nat) (i b:Bool) (r0:Int→Option R):Option R:=(Ayj N r0 (fun d c e a=>(X7 N r0 d c b e N a)) f g i b)
def V6:=(Ai (@Ayk R)).1
theorem Ayl:@V6 R=@Ayk R:=(Ai _).2
def X8:Hints:={ H:=(hS (hR [0,1]) (hS (hR [0,1]) (hS (hS (hR [0,1,14]) (hN [0,1] (hS (hS (hR [19]) (hS (hS (hR [4]) hL) hL)) (hS (hR [4]) hL)) hL)) (hS (hS (hR [0,1,5]) (hS (hN [0,1,5] (hS (hS (hR [0,1,5,24]) (hN [0,1,5] hL hL)) (hS (hN [0,1,5] (hS (hS (hR [0,1,5,35]) (hN [0,1,5] (hS (hR [4]) hL) hL)) (hS (hR [0,1,5,44]) (hN [0,1,5] (hS (hR [4]) hL) hL))) hL) (hR [0,1,5]))) hL) hL)) (hS (hR [4]) hL))))),nils:=[],modes:=[],free:=[],cob:=[] }
def Dv (N:Nat) (args:List AV) (h:Ak) (k:KF R):Option R :=
 match args,h with
 | [(.imm f g 1 i b)],[]=>(Cm N f g i b (Jm b k))
 | [.nsl],[]=>(Aoh N (S8 k))
 | _,_=>none
def Mf (N:Nat):Tw:=⟨Dv N,fun args h k=>by
 unfold Dv;split
 exact twE (Fi ..) (Fi ..)
 exact twE (Arb ..) (Arb ..)
 rfl⟩
theorem Afz (N:Nat):Ax Tryz.prog 171 (Mf N):=fun args h res j hh=>by
 change Dv N args h (fun v j=>some (v,j))=_ at hh
 unfold Dv at hh;split at hh
 exact Aa (T:=Rl N) trivial follows ((Fi ..).trans hh)
 exact Aa (T:=Ajf N) trivial follows ((Arb ..).trans hh)
 cases hh
def Aco (N:Nat):List (Nat×Tw):=[(171,Mf N)]
def Acp (N:Nat):Env:=mkE 45 X8 (Aco N)
def Bq1 (N:Nat) (F:KF R):=Ao (Acp N) Tryz.f132 X8.modes [] F
def A5x (N:Nat) (F:KF R):=atF (Acp N) [] N Tryz.f132 X8 (Bq1 N F)
def O4  (F:KF R):Int→Option R:=(fun q=>F (.int .i64 q) [])
def Kw (d:LA) (c:Nat) (b:Bool) (e:LA) (a:Int):St:={ s:=[(0,(.imm d c 1 false b)),(1,(.own 300000 0 0)),(5,(.int .i64 a))],h:=[(300000,⟨false,false,true,false,1,e,false⟩)] }
def A5y (N:Nat) (F:KF R):St→Option R:=Bq (Acp N) [] N (A5x N F [1,1,1,0,1,0] []) N
def X9 (N:Nat) (F:KF R) (n:Nat):St→Option R:=A4 (Acp N) [] N (A5x N F [1,1,1,0,1,0] []) n
theorem Bg7 (N:Nat)  (F:KF R) (d:LA) (c:Nat) (b:Bool) (e:LA):∀ (n:Nat) (a:Int),X9 N F n (Kw d c b e a)=(X7 N (O4 F) d c b e n a):=by
 intro n
 induction n with
 | zero=>intros;kernel_rfl
 | succ n ih =>
  intro a
  have e0:=funext fun a=>(show X9 N F n (Kw d c b e a)=_ from ih a)
  have hK:X9 N F (n+1) (Kw d c b e a)=(Afy N (O4 F) d c b e (fun a=>X9 N F n (Kw d c b e a)) a):=by kernel_rfl
  exact hK.trans (by rw [e0];rfl)
theorem Ama (N:Nat) (f:LA) (g:Nat) (i b:Bool) (F:KF R):Ab Tryz.prog muts (Aco N) X8 N 132 [(.imm f g 1 i b),.nsl] [] F=(V6 N f g i b (O4 F)):=by
 have e1:=funext fun d=>funext fun c=>funext fun e=>funext fun a=>(show A5y N F (Kw d c b e a)=_ from (Ap ..).trans (Bg7 N F d c b e N a))
 have hK:Ab Tryz.prog muts (Aco N) X8 N 132 [(.imm f g 1 i b),.nsl] [] F=(Ayj N (O4 F) (fun d c e a=>A5y N F (Kw d c b e a)) f g i b):=by kernel_rfl
 rw [Ayl]
 exact hK.trans (by rw [e1];rfl)
def S9 (N:Nat) (args:List AV) (h:Ak) (k:KF R):Option R :=
 match args,h with
 | [(.imm f g 1 i b),.nsl],[]=>(V6 N f g i b (O4 k))
 | _,_=>none
def Amb (N:Nat):Tw:=⟨S9 N,fun args h k=>by
 unfold S9;split
 exact twE (Ama ..) (Ama ..)
 rfl⟩
theorem A5z (N:Nat):Ax Tryz.prog 132 (Amb N):=fun args h res j hh=>by
 change S9 N args h (fun v j=>some (v,j))=_ at hh
 unfold S9 at hh;split at hh
 exact Aa (T:=Aco N) ⟨Afz N,trivial⟩ follows ((Ama ..).trans hh)
 cases hh
def A3a (N:Nat) (r0:LA→Bool→LA→Nat→Bool→Option R)  (a:LA) (b:Bool):Option R :=
 (rdL 1 (List.drop 2 a) fun d e=>(V6 N d e false b (fun f=>(cond (f==(0:Int)) (r0 [(.bool false),.nsl] false [(.int .u32 1)] 1 false) (cond (Nat.ble 2 (List.length a)) (rdL 1 (List.drop 2 a) fun g i=>(cond ((Nat.beq 0 0)&&((Nat.beq (List.length (List.take 2 a)) 2)&&(Nat.beq 2 2))) (cond (Nat.ble 2 (List.length (List.take 2 a))) (r0 (List.take 2 (List.take 2 a)) b g i b) none) none)) none)))))
def A3b (N:Nat) (a:LA) (b:Bool) (r0:LA→Bool→LA→Nat→Bool→Option R):Option R:=(A3a N r0 a b)
def Kd:=(Ai (@A3b R)).1
theorem Arc:@Kd R=@A3b R:=(Ai _).2
def Blf:Hints:={ H:=(hS (hR [1,2]) (hS (hS (hR [1,2,7]) (hN [1,2] (hS (hR [2,3]) hL) hL)) (hS (hR [2,3]) hL))),nils:=[(3,1)],modes:=[(3,0),(1,1)],free:=[],cob:=[] }
def A8x (N:Nat):List (Nat×Tw):=[(132,Amb N)]
def Aym  (F:KF R):LA→Bool→LA→Nat→Bool→Option R:=(fun j l m n o=>F (.tup [(.pagg j l),(.imm m n 1 false o)]) [])
theorem Ayn (N:Nat) (a:LA) (b:Bool) (F:KF R):Ab Tryz.prog muts (A8x N) Blf N 101 [(.pagg a b)] [] F=(Kd N a b (Aym F)):=by
 have hK:Ab Tryz.prog muts (A8x N) Blf N 101 [(.pagg a b)] [] F=(A3a N (Aym F) a b):=by kernel_rfl
 rw [Arc]
 exact hK
def Acq (N:Nat) (args:List AV) (h:Ak) (k:KF R):Option R :=
 match args,h with
 | [(.pagg a b)],[]=>(Kd N a b (Aym k))
 | _,_=>none
def Rm (N:Nat):Tw:=⟨Acq N,fun args h k=>by
 unfold Acq;split
 exact twE (Ayn ..) (Ayn ..)
 rfl⟩
theorem Zx (N:Nat):Ax Tryz.prog 101 (Rm N):=fun args h res c hh=>by
 change Acq N args h (fun v c=>some (v,c))=_ at hh
 unfold Acq at hh;split at hh
 exact Aa (T:=A8x N) ⟨A5z N,trivial⟩ follows ((Ayn ..).trans hh)
 cases hh
def Bq2 (N:Nat) (r0:Int→Option R)  (a:LA) (b:Bool):Option R :=
 (rdL 1 (List.drop 1 a) fun d e=>(V6 N d e false b (fun f=>(cond (f==(0:Int)) (r0 0) (rdB a fun g=>(cond g (r0 (-1)) (r0 1)))))))
def Bq3 (N:Nat) (a:LA) (b:Bool) (r0:Int→Option R):Option R:=(Bq2 N r0 a b)
def Ard:=(Ai (@Bq3 R)).1
theorem Blg:@Ard R=@Bq3 R:=(Ai _).2
def Bq4:Hints:={ H:=(hS (hR [1]) (hS (hS (hS (hR [1,3]) (hS (hS (hR [2]) hL) (hS (hR [8]) (hS (hS (hR [2]) hL) hL)))) hL) (hS (hR [2]) hL))),nils:=[],modes:=[],free:=[],cob:=[] }
def Bg8 (N:Nat):List (Nat×Tw):=[(132,Amb N)]
def A8y  (F:KF R):Int→Option R:=(fun i=>F (.int .i64 i) [])
theorem A8z (N:Nat) (a:LA) (b:Bool) (F:KF R):Ab Tryz.prog muts (Bg8 N) Bq4 N 144 [(.pagg a b)] [] F=(Ard N a b (A8y F)):=by
 have hK:Ab Tryz.prog muts (Bg8 N) Bq4 N 144 [(.pagg a b)] [] F=(Bq2 N (A8y F) a b):=by kernel_rfl
 rw [Blg]
 exact hK
def Ajh (N:Nat) (args:List AV) (h:Ak) (k:KF R):Option R :=
 match args,h with
 | [(.pagg a b)],[]=>(Ard N a b (A8y k))
 | _,_=>none
def A80 (N:Nat):Tw:=⟨Ajh N,fun args h k=>by
 unfold Ajh;split
 exact twE (A8z ..) (A8z ..)
 rfl⟩
theorem Bq5 (N:Nat):Ax Tryz.prog 144 (A80 N):=fun args h res c hh=>by
 change Ajh N args h (fun v c=>some (v,c))=_ at hh
 unfold Ajh at hh;split at hh
 exact Aa (T:=Bg8 N) ⟨A5z N,trivial⟩ follows ((A8z ..).trans hh)
 cases hh
def Bq6 (N:Nat) (r0:Int→Option R)  (a:LA) (b:Bool):Option R :=
 (cond (Nat.ble 3 (List.length a)) (Kd N (List.take 3 a) b (fun c e i j l=>(cond ((Nat.beq 0 0)&&((Nat.beq (List.length c) 2)&&(Nat.beq 2 2))) (cond (Nat.ble 2 (List.length c)) (Ard N (List.take 2 c) e (fun f=>(r0 f))) none) none))) none)
def Bq7 (N:Nat) (a:LA) (b:Bool) (r0:Int→Option R):Option R:=(Bq6 N r0 a b)
def Po:=(Ai (@Bq7 R)).1
theorem Blh:@Po R=@Bq7 R:=(Ai _).2
def Bq8:Hints:={ H:=(hS (hR [1]) (hS (hR [3]) (hS (hR [2]) hL))),nils:=[],modes:=[],free:=[],cob:=[] }
def Bg9 (N:Nat):List (Nat×Tw):=[(101,Rm N),(144,A80 N)]
def A81  (F:KF R):Int→Option R:=(fun g=>F (.int .i64 g) [])
theorem A82 (N:Nat) (a:LA) (b:Bool) (F:KF R):Ab Tryz.prog muts (Bg9 N) Bq8 N 95 [(.pagg a b)] [] F=(Po N a b (A81 F)):=by
 have hK:Ab Tryz.prog muts (Bg9 N) Bq8 N 95 [(.pagg a b)] [] F=(Bq6 N (A81 F) a b):=by kernel_rfl
 rw [Blh]
 exact hK
def Aji (N:Nat) (args:List AV) (h:Ak) (k:KF R):Option R :=
 match args,h with
 | [(.pagg a b)],[]=>(Po N a b (A81 k))
 | _,_=>none
def Af0 (N:Nat):Tw:=⟨Aji N,fun args h k=>by
 unfold Aji;split
 exact twE (A82 ..) (A82 ..)
 rfl⟩
theorem Are (N:Nat):Ax Tryz.prog 95 (Af0 N):=fun args h res d hh=>by
 change Aji N args h (fun v d=>some (v,d))=_ at hh
 unfold Aji at hh;split at hh
 exact Aa (T:=Bg9 N) ⟨Zx N,Bq5 N,trivial⟩ follows ((A82 ..).trans hh)
 cases hh
def Af1 (N:Nat) (r0:Bool→Option R)  (a:Int):Option R :=
 (r0 (a != a))
def Af2 (N:Nat) (a:Int) (r0:Bool→Option R):Option R:=(Af1 N r0 a)
def O5:=(Ai (@Af2 R)).1
theorem Ajj:@O5 R=@Af2 R:=(Ai _).2
def Aoi:Hints:={ H:=(hS (hR [0]) (hS (hR [2]) hL)),nils:=[],modes:=[],free:=[],cob:=[] }
def Aas (N:Nat):List (Nat×Tw):=[]
def V7  (F:KF R):Bool→Option R:=(fun c=>F (.bool c) [])
theorem V8 (N:Nat) (a:Int) (F:KF R):Ab Tryz.prog muts (Aas N) Aoi N 145 [(.int .i64 a)] [] F=(O5 N a (V7 F)):=by
 have hK:Ab Tryz.prog muts (Aas N) Aoi N 145 [(.int .i64 a)] [] F=(Af1 N (V7 F) a):=by kernel_rfl
 rw [Ajj]
 exact hK
def Lk (N:Nat) (args:List AV) (h:Ak) (k:KF R):Option R :=
 match args,h with
 | [(.int .i64 a)],[]=>(O5 N a (V7 k))
 | _,_=>none
def Aoj (N:Nat):Tw:=⟨Lk N,fun args h k=>by
 unfold Lk;split
 exact twE (V8 ..) (V8 ..)
 rfl⟩
theorem Bha (N:Nat):Ax Tryz.prog 145 (Aoj N):=fun args h res b hh=>by
 change Lk N args h (fun v b=>some (v,b))=_ at hh
 unfold Lk at hh;split at hh
 exact Aa (T:=Aas N) trivial follows ((V8 ..).trans hh)
 cases hh
def V9 (N:Nat) (r0:Int→Option R)  (a b:Int):Option R :=
 (O5 N a (fun e=>(O5 N b (fun c=>(cond e (cond c (r0 0) (r0 (-1))) (cond c (r0 1) (cond (decide (a<b)) (r0 (-1)) (cond (decide (a>b)) (r0 1) (r0 0)))))))))
def Wa (N:Nat) (a b:Int) (r0:Int→Option R):Option R:=(V9 N r0 a b)
def Ke:=(Ai (@Wa R)).1
theorem Abp:@Ke R=@Wa R:=(Ai _).2
def Af3:Hints:={ H:=(hS (hR [0,1]) (hS (hR [0,1,5]) (hS (hR [0,1,5,6]) (hS (hS (hR [0,1,6,11]) (hN [0,1,6] (hS (hS (hR [12]) (hS (hS (hR [4]) hL) hL)) (hS (hR [4]) hL)) hL)) (hS (hS (hR [0,1,13]) (hN [0,1] (hS (hR [4]) hL) hL)) (hS (hS (hR [0,1,16]) (hN [0,1] (hS (hR [4]) hL) hL)) (hS (hS (hR [19]) (hS (hS (hR [4]) hL) hL)) (hS (hR [4]) hL)))))))),nils:=[],modes:=[],free:=[],cob:=[] }
def Ta (N:Nat):List (Nat×Tw):=[(145,Aoj N)]
def Qs  (F:KF R):Int→Option R:=(fun f=>F (.int .i64 f) [])
theorem Qt (N:Nat) (a b:Int) (F:KF R):Ab Tryz.prog muts (Ta N) Af3 N 98 [(.int .i64 a),(.int .i64 b)] [] F=(Ke N a b (Qs F)):=by
 have hK:Ab Tryz.prog muts (Ta N) Af3 N 98 [(.int .i64 a),(.int .i64 b)] [] F=(V9 N (Qs F) a b):=by kernel_rfl
 rw [Abp]
 exact hK
def Hz (N:Nat) (args:List AV) (h:Ak) (k:KF R):Option R :=
 match args,h with
 | [(.int .i64 a),(.int .i64 b)],[]=>(Ke N a b (Qs k))
 | _,_=>none
def Af4 (N:Nat):Tw:=⟨Hz N,fun args h k=>by
 unfold Hz;split
 exact twE (Qt ..) (Qt ..)
 rfl⟩
theorem A83 (N:Nat):Ax Tryz.prog 98 (Af4 N):=fun args h res d hh=>by
 change Hz N args h (fun v d=>some (v,d))=_ at hh
 unfold Hz at hh;split at hh
 exact Aa (T:=Ta N) ⟨Bha N,trivial⟩ follows ((Qt ..).trans hh)
 cases hh
def Jc (N:Nat)  (r0:Int→Option R) (c:LA) (a:Nat) (d e:Bool) (k0:Int→Int→Int→Option R)  (f g b:Int):Option R :=
 (cond (decide (b<g)) (cond (Aj b a) (rdI .u32 (List.drop ((Int.toNat b)*1) c) fun j=>(cond (decide ((IntKind.wrap .i64 ((32:Int)*b))<(0:Int))) none (k0 (Rf .u64 f (IntKind.wrap .u64 ((IntKind.wrap .u64 j)*2 ^ (min (Int.toNat (IntKind.wrap .i64 ((32:Int)*b))) 64)))) g (IntKind.wrap .i64 (b+(1:Int)))))) none) (r0 f))
def Jn (N:Nat)  (r0:Int→Option R) (c:LA) (a:Nat) (d e:Bool):Nat→Int→Int→Int→Option R
 | 0,_,_,_=>none
 | n+1,f,g,b=>(Jc N r0 c a d e (Jn N r0 c a d e n) f g b)
def Bq9 (N:Nat) (r0:Int→Option R) (q0:Int→Int→Int→Option R) (c:LA) (a:Nat) (d e:Bool):Option R :=
 (q0 0 ((a:Nat):Int) 0)
def Bra (N:Nat) (c:LA) (a:Nat) (d e:Bool) (r0:Int→Option R):Option R:=(Bq9 N r0 (fun f g b=>(Jn N r0 c a d e N f g b)) c a d e)
def Tb:=(Ai (@Bra R)).1
theorem Bli:@Tb R=@Bra R:=(Ai _).2
def Arf:Hints:={ H:=(hS (hR [0]) (hS (hR [0,3]) (hS (hS (hR [3,6,7,8]) (hN [3] (hN [3,6,7,8] (hS (hR [3,6,7,8,9]) (hS (hN [3,6,7,8] hL hL) (hS (hN [3,6,7,8] (hS (hR [3,4,5,6,7,8]) (hR [3,6,7,8])) hL) (hR [3,6,7,8])))) hL) hL)) (hS (hR [2]) hL)))),nils:=[],modes:=[],free:=[],cob:=[] }
def A3c (N:Nat):List (Nat×Tw):=[]
def A3d (N:Nat):Env:=mkE 22 Arf (A3c N)
def B24 (N:Nat) (F:KF R):=Ao (A3d N) Tryz.f181 Arf.modes [] F
def Brb (N:Nat) (F:KF R):=atF (A3d N) [] N Tryz.f181 Arf (B24 N F)
def Af5  (F:KF R):Int→Option R:=(fun l=>F (.int .u64 l) [])
def Wb (c:LA) (a:Nat) (d e:Bool) (f g b:Int):St:={ s:=[(3,(.int .u64 f)),(6,(.imm c a 1 d e)),(7,(.int .i64 g)),(8,(.int .i64 b))],h:=[] }
def Brc (N:Nat) (F:KF R):St→Option R:=Bq (A3d N) [] N (Brb N F [1,1,0,1,0] []) N
def Arg (N:Nat) (F:KF R) (n:Nat):St→Option R:=A4 (A3d N) [] N (Brb N F [1,1,0,1,0] []) n
theorem Bvw (N:Nat)  (F:KF R) (c:LA) (a:Nat) (d e:Bool):∀ (n:Nat) (f g b:Int),Arg N F n (Wb c a d e f g b)=(Jn N (Af5 F) c a d e n f g b):=by
 intro n
 induction n with
 | zero=>intros;kernel_rfl
 | succ n ih =>
  intro f g b
  have e0:=funext fun f=>funext fun g=>funext fun b=>(show Arg N F n (Wb c a d e f g b)=_ from ih f g b)
  have hK:Arg N F (n+1) (Wb c a d e f g b)=(Jc N (Af5 F) c a d e (fun f g b=>Arg N F n (Wb c a d e f g b)) f g b):=by kernel_rfl
  exact hK.trans (by rw [e0];rfl)
theorem A84 (N:Nat) (c:LA) (a:Nat) (d e:Bool) (F:KF R):Ab Tryz.prog muts (A3c N) Arf N 181 [(.imm c a 1 d e)] [] F=(Tb N c a d e (Af5 F)):=by
 have e1:=funext fun f=>funext fun g=>funext fun b=>(show Brc N F (Wb c a d e f g b)=_ from (Ap ..).trans (Bvw N F c a d e N f g b))
 have hK:Ab Tryz.prog muts (A3c N) Arf N 181 [(.imm c a 1 d e)] [] F=(Bq9 N (Af5 F) (fun f g b=>Brc N F (Wb c a d e f g b)) c a d e):=by kernel_rfl
 rw [Bli]
 exact hK.trans (by rw [e1];rfl)
def Ajk (N:Nat) (args:List AV) (h:Ak) (k:KF R):Option R :=
 match args,h with
 | [(.imm c a 1 d e)],[]=>(Tb N c a d e (Af5 k))
 | _,_=>none
def Arh (N:Nat):Tw:=⟨Ajk N,fun args h k=>by
 unfold Ajk;split
 exact twE (A84 ..) (A84 ..)
 rfl⟩
theorem A85 (N:Nat):Ax Tryz.prog 181 (Arh N):=fun args h res i hh=>by
 change Ajk N args h (fun v i=>some (v,i))=_ at hh
 unfold Ajk at hh;split at hh
 exact Aa (T:=A3c N) trivial follows ((A84 ..).trans hh)
 cases hh
def A86 (N:Nat) (r0:Int→Bool→Option R)  (b:LA) (c:Nat) (d a:Bool):Option R :=
 (Cm N b c d a (fun g e=>(cond (decide (((e:Nat):Int)>(2:Int))) (r0 0 false) (Tb N g e false a (fun i=>(r0 i true))))))
def A87 (N:Nat) (b:LA) (c:Nat) (d a:Bool) (r0:Int→Bool→Option R):Option R:=(A86 N r0 b c d a)
def Aej:=(Ai (@A87 R)).1
theorem A50:@Aej R=@A87 R:=(Ai _).2
def Bcw:Hints:={ H:=(hS (hR [0]) (hS (hR [0]) (hS (hS (hR [0,8]) (hN [0] (hS (hR [2,3]) hL) hL)) (hS (hR [2,3]) hL)))),nils:=[],modes:=[],free:=[],cob:=[] }
def Ayo (N:Nat):List (Nat×Tw):=[(171,Nm N),(181,Arh N)]
def Ari  (F:KF R):Int→Bool→Option R:=(fun j l=>F (.tup [(.int .u64 j),(.bool l)]) [])
theorem Arj (N:Nat) (b:LA) (c:Nat) (d a:Bool) (F:KF R):Ab Tryz.prog muts (Ayo N) Bcw N 146 [(.imm b c 1 d a)] [] F=(Aej N b c d a (Ari F)):=by
 have hK:Ab Tryz.prog muts (Ayo N) Bcw N 146 [(.imm b c 1 d a)] [] F=(A86 N (Ari F) b c d a):=by kernel_rfl
 rw [A50]
 exact hK
def Ya (N:Nat) (args:List AV) (h:Ak) (k:KF R):Option R :=
 match args,h with
 | [(.imm b c 1 d a)],[]=>(Aej N b c d a (Ari k))
 | _,_=>none
def Bcx (N:Nat):Tw:=⟨Ya N,fun args h k=>by
 unfold Ya;split
 exact twE (Arj ..) (Arj ..)
 rfl⟩
theorem Bz7 (N:Nat):Ax Tryz.prog 146 (Bcx N):=fun args h res f hh=>by
 change Ya N args h (fun v f=>some (v,f))=_ at hh
 unfold Ya at hh;split at hh
 exact Aa (T:=Ayo N) ⟨S7 N,A85 N,trivial⟩ follows ((Arj ..).trans hh)
 cases hh
def Fj (N:Nat)  (r0:Int→Int→Bool→Option R) (d b:Int) (c:Bool) (a:LA)   (e:Bool):Option R :=
 (cond e (r0 0 0 false) (cond (b==(0:Int)) (r0 0 1 true) (rdB a fun g=>(cond g (r0 (IntKind.wrap .i64 ((0:Int) - (IntKind.wrap .i64 d))) (IntKind.wrap .i64 b) true) (r0 (IntKind.wrap .i64 d) (IntKind.wrap .i64 b) true)))))
def Fr (N:Nat)  (r0:Int→Int→Bool→Option R) (d b:Int) (c:Bool) (a:LA) (e:Bool):Option R:=(Fj N r0 d b c a e)
def Aok (N:Nat) (r0:Int→Int→Bool→Option R) (q0:Int→Int→Bool→Option R) (a:LA) (c:Bool):Option R :=
 (rdL 1 (List.drop 1 a) fun i j=>(Aej N i j false c (fun d l=>(rdL 1 (List.drop 2 a) fun m n=>(Aej N m n false c (fun b o=>(cond ((!l)==false) (cond ((cond false true (!o))==false) (cond ((cond false true (decide (d≥(2147483648:Int))))==false) (q0 d b (cond false true (decide (b≥(2147483648:Int))))) (q0 d b true)) (q0 d b true)) (q0 d b true))))))))
def Aol (N:Nat) (a:LA) (c:Bool) (r0:Int→Int→Bool→Option R):Option R:=(Aok N r0 (fun d b e=>(Fr N r0 d b c a e)) a c)
def Gf:=(Ai (@Aol R)).1
theorem Acr:@Gf R=@Aol R:=(Ai _).2
def Ajl:Hints:={ H:=(hS (hR [1]) (hS (hR [1,4,5]) (hS (hR [1,4,5,6,7]) (hS (hN [5,6] (hJ (hR [1,5,6,21]) (hN [5,6] (hS (hR [2,3,4]) hL) (hS (hR [1,5,6,36]) (hN [5,6] (hS (hR [2,3,4]) hL) (hS (hR [5,6,39]) (hN [5,6] (hS (hR [2,3,4]) hL) hL)))))) hL) (hS (hR [2,3,4]) hL))))),nils:=[],modes:=[],free:=[],cob:=[] }
def Ark (N:Nat):List (Nat×Tw):=[(146,Bcx N)]
def Arl (N:Nat):Env:=mkE 52 Ajl (Ark N)
def Bz8 (N:Nat) (F:KF R):=Ao (Arl N) Tryz.f99 Ajl.modes [] F
def Blj (N:Nat) (F:KF R):=atF (Arl N) [] N Tryz.f99 Ajl (Bz8 N F)
def Zy  (F:KF R):Int→Int→Bool→Option R:=(fun p q r=>F (.tup [(.int .i64 p),(.int .i64 q),(.bool r)]) [])
def Ajm (d b:Int) (c:Bool) (a:LA) (e:Bool):St:={ s:=[(1,(.optr 16 0)),(5,(.int .u64 d)),(6,(.int .u64 b)),(21,(.bool e))],h:=[(16,⟨false,false,true,c,0,a,false⟩)] }
def Bll (N:Nat) (F:KF R):St→Option R:=Cg (Arl N) [] N (Blj N F [1,1,1,0,0,1] [])
def Blm (N:Nat) (F:KF R):St→Option R:=Ck (Arl N) [] N (Blj N F [1,1,1,0,0,1] [])
theorem Brd (N:Nat)  (F:KF R) (d b:Int) (c:Bool) (a:LA):∀ (e:Bool),Blm N F (Ajm d b c a e)=(Fr N (Zy F) d b c a e):=by
 intro e
 have hK:Blm N F (Ajm d b c a e)=(Fj N (Zy F) d b c a e):=by kernel_rfl
 exact hK
theorem Ayp (N:Nat) (a:LA) (c:Bool) (F:KF R):Ab Tryz.prog muts (Ark N) Ajl N 99 [(.pagg a c)] [] F=(Gf N a c (Zy F)):=by
 have e1:=funext fun d=>funext fun b=>funext fun e=>(show Bll N F (Ajm d b c a e)=_ from (Aw ..).trans (Brd N F d b c a e))
 have hK:Ab Tryz.prog muts (Ark N) Ajl N 99 [(.pagg a c)] [] F=(Aok N (Zy F) (fun d b e=>Bll N F (Ajm d b c a e)) a c):=by kernel_rfl
 rw [Acr]
 exact hK.trans (by rw [e1];rfl)
def Acs (N:Nat) (args:List AV) (h:Ak) (k:KF R):Option R :=
 match args,h with
 | [(.pagg a c)],[]=>(Gf N a c (Zy k))
 | _,_=>none
def Zz (N:Nat):Tw:=⟨Acs N,fun args h k=>by
 unfold Acs;split
 exact twE (Ayp ..) (Ayp ..)
 rfl⟩
theorem Ajn (N:Nat):Ax Tryz.prog 99 (Zz N):=fun args h res f hh=>by
 change Acs N args h (fun v f=>some (v,f))=_ at hh
 unfold Acs at hh;split at hh
 exact Aa (T:=Ark N) ⟨Bz7 N,trivial⟩ follows ((Ayp ..).trans hh)
 cases hh
def Wc (N:Nat) (r0:Bool→Option R)  (a:Int):Option R :=
 (r0 (a != a))
def Wd (N:Nat) (a:Int) (r0:Bool→Option R):Option R:=(Wc N r0 a)
def Kf:=(Ai (@Wd R)).1
theorem Abq:@Kf R=@Wd R:=(Ai _).2
def Af6:Hints:={ H:=(hS (hR [0]) (hS (hR [2]) hL)),nils:=[],modes:=[],free:=[],cob:=[] }
def Tc (N:Nat):List (Nat×Tw):=[]
def Qu  (F:KF R):Bool→Option R:=(fun c=>F (.bool c) [])
theorem Qv (N:Nat) (a:Int) (F:KF R):Ab Tryz.prog muts (Tc N) Af6 N 147 [(.int .i64 a)] [] F=(Kf N a (Qu F)):=by
 have hK:Ab Tryz.prog muts (Tc N) Af6 N 147 [(.int .i64 a)] [] F=(Wc N (Qu F) a):=by kernel_rfl
 rw [Abq]
 exact hK
def H0 (N:Nat) (args:List AV) (h:Ak) (k:KF R):Option R :=
 match args,h with
 | [(.int .i64 a)],[]=>(Kf N a (Qu k))
 | _,_=>none
def Af7 (N:Nat):Tw:=⟨H0 N,fun args h k=>by
 unfold H0;split
 exact twE (Qv ..) (Qv ..)
 rfl⟩
theorem A88 (N:Nat):Ax Tryz.prog 147 (Af7 N):=fun args h res b hh=>by
 change H0 N args h (fun v b=>some (v,b))=_ at hh
 unfold H0 at hh;split at hh
 exact Aa (T:=Tc N) trivial follows ((Qv ..).trans hh)
 cases hh
def Qw (N:Nat) (r0:Int→Option R)  (a b:Int):Option R :=
 (Kf N a (fun e=>(Kf N b (fun c=>(cond e (cond c (r0 0) (r0 (-1))) (cond c (r0 1) (cond (decide (a<b)) (r0 (-1)) (cond (decide (a>b)) (r0 1) (r0 0)))))))))
def Qx (N:Nat) (a b:Int) (r0:Int→Option R):Option R:=(Qw N r0 a b)
def He:=(Ai (@Qx R)).1
theorem Vn:@He R=@Qx R:=(Ai _).2
def Z0:Hints:={ H:=(hS (hR [0,1]) (hS (hR [0,1,5]) (hS (hR [0,1,5,6]) (hS (hS (hR [0,1,6,11]) (hN [0,1,6] (hS (hS (hR [12]) (hS (hS (hR [4]) hL) hL)) (hS (hR [4]) hL)) hL)) (hS (hS (hR [0,1,13]) (hN [0,1] (hS (hR [4]) hL) hL)) (hS (hS (hR [0,1,16]) (hN [0,1] (hS (hR [4]) hL) hL)) (hS (hS (hR [19]) (hS (hS (hR [4]) hL) hL)) (hS (hR [4]) hL)))))))),nils:=[],modes:=[],free:=[],cob:=[] }
def Ow (N:Nat):List (Nat×Tw):=[(147,Af7 N)]
def Mg  (F:KF R):Int→Option R:=(fun f=>F (.int .i64 f) [])
theorem Mh (N:Nat) (a b:Int) (F:KF R):Ab Tryz.prog muts (Ow N) Z0 N 100 [(.int .i64 a),(.int .i64 b)] [] F=(He N a b (Mg F)):=by
 have hK:Ab Tryz.prog muts (Ow N) Z0 N 100 [(.int .i64 a),(.int .i64 b)] [] F=(Qw N (Mg F) a b):=by kernel_rfl
 rw [Vn]
 exact hK
def Gs (N:Nat) (args:List AV) (h:Ak) (k:KF R):Option R :=
 match args,h with
 | [(.int .i64 a),(.int .i64 b)],[]=>(He N a b (Mg k))
 | _,_=>none
def Z1 (N:Nat):Tw:=⟨Gs N,fun args h k=>by
 unfold Gs;split
 exact twE (Mh ..) (Mh ..)
 rfl⟩
theorem Ayq (N:Nat):Ax Tryz.prog 100 (Z1 N):=fun args h res d hh=>by
 change Gs N args h (fun v d=>some (v,d))=_ at hh
 unfold Gs at hh;split at hh
 exact Aa (T:=Ow N) ⟨A88 N,trivial⟩ follows ((Mh ..).trans hh)
 cases hh
def Arm (N:Nat) (k1:Nat→Int→Int→LA→Option R) (r0:Nat→LA→Option R) (e:LA) (a:Nat) (d:Bool) (i:Nat) (f q:Int) (g:LA) (b:Nat) (c:Bool) (j:Int) (k2:Int→Int→Int→LA→Option R)  (p r l:Int) (m:LA):Option R :=
 (cond (decide (l<r)) (cond (Aj l a) (rdI .u32 (List.drop ((Int.toNat l)*1) e) fun ab=>(cond (Aj (IntKind.wrap .i64 (f+l)) i) (rdI .u32 (List.drop (0+((Int.toNat (IntKind.wrap .i64 (f+l)))*1)) m) fun ac=>(cond (Aj (IntKind.wrap .i64 (f+l)) i) (cond ((Nat.beq 1 1)&&((Nat.ble ((0+((Int.toNat (IntKind.wrap .i64 (f+l)))*1))+1) (List.length m))&&(!false))) (k2 (Int.fdiv (IntKind.wrap .u64 (p+(IntKind.wrap .u64 ((IntKind.wrap .u64 ((IntKind.wrap .u64 q)*(IntKind.wrap .u64 ab)))+(IntKind.wrap .u64 ac))))) (2 ^ 32)) r (IntKind.wrap .i64 (l+(1:Int))) (List.set m (0+((Int.toNat (IntKind.wrap .i64 (f+l)))*1)) (.int .u32 (IntKind.wrap .u32 (IntKind.wrap .u64 (p+(IntKind.wrap .u64 ((IntKind.wrap .u64 ((IntKind.wrap .u64 q)*(IntKind.wrap .u64 ab)))+(IntKind.wrap .u64 ac))))))))) none) none)) none)) none) (cond (Aj (IntKind.wrap .i64 (f+((a:Nat):Int))) i) (cond ((Nat.beq 1 1)&&((Nat.ble ((0+((Int.toNat (IntKind.wrap .i64 (f+((a:Nat):Int))))*1))+1) (List.length m))&&(!false))) (k1 i j (IntKind.wrap .i64 (f+(1:Int))) (List.set m (0+((Int.toNat (IntKind.wrap .i64 (f+((a:Nat):Int))))*1)) (.int .u32 (IntKind.wrap .u32 p)))) none) none))
def We (N:Nat) (k1:Nat→Int→Int→LA→Option R) (r0:Nat→LA→Option R) (e:LA) (a:Nat) (d:Bool) (i:Nat) (f q:Int) (g:LA) (b:Nat) (c:Bool) (j:Int):Nat→Int→Int→Int→LA→Option R
 | 0,_,_,_,_=>none
 | n+1,p,r,l,m=>(Arm N k1 r0 e a d i f q g b c j (We N k1 r0 e a d i f q g b c j n) p r l m)
def Af8 (N:Nat)  (r0:Nat→LA→Option R) (e:LA) (a:Nat) (d:Bool) (g:LA) (b:Nat) (c:Bool) (k1:Nat→Int→Int→LA→Option R) (q2:Int→Int→Int→Int→LA→Option R) (i:Nat) (j f:Int) (o:LA):Option R :=
 (cond (decide (f<j)) (cond (Aj f b) (rdI .u32 (List.drop ((Int.toNat f)*1) g) fun q=>(cond (q==(0:Int)) (k1 i j (IntKind.wrap .i64 (f+(1:Int))) o) (q2 q 0 ((a:Nat):Int) 0 o))) none) (Aaq N i o (fun ae=>(r0 ae o))))
def Kx (N:Nat)  (r0:Nat→LA→Option R) (e:LA) (a:Nat) (d:Bool) (g:LA) (b:Nat) (c:Bool):Nat→Nat→Int→Int→LA→Option R
 | 0,_,_,_,_=>none
 | n+1,i,j,f,o=>(Af8 N r0 e a d g b c (Kx N r0 e a d g b c n) (fun q p r l m=>(We N (Kx N r0 e a d g b c n) r0 e a d i f q g b c j N p r l m)) i j f o)
def A89 (N:Nat)  (r0:Nat→LA→Option R) (g:LA) (b:Nat) (c:Bool) (e:LA) (a:Nat) (d:Bool)  (q1:Nat→Int→Int→LA→Option R) :Option R :=
 (cond ((decide ((0:Int)≤(IntKind.wrap .i64 (((b:Nat):Int)+((a:Nat):Int)))))&&((decide ((IntKind.wrap .i64 (((b:Nat):Int)+((a:Nat):Int)))≤(IntKind.wrap .i64 (((b:Nat):Int)+((a:Nat):Int)))))&&((decide ((IntKind.wrap .i64 (((b:Nat):Int)+((a:Nat):Int)))≤(140737488355328:Int)))&&(decide (((IntKind.wrap .i64 (((b:Nat):Int)+((a:Nat):Int)))*((4:Nat):Int))≤(140737488355328:Int)))))) (q1 (Int.toNat (IntKind.wrap .i64 (((b:Nat):Int)+((a:Nat):Int)))) ((b:Nat):Int) 0 (List.replicate (Int.toNat (IntKind.wrap .i64 (((b:Nat):Int)+((a:Nat):Int)))) (.int .u32 0))) none)
def Bhb (N:Nat)  (r0:Nat→LA→Option R) (g:LA) (b:Nat) (c:Bool) (e:LA) (a:Nat) (d:Bool) :Option R:=(A89 N r0 g b c e a d (fun i j f o=>(Kx N r0 e a d g b c N i j f o)))
def Bcy (N:Nat) (r0:Nat→LA→Option R) (q0:LA→Nat→LA→Nat→Option R) (u:LA) (t:Nat) (w c:Bool) (x:LA) (y:Nat) (z d:Bool):Option R :=
 (Cm N u t w c (fun g b=>(Cm N x y z d (fun e a=>(cond ((((b:Nat):Int)==(0:Int))==false) (cond (cond false true (((a:Nat):Int)==(0:Int))) (r0 0 []) (q0 g b e a)) (r0 0 []))))))
def Bcz (N:Nat) (u:LA) (t:Nat) (w c:Bool) (x:LA) (y:Nat) (z d:Bool) (r0:Nat→LA→Option R):Option R:=(Bcy N r0 (fun g b e a=>(Bhb N r0 g b c e a d)) u t w c x y z d)
def Arn:=(Ai (@Bcz R)).1
theorem Aro:@Arn R=@Bcz R:=(Ai _).2
def A3e:Hints:={ H:=(hS (hR [0,1]) (hS (hR [0,1]) (hJ (hS (hR [0,1,22]) (hN [0,1] (hS (hR [4]) hL) hL)) (hS (hR [0,1,5]) (hS (hS (hR [1,5,29,30,31]) (hN [5] (hN [1,5,29,30,31] (hS (hR [1,5,29,30,31,32]) (hS (hN [1,5,29,30,31] hL hL) (hS (hN [1,5,29,30,31] (hS (hR [1,5,6,7,29,30,31]) (hS (hS (hR [1,5,6,7,29,30,31,37]) (hN [1,5,6,7,29,30,31] hL hL)) (hS (hR [1,5,6,7,8,29,30,31]) (hS (hS (hR [1,5,6,7,8,29,30,31,38,39,40]) (hN [1,5,6,8,29,30,31] (hN [1,5,6,7,8,29,30,31,38,39,40] (hS (hR [1,5,6,7,8,29,30,31,38,39,40,41]) (hS (hN [1,5,6,7,8,29,30,31,38,39,40] hL hL) (hS (hN [1,5,6,7,8,29,30,31,38,39,40] (hS (hR [1,5,6,7,8,9,10,29,30,31,38,39,40]) (hS (hR [1,5,6,7,8,9,29,30,31,38,39,40]) (hS (hR [1,5,6,7,8,29,30,31,38,39,40]) (hR [1,5,6,7,8,29,30,31,38,39,40])))) hL) (hR [1,5,6,7,8,29,30,31,38,39,40])))) hL) hL)) (hR [1,5,29,30,31]))))) hL) (hR [1,5,29,30,31])))) hL) hL)) (hS (hR [4]) hL)))))),nils:=[(4,1)],modes:=[(2,1)],free:=[],cob:=[] }
def El (N:Nat) (args:List AV) (h:Ak) (k:KF R):Option R :=
 match args,h with
 | [(.imm u t 1 w c)],[]=>(Cm N u t w c (Jm c k))
 | [(.own 100000 0 t)],[(100000,⟨false,false,true,false,1,ad,false⟩)]=>(Aaq N t ad (Aeg ad k))
 | _,_=>none
def Ds (N:Nat):Tw:=⟨El N,fun args h k=>by
 unfold El;split
 exact twE (Fi ..) (Fi ..)
 exact twE (Aei ..) (Aei ..)
 rfl⟩
theorem Ez (N:Nat):Ax Tryz.prog 171 (Ds N):=fun args h res aa hh=>by
 change El N args h (fun v aa=>some (v,aa))=_ at hh
 unfold El at hh;split at hh
 exact Aa (T:=Rl N) trivial follows ((Fi ..).trans hh)
 exact Aa (T:=Ayb N) trivial follows ((Aei ..).trans hh)
 cases hh
def Bc0 (N:Nat):List (Nat×Tw):=[(171,Ds N)]
def Z2 (N:Nat):Env:=mkE 81 A3e (Bc0 N)
def B5d (N:Nat) (F:KF R):=Ao (Z2 N) Tryz.f135 A3e.modes [] F
def Aek (N:Nat) (F:KF R):=atF (Z2 N) [] N Tryz.f135 A3e (B5d N F)
def Ik  (F:KF R):Nat→LA→Option R:=(fun af ag=>F (.own 300000 0 af) [(300000,⟨false,false,true,false,1,ag,false⟩)])
def Ael (e:LA) (a:Nat) (d:Bool) (i:Nat) (f q:Int) (g:LA) (b:Nat) (c:Bool) (j p r l:Int) (m:LA):St:={ s:=[(1,(.imm e a 1 false d)),(5,(.own 300000 0 i)),(6,(.int .i64 f)),(7,(.int .u32 q)),(8,(.int .u64 p)),(29,(.imm g b 1 false c)),(30,(.int .i64 j)),(31,(.int .i64 f)),(38,(.imm e a 1 false d)),(39,(.int .i64 r)),(40,(.int .i64 l))],h:=[(300000,⟨false,false,true,false,1,m,false⟩)] }
def Bxf (N:Nat) (F:KF R) (Q1:St→Option R):St→Option R:=Bq (Z2 N) [] N (Aek N F [1,1,1,1,0,1,0,0,1,1,0,0,1,1,1,0,1,0] [Q1]) N
def A3f (N:Nat) (F:KF R) (Q1:St→Option R) (n:Nat):St→Option R:=A4 (Z2 N) [] N (Aek N F [1,1,1,1,0,1,0,0,1,1,0,0,1,1,1,0,1,0] [Q1]) n
def Rn (e:LA) (a:Nat) (d:Bool) (g:LA) (b:Nat) (c:Bool) (i:Nat) (j f:Int) (o:LA):St:={ s:=[(1,(.imm e a 1 false d)),(5,(.own 300000 0 i)),(29,(.imm g b 1 false c)),(30,(.int .i64 j)),(31,(.int .i64 f))],h:=[(300000,⟨false,false,true,false,1,o,false⟩)] }
def Bxg (N:Nat) (F:KF R):St→Option R:=Bq (Z2 N) [] N (Aek N F [1,1,1,1,0,1,0] []) N
def Wf (N:Nat) (F:KF R) (n:Nat):St→Option R:=A4 (Z2 N) [] N (Aek N F [1,1,1,1,0,1,0] []) n
def A3g (g:LA) (b:Nat) (c:Bool) (e:LA) (a:Nat) (d:Bool):St:={ s:=[(0,(.imm g b 1 false c)),(1,(.imm e a 1 false d))],h:=[] }
def Bxh (N:Nat) (F:KF R):St→Option R:=Cg (Z2 N) [] N (Aek N F [1,1,1] [])
def Bxi (N:Nat) (F:KF R):St→Option R:=Ck (Z2 N) [] N (Aek N F [1,1,1] [])
theorem Bz9 (N:Nat) (Q1:St→Option R) (F:KF R) (e:LA) (a:Nat) (d:Bool) (i:Nat) (f q:Int) (g:LA) (b:Nat) (c:Bool) (j:Int):∀ (n:Nat) (p r l:Int) (m:LA),A3f N F Q1 n (Ael e a d i f q g b c j p r l m)=(We N (fun i j f o=>Q1 (Rn e a d g b c i j f o)) (Ik F) e a d i f q g b c j n p r l m):=by
 intro n
 induction n with
 | zero=>intros;kernel_rfl
 | succ n ih =>
  intro p r l m
  have e0:=funext fun p=>funext fun r=>funext fun l=>funext fun m=>(show A3f N F Q1 n (Ael e a d i f q g b c j p r l m)=_ from ih p r l m)
  have hK:A3f N F Q1 (n+1) (Ael e a d i f q g b c j p r l m)=(Arm N (fun i j f o=>Q1 (Rn e a d g b c i j f o)) (Ik F) e a d i f q g b c j (fun p r l m=>A3f N F Q1 n (Ael e a d i f q g b c j p r l m)) p r l m):=by kernel_rfl
  exact hK.trans (by rw [e0];rfl)
theorem B0a (N:Nat)  (F:KF R) (e:LA) (a:Nat) (d:Bool) (g:LA) (b:Nat) (c:Bool):∀ (n i:Nat) (j f:Int) (o:LA),Wf N F n (Rn e a d g b c i j f o)=(Kx N (Ik F) e a d g b c n i j f o):=by
 intro n
 induction n with
 | zero=>intros;kernel_rfl
 | succ n ih =>
  intro i j f o
  have e0:=funext fun i=>funext fun j=>funext fun f=>funext fun o=>(show Wf N F n (Rn e a d g b c i j f o)=_ from ih i j f o)
  have e1:(fun q p r l m=>Bxf N F (Wf N F n) (Ael e a d i f q g b c j p r l m))=(fun q p r l m=>(We N (Kx N (Ik F) e a d g b c n) (Ik F) e a d i f q g b c j N p r l m)):=by funext q;funext p;funext r;funext l;funext m;exact ((Ap ..).trans (Bz9 N (Wf N F n) F e a d i f q g b c j N p r l m)).trans (by rw [e0])
  have hK:Wf N F (n+1) (Rn e a d g b c i j f o)=(Af8 N (Ik F) e a d g b c (fun i j f o=>Wf N F n (Rn e a d g b c i j f o)) (fun q p r l m=>Bxf N F (Wf N F n) (Ael e a d i f q g b c j p r l m)) i j f o):=by kernel_rfl
  exact hK.trans (by rw [e0,e1];rfl)
theorem B0b (N:Nat)  (F:KF R) (g:LA) (b:Nat) (c:Bool) (e:LA) (a:Nat) (d:Bool):Bxi N F (A3g g b c e a d)=(Bhb N (Ik F) g b c e a d):=by
 have e1:=funext fun i=>funext fun j=>funext fun f=>funext fun o=>(show Bxg N F (Rn e a d g b c i j f o)=_ from (Ap ..).trans (B0a N F e a d g b c N i j f o))
 have hK:Bxi N F (A3g g b c e a d)=(A89 N (Ik F) g b c e a d (fun i j f o=>Bxg N F (Rn e a d g b c i j f o))):=by kernel_rfl
 exact hK.trans (by rw [e1];rfl)
theorem Bhc (N:Nat) (u:LA) (t:Nat) (w c:Bool) (x:LA) (y:Nat) (z d:Bool) (F:KF R):Ab Tryz.prog muts (Bc0 N) A3e N 135 [(.imm u t 1 w c),(.imm x y 1 z d)] [] F=(Arn N u t w c x y z d (Ik F)):=by
 have e1:=funext fun g=>funext fun b=>funext fun e=>funext fun a=>(show Bxh N F (A3g g b c e a d)=_ from (Aw ..).trans (B0b N F g b c e a d))
 have hK:Ab Tryz.prog muts (Bc0 N) A3e N 135 [(.imm u t 1 w c),(.imm x y 1 z d)] [] F=(Bcy N (Ik F) (fun g b e a=>Bxh N F (A3g g b c e a d)) u t w c x y z d):=by kernel_rfl
 rw [Aro]
 exact hK.trans (by rw [e1];rfl)
def Arp (N:Nat) (args:List AV) (h:Ak) (k:KF R):Option R :=
 match args,h with
 | [(.imm u t 1 w c),(.imm x y 1 z d)],[]=>(Arn N u t w c x y z d (Ik k))
 | _,_=>none
def Aom (N:Nat):Tw:=⟨Arp N,fun args h k=>by
 unfold Arp;split
 exact twE (Bhc ..) (Bhc ..)
 rfl⟩
theorem A3h (N:Nat):Ax Tryz.prog 135 (Aom N):=fun args h res aa hh=>by
 change Arp N args h (fun v aa=>some (v,aa))=_ at hh
 unfold Arp at hh;split at hh
 exact Aa (T:=Bc0 N) ⟨Ez N,trivial⟩ follows ((Bhc ..).trans hh)
 cases hh
def B0c (N:Nat) (r0:Bool→Nat→LA→Option R)  (a:LA) (c:Bool) (b:LA) (d:Bool):Option R :=
 (rdB a fun i=>(rdB b fun j=>(rdL 1 (List.drop 1 a) fun l m=>(rdL 1 (List.drop 1 b) fun n o=>(Arn N l m false c n o false d (fun e f=>(Ij N (!(i==j)) e f (fun p=>(r0 p e f)))))))))
def B0d (N:Nat) (a:LA) (c:Bool) (b:LA) (d:Bool) (r0:Bool→Nat→LA→Option R):Option R:=(B0c N r0 a c b d)
def Arq:=(Ai (@B0d R)).1
theorem Bre:@Arq R=@B0d R:=(Ai _).2
def Bxj:Hints:={ H:=(hS (hR [2,3,4]) (hS (hR [4]) hL)),nils:=[],modes:=[],free:=[],cob:=[] }
def Brf (N:Nat):List (Nat×Tw):=[(135,Aom N),(148,Sz N)]
def Bhd  (F:KF R):Bool→Nat→LA→Option R:=(fun q r s=>F (.agg [(.bool q),(.own 300000 0 r)]) [(300000,⟨false,false,true,false,1,s,false⟩)])
theorem Bhe (N:Nat) (a:LA) (c:Bool) (b:LA) (d:Bool) (F:KF R):Ab Tryz.prog muts (Brf N) Bxj N 103 [(.pagg a c),(.pagg b d)] [] F=(Arq N a c b d (Bhd F)):=by
 have hK:Ab Tryz.prog muts (Brf N) Bxj N 103 [(.pagg a c),(.pagg b d)] [] F=(B0c N (Bhd F) a c b d):=by kernel_rfl
 rw [Bre]
 exact hK
def Arr (N:Nat) (args:List AV) (h:Ak) (k:KF R):Option R :=
 match args,h with
 | [(.pagg a c),(.pagg b d)],[]=>(Arq N a c b d (Bhd k))
 | _,_=>none
def A3i (N:Nat):Tw:=⟨Arr N,fun args h k=>by
 unfold Arr;split
 exact twE (Bhe ..) (Bhe ..)
 rfl⟩
theorem Bhf (N:Nat):Ax Tryz.prog 103 (A3i N):=fun args h res g hh=>by
 change Arr N args h (fun v g=>some (v,g))=_ at hh
 unfold Arr at hh;split at hh
 exact Aa (T:=Brf N) ⟨A3h N,Aci N,trivial⟩ follows ((Bhe ..).trans hh)
 cases hh
def Ll (N:Nat)  (r0:Int→Option R) (f:LA) (d:Nat) (b:Bool) (g:LA) (e:Nat) (c:Bool) (k0:Int→Option R)  (a:Int):Option R :=
 (cond (decide (a≥(0:Int))) (cond (Aj a d) (rdI .u32 (List.drop ((Int.toNat a)*1) f) fun r=>(cond (Aj a e) (rdI .u32 (List.drop ((Int.toNat a)*1) g) fun t=>(cond (decide (r<t)) (r0 (-1)) (cond (Aj a d) (rdI .u32 (List.drop ((Int.toNat a)*1) f) fun u=>(cond (Aj a e) (rdI .u32 (List.drop ((Int.toNat a)*1) g) fun w=>(cond (decide (u>w)) (r0 1) (k0 (IntKind.wrap .i64 (a - (1:Int)))))) none)) none))) none)) none) (r0 0))
def F0 (N:Nat)  (r0:Int→Option R) (f:LA) (d:Nat) (b:Bool) (g:LA) (e:Nat) (c:Bool):Nat→Int→Option R
 | 0,_=>none
 | n+1,a=>(Ll N r0 f d b g e c (F0 N r0 f d b g e c n) a)
def Af9 (N:Nat) (r0:Int→Option R) (q0:LA→Nat→LA→Nat→Int→Option R) (i:LA) (j:Nat) (l b:Bool) (m:LA) (o:Nat) (p c:Bool):Option R :=
 (Cm N i j l b (fun f d=>(Cm N m o p c (fun g e=>(cond (((d:Nat):Int) != ((e:Nat):Int)) (cond (decide (((d:Nat):Int)<((e:Nat):Int))) (r0 (-1)) (r0 1)) (q0 f d g e (IntKind.wrap .i64 (((d:Nat):Int) - (1:Int)))))))))
def Aga (N:Nat) (i:LA) (j:Nat) (l b:Bool) (m:LA) (o:Nat) (p c:Bool) (r0:Int→Option R):Option R:=(Af9 N r0 (fun f d g e a=>(F0 N r0 f d b g e c N a)) i j l b m o p c)
def Dz:=(Ai (@Aga R)).1
theorem Ajo:@Dz R=@Aga R:=(Ai _).2
def No:Hints:={ H:=(hS (hR [0,1]) (hS (hR [0,1]) (hS (hS (hR [0,1,14]) (hN [0,1] (hS (hS (hR [19]) (hS (hS (hR [4]) hL) hL)) (hS (hR [4]) hL)) hL)) (hS (hS (hR [0,1,5]) (hS (hN [0,1,5] (hS (hS (hR [0,1,5,24]) (hN [0,1,5] hL hL)) (hS (hN [0,1,5] (hS (hS (hR [0,1,5,35]) (hN [0,1,5] (hS (hR [4]) hL) hL)) (hS (hR [0,1,5,44]) (hN [0,1,5] (hS (hR [4]) hL) hL))) hL) (hR [0,1,5]))) hL) hL)) (hS (hR [4]) hL))))),nils:=[],modes:=[],free:=[],cob:=[] }
def Pp (N:Nat):List (Nat×Tw):=[(171,Nm N)]
def Pq (N:Nat):Env:=mkE 45 No (Pp N)
def Bc1 (N:Nat) (F:KF R):=Ao (Pq N) Tryz.f132 No.modes [] F
def Aon (N:Nat) (F:KF R):=atF (Pq N) [] N Tryz.f132 No (Bc1 N F)
def Il  (F:KF R):Int→Option R:=(fun x=>F (.int .i64 x) [])
def F1 (f:LA) (d:Nat) (b:Bool) (g:LA) (e:Nat) (c:Bool) (a:Int):St:={ s:=[(0,(.imm f d 1 false b)),(1,(.imm g e 1 false c)),(5,(.int .i64 a))],h:=[] }
def Aoo (N:Nat) (F:KF R):St→Option R:=Bq (Pq N) [] N (Aon N F [1,1,1,0,1,0] []) N
def Np (N:Nat) (F:KF R) (n:Nat):St→Option R:=A4 (Pq N) [] N (Aon N F [1,1,1,0,1,0] []) n
theorem A4x (N:Nat)  (F:KF R) (f:LA) (d:Nat) (b:Bool) (g:LA) (e:Nat) (c:Bool):∀ (n:Nat) (a:Int),Np N F n (F1 f d b g e c a)=(F0 N (Il F) f d b g e c n a):=by
 intro n
 induction n with
 | zero=>intros;kernel_rfl
 | succ n ih =>
  intro a
  have e0:=funext fun a=>(show Np N F n (F1 f d b g e c a)=_ from ih a)
  have hK:Np N F (n+1) (F1 f d b g e c a)=(Ll N (Il F) f d b g e c (fun a=>Np N F n (F1 f d b g e c a)) a):=by kernel_rfl
  exact hK.trans (by rw [e0];rfl)
theorem Wg (N:Nat) (i:LA) (j:Nat) (l b:Bool) (m:LA) (o:Nat) (p c:Bool) (F:KF R):Ab Tryz.prog muts (Pp N) No N 132 [(.imm i j 1 l b),(.imm m o 1 p c)] [] F=(Dz N i j l b m o p c (Il F)):=by
 have e1:=funext fun f=>funext fun d=>funext fun g=>funext fun e=>funext fun a=>(show Aoo N F (F1 f d b g e c a)=_ from (Ap ..).trans (A4x N F f d b g e c N a))
 have hK:Ab Tryz.prog muts (Pp N) No N 132 [(.imm i j 1 l b),(.imm m o 1 p c)] [] F=(Af9 N (Il F) (fun f d g e a=>Aoo N F (F1 f d b g e c a)) i j l b m o p c):=by kernel_rfl
 rw [Ajo]
 exact hK.trans (by rw [e1];rfl)
def Lm (N:Nat) (args:List AV) (h:Ak) (k:KF R):Option R :=
 match args,h with
 | [(.imm i j 1 l b),(.imm m o 1 p c)],[]=>(Dz N i j l b m o p c (Il k))
 | _,_=>none
def F2 (N:Nat):Tw:=⟨Lm N,fun args h k=>by
 unfold Lm;split
 exact twE (Wg ..) (Wg ..)
 rfl⟩
theorem Im (N:Nat):Ax Tryz.prog 132 (F2 N):=fun args h res q hh=>by
 change Lm N args h (fun v q=>some (v,q))=_ at hh
 unfold Lm at hh;split at hh
 exact Aa (T:=Pp N) ⟨S7 N,trivial⟩ follows ((Wg ..).trans hh)
 cases hh
def Ayr (N:Nat) (r0:Int→Option R)  (a:LA) (c:Bool) (b:LA) (d:Bool):Option R :=
 (cond (Nat.ble 2 (List.length a)) (Ard N (List.take 2 a) c (fun e=>(cond (Nat.ble 2 (List.length b)) (Ard N (List.take 2 b) d (fun f=>(cond (decide (e<f)) (r0 (-1)) (cond (decide (e>f)) (r0 1) (cond (decide (e<(0:Int))) (rdL 1 (List.drop 1 b) fun i j=>(rdL 1 (List.drop 1 a) fun l m=>(Dz N i j false d l m false c (fun n=>(r0 n))))) (rdL 1 (List.drop 1 a) fun o p=>(rdL 1 (List.drop 1 b) fun q r=>(Dz N o p false c q r false d (fun s=>(r0 s)))))))))) none))) none)
def Ays (N:Nat) (a:LA) (c:Bool) (b:LA) (d:Bool) (r0:Int→Option R):Option R:=(Ayr N r0 a c b d)
def Agb:=(Ai (@Ays R)).1
theorem Ayt:@Agb R=@Ays R:=(Ai _).2
def A51:Hints:={ H:=(hS (hR [2,3]) (hS (hR [2,3,5,6]) (hS (hN [2,3] (hS (hR [2,3,5,6,11]) (hN [2,3] (hS (hR [4]) hL) (hS (hR [2,3,5,15]) (hN [2,3] (hS (hR [4]) hL) (hS (hR [2,3,19]) (hN [2,3] (hS (hR [4]) hL) hL)))))) hL) (hS (hR [4]) hL)))),nils:=[],modes:=[],free:=[],cob:=[] }
def Ars (N:Nat):List (Nat×Tw):=[(144,A80 N),(132,F2 N)]
def Amc  (F:KF R):Int→Option R:=(fun t=>F (.int .i64 t) [])
theorem Amd (N:Nat) (a:LA) (c:Bool) (b:LA) (d:Bool) (F:KF R):Ab Tryz.prog muts (Ars N) A51 N 102 [(.pagg a c),(.pagg b d)] [] F=(Agb N a c b d (Amc F)):=by
 have hK:Ab Tryz.prog muts (Ars N) A51 N 102 [(.pagg a c),(.pagg b d)] [] F=(Ayr N (Amc F) a c b d):=by kernel_rfl
 rw [Ayt]
 exact hK
def Td (N:Nat) (args:List AV) (h:Ak) (k:KF R):Option R :=
 match args,h with
 | [(.pagg a c),(.pagg b d)],[]=>(Agb N a c b d (Amc k))
 | _,_=>none
def A52 (N:Nat):Tw:=⟨Td N,fun args h k=>by
 unfold Td;split
 exact twE (Amd ..) (Amd ..)
 rfl⟩
theorem Bvx (N:Nat):Ax Tryz.prog 102 (A52 N):=fun args h res g hh=>by
 change Td N args h (fun v g=>some (v,g))=_ at hh
 unfold Td at hh;split at hh
 exact Aa (T:=Ars N) ⟨Bq5 N,Im N,trivial⟩ follows ((Amd ..).trans hh)
 cases hh
def Agc (N:Nat)  (r0:Int→Option R) (c:Bool) (a:LA) (d:Bool) (b:LA)   :Option R :=
 (cond (Nat.ble 3 (List.length a)) (Kd N (List.take 3 a) c (fun e p q r g=>(cond ((Nat.beq 0 0)&&((Nat.beq (List.length e) 2)&&(Nat.beq 2 2))) (cond (Nat.ble 3 (List.length b)) (Kd N (List.take 3 b) d (fun f t u w i=>(cond ((Nat.beq 0 0)&&((Nat.beq (List.length f) 2)&&(Nat.beq 2 2))) (cond (Nat.ble 2 (List.length e)) (Arq N (List.take 2 e) p [(.bool false),(.imm u w 1 false i)] (i||false) (fun x j y=>(cond (Nat.ble 2 (List.length f)) (Arq N (List.take 2 f) t [(.bool false),(.imm q r 1 false g)] (g||false) (fun z l aa=>(Agb N [(.bool x),(.imm (List.take (j*1) y) j 1 false true)] true [(.bool z),(.imm (List.take (l*1) aa) l 1 false true)] true (fun ab=>(r0 ab))))) none))) none) none))) none) none))) none)
def Yb (N:Nat)  (r0:Int→Option R) (c:Bool) (a:LA) (d:Bool) (b:LA) :Option R:=(Agc N r0 c a d b)
def Ayu (N:Nat) (r0:Int→Option R) (q0:Option R) (a:LA) (c:Bool) (b:LA) (d:Bool):Option R :=
 (cond (Nat.ble 3 (List.length a)) (Po N (List.take 3 a) c (fun m=>(cond (Nat.ble 3 (List.length b)) (Po N (List.take 3 b) d (fun n=>(cond (m != n) (Ke N m n (fun ac=>(r0 ac))) (cond (Nat.ble 3 (List.length a)) (Gf N (List.take 3 a) c (fun ad ae af=>(cond (Nat.ble 3 (List.length b)) (Gf N (List.take 3 b) d (fun ag ah ai=>(cond (af==true) (cond (cond true ai false) (He N (IntKind.wrap .i64 (ad*ah)) (IntKind.wrap .i64 (ag*ae)) (fun aj=>(r0 aj))) q0) q0))) none))) none)))) none))) none)
def Ayv (N:Nat) (a:LA) (c:Bool) (b:LA) (d:Bool) (r0:Int→Option R):Option R:=(Ayu N r0 (Yb N r0 c a d b) a c b d)
def E6:=(Ai (@Ayv R)).1
theorem Ayw:@E6 R=@Ayv R:=(Ai _).2
def Yc:Hints:={ H:=(hS (hR [2,3]) (hS (hS (hR [2,3,5,6]) (hS (hR [2,3,5,6,23]) (hN [2,3] (hS (hR [4]) hL) hL))) (hS (hR [2,3,7,8,9]) (hS (hR [2,3,7,8,9,10,11,12]) (hJ (hS (hR [2,3,7,8,10,11,42]) (hN [2,3] (hS (hR [4]) hL) hL)) (hS (hR [3,13,14]) (hS (hR [13,14,15,16]) (hS (hR [4]) hL)))))))),nils:=[],modes:=[],free:=[],cob:=[] }
def Acu (N:Nat):List (Nat×Tw):=[(95,Af0 N),(98,Af4 N),(99,Zz N),(100,Z1 N),(101,Rm N),(103,A3i N),(102,A52 N)]
def Acv (N:Nat):Env:=mkE 69 Yc (Acu N)
def Brg (N:Nat) (F:KF R):=Ao (Acv N) Tryz.f59 Yc.modes [] F
def A53 (N:Nat) (F:KF R):=atF (Acv N) [] N Tryz.f59 Yc (Brg N F)
def O6  (F:KF R):Int→Option R:=(fun ak=>F (.int .i64 ak) [])
def Yd (c:Bool) (a:LA) (d:Bool) (b:LA):St:={ s:=[(2,(.optr 300000 0)),(3,(.optr 300001 0))],h:=[(300000,⟨false,false,true,c,0,a,false⟩),(300001,⟨false,false,true,d,0,b,false⟩)] }
def A54 (N:Nat) (F:KF R):St→Option R:=Cg (Acv N) [] N (A53 N F [1,1,1,1,1] [])
def A55 (N:Nat) (F:KF R):St→Option R:=Ck (Acv N) [] N (A53 N F [1,1,1,1,1] [])
theorem Bhg (N:Nat)  (F:KF R) (c:Bool) (a:LA) (d:Bool) (b:LA):A55 N F (Yd c a d b)=(Yb N (O6 F) c a d b):=by
 have hK:A55 N F (Yd c a d b)=(Agc N (O6 F) c a d b):=by kernel_rfl
 exact hK
theorem Ame (N:Nat) (a:LA) (c:Bool) (b:LA) (d:Bool) (F:KF R):Ab Tryz.prog muts (Acu N) Yc N 59 [(.pagg a c),(.pagg b d)] [] F=(E6 N a c b d (O6 F)):=by
 have e1:=(show A54 N F (Yd c a d b)=_ from (Aw ..).trans (Bhg N F c a d b))
 have hK:Ab Tryz.prog muts (Acu N) Yc N 59 [(.pagg a c),(.pagg b d)] [] F=(Ayu N (O6 F) (A54 N F (Yd c a d b)) a c b d):=by kernel_rfl
 rw [Ayw]
 exact hK.trans (by rw [e1];rfl)
def Te (N:Nat) (args:List AV) (h:Ak) (k:KF R):Option R :=
 match args,h with
 | [(.pagg a c),(.pagg b d)],[]=>(E6 N a c b d (O6 k))
 | _,_=>none
def Ky (N:Nat):Tw:=⟨Te N,fun args h k=>by
 unfold Te;split
 exact twE (Ame ..) (Ame ..)
 rfl⟩
theorem O7 (N:Nat):Ax Tryz.prog 59 (Ky N):=fun args h res o hh=>by
 change Te N args h (fun v o=>some (v,o))=_ at hh
 unfold Te at hh;split at hh
 exact Aa (T:=Acu N) ⟨Are N,A83 N,Ajn N,Ayq N,Zx N,Bhf N,Bvx N,trivial⟩ follows ((Ame ..).trans hh)
 cases hh
def Kg (N:Nat)  (r0:LA→Option R) (a b c:Int) (k1:Int→Int→Option R)  (d e:Int):Option R :=
 (cond (e != (0:Int)) (cond (e==(0:Int)) none (k1 e (Int.tmod d e))) (cond (d==(0:Int)) none (Cb N (IntKind.wrap .u64 (Int.tdiv c d)) (fun f j=>(cond (d==(0:Int)) none (Cb N (IntKind.wrap .u64 (Int.tdiv (IntKind.wrap .u64 b) d)) (fun g l=>(r0 [(.bool (decide (a<(0:Int)))),(.imm (List.take (f*1) j) f 1 false false),(.imm (List.take (g*1) l) g 1 false false)]))))))))
def Da (N:Nat)  (r0:LA→Option R) (a b c:Int):Nat→Int→Int→Option R
 | 0,_,_=>none
 | n+1,d,e=>(Kg N r0 a b c (Da N r0 a b c n) d e)
def Aat (N:Nat)  (r0:LA→Option R) (a b:Int)  (q1:Int→Int→Option R) (c:Int):Option R :=
 (q1 (IntKind.wrap .u64 b) c)
def Agd (N:Nat)  (r0:LA→Option R) (a b c:Int):Option R:=(Aat N r0 a b (fun d e=>(Da N r0 a b c N d e)) c)
def Art (N:Nat) (r0:LA→Option R) (q0:Int→Option R) (a b:Int):Option R :=
 (cond (decide (a<(0:Int))) (q0 (IntKind.wrap .u64 ((0:Int) - (IntKind.wrap .u64 a)))) (q0 (IntKind.wrap .u64 a)))
def Aru (N:Nat) (a b:Int) (r0:LA→Option R):Option R:=(Art N r0 (fun c=>(Agd N r0 a b c)) a b)
def Jd:=(Ai (@Aru R)).1
theorem Avo:@Jd R=@Aru R:=(Ai _).2
def Tf:Hints:={ H:=(hS (hR [0,1,4]) (hS (hR [0,1,4,5]) (hJ (hS (hR [0,1,4,5,11]) (hN [0,1,4,5] (hR [0,1,4,5]) hL)) (hS (hR [0,1,4,5,6,7]) (hS (hN [0,1,4,5,6] (hN [0,1,4,5,6,7] (hS (hS (hR [0,1,4,5,6,7,18]) (hN [0,1,4,5,6,7] hL hL)) (hN [0,1,4,5,6,7] (hR [0,1,4,5,6,7]) hL)) hL) hL) (hS (hR [4]) hL)))))),nils:=[],modes:=[(3,0)],free:=[],cob:=[] }
def Ye (N:Nat):List (Nat×Tw):=[(149,Ec N)]
def Kz (N:Nat):Env:=mkE 36 Tf (Ye N)
def Bng (N:Nat) (F:KF R):=Ao (Kz N) Tryz.f131 Tf.modes [] F
def Tg (N:Nat) (F:KF R):=atF (Kz N) [] N Tryz.f131 Tf (Bng N F)
def Gg  (F:KF R):LA→Option R:=(fun m=>F (.pagg m false) [])
def In (a b c d e:Int):St:={ s:=[(0,(.int .i64 a)),(1,(.int .i64 b)),(4,(.optr 300000 0)),(5,(.int .u64 c)),(6,(.int .u64 d)),(7,(.int .u64 e))],h:=[(300000,⟨false,false,false,false,0,[(.bool false),.nsl,.nsl],false⟩)] }
def Ayx (N:Nat) (F:KF R):St→Option R:=Bq (Kz N) [] N (Tg N F [1,1,1,1,0,0] []) N
def Th (N:Nat) (F:KF R) (n:Nat):St→Option R:=A4 (Kz N) [] N (Tg N F [1,1,1,1,0,0] []) n
def Ti (a b c:Int):St:={ s:=[(0,(.int .i64 a)),(1,(.int .i64 b)),(4,(.optr 300000 0)),(5,(.int .u64 c))],h:=[(300000,⟨false,false,false,false,0,[(.bool false),.nsl,.nsl],false⟩)] }
def Ayy (N:Nat) (F:KF R):St→Option R:=Cg (Kz N) [] N (Tg N F [1,1,1] [])
def Ayz (N:Nat) (F:KF R):St→Option R:=Ck (Kz N) [] N (Tg N F [1,1,1] [])
theorem Bc2 (N:Nat)  (F:KF R) (a b c:Int):∀ (n:Nat) (d e:Int),Th N F n (In a b c d e)=(Da N (Gg F) a b c n d e):=by
 intro n
 induction n with
 | zero=>intros;kernel_rfl
 | succ n ih =>
  intro d e
  have e0:=funext fun d=>funext fun e=>(show Th N F n (In a b c d e)=_ from ih d e)
  have hK:Th N F (n+1) (In a b c d e)=(Kg N (Gg F) a b c (fun d e=>Th N F n (In a b c d e)) d e):=by kernel_rfl
  exact hK.trans (by rw [e0];rfl)
theorem Bc3 (N:Nat)  (F:KF R) (a b:Int):∀ (c:Int),Ayz N F (Ti a b c)=(Agd N (Gg F) a b c):=by
 intro c
 have e1:=funext fun d=>funext fun e=>(show Ayx N F (In a b c d e)=_ from (Ap ..).trans (Bc2 N F a b c N d e))
 have hK:Ayz N F (Ti a b c)=(Aat N (Gg F) a b (fun d e=>Ayx N F (In a b c d e)) c):=by kernel_rfl
 exact hK.trans (by rw [e1];rfl)
theorem Age (N:Nat) (a b:Int) (F:KF R):Ab Tryz.prog muts (Ye N) Tf N 131 [(.int .i64 a),(.int .i64 b)] [] F=(Jd N a b (Gg F)):=by
 have e1:=funext fun c=>(show Ayy N F (Ti a b c)=_ from (Aw ..).trans (Bc3 N F a b c))
 have hK:Ab Tryz.prog muts (Ye N) Tf N 131 [(.int .i64 a),(.int .i64 b)] [] F=(Art N (Gg F) (fun c=>Ayy N F (Ti a b c)) a b):=by kernel_rfl
 rw [Avo]
 exact hK.trans (by rw [e1];rfl)
def Pr (N:Nat) (args:List AV) (h:Ak) (k:KF R):Option R :=
 match args,h with
 | [(.int .i64 a),(.int .i64 b)],[]=>(Jd N a b (Gg k))
 | _,_=>none
def Tj (N:Nat):Tw:=⟨Pr N,fun args h k=>by
 unfold Pr;split
 exact twE (Age ..) (Age ..)
 rfl⟩
theorem Agf (N:Nat):Ax Tryz.prog 131 (Tj N):=fun args h res i hh=>by
 change Pr N args h (fun v i=>some (v,i))=_ at hh
 unfold Pr at hh;split at hh
 exact Aa (T:=Ye N) ⟨Fz N,trivial⟩ follows ((Age ..).trans hh)
 cases hh
def Brh (N:Nat) (r0:Nat→LA→Option R)  (b:LA) (c:Nat) (d a:Bool):Option R :=
 (Cm N b c d a (fun f e=>(cond ((decide ((0:Int)≤((e:Nat):Int)))&&((decide (((e:Nat):Int)≤((e:Nat):Int)))&&((decide (((e:Nat):Int)≤(140737488355328:Int)))&&(decide ((((e:Nat):Int)*((4:Nat):Int))≤(140737488355328:Int)))))) (cond ((!a)||(Bm f)) (r0 e (E5 (List.replicate e (.int .u32 0)) 0 (List.take ((min e e)*1) f))) none) none)))
def Bri (N:Nat) (b:LA) (c:Nat) (d a:Bool) (r0:Nat→LA→Option R):Option R:=(Brh N r0 b c d a)
def Acw:=(Ai (@Bri R)).1
theorem Bln:@Acw R=@Bri R:=(Ai _).2
def Brj:Hints:={ H:=(hS (hR [0]) (hS (hR [0]) (hS (hR [0,3]) (hS (hR [3]) (hS (hR [2]) hL))))),nils:=[(2,1)],modes:=[(2,1)],free:=[],cob:=[] }
def Bhh (N:Nat):List (Nat×Tw):=[(171,Nm N)]
def A9a  (F:KF R):Nat→LA→Option R:=(fun i j=>F (.own 300000 0 i) [(300000,⟨false,false,true,false,1,j,false⟩)])
theorem A9b (N:Nat) (b:LA) (c:Nat) (d a:Bool) (F:KF R):Ab Tryz.prog muts (Bhh N) Brj N 173 [(.imm b c 1 d a)] [] F=(Acw N b c d a (A9a F)):=by
 have hK:Ab Tryz.prog muts (Bhh N) Brj N 173 [(.imm b c 1 d a)] [] F=(Brh N (A9a F) b c d a):=by kernel_rfl
 rw [Bln]
 exact hK
def Ajp (N:Nat) (args:List AV) (h:Ak) (k:KF R):Option R :=
 match args,h with
 | [(.imm b c 1 d a)],[]=>(Acw N b c d a (A9a k))
 | _,_=>none
def Agg (N:Nat):Tw:=⟨Ajp N,fun args h k=>by
 unfold Ajp;split
 exact twE (A9b ..) (A9b ..)
 rfl⟩
theorem Arv (N:Nat):Ax Tryz.prog 173 (Agg N):=fun args h res g hh=>by
 change Ajp N args h (fun v g=>some (v,g))=_ at hh
 unfold Ajp at hh;split at hh
 exact Aa (T:=Bhh N) ⟨S7 N,trivial⟩ follows ((A9b ..).trans hh)
 cases hh
def Brk (N:Nat) (r0:Bool→Nat→LA→Option R)  (a:LA) (b:Bool):Option R :=
 (rdB a fun f=>(rdL 1 (List.drop 1 a) fun g i=>(Acw N g i false b (fun c d=>(Ij N f c d (fun j=>(r0 j c d)))))))
def Brl (N:Nat) (a:LA) (b:Bool) (r0:Bool→Nat→LA→Option R):Option R:=(Brk N r0 a b)
def Bc4:=(Ai (@Brl R)).1
theorem Blo:@Bc4 R=@Brl R:=(Ai _).2
def Brm:Hints:={ H:=(hS (hR [1,2]) (hS (hR [2]) hL)),nils:=[],modes:=[],free:=[],cob:=[] }
def Bhi (N:Nat):List (Nat×Tw):=[(173,Agg N),(148,Sz N)]
def A9c  (F:KF R):Bool→Nat→LA→Option R:=(fun l m n=>F (.agg [(.bool l),(.own 300000 0 m)]) [(300000,⟨false,false,true,false,1,n,false⟩)])
theorem A9d (N:Nat) (a:LA) (b:Bool) (F:KF R):Ab Tryz.prog muts (Bhi N) Brm N 172 [(.pagg a b)] [] F=(Bc4 N a b (A9c F)):=by
 have hK:Ab Tryz.prog muts (Bhi N) Brm N 172 [(.pagg a b)] [] F=(Brk N (A9c F) a b):=by kernel_rfl
 rw [Blo]
 exact hK
def Ajq (N:Nat) (args:List AV) (h:Ak) (k:KF R):Option R :=
 match args,h with
 | [(.pagg a b)],[]=>(Bc4 N a b (A9c k))
 | _,_=>none
def Brn (N:Nat):Tw:=⟨Ajq N,fun args h k=>by
 unfold Ajq;split
 exact twE (A9d ..) (A9d ..)
 rfl⟩
theorem B5e (N:Nat):Ax Tryz.prog 172 (Brn N):=fun args h res e hh=>by
 change Ajq N args h (fun v e=>some (v,e))=_ at hh
 unfold Ajq at hh;split at hh
 exact Aa (T:=Bhi N) ⟨Arv N,Aci N,trivial⟩ follows ((A9d ..).trans hh)
 cases hh
def H1 (N:Nat)  (r0:Int→Option R)    (a b:Int):Option R :=
 (cond (decide (a≥(256:Int))) (cond (Aj (IntKind.wrap .u8 (Int.fdiv a (2 ^ 8))) 256) (r0 (IntKind.wrap .i64 ((IntKind.wrap .i64 (b+(8:Int)))+(IntKind.wrap .i64 ((UInt8.toNat (List.getD ([0,1,2,2,3,3,3,3,4,4,4,4,4,4,4,4,5,5,5,5,5,5,5,5,5,5,5,5,5,5,5,5,6,6,6,6,6,6,6,6,6,6,6,6,6,6,6,6,6,6,6,6,6,6,6,6,6,6,6,6,6,6,6,6,7,7,7,7,7,7,7,7,7,7,7,7,7,7,7,7,7,7,7,7,7,7,7,7,7,7,7,7,7,7,7,7,7,7,7,7,7,7,7,7,7,7,7,7,7,7,7,7,7,7,7,7,7,7,7,7,7,7,7,7,7,7,7,7,8,8,8,8,8,8,8,8,8,8,8,8,8,8,8,8,8,8,8,8,8,8,8,8,8,8,8,8,8,8,8,8,8,8,8,8,8,8,8,8,8,8,8,8,8,8,8,8,8,8,8,8,8,8,8,8,8,8,8,8,8,8,8,8,8,8,8,8,8,8,8,8,8,8,8,8,8,8,8,8,8,8,8,8,8,8,8,8,8,8,8,8,8,8,8,8,8,8,8,8,8,8,8,8,8,8,8,8,8,8,8,8,8,8,8,8,8,8,8,8,8,8,8,8,8,8,8,8]:List UInt8) (Int.toNat (IntKind.wrap .u8 (Int.fdiv a (2 ^ 8)))) 0):Nat):Int))))) none) (cond (Aj (IntKind.wrap .u8 a) 256) (r0 (IntKind.wrap .i64 (b+(IntKind.wrap .i64 ((UInt8.toNat (List.getD ([0,1,2,2,3,3,3,3,4,4,4,4,4,4,4,4,5,5,5,5,5,5,5,5,5,5,5,5,5,5,5,5,6,6,6,6,6,6,6,6,6,6,6,6,6,6,6,6,6,6,6,6,6,6,6,6,6,6,6,6,6,6,6,6,7,7,7,7,7,7,7,7,7,7,7,7,7,7,7,7,7,7,7,7,7,7,7,7,7,7,7,7,7,7,7,7,7,7,7,7,7,7,7,7,7,7,7,7,7,7,7,7,7,7,7,7,7,7,7,7,7,7,7,7,7,7,7,7,8,8,8,8,8,8,8,8,8,8,8,8,8,8,8,8,8,8,8,8,8,8,8,8,8,8,8,8,8,8,8,8,8,8,8,8,8,8,8,8,8,8,8,8,8,8,8,8,8,8,8,8,8,8,8,8,8,8,8,8,8,8,8,8,8,8,8,8,8,8,8,8,8,8,8,8,8,8,8,8,8,8,8,8,8,8,8,8,8,8,8,8,8,8,8,8,8,8,8,8,8,8,8,8,8,8,8,8,8,8,8,8,8,8,8,8,8,8,8,8,8,8,8,8,8,8,8,8]:List UInt8) (Int.toNat (IntKind.wrap .u8 a)) 0):Nat):Int))))) none))
def Gh (N:Nat)  (r0:Int→Option R)  (a b:Int):Option R:=(H1 N r0 a b)
def Wh (N:Nat) (r0:Int→Option R) (q0:Int→Int→Option R) (c:Int):Option R :=
 (cond (decide (c≥(65536:Int))) (q0 (Int.fdiv c (2 ^ 16)) 16) (q0 c 0))
def Wi (N:Nat) (c:Int) (r0:Int→Option R):Option R:=(Wh N r0 (fun a b=>(Gh N r0 a b)) c)
def Kh:=(Ai (@Wi R)).1
theorem Abr:@Kh R=@Wi R:=(Ai _).2
def Jo:Hints:={ H:=(hS (hR [0,2]) (hJ (hS (hR [0,2,4]) (hN [0,2] (hS (hR [0]) (hR [0,2])) hL)) (hS (hS (hR [0,2,8]) (hN [0,2] (hS (hR [0,2]) (hR [0,2])) hL)) (hS (hR [2]) hL)))),nils:=[],modes:=[],free:=[],cob:=[] }
def Ln (N:Nat):List (Nat×Tw):=[]
def Lo (N:Nat):Env:=mkE 19 Jo (Ln N)
def A4y (N:Nat) (F:KF R):=Ao (Lo N) Tryz.f205 Jo.modes [] F
def Agh (N:Nat) (F:KF R):=atF (Lo N) [] N Tryz.f205 Jo (A4y N F)
def Gi  (F:KF R):Int→Option R:=(fun e=>F (.int .i64 e) [])
def Jp (a b:Int):St:={ s:=[(0,(.int .u32 a)),(2,(.int .i64 b))],h:=[] }
def Agi (N:Nat) (F:KF R):St→Option R:=Cg (Lo N) [] N (Agh N F [1,1] [])
def Agj (N:Nat) (F:KF R):St→Option R:=Ck (Lo N) [] N (Agh N F [1,1] [])
theorem Awt (N:Nat)  (F:KF R) :∀ (a b:Int),Agj N F (Jp a b)=(Gh N (Gi F) a b):=by
 intro a b
 have hK:Agj N F (Jp a b)=(H1 N (Gi F) a b):=by kernel_rfl
 exact hK
theorem Qy (N:Nat) (c:Int) (F:KF R):Ab Tryz.prog muts (Ln N) Jo N 205 [(.int .u32 c)] [] F=(Kh N c (Gi F)):=by
 have e1:=funext fun a=>funext fun b=>(show Agi N F (Jp a b)=_ from (Aw ..).trans (Awt N F a b))
 have hK:Ab Tryz.prog muts (Ln N) Jo N 205 [(.int .u32 c)] [] F=(Wh N (Gi F) (fun a b=>Agi N F (Jp a b)) c):=by kernel_rfl
 rw [Abr]
 exact hK.trans (by rw [e1];rfl)
def H2 (N:Nat) (args:List AV) (h:Ak) (k:KF R):Option R :=
 match args,h with
 | [(.int .u32 c)],[]=>(Kh N c (Gi k))
 | _,_=>none
def Agk (N:Nat):Tw:=⟨H2 N,fun args h k=>by
 unfold H2;split
 exact twE (Qy ..) (Qy ..)
 rfl⟩
theorem A9e (N:Nat):Ax Tryz.prog 205 (Agk N):=fun args h res d hh=>by
 change H2 N args h (fun v d=>some (v,d))=_ at hh
 unfold H2 at hh;split at hh
 exact Aa (T:=Ln N) trivial follows ((Qy ..).trans hh)
 cases hh
def Gw (N:Nat) (r0:Int→Option R)  (a:Int):Option R :=
 (Kh N a (fun c=>(r0 (IntKind.wrap .i64 ((32:Int) - c)))))
def Gy (N:Nat) (a:Int) (r0:Int→Option R):Option R:=(Gw N r0 a)
def Ch:=(Ai (@Gy R)).1
theorem Ki:@Ch R=@Gy R:=(Ai _).2
def Lp:Hints:={ H:=(hS (hR [0]) (hS (hR [2]) hL)),nils:=[],modes:=[],free:=[],cob:=[] }
def Gj (N:Nat):List (Nat×Tw):=[(205,Agk N)]
def Fk  (F:KF R):Int→Option R:=(fun d=>F (.int .i64 d) [])
theorem Fl (N:Nat) (a:Int) (F:KF R):Ab Tryz.prog muts (Gj N) Lp N 200 [(.int .u32 a)] [] F=(Ch N a (Fk F)):=by
 have hK:Ab Tryz.prog muts (Gj N) Lp N 200 [(.int .u32 a)] [] F=(Gw N (Fk F) a):=by kernel_rfl
 rw [Ki]
 exact hK
def Dq (N:Nat) (args:List AV) (h:Ak) (k:KF R):Option R :=
 match args,h with
 | [(.int .u32 a)],[]=>(Ch N a (Fk k))
 | _,_=>none
def Fm (N:Nat):Tw:=⟨Dq N,fun args h k=>by
 unfold Dq;split
 exact twE (Fl ..) (Fl ..)
 rfl⟩
theorem Lq (N:Nat):Ax Tryz.prog 200 (Fm N):=fun args h res b hh=>by
 change Dq N args h (fun v b=>some (v,b))=_ at hh
 unfold Dq at hh;split at hh
 exact Aa (T:=Gj N) ⟨A9e N,trivial⟩ follows ((Fl ..).trans hh)
 cases hh
def Amf (N:Nat) (r0:Int→Option R)  (e:Int) (b:LA) (a:Nat) (c d:Bool):Option R :=
 (cond (decide (e<((a:Nat):Int))) (cond (Aj e a) (rdI .u32 (List.drop ((Int.toNat e)*1) b) fun g=>(r0 (IntKind.wrap .u64 g))) none) (r0 0))
def Amg (N:Nat) (e:Int) (b:LA) (a:Nat) (c d:Bool) (r0:Int→Option R):Option R:=(Amf N r0 e b a c d)
def Jq:=(Ai (@Amg R)).1
theorem Aop:@Jq R=@Amg R:=(Ai _).2
def Avp:Hints:={ H:=(hS (hR [0,1]) (hS (hS (hR [0,1,7]) (hS (hS (hR [3]) hL) hL)) (hS (hR [3]) hL))),nils:=[],modes:=[],free:=[],cob:=[] }
def Agl (N:Nat):List (Nat×Tw):=[]
def Aau (b:LA) (a:Nat) (c d:Bool) (F:KF R):Int→Option R:=(fun i=>F (.int .u64 i) [(100000,⟨false,false,false,false,0,[(.imm b a 1 c d)],false⟩)])
theorem Aav (N:Nat) (e:Int) (b:LA) (a:Nat) (c d:Bool) (F:KF R):Ab Tryz.prog muts (Agl N) Avp N 206 [(.int .i64 e),(.optr 100000 0)] [(100000,⟨false,false,false,false,0,[(.imm b a 1 c d)],false⟩)] F=(Jq N e b a c d (Aau b a c d F)):=by
 have hK:Ab Tryz.prog muts (Agl N) Avp N 206 [(.int .i64 e),(.optr 100000 0)] [(100000,⟨false,false,false,false,0,[(.imm b a 1 c d)],false⟩)] F=(Amf N (Aau b a c d F) e b a c d):=by kernel_rfl
 rw [Aop]
 exact hK
def Nq (N:Nat) (args:List AV) (h:Ak) (k:KF R):Option R :=
 match args,h with
 | [(.int .i64 e),(.optr 100000 0)],[(100000,⟨false,false,false,false,0,[(.imm b a 1 c d)],false⟩)]=>(Jq N e b a c d (Aau b a c d k))
 | _,_=>none
def Avq (N:Nat):Tw:=⟨Nq N,fun args h k=>by
 unfold Nq;split
 exact twE (Aav ..) (Aav ..)
 rfl⟩
theorem Bnh (N:Nat):Ax Tryz.prog 206 (Avq N):=fun args h res f hh=>by
 change Nq N args h (fun v f=>some (v,f))=_ at hh
 unfold Nq at hh;split at hh
 exact Aa (T:=Agl N) trivial follows ((Aav ..).trans hh)
 cases hh
def A9f (N:Nat) (r0:Int→Option R)  (b:LA) (c:Nat) (d e:Bool) (f a:Int):Option R :=
 (Jq N (IntKind.wrap .i64 (f - (1:Int))) b c d e (fun i=>(Jq N (IntKind.wrap .i64 (f - (2:Int))) b c d e (fun j=>(cond (decide (a<(0:Int))) none (Jq N (IntKind.wrap .i64 (f - (3:Int))) b c d e (fun l=>(cond (decide ((IntKind.wrap .i64 ((32:Int) - a))<(0:Int))) none (r0 (Rf .u64 (IntKind.wrap .u64 ((Rf .u64 (IntKind.wrap .u64 (i*2 ^ 32)) j)*2 ^ (min (Int.toNat a) 64))) (Int.fdiv l (2 ^ (min (Int.toNat (IntKind.wrap .i64 ((32:Int) - a))) 64)))))))))))))
def A9g (N:Nat) (b:LA) (c:Nat) (d e:Bool) (f a:Int) (r0:Int→Option R):Option R:=(A9f N r0 b c d e f a)
def Aem:=(Ai (@A9g R)).1
theorem A56:@Aem R=@A9g R:=(Ai _).2
def Bc5:Hints:={ H:=(hS (hR [1,2,3]) (hS (hR [1,2,7]) (hS (hR [6]) hL))),nils:=[],modes:=[],free:=[],cob:=[] }
def Ay0 (N:Nat):List (Nat×Tw):=[(206,Avq N)]
def Arw  (F:KF R):Int→Option R:=(fun m=>F (.int .u64 m) [])
theorem Arx (N:Nat) (b:LA) (c:Nat) (d e:Bool) (f a:Int) (F:KF R):Ab Tryz.prog muts (Ay0 N) Bc5 N 201 [(.imm b c 1 d e),(.int .i64 f),(.int .i64 a)] [] F=(Aem N b c d e f a (Arw F)):=by
 have hK:Ab Tryz.prog muts (Ay0 N) Bc5 N 201 [(.imm b c 1 d e),(.int .i64 f),(.int .i64 a)] [] F=(A9f N (Arw F) b c d e f a):=by kernel_rfl
 rw [A56]
 exact hK
def Yf (N:Nat) (args:List AV) (h:Ak) (k:KF R):Option R :=
 match args,h with
 | [(.imm b c 1 d e),(.int .i64 f),(.int .i64 a)],[]=>(Aem N b c d e f a (Arw k))
 | _,_=>none
def Bc6 (N:Nat):Tw:=⟨Yf N,fun args h k=>by
 unfold Yf;split
 exact twE (Arx ..) (Arx ..)
 rfl⟩
theorem B0e (N:Nat):Ax Tryz.prog 201 (Bc6 N):=fun args h res g hh=>by
 change Yf N args h (fun v g=>some (v,g))=_ at hh
 unfold Yf at hh;split at hh
 exact Aa (T:=Ay0 N) ⟨Bnh N,trivial⟩ follows ((Arx ..).trans hh)
 cases hh
def Agm (N:Nat) (k0:Int→Int→Int→Int→Int→Int→Int→Int→Bool→Option R) (r0:LA→Option R)    (m l o p q r:Int) (t:Bool):Option R :=
 (cond (l==(0:Int)) none (cond (l==(0:Int)) none (k0 l (Int.tmod m l) o p (IntKind.wrap .u64 (o+(IntKind.wrap .u64 ((IntKind.wrap .u64 (Int.tdiv m l))*p)))) q r (IntKind.wrap .u64 (q+(IntKind.wrap .u64 ((IntKind.wrap .u64 (Int.tdiv m l))*r)))) (!t))))
def Yg (N:Nat) (k0:Int→Int→Int→Int→Int→Int→Int→Int→Bool→Option R) (r0:LA→Option R)  (m l o p q r:Int) (t:Bool):Option R:=(Agm N k0 r0 m l o p q r t)
def Io (N:Nat)  (r0:LA→Option R)  (k0:Int→Int→Int→Int→Int→Int→Int→Int→Bool→Option R) (q1:Int→Int→Int→Int→Int→Int→Bool→Option R) (f b g c j i a d:Int) (e:Bool):Option R :=
 (cond ((decide (b≥d))==true) (cond (cond true (decide ((IntKind.wrap .u64 (f - b))≥(IntKind.wrap .u64 (a+d)))) false) (q1 f b c j a d e) (r0 [(.int .u64 g),(.int .u64 c),(.int .u64 i),(.int .u64 a),(.bool e)])) (r0 [(.int .u64 g),(.int .u64 c),(.int .u64 i),(.int .u64 a),(.bool e)]))
def D0 (N:Nat)  (r0:LA→Option R) :Nat→Int→Int→Int→Int→Int→Int→Int→Int→Bool→Option R
 | 0,_,_,_,_,_,_,_,_,_=>none
 | n+1,f,b,g,c,j,i,a,d,e=>(Io N r0 (D0 N r0 n) (fun m l o p q r t=>(Yg N (D0 N r0 n) r0 m l o p q r t)) f b g c j i a d e)
def Ay1 (N:Nat) (r0:LA→Option R) (q0:Int→Int→Int→Int→Int→Int→Int→Int→Bool→Option R) (w:LA) (u:Nat) (ab x:Bool) (y:LA) (z:Nat) (ac aa:Bool):Option R :=
 (cond (Aj (IntKind.wrap .i64 (((u:Nat):Int) - (1:Int))) u) (rdI .u32 (List.drop ((Int.toNat (IntKind.wrap .i64 (((u:Nat):Int) - (1:Int))))*1) w) fun af=>(Ch N af (fun ad=>(Aem N w u false x ((u:Nat):Int) ad (fun ag=>(Aem N y z false aa ((u:Nat):Int) ad (fun ah=>(q0 ag ah 0 1 0 0 0 1 false)))))))) none)
def Ay2 (N:Nat) (w:LA) (u:Nat) (ab x:Bool) (y:LA) (z:Nat) (ac aa:Bool) (r0:LA→Option R):Option R:=(Ay1 N r0 (fun f b g c j i a d e=>(D0 N r0 N f b g c j i a d e)) w u ab x y z ac aa)
def Agn:=(Ai (@Ay2 R)).1
theorem Ay3:@Agn R=@Ay2 R:=(Ai _).2
def Yh:Hints:={ H:=(hS (hR [0,1,4]) (hS (hR [0,1,4,5]) (hS (hR [0,1,4,5,6]) (hS (hR [4,7,8]) (hS (hR [4,7,8,9,10,11]) (hS (hR [4,7,8,9,10,11,12,13,14]) (hS (hR [4,7,8,9,10,11,12,13,14,15]) (hS (hN [4,9,10,12,13,15] (hN [4,7,8,9,10,11,12,13,14,15] (hJ (hS (hR [4,7,8,9,10,11,12,13,14,15,44]) (hN [4,7,8,10,11,13,14,15] hL hL)) (hN [4,7,8,9,10,11,12,13,14,15] (hS (hR [4,7,8,10,11,13,14,15,16]) (hS (hR [4,7,8,10,11,13,14,15,16]) (hS (hR [4,7,8,9,10,11,13,14,15,16]) (hS (hR [4,7,8,9,10,11,12,13,14,15]) (hR [4,7,8,9,10,11,12,13,14,15]))))) hL)) hL) hL) (hS (hR [4]) hL))))))))),nils:=[],modes:=[(3,0)],free:=[],cob:=[] }
def Acx (N:Nat):List (Nat×Tw):=[(200,Fm N),(201,Bc6 N)]
def Nr (N:Nat):Env:=mkE 74 Yh (Acx N)
def Bro (N:Nat) (F:KF R):=Ao (Nr N) Tryz.f195 Yh.modes [] F
def Yi (N:Nat) (F:KF R):=atF (Nr N) [] N Tryz.f195 Yh (Bro N F)
def Em  (F:KF R):LA→Option R:=(fun ai=>F (.pagg ai false) [])
def Yj (m l o p q r:Int) (t:Bool):St:={ s:=[(4,(.optr 300000 0)),(7,(.int .u64 m)),(8,(.int .u64 l)),(10,(.int .u64 o)),(11,(.int .u64 p)),(13,(.int .u64 q)),(14,(.int .u64 r)),(15,(.bool t))],h:=[(300000,⟨false,false,true,false,0,[(.int .u64 0),(.int .u64 0),(.int .u64 0),(.int .u64 0),(.bool false)],false⟩)] }
def A57 (N:Nat) (F:KF R) (Q0:St→Option R):St→Option R:=Cg (Nr N) [] N (Yi N F [1,1,1,1,1,1,1,0,0,0,1] [Q0])
def A58 (N:Nat) (F:KF R) (Q0:St→Option R):St→Option R:=Ck (Nr N) [] N (Yi N F [1,1,1,1,1,1,1,0,0,0,1] [Q0])
def Fs (f b g c j i a d:Int) (e:Bool):St:={ s:=[(4,(.optr 300000 0)),(7,(.int .u64 f)),(8,(.int .u64 b)),(9,(.int .u64 g)),(10,(.int .u64 c)),(11,(.int .u64 j)),(12,(.int .u64 i)),(13,(.int .u64 a)),(14,(.int .u64 d)),(15,(.bool e))],h:=[(300000,⟨false,false,true,false,0,[(.int .u64 0),(.int .u64 0),(.int .u64 0),(.int .u64 0),(.bool false)],false⟩)] }
def A59 (N:Nat) (F:KF R):St→Option R:=Bq (Nr N) [] N (Yi N F [1,1,1,1,1,1,1,0,0] []) N
def Hs (N:Nat) (F:KF R) (n:Nat):St→Option R:=A4 (Nr N) [] N (Yi N F [1,1,1,1,1,1,1,0,0] []) n
theorem Bhj (N:Nat) (Q0:St→Option R) (F:KF R) :∀ (m l o p q r:Int) (t:Bool),A58 N F Q0 (Yj m l o p q r t)=(Yg N (fun f b g c j i a d e=>Q0 (Fs f b g c j i a d e)) (Em F) m l o p q r t):=by
 intro m l o p q r t
 have hK:A58 N F Q0 (Yj m l o p q r t)=(Agm N (fun f b g c j i a d e=>Q0 (Fs f b g c j i a d e)) (Em F) m l o p q r t):=by kernel_rfl
 exact hK
theorem Bhk (N:Nat)  (F:KF R) :∀ (n:Nat) (f b g c j i a d:Int) (e:Bool),Hs N F n (Fs f b g c j i a d e)=(D0 N (Em F) n f b g c j i a d e):=by
 intro n
 induction n with
 | zero=>intros;kernel_rfl
 | succ n ih =>
  intro f b g c j i a d e
  have e0:=funext fun f=>funext fun b=>funext fun g=>funext fun c=>funext fun j=>funext fun i=>funext fun a=>funext fun d=>funext fun e=>(show Hs N F n (Fs f b g c j i a d e)=_ from ih f b g c j i a d e)
  have e1:(fun m l o p q r t=>A57 N F (Hs N F n) (Yj m l o p q r t))=(fun m l o p q r t=>(Yg N (D0 N (Em F) n) (Em F) m l o p q r t)):=by funext m;funext l;funext o;funext p;funext q;funext r;funext t;exact ((Aw ..).trans (Bhj N (Hs N F n) F m l o p q r t)).trans (by rw [e0])
  have hK:Hs N F (n+1) (Fs f b g c j i a d e)=(Io N (Em F) (fun f b g c j i a d e=>Hs N F n (Fs f b g c j i a d e)) (fun m l o p q r t=>A57 N F (Hs N F n) (Yj m l o p q r t)) f b g c j i a d e):=by kernel_rfl
  exact hK.trans (by rw [e0,e1];rfl)
theorem Amh (N:Nat) (w:LA) (u:Nat) (ab x:Bool) (y:LA) (z:Nat) (ac aa:Bool) (F:KF R):Ab Tryz.prog muts (Acx N) Yh N 195 [(.imm w u 1 ab x),(.imm y z 1 ac aa)] [] F=(Agn N w u ab x y z ac aa (Em F)):=by
 have e1:=funext fun f=>funext fun b=>funext fun g=>funext fun c=>funext fun j=>funext fun i=>funext fun a=>funext fun d=>funext fun e=>(show A59 N F (Fs f b g c j i a d e)=_ from (Ap ..).trans (Bhk N F N f b g c j i a d e))
 have hK:Ab Tryz.prog muts (Acx N) Yh N 195 [(.imm w u 1 ab x),(.imm y z 1 ac aa)] [] F=(Ay1 N (Em F) (fun f b g c j i a d e=>A59 N F (Fs f b g c j i a d e)) w u ab x y z ac aa):=by kernel_rfl
 rw [Ay3]
 exact hK.trans (by rw [e1];rfl)
def Tk (N:Nat) (args:List AV) (h:Ak) (k:KF R):Option R :=
 match args,h with
 | [(.imm w u 1 ab x),(.imm y z 1 ac aa)],[]=>(Agn N w u ab x y z ac aa (Em k))
 | _,_=>none
def A6a (N:Nat):Tw:=⟨Tk N,fun args h k=>by
 unfold Tk;split
 exact twE (Amh ..) (Amh ..)
 rfl⟩
theorem Bvy (N:Nat):Ax Tryz.prog 195 (A6a N):=fun args h res ae hh=>by
 change Tk N args h (fun v ae=>some (v,ae))=_ at hh
 unfold Tk at hh;split at hh
 exact Aa (T:=Acx N) ⟨Lq N,B0e N,trivial⟩ follows ((Amh ..).trans hh)
 cases hh
def H3 (N:Nat)  (r0:Nat→Nat→LA→LA→Option R) (d:LA) (a:Nat) (e f:Bool) (b:Int) (k0:Int→Int→LA→Option R)  (i c:Int) (g:LA):Option R :=
 (cond (decide (c≥(0:Int))) (cond (Aj c a) (rdI .u32 (List.drop ((Int.toNat c)*1) d) fun j=>(cond ((IntKind.wrap .u64 b)==(0:Int)) none (cond (Aj c a) (cond ((Nat.beq 1 1)&&((Nat.ble ((0+((Int.toNat c)*1))+1) (List.length g))&&(!false))) (cond ((IntKind.wrap .u64 b)==(0:Int)) none (k0 (Int.tmod (Rf .u64 (IntKind.wrap .u64 (i*2 ^ 32)) (IntKind.wrap .u64 j)) (IntKind.wrap .u64 b)) (IntKind.wrap .i64 (c - (1:Int))) (List.set g (0+((Int.toNat c)*1)) (.int .u32 (IntKind.wrap .u32 (IntKind.wrap .u64 (Int.tdiv (Rf .u64 (IntKind.wrap .u64 (i*2 ^ 32)) (IntKind.wrap .u64 j)) (IntKind.wrap .u64 b)))))))) none) none))) none) (Aaq N a g (fun m=>(Cb N i (fun o p=>(r0 m o g p))))))
def Ed (N:Nat)  (r0:Nat→Nat→LA→LA→Option R) (d:LA) (a:Nat) (e f:Bool) (b:Int):Nat→Int→Int→LA→Option R
 | 0,_,_,_=>none
 | n+1,i,c,g=>(H3 N r0 d a e f b (Ed N r0 d a e f b n) i c g)
def Wj (N:Nat) (r0:Nat→Nat→LA→LA→Option R) (q0:Int→Int→LA→Option R) (d:LA) (a:Nat) (e f:Bool) (b:Int):Option R :=
 (cond ((decide ((0:Int)≤((a:Nat):Int)))&&((decide (((a:Nat):Int)≤((a:Nat):Int)))&&((decide (((a:Nat):Int)≤(140737488355328:Int)))&&(decide ((((a:Nat):Int)*((4:Nat):Int))≤(140737488355328:Int)))))) (q0 0 (IntKind.wrap .i64 (((a:Nat):Int) - (1:Int))) (List.replicate a (.int .u32 0))) none)
def Wk (N:Nat) (d:LA) (a:Nat) (e f:Bool) (b:Int) (r0:Nat→Nat→LA→LA→Option R):Option R:=(Wj N r0 (fun i c g=>(Ed N r0 d a e f b N i c g)) d a e f b)
def G2:=(Ai (@Wk R)).1
theorem Abs:@G2 R=@Wk R:=(Ai _).2
def Jr:Hints:={ H:=(hS (hR [0,1]) (hS (hR [0,1,4]) (hS (hR [0,1,4,6]) (hS (hS (hR [0,1,4,6,7]) (hN [4,6] (hN [0,1,4,6,7] (hS (hS (hR [0,1,4,6,7,15]) (hN [0,1,4,6,7] hL hL)) (hS (hN [0,1,4,6,7] (hS (hR [0,1,4,6,7]) (hS (hR [0,1,4,6,7]) (hR [0,1,4,6,7]))) hL) (hR [0,1,4,6,7]))) hL) hL)) (hS (hR [4,5]) hL))))),nils:=[(4,1),(5,1)],modes:=[(2,1),(2,1)],free:=[],cob:=[] }
def Lr (N:Nat):List (Nat×Tw):=[(171,A29 N),(149,Ec N)]
def Ls (N:Nat):Env:=mkE 42 Jr (Lr N)
def A4z (N:Nat) (F:KF R):=Ao (Ls N) Tryz.f197 Jr.modes [] F
def Ago (N:Nat) (F:KF R):=atF (Ls N) [] N Tryz.f197 Jr (A4z N F)
def Gk  (F:KF R):Nat→Nat→LA→LA→Option R:=(fun q r t u=>F (.tup [(.own 300000 0 q),(.own 300001 0 r)]) [(300000,⟨false,false,true,false,1,t,false⟩),(300001,⟨false,false,true,false,1,u,false⟩)])
def Ee (d:LA) (a:Nat) (e f:Bool) (b i c:Int) (g:LA):St:={ s:=[(0,(.imm d a 1 e f)),(1,(.int .u32 b)),(4,(.own 300000 0 a)),(6,(.int .u64 i)),(7,(.int .i64 c))],h:=[(300000,⟨false,false,true,false,1,g,false⟩)] }
def Agp (N:Nat) (F:KF R):St→Option R:=Bq (Ls N) [] N (Ago N F [1,1,1,0,1,0] []) N
def Js (N:Nat) (F:KF R) (n:Nat):St→Option R:=A4 (Ls N) [] N (Ago N F [1,1,1,0,1,0] []) n
theorem Awu (N:Nat)  (F:KF R) (d:LA) (a:Nat) (e f:Bool) (b:Int):∀ (n:Nat) (i c:Int) (g:LA),Js N F n (Ee d a e f b i c g)=(Ed N (Gk F) d a e f b n i c g):=by
 intro n
 induction n with
 | zero=>intros;kernel_rfl
 | succ n ih =>
  intro i c g
  have e0:=funext fun i=>funext fun c=>funext fun g=>(show Js N F n (Ee d a e f b i c g)=_ from ih i c g)
  have hK:Js N F (n+1) (Ee d a e f b i c g)=(H3 N (Gk F) d a e f b (fun i c g=>Js N F n (Ee d a e f b i c g)) i c g):=by kernel_rfl
  exact hK.trans (by rw [e0];rfl)
theorem Qz (N:Nat) (d:LA) (a:Nat) (e f:Bool) (b:Int) (F:KF R):Ab Tryz.prog muts (Lr N) Jr N 197 [(.imm d a 1 e f),(.int .u32 b)] [] F=(G2 N d a e f b (Gk F)):=by
 have e1:=funext fun i=>funext fun c=>funext fun g=>(show Agp N F (Ee d a e f b i c g)=_ from (Ap ..).trans (Awu N F d a e f b N i c g))
 have hK:Ab Tryz.prog muts (Lr N) Jr N 197 [(.imm d a 1 e f),(.int .u32 b)] [] F=(Wj N (Gk F) (fun i c g=>Agp N F (Ee d a e f b i c g)) d a e f b):=by kernel_rfl
 rw [Abs]
 exact hK.trans (by rw [e1];rfl)
def H4 (N:Nat) (args:List AV) (h:Ak) (k:KF R):Option R :=
 match args,h with
 | [(.imm d a 1 e f),(.int .u32 b)],[]=>(G2 N d a e f b (Gk k))
 | _,_=>none
def Agq (N:Nat):Tw:=⟨H4 N,fun args h k=>by
 unfold H4;split
 exact twE (Qz ..) (Qz ..)
 rfl⟩
theorem A9h (N:Nat):Ax Tryz.prog 197 (Agq N):=fun args h res l hh=>by
 change H4 N args h (fun v l=>some (v,l))=_ at hh
 unfold H4 at hh;split at hh
 exact Aa (T:=Lr N) ⟨Bg6 N,Fz N,trivial⟩ follows ((Qz ..).trans hh)
 cases hh
def Tl (N:Nat)  (r0:Nat→LA→Option R) (d:LA) (a:Nat) (e f:Bool) (b:Int) (k0:Nat→Int→Int→Int→LA→Option R)  (g:Nat) (j l c:Int) (i:LA):Option R :=
 (cond (decide (c<l)) (cond (Aj c a) (rdI .u32 (List.drop ((Int.toNat c)*1) d) fun m=>(cond (decide (b<(0:Int))) none (cond (Aj c g) (cond ((Nat.beq 1 1)&&((Nat.ble ((0+((Int.toNat c)*1))+1) (List.length i))&&(!false))) (k0 g (Int.fdiv (Rf .u64 j (IntKind.wrap .u64 ((IntKind.wrap .u64 m)*2 ^ (min (Int.toNat b) 64)))) (2 ^ 32)) l (IntKind.wrap .i64 (c+(1:Int))) (List.set i (0+((Int.toNat c)*1)) (.int .u32 (IntKind.wrap .u32 (Rf .u64 j (IntKind.wrap .u64 ((IntKind.wrap .u64 m)*2 ^ (min (Int.toNat b) 64)))))))) none) none))) none) (cond (Aj ((a:Nat):Int) g) (cond ((Nat.beq 1 1)&&((Nat.ble ((0+(a*1))+1) (List.length i))&&(!false))) (r0 g (List.set i (0+(a*1)) (.int .u32 (IntKind.wrap .u32 j)))) none) none))
def K0 (N:Nat)  (r0:Nat→LA→Option R) (d:LA) (a:Nat) (e f:Bool) (b:Int):Nat→Nat→Int→Int→Int→LA→Option R
 | 0,_,_,_,_,_=>none
 | n+1,g,j,l,c,i=>(Tl N r0 d a e f b (K0 N r0 d a e f b n) g j l c i)
def Ay4 (N:Nat) (r0:Nat→LA→Option R) (q0:Nat→Int→Int→Int→LA→Option R) (d:LA) (a:Nat) (e f:Bool) (b:Int):Option R :=
 (cond ((decide ((0:Int)≤(IntKind.wrap .i64 (((a:Nat):Int)+(1:Int)))))&&((decide ((IntKind.wrap .i64 (((a:Nat):Int)+(1:Int)))≤(IntKind.wrap .i64 (((a:Nat):Int)+(1:Int)))))&&((decide ((IntKind.wrap .i64 (((a:Nat):Int)+(1:Int)))≤(140737488355328:Int)))&&(decide (((IntKind.wrap .i64 (((a:Nat):Int)+(1:Int)))*((4:Nat):Int))≤(140737488355328:Int)))))) (q0 (Int.toNat (IntKind.wrap .i64 (((a:Nat):Int)+(1:Int)))) 0 ((a:Nat):Int) 0 (List.replicate (Int.toNat (IntKind.wrap .i64 (((a:Nat):Int)+(1:Int)))) (.int .u32 0))) none)
def Ay5 (N:Nat) (d:LA) (a:Nat) (e f:Bool) (b:Int) (r0:Nat→LA→Option R):Option R:=(Ay4 N r0 (fun g j l c i=>(K0 N r0 d a e f b N g j l c i)) d a e f b)
def Wl:=(Ai (@Ay5 R)).1
theorem Ay6:@Wl R=@Ay5 R:=(Ai _).2
def Yk:Hints:={ H:=(hS (hR [0,1]) (hS (hR [0,1,5]) (hS (hR [0,1,5,6]) (hS (hS (hR [0,1,5,6,13,14,15]) (hN [0,5,6] (hN [0,1,5,6,13,14,15] (hS (hR [0,1,5,6,13,14,15,16]) (hS (hN [0,1,5,6,13,14,15] hL hL) (hS (hN [0,1,5,6,13,14,15] (hS (hR [0,1,5,6,7,8,13,14,15]) (hS (hR [0,1,5,6,7,13,14,15]) (hS (hR [0,1,5,6,13,14,15]) (hR [0,1,5,6,13,14,15])))) hL) (hR [0,1,5,6,13,14,15])))) hL) hL)) (hS (hR [5]) (hS (hR [4]) hL)))))),nils:=[(4,1)],modes:=[(2,1)],free:=[],cob:=[] }
def Acy (N:Nat):List (Nat×Tw):=[]
def Acz (N:Nat):Env:=mkE 41 Yk (Acy N)
def Brp (N:Nat) (F:KF R):=Ao (Acz N) Tryz.f202 Yk.modes [] F
def A6b (N:Nat) (F:KF R):=atF (Acz N) [] N Tryz.f202 Yk (Brp N F)
def O8  (F:KF R):Nat→LA→Option R:=(fun p q=>F (.own 300000 0 p) [(300000,⟨false,false,true,false,1,q,false⟩)])
def K1 (d:LA) (a:Nat) (e f:Bool) (b:Int) (g:Nat) (j l c:Int) (i:LA):St:={ s:=[(0,(.imm d a 1 e f)),(1,(.int .i64 b)),(5,(.own 300000 0 g)),(6,(.int .u64 j)),(13,(.imm d a 1 e f)),(14,(.int .i64 l)),(15,(.int .i64 c))],h:=[(300000,⟨false,false,true,false,1,i,false⟩)] }
def A6c (N:Nat) (F:KF R):St→Option R:=Bq (Acz N) [] N (A6b N F [1,1,1,0,1,0] []) N
def Yl (N:Nat) (F:KF R) (n:Nat):St→Option R:=A4 (Acz N) [] N (A6b N F [1,1,1,0,1,0] []) n
theorem Bhl (N:Nat)  (F:KF R) (d:LA) (a:Nat) (e f:Bool) (b:Int):∀ (n g:Nat) (j l c:Int) (i:LA),Yl N F n (K1 d a e f b g j l c i)=(K0 N (O8 F) d a e f b n g j l c i):=by
 intro n
 induction n with
 | zero=>intros;kernel_rfl
 | succ n ih =>
  intro g j l c i
  have e0:=funext fun g=>funext fun j=>funext fun l=>funext fun c=>funext fun i=>(show Yl N F n (K1 d a e f b g j l c i)=_ from ih g j l c i)
  have hK:Yl N F (n+1) (K1 d a e f b g j l c i)=(Tl N (O8 F) d a e f b (fun g j l c i=>Yl N F n (K1 d a e f b g j l c i)) g j l c i):=by kernel_rfl
  exact hK.trans (by rw [e0];rfl)
theorem Ami (N:Nat) (d:LA) (a:Nat) (e f:Bool) (b:Int) (F:KF R):Ab Tryz.prog muts (Acy N) Yk N 202 [(.imm d a 1 e f),(.int .i64 b)] [] F=(Wl N d a e f b (O8 F)):=by
 have e1:=funext fun g=>funext fun j=>funext fun l=>funext fun c=>funext fun i=>(show A6c N F (K1 d a e f b g j l c i)=_ from (Ap ..).trans (Bhl N F d a e f b N g j l c i))
 have hK:Ab Tryz.prog muts (Acy N) Yk N 202 [(.imm d a 1 e f),(.int .i64 b)] [] F=(Ay4 N (O8 F) (fun g j l c i=>A6c N F (K1 d a e f b g j l c i)) d a e f b):=by kernel_rfl
 rw [Ay6]
 exact hK.trans (by rw [e1];rfl)
def Tm (N:Nat) (args:List AV) (h:Ak) (k:KF R):Option R :=
 match args,h with
 | [(.imm d a 1 e f),(.int .i64 b)],[]=>(Wl N d a e f b (O8 k))
 | _,_=>none
def A6d (N:Nat):Tw:=⟨Tm N,fun args h k=>by
 unfold Tm;split
 exact twE (Ami ..) (Ami ..)
 rfl⟩
theorem Bvz (N:Nat):Ax Tryz.prog 202 (A6d N):=fun args h res o hh=>by
 change Tm N args h (fun v o=>some (v,o))=_ at hh
 unfold Tm at hh;split at hh
 exact Aa (T:=Acy N) trivial follows ((Ami ..).trans hh)
 cases hh
def Ns (N:Nat)  (r0:Int→LA→Option R) (b d:Nat) (c j:Int) (e:LA) (a:Nat) (f g:Bool) (k4:Int→Int→Int→LA→Option R)  (u w o:Int) (r:LA):Option R :=
 (cond (decide (o<w)) (cond (Aj o a) (rdI .u32 (List.drop ((Int.toNat o)*1) e) fun aa=>(cond (Aj o d) (rdI .u32 (List.drop (b+((Int.toNat o)*1)) r) fun ab=>(cond (Aj o d) (cond ((Nat.beq 1 1)&&((Nat.ble ((b+((Int.toNat o)*1))+1) (List.length r))&&(!false))) (k4 (Int.fdiv (IntKind.wrap .u64 (u+(IntKind.wrap .u64 ((IntKind.wrap .u64 ab)+(IntKind.wrap .u64 aa))))) (2 ^ 32)) w (IntKind.wrap .i64 (o+(1:Int))) (List.set r (b+((Int.toNat o)*1)) (.int .u32 (IntKind.wrap .u32 (IntKind.wrap .u64 (u+(IntKind.wrap .u64 ((IntKind.wrap .u64 ab)+(IntKind.wrap .u64 aa))))))))) none) none)) none)) none) (cond (Aj c d) (rdI .u32 (List.drop (b+((Int.toNat c)*1)) r) fun aj=>(cond (Aj c d) (cond ((Nat.beq 1 1)&&((Nat.ble ((b+((Int.toNat c)*1))+1) (List.length r))&&(!false))) (r0 (IntKind.wrap .u32 (IntKind.wrap .u64 (j - (1:Int)))) (List.set r (b+((Int.toNat c)*1)) (.int .u32 (IntKind.wrap .u32 (aj+(IntKind.wrap .u32 u)))))) none) none)) none))
def G3 (N:Nat)  (r0:Int→LA→Option R) (b d:Nat) (c j:Int) (e:LA) (a:Nat) (f g:Bool):Nat→Int→Int→Int→LA→Option R
 | 0,_,_,_,_=>none
 | n+1,u,w,o,r=>(Ns N r0 b d c j e a f g (G3 N r0 b d c j e a f g n) u w o r)
def Ip (N:Nat)  (r0:Int→LA→Option R) (b d:Nat) (e:LA) (a:Nat) (f g:Bool) (c j:Int) (k3:Int→Int→Int→LA→Option R) (q4:Int→Int→Int→LA→Option R) (t x p:Int) (q:LA):Option R :=
 (cond (decide (p<x)) (cond (Aj p a) (rdI .u32 (List.drop ((Int.toNat p)*1) e) fun y=>(cond (Aj p d) (rdI .u32 (List.drop (b+((Int.toNat p)*1)) q) fun ac=>(cond (Aj p d) (cond ((Nat.beq 1 1)&&((Nat.ble ((b+((Int.toNat p)*1))+1) (List.length q))&&(!false))) (k3 (IntKind.wrap .u64 ((Int.fdiv (IntKind.wrap .u64 ((IntKind.wrap .u64 (j*(IntKind.wrap .u64 y)))+t)) (2 ^ 32))+(Int.fdiv (IntKind.wrap .u64 ((IntKind.wrap .u64 ac) - (IntKind.wrap .u64 (IntKind.wrap .u32 (IntKind.wrap .u64 ((IntKind.wrap .u64 (j*(IntKind.wrap .u64 y)))+t)))))) (2 ^ 63)))) x (IntKind.wrap .i64 (p+(1:Int))) (List.set q (b+((Int.toNat p)*1)) (.int .u32 (IntKind.wrap .u32 (IntKind.wrap .u64 ((IntKind.wrap .u64 ac) - (IntKind.wrap .u64 (IntKind.wrap .u32 (IntKind.wrap .u64 ((IntKind.wrap .u64 (j*(IntKind.wrap .u64 y)))+t)))))))))) none) none)) none)) none) (cond (Aj c d) (rdI .u32 (List.drop (b+((Int.toNat c)*1)) q) fun z=>(cond (Aj c d) (cond ((Nat.beq 1 1)&&((Nat.ble ((b+((Int.toNat c)*1))+1) (List.length q))&&(!false))) (cond ((Int.fdiv (IntKind.wrap .u64 ((IntKind.wrap .u64 z) - t)) (2 ^ 63))==(0:Int)) (r0 (IntKind.wrap .u32 j) (List.set q (b+((Int.toNat c)*1)) (.int .u32 (IntKind.wrap .u32 (IntKind.wrap .u64 ((IntKind.wrap .u64 z) - t)))))) (q4 0 ((a:Nat):Int) 0 (List.set q (b+((Int.toNat c)*1)) (.int .u32 (IntKind.wrap .u32 (IntKind.wrap .u64 ((IntKind.wrap .u64 z) - t))))))) none) none)) none))
def E7 (N:Nat)  (r0:Int→LA→Option R) (b d:Nat) (e:LA) (a:Nat) (f g:Bool) (c j:Int):Nat→Int→Int→Int→LA→Option R
 | 0,_,_,_,_=>none
 | n+1,t,x,p,q=>(Ip N r0 b d e a f g c j (E7 N r0 b d e a f g c j n) (fun u w o r=>(G3 N r0 b d c j e a f g N u w o r)) t x p q)
def Wm (N:Nat)  (r0:Int→LA→Option R) (b d:Nat) (e:LA) (a:Nat) (f g:Bool) (c:Int) (i:LA)  (q3:Int→Int→Int→LA→Option R) (j:Int):Option R :=
 (q3 0 ((a:Nat):Int) 0 i)
def D8 (N:Nat)  (r0:Int→LA→Option R) (b d:Nat) (e:LA) (a:Nat) (f g:Bool) (c:Int) (i:LA) (j:Int):Option R:=(Wm N r0 b d e a f g c i (fun t x p q=>(E7 N r0 b d e a f g c j N t x p q)) j)
def Wn (N:Nat) (k0:Int→Int→Int→Option R) (r0:Int→LA→Option R) (b d:Nat) (e:LA) (a:Nat) (f g:Bool) (c l m:Int) (i:LA)  (q2:Int→Option R) :Option R :=
 (cond (Aj (IntKind.wrap .i64 (c - (1:Int))) a) (rdI .u32 (List.drop ((Int.toNat (IntKind.wrap .i64 (c - (1:Int))))*1) e) fun ad=>(cond ((Int.fdiv (IntKind.wrap .u64 (m+(IntKind.wrap .u64 ad))) (2 ^ 32)) != (0:Int)) (q2 (IntKind.wrap .u64 (l - (1:Int)))) (k0 c (IntKind.wrap .u64 (l - (1:Int))) (IntKind.wrap .u64 (m+(IntKind.wrap .u64 ad)))))) none)
def Kj (N:Nat) (k0:Int→Int→Int→Option R) (r0:Int→LA→Option R) (b d:Nat) (e:LA) (a:Nat) (f g:Bool) (c l m:Int) (i:LA) :Option R:=(Wn N k0 r0 b d e a f g c l m i (fun j=>(D8 N r0 b d e a f g c i j)))
def Wo (N:Nat)  (r0:Int→LA→Option R) (b d:Nat) (e:LA) (a:Nat) (f g:Bool) (i:LA) (k0:Int→Int→Int→Option R) (q1:Option R) (q2:Int→Option R) (c l m:Int):Option R :=
 (cond (((Int.fdiv l (2 ^ 32)) != (0:Int))==false) (cond (Aj (IntKind.wrap .i64 (c - (2:Int))) a) (rdI .u32 (List.drop ((Int.toNat (IntKind.wrap .i64 (c - (2:Int))))*1) e) fun ak=>(cond (Aj (IntKind.wrap .i64 (c - (2:Int))) d) (rdI .u32 (List.drop (b+((Int.toNat (IntKind.wrap .i64 (c - (2:Int))))*1)) i) fun al=>(cond (cond false true (decide ((IntKind.wrap .u64 (l*(IntKind.wrap .u64 ak)))>(Rf .u64 (IntKind.wrap .u64 (m*2 ^ 32)) (IntKind.wrap .u64 al))))) q1 (q2 l))) none)) none) q1)
def D9 (N:Nat)  (r0:Int→LA→Option R) (b d:Nat) (e:LA) (a:Nat) (f g:Bool) (i:LA):Nat→Int→Int→Int→Option R
 | 0,_,_,_=>none
 | n+1,c,l,m=>(Wo N r0 b d e a f g i (D9 N r0 b d e a f g i n) (Kj N (D9 N r0 b d e a f g i n) r0 b d e a f g c l m i) (fun j=>(D8 N r0 b d e a f g c i j)) c l m)
def Amj (N:Nat) (r0:Int→LA→Option R) (q0:Int→Int→Int→Option R) (b d:Nat) (e:LA) (a:Nat) (f g:Bool) (i:LA):Option R :=
 (cond (Aj ((a:Nat):Int) d) (rdI .u32 (List.drop (b+(a*1)) i) fun ae=>(cond (Aj (IntKind.wrap .i64 (((a:Nat):Int) - (1:Int))) d) (rdI .u32 (List.drop (b+((Int.toNat (IntKind.wrap .i64 (((a:Nat):Int) - (1:Int))))*1)) i) fun af=>(cond (Aj (IntKind.wrap .i64 (((a:Nat):Int) - (1:Int))) a) (rdI .u32 (List.drop ((Int.toNat (IntKind.wrap .i64 (((a:Nat):Int) - (1:Int))))*1) e) fun ag=>(cond ((IntKind.wrap .u64 ag)==(0:Int)) none (cond (Aj (IntKind.wrap .i64 (((a:Nat):Int) - (1:Int))) a) (rdI .u32 (List.drop ((Int.toNat (IntKind.wrap .i64 (((a:Nat):Int) - (1:Int))))*1) e) fun ah=>(cond ((IntKind.wrap .u64 ah)==(0:Int)) none (q0 ((a:Nat):Int) (IntKind.wrap .u64 (Int.tdiv (Rf .u64 (IntKind.wrap .u64 ((IntKind.wrap .u64 ae)*2 ^ 32)) (IntKind.wrap .u64 af)) (IntKind.wrap .u64 ag))) (Int.tmod (Rf .u64 (IntKind.wrap .u64 ((IntKind.wrap .u64 ae)*2 ^ 32)) (IntKind.wrap .u64 af)) (IntKind.wrap .u64 ah))))) none))) none)) none)) none)
def Amk (N b d:Nat) (e:LA) (a:Nat) (f g:Bool) (i:LA) (r0:Int→LA→Option R):Option R:=(Amj N r0 (fun c l m=>(D9 N r0 b d e a f g i N c l m)) b d e a f g i)
def Nt:=(Ai (@Amk R)).1
theorem Aoq:@Nt R=@Amk R:=(Ai _).2
def Ps:Hints:={ H:=(hS (hR [0,1]) (hS (hR [0,1,5]) (hS (hR [0,1,5,6]) (hS (hR [0,1,5,7,8]) (hJ (hN [0,1,5,7] (hN [0,1,5,7,8] (hJ (hS (hR [0,1,5,7,8,70]) (hN [0,1,5,7,8] hL hL)) (hN [0,1,5,7,8] (hS (hR [0,1,5,7,8]) (hS (hR [0,1,5,7,8]) (hS (hR [0,1,5,7,8,83]) (hN [0,1,5,7,8] hL hL)))) hL)) hL) hL) (hS (hR [0,1,5,7,9]) (hS (hS (hR [0,1,5,7,9,84,85,86]) (hN [0,1,5,7,9] (hN [0,1,5,7,9,84,85,86] (hS (hR [0,1,5,7,9,84,85,86,87]) (hS (hN [0,1,5,7,9,84,85,86] hL hL) (hS (hN [0,1,5,7,9,84,85,86] (hS (hR [0,1,5,7,9,10,11,84,85,86]) (hS (hR [0,1,5,7,10,12,84,85,86]) (hS (hR [0,1,5,7,10,12,13,84,85,86]) (hS (hR [0,1,5,7,12,13,84,85,86]) (hR [0,1,5,7,9,84,85,86]))))) hL) (hR [0,1,5,7,9,84,85,86])))) hL) hL)) (hS (hR [0,1,5,7,14]) (hS (hR [0,1,5,7,14]) (hS (hS (hR [0,1,5,7,131]) (hN [0,1,5,7] (hS (hR [4]) hL) hL)) (hS (hR [0,1,5,7,9]) (hS (hS (hR [0,5,7,9,134,135,136]) (hN [0,5,7,9] (hN [0,5,7,9,134,135,136] (hS (hR [0,5,7,9,134,135,136,137]) (hS (hN [0,5,7,9,134,135,136] hL hL) (hS (hN [0,5,7,9,134,135,136] (hS (hR [0,5,7,9,15,16,134,135,136]) (hS (hR [0,5,7,9,15,134,135,136]) (hS (hR [0,5,7,9,134,135,136]) (hR [0,5,7,9,134,135,136])))) hL) (hR [0,5,7,9,134,135,136])))) hL) hL)) (hS (hR [7]) (hS (hR [4]) hL)))))))))))))),nils:=[],modes:=[],free:=[],cob:=[] }
def Tn (N:Nat):List (Nat×Tw):=[]
def Cp (N:Nat):Env:=mkE 170 Ps (Tn N)
def Bhm (N:Nat) (F:KF R):=Ao (Cp N) Tryz.f203 Ps.modes [100000] F
def De (N:Nat) (F:KF R):=atF (Cp N) [100000] N Tryz.f203 Ps (Bhm N F)
def Bp  (F:KF R):Int→LA→Option R:=(fun am an=>F (.int .u32 am) [(100000,⟨false,false,true,false,1,an,false⟩)])
def G4 (b d:Nat) (c j:Int) (e:LA) (a:Nat) (f g:Bool) (u w o:Int) (r:LA):St:={ s:=[(0,(.own 100000 b d)),(5,(.int .i64 c)),(7,(.int .u64 j)),(9,(.int .u64 u)),(134,(.imm e a 1 f g)),(135,(.int .i64 w)),(136,(.int .i64 o))],h:=[(100000,⟨false,false,true,false,1,r,false⟩)] }
def Avr (N:Nat) (F:KF R):St→Option R:=Bq (Cp N) [100000] N (De N F [1,1,1,1,1,1,1,1,1,1,1,0,1,0] []) N
def Pt (N:Nat) (F:KF R) (n:Nat):St→Option R:=A4 (Cp N) [100000] N (De N F [1,1,1,1,1,1,1,1,1,1,1,0,1,0] []) n
def G5 (b d:Nat) (e:LA) (a:Nat) (f g:Bool) (c j t x p:Int) (q:LA):St:={ s:=[(0,(.own 100000 b d)),(1,(.imm e a 1 f g)),(5,(.int .i64 c)),(7,(.int .u64 j)),(9,(.int .u64 t)),(84,(.imm e a 1 f g)),(85,(.int .i64 x)),(86,(.int .i64 p))],h:=[(100000,⟨false,false,true,false,1,q,false⟩)] }
def Avs (N:Nat) (F:KF R):St→Option R:=Bq (Cp N) [100000] N (De N F [1,1,1,1,1,1,0,1,0] []) N
def Pu (N:Nat) (F:KF R) (n:Nat):St→Option R:=A4 (Cp N) [100000] N (De N F [1,1,1,1,1,1,0,1,0] []) n
def G6 (b d:Nat) (e:LA) (a:Nat) (f g:Bool) (c:Int) (i:LA) (j:Int):St:={ s:=[(0,(.own 100000 b d)),(1,(.imm e a 1 f g)),(5,(.int .i64 c)),(7,(.int .u64 j))],h:=[(100000,⟨false,false,true,false,1,i,false⟩)] }
def Pv (N:Nat) (F:KF R):St→Option R:=Cg (Cp N) [100000] N (De N F [1,1,1,1,1] [])
def Avt (N:Nat) (F:KF R):St→Option R:=Ck (Cp N) [100000] N (De N F [1,1,1,1,1] [])
def Pw (b d:Nat) (e:LA) (a:Nat) (f g:Bool) (c l m:Int) (i:LA):St:={ s:=[(0,(.own 100000 b d)),(1,(.imm e a 1 f g)),(5,(.int .i64 c)),(7,(.int .u64 l)),(8,(.int .u64 m))],h:=[(100000,⟨false,false,true,false,1,i,false⟩)] }
def Avu (N:Nat) (F:KF R) (Q0:St→Option R):St→Option R:=Cg (Cp N) [100000] N (De N F [1,1,1,1,0,0,0,1] [Q0])
def Avv (N:Nat) (F:KF R) (Q0:St→Option R):St→Option R:=Ck (Cp N) [100000] N (De N F [1,1,1,1,0,0,0,1] [Q0])
def Ea (b d:Nat) (e:LA) (a:Nat) (f g:Bool) (i:LA) (c l m:Int):St:={ s:=[(0,(.own 100000 b d)),(1,(.imm e a 1 f g)),(5,(.int .i64 c)),(7,(.int .u64 l)),(8,(.int .u64 m))],h:=[(100000,⟨false,false,true,false,1,i,false⟩)] }
def Avw (N:Nat) (F:KF R):St→Option R:=Bq (Cp N) [100000] N (De N F [1,1,1,1,0,0] []) N
def E8 (N:Nat) (F:KF R) (n:Nat):St→Option R:=A4 (Cp N) [100000] N (De N F [1,1,1,1,0,0] []) n
theorem A9i (N:Nat)  (F:KF R) (b d:Nat) (c j:Int) (e:LA) (a:Nat) (f g:Bool):∀ (n:Nat) (u w o:Int) (r:LA),Pt N F n (G4 b d c j e a f g u w o r)=(G3 N (Bp F) b d c j e a f g n u w o r):=by
 intro n
 induction n with
 | zero=>intros;kernel_rfl
 | succ n ih =>
  intro u w o r
  have e0:=funext fun u=>funext fun w=>funext fun o=>funext fun r=>(show Pt N F n (G4 b d c j e a f g u w o r)=_ from ih u w o r)
  have hK:Pt N F (n+1) (G4 b d c j e a f g u w o r)=(Ns N (Bp F) b d c j e a f g (fun u w o r=>Pt N F n (G4 b d c j e a f g u w o r)) u w o r):=by kernel_rfl
  exact hK.trans (by rw [e0];rfl)
theorem A9j (N:Nat)  (F:KF R) (b d:Nat) (e:LA) (a:Nat) (f g:Bool) (c j:Int):∀ (n:Nat) (t x p:Int) (q:LA),Pu N F n (G5 b d e a f g c j t x p q)=(E7 N (Bp F) b d e a f g c j n t x p q):=by
 intro n
 induction n with
 | zero=>intros;kernel_rfl
 | succ n ih =>
  intro t x p q
  have e0:=funext fun t=>funext fun x=>funext fun p=>funext fun q=>(show Pu N F n (G5 b d e a f g c j t x p q)=_ from ih t x p q)
  have e1:=funext fun u=>funext fun w=>funext fun o=>funext fun r=>(show Avr N F (G4 b d c j e a f g u w o r)=_ from (Ap ..).trans (A9i N F b d c j e a f g N u w o r))
  have hK:Pu N F (n+1) (G5 b d e a f g c j t x p q)=(Ip N (Bp F) b d e a f g c j (fun t x p q=>Pu N F n (G5 b d e a f g c j t x p q)) (fun u w o r=>Avr N F (G4 b d c j e a f g u w o r)) t x p q):=by kernel_rfl
  exact hK.trans (by rw [e0,e1];rfl)
theorem Agr (N:Nat)  (F:KF R) (b d:Nat) (e:LA) (a:Nat) (f g:Bool) (c:Int) (i:LA):∀ (j:Int),Avt N F (G6 b d e a f g c i j)=(D8 N (Bp F) b d e a f g c i j):=by
 intro j
 have e1:=funext fun t=>funext fun x=>funext fun p=>funext fun q=>(show Avs N F (G5 b d e a f g c j t x p q)=_ from (Ap ..).trans (A9j N F b d e a f g c j N t x p q))
 have hK:Avt N F (G6 b d e a f g c i j)=(Wm N (Bp F) b d e a f g c i (fun t x p q=>Avs N F (G5 b d e a f g c j t x p q)) j):=by kernel_rfl
 exact hK.trans (by rw [e1];rfl)
theorem A9k (N:Nat) (Q0:St→Option R) (F:KF R) (b d:Nat) (e:LA) (a:Nat) (f g:Bool) (c l m:Int) (i:LA):Avv N F Q0 (Pw b d e a f g c l m i)=(Kj N (fun c l m=>Q0 (Ea b d e a f g i c l m)) (Bp F) b d e a f g c l m i):=by
 have e1:=funext fun j=>(show Pv N F (G6 b d e a f g c i j)=_ from (Aw ..).trans (Agr N F b d e a f g c i j))
 have hK:Avv N F Q0 (Pw b d e a f g c l m i)=(Wn N (fun c l m=>Q0 (Ea b d e a f g i c l m)) (Bp F) b d e a f g c l m i (fun j=>Pv N F (G6 b d e a f g c i j))):=by kernel_rfl
 exact hK.trans (by rw [e1];rfl)
theorem A9l (N:Nat)  (F:KF R) (b d:Nat) (e:LA) (a:Nat) (f g:Bool) (i:LA):∀ (n:Nat) (c l m:Int),E8 N F n (Ea b d e a f g i c l m)=(D9 N (Bp F) b d e a f g i n c l m):=by
 intro n
 induction n with
 | zero=>intros;kernel_rfl
 | succ n ih =>
  intro c l m
  have e0:=funext fun c=>funext fun l=>funext fun m=>(show E8 N F n (Ea b d e a f g i c l m)=_ from ih c l m)
  have e1:(Avu N F (E8 N F n) (Pw b d e a f g c l m i))=(Kj N (D9 N (Bp F) b d e a f g i n) (Bp F) b d e a f g c l m i):=by exact ((Aw ..).trans (A9k N (E8 N F n) F b d e a f g c l m i)).trans (by rw [e0])
  have e2:=funext fun j=>(show Pv N F (G6 b d e a f g c i j)=_ from (Aw ..).trans (Agr N F b d e a f g c i j))
  have hK:E8 N F (n+1) (Ea b d e a f g i c l m)=(Wo N (Bp F) b d e a f g i (fun c l m=>E8 N F n (Ea b d e a f g i c l m)) (Avu N F (E8 N F n) (Pw b d e a f g c l m i)) (fun j=>Pv N F (G6 b d e a f g c i j)) c l m):=by kernel_rfl
  exact hK.trans (by rw [e0,e1,e2];rfl)
theorem Aaw (N b d:Nat) (e:LA) (a:Nat) (f g:Bool) (i:LA) (F:KF R):Ab Tryz.prog muts (Tn N) Ps N 203 [(.own 100000 b d),(.imm e a 1 f g)] [(100000,⟨false,false,true,false,1,i,false⟩)] F=(Nt N b d e a f g i (Bp F)):=by
 have e1:=funext fun c=>funext fun l=>funext fun m=>(show Avw N F (Ea b d e a f g i c l m)=_ from (Ap ..).trans (A9l N F b d e a f g i N c l m))
 have hK:Ab Tryz.prog muts (Tn N) Ps N 203 [(.own 100000 b d),(.imm e a 1 f g)] [(100000,⟨false,false,true,false,1,i,false⟩)] F=(Amj N (Bp F) (fun c l m=>Avw N F (Ea b d e a f g i c l m)) b d e a f g i):=by kernel_rfl
 rw [Aoq]
 exact hK.trans (by rw [e1];rfl)
def Nu (N:Nat) (args:List AV) (h:Ak) (k:KF R):Option R :=
 match args,h with
 | [(.own 100000 b d),(.imm e a 1 f g)],[(100000,⟨false,false,true,false,1,i,false⟩)]=>(Nt N b d e a f g i (Bp k))
 | _,_=>none
def Avx (N:Nat):Tw:=⟨Nu N,fun args h k=>by
 unfold Nu;split
 exact twE (Aaw ..) (Aaw ..)
 rfl⟩
theorem Bni (N:Nat):Ax Tryz.prog 203 (Avx N):=fun args h res ai hh=>by
 change Nu N args h (fun v ai=>some (v,ai))=_ at hh
 unfold Nu at hh;split at hh
 exact Aa (T:=Tn N) trivial follows ((Aaw ..).trans hh)
 cases hh
end
end Gx

namespace Gx
open Go Go.Proofs
set_option maxRecDepth 100000
noncomputable section
variable {R:Type}
def Hf (N:Nat)  (r0:Nat→Bool→LA→Option R) (b:Bool) (k0:LA→Nat→Int→Nat→LA→Nat→Int→Int→LA→Option R)  (i:LA) (g:Nat) (c:Int) (f:Nat) (j:LA) (l:Nat) (m a:Int) (d:LA):Option R :=
 (cond (decide (a<m)) (cond (Aj a l) (rdI .u32 (List.drop ((Int.toNat a)*1) j) fun t=>(cond (decide ((IntKind.wrap .i64 (a+(1:Int)))<((g:Nat):Int))) (cond (Aj (IntKind.wrap .i64 (a+(1:Int))) g) (rdI .u32 (List.drop ((Int.toNat (IntKind.wrap .i64 (a+(1:Int))))*1) i) fun x=>(cond (decide (c<(0:Int))) none (cond (Aj a f) (cond ((Nat.beq 1 1)&&((Nat.ble ((0+((Int.toNat a)*1))+1) (List.length d))&&(!false))) (k0 i g c f j l m (IntKind.wrap .i64 (a+(1:Int))) (List.set d (0+((Int.toNat a)*1)) (.int .u32 (IntKind.wrap .u32 (Int.fdiv (Rf .u64 (IntKind.wrap .u64 t) (IntKind.wrap .u64 ((IntKind.wrap .u64 x)*2 ^ 32))) (2 ^ (min (Int.toNat c) 64))))))) none) none))) none) (cond (decide (c<(0:Int))) none (cond (Aj a f) (cond ((Nat.beq 1 1)&&((Nat.ble ((0+((Int.toNat a)*1))+1) (List.length d))&&(!false))) (k0 i g c f j l m (IntKind.wrap .i64 (a+(1:Int))) (List.set d (0+((Int.toNat a)*1)) (.int .u32 (IntKind.wrap .u32 (Int.fdiv (IntKind.wrap .u64 t) (2 ^ (min (Int.toNat c) 64))))))) none) none)))) none) (Aaq N f d (fun y=>(r0 y true d))))
def Dt (N:Nat)  (r0:Nat→Bool→LA→Option R) (b:Bool):Nat→LA→Nat→Int→Nat→LA→Nat→Int→Int→LA→Option R
 | 0,_,_,_,_,_,_,_,_,_=>none
 | n+1,i,g,c,f,j,l,m,a,d=>(Hf N r0 b (Dt N r0 b n) i g c f j l m a d)
def To (N:Nat) (r0:Nat→Bool→LA→Option R) (q0:LA→Nat→Int→Nat→LA→Nat→Int→Int→LA→Option R) (p:LA) (q:Nat) (r b:Bool) (e:Int):Option R :=
 (cond (decide (e<(0:Int))) (r0 0 false []) (Cm N p q r b (fun u o=>(cond (decide ((IntKind.wrap .i64 (Int.tdiv e (32:Int)))≥((o:Nat):Int))) (r0 0 true []) (cond ((decide ((0:Int)≤(IntKind.wrap .i64 (Int.tdiv e (32:Int)))))&&((decide ((IntKind.wrap .i64 (Int.tdiv e (32:Int)))≤((o:Nat):Int)))&&((decide (((o:Nat):Int)≤((o:Nat):Int)))&&(decide (((o:Nat):Int)≤((o:Nat):Int)))))) (cond ((decide ((0:Int)≤(((o - (Int.toNat (IntKind.wrap .i64 (Int.tdiv e (32:Int))))):Nat):Int)))&&((decide ((((o - (Int.toNat (IntKind.wrap .i64 (Int.tdiv e (32:Int))))):Nat):Int)≤(((o - (Int.toNat (IntKind.wrap .i64 (Int.tdiv e (32:Int))))):Nat):Int)))&&((decide ((((o - (Int.toNat (IntKind.wrap .i64 (Int.tdiv e (32:Int))))):Nat):Int)≤(140737488355328:Int)))&&(decide (((((o - (Int.toNat (IntKind.wrap .i64 (Int.tdiv e (32:Int))))):Nat):Int)*((4:Nat):Int))≤(140737488355328:Int)))))) (q0 (List.take ((o - (Int.toNat (IntKind.wrap .i64 (Int.tdiv e (32:Int)))))*1) (List.drop ((Int.toNat (IntKind.wrap .i64 (Int.tdiv e (32:Int))))*1) u)) (o - (Int.toNat (IntKind.wrap .i64 (Int.tdiv e (32:Int))))) (Int.tmod e (32:Int)) (o - (Int.toNat (IntKind.wrap .i64 (Int.tdiv e (32:Int))))) (List.take ((o - (Int.toNat (IntKind.wrap .i64 (Int.tdiv e (32:Int)))))*1) (List.drop ((Int.toNat (IntKind.wrap .i64 (Int.tdiv e (32:Int))))*1) u)) (o - (Int.toNat (IntKind.wrap .i64 (Int.tdiv e (32:Int))))) (((o - (Int.toNat (IntKind.wrap .i64 (Int.tdiv e (32:Int))))):Nat):Int) 0 (List.replicate (o - (Int.toNat (IntKind.wrap .i64 (Int.tdiv e (32:Int))))) (.int .u32 0))) none) none)))))
def Tp (N:Nat) (p:LA) (q:Nat) (r b:Bool) (e:Int) (r0:Nat→Bool→LA→Option R):Option R:=(To N r0 (fun i g c f j l m a d=>(Dt N r0 b N i g c f j l m a d)) p q r b e)
def O9:=(Ai (@Tp R)).1
theorem Tq:@O9 R=@Tp R:=(Ai _).2
def Nv:Hints:={ H:=(hS (hR [0,1]) (hS (hS (hR [0,1,12]) (hN [0,1] (hS (hR [4,5]) hL) hL)) (hS (hR [0,1]) (hS (hS (hR [0,1,19]) (hN [0,1] (hS (hR [4,5]) hL) hL)) (hS (hR [0,1]) (hS (hR [0,6]) (hS (hR [0,6,7]) (hS (hS (hR [0,6,7,29,30,31]) (hN [7] (hN [0,6,7,29,30,31] (hS (hR [0,6,7,29,30,31,32]) (hS (hN [0,6,7,29,30,31] hL hL) (hS (hN [0,6,7,29,30,31] (hS (hR [0,6,7,8,9,29,30,31]) (hS (hR [0,6,7,8,10,29,30,31]) (hS (hS (hR [0,6,7,8,10,29,30,31,42]) (hN [0,6,7,8,10,29,30,31] (hR [0,6,7,8,10,29,30,31]) hL)) (hR [0,6,7,29,30,31])))) hL) (hR [0,6,7,29,30,31])))) hL) hL)) (hS (hR [4,5]) hL))))))))),nils:=[(4,1)],modes:=[(2,1),(0,0)],free:=[],cob:=[] }
def Px (N:Nat):List (Nat×Tw):=[(171,Ds N)]
def Py (N:Nat):Env:=mkE 62 Nv (Px N)
def Bc7 (N:Nat) (F:KF R):=Ao (Py N) Tryz.f204 Nv.modes [] F
def Aor (N:Nat) (F:KF R):=atF (Py N) [] N Tryz.f204 Nv (Bc7 N F)
def Iq  (F:KF R):Nat→Bool→LA→Option R:=(fun z aa ab=>F (.tup [(.own 300000 0 z),(.bool aa)]) [(300000,⟨false,false,true,false,1,ab,false⟩)])
def F3 (b:Bool) (i:LA) (g:Nat) (c:Int) (f:Nat) (j:LA) (l:Nat) (m a:Int) (d:LA):St:={ s:=[(0,(.imm i g 1 false b)),(6,(.int .i64 c)),(7,(.own 300000 0 f)),(29,(.imm j l 1 false b)),(30,(.int .i64 m)),(31,(.int .i64 a))],h:=[(300000,⟨false,false,true,false,1,d,false⟩)] }
def Aos (N:Nat) (F:KF R):St→Option R:=Bq (Py N) [] N (Aor N F [1,1,1,1,1,1,1,0,1,0] []) N
def Nw (N:Nat) (F:KF R) (n:Nat):St→Option R:=A4 (Py N) [] N (Aor N F [1,1,1,1,1,1,1,0,1,0] []) n
theorem A40 (N:Nat)  (F:KF R) (b:Bool):∀ (n:Nat) (i:LA) (g:Nat) (c:Int) (f:Nat) (j:LA) (l:Nat) (m a:Int) (d:LA),Nw N F n (F3 b i g c f j l m a d)=(Dt N (Iq F) b n i g c f j l m a d):=by
 intro n
 induction n with
 | zero=>intros;kernel_rfl
 | succ n ih =>
  intro i g c f j l m a d
  have e0:=funext fun i=>funext fun g=>funext fun c=>funext fun f=>funext fun j=>funext fun l=>funext fun m=>funext fun a=>funext fun d=>(show Nw N F n (F3 b i g c f j l m a d)=_ from ih i g c f j l m a d)
  have hK:Nw N F (n+1) (F3 b i g c f j l m a d)=(Hf N (Iq F) b (fun i g c f j l m a d=>Nw N F n (F3 b i g c f j l m a d)) i g c f j l m a d):=by kernel_rfl
  exact hK.trans (by rw [e0];rfl)
theorem Wp (N:Nat) (p:LA) (q:Nat) (r b:Bool) (e:Int) (F:KF R):Ab Tryz.prog muts (Px N) Nv N 204 [(.imm p q 1 r b),(.int .i64 e)] [] F=(O9 N p q r b e (Iq F)):=by
 have e1:=funext fun i=>funext fun g=>funext fun c=>funext fun f=>funext fun j=>funext fun l=>funext fun m=>funext fun a=>funext fun d=>(show Aos N F (F3 b i g c f j l m a d)=_ from (Ap ..).trans (A40 N F b N i g c f j l m a d))
 have hK:Ab Tryz.prog muts (Px N) Nv N 204 [(.imm p q 1 r b),(.int .i64 e)] [] F=(To N (Iq F) (fun i g c f j l m a d=>Aos N F (F3 b i g c f j l m a d)) p q r b e):=by kernel_rfl
 rw [Tq]
 exact hK.trans (by rw [e1];rfl)
def Lt (N:Nat) (args:List AV) (h:Ak) (k:KF R):Option R :=
 match args,h with
 | [(.imm p q 1 r b),(.int .i64 e)],[]=>(O9 N p q r b e (Iq k))
 | _,_=>none
def Aot (N:Nat):Tw:=⟨Lt N,fun args h k=>by
 unfold Lt;split
 exact twE (Wp ..) (Wp ..)
 rfl⟩
theorem Bhn (N:Nat):Ax Tryz.prog 204 (Aot N):=fun args h res w hh=>by
 change Lt N args h (fun v w=>some (v,w))=_ at hh
 unfold Lt at hh;split at hh
 exact Aa (T:=Px N) ⟨Ez N,trivial⟩ follows ((Wp ..).trans hh)
 cases hh
def Lu (N:Nat)  (r0:Nat→Nat→LA→LA→Option R) (i:Int) (a b:Nat) (m:LA) (k0:Nat→Int→Int→Int→Int→LA→LA→Option R)  (g:Nat) (e d j c:Int) (f l:LA):Option R :=
 (cond (decide (c<j)) (cond ((decide ((0:Int)≤(IntKind.wrap .i64 ((IntKind.wrap .i64 (d - (1:Int))) - c))))&&((decide ((IntKind.wrap .i64 ((IntKind.wrap .i64 (d - (1:Int))) - c))≤(IntKind.wrap .i64 ((IntKind.wrap .i64 ((IntKind.wrap .i64 ((IntKind.wrap .i64 (d - (1:Int))) - c))+e))+(1:Int)))))&&((decide ((IntKind.wrap .i64 ((IntKind.wrap .i64 ((IntKind.wrap .i64 ((IntKind.wrap .i64 (d - (1:Int))) - c))+e))+(1:Int)))≤((b:Nat):Int)))&&(decide (((b:Nat):Int)≤((b:Nat):Int)))))) (Nt N (0+((Int.toNat (IntKind.wrap .i64 ((IntKind.wrap .i64 (d - (1:Int))) - c)))*1)) ((Int.toNat (IntKind.wrap .i64 ((IntKind.wrap .i64 ((IntKind.wrap .i64 ((IntKind.wrap .i64 (d - (1:Int))) - c))+e))+(1:Int)))) - (Int.toNat (IntKind.wrap .i64 ((IntKind.wrap .i64 (d - (1:Int))) - c)))) (List.take (a*1) m) a false true l (fun z aa=>(cond (Aj (IntKind.wrap .i64 ((IntKind.wrap .i64 (d - (1:Int))) - c)) g) (cond ((Nat.beq 1 1)&&((Nat.ble ((0+((Int.toNat (IntKind.wrap .i64 ((IntKind.wrap .i64 (d - (1:Int))) - c)))*1))+1) (List.length f))&&(!false))) (k0 g e d j (IntKind.wrap .i64 (c+(1:Int))) (List.set f (0+((Int.toNat (IntKind.wrap .i64 ((IntKind.wrap .i64 (d - (1:Int))) - c)))*1)) (.int .u32 z)) aa) none) none))) none) (cond ((decide ((0:Int)≤(0:Int)))&&((decide ((0:Int)≤e))&&((decide (e≤((b:Nat):Int)))&&(decide (((b:Nat):Int)≤((b:Nat):Int)))))) (O9 N (List.take ((Int.toNat e)*1) l) (Int.toNat e) false true i (fun ab ak ac=>(Aaq N g f (fun ad=>(r0 ad ab f ac))))) none))
def Ef (N:Nat)  (r0:Nat→Nat→LA→LA→Option R) (i:Int) (a b:Nat) (m:LA):Nat→Nat→Int→Int→Int→Int→LA→LA→Option R
 | 0,_,_,_,_,_,_,_=>none
 | n+1,g,e,d,j,c,f,l=>(Lu N r0 i a b m (Ef N r0 i a b m n) g e d j c f l)
def Ags (N:Nat) (r0:Nat→Nat→LA→LA→Option R) (q0:Int→Nat→LA→Nat→Int→Int→Int→Int→LA→LA→Option R) (p:LA) (q:Nat) (u r:Bool) (o:LA) (a:Nat) (w t:Bool):Option R :=
 (cond (Aj (IntKind.wrap .i64 (((a:Nat):Int) - (1:Int))) a) (rdI .u32 (List.drop ((Int.toNat (IntKind.wrap .i64 (((a:Nat):Int) - (1:Int))))*1) o) fun ae=>(Ch N ae (fun i=>(Wl N o a false t i (fun x m=>(cond ((decide ((0:Int)≤(0:Int)))&&((decide ((0:Int)≤((a:Nat):Int)))&&((decide (((a:Nat):Int)≤((x:Nat):Int)))&&(decide (((x:Nat):Int)≤((x:Nat):Int)))))) (Wl N p q false r i (fun b af=>(cond ((decide ((0:Int)≤(IntKind.wrap .i64 (((b:Nat):Int) - ((a:Nat):Int)))))&&((decide ((IntKind.wrap .i64 (((b:Nat):Int) - ((a:Nat):Int)))≤(IntKind.wrap .i64 (((b:Nat):Int) - ((a:Nat):Int)))))&&((decide ((IntKind.wrap .i64 (((b:Nat):Int) - ((a:Nat):Int)))≤(140737488355328:Int)))&&(decide (((IntKind.wrap .i64 (((b:Nat):Int) - ((a:Nat):Int)))*((4:Nat):Int))≤(140737488355328:Int)))))) (q0 i b m (Int.toNat (IntKind.wrap .i64 (((b:Nat):Int) - ((a:Nat):Int)))) ((a:Nat):Int) (IntKind.wrap .i64 (((b:Nat):Int) - ((a:Nat):Int))) (IntKind.wrap .i64 (((b:Nat):Int) - ((a:Nat):Int))) 0 (List.replicate (Int.toNat (IntKind.wrap .i64 (((b:Nat):Int) - ((a:Nat):Int)))) (.int .u32 0)) af) none))) none)))))) none)
def Agt (N:Nat) (p:LA) (q:Nat) (u r:Bool) (o:LA) (a:Nat) (w t:Bool) (r0:Nat→Nat→LA→LA→Option R):Option R:=(Ags N r0 (fun i b m g e d j c f l=>(Ef N r0 i a b m N g e d j c f l)) p q u r o a w t)
def K2:=(Ai (@Agt R)).1
theorem Ajr:@K2 R=@Agt R:=(Ai _).2
def Nx:Hints:={ H:=(hS (hR [0,1]) (hS (hR [0,1,6]) (hS (hR [0,1,6,7]) (hS (hR [0,6,7,8]) (hS (hR [6,7,8,9]) (hS (hR [6,7,8,9,10]) (hS (hR [4,6,7,8,9,10]) (hS (hS (hR [4,6,7,8,9,10,35,36]) (hN [4,6,7,9] (hN [4,6,7,8,9,10,35,36] (hS (hR [4,6,7,8,9,10,35,36,37]) (hS (hN [4,6,7,8,9,10,35,36] hL hL) (hS (hN [4,6,7,8,9,10,35,36] (hS (hR [4,6,7,8,9,10,11,35,36]) (hS (hR [4,6,7,8,9,10,12,35,36]) (hR [4,6,7,8,9,10,35,36]))) hL) (hR [4,6,7,8,9,10,35,36])))) hL) hL)) (hS (hR [4,5]) (hS (hR [4,5]) hL)))))))))),nils:=[(4,1),(5,1)],modes:=[(2,1),(2,1)],free:=[],cob:=[] }
def Pz (N:Nat):List (Nat×Tw):=[(200,Fm N),(202,A6d N),(203,Avx N),(204,Aot N),(171,A29 N)]
def P0 (N:Nat):Env:=mkE 67 Nx (Pz N)
def Bc8 (N:Nat) (F:KF R):=Ao (P0 N) Tryz.f198 Nx.modes [] F
def Aou (N:Nat) (F:KF R):=atF (P0 N) [] N Tryz.f198 Nx (Bc8 N F)
def Ir  (F:KF R):Nat→Nat→LA→LA→Option R:=(fun ag ah ai aj=>F (.tup [(.own 300000 0 ag),(.own 300001 0 ah)]) [(300000,⟨false,false,true,false,1,ai,false⟩),(300001,⟨false,false,true,false,1,aj,false⟩)])
def F4 (i:Int) (a b:Nat) (m:LA) (g:Nat) (e d j c:Int) (f l:LA):St:={ s:=[(4,(.own 300000 0 g)),(6,(.int .i64 e)),(7,(.int .i64 i)),(8,(.own 300001 0 a)),(9,(.own 300002 0 b)),(10,(.int .i64 d)),(35,(.int .i64 j)),(36,(.int .i64 c))],h:=[(300000,⟨false,false,true,false,1,f,false⟩),(300001,⟨false,false,true,false,1,m,false⟩),(300002,⟨false,false,true,false,1,l,false⟩)] }
def Aov (N:Nat) (F:KF R):St→Option R:=Bq (P0 N) [] N (Aou N F [1,1,1,1,1,1,1,0,1,0] []) N
def Ny (N:Nat) (F:KF R) (n:Nat):St→Option R:=A4 (P0 N) [] N (Aou N F [1,1,1,1,1,1,1,0,1,0] []) n
theorem A41 (N:Nat)  (F:KF R) (i:Int) (a b:Nat) (m:LA):∀ (n g:Nat) (e d j c:Int) (f l:LA),Ny N F n (F4 i a b m g e d j c f l)=(Ef N (Ir F) i a b m n g e d j c f l):=by
 intro n
 induction n with
 | zero=>intros;kernel_rfl
 | succ n ih =>
  intro g e d j c f l
  have e0:=funext fun g=>funext fun e=>funext fun d=>funext fun j=>funext fun c=>funext fun f=>funext fun l=>(show Ny N F n (F4 i a b m g e d j c f l)=_ from ih g e d j c f l)
  have hK:Ny N F (n+1) (F4 i a b m g e d j c f l)=(Lu N (Ir F) i a b m (fun g e d j c f l=>Ny N F n (F4 i a b m g e d j c f l)) g e d j c f l):=by kernel_rfl
  exact hK.trans (by rw [e0];rfl)
theorem Wq (N:Nat) (p:LA) (q:Nat) (u r:Bool) (o:LA) (a:Nat) (w t:Bool) (F:KF R):Ab Tryz.prog muts (Pz N) Nx N 198 [(.imm p q 1 u r),(.imm o a 1 w t)] [] F=(K2 N p q u r o a w t (Ir F)):=by
 have e1:=funext fun i=>funext fun b=>funext fun m=>funext fun g=>funext fun e=>funext fun d=>funext fun j=>funext fun c=>funext fun f=>funext fun l=>(show Aov N F (F4 i a b m g e d j c f l)=_ from (Ap ..).trans (A41 N F i a b m N g e d j c f l))
 have hK:Ab Tryz.prog muts (Pz N) Nx N 198 [(.imm p q 1 u r),(.imm o a 1 w t)] [] F=(Ags N (Ir F) (fun i b m g e d j c f l=>Aov N F (F4 i a b m g e d j c f l)) p q u r o a w t):=by kernel_rfl
 rw [Ajr]
 exact hK.trans (by rw [e1];rfl)
def Lv (N:Nat) (args:List AV) (h:Ak) (k:KF R):Option R :=
 match args,h with
 | [(.imm p q 1 u r),(.imm o a 1 w t)],[]=>(K2 N p q u r o a w t (Ir k))
 | _,_=>none
def Aow (N:Nat):Tw:=⟨Lv N,fun args h k=>by
 unfold Lv;split
 exact twE (Wq ..) (Wq ..)
 rfl⟩
theorem Bho (N:Nat):Ax Tryz.prog 198 (Aow N):=fun args h res y hh=>by
 change Lv N args h (fun v y=>some (v,y))=_ at hh
 unfold Lv at hh;split at hh
 exact Aa (T:=Pz N) ⟨Lq N,Bvz N,Bni N,Bhn N,Bg6 N,trivial⟩ follows ((Wq ..).trans hh)
 cases hh
def A9m (N:Nat) (r0:Nat→Nat→Bool→LA→LA→Option R)  (c:LA) (d:Nat) (e a:Bool) (f:LA) (g:Nat) (i b:Bool):Option R :=
 (Cm N c d e a (fun m j=>(Cm N f g i b (fun n l=>(cond (((l:Nat):Int)==(0:Int)) (r0 0 0 false [] []) (Dz N m j false a n l false b (fun r=>(cond (decide (r<(0:Int))) (Acw N m j false a (fun s t=>(r0 0 s true [] t))) (cond (decide (((j:Nat):Int)≤(2:Int))) (Tb N m j false a (fun p=>(Tb N n l false b (fun o=>(cond (o==(0:Int)) none (Cb N (IntKind.wrap .u64 (Int.tdiv p o)) (fun u w=>(cond (o==(0:Int)) none (Cb N (Int.tmod p o) (fun x y=>(r0 u x true w y))))))))))) (cond (((l:Nat):Int)==(1:Int)) (cond (Aj (0:Int) l) (rdI .u32 n fun z=>(G2 N m j false a z (fun aa ab ac ad=>(r0 aa ab true ac ad)))) none) (K2 N m j false a n l false b (fun ae af ag ah=>(r0 ae af true ag ah)))))))))))))
def A9n (N:Nat) (c:LA) (d:Nat) (e a:Bool) (f:LA) (g:Nat) (i b:Bool) (r0:Nat→Nat→Bool→LA→LA→Option R):Option R:=(A9m N r0 c d e a f g i b)
def Eg:=(Ai (@A9n R)).1
theorem A6e:@Eg R=@A9n R:=(Ai _).2
def Bc9:Hints:={ H:=(hS (hR [0,1]) (hS (hR [0,1]) (hS (hN [0,1] (hS (hR [0,1,13]) (hN [0,1] (hS (hR [4,5,6]) hL) (hS (hR [0,1,17]) (hN [0,1] (hS (hR [4,5,6]) hL) (hS (hR [0,1,24]) (hN [0,1] (hS (hR [7,8]) (hS (hR [4,5,6]) hL)) (hS (hR [0,1,40]) (hN [0,1] (hS (hR [4,5]) (hS (hR [4,5,6]) hL)) hL)))))))) hL) (hS (hR [4,5]) (hS (hR [4,5,6]) hL))))),nils:=[(4,1),(5,1)],modes:=[(2,1),(2,1),(0,0)],free:=[],cob:=[] }
def Ay7 (N:Nat):List (Nat×Tw):=[(171,Nm N),(132,F2 N),(173,Agg N),(181,Arh N),(149,Ec N),(197,Agq N),(198,Aow N)]
def Ary  (F:KF R):Nat→Nat→Bool→LA→LA→Option R:=(fun ai aj ak al am=>F (.tup [(.own 300000 0 ai),(.own 300001 0 aj),(.bool ak)]) [(300000,⟨false,false,true,false,1,al,false⟩),(300001,⟨false,false,true,false,1,am,false⟩)])
theorem Arz (N:Nat) (c:LA) (d:Nat) (e a:Bool) (f:LA) (g:Nat) (i b:Bool) (F:KF R):Ab Tryz.prog muts (Ay7 N) Bc9 N 175 [(.imm c d 1 e a),(.imm f g 1 i b)] [] F=(Eg N c d e a f g i b (Ary F)):=by
 have hK:Ab Tryz.prog muts (Ay7 N) Bc9 N 175 [(.imm c d 1 e a),(.imm f g 1 i b)] [] F=(A9m N (Ary F) c d e a f g i b):=by kernel_rfl
 rw [A6e]
 exact hK
def Ym (N:Nat) (args:List AV) (h:Ak) (k:KF R):Option R :=
 match args,h with
 | [(.imm c d 1 e a),(.imm f g 1 i b)],[]=>(Eg N c d e a f g i b (Ary k))
 | _,_=>none
def Ar0 (N:Nat):Tw:=⟨Ym N,fun args h k=>by
 unfold Ym;split
 exact twE (Arz ..) (Arz ..)
 rfl⟩
theorem Bda (N:Nat):Ax Tryz.prog 175 (Ar0 N):=fun args h res q hh=>by
 change Ym N args h (fun v q=>some (v,q))=_ at hh
 unfold Ym at hh;split at hh
 exact Aa (T:=Ay7 N) ⟨S7 N,Im N,Arv N,A85 N,Fz N,A9h N,Bho N,trivial⟩ follows ((Arz ..).trans hh)
 cases hh
def Agu (N:Nat)  (r0:Nat→Bool→LA→Option R) (j:LA) (i:Nat) (c:Bool) (b:Nat) (l:LA) (d:Bool) (k0:Int→Int→Int→LA→Option R)  (f g a:Int) (e:LA):Option R :=
 (cond (decide (a<g)) (cond (Aj a b) (rdI .u32 (List.drop ((Int.toNat a)*1) l) fun u=>(cond (decide (a<((i:Nat):Int))) (cond (Aj a i) (rdI .u32 (List.drop ((Int.toNat a)*1) j) fun w=>(cond (Aj a b) (cond ((Nat.beq 1 1)&&((Nat.ble ((0+((Int.toNat a)*1))+1) (List.length e))&&(!false))) (k0 (Int.fdiv (IntKind.wrap .u64 ((IntKind.wrap .u64 ((IntKind.wrap .u64 u) - f)) - (IntKind.wrap .u64 w))) (2 ^ 63)) g (IntKind.wrap .i64 (a+(1:Int))) (List.set e (0+((Int.toNat a)*1)) (.int .u32 (IntKind.wrap .u32 (IntKind.wrap .u64 ((IntKind.wrap .u64 ((IntKind.wrap .u64 u) - f)) - (IntKind.wrap .u64 w))))))) none) none)) none) (cond (Aj a b) (cond ((Nat.beq 1 1)&&((Nat.ble ((0+((Int.toNat a)*1))+1) (List.length e))&&(!false))) (k0 (Int.fdiv (IntKind.wrap .u64 ((IntKind.wrap .u64 u) - f)) (2 ^ 63)) g (IntKind.wrap .i64 (a+(1:Int))) (List.set e (0+((Int.toNat a)*1)) (.int .u32 (IntKind.wrap .u32 (IntKind.wrap .u64 ((IntKind.wrap .u64 u) - f)))))) none) none))) none) (Aaq N b e (fun y=>(r0 y true e))))
def Wr (N:Nat)  (r0:Nat→Bool→LA→Option R) (j:LA) (i:Nat) (c:Bool) (b:Nat) (l:LA) (d:Bool):Nat→Int→Int→Int→LA→Option R
 | 0,_,_,_,_=>none
 | n+1,f,g,a,e=>(Agu N r0 j i c b l d (Wr N r0 j i c b l d n) f g a e)
def Bof (N:Nat) (r0:Nat→Bool→LA→Option R) (q0:LA→Nat→Nat→LA→Int→Int→Int→LA→Option R) (m:LA) (o:Nat) (p d:Bool) (q:LA) (r:Nat) (t c:Bool):Option R :=
 (Cm N m o p d (fun l b=>(Cm N q r t c (fun j i=>(Dz N l b false d j i false c (fun z=>(cond (decide (z<(0:Int))) (r0 0 false []) (cond ((decide ((0:Int)≤((b:Nat):Int)))&&((decide (((b:Nat):Int)≤((b:Nat):Int)))&&((decide (((b:Nat):Int)≤(140737488355328:Int)))&&(decide ((((b:Nat):Int)*((4:Nat):Int))≤(140737488355328:Int)))))) (q0 j i b l 0 ((b:Nat):Int) 0 (List.replicate b (.int .u32 0))) none))))))))
def Bog (N:Nat) (m:LA) (o:Nat) (p d:Bool) (q:LA) (r:Nat) (t c:Bool) (r0:Nat→Bool→LA→Option R):Option R:=(Bof N r0 (fun j i b l f g a e=>(Wr N r0 j i c b l d N f g a e)) m o p d q r t c)
def Ay8:=(Ai (@Bog R)).1
theorem A9o:@Ay8 R=@Bog R:=(Ai _).2
def A3j:Hints:={ H:=(hS (hR [0,1]) (hS (hR [0,1]) (hS (hS (hR [0,1,18]) (hN [0,1] (hS (hR [4,5]) hL) hL)) (hS (hR [0,1,6]) (hS (hR [0,1,6,7]) (hS (hS (hR [1,6,7,22,23,24]) (hN [6] (hN [1,6,7,22,23,24] (hS (hR [1,6,7,22,23,24,25]) (hS (hN [1,6,7,22,23,24] hL hL) (hS (hN [1,6,7,22,23,24] (hS (hR [1,6,7,8,9,22,23,24]) (hS (hR [1,6,8,10,22,23,24]) (hS (hS (hR [1,6,8,10,22,23,24,36]) (hN [1,6,8,10,22,23,24] (hR [1,6,8,10,22,23,24]) hL)) (hS (hR [1,6,10,22,23,24]) (hR [1,6,7,22,23,24]))))) hL) (hR [1,6,7,22,23,24])))) hL) hL)) (hS (hR [4,5]) hL))))))),nils:=[(4,1)],modes:=[(2,1),(0,0)],free:=[],cob:=[] }
def Bdb (N:Nat):List (Nat×Tw):=[(171,Ds N),(132,F2 N)]
def Bdc (N:Nat):Env:=mkE 54 A3j (Bdb N)
def B5f (N:Nat) (F:KF R):=Ao (Bdc N) Tryz.f177 A3j.modes [] F
def Bxk (N:Nat) (F:KF R):=atF (Bdc N) [] N Tryz.f177 A3j (B5f N F)
def Aox  (F:KF R):Nat→Bool→LA→Option R:=(fun aa ab ac=>F (.tup [(.own 300000 0 aa),(.bool ab)]) [(300000,⟨false,false,true,false,1,ac,false⟩)])
def Aen (j:LA) (i:Nat) (c:Bool) (b:Nat) (l:LA) (d:Bool) (f g a:Int) (e:LA):St:={ s:=[(1,(.imm j i 1 false c)),(6,(.own 300000 0 b)),(7,(.int .u64 f)),(22,(.imm l b 1 false d)),(23,(.int .i64 g)),(24,(.int .i64 a))],h:=[(300000,⟨false,false,true,false,1,e,false⟩)] }
def Bxl (N:Nat) (F:KF R):St→Option R:=Bq (Bdc N) [] N (Bxk N F [1,1,1,1,1,0,1,0] []) N
def A3k (N:Nat) (F:KF R) (n:Nat):St→Option R:=A4 (Bdc N) [] N (Bxk N F [1,1,1,1,1,0,1,0] []) n
theorem B0f (N:Nat)  (F:KF R) (j:LA) (i:Nat) (c:Bool) (b:Nat) (l:LA) (d:Bool):∀ (n:Nat) (f g a:Int) (e:LA),A3k N F n (Aen j i c b l d f g a e)=(Wr N (Aox F) j i c b l d n f g a e):=by
 intro n
 induction n with
 | zero=>intros;kernel_rfl
 | succ n ih =>
  intro f g a e
  have e0:=funext fun f=>funext fun g=>funext fun a=>funext fun e=>(show A3k N F n (Aen j i c b l d f g a e)=_ from ih f g a e)
  have hK:A3k N F (n+1) (Aen j i c b l d f g a e)=(Agu N (Aox F) j i c b l d (fun f g a e=>A3k N F n (Aen j i c b l d f g a e)) f g a e):=by kernel_rfl
  exact hK.trans (by rw [e0];rfl)
theorem Bhp (N:Nat) (m:LA) (o:Nat) (p d:Bool) (q:LA) (r:Nat) (t c:Bool) (F:KF R):Ab Tryz.prog muts (Bdb N) A3j N 177 [(.imm m o 1 p d),(.imm q r 1 t c)] [] F=(Ay8 N m o p d q r t c (Aox F)):=by
 have e1:=funext fun j=>funext fun i=>funext fun b=>funext fun l=>funext fun f=>funext fun g=>funext fun a=>funext fun e=>(show Bxl N F (Aen j i c b l d f g a e)=_ from (Ap ..).trans (B0f N F j i c b l d N f g a e))
 have hK:Ab Tryz.prog muts (Bdb N) A3j N 177 [(.imm m o 1 p d),(.imm q r 1 t c)] [] F=(Bof N (Aox F) (fun j i b l f g a e=>Bxl N F (Aen j i c b l d f g a e)) m o p d q r t c):=by kernel_rfl
 rw [A9o]
 exact hK.trans (by rw [e1];rfl)
def Ar1 (N:Nat) (args:List AV) (h:Ak) (k:KF R):Option R :=
 match args,h with
 | [(.imm m o 1 p d),(.imm q r 1 t c)],[]=>(Ay8 N m o p d q r t c (Aox k))
 | _,_=>none
def Bhq (N:Nat):Tw:=⟨Ar1 N,fun args h k=>by
 unfold Ar1;split
 exact twE (Bhp ..) (Bhp ..)
 rfl⟩
theorem Bxm (N:Nat):Ax Tryz.prog 177 (Bhq N):=fun args h res x hh=>by
 change Ar1 N args h (fun v x=>some (v,x))=_ at hh
 unfold Ar1 at hh;split at hh
 exact Aa (T:=Bdb N) ⟨Ez N,Im N,trivial⟩ follows ((Bhp ..).trans hh)
 cases hh
def Ay9 (N:Nat) (r0:Nat→LA→Option R)  (a:LA) (b:Nat) (j c:Bool) (d:Int) (e:LA) (f:Nat) (l g:Bool) (i:Int):Option R :=
 (Cb N d (fun m r=>(Arn N a b false c (List.take (m*1) r) m false true (fun n s=>(Cb N i (fun o t=>(Arn N e f false g (List.take (o*1) t) o false true (fun p u=>(Ay8 N (List.take (n*1) s) n false true (List.take (p*1) u) p false true (fun w aa x=>(r0 w x)))))))))))
def Aza (N:Nat) (a:LA) (b:Nat) (j c:Bool) (d:Int) (e:LA) (f:Nat) (l g:Bool) (i:Int) (r0:Nat→LA→Option R):Option R:=(Ay9 N r0 a b j c d e f l g i)
def E9:=(Ai (@Aza R)).1
theorem Azb:@E9 R=@Aza R:=(Ai _).2
def A6f:Hints:={ H:=(hS (hR [0,1,2,3]) (hS (hR [9]) (hS (hR [8]) hL))),nils:=[(8,1)],modes:=[(2,1)],free:=[],cob:=[] }
def Ar2 (N:Nat):List (Nat×Tw):=[(149,Ec N),(135,Aom N),(177,Bhq N)]
def Aml  (F:KF R):Nat→LA→Option R:=(fun y z=>F (.own 300000 0 y) [(300000,⟨false,false,true,false,1,z,false⟩)])
theorem Amm (N:Nat) (a:LA) (b:Nat) (j c:Bool) (d:Int) (e:LA) (f:Nat) (l g:Bool) (i:Int) (F:KF R):Ab Tryz.prog muts (Ar2 N) A6f N 196 [(.imm a b 1 j c),(.int .u64 d),(.imm e f 1 l g),(.int .u64 i)] [] F=(E9 N a b j c d e f l g i (Aml F)):=by
 have hK:Ab Tryz.prog muts (Ar2 N) A6f N 196 [(.imm a b 1 j c),(.int .u64 d),(.imm e f 1 l g),(.int .u64 i)] [] F=(Ay9 N (Aml F) a b j c d e f l g i):=by kernel_rfl
 rw [Azb]
 exact hK
def Tr (N:Nat) (args:List AV) (h:Ak) (k:KF R):Option R :=
 match args,h with
 | [(.imm a b 1 j c),(.int .u64 d),(.imm e f 1 l g),(.int .u64 i)],[]=>(E9 N a b j c d e f l g i (Aml k))
 | _,_=>none
def A6g (N:Nat):Tw:=⟨Tr N,fun args h k=>by
 unfold Tr;split
 exact twE (Amm ..) (Amm ..)
 rfl⟩
theorem Bv0 (N:Nat):Ax Tryz.prog 196 (A6g N):=fun args h res q hh=>by
 change Tr N args h (fun v q=>some (v,q))=_ at hh
 unfold Tr at hh;split at hh
 exact Aa (T:=Ar2 N) ⟨Fz N,A3h N,Bxm N,trivial⟩ follows ((Amm ..).trans hh)
 cases hh
def Ar3 (N:Nat) (k1:LA→Nat→Bool→LA→Nat→Bool→Option R) (r0:Nat→LA→Option R)  (k2:Int→Int→Option R)  (i g:Int):Option R :=
 (cond (g != (0:Int)) (cond (g==(0:Int)) none (k2 g (Int.tmod i g))) (Cb N i (fun am an=>(r0 am an))))
def Ro (N:Nat) (k1:LA→Nat→Bool→LA→Nat→Bool→Option R) (r0:Nat→LA→Option R) :Nat→Int→Int→Option R
 | 0,_,_=>none
 | n+1,i,g=>(Ar3 N k1 r0 (Ro N k1 r0 n) i g)
def Agv (N:Nat)  (r0:Nat→LA→Option R)  (k1:LA→Nat→Bool→LA→Nat→Bool→Option R) (q2:Int→Int→Option R) (c:LA) (a:Nat) (d:Bool) (e:LA) (b:Nat) (f:Bool):Option R :=
 (cond (decide (((b:Nat):Int)>(0:Int))) (cond (decide (((a:Nat):Int)≤(2:Int))) (Tb N c a false d (fun ao=>(Tb N e b false f (fun ap=>(q2 ao ap))))) (Agn N c a false d e b false f (fun u=>(cond ((Nat.beq (List.length u) 5)&&((Nat.ble 5 5)&&(!false))) (rdI .u64 (List.drop 2 (setCells [(.int .u64 0),(.int .u64 0),(.int .u64 0),(.int .u64 0),(.bool false)] 0 u)) fun aq=>(cond (aq==(0:Int)) (Eg N c a false d e b false f (fun bm ag bn bo ar=>(k1 e b f (List.take (ag*1) ar) ag false))) (rdB (List.drop 4 (setCells [(.int .u64 0),(.int .u64 0),(.int .u64 0),(.int .u64 0),(.bool false)] 0 u)) fun au=>(cond au (rdI .u64 (setCells [(.int .u64 0),(.int .u64 0),(.int .u64 0),(.int .u64 0),(.bool false)] 0 u) fun av=>(rdI .u64 (List.drop 2 (setCells [(.int .u64 0),(.int .u64 0),(.int .u64 0),(.int .u64 0),(.bool false)] 0 u)) fun aw=>(E9 N c a false d av e b false f aw (fun ah ax=>(rdI .u64 (List.drop 3 (setCells [(.int .u64 0),(.int .u64 0),(.int .u64 0),(.int .u64 0),(.bool false)] 0 u)) fun ay=>(rdI .u64 (List.drop 1 (setCells [(.int .u64 0),(.int .u64 0),(.int .u64 0),(.int .u64 0),(.bool false)] 0 u)) fun az=>(E9 N e b false f ay c a false d az (fun ai ba=>(k1 (List.take (ah*1) ax) ah false (List.take (ai*1) ba) ai false))))))))) (rdI .u64 (List.drop 2 (setCells [(.int .u64 0),(.int .u64 0),(.int .u64 0),(.int .u64 0),(.bool false)] 0 u)) fun bb=>(rdI .u64 (setCells [(.int .u64 0),(.int .u64 0),(.int .u64 0),(.int .u64 0),(.bool false)] 0 u) fun bc=>(E9 N e b false f bb c a false d bc (fun aj bd=>(rdI .u64 (List.drop 1 (setCells [(.int .u64 0),(.int .u64 0),(.int .u64 0),(.int .u64 0),(.bool false)] 0 u)) fun be=>(rdI .u64 (List.drop 3 (setCells [(.int .u64 0),(.int .u64 0),(.int .u64 0),(.int .u64 0),(.bool false)] 0 u)) fun bf=>(E9 N c a false d be e b false f bf (fun ak bg=>(k1 (List.take (aj*1) bd) aj false (List.take (ak*1) bg) ak false))))))))))))) none)))) (Acw N c a false d (fun bh bi=>(r0 bh bi))))
def D7 (N:Nat)  (r0:Nat→LA→Option R) :Nat→LA→Nat→Bool→LA→Nat→Bool→Option R
 | 0,_,_,_,_,_,_=>none
 | n+1,c,a,d,e,b,f=>(Agv N r0 (D7 N r0 n) (fun i g=>(Ro N (D7 N r0 n) r0 N i g)) c a d e b f)
def A9p (N:Nat)  (r0:Nat→LA→Option R)   (q1:LA→Nat→Bool→LA→Nat→Bool→Option R) (j:LA) (l:Nat) (m:Bool) (o:LA) (p:Nat) (q:Bool):Option R :=
 (q1 j l m o p q)
def Bhr (N:Nat)  (r0:Nat→LA→Option R)  (j:LA) (l:Nat) (m:Bool) (o:LA) (p:Nat) (q:Bool):Option R:=(A9p N r0 (fun c a d e b f=>(D7 N r0 N c a d e b f)) j l m o p q)
def B0g (N:Nat) (r0:Nat→LA→Option R) (q0:LA→Nat→Bool→LA→Nat→Bool→Option R) (w:LA) (x:Nat) (y r:Bool) (z:LA) (aa:Nat) (ab t:Bool):Option R :=
 (Cm N w x y r (fun ac ad=>(Cm N z aa ab t (fun ae af=>(Dz N ac ad false r ae af false t (fun bj=>(cond (decide (bj<(0:Int))) (q0 ae af t ac ad r) (q0 ac ad r ae af t))))))))
def B0h (N:Nat) (w:LA) (x:Nat) (y r:Bool) (z:LA) (aa:Nat) (ab t:Bool) (r0:Nat→LA→Option R):Option R:=(B0g N r0 (fun j l m o p q=>(Bhr N r0 j l m o p q)) w x y r z aa ab t)
def A9q:=(Ai (@B0h R)).1
theorem Brq:@A9q R=@B0h R:=(Ai _).2
def A3l:Hints:={ H:=(hS (hR [0,1]) (hS (hR [0,1]) (hJ (hS (hR [0,1,18]) (hN [0,1] (hR [0,1]) hL)) (hS (hN [0] (hN [0,1] (hS (hS (hR [0,1,23]) (hN [0,1] hL hL)) (hN [0,1] (hS (hS (hR [0,1,26]) (hN [0,1] (hS (hR [5,6]) (hS (hN [5] (hN [5,6] (hS (hS (hR [5,6,32]) (hN [5,6] hL hL)) (hN [5,6] (hR [5,6]) hL)) hL) hL) (hS (hR [4]) hL))) hL)) (hS (hR [0,1,7]) (hS (hS (hR [0,1,7,44]) (hN [0,1,7] (hS (hR [1,9]) (hS (hR [0,1]) hL)) hL)) (hS (hR [0,1,7,55]) (hN [0,1] (hR [0,1]) (hR [0,1])))))) hL)) hL) hL) (hS (hR [4]) hL))))),nils:=[(0,1000001),(1,1000001)],modes:=[(2,1)],free:=[],cob:=[] }
def Bdd (N:Nat):List (Nat×Tw):=[(171,Nm N),(132,F2 N),(181,Arh N),(195,A6a N),(175,Ar0 N),(196,A6g N),(173,Agg N),(149,Ec N)]
def Z3 (N:Nat):Env:=mkE 86 A3l (Bdd N)
def B5g (N:Nat) (F:KF R):=Ao (Z3 N) Tryz.f174 A3l.modes [] F
def Aeo (N:Nat) (F:KF R):=atF (Z3 N) [] N Tryz.f174 A3l (B5g N F)
def Is  (F:KF R):Nat→LA→Option R:=(fun bk bl=>F (.own 300000 0 bk) [(300000,⟨false,false,true,false,1,bl,false⟩)])
def Aep (i g:Int):St:={ s:=[(5,(.int .u64 i)),(6,(.int .u64 g))],h:=[] }
def Bxn (N:Nat) (F:KF R) (Q1:St→Option R):St→Option R:=Bq (Z3 N) [] N (Aeo N F [1,1,1,0,0,0,1,0,0,1,0,1,0,0] [Q1]) N
def A3m (N:Nat) (F:KF R) (Q1:St→Option R) (n:Nat):St→Option R:=A4 (Z3 N) [] N (Aeo N F [1,1,1,0,0,0,1,0,0,1,0,1,0,0] [Q1]) n
def Rp (c:LA) (a:Nat) (d:Bool) (e:LA) (b:Nat) (f:Bool):St:={ s:=[(0,(.imm c a 1 false d)),(1,(.imm e b 1 false f))],h:=[] }
def Bxo (N:Nat) (F:KF R):St→Option R:=Bq (Z3 N) [] N (Aeo N F [1,1,1,0,0] []) N
def Ws (N:Nat) (F:KF R) (n:Nat):St→Option R:=A4 (Z3 N) [] N (Aeo N F [1,1,1,0,0] []) n
def A3n (j:LA) (l:Nat) (m:Bool) (o:LA) (p:Nat) (q:Bool):St:={ s:=[(0,(.imm j l 1 false m)),(1,(.imm o p 1 false q))],h:=[] }
def Bxp (N:Nat) (F:KF R):St→Option R:=Cg (Z3 N) [] N (Aeo N F [1,1,1] [])
def Bxq (N:Nat) (F:KF R):St→Option R:=Ck (Z3 N) [] N (Aeo N F [1,1,1] [])
theorem B0i (N:Nat) (Q1:St→Option R) (F:KF R) :∀ (n:Nat) (i g:Int),A3m N F Q1 n (Aep i g)=(Ro N (fun c a d e b f=>Q1 (Rp c a d e b f)) (Is F) n i g):=by
 intro n
 induction n with
 | zero=>intros;kernel_rfl
 | succ n ih =>
  intro i g
  have e0:=funext fun i=>funext fun g=>(show A3m N F Q1 n (Aep i g)=_ from ih i g)
  have hK:A3m N F Q1 (n+1) (Aep i g)=(Ar3 N (fun c a d e b f=>Q1 (Rp c a d e b f)) (Is F) (fun i g=>A3m N F Q1 n (Aep i g)) i g):=by kernel_rfl
  exact hK.trans (by rw [e0];rfl)
theorem B0j (N:Nat)  (F:KF R) :∀ (n:Nat) (c:LA) (a:Nat) (d:Bool) (e:LA) (b:Nat) (f:Bool),Ws N F n (Rp c a d e b f)=(D7 N (Is F) n c a d e b f):=by
 intro n
 induction n with
 | zero=>intros;kernel_rfl
 | succ n ih =>
  intro c a d e b f
  have e0:=funext fun c=>funext fun a=>funext fun d=>funext fun e=>funext fun b=>funext fun f=>(show Ws N F n (Rp c a d e b f)=_ from ih c a d e b f)
  have e1:(fun i g=>Bxn N F (Ws N F n) (Aep i g))=(fun i g=>(Ro N (D7 N (Is F) n) (Is F) N i g)):=by funext i;funext g;exact ((Ap ..).trans (B0i N (Ws N F n) F N i g)).trans (by rw [e0])
  have hK:Ws N F (n+1) (Rp c a d e b f)=(Agv N (Is F) (fun c a d e b f=>Ws N F n (Rp c a d e b f)) (fun i g=>Bxn N F (Ws N F n) (Aep i g)) c a d e b f):=by kernel_rfl
  exact hK.trans (by rw [e0,e1];rfl)
theorem B0k (N:Nat)  (F:KF R) :∀ (j:LA) (l:Nat) (m:Bool) (o:LA) (p:Nat) (q:Bool),Bxq N F (A3n j l m o p q)=(Bhr N (Is F) j l m o p q):=by
 intro j l m o p q
 have e1:=funext fun c=>funext fun a=>funext fun d=>funext fun e=>funext fun b=>funext fun f=>(show Bxo N F (Rp c a d e b f)=_ from (Ap ..).trans (B0j N F N c a d e b f))
 have hK:Bxq N F (A3n j l m o p q)=(A9p N (Is F) (fun c a d e b f=>Bxo N F (Rp c a d e b f)) j l m o p q):=by kernel_rfl
 exact hK.trans (by rw [e1];rfl)
theorem Bhs (N:Nat) (w:LA) (x:Nat) (y r:Bool) (z:LA) (aa:Nat) (ab t:Bool) (F:KF R):Ab Tryz.prog muts (Bdd N) A3l N 174 [(.imm w x 1 y r),(.imm z aa 1 ab t)] [] F=(A9q N w x y r z aa ab t (Is F)):=by
 have e1:=funext fun j=>funext fun l=>funext fun m=>funext fun o=>funext fun p=>funext fun q=>(show Bxp N F (A3n j l m o p q)=_ from (Aw ..).trans (B0k N F j l m o p q))
 have hK:Ab Tryz.prog muts (Bdd N) A3l N 174 [(.imm w x 1 y r),(.imm z aa 1 ab t)] [] F=(B0g N (Is F) (fun j l m o p q=>Bxp N F (A3n j l m o p q)) w x y r z aa ab t):=by kernel_rfl
 rw [Brq]
 exact hK.trans (by rw [e1];rfl)
def Ar4 (N:Nat) (args:List AV) (h:Ak) (k:KF R):Option R :=
 match args,h with
 | [(.imm w x 1 y r),(.imm z aa 1 ab t)],[]=>(A9q N w x y r z aa ab t (Is k))
 | _,_=>none
def Bxr (N:Nat):Tw:=⟨Ar4 N,fun args h k=>by
 unfold Ar4;split
 exact twE (Bhs ..) (Bhs ..)
 rfl⟩
theorem B7r (N:Nat):Ax Tryz.prog 174 (Bxr N):=fun args h res al hh=>by
 change Ar4 N args h (fun v al=>some (v,al))=_ at hh
 unfold Ar4 at hh;split at hh
 exact Aa (T:=Bdd N) ⟨S7 N,Im N,A85 N,Bvy N,Bda N,Bv0 N,Arv N,Fz N,trivial⟩ follows ((Bhs ..).trans hh)
 cases hh
def A9r (N:Nat) (r0:LA→Option R)  (a:LA) (b:Bool) (c:LA) (d:Nat) (g e:Bool):Option R :=
 (rdB a fun u=>(rdL 1 (List.drop 1 a) fun w x=>(cond (Nat.beq (List.length a) 2) (Bc4 N [(.bool u),(.imm w x 1 false b)] (b||false) (fun o i m=>(Acw N c d false e (fun j n=>(cond (((i:Nat):Int)==(0:Int)) (r0 [(.bool false),.nsl,(.imm [(.int .u32 1)] 1 1 false false)]) (A9q N (List.take (i*1) m) i false true (List.take (j*1) n) j false true (fun f l=>(cond ((((f:Nat):Int) != (1:Int))==false) (cond (Aj (0:Int) f) (rdI .u32 l fun y=>(cond (cond false true (y != (1:Int))) (Eg N (List.take (i*1) m) i false true (List.take (f*1) l) f false true (fun p ae af z ag=>(Eg N (List.take (j*1) n) j false true (List.take (f*1) l) f false true (fun q ah ai aa aj=>(r0 [(.bool o),(.imm (List.take (p*1) z) p 1 false false),(.imm (List.take (q*1) aa) q 1 false false)]))))) (r0 [(.bool o),(.imm (List.take (i*1) m) i 1 false false),(.imm (List.take (j*1) n) j 1 false false)]))) none) (Eg N (List.take (i*1) m) i false true (List.take (f*1) l) f false true (fun r ak al ab am=>(Eg N (List.take (j*1) n) j false true (List.take (f*1) l) f false true (fun s an ao ac ap=>(r0 [(.bool o),(.imm (List.take (r*1) ab) r 1 false false),(.imm (List.take (s*1) ac) s 1 false false)]))))))))))))) none)))
def A9s (N:Nat) (a:LA) (b:Bool) (c:LA) (d:Nat) (g e:Bool) (r0:LA→Option R):Option R:=(A9r N r0 a b c d g e)
def Nz:=(Ai (@A9s R)).1
theorem A6h:@Nz R=@A9s R:=(Ai _).2
def Bde:Hints:={ H:=(hS (hR [1,2,4]) (hS (hR [1,2,4]) (hS (hS (hR [1,2,4,13]) (hN [1,2,4] (hS (hR [4]) hL) hL)) (hS (hR [1,2,4,5]) (hS (hS (hR [1,2,4,5,28]) (hN [1,2,4] (hS (hR [1,2,4,5]) (hR [1,2,4])) hL)) (hS (hR [4]) hL)))))),nils:=[],modes:=[(3,0)],free:=[],cob:=[2] }
def Azc (N:Nat):List (Nat×Tw):=[(172,Brn N),(173,Agg N),(174,Bxr N),(175,Ar0 N)]
def Ar5  (F:KF R):LA→Option R:=(fun ad=>F (.pagg ad false) [])
theorem Ar6 (N:Nat) (a:LA) (b:Bool) (c:LA) (d:Nat) (g e:Bool) (F:KF R):Ab Tryz.prog muts (Azc N) Bde N 133 [(.pagg a b),(.imm c d 1 g e)] [] F=(Nz N a b c d g e (Ar5 F)):=by
 have hK:Ab Tryz.prog muts (Azc N) Bde N 133 [(.pagg a b),(.imm c d 1 g e)] [] F=(A9r N (Ar5 F) a b c d g e):=by kernel_rfl
 rw [A6h]
 exact hK
def Yn (N:Nat) (args:List AV) (h:Ak) (k:KF R):Option R :=
 match args,h with
 | [(.pagg a b),(.imm c d 1 g e)],[]=>(Nz N a b c d g e (Ar5 k))
 | _,_=>none
def Ac0 (N:Nat):Tw:=⟨Yn N,fun args h k=>by
 unfold Yn;split
 exact twE (Ar6 ..) (Ar6 ..)
 rfl⟩
theorem Ar7 (N:Nat):Ax Tryz.prog 133 (Ac0 N):=fun args h res t hh=>by
 change Yn N args h (fun v t=>some (v,t))=_ at hh
 unfold Yn at hh;split at hh
 exact Aa (T:=Azc N) ⟨B5e N,Arv N,B7r N,Bda N,trivial⟩ follows ((Ar6 ..).trans hh)
 cases hh
def Bdf (N:Nat) (r0:LA→Option R)  (a:LA) (b:Bool):Option R :=
 (cond (Nat.ble 3 (List.length a)) (Gf N (List.take 3 a) b (fun f g i=>(cond i (Jd N f g (fun c=>(cond ((Nat.beq 0 0)&&((Nat.beq (List.length c) 3)&&(Nat.beq 3 3))) (cond (Nat.ble 3 (List.length c)) (r0 (List.take 3 c)) none) none))) (cond (Nat.ble 3 (List.length a)) (Kd N (List.take 3 a) b (fun j l m n o=>(Nz N j l m n false o (fun d=>(cond ((Nat.beq 0 0)&&((Nat.beq (List.length d) 3)&&(Nat.beq 3 3))) (cond (Nat.ble 3 (List.length d)) (r0 (List.take 3 d)) none) none))))) none)))) none)
def Bdg (N:Nat) (a:LA) (b:Bool) (r0:LA→Option R):Option R:=(Bdf N r0 a b)
def Ajs:=(Ai (@Bdg R)).1
theorem Azd:@Ajs R=@Bdg R:=(Ai _).2
def Brr:Hints:={ H:=(hS (hR [1,2]) (hS (hS (hR [1,2,3,4,5]) (hS (hR [1,2,3,4,12]) (hN [1,2] (hS (hR [2]) hL) hL))) (hS (hR [2]) hL))),nils:=[],modes:=[(3,0)],free:=[],cob:=[] }
def Bht (N:Nat):List (Nat×Tw):=[(99,Zz N),(131,Tj N),(101,Rm N),(133,Ac0 N)]
def A9t  (F:KF R):LA→Option R:=(fun p=>F (.pagg p false) [])
theorem A9u (N:Nat) (a:LA) (b:Bool) (F:KF R):Ab Tryz.prog muts (Bht N) Brr N 130 [(.pagg a b)] [] F=(Ajs N a b (A9t F)):=by
 have hK:Ab Tryz.prog muts (Bht N) Brr N 130 [(.pagg a b)] [] F=(Bdf N (A9t F) a b):=by kernel_rfl
 rw [Azd]
 exact hK
def Ajt (N:Nat) (args:List AV) (h:Ak) (k:KF R):Option R :=
 match args,h with
 | [(.pagg a b)],[]=>(Ajs N a b (A9t k))
 | _,_=>none
def A9v (N:Nat):Tw:=⟨Ajt N,fun args h k=>by
 unfold Ajt;split
 exact twE (A9u ..) (A9u ..)
 rfl⟩
theorem Brs (N:Nat):Ax Tryz.prog 130 (A9v N):=fun args h res e hh=>by
 change Ajt N args h (fun v e=>some (v,e))=_ at hh
 unfold Ajt at hh;split at hh
 exact Aa (T:=Bht N) ⟨Ajn N,Agf N,Zx N,Ar7 N,trivial⟩ follows ((A9u ..).trans hh)
 cases hh
def Agw (N:Nat)  (r0:Nat→LA→Option R) (b:LA) (a:Nat) (e:Bool) (f:LA) (c:Nat) (g:Bool) (k1:Nat→Int→Int→Int→LA→Option R)  (j:Nat) (l m d:Int) (i:LA):Option R :=
 (cond (decide (d<m)) (cond (Aj d a) (rdI .u32 (List.drop ((Int.toNat d)*1) b) fun y=>(cond (decide (d<((c:Nat):Int))) (cond (Aj d c) (rdI .u32 (List.drop ((Int.toNat d)*1) f) fun ab=>(cond (Aj d j) (cond ((Nat.beq 1 1)&&((Nat.ble ((0+((Int.toNat d)*1))+1) (List.length i))&&(!false))) (k1 j (Int.fdiv (IntKind.wrap .u64 ((IntKind.wrap .u64 (l+(IntKind.wrap .u64 y)))+(IntKind.wrap .u64 ab))) (2 ^ 32)) m (IntKind.wrap .i64 (d+(1:Int))) (List.set i (0+((Int.toNat d)*1)) (.int .u32 (IntKind.wrap .u32 (IntKind.wrap .u64 ((IntKind.wrap .u64 (l+(IntKind.wrap .u64 y)))+(IntKind.wrap .u64 ab))))))) none) none)) none) (cond (Aj d j) (cond ((Nat.beq 1 1)&&((Nat.ble ((0+((Int.toNat d)*1))+1) (List.length i))&&(!false))) (k1 j (Int.fdiv (IntKind.wrap .u64 (l+(IntKind.wrap .u64 y))) (2 ^ 32)) m (IntKind.wrap .i64 (d+(1:Int))) (List.set i (0+((Int.toNat d)*1)) (.int .u32 (IntKind.wrap .u32 (IntKind.wrap .u64 (l+(IntKind.wrap .u64 y))))))) none) none))) none) (cond (Aj ((a:Nat):Int) j) (cond ((Nat.beq 1 1)&&((Nat.ble ((0+(a*1))+1) (List.length i))&&(!false))) (Aaq N j (List.set i (0+(a*1)) (.int .u32 (IntKind.wrap .u32 l))) (fun af=>(r0 af (List.set i (0+(a*1)) (.int .u32 (IntKind.wrap .u32 l)))))) none) none))
def Wt (N:Nat)  (r0:Nat→LA→Option R) (b:LA) (a:Nat) (e:Bool) (f:LA) (c:Nat) (g:Bool):Nat→Nat→Int→Int→Int→LA→Option R
 | 0,_,_,_,_,_=>none
 | n+1,j,l,m,d,i=>(Agw N r0 b a e f c g (Wt N r0 b a e f c g n) j l m d i)
def A9w (N:Nat)  (r0:Nat→LA→Option R)   (q1:Nat→Int→Int→Int→LA→Option R) (b:LA) (a:Nat) (e:Bool) (f:LA) (c:Nat) (g:Bool):Option R :=
 (cond ((decide ((0:Int)≤(IntKind.wrap .i64 (((a:Nat):Int)+(1:Int)))))&&((decide ((IntKind.wrap .i64 (((a:Nat):Int)+(1:Int)))≤(IntKind.wrap .i64 (((a:Nat):Int)+(1:Int)))))&&((decide ((IntKind.wrap .i64 (((a:Nat):Int)+(1:Int)))≤(140737488355328:Int)))&&(decide (((IntKind.wrap .i64 (((a:Nat):Int)+(1:Int)))*((4:Nat):Int))≤(140737488355328:Int)))))) (q1 (Int.toNat (IntKind.wrap .i64 (((a:Nat):Int)+(1:Int)))) 0 ((a:Nat):Int) 0 (List.replicate (Int.toNat (IntKind.wrap .i64 (((a:Nat):Int)+(1:Int)))) (.int .u32 0))) none)
def A3o (N:Nat)  (r0:Nat→LA→Option R)  (b:LA) (a:Nat) (e:Bool) (f:LA) (c:Nat) (g:Bool):Option R:=(A9w N r0 (fun j l m d i=>(Wt N r0 b a e f c g N j l m d i)) b a e f c g)
def Boh (N:Nat) (r0:Nat→LA→Option R) (q0:LA→Nat→Bool→LA→Nat→Bool→Option R) (q:LA) (r:Nat) (t o:Bool) (u:LA) (w:Nat) (x p:Bool):Option R :=
 (Cm N q r t o (fun ac z=>(Cm N u w x p (fun ad aa=>(cond (decide (((z:Nat):Int)<((aa:Nat):Int))) (q0 ad aa p ac z o) (q0 ac z o ad aa p))))))
def Boi (N:Nat) (q:LA) (r:Nat) (t o:Bool) (u:LA) (w:Nat) (x p:Bool) (r0:Nat→LA→Option R):Option R:=(Boh N r0 (fun b a e f c g=>(A3o N r0 b a e f c g)) q r t o u w x p)
def Brt:=(Ai (@Boi R)).1
theorem A9x:@Brt R=@Boi R:=(Ai _).2
def A3p:Hints:={ H:=(hS (hR [0,1]) (hS (hR [0,1]) (hJ (hS (hR [0,1,17]) (hN [0,1] (hR [0,1]) hL)) (hS (hR [0,1,5]) (hS (hR [0,1,5,6]) (hS (hS (hR [0,1,5,6,24,25,26]) (hN [0,5,6] (hN [0,1,5,6,24,25,26] (hS (hR [0,1,5,6,24,25,26,27]) (hS (hN [0,1,5,6,24,25,26] hL hL) (hS (hN [0,1,5,6,24,25,26] (hS (hR [0,1,5,6,7,8,24,25,26]) (hS (hR [0,1,5,6,7,24,25,26]) (hS (hS (hR [0,1,5,6,7,24,25,26,38]) (hN [0,1,5,6,7,24,25,26] (hR [0,1,5,6,7,24,25,26]) hL)) (hS (hR [0,1,5,6,24,25,26]) (hR [0,1,5,6,24,25,26]))))) hL) (hR [0,1,5,6,24,25,26])))) hL) hL)) (hS (hR [5]) (hS (hR [4]) hL)))))))),nils:=[(4,1)],modes:=[(2,1)],free:=[],cob:=[] }
def Bdh (N:Nat):List (Nat×Tw):=[(171,Ds N)]
def Aoy (N:Nat):Env:=mkE 62 A3p (Bdh N)
def B5h (N:Nat) (F:KF R):=Ao (Aoy N) Tryz.f176 A3p.modes [] F
def A3q (N:Nat) (F:KF R):=atF (Aoy N) [] N Tryz.f176 A3p (B5h N F)
def Wu  (F:KF R):Nat→LA→Option R:=(fun ag ah=>F (.own 300000 0 ag) [(300000,⟨false,false,true,false,1,ah,false⟩)])
def Aeq (b:LA) (a:Nat) (e:Bool) (f:LA) (c:Nat) (g:Bool) (j:Nat) (l m d:Int) (i:LA):St:={ s:=[(0,(.imm b a 1 false e)),(1,(.imm f c 1 false g)),(5,(.own 300000 0 j)),(6,(.int .u64 l)),(24,(.imm b a 1 false e)),(25,(.int .i64 m)),(26,(.int .i64 d))],h:=[(300000,⟨false,false,true,false,1,i,false⟩)] }
def Bxs (N:Nat) (F:KF R):St→Option R:=Bq (Aoy N) [] N (A3q N F [1,1,1,1,1,0,1,0] []) N
def A3r (N:Nat) (F:KF R) (n:Nat):St→Option R:=A4 (Aoy N) [] N (A3q N F [1,1,1,1,1,0,1,0] []) n
def A3s (b:LA) (a:Nat) (e:Bool) (f:LA) (c:Nat) (g:Bool):St:={ s:=[(0,(.imm b a 1 false e)),(1,(.imm f c 1 false g))],h:=[] }
def Bxt (N:Nat) (F:KF R):St→Option R:=Cg (Aoy N) [] N (A3q N F [1,1,1] [])
def Bxu (N:Nat) (F:KF R):St→Option R:=Ck (Aoy N) [] N (A3q N F [1,1,1] [])
theorem B0l (N:Nat)  (F:KF R) (b:LA) (a:Nat) (e:Bool) (f:LA) (c:Nat) (g:Bool):∀ (n j:Nat) (l m d:Int) (i:LA),A3r N F n (Aeq b a e f c g j l m d i)=(Wt N (Wu F) b a e f c g n j l m d i):=by
 intro n
 induction n with
 | zero=>intros;kernel_rfl
 | succ n ih =>
  intro j l m d i
  have e0:=funext fun j=>funext fun l=>funext fun m=>funext fun d=>funext fun i=>(show A3r N F n (Aeq b a e f c g j l m d i)=_ from ih j l m d i)
  have hK:A3r N F (n+1) (Aeq b a e f c g j l m d i)=(Agw N (Wu F) b a e f c g (fun j l m d i=>A3r N F n (Aeq b a e f c g j l m d i)) j l m d i):=by kernel_rfl
  exact hK.trans (by rw [e0];rfl)
theorem B0m (N:Nat)  (F:KF R) :∀ (b:LA) (a:Nat) (e:Bool) (f:LA) (c:Nat) (g:Bool),Bxu N F (A3s b a e f c g)=(A3o N (Wu F) b a e f c g):=by
 intro b a e f c g
 have e1:=funext fun j=>funext fun l=>funext fun m=>funext fun d=>funext fun i=>(show Bxs N F (Aeq b a e f c g j l m d i)=_ from (Ap ..).trans (B0l N F b a e f c g N j l m d i))
 have hK:Bxu N F (A3s b a e f c g)=(A9w N (Wu F) (fun j l m d i=>Bxs N F (Aeq b a e f c g j l m d i)) b a e f c g):=by kernel_rfl
 exact hK.trans (by rw [e1];rfl)
theorem Bhu (N:Nat) (q:LA) (r:Nat) (t o:Bool) (u:LA) (w:Nat) (x p:Bool) (F:KF R):Ab Tryz.prog muts (Bdh N) A3p N 176 [(.imm q r 1 t o),(.imm u w 1 x p)] [] F=(Brt N q r t o u w x p (Wu F)):=by
 have e1:=funext fun b=>funext fun a=>funext fun e=>funext fun f=>funext fun c=>funext fun g=>(show Bxt N F (A3s b a e f c g)=_ from (Aw ..).trans (B0m N F b a e f c g))
 have hK:Ab Tryz.prog muts (Bdh N) A3p N 176 [(.imm q r 1 t o),(.imm u w 1 x p)] [] F=(Boh N (Wu F) (fun b a e f c g=>Bxt N F (A3s b a e f c g)) q r t o u w x p):=by kernel_rfl
 rw [A9x]
 exact hK.trans (by rw [e1];rfl)
def Ar8 (N:Nat) (args:List AV) (h:Ak) (k:KF R):Option R :=
 match args,h with
 | [(.imm q r 1 t o),(.imm u w 1 x p)],[]=>(Brt N q r t o u w x p (Wu k))
 | _,_=>none
def Bxv (N:Nat):Tw:=⟨Ar8 N,fun args h k=>by
 unfold Ar8;split
 exact twE (Bhu ..) (Bhu ..)
 rfl⟩
theorem B7s (N:Nat):Ax Tryz.prog 176 (Bxv N):=fun args h res ae hh=>by
 change Ar8 N args h (fun v ae=>some (v,ae))=_ at hh
 unfold Ar8 at hh;split at hh
 exact Aa (T:=Bdh N) ⟨Ez N,trivial⟩ follows ((Bhu ..).trans hh)
 cases hh
def Bdi (N:Nat) (r0:Bool→Nat→LA→Option R)  (a:LA) (c:Bool) (b:LA) (d:Bool):Option R :=
 (rdB a fun n=>(rdB b fun o=>(cond (n==o) (rdB a fun p=>(rdL 1 (List.drop 1 a) fun q r=>(rdL 1 (List.drop 1 b) fun s t=>(Brt N q r false c s t false d (fun e f=>(Ij N p e f (fun u=>(r0 u e f)))))))) (rdL 1 (List.drop 1 a) fun w x=>(rdL 1 (List.drop 1 b) fun y z=>(Ay8 N w x false c y z false d (fun g aa i=>(cond aa (rdB a fun ab=>(Ij N ab g i (fun ac=>(r0 ac g i)))) (rdL 1 (List.drop 1 b) fun ad ae=>(rdL 1 (List.drop 1 a) fun af ag=>(Ay8 N ad ae false d af ag false c (fun j am l=>(rdB b fun ah=>(Ij N ah j l (fun ai=>(r0 ai j l))))))))))))))))
def Bdj (N:Nat) (a:LA) (c:Bool) (b:LA) (d:Bool) (r0:Bool→Nat→LA→Option R):Option R:=(Bdi N r0 a c b d)
def Bhv:=(Ai (@Bdj R)).1
theorem Ar9:@Bhv R=@Bdj R:=(Ai _).2
def Bxw:Hints:={ H:=(hS (hR [2,3,4]) (hS (hS (hR [2,3,4,13]) (hN [2,3,4] (hS (hR [4]) hL) hL)) (hS (hS (hR [2,3,4,5,6]) (hS (hR [2,3,4,5,30]) (hN [2,3,4] (hS (hR [4]) hL) hL))) (hS (hR [3,4,7]) (hS (hR [4]) hL))))),nils:=[],modes:=[],free:=[],cob:=[] }
def Bru (N:Nat):List (Nat×Tw):=[(176,Bxv N),(148,Sz N),(177,Bhq N)]
def Bhw  (F:KF R):Bool→Nat→LA→Option R:=(fun aj ak al=>F (.agg [(.bool aj),(.own 300000 0 ak)]) [(300000,⟨false,false,true,false,1,al,false⟩)])
theorem Bhx (N:Nat) (a:LA) (c:Bool) (b:LA) (d:Bool) (F:KF R):Ab Tryz.prog muts (Bru N) Bxw N 134 [(.pagg a c),(.pagg b d)] [] F=(Bhv N a c b d (Bhw F)):=by
 have hK:Ab Tryz.prog muts (Bru N) Bxw N 134 [(.pagg a c),(.pagg b d)] [] F=(Bdi N (Bhw F) a c b d):=by kernel_rfl
 rw [Ar9]
 exact hK
def Asa (N:Nat) (args:List AV) (h:Ak) (k:KF R):Option R :=
 match args,h with
 | [(.pagg a c),(.pagg b d)],[]=>(Bhv N a c b d (Bhw k))
 | _,_=>none
def Bxx (N:Nat):Tw:=⟨Asa N,fun args h k=>by
 unfold Asa;split
 exact twE (Bhx ..) (Bhx ..)
 rfl⟩
theorem B7t (N:Nat):Ax Tryz.prog 134 (Bxx N):=fun args h res m hh=>by
 change Asa N args h (fun v m=>some (v,m))=_ at hh
 unfold Asa at hh;split at hh
 exact Aa (T:=Bru N) ⟨B7s N,Aci N,Bxm N,trivial⟩ follows ((Bhx ..).trans hh)
 cases hh
def Asb (N:Nat)  (r0:LA→Option R) (c:Bool) (a:LA) (d:Bool) (b:LA)   :Option R :=
 (cond (Nat.ble 3 (List.length a)) (Kd N (List.take 3 a) c (fun l aa o p m=>(cond ((Nat.beq 0 0)&&((Nat.beq (List.length l) 2)&&(Nat.beq 2 2))) (cond (Nat.ble 3 (List.length b)) (Kd N (List.take 3 b) d (fun n ab r t q=>(cond ((Nat.beq 0 0)&&((Nat.beq (List.length n) 2)&&(Nat.beq 2 2))) (Dz N o p false m r t false q (fun ai=>(cond (ai==(0:Int)) (cond (Nat.ble 2 (List.length l)) (cond (Nat.ble 2 (List.length n)) (Bhv N (List.take 2 l) aa (List.take 2 n) ab (fun aj ac ak=>(Nz N [(.bool aj),(.imm (List.take (ac*1) ak) ac 1 false true)] true o p false m (fun u=>(cond ((Nat.beq 0 0)&&((Nat.beq (List.length u) 3)&&(Nat.beq 3 3))) (cond (Nat.ble 3 (List.length u)) (r0 (List.take 3 u)) none) none))))) none) none) (cond (Nat.ble 2 (List.length l)) (Arq N (List.take 2 l) aa [(.bool false),(.imm r t 1 false q)] (q||false) (fun al ad am=>(cond (Nat.ble 2 (List.length n)) (Arq N (List.take 2 n) ab [(.bool false),(.imm o p 1 false m)] (m||false) (fun an ae ao=>(Bhv N [(.bool al),(.imm (List.take (ad*1) am) ad 1 false true)] true [(.bool an),(.imm (List.take (ae*1) ao) ae 1 false true)] true (fun ap af aq=>(Arn N o p false m r t false q (fun ag ar=>(Nz N [(.bool ap),(.imm (List.take (af*1) aq) af 1 false true)] true (List.take (ag*1) ar) ag false true (fun w=>(cond ((Nat.beq 0 0)&&((Nat.beq (List.length w) 3)&&(Nat.beq 3 3))) (cond (Nat.ble 3 (List.length w)) (r0 (List.take 3 w)) none) none))))))))) none))) none)))) none))) none) none))) none)
def Aoz (N:Nat)  (r0:LA→Option R) (c:Bool) (a:LA) (d:Bool) (b:LA) :Option R:=(Asb N r0 c a d b)
def Asc (N:Nat)  (r0:LA→Option R) (g e i f:Int) (c:Bool) (a:LA) (d:Bool) (b:LA)  (q1:Option R) (j:Bool):Option R :=
 (cond j (Jd N (IntKind.wrap .i64 ((IntKind.wrap .i64 (g*f))+(IntKind.wrap .i64 (i*e)))) (IntKind.wrap .i64 (e*f)) (fun x=>(cond ((Nat.beq 0 0)&&((Nat.beq (List.length x) 3)&&(Nat.beq 3 3))) (cond (Nat.ble 3 (List.length x)) (r0 (List.take 3 x)) none) none))) q1)
def Wv (N:Nat)  (r0:LA→Option R) (g e i f:Int) (c:Bool) (a:LA) (d:Bool) (b:LA) (j:Bool):Option R:=(Asc N r0 g e i f c a d b (Aoz N r0 c a d b) j)
def Bdk (N:Nat) (r0:LA→Option R) (q0:Int→Int→Int→Int→Bool→Option R) (a:LA) (c:Bool) (b:LA) (d:Bool):Option R :=
 (cond (Nat.ble 3 (List.length a)) (Po N (List.take 3 a) c (fun au=>(cond (au==(0:Int)) (cond (Nat.ble 3 (List.length b)) (Ajs N (List.take 3 b) d (fun y=>(cond ((Nat.beq 0 0)&&((Nat.beq (List.length y) 3)&&(Nat.beq 3 3))) (cond (Nat.ble 3 (List.length y)) (r0 (List.take 3 y)) none) none))) none) (cond (Nat.ble 3 (List.length b)) (Po N (List.take 3 b) d (fun av=>(cond (av==(0:Int)) (cond (Nat.ble 3 (List.length a)) (Ajs N (List.take 3 a) c (fun z=>(cond ((Nat.beq 0 0)&&((Nat.beq (List.length z) 3)&&(Nat.beq 3 3))) (cond (Nat.ble 3 (List.length z)) (r0 (List.take 3 z)) none) none))) none) (cond (Nat.ble 3 (List.length a)) (Gf N (List.take 3 a) c (fun g e aw=>(cond (Nat.ble 3 (List.length b)) (Gf N (List.take 3 b) d (fun i f ax=>(cond (aw==true) (q0 g e i f (cond true ax false)) (q0 g e i f false)))) none))) none)))) none)))) none)
def Bdl (N:Nat) (a:LA) (c:Bool) (b:LA) (d:Bool) (r0:LA→Option R):Option R:=(Bdk N r0 (fun g e i f j=>(Wv N r0 g e i f c a d b j)) a c b d)
def Mi:=(Ai (@Bdl R)).1
theorem Asd:@Mi R=@Bdl R:=(Ai _).2
def A3t:Hints:={ H:=(hS (hR [2,3,4]) (hS (hS (hR [2,3,4,18]) (hN [2,3,4] (hS (hR [4]) hL) hL)) (hS (hS (hR [2,3,4,23]) (hN [2,3,4] (hS (hR [4]) hL) hL)) (hS (hR [2,3,4,5,6,7]) (hS (hR [2,3,4,5,6,7,8,9,10]) (hJ (hJ (hR [2,3,4,5,6,8,9,41]) (hN [2,3,4] (hS (hR [4]) hL) hL)) (hS (hR [3,4,11,12]) (hS (hR [4,11,12,13,14]) (hS (hS (hR [4,11,12,13,14,66]) (hN [4,11,12,13,14] (hS (hR [4]) hL) hL)) (hS (hR [4,12,14,15]) (hS (hR [4]) hL))))))))))),nils:=[],modes:=[(3,0)],free:=[],cob:=[] }
def Bdm (N:Nat):List (Nat×Tw):=[(95,Af0 N),(130,A9v N),(99,Zz N),(131,Tj N),(101,Rm N),(132,F2 N),(134,Bxx N),(133,Ac0 N),(103,A3i N),(135,Aom N)]
def Ao0 (N:Nat):Env:=mkE 86 A3t (Bdm N)
def B5i (N:Nat) (F:KF R):=Ao (Ao0 N) Tryz.f81 A3t.modes [] F
def A3u (N:Nat) (F:KF R):=atF (Ao0 N) [] N Tryz.f81 A3t (B5i N F)
def Ww  (F:KF R):LA→Option R:=(fun ay=>F (.pagg ay false) [])
def A3v (c:Bool) (a:LA) (d:Bool) (b:LA):St:={ s:=[(2,(.optr 300000 0)),(3,(.optr 300001 0)),(4,(.optr 300002 0))],h:=[(300000,⟨false,false,true,c,0,a,false⟩),(300001,⟨false,false,true,d,0,b,false⟩),(300002,⟨false,false,false,false,0,[(.bool false),.nsl,.nsl],false⟩)] }
def Bxy (N:Nat) (F:KF R):St→Option R:=Cg (Ao0 N) [] N (A3u N F [1,1,1,1,1,1] [])
def Bxz (N:Nat) (F:KF R):St→Option R:=Ck (Ao0 N) [] N (A3u N F [1,1,1,1,1,1] [])
def A3w (g e i f:Int) (c:Bool) (a:LA) (d:Bool) (b:LA) (j:Bool):St:={ s:=[(2,(.optr 300000 0)),(3,(.optr 300001 0)),(4,(.optr 300002 0)),(5,(.int .i64 g)),(6,(.int .i64 e)),(8,(.int .i64 i)),(9,(.int .i64 f)),(41,(.bool j))],h:=[(300000,⟨false,false,true,c,0,a,false⟩),(300001,⟨false,false,true,d,0,b,false⟩),(300002,⟨false,false,false,false,0,[(.bool false),.nsl,.nsl],false⟩)] }
def Bx0 (N:Nat) (F:KF R):St→Option R:=Cg (Ao0 N) [] N (A3u N F [1,1,1,1,1,0,1] [])
def Bx1 (N:Nat) (F:KF R):St→Option R:=Ck (Ao0 N) [] N (A3u N F [1,1,1,1,1,0,1] [])
theorem B0n (N:Nat)  (F:KF R) (c:Bool) (a:LA) (d:Bool) (b:LA):Bxz N F (A3v c a d b)=(Aoz N (Ww F) c a d b):=by
 have hK:Bxz N F (A3v c a d b)=(Asb N (Ww F) c a d b):=by kernel_rfl
 exact hK
theorem B0o (N:Nat)  (F:KF R) (g e i f:Int) (c:Bool) (a:LA) (d:Bool) (b:LA):∀ (j:Bool),Bx1 N F (A3w g e i f c a d b j)=(Wv N (Ww F) g e i f c a d b j):=by
 intro j
 have e1:=(show Bxy N F (A3v c a d b)=_ from (Aw ..).trans (B0n N F c a d b))
 have hK:Bx1 N F (A3w g e i f c a d b j)=(Asc N (Ww F) g e i f c a d b (Bxy N F (A3v c a d b)) j):=by kernel_rfl
 exact hK.trans (by rw [e1];rfl)
theorem Bhy (N:Nat) (a:LA) (c:Bool) (b:LA) (d:Bool) (F:KF R):Ab Tryz.prog muts (Bdm N) A3t N 81 [(.pagg a c),(.pagg b d)] [] F=(Mi N a c b d (Ww F)):=by
 have e1:=funext fun g=>funext fun e=>funext fun i=>funext fun f=>funext fun j=>(show Bx0 N F (A3w g e i f c a d b j)=_ from (Aw ..).trans (B0o N F g e i f c a d b j))
 have hK:Ab Tryz.prog muts (Bdm N) A3t N 81 [(.pagg a c),(.pagg b d)] [] F=(Bdk N (Ww F) (fun g e i f j=>Bx0 N F (A3w g e i f c a d b j)) a c b d):=by kernel_rfl
 rw [Asd]
 exact hK.trans (by rw [e1];rfl)
def Ase (N:Nat) (args:List AV) (h:Ak) (k:KF R):Option R :=
 match args,h with
 | [(.pagg a c),(.pagg b d)],[]=>(Mi N a c b d (Ww k))
 | _,_=>none
def Wx (N:Nat):Tw:=⟨Ase N,fun args h k=>by
 unfold Ase;split
 exact twE (Bhy ..) (Bhy ..)
 rfl⟩
theorem Aer (N:Nat):Ax Tryz.prog 81 (Wx N):=fun args h res ah hh=>by
 change Ase N args h (fun v ah=>some (v,ah))=_ at hh
 unfold Ase at hh;split at hh
 exact Aa (T:=Bdm N) ⟨Are N,Brs N,Ajn N,Agf N,Zx N,Im N,B7t N,Ar7 N,Bhf N,A3h N,trivial⟩ follows ((Bhy ..).trans hh)
 cases hh
def B0p (N:Nat) (r0:LA→Option R)  (a:LA) (b:Bool) (c:LA) (d:Bool):Option R :=
 (rdB a fun g=>(rdL 1 (List.drop 1 a) fun i j=>(rdL 1 (List.drop 2 a) fun l m=>(cond (Nat.beq (List.length a) 3) (rdB c fun n=>(rdL 1 (List.drop 1 c) fun o p=>(rdL 1 (List.drop 2 c) fun q r=>(cond (Nat.beq (List.length c) 3) (Mi N [(.bool g),(.imm i j 1 false b),(.imm l m 1 false b)] (b||(b||false)) [(.bool (!n)),(.imm o p 1 false d),(.imm q r 1 false d)] (d||(d||false)) (fun e=>(cond ((Nat.beq 0 0)&&((Nat.beq (List.length e) 3)&&(Nat.beq 3 3))) (cond (Nat.ble 3 (List.length e)) (r0 (List.take 3 e)) none) none))) none)))) none))))
def B0q (N:Nat) (a:LA) (b:Bool) (c:LA) (d:Bool) (r0:LA→Option R):Option R:=(B0p N r0 a b c d)
def Agx:=(Ai (@B0q R)).1
theorem Brv:@Agx R=@B0q R:=(Ai _).2
def Bx2:Hints:={ H:=(hS (hR [2,3,4]) (hS (hR [2,3,4]) (hS (hR [4]) hL))),nils:=[],modes:=[(3,0)],free:=[],cob:=[2,3] }
def Brw (N:Nat):List (Nat×Tw):=[(81,Wx N)]
def Bhz  (F:KF R):LA→Option R:=(fun s=>F (.pagg s false) [])
theorem Bh0 (N:Nat) (a:LA) (b:Bool) (c:LA) (d:Bool) (F:KF R):Ab Tryz.prog muts (Brw N) Bx2 N 83 [(.pagg a b),(.pagg c d)] [] F=(Agx N a b c d (Bhz F)):=by
 have hK:Ab Tryz.prog muts (Brw N) Bx2 N 83 [(.pagg a b),(.pagg c d)] [] F=(B0p N (Bhz F) a b c d):=by kernel_rfl
 rw [Brv]
 exact hK
def Asf (N:Nat) (args:List AV) (h:Ak) (k:KF R):Option R :=
 match args,h with
 | [(.pagg a b),(.pagg c d)],[]=>(Agx N a b c d (Bhz k))
 | _,_=>none
def A3x (N:Nat):Tw:=⟨Asf N,fun args h k=>by
 unfold Asf;split
 exact twE (Bh0 ..) (Bh0 ..)
 rfl⟩
theorem Bh1 (N:Nat):Ax Tryz.prog 83 (A3x N):=fun args h res f hh=>by
 change Asf N args h (fun v f=>some (v,f))=_ at hh
 unfold Asf at hh;split at hh
 exact Aa (T:=Brw N) ⟨Aer N,trivial⟩ follows ((Bh0 ..).trans hh)
 cases hh
def Boj (N:Nat) (r0:LA→Option R)  (a:LA) (c:Bool) (b:LA) (d:Bool):Option R :=
 (cond (Nat.ble 3 (List.length a)) (cond (Nat.ble 3 (List.length b)) (E6 N (List.take 3 a) c (List.take 3 b) d (fun i=>(cond (decide (i≤(0:Int))) (cond (Nat.ble 3 (List.length a)) (Ajs N (List.take 3 a) c (fun e=>(cond ((Nat.beq 0 0)&&((Nat.beq (List.length e) 3)&&(Nat.beq 3 3))) (cond (Nat.ble 3 (List.length e)) (r0 (List.take 3 e)) none) none))) none) (cond (Nat.ble 3 (List.length b)) (Ajs N (List.take 3 b) d (fun f=>(cond ((Nat.beq 0 0)&&((Nat.beq (List.length f) 3)&&(Nat.beq 3 3))) (cond (Nat.ble 3 (List.length f)) (r0 (List.take 3 f)) none) none))) none)))) none) none)
def Bok (N:Nat) (a:LA) (c:Bool) (b:LA) (d:Bool) (r0:LA→Option R):Option R:=(Boj N r0 a c b d)
def Bh2:=(Ai (@Bok R)).1
theorem A9y:@Bh2 R=@Bok R:=(Ai _).2
def Bx3:Hints:={ H:=(hS (hR [2,3,4]) (hS (hS (hR [2,3,4,8]) (hN [3,4] (hS (hR [4]) hL) hL)) (hS (hR [4]) hL))),nils:=[],modes:=[(3,0)],free:=[],cob:=[] }
def Brx (N:Nat):List (Nat×Tw):=[(59,Ky N),(130,A9v N)]
def Bh3  (F:KF R):LA→Option R:=(fun j=>F (.pagg j false) [])
theorem Bh4 (N:Nat) (a:LA) (c:Bool) (b:LA) (d:Bool) (F:KF R):Ab Tryz.prog muts (Brx N) Bx3 N 96 [(.pagg a c),(.pagg b d)] [] F=(Bh2 N a c b d (Bh3 F)):=by
 have hK:Ab Tryz.prog muts (Brx N) Bx3 N 96 [(.pagg a c),(.pagg b d)] [] F=(Boj N (Bh3 F) a c b d):=by kernel_rfl
 rw [A9y]
 exact hK
def Asg (N:Nat) (args:List AV) (h:Ak) (k:KF R):Option R :=
 match args,h with
 | [(.pagg a c),(.pagg b d)],[]=>(Bh2 N a c b d (Bh3 k))
 | _,_=>none
def Bx4 (N:Nat):Tw:=⟨Asg N,fun args h k=>by
 unfold Asg;split
 exact twE (Bh4 ..) (Bh4 ..)
 rfl⟩
theorem B7u (N:Nat):Ax Tryz.prog 96 (Bx4 N):=fun args h res g hh=>by
 change Asg N args h (fun v g=>some (v,g))=_ at hh
 unfold Asg at hh;split at hh
 exact Aa (T:=Brx N) ⟨O7 N,Brs N,trivial⟩ follows ((Bh4 ..).trans hh)
 cases hh
def A9z (N:Nat)  (r0:LA→Option R) (c:Bool) (a:LA) (d:Bool) (b:LA)   :Option R :=
 (cond (Nat.ble 3 (List.length a)) (Kd N (List.take 3 a) c (fun e n o p q=>(cond ((Nat.beq 0 0)&&((Nat.beq (List.length e) 2)&&(Nat.beq 2 2))) (cond (Nat.ble 3 (List.length b)) (Kd N (List.take 3 b) d (fun f r t u w=>(cond ((Nat.beq 0 0)&&((Nat.beq (List.length f) 2)&&(Nat.beq 2 2))) (cond (Nat.ble 2 (List.length e)) (cond (Nat.ble 2 (List.length f)) (Arq N (List.take 2 e) n (List.take 2 f) r (fun x j y=>(Arn N o p false q t u false w (fun l z=>(Nz N [(.bool x),(.imm (List.take (j*1) y) j 1 false true)] true (List.take (l*1) z) l false true (fun g=>(cond ((Nat.beq 0 0)&&((Nat.beq (List.length g) 3)&&(Nat.beq 3 3))) (cond (Nat.ble 3 (List.length g)) (r0 (List.take 3 g)) none) none))))))) none) none) none))) none) none))) none)
def A3y (N:Nat)  (r0:LA→Option R) (c:Bool) (a:LA) (d:Bool) (b:LA) :Option R:=(A9z N r0 c a d b)
def Bdn (N:Nat) (r0:LA→Option R) (q0:Option R) (a:LA) (c:Bool) (b:LA) (d:Bool):Option R :=
 (cond (Nat.ble 3 (List.length a)) (Gf N (List.take 3 a) c (fun aa ab ac=>(cond (Nat.ble 3 (List.length b)) (Gf N (List.take 3 b) d (fun ad ae af=>(cond (ac==true) (cond (cond true af false) (Jd N (IntKind.wrap .i64 (aa*ad)) (IntKind.wrap .i64 (ab*ae)) (fun i=>(cond ((Nat.beq 0 0)&&((Nat.beq (List.length i) 3)&&(Nat.beq 3 3))) (cond (Nat.ble 3 (List.length i)) (r0 (List.take 3 i)) none) none))) q0) q0))) none))) none)
def Bdo (N:Nat) (a:LA) (c:Bool) (b:LA) (d:Bool) (r0:LA→Option R):Option R:=(Bdn N r0 (A3y N r0 c a d b) a c b d)
def Ash:=(Ai (@Bdo R)).1
theorem Asi:@Ash R=@Bdo R:=(Ai _).2
def A3z:Hints:={ H:=(hS (hR [2,3,4]) (hS (hR [2,3,4,5,6,7]) (hS (hR [2,3,4,5,6,7,8,9,10]) (hJ (hS (hR [2,3,4,5,6,8,9,30]) (hN [2,3,4] (hS (hR [4]) hL) hL)) (hS (hR [3,4,11,12]) (hS (hR [4,11,12,13,14]) (hS (hR [4]) hL))))))),nils:=[],modes:=[(3,0)],free:=[],cob:=[] }
def Bdp (N:Nat):List (Nat×Tw):=[(99,Zz N),(131,Tj N),(101,Rm N),(103,A3i N),(135,Aom N),(133,Ac0 N)]
def Bdq (N:Nat):Env:=mkE 55 A3z (Bdp N)
def B5j (N:Nat) (F:KF R):=Ao (Bdq N) Tryz.f82 A3z.modes [] F
def Bx5 (N:Nat) (F:KF R):=atF (Bdq N) [] N Tryz.f82 A3z (B5j N F)
def Ao1  (F:KF R):LA→Option R:=(fun ag=>F (.pagg ag false) [])
def A30 (c:Bool) (a:LA) (d:Bool) (b:LA):St:={ s:=[(2,(.optr 300000 0)),(3,(.optr 300001 0)),(4,(.optr 300002 0))],h:=[(300000,⟨false,false,true,c,0,a,false⟩),(300001,⟨false,false,true,d,0,b,false⟩),(300002,⟨false,false,false,false,0,[(.bool false),.nsl,.nsl],false⟩)] }
def Bx6 (N:Nat) (F:KF R):St→Option R:=Cg (Bdq N) [] N (Bx5 N F [1,1,1,1] [])
def Bx7 (N:Nat) (F:KF R):St→Option R:=Ck (Bdq N) [] N (Bx5 N F [1,1,1,1] [])
theorem B0r (N:Nat)  (F:KF R) (c:Bool) (a:LA) (d:Bool) (b:LA):Bx7 N F (A30 c a d b)=(A3y N (Ao1 F) c a d b):=by
 have hK:Bx7 N F (A30 c a d b)=(A9z N (Ao1 F) c a d b):=by kernel_rfl
 exact hK
theorem Bh5 (N:Nat) (a:LA) (c:Bool) (b:LA) (d:Bool) (F:KF R):Ab Tryz.prog muts (Bdp N) A3z N 82 [(.pagg a c),(.pagg b d)] [] F=(Ash N a c b d (Ao1 F)):=by
 have e1:=(show Bx6 N F (A30 c a d b)=_ from (Aw ..).trans (B0r N F c a d b))
 have hK:Ab Tryz.prog muts (Bdp N) A3z N 82 [(.pagg a c),(.pagg b d)] [] F=(Bdn N (Ao1 F) (Bx6 N F (A30 c a d b)) a c b d):=by kernel_rfl
 rw [Asi]
 exact hK.trans (by rw [e1];rfl)
def Asj (N:Nat) (args:List AV) (h:Ak) (k:KF R):Option R :=
 match args,h with
 | [(.pagg a c),(.pagg b d)],[]=>(Ash N a c b d (Ao1 k))
 | _,_=>none
def Bh6 (N:Nat):Tw:=⟨Asj N,fun args h k=>by
 unfold Asj;split
 exact twE (Bh5 ..) (Bh5 ..)
 rfl⟩
theorem Bx8 (N:Nat):Ax Tryz.prog 82 (Bh6 N):=fun args h res m hh=>by
 change Asj N args h (fun v m=>some (v,m))=_ at hh
 unfold Asj at hh;split at hh
 exact Aa (T:=Bdp N) ⟨Ajn N,Agf N,Zx N,Bhf N,A3h N,Ar7 N,trivial⟩ follows ((Bh5 ..).trans hh)
 cases hh
def Bh7 (N:Nat) (r0:LA→Option R)  (a:LA) (b:Bool):Option R :=
 (cond (Nat.ble 2 (List.length a)) (rdL 1 (List.drop 2 a) fun e f=>(O3 N (List.take 2 a) b [(.bool false),(.imm e f 1 false b)] (b||false) (fun c=>(cond ((Nat.beq 0 0)&&((Nat.beq (List.length c) 3)&&(Nat.beq 3 3))) (cond (Nat.ble 3 (List.length c)) (r0 (List.take 3 c)) none) none)))) none)
def Bh8 (N:Nat) (a:LA) (b:Bool) (r0:LA→Option R):Option R:=(Bh7 N r0 a b)
def It:=(Ai (@Bh8 R)).1
theorem Bdr:@It R=@Bh8 R:=(Ai _).2
def Blp:Hints:={ H:=(hS (hR [1,2]) (hS (hR [2]) hL)),nils:=[],modes:=[(3,0)],free:=[],cob:=[] }
def A90 (N:Nat):List (Nat×Tw):=[(54,Rk N)]
def Aze  (F:KF R):LA→Option R:=(fun g=>F (.pagg g false) [])
theorem Azf (N:Nat) (a:LA) (b:Bool) (F:KF R):Ab Tryz.prog muts (A90 N) Blp N 70 [(.pagg a b)] [] F=(It N a b (Aze F)):=by
 have hK:Ab Tryz.prog muts (A90 N) Blp N 70 [(.pagg a b)] [] F=(Bh7 N (Aze F) a b):=by kernel_rfl
 rw [Bdr]
 exact hK
def Ac1 (N:Nat) (args:List AV) (h:Ak) (k:KF R):Option R :=
 match args,h with
 | [(.pagg a b)],[]=>(It N a b (Aze k))
 | _,_=>none
def Mj (N:Nat):Tw:=⟨Ac1 N,fun args h k=>by
 unfold Ac1;split
 exact twE (Azf ..) (Azf ..)
 rfl⟩
theorem Rq (N:Nat):Ax Tryz.prog 70 (Mj N):=fun args h res d hh=>by
 change Ac1 N args h (fun v d=>some (v,d))=_ at hh
 unfold Ac1 at hh;split at hh
 exact Aa (T:=A90 N) ⟨Zw N,trivial⟩ follows ((Azf ..).trans hh)
 cases hh
def Bry (N:Nat) (r0:LA→Option R)  (a:LA) (b:Bool):Option R :=
 (cond (Nat.ble 3 (List.length a)) (It N (List.take 3 a) b (fun d=>(rdL 1 (List.drop 2 d) fun e f=>(r0 [(.bool false),(.imm e f 1 false false)])))) none)
def Brz (N:Nat) (a:LA) (b:Bool) (r0:LA→Option R):Option R:=(Bry N r0 a b)
def Ts:=(Ai (@Brz R)).1
theorem Blq:@Ts R=@Brz R:=(Ai _).2
def Br0:Hints:={ H:=(hS (hR [1,2]) (hS (hR [2]) hL)),nils:=[],modes:=[(3,0)],free:=[],cob:=[] }
def Bh9 (N:Nat):List (Nat×Tw):=[(70,Mj N)]
def A91  (F:KF R):LA→Option R:=(fun g=>F (.pagg g false) [])
theorem A92 (N:Nat) (a:LA) (b:Bool) (F:KF R):Ab Tryz.prog muts (Bh9 N) Br0 N 73 [(.pagg a b)] [] F=(Ts N a b (A91 F)):=by
 have hK:Ab Tryz.prog muts (Bh9 N) Br0 N 73 [(.pagg a b)] [] F=(Bry N (A91 F) a b):=by kernel_rfl
 rw [Blq]
 exact hK
def Aju (N:Nat) (args:List AV) (h:Ak) (k:KF R):Option R :=
 match args,h with
 | [(.pagg a b)],[]=>(Ts N a b (A91 k))
 | _,_=>none
def Ask (N:Nat):Tw:=⟨Aju N,fun args h k=>by
 unfold Aju;split
 exact twE (A92 ..) (A92 ..)
 rfl⟩
theorem A93 (N:Nat):Ax Tryz.prog 73 (Ask N):=fun args h res c hh=>by
 change Aju N args h (fun v c=>some (v,c))=_ at hh
 unfold Aju at hh;split at hh
 exact Aa (T:=Bh9 N) ⟨Rq N,trivial⟩ follows ((A92 ..).trans hh)
 cases hh
def Br1 (N:Nat) (r0:LA→Option R)  (a:LA) (b:Bool):Option R :=
 (cond (Nat.ble 3 (List.length a)) (It N (List.take 3 a) b (fun d=>(cond (Nat.ble 2 (List.length d)) (Acg N (List.take 2 d) false (fun f=>(cond (Nat.ble 3 (List.length a)) (Ts N (List.take 3 a) b (fun g=>(O3 N f false g false (fun c=>(cond ((Nat.beq 0 0)&&((Nat.beq (List.length c) 3)&&(Nat.beq 3 3))) (cond (Nat.ble 3 (List.length c)) (r0 (List.take 3 c)) none) none))))) none))) none))) none)
def Br2 (N:Nat) (a:LA) (b:Bool) (r0:LA→Option R):Option R:=(Br1 N r0 a b)
def Bds:=(Ai (@Br2 R)).1
theorem Blr:@Bds R=@Br2 R:=(Ai _).2
def Br3:Hints:={ H:=(hS (hR [1,2]) (hS (hR [2]) hL)),nils:=[],modes:=[(3,0)],free:=[],cob:=[] }
def Bia (N:Nat):List (Nat×Tw):=[(70,Mj N),(92,Aqy N),(73,Ask N),(54,Rk N)]
def A94  (F:KF R):LA→Option R:=(fun i=>F (.pagg i false) [])
theorem A95 (N:Nat) (a:LA) (b:Bool) (F:KF R):Ab Tryz.prog muts (Bia N) Br3 N 74 [(.pagg a b)] [] F=(Bds N a b (A94 F)):=by
 have hK:Ab Tryz.prog muts (Bia N) Br3 N 74 [(.pagg a b)] [] F=(Br1 N (A94 F) a b):=by kernel_rfl
 rw [Blr]
 exact hK
def Ajv (N:Nat) (args:List AV) (h:Ak) (k:KF R):Option R :=
 match args,h with
 | [(.pagg a b)],[]=>(Bds N a b (A94 k))
 | _,_=>none
def Br4 (N:Nat):Tw:=⟨Ajv N,fun args h k=>by
 unfold Ajv;split
 exact twE (A95 ..) (A95 ..)
 rfl⟩
theorem B5k (N:Nat):Ax Tryz.prog 74 (Br4 N):=fun args h res e hh=>by
 change Ajv N args h (fun v e=>some (v,e))=_ at hh
 unfold Ajv at hh;split at hh
 exact Aa (T:=Bia N) ⟨Rq N,A8n N,A93 N,Zw N,trivial⟩ follows ((A95 ..).trans hh)
 cases hh
def Ajw (N:Nat) (k0:Nat→Int→LA→Option R) (r0:Nat→LA→Option R) (d:LA) (b:Nat) (f g:Bool) (e:LA) (a:Nat) (i j:Bool) (c:Nat) (k1:Int→Int→Int→LA→Option R)  (l p m:Int) (o:LA):Option R :=
 (cond (decide (m<((a:Nat):Int))) (cond (Aj (IntKind.wrap .i64 (l+m)) c) (rdI .u32 (List.drop (0+((Int.toNat (IntKind.wrap .i64 (l+m)))*1)) o) fun t=>(cond (Aj l b) (rdI .u32 (List.drop ((Int.toNat l)*1) d) fun u=>(cond (Aj m a) (rdI .u32 (List.drop ((Int.toNat m)*1) e) fun w=>(cond (Aj (IntKind.wrap .i64 (l+m)) c) (cond ((Nat.beq 1 1)&&((Nat.ble ((0+((Int.toNat (IntKind.wrap .i64 (l+m)))*1))+1) (List.length o))&&(!false))) (k1 l (Int.fdiv (IntKind.wrap .u64 (p+(IntKind.wrap .u64 ((IntKind.wrap .u64 t)+(IntKind.wrap .u64 ((IntKind.wrap .u64 u)*(IntKind.wrap .u64 w))))))) (2 ^ 32)) (IntKind.wrap .i64 (m+(1:Int))) (List.set o (0+((Int.toNat (IntKind.wrap .i64 (l+m)))*1)) (.int .u32 (IntKind.wrap .u32 (IntKind.wrap .u64 (p+(IntKind.wrap .u64 ((IntKind.wrap .u64 t)+(IntKind.wrap .u64 ((IntKind.wrap .u64 u)*(IntKind.wrap .u64 w))))))))))) none) none)) none)) none)) none) (cond (Aj (IntKind.wrap .i64 (l+((a:Nat):Int))) c) (cond ((Nat.beq 1 1)&&((Nat.ble ((0+((Int.toNat (IntKind.wrap .i64 (l+((a:Nat):Int))))*1))+1) (List.length o))&&(!false))) (k0 c (IntKind.wrap .i64 (l+(1:Int))) (List.set o (0+((Int.toNat (IntKind.wrap .i64 (l+((a:Nat):Int))))*1)) (.int .u32 (IntKind.wrap .u32 p)))) none) none))
def Q3 (N:Nat) (k0:Nat→Int→LA→Option R) (r0:Nat→LA→Option R) (d:LA) (b:Nat) (f g:Bool) (e:LA) (a:Nat) (i j:Bool) (c:Nat):Nat→Int→Int→Int→LA→Option R
 | 0,_,_,_,_=>none
 | n+1,l,p,m,o=>(Ajw N k0 r0 d b f g e a i j c (Q3 N k0 r0 d b f g e a i j c n) l p m o)
def Ajx (N:Nat)  (r0:Nat→LA→Option R) (d:LA) (b:Nat) (f g:Bool) (e:LA) (a:Nat) (i j:Bool) (k0:Nat→Int→LA→Option R) (q1:Int→Int→Int→LA→Option R) (c:Nat) (q:Int) (r:LA):Option R :=
 (cond (decide (q<((b:Nat):Int))) (q1 q 0 0 r) (Dr N (List.take (c*1) r) c false true (fun y z=>(r0 y z))))
def Jt (N:Nat)  (r0:Nat→LA→Option R) (d:LA) (b:Nat) (f g:Bool) (e:LA) (a:Nat) (i j:Bool):Nat→Nat→Int→LA→Option R
 | 0,_,_,_=>none
 | n+1,c,q,r=>(Ajx N r0 d b f g e a i j (Jt N r0 d b f g e a i j n) (fun l p m o=>(Q3 N (Jt N r0 d b f g e a i j n) r0 d b f g e a i j c N l p m o)) c q r)
def Br5 (N:Nat) (r0:Nat→LA→Option R) (q0:Nat→Int→LA→Option R) (d:LA) (b:Nat) (f g:Bool) (e:LA) (a:Nat) (i j:Bool):Option R :=
 (cond ((decide ((0:Int)≤(IntKind.wrap .i64 (((b:Nat):Int)+((a:Nat):Int)))))&&((decide ((IntKind.wrap .i64 (((b:Nat):Int)+((a:Nat):Int)))≤(IntKind.wrap .i64 (((b:Nat):Int)+((a:Nat):Int)))))&&((decide ((IntKind.wrap .i64 (((b:Nat):Int)+((a:Nat):Int)))≤(140737488355328:Int)))&&(decide (((IntKind.wrap .i64 (((b:Nat):Int)+((a:Nat):Int)))*((4:Nat):Int))≤(140737488355328:Int)))))) (q0 (Int.toNat (IntKind.wrap .i64 (((b:Nat):Int)+((a:Nat):Int)))) 0 (List.replicate (Int.toNat (IntKind.wrap .i64 (((b:Nat):Int)+((a:Nat):Int)))) (.int .u32 0))) none)
def Br6 (N:Nat) (d:LA) (b:Nat) (f g:Bool) (e:LA) (a:Nat) (i j:Bool) (r0:Nat→LA→Option R):Option R:=(Br5 N r0 (fun c q r=>(Jt N r0 d b f g e a i j N c q r)) d b f g e a i j)
def Bdt:=(Ai (@Br6 R)).1
theorem Bls:@Bdt R=@Br6 R:=(Ai _).2
def Asl:Hints:={ H:=(hS (hR [0,1]) (hS (hR [0,1,5]) (hS (hS (hR [0,1,5,6]) (hN [5] (hN [0,1,5,6] (hS (hS (hR [0,1,5,6,18]) (hN [0,1,5,6] hL hL)) (hS (hN [0,1,5,6] (hS (hR [0,1,5,6,7]) (hS (hS (hR [0,1,5,6,7,8]) (hN [0,1,5,6,7] (hN [0,1,5,6,7,8] (hS (hS (hR [0,1,5,6,7,8,24]) (hN [0,1,5,6,7,8] hL hL)) (hS (hN [0,1,5,6,7,8] (hS (hR [0,1,5,6,7,8]) (hS (hR [0,1,5,6,7,8]) (hR [0,1,5,6,7,8]))) hL) (hR [0,1,5,6,7,8]))) hL) hL)) (hR [0,1,5,6]))) hL) (hR [0,1,5,6]))) hL) hL)) (hS (hR [4]) hL)))),nils:=[(4,1)],modes:=[(2,1)],free:=[],cob:=[] }
def A31 (N:Nat):List (Nat×Tw):=[(143,Er N)]
def Aes (N:Nat):Env:=mkE 67 Asl (A31 N)
def B25 (N:Nat) (F:KF R):=Ao (Aes N) Tryz.f124 Asl.modes [] F
def Asm (N:Nat) (F:KF R):=atF (Aes N) [] N Tryz.f124 Asl (B25 N F)
def Ju  (F:KF R):Nat→LA→Option R:=(fun aa ab=>F (.own 300000 0 aa) [(300000,⟨false,false,true,false,1,ab,false⟩)])
def Wy (d:LA) (b:Nat) (f g:Bool) (e:LA) (a:Nat) (i j:Bool) (c:Nat) (l p m:Int) (o:LA):St:={ s:=[(0,(.imm d b 1 f g)),(1,(.imm e a 1 i j)),(5,(.own 300000 0 c)),(6,(.int .i64 l)),(7,(.int .u64 p)),(8,(.int .i64 m))],h:=[(300000,⟨false,false,true,false,1,o,false⟩)] }
def Br7 (N:Nat) (F:KF R) (Q0:St→Option R):St→Option R:=Bq (Aes N) [] N (Asm N F [1,1,0,1,0,0,1,0,0,1,0,1,0] [Q0]) N
def Asn (N:Nat) (F:KF R) (Q0:St→Option R) (n:Nat):St→Option R:=A4 (Aes N) [] N (Asm N F [1,1,0,1,0,0,1,0,0,1,0,1,0] [Q0]) n
def Mk (d:LA) (b:Nat) (f g:Bool) (e:LA) (a:Nat) (i j:Bool) (c:Nat) (q:Int) (r:LA):St:={ s:=[(0,(.imm d b 1 f g)),(1,(.imm e a 1 i j)),(5,(.own 300000 0 c)),(6,(.int .i64 q))],h:=[(300000,⟨false,false,true,false,1,r,false⟩)] }
def Br8 (N:Nat) (F:KF R):St→Option R:=Bq (Aes N) [] N (Asm N F [1,1,0,1,0] []) N
def Q4 (N:Nat) (F:KF R) (n:Nat):St→Option R:=A4 (Aes N) [] N (Asm N F [1,1,0,1,0] []) n
theorem Bv1 (N:Nat) (Q0:St→Option R) (F:KF R) (d:LA) (b:Nat) (f g:Bool) (e:LA) (a:Nat) (i j:Bool) (c:Nat):∀ (n:Nat) (l p m:Int) (o:LA),Asn N F Q0 n (Wy d b f g e a i j c l p m o)=(Q3 N (fun c q r=>Q0 (Mk d b f g e a i j c q r)) (Ju F) d b f g e a i j c n l p m o):=by
 intro n
 induction n with
 | zero=>intros;kernel_rfl
 | succ n ih =>
  intro l p m o
  have e0:=funext fun l=>funext fun p=>funext fun m=>funext fun o=>(show Asn N F Q0 n (Wy d b f g e a i j c l p m o)=_ from ih l p m o)
  have hK:Asn N F Q0 (n+1) (Wy d b f g e a i j c l p m o)=(Ajw N (fun c q r=>Q0 (Mk d b f g e a i j c q r)) (Ju F) d b f g e a i j c (fun l p m o=>Asn N F Q0 n (Wy d b f g e a i j c l p m o)) l p m o):=by kernel_rfl
  exact hK.trans (by rw [e0];rfl)
theorem Bv2 (N:Nat)  (F:KF R) (d:LA) (b:Nat) (f g:Bool) (e:LA) (a:Nat) (i j:Bool):∀ (n c:Nat) (q:Int) (r:LA),Q4 N F n (Mk d b f g e a i j c q r)=(Jt N (Ju F) d b f g e a i j n c q r):=by
 intro n
 induction n with
 | zero=>intros;kernel_rfl
 | succ n ih =>
  intro c q r
  have e0:=funext fun c=>funext fun q=>funext fun r=>(show Q4 N F n (Mk d b f g e a i j c q r)=_ from ih c q r)
  have e1:(fun l p m o=>Br7 N F (Q4 N F n) (Wy d b f g e a i j c l p m o))=(fun l p m o=>(Q3 N (Jt N (Ju F) d b f g e a i j n) (Ju F) d b f g e a i j c N l p m o)):=by funext l;funext p;funext m;funext o;exact ((Ap ..).trans (Bv1 N (Q4 N F n) F d b f g e a i j c N l p m o)).trans (by rw [e0])
  have hK:Q4 N F (n+1) (Mk d b f g e a i j c q r)=(Ajx N (Ju F) d b f g e a i j (fun c q r=>Q4 N F n (Mk d b f g e a i j c q r)) (fun l p m o=>Br7 N F (Q4 N F n) (Wy d b f g e a i j c l p m o)) c q r):=by kernel_rfl
  exact hK.trans (by rw [e0,e1];rfl)
theorem A96 (N:Nat) (d:LA) (b:Nat) (f g:Bool) (e:LA) (a:Nat) (i j:Bool) (F:KF R):Ab Tryz.prog muts (A31 N) Asl N 124 [(.imm d b 1 f g),(.imm e a 1 i j)] [] F=(Bdt N d b f g e a i j (Ju F)):=by
 have e1:=funext fun c=>funext fun q=>funext fun r=>(show Br8 N F (Mk d b f g e a i j c q r)=_ from (Ap ..).trans (Bv2 N F d b f g e a i j N c q r))
 have hK:Ab Tryz.prog muts (A31 N) Asl N 124 [(.imm d b 1 f g),(.imm e a 1 i j)] [] F=(Br5 N (Ju F) (fun c q r=>Br8 N F (Mk d b f g e a i j c q r)) d b f g e a i j):=by kernel_rfl
 rw [Bls]
 exact hK.trans (by rw [e1];rfl)
def Ajy (N:Nat) (args:List AV) (h:Ak) (k:KF R):Option R :=
 match args,h with
 | [(.imm d b 1 f g),(.imm e a 1 i j)],[]=>(Bdt N d b f g e a i j (Ju k))
 | _,_=>none
def Br9 (N:Nat):Tw:=⟨Ajy N,fun args h k=>by
 unfold Ajy;split
 exact twE (A96 ..) (A96 ..)
 rfl⟩
theorem B5l (N:Nat):Ax Tryz.prog 124 (Br9 N):=fun args h res x hh=>by
 change Ajy N args h (fun v x=>some (v,x))=_ at hh
 unfold Ajy at hh;split at hh
 exact Aa (T:=A31 N) ⟨Fp N,trivial⟩ follows ((A96 ..).trans hh)
 cases hh
def Bsa (N:Nat) (r0:LA→Option R)  (a:LA) (c:Bool) (b:LA) (d:Bool):Option R :=
 (rdB a fun i=>(rdB b fun j=>(rdL 1 (List.drop 1 a) fun l m=>(rdL 1 (List.drop 1 b) fun n o=>(Bdt N l m false c n o false d (fun f p=>(Fg N (!(i==j)) (List.take (f*1) p) f false true (fun e=>(cond ((Nat.beq 0 0)&&((Nat.beq (List.length e) 2)&&(Nat.beq 2 2))) (cond (Nat.ble 2 (List.length e)) (r0 (List.take 2 e)) none) none)))))))))
def Bsb (N:Nat) (a:LA) (c:Bool) (b:LA) (d:Bool) (r0:LA→Option R):Option R:=(Bsa N r0 a c b d)
def Yo:=(Ai (@Bsb R)).1
theorem Blt:@Yo R=@Bsb R:=(Ai _).2
def Bsc:Hints:={ H:=(hS (hR [2,3,4]) (hS (hR [4]) hL)),nils:=[],modes:=[(3,0)],free:=[],cob:=[] }
def Bib (N:Nat):List (Nat×Tw):=[(124,Br9 N),(93,Hc N)]
def A97  (F:KF R):LA→Option R:=(fun q=>F (.pagg q false) [])
theorem A98 (N:Nat) (a:LA) (c:Bool) (b:LA) (d:Bool) (F:KF R):Ab Tryz.prog muts (Bib N) Bsc N 72 [(.pagg a c),(.pagg b d)] [] F=(Yo N a c b d (A97 F)):=by
 have hK:Ab Tryz.prog muts (Bib N) Bsc N 72 [(.pagg a c),(.pagg b d)] [] F=(Bsa N (A97 F) a c b d):=by kernel_rfl
 rw [Blt]
 exact hK
def Ajz (N:Nat) (args:List AV) (h:Ak) (k:KF R):Option R :=
 match args,h with
 | [(.pagg a c),(.pagg b d)],[]=>(Yo N a c b d (A97 k))
 | _,_=>none
def A99 (N:Nat):Tw:=⟨Ajz N,fun args h k=>by
 unfold Ajz;split
 exact twE (A98 ..) (A98 ..)
 rfl⟩
theorem Bsd (N:Nat):Ax Tryz.prog 72 (A99 N):=fun args h res g hh=>by
 change Ajz N args h (fun v g=>some (v,g))=_ at hh
 unfold Ajz at hh;split at hh
 exact Aa (T:=Bib N) ⟨B5l N,Ja N,trivial⟩ follows ((A98 ..).trans hh)
 cases hh
def Bse (N:Nat) (r0:LA→Option R)  (a:LA) (c:Bool) (b:LA) (d:Bool):Option R :=
 (cond (Nat.ble 3 (List.length a)) (It N (List.take 3 a) c (fun e=>(cond (Nat.ble 3 (List.length b)) (It N (List.take 3 b) d (fun f=>(cond ((Nat.beq 0 0)&&((Nat.beq (List.length e) 3)&&(Nat.beq 3 3))) (cond ((Nat.beq 0 0)&&((Nat.beq (List.length f) 3)&&(Nat.beq 3 3))) (cond (Nat.ble 2 (List.length e)) (cond (Nat.ble 3 (List.length b)) (Ts N (List.take 3 b) d (fun j=>(Yo N (List.take 2 e) false j false (fun l=>(cond (Nat.ble 2 (List.length f)) (cond (Nat.ble 3 (List.length a)) (Ts N (List.take 3 a) c (fun m=>(Yo N (List.take 2 f) false m false (fun n=>(Acf N l false n false (fun o=>(cond (Nat.ble 3 (List.length a)) (Ts N (List.take 3 a) c (fun p=>(cond (Nat.ble 3 (List.length b)) (Ts N (List.take 3 b) d (fun q=>(Yo N p false q false (fun r=>(O3 N o false r false (fun g=>(cond ((Nat.beq 0 0)&&((Nat.beq (List.length g) 3)&&(Nat.beq 3 3))) (cond (Nat.ble 3 (List.length g)) (r0 (List.take 3 g)) none) none))))))) none))) none))))))) none) none))))) none) none) none) none))) none))) none)
def Bsf (N:Nat) (a:LA) (c:Bool) (b:LA) (d:Bool) (r0:LA→Option R):Option R:=(Bse N r0 a c b d)
def Lw:=(Ai (@Bsf R)).1
theorem Blu:@Lw R=@Bsf R:=(Ai _).2
def Bsg:Hints:={ H:=(hS (hR [2,3,4]) (hS (hR [2,3,4,5,6]) (hS (hR [4]) hL))),nils:=[],modes:=[(3,0)],free:=[],cob:=[] }
def Bic (N:Nat):List (Nat×Tw):=[(70,Mj N),(73,Ask N),(72,A99 N),(71,Aqx N),(54,Rk N)]
def Baa  (F:KF R):LA→Option R:=(fun s=>F (.pagg s false) [])
theorem Bab (N:Nat) (a:LA) (c:Bool) (b:LA) (d:Bool) (F:KF R):Ab Tryz.prog muts (Bic N) Bsg N 32 [(.pagg a c),(.pagg b d)] [] F=(Lw N a c b d (Baa F)):=by
 have hK:Ab Tryz.prog muts (Bic N) Bsg N 32 [(.pagg a c),(.pagg b d)] [] F=(Bse N (Baa F) a c b d):=by kernel_rfl
 rw [Blu]
 exact hK
def Aj0 (N:Nat) (args:List AV) (h:Ak) (k:KF R):Option R :=
 match args,h with
 | [(.pagg a c),(.pagg b d)],[]=>(Lw N a c b d (Baa k))
 | _,_=>none
def Ml (N:Nat):Tw:=⟨Aj0 N,fun args h k=>by
 unfold Aj0;split
 exact twE (Bab ..) (Bab ..)
 rfl⟩
theorem Q5 (N:Nat):Ax Tryz.prog 32 (Ml N):=fun args h res i hh=>by
 change Aj0 N args h (fun v i=>some (v,i))=_ at hh
 unfold Aj0 at hh;split at hh
 exact Aa (T:=Bic N) ⟨Rq N,A93 N,Bsd N,A8k N,Zw N,trivial⟩ follows ((Bab ..).trans hh)
 cases hh
def Bsh (N:Nat) (r0:LA→Option R)  (a:LA) (c:Bool) (b:LA) (d:Bool):Option R :=
 (cond (Nat.ble 3 (List.length a)) (cond (Nat.ble 3 (List.length b)) (Bds N (List.take 3 b) d (fun g=>(Lw N (List.take 3 a) c g false (fun e=>(cond ((Nat.beq 0 0)&&((Nat.beq (List.length e) 3)&&(Nat.beq 3 3))) (cond (Nat.ble 3 (List.length e)) (r0 (List.take 3 e)) none) none))))) none) none)
def Bsi (N:Nat) (a:LA) (c:Bool) (b:LA) (d:Bool) (r0:LA→Option R):Option R:=(Bsh N r0 a c b d)
def Tt:=(Ai (@Bsi R)).1
theorem Blv:@Tt R=@Bsi R:=(Ai _).2
def Bsj:Hints:={ H:=(hS (hR [2,3,4]) (hS (hR [4]) hL)),nils:=[],modes:=[(3,0)],free:=[],cob:=[] }
def Bid (N:Nat):List (Nat×Tw):=[(74,Br4 N),(32,Ml N)]
def Bac  (F:KF R):LA→Option R:=(fun i=>F (.pagg i false) [])
theorem Bad (N:Nat) (a:LA) (c:Bool) (b:LA) (d:Bool) (F:KF R):Ab Tryz.prog muts (Bid N) Bsj N 33 [(.pagg a c),(.pagg b d)] [] F=(Tt N a c b d (Bac F)):=by
 have hK:Ab Tryz.prog muts (Bid N) Bsj N 33 [(.pagg a c),(.pagg b d)] [] F=(Bsh N (Bac F) a c b d):=by kernel_rfl
 rw [Blv]
 exact hK
def Aj1 (N:Nat) (args:List AV) (h:Ak) (k:KF R):Option R :=
 match args,h with
 | [(.pagg a c),(.pagg b d)],[]=>(Tt N a c b d (Bac k))
 | _,_=>none
def Agy (N:Nat):Tw:=⟨Aj1 N,fun args h k=>by
 unfold Aj1;split
 exact twE (Bad ..) (Bad ..)
 rfl⟩
theorem Aso (N:Nat):Ax Tryz.prog 33 (Agy N):=fun args h res f hh=>by
 change Aj1 N args h (fun v f=>some (v,f))=_ at hh
 unfold Aj1 at hh;split at hh
 exact Aa (T:=Bid N) ⟨B5k N,Q5 N,trivial⟩ follows ((Bad ..).trans hh)
 cases hh
def Bie (N:Nat) (r0:Int→Option R)  (a:LA) (b:Bool):Option R :=
 (cond (Nat.ble 3 (List.length a)) (It N (List.take 3 a) b (fun c=>(cond (Nat.ble 2 (List.length c)) (Afl N (List.take 2 c) false (fun e=>(r0 e))) none))) none)
def Bif (N:Nat) (a:LA) (b:Bool) (r0:Int→Option R):Option R:=(Bie N r0 a b)
def Z4:=(Ai (@Bif R)).1
theorem Bdu:@Z4 R=@Bif R:=(Ai _).2
def Blw:Hints:={ H:=(hS (hR [1]) (hS (hR [2]) hL)),nils:=[],modes:=[],free:=[],cob:=[] }
def Bae (N:Nat):List (Nat×Tw):=[(70,Mj N),(75,Axo N)]
def Azg  (F:KF R):Int→Option R:=(fun f=>F (.int .i64 f) [])
theorem Azh (N:Nat) (a:LA) (b:Bool) (F:KF R):Ab Tryz.prog muts (Bae N) Blw N 34 [(.pagg a b)] [] F=(Z4 N a b (Azg F)):=by
 have hK:Ab Tryz.prog muts (Bae N) Blw N 34 [(.pagg a b)] [] F=(Bie N (Azg F) a b):=by kernel_rfl
 rw [Bdu]
 exact hK
def Ac2 (N:Nat) (args:List AV) (h:Ak) (k:KF R):Option R :=
 match args,h with
 | [(.pagg a b)],[]=>(Z4 N a b (Azg k))
 | _,_=>none
def Azi (N:Nat):Tw:=⟨Ac2 N,fun args h k=>by
 unfold Ac2;split
 exact twE (Azh ..) (Azh ..)
 rfl⟩
theorem Blx (N:Nat):Ax Tryz.prog 34 (Azi N):=fun args h res d hh=>by
 change Ac2 N args h (fun v d=>some (v,d))=_ at hh
 unfold Ac2 at hh;split at hh
 exact Aa (T:=Bae N) ⟨Rq N,Bk0 N,trivial⟩ follows ((Azh ..).trans hh)
 cases hh
def Asp (N:Nat) (r0:Int→Option R)  (a:LA) (c:Bool) (b:LA) (d:Bool):Option R :=
 (cond (Nat.ble 3 (List.length a)) (cond (Nat.ble 3 (List.length b)) (Tt N (List.take 3 a) c (List.take 3 b) d (fun f=>(Z4 N f false (fun g=>(r0 g))))) none) none)
def Asq (N:Nat) (a:LA) (c:Bool) (b:LA) (d:Bool) (r0:Int→Option R):Option R:=(Asp N r0 a c b d)
def Cf:=(Ai (@Asq R)).1
theorem Avy:@Cf R=@Asq R:=(Ai _).2
def Azj:Hints:={ H:=(hS (hR [2,3]) (hS (hR [4]) hL)),nils:=[],modes:=[],free:=[],cob:=[] }
def Amn (N:Nat):List (Nat×Tw):=[(33,Agy N),(34,Azi N)]
def Agz  (F:KF R):Int→Option R:=(fun i=>F (.int .i64 i) [])
theorem Ag0 (N:Nat) (a:LA) (c:Bool) (b:LA) (d:Bool) (F:KF R):Ab Tryz.prog muts (Amn N) Azj N 25 [(.pagg a c),(.pagg b d)] [] F=(Cf N a c b d (Agz F)):=by
 have hK:Ab Tryz.prog muts (Amn N) Azj N 25 [(.pagg a c),(.pagg b d)] [] F=(Asp N (Agz F) a c b d):=by kernel_rfl
 rw [Avy]
 exact hK
def P3 (N:Nat) (args:List AV) (h:Ak) (k:KF R):Option R :=
 match args,h with
 | [(.pagg a c),(.pagg b d)],[]=>(Cf N a c b d (Agz k))
 | _,_=>none
def Gl (N:Nat):Tw:=⟨P3 N,fun args h k=>by
 unfold P3;split
 exact twE (Ag0 ..) (Ag0 ..)
 rfl⟩
theorem Iu (N:Nat):Ax Tryz.prog 25 (Gl N):=fun args h res e hh=>by
 change P3 N args h (fun v e=>some (v,e))=_ at hh
 unfold P3 at hh;split at hh
 exact Aa (T:=Amn N) ⟨Aso N,Blx N,trivial⟩ follows ((Ag0 ..).trans hh)
 cases hh
def Bsk (N:Nat) (r0:LA→Option R)  (a:LA) (c:Bool) (b:LA) (d:Bool):Option R :=
 (cond (Nat.ble 3 (List.length a)) (cond (Nat.ble 3 (List.length b)) (Cf N (List.take 3 a) c (List.take 3 b) d (fun i=>(cond (decide (i≤(0:Int))) (cond (Nat.ble 3 (List.length a)) (It N (List.take 3 a) c (fun e=>(cond ((Nat.beq 0 0)&&((Nat.beq (List.length e) 3)&&(Nat.beq 3 3))) (cond (Nat.ble 3 (List.length e)) (r0 (List.take 3 e)) none) none))) none) (cond (Nat.ble 3 (List.length b)) (It N (List.take 3 b) d (fun f=>(cond ((Nat.beq 0 0)&&((Nat.beq (List.length f) 3)&&(Nat.beq 3 3))) (cond (Nat.ble 3 (List.length f)) (r0 (List.take 3 f)) none) none))) none)))) none) none)
def Bsl (N:Nat) (a:LA) (c:Bool) (b:LA) (d:Bool) (r0:LA→Option R):Option R:=(Bsk N r0 a c b d)
def A32:=(Ai (@Bsl R)).1
theorem Bly:@A32 R=@Bsl R:=(Ai _).2
def Bsm:Hints:={ H:=(hS (hR [2,3,4]) (hS (hS (hR [2,3,4,8]) (hN [3,4] (hS (hR [4]) hL) hL)) (hS (hR [4]) hL))),nils:=[],modes:=[(3,0)],free:=[],cob:=[] }
def Big (N:Nat):List (Nat×Tw):=[(25,Gl N),(70,Mj N)]
def Baf  (F:KF R):LA→Option R:=(fun j=>F (.pagg j false) [])
theorem Bag (N:Nat) (a:LA) (c:Bool) (b:LA) (d:Bool) (F:KF R):Ab Tryz.prog muts (Big N) Bsm N 97 [(.pagg a c),(.pagg b d)] [] F=(A32 N a c b d (Baf F)):=by
 have hK:Ab Tryz.prog muts (Big N) Bsm N 97 [(.pagg a c),(.pagg b d)] [] F=(Bsk N (Baf F) a c b d):=by kernel_rfl
 rw [Bly]
 exact hK
def Aj2 (N:Nat) (args:List AV) (h:Ak) (k:KF R):Option R :=
 match args,h with
 | [(.pagg a c),(.pagg b d)],[]=>(A32 N a c b d (Baf k))
 | _,_=>none
def Bsn (N:Nat):Tw:=⟨Aj2 N,fun args h k=>by
 unfold Aj2;split
 exact twE (Bag ..) (Bag ..)
 rfl⟩
theorem B5m (N:Nat):Ax Tryz.prog 97 (Bsn N):=fun args h res g hh=>by
 change Aj2 N args h (fun v g=>some (v,g))=_ at hh
 unfold Aj2 at hh;split at hh
 exact Aa (T:=Big N) ⟨Iu N,Rq N,trivial⟩ follows ((Bag ..).trans hh)
 cases hh
def Bso (N:Nat) (r0:LA→Option R)  (a:LA) (c:Bool) (b:LA) (d:Bool):Option R :=
 (cond (Nat.ble 3 (List.length a)) (It N (List.take 3 a) c (fun f=>(cond (Nat.ble 2 (List.length f)) (cond (Nat.ble 3 (List.length b)) (It N (List.take 3 b) d (fun g=>(cond (Nat.ble 2 (List.length g)) (Yo N (List.take 2 f) false (List.take 2 g) false (fun j=>(cond (Nat.ble 3 (List.length a)) (Ts N (List.take 3 a) c (fun l=>(cond (Nat.ble 3 (List.length b)) (Ts N (List.take 3 b) d (fun m=>(Yo N l false m false (fun n=>(O3 N j false n false (fun e=>(cond ((Nat.beq 0 0)&&((Nat.beq (List.length e) 3)&&(Nat.beq 3 3))) (cond (Nat.ble 3 (List.length e)) (r0 (List.take 3 e)) none) none))))))) none))) none))) none))) none) none))) none)
def Bsp (N:Nat) (a:LA) (c:Bool) (b:LA) (d:Bool) (r0:LA→Option R):Option R:=(Bso N r0 a c b d)
def Aj3:=(Ai (@Bsp R)).1
theorem Blz:@Aj3 R=@Bsp R:=(Ai _).2
def Bsq:Hints:={ H:=(hS (hR [2,3,4]) (hS (hR [4]) hL)),nils:=[],modes:=[(3,0)],free:=[],cob:=[] }
def Bih (N:Nat):List (Nat×Tw):=[(70,Mj N),(72,A99 N),(73,Ask N),(54,Rk N)]
def Bah  (F:KF R):LA→Option R:=(fun o=>F (.pagg o false) [])
theorem Bai (N:Nat) (a:LA) (c:Bool) (b:LA) (d:Bool) (F:KF R):Ab Tryz.prog muts (Bih N) Bsq N 35 [(.pagg a c),(.pagg b d)] [] F=(Aj3 N a c b d (Bah F)):=by
 have hK:Ab Tryz.prog muts (Bih N) Bsq N 35 [(.pagg a c),(.pagg b d)] [] F=(Bso N (Bah F) a c b d):=by kernel_rfl
 rw [Blz]
 exact hK
def Aj4 (N:Nat) (args:List AV) (h:Ak) (k:KF R):Option R :=
 match args,h with
 | [(.pagg a c),(.pagg b d)],[]=>(Aj3 N a c b d (Bah k))
 | _,_=>none
def Asr (N:Nat):Tw:=⟨Aj4 N,fun args h k=>by
 unfold Aj4;split
 exact twE (Bai ..) (Bai ..)
 rfl⟩
theorem Baj (N:Nat):Ax Tryz.prog 35 (Asr N):=fun args h res i hh=>by
 change Aj4 N args h (fun v i=>some (v,i))=_ at hh
 unfold Aj4 at hh;split at hh
 exact Aa (T:=Bih N) ⟨Rq N,Bsd N,A93 N,Zw N,trivial⟩ follows ((Bai ..).trans hh)
 cases hh
def Aj5 (N:Nat)  (r0:LA→Bool→Option R) (d:LA) (c:Nat) (j g:Bool) (e:LA) (f:Nat) (l i:Bool) (k0:Int→LA→Option R)  (a:Int) (b:LA):Option R :=
 (cond (decide (a<((c:Nat):Int))) (cond (Nat.ble 3 (List.length b)) (cond (Aj a c) (cond (Nat.ble 3 (List.length (List.drop ((Int.toNat a)*3) d))) (cond (Aj a f) (cond (Nat.ble 3 (List.length (List.drop ((Int.toNat a)*3) e))) (Aj3 N (List.take 3 (List.drop ((Int.toNat a)*3) d)) g (List.take 3 (List.drop ((Int.toNat a)*3) e)) i (fun q=>(Lw N (List.take 3 b) false q false (fun m=>(cond ((Nat.beq (List.length m) 3)&&((Nat.ble 3 (List.length b))&&(!false))) (k0 (IntKind.wrap .i64 (a+(1:Int))) (setCells b 0 m)) none))))) none) none) none) none) none) (cond (Nat.ble 3 (List.length b)) (cond ((Nat.beq 0 0)&&((Nat.beq (List.length (List.take 3 b)) 3)&&(Nat.beq 3 3))) (cond (Nat.ble 3 (List.length (List.take 3 b))) (r0 (List.take 3 (List.take 3 b)) true) none) none) none))
def Wz (N:Nat)  (r0:LA→Bool→Option R) (d:LA) (c:Nat) (j g:Bool) (e:LA) (f:Nat) (l i:Bool):Nat→Int→LA→Option R
 | 0,_,_=>none
 | n+1,a,b=>(Aj5 N r0 d c j g e f l i (Wz N r0 d c j g e f l i n) a b)
def Bsr (N:Nat) (r0:LA→Bool→Option R) (q0:Int→LA→Option R) (d:LA) (c:Nat) (j g:Bool) (e:LA) (f:Nat) (l i:Bool):Option R :=
 (cond (((c:Nat):Int) != ((f:Nat):Int)) (r0 [(.bool false),.nsl,.nsl] false) (Afm N (fun o=>(cond ((Nat.beq 0 0)&&((Nat.beq (List.length o) 3)&&(Nat.beq 3 3))) (q0 0 o) none))))
def Bss (N:Nat) (d:LA) (c:Nat) (j g:Bool) (e:LA) (f:Nat) (l i:Bool) (r0:LA→Bool→Option R):Option R:=(Bsr N r0 (fun a b=>(Wz N r0 d c j g e f l i N a b)) d c j g e f l i)
def A33:=(Ai (@Bss R)).1
theorem Bl0:@A33 R=@Bss R:=(Ai _).2
def Ass:Hints:={ H:=(hS (hR [0,1,4]) (hS (hS (hR [0,1,4,12]) (hN [0,1,4] (hS (hR [4,5]) hL) hL)) (hS (hR [0,1,4,6]) (hS (hS (hR [0,1,4,6,7]) (hN [4,6] (hN [0,1,4,6,7] (hS (hS (hR [0,1,4,6,7,18]) (hN [0,1,4,6,7] hL hL)) (hS (hN [0,1,4,6,7] (hR [0,1,4,6,7]) hL) (hR [0,1,4,6,7]))) hL) hL)) (hS (hR [4,5]) hL))))),nils:=[],modes:=[(3,0),(0,0)],free:=[],cob:=[] }
def A34 (N:Nat):List (Nat×Tw):=[(41,Aiv N),(35,Asr N),(32,Ml N)]
def A35 (N:Nat):Env:=mkE 33 Ass (A34 N)
def B26 (N:Nat) (F:KF R):=Ao (A35 N) Tryz.f129 Ass.modes [] F
def Bst (N:Nat) (F:KF R):=atF (A35 N) [] N Tryz.f129 Ass (B26 N F)
def Ag1  (F:KF R):LA→Bool→Option R:=(fun r t=>F (.tup [(.pagg r false),(.bool t)]) [])
def W0 (d:LA) (c:Nat) (j g:Bool) (e:LA) (f:Nat) (l i:Bool) (a:Int) (b:LA):St:={ s:=[(0,(.imm d c 3 j g)),(1,(.imm e f 3 l i)),(4,(.optr 300000 0)),(6,(.optr 300001 0)),(7,(.int .i64 a))],h:=[(300000,⟨false,false,false,false,0,[(.bool false),.nsl,.nsl],false⟩),(300001,⟨false,false,true,false,0,b,false⟩)] }
def Bsu (N:Nat) (F:KF R):St→Option R:=Bq (A35 N) [] N (Bst N F [1,1,1,0,1,0] []) N
def Ast (N:Nat) (F:KF R) (n:Nat):St→Option R:=A4 (A35 N) [] N (Bst N F [1,1,1,0,1,0] []) n
theorem Bv3 (N:Nat)  (F:KF R) (d:LA) (c:Nat) (j g:Bool) (e:LA) (f:Nat) (l i:Bool):∀ (n:Nat) (a:Int) (b:LA),Ast N F n (W0 d c j g e f l i a b)=(Wz N (Ag1 F) d c j g e f l i n a b):=by
 intro n
 induction n with
 | zero=>intros;kernel_rfl
 | succ n ih =>
  intro a b
  have e0:=funext fun a=>funext fun b=>(show Ast N F n (W0 d c j g e f l i a b)=_ from ih a b)
  have hK:Ast N F (n+1) (W0 d c j g e f l i a b)=(Aj5 N (Ag1 F) d c j g e f l i (fun a b=>Ast N F n (W0 d c j g e f l i a b)) a b):=by kernel_rfl
  exact hK.trans (by rw [e0];rfl)
theorem Bak (N:Nat) (d:LA) (c:Nat) (j g:Bool) (e:LA) (f:Nat) (l i:Bool) (F:KF R):Ab Tryz.prog muts (A34 N) Ass N 129 [(.imm d c 3 j g),(.imm e f 3 l i)] [] F=(A33 N d c j g e f l i (Ag1 F)):=by
 have e1:=funext fun a=>funext fun b=>(show Bsu N F (W0 d c j g e f l i a b)=_ from (Ap ..).trans (Bv3 N F d c j g e f l i N a b))
 have hK:Ab Tryz.prog muts (A34 N) Ass N 129 [(.imm d c 3 j g),(.imm e f 3 l i)] [] F=(Bsr N (Ag1 F) (fun a b=>Bsu N F (W0 d c j g e f l i a b)) d c j g e f l i):=by kernel_rfl
 rw [Bl0]
 exact hK.trans (by rw [e1];rfl)
def Aj6 (N:Nat) (args:List AV) (h:Ak) (k:KF R):Option R :=
 match args,h with
 | [(.imm d c 3 j g),(.imm e f 3 l i)],[]=>(A33 N d c j g e f l i (Ag1 k))
 | _,_=>none
def Bsv (N:Nat):Tw:=⟨Aj6 N,fun args h k=>by
 unfold Aj6;split
 exact twE (Bak ..) (Bak ..)
 rfl⟩
theorem B5n (N:Nat):Ax Tryz.prog 129 (Bsv N):=fun args h res p hh=>by
 change Aj6 N args h (fun v p=>some (v,p))=_ at hh
 unfold Aj6 at hh;split at hh
 exact Aa (T:=A34 N) ⟨Axr N,Baj N,Q5 N,trivial⟩ follows ((Bak ..).trans hh)
 cases hh
end
end Gx

namespace Gx
open Go Go.Proofs
set_option maxRecDepth 100000
noncomputable section
variable {R:Type}
def Asu (N:Nat) (r0:Bool→Option R)  (a:LA) (b:Bool):Option R :=
 (rdL 1 (List.drop 18 a) fun g d=>(cond ((decide (((d:Nat):Int)≤(40:Int)))==true) (rdL 2 (List.drop 4 a) fun i e=>(r0 (cond true (decide (((e:Nat):Int)≤(20:Int))) false))) (r0 false)))
def Asv (N:Nat) (a:LA) (b:Bool) (r0:Bool→Option R):Option R:=(Asu N r0 a b)
def Z5:=(Ai (@Asv R)).1
theorem Avz:@Z5 R=@Asv R:=(Ai _).2
def Azk:Hints:={ H:=(hS (hR [1]) (hS (hR [2]) hL)),nils:=[],modes:=[],free:=[],cob:=[] }
def Amo (N:Nat):List (Nat×Tw):=[]
def Ag2  (F:KF R):Bool→Option R:=(fun f=>F (.bool f) [])
theorem Ag3 (N:Nat) (a:LA) (b:Bool) (F:KF R):Ab Tryz.prog muts (Amo N) Azk N 11 [(.pagg a b)] [] F=(Z5 N a b (Ag2 F)):=by
 have hK:Ab Tryz.prog muts (Amo N) Azk N 11 [(.pagg a b)] [] F=(Asu N (Ag2 F) a b):=by kernel_rfl
 rw [Avz]
 exact hK
def P4 (N:Nat) (args:List AV) (h:Ak) (k:KF R):Option R :=
 match args,h with
 | [(.pagg a b)],[]=>(Z5 N a b (Ag2 k))
 | _,_=>none
def Azl (N:Nat):Tw:=⟨P4 N,fun args h k=>by
 unfold P4;split
 exact twE (Ag3 ..) (Ag3 ..)
 rfl⟩
theorem Bsw (N:Nat):Ax Tryz.prog 11 (Azl N):=fun args h res c hh=>by
 change P4 N args h (fun v c=>some (v,c))=_ at hh
 unfold P4 at hh;split at hh
 exact Aa (T:=Amo N) trivial follows ((Ag3 ..).trans hh)
 cases hh
def Asw (N:Nat)  (r0:Bool→Option R) (b:LA) (a:Nat) (d e:Bool) (c:Int) (k0:Int→Option R)  (f:Int):Option R :=
 (cond (decide (f<((a:Nat):Int))) (cond (Aj f a) (rdI .i64 (List.drop ((Int.toNat f)*1) b) fun i=>(cond (i==c) (r0 true) (k0 (IntKind.wrap .i64 (f+(1:Int)))))) none) (r0 false))
def Aet (N:Nat)  (r0:Bool→Option R) (b:LA) (a:Nat) (d e:Bool) (c:Int):Nat→Int→Option R
 | 0,_=>none
 | n+1,f=>(Asw N r0 b a d e c (Aet N r0 b a d e c n) f)
def B0s (N:Nat) (r0:Bool→Option R) (q0:Int→Option R) (b:LA) (a:Nat) (d e:Bool) (c:Int):Option R :=
 (q0 0)
def B0t (N:Nat) (b:LA) (a:Nat) (d e:Bool) (c:Int) (r0:Bool→Option R):Option R:=(B0s N r0 (fun f=>(Aet N r0 b a d e c N f)) b a d e c)
def Bii:=(Ai (@B0t R)).1
theorem Bsx:@Bii R=@B0t R:=(Ai _).2
def A36:Hints:={ H:=(hS (hR [0,1]) (hS (hS (hR [0,1,5]) (hS (hN [0,1,5] (hS (hS (hR [0,1,5,9]) (hN [0,1,5] hL hL)) (hS (hN [0,1,5] (hS (hR [0,1,5,17]) (hN [0,1,5] (hS (hR [4]) hL) hL)) hL) (hR [0,1,5]))) hL) hL)) (hS (hR [4]) hL))),nils:=[],modes:=[],free:=[],cob:=[] }
def Bdv (N:Nat):List (Nat×Tw):=[]
def Bdw (N:Nat):Env:=mkE 18 A36 (Bdv N)
def B5o (N:Nat) (F:KF R):=Ao (Bdw N) Tryz.f45 A36.modes [] F
def Bx9 (N:Nat) (F:KF R):=atF (Bdw N) [] N Tryz.f45 A36 (B5o N F)
def Ao2  (F:KF R):Bool→Option R:=(fun j=>F (.bool j) [])
def Aeu (b:LA) (a:Nat) (d e:Bool) (c f:Int):St:={ s:=[(0,(.imm b a 1 d e)),(1,(.int .i64 c)),(5,(.int .i64 f))],h:=[] }
def Bya (N:Nat) (F:KF R):St→Option R:=Bq (Bdw N) [] N (Bx9 N F [1,0,1,0] []) N
def A37 (N:Nat) (F:KF R) (n:Nat):St→Option R:=A4 (Bdw N) [] N (Bx9 N F [1,0,1,0] []) n
theorem B0u (N:Nat)  (F:KF R) (b:LA) (a:Nat) (d e:Bool) (c:Int):∀ (n:Nat) (f:Int),A37 N F n (Aeu b a d e c f)=(Aet N (Ao2 F) b a d e c n f):=by
 intro n
 induction n with
 | zero=>intros;kernel_rfl
 | succ n ih =>
  intro f
  have e0:=funext fun f=>(show A37 N F n (Aeu b a d e c f)=_ from ih f)
  have hK:A37 N F (n+1) (Aeu b a d e c f)=(Asw N (Ao2 F) b a d e c (fun f=>A37 N F n (Aeu b a d e c f)) f):=by kernel_rfl
  exact hK.trans (by rw [e0];rfl)
theorem Bij (N:Nat) (b:LA) (a:Nat) (d e:Bool) (c:Int) (F:KF R):Ab Tryz.prog muts (Bdv N) A36 N 45 [(.imm b a 1 d e),(.int .i64 c)] [] F=(Bii N b a d e c (Ao2 F)):=by
 have e1:=funext fun f=>(show Bya N F (Aeu b a d e c f)=_ from (Ap ..).trans (B0u N F b a d e c N f))
 have hK:Ab Tryz.prog muts (Bdv N) A36 N 45 [(.imm b a 1 d e),(.int .i64 c)] [] F=(B0s N (Ao2 F) (fun f=>Bya N F (Aeu b a d e c f)) b a d e c):=by kernel_rfl
 rw [Bsx]
 exact hK.trans (by rw [e1];rfl)
def Asx (N:Nat) (args:List AV) (h:Ak) (k:KF R):Option R :=
 match args,h with
 | [(.imm b a 1 d e),(.int .i64 c)],[]=>(Bii N b a d e c (Ao2 k))
 | _,_=>none
def Byb (N:Nat):Tw:=⟨Asx N,fun args h k=>by
 unfold Asx;split
 exact twE (Bij ..) (Bij ..)
 rfl⟩
theorem B7v (N:Nat):Ax Tryz.prog 45 (Byb N):=fun args h res g hh=>by
 change Asx N args h (fun v g=>some (v,g))=_ at hh
 unfold Asx at hh;split at hh
 exact Aa (T:=Bdv N) trivial follows ((Bij ..).trans hh)
 cases hh
end
end Gx

namespace Gx
open Go Go.Proofs
set_option maxRecDepth 100000
noncomputable section
variable {R:Type}
def Azm (N:Nat) (r0:LA→Option R)  :Option R :=
 (r0 [(.str ([]:List UInt8)),(.int .i64 0),(.int .i64 10),(.int .i64 40),(.imm [(.int .i64 20),(.int .i64 3),(.int .i64 10),(.int .i64 5)] 2 2 false false),(.int .i64 0),(.int .i64 5),(.int .i64 10),(.int .i64 15),(.int .i64 15),(.int .i64 0),(.int .i64 0),(.int .i64 0),(.int .i64 0),(.int .i64 0),(.int .i64 0),(.int .i64 0),(.int .i64 0),.nsl,(.int .i64 2),(.int .i64 1),(.int .i64 12)])
def Azn (N:Nat)  (r0:LA→Option R):Option R:=(Azm N r0)
def Pa:=(Ai (@Azn R)).1
theorem Aj7:@Pa R=@Azn R:=(Ai _).2
def Ao3:Hints:={ H:=(hS (hR [0]) (hS (hR [0]) hL)),nils:=[],modes:=[(3,0)],free:=[],cob:=[] }
def Aax (N:Nat):List (Nat×Tw):=[]
def W1  (F:KF R):LA→Option R:=(fun b=>F (.pagg b false) [])
theorem W2 (N:Nat)  (F:KF R):Ab Tryz.prog muts (Aax N) Ao3 N 46 [] [] F=(Pa N (W1 F)):=by
 have hK:Ab Tryz.prog muts (Aax N) Ao3 N 46 [] [] F=(Azm N (W1 F)):=by kernel_rfl
 rw [Aj7]
 exact hK
def Lx (N:Nat) (args:List AV) (h:Ak) (k:KF R):Option R :=
 match args,h with
 | [],[]=>(Pa N (W1 k))
 | _,_=>none
def Ao4 (N:Nat):Tw:=⟨Lx N,fun args h k=>by
 unfold Lx;split
 exact twE (W2 ..) (W2 ..)
 rfl⟩
theorem Bik (N:Nat):Ax Tryz.prog 46 (Ao4 N):=fun args h res a hh=>by
 change Lx N args h (fun v a=>some (v,a))=_ at hh
 unfold Lx at hh;split at hh
 exact Aa (T:=Aax N) trivial follows ((W2 ..).trans hh)
 cases hh
def Tu (N:Nat)  (r0:Bool→Option R) (b c:Int) (d:LA) (a:Nat) (e f:Bool) (k0:Int→Int→Option R)  (i g:Int):Option R :=
 (cond (decide (g<i)) (cond (Aj g a) (rdI .i64 (List.drop ((Int.toNat g)*1) d) fun j=>(cond ((decide (j<b))==false) (cond (cond false true (decide (j>c))) (r0 false) (k0 i (IntKind.wrap .i64 (g+(1:Int))))) (r0 false))) none) (r0 true))
def K3 (N:Nat)  (r0:Bool→Option R) (b c:Int) (d:LA) (a:Nat) (e f:Bool):Nat→Int→Int→Option R
 | 0,_,_=>none
 | n+1,i,g=>(Tu N r0 b c d a e f (K3 N r0 b c d a e f n) i g)
def Azo (N:Nat) (r0:Bool→Option R) (q0:Int→Int→Option R) (b c:Int) (d:LA) (a:Nat) (e f:Bool):Option R :=
 (q0 ((a:Nat):Int) 0)
def Azp (N:Nat) (b c:Int) (d:LA) (a:Nat) (e f:Bool) (r0:Bool→Option R):Option R:=(Azo N r0 (fun i g=>(K3 N r0 b c d a e f N i g)) b c d a e f)
def Di:=(Ai (@Azp R)).1
theorem Azq:@Di R=@Azp R:=(Ai _).2
def Yp:Hints:={ H:=(hS (hR [0,1,2]) (hS (hS (hR [0,1,9,10,11]) (hS (hN [0,1,9,10,11] (hS (hR [0,1,9,10,11,12]) (hS (hN [0,1,9,10,11] hL hL) (hS (hN [0,1,9,10,11] (hS (hR [0,1,8,9,10,11]) (hS (hR [0,1,9,10,11,22]) (hN [0,1,9,10,11] (hS (hR [6]) hL) hL))) hL) (hR [0,1,9,10,11])))) hL) hL)) (hS (hR [6]) hL))),nils:=[],modes:=[],free:=[],cob:=[] }
def Ac3 (N:Nat):List (Nat×Tw):=[]
def Ac4 (N:Nat):Env:=mkE 24 Yp (Ac3 N)
def Bsy (N:Nat) (F:KF R):=Ao (Ac4 N) Tryz.f47 Yp.modes [] F
def A6i (N:Nat) (F:KF R):=atF (Ac4 N) [] N Tryz.f47 Yp (Bsy N F)
def Pb  (F:KF R):Bool→Option R:=(fun m=>F (.bool m) [])
def K4 (b c:Int) (d:LA) (a:Nat) (e f:Bool) (i g:Int):St:={ s:=[(0,(.int .i64 b)),(1,(.int .i64 c)),(9,(.imm d a 1 e f)),(10,(.int .i64 i)),(11,(.int .i64 g))],h:=[] }
def A6j (N:Nat) (F:KF R):St→Option R:=Bq (Ac4 N) [] N (A6i N F [1,0,1,0] []) N
def Yq (N:Nat) (F:KF R) (n:Nat):St→Option R:=A4 (Ac4 N) [] N (A6i N F [1,0,1,0] []) n
theorem Bil (N:Nat)  (F:KF R) (b c:Int) (d:LA) (a:Nat) (e f:Bool):∀ (n:Nat) (i g:Int),Yq N F n (K4 b c d a e f i g)=(K3 N (Pb F) b c d a e f n i g):=by
 intro n
 induction n with
 | zero=>intros;kernel_rfl
 | succ n ih =>
  intro i g
  have e0:=funext fun i=>funext fun g=>(show Yq N F n (K4 b c d a e f i g)=_ from ih i g)
  have hK:Yq N F (n+1) (K4 b c d a e f i g)=(Tu N (Pb F) b c d a e f (fun i g=>Yq N F n (K4 b c d a e f i g)) i g):=by kernel_rfl
  exact hK.trans (by rw [e0];rfl)
theorem Amp (N:Nat) (b c:Int) (d:LA) (a:Nat) (e f:Bool) (F:KF R):Ab Tryz.prog muts (Ac3 N) Yp N 47 [(.int .i64 b),(.int .i64 c),(.imm d a 1 e f)] [] F=(Di N b c d a e f (Pb F)):=by
 have e1:=funext fun i=>funext fun g=>(show A6j N F (K4 b c d a e f i g)=_ from (Ap ..).trans (Bil N F b c d a e f N i g))
 have hK:Ab Tryz.prog muts (Ac3 N) Yp N 47 [(.int .i64 b),(.int .i64 c),(.imm d a 1 e f)] [] F=(Azo N (Pb F) (fun i g=>A6j N F (K4 b c d a e f i g)) b c d a e f):=by kernel_rfl
 rw [Azq]
 exact hK.trans (by rw [e1];rfl)
def Tv (N:Nat) (args:List AV) (h:Ak) (k:KF R):Option R :=
 match args,h with
 | [(.int .i64 b),(.int .i64 c),(.imm d a 1 e f)],[]=>(Di N b c d a e f (Pb k))
 | _,_=>none
def Yr (N:Nat):Tw:=⟨Tv N,fun args h k=>by
 unfold Tv;split
 exact twE (Amp ..) (Amp ..)
 rfl⟩
theorem Amq (N:Nat):Ax Tryz.prog 47 (Yr N):=fun args h res l hh=>by
 change Tv N args h (fun v l=>some (v,l))=_ at hh
 unfold Tv at hh;split at hh
 exact Aa (T:=Ac3 N) trivial follows ((Amp ..).trans hh)
 cases hh
def Asy (N:Nat)  (r0:Bool→Option R) (b:Bool) (a:LA)   :Option R :=
 (rdI .i64 (List.drop 20 a) fun j=>(cond ((decide (j<(1:Int)))==false) (rdI .i64 (List.drop 20 a) fun l=>(cond (cond false true (decide (l>(48:Int)))) (r0 false) (rdI .i64 (List.drop 19 a) fun m=>(cond ((m != (1:Int))==false) (rdI .i64 (List.drop 20 a) fun o=>(rdI .i64 (List.drop 12 a) fun p=>(r0 (cond false true (decide (o≤p)))))) (r0 true))))) (r0 false)))
def Aj8 (N:Nat)  (r0:Bool→Option R) (b:Bool) (a:LA) :Option R:=(Asy N r0 b a)
def Asz (N:Nat)  (r0:Bool→Option R) (d e f g:Int) (b:Bool) (a:LA) (k0:Int→Option R) (q1:Option R) (c:Int):Option R :=
 (cond (decide (c<(4:Int))) (cond (Aj c 4) (cond (Nat.beq ((Int.toNat c)*1) 0) (cond ((decide (d<(0:Int)))==false) (cond (cond false true (decide (d>(24:Int)))) (r0 false) (k0 (IntKind.wrap .i64 (c+(1:Int))))) (r0 false)) (cond (Nat.beq ((Int.toNat c)*1) 1) (cond ((decide (e<(0:Int)))==false) (cond (cond false true (decide (e>(24:Int)))) (r0 false) (k0 (IntKind.wrap .i64 (c+(1:Int))))) (r0 false)) (cond (Nat.beq ((Int.toNat c)*1) 2) (cond ((decide (f<(0:Int)))==false) (cond (cond false true (decide (f>(24:Int)))) (r0 false) (k0 (IntKind.wrap .i64 (c+(1:Int))))) (r0 false)) (cond (Nat.beq ((Int.toNat c)*1) 3) (cond ((decide (g<(0:Int)))==false) (cond (cond false true (decide (g>(24:Int)))) (r0 false) (k0 (IntKind.wrap .i64 (c+(1:Int))))) (r0 false)) none)))) none) (rdI .i64 (List.drop 19 a) fun q=>(cond ((q != (0:Int))==true) (rdI .i64 (List.drop 19 a) fun r=>(cond ((cond true (r != (1:Int)) false)==true) (rdI .i64 (List.drop 19 a) fun t=>(cond (cond true (t != (2:Int)) false) (r0 false) q1)) q1)) q1)))
def Z6 (N:Nat)  (r0:Bool→Option R) (d e f g:Int) (b:Bool) (a:LA):Nat→Int→Option R
 | 0,_=>none
 | n+1,c=>(Asz N r0 d e f g b a (Z6 N r0 d e f g b a n) (Aj8 N r0 b a) c)
def Bim (N:Nat) (r0:Bool→Option R) (q0:Int→Int→Int→Int→Int→Option R) (a:LA) (b:Bool):Option R :=
 (rdI .i64 (List.drop 10 a) fun d=>(rdI .i64 (List.drop 11 a) fun e=>(rdI .i64 (List.drop 12 a) fun f=>(rdI .i64 (List.drop 15 a) fun g=>(q0 d e f g 0)))))
def Bin (N:Nat) (a:LA) (b:Bool) (r0:Bool→Option R):Option R:=(Bim N r0 (fun d e f g c=>(Z6 N r0 d e f g b a N c)) a b)
def Pc:=(Ai (@Bin R)).1
theorem Bdx:@Pc R=@Bin R:=(Ai _).2
def Aj9:Hints:={ H:=(hS (hR [1]) (hS (hS (hR [1,13,14]) (hN [1] (hN [1,13,14] (hS (hR [1,13,14,15]) (hS (hN [1,13,14] hL hL) (hS (hN [1,13,14] (hS (hR [1,4,13,14]) (hS (hR [1,13,14,22]) (hN [1,13,14] (hS (hR [2]) hL) hL))) hL) (hR [1,13,14])))) hL) hL)) (hJ (hS (hR [1,36]) (hN [1] (hS (hR [2]) hL) hL)) (hS (hS (hR [1,44]) (hN [1] (hS (hR [2]) hL) hL)) (hS (hR [2]) hL))))),nils:=[],modes:=[],free:=[],cob:=[] }
def As0 (N:Nat):List (Nat×Tw):=[]
def W3 (N:Nat):Env:=mkE 55 Aj9 (As0 N)
def B0v (N:Nat) (F:KF R):=Ao (W3 N) Tryz.f48 Aj9.modes [] F
def Aka (N:Nat) (F:KF R):=atF (W3 N) [] N Tryz.f48 Aj9 (B0v N F)
def Mm  (F:KF R):Bool→Option R:=(fun u=>F (.bool u) [])
def Akb (b:Bool) (a:LA):St:={ s:=[(1,(.optr 300000 0))],h:=[(300000,⟨false,false,true,b,0,a,false⟩)] }
def Bl1 (N:Nat) (F:KF R):St→Option R:=Cg (W3 N) [] N (Aka N F [1,1,1] [])
def Bl2 (N:Nat) (F:KF R):St→Option R:=Ck (W3 N) [] N (Aka N F [1,1,1] [])
def Rr (d e f g:Int) (b:Bool) (a:LA) (c:Int):St:={ s:=[(1,(.optr 300000 0)),(13,(.agg [(.int .i64 d),(.int .i64 e),(.int .i64 f),(.int .i64 g)])),(14,(.int .i64 c))],h:=[(300000,⟨false,false,true,b,0,a,false⟩)] }
def Bl3 (N:Nat) (F:KF R):St→Option R:=Bq (W3 N) [] N (Aka N F [1,0,1,0] []) N
def Akc (N:Nat) (F:KF R) (n:Nat):St→Option R:=A4 (W3 N) [] N (Aka N F [1,0,1,0] []) n
theorem Bsz (N:Nat)  (F:KF R) (b:Bool) (a:LA):Bl2 N F (Akb b a)=(Aj8 N (Mm F) b a):=by
 have hK:Bl2 N F (Akb b a)=(Asy N (Mm F) b a):=by kernel_rfl
 exact hK
theorem Bs0 (N:Nat)  (F:KF R) (d e f g:Int) (b:Bool) (a:LA):∀ (n:Nat) (c:Int),Akc N F n (Rr d e f g b a c)=(Z6 N (Mm F) d e f g b a n c):=by
 intro n
 induction n with
 | zero=>intros;kernel_rfl
 | succ n ih =>
  intro c
  have e0:=funext fun c=>(show Akc N F n (Rr d e f g b a c)=_ from ih c)
  have e1:=(show Bl1 N F (Akb b a)=_ from (Aw ..).trans (Bsz N F b a))
  have hK:Akc N F (n+1) (Rr d e f g b a c)=(Asz N (Mm F) d e f g b a (fun c=>Akc N F n (Rr d e f g b a c)) (Bl1 N F (Akb b a)) c):=by kernel_rfl
  exact hK.trans (by rw [e0,e1];rfl)
theorem Azr (N:Nat) (a:LA) (b:Bool) (F:KF R):Ab Tryz.prog muts (As0 N) Aj9 N 48 [(.pagg a b)] [] F=(Pc N a b (Mm F)):=by
 have e1:=funext fun d=>funext fun e=>funext fun f=>funext fun g=>funext fun c=>(show Bl3 N F (Rr d e f g b a c)=_ from (Ap ..).trans (Bs0 N F d e f g b a N c))
 have hK:Ab Tryz.prog muts (As0 N) Aj9 N 48 [(.pagg a b)] [] F=(Bim N (Mm F) (fun d e f g c=>Bl3 N F (Rr d e f g b a c)) a b):=by kernel_rfl
 rw [Bdx]
 exact hK.trans (by rw [e1];rfl)
def Ac5 (N:Nat) (args:List AV) (h:Ak) (k:KF R):Option R :=
 match args,h with
 | [(.pagg a b)],[]=>(Pc N a b (Mm k))
 | _,_=>none
def Rs (N:Nat):Tw:=⟨Ac5 N,fun args h k=>by
 unfold Ac5;split
 exact twE (Azr ..) (Azr ..)
 rfl⟩
theorem Z7 (N:Nat):Ax Tryz.prog 48 (Rs N):=fun args h res i hh=>by
 change Ac5 N args h (fun v i=>some (v,i))=_ at hh
 unfold Ac5 at hh;split at hh
 exact Aa (T:=As0 N) trivial follows ((Azr ..).trans hh)
 cases hh
end
end Gx
