/- A part of the proof; each theorem says what it holds. -/
import Derived.Shelf.Strings.Repeat
import Derived.Shelf.Strings.Split
import Derived.Shelf.Strings.Cut
import Derived.Shelf.Strconv.AtoiAll
import Derived.Shelf.Strconv.Itoa3
import Derived.Shelf.LaysM
import Derived.Shelf.LaysC
import Derived.Lib.RepeatB
import Derived.Test.YtpeocjkboabibaaGreatDoorP1
set_option linter.unusedVariables false
set_option linter.defProp false
set_option linter.unusedSimpArgs false
open Nat (ble beq)
open List (take drop replicate)
open Go.IntKind (wrap)
namespace Gx.Cf
open Go Go.Proofs
section
variable {R:Type}
def Au (l:List Lu):LA:=l.map fun s=>.str s
theorem Qz (l:List Lu):(Au l).length=l.length:=by simp[Au]
theorem Gb {l:List Lu} {i:Nat} (h:i<l.length) {f:Lu→O R}:Hz (drop i (Au l)) f=f l[i]:=by
 rw[Au,Afe (by simpa using h)];simp[Y6]
theorem Bx {c:CaseD}:take 8 c.av=c.av:=rfl
theorem Dx {c:CaseD}:ble 8 (List.length c.av)=true:=rfl
theorem EE {N:Nat} {c:CaseD} {o:Bool} {K:Nat→LA→O R} (e:c.buses.l.length≤1000000):∀ (m j fuel:Nat),j+m=c.buses.l.length→m<fuel →
  Fz N K o c.av fuel j (j:Int) (Au ((c.buses.l.take j).map (·.name)))=K c.buses.l.length (Au (c.buses.l.map (·.name)))
 | 0,j,fuel+1,k,_=>by
  rw[Fz];unfold Mb
  have d:j=c.buses.l.length:=by omega
  rw[Bi,F9 (by omega),cf,Ad0 (by omega),d]
 | m+1,j,fuel+1,k,t=>by
  rw[Fz];unfold Mb
  have h:j<c.buses.l.length:=by omega
  have n:(ble (j+1) 140737488355328&&ble ((j+1)*16) 140737488355328)=true:=by rw[Ew,Ew];simp;omega
  have q:take (j*1) (Au ((c.buses.l.take j).map (·.name)))++[.str c.buses.l[j].name]=Au ((c.buses.l.take (j+1)).map (·.name)):=by
   rw[Ad0 (by simp[Qz];omega),Aeo h,Afy];simp[Au]
  have s:∀ f:Lu→O R,Hz (drop (j*3) (List.flatMap BusD.av c.buses.l)) f=f c.buses.l[j].name:=fun f=>by rw[Be Kb _ _ h];simp[BusD.av,Y6]
  rw[Bi,Fn h,ct,Bi,Ab h,ct,Ad2,s,n,ct,q,Ez (by omega),EE e m (j+1) fuel (by omega) (by omega)]
theorem BD {N:Nat} {c:CaseD} {o:Bool} {K:Nat→LA→O R} (hs:Small c N):Fj N c.av o 1 K=K (c.buses.l.map (·.name)).length (Au (c.buses.l.map (·.name))):=by
 rw[G6];unfold I7
 have:=EE (R:=R) (N:=N) (c:=c) (o:=o) (K:=K) hs.top.1 c.buses.l.length 0 N (by omega) hs.bus.1
 simpa[Au] using this
theorem EF {N:Nat} {c:CaseD} {o:Bool} {K:Nat→LA→O R} (e:c.lines.l.length≤1000000):∀ (m j fuel:Nat),j+m=c.lines.l.length→m<fuel →
  F0 N K o c.av fuel j (j:Int) (Au ((c.lines.l.take j).map (·.name)))=K c.lines.l.length (Au (c.lines.l.map (·.name)))
 | 0,j,fuel+1,k,_=>by
  rw[F0];unfold Mc
  have d:j=c.lines.l.length:=by omega
  rw[C1,F9 (by omega),cf,Ad0 (by omega),d]
 | m+1,j,fuel+1,k,t=>by
  rw[F0];unfold Mc
  have h:j<c.lines.l.length:=by omega
  have n:(ble (j+1) 140737488355328&&ble ((j+1)*16) 140737488355328)=true:=by rw[Ew,Ew];simp;omega
  have q:take (j*1) (Au ((c.lines.l.take j).map (·.name)))++[.str c.lines.l[j].name]=Au ((c.lines.l.take (j+1)).map (·.name)):=by
   rw[Ad0 (by simp[Qz];omega),Aeo h,Afy];simp[Au]
  have s:∀ f:Lu→O R,Hz (drop (j*12) (List.flatMap LineD.av c.lines.l)) f=f c.lines.l[j].name:=fun f=>by rw[Be Gi _ _ h];simp[LineD.av,Y6]
  rw[C1,Fn h,ct,C1,Ab h,ct,Ad2,s,n,ct,q,Ez (by omega),EF e m (j+1) fuel (by omega) (by omega)]
theorem Vn {N:Nat} {c:CaseD} {o:Bool} {K:Nat→LA→O R} (hs:Small c N):Fj N c.av o 2 K=K (c.lines.l.map (·.name)).length (Au (c.lines.l.map (·.name))):=by
 rw[G6];unfold I7
 have:=EF (R:=R) (N:=N) (c:=c) (o:=o) (K:=K) hs.top.2.1 c.lines.l.length 0 N (by omega) hs.lin.1
 simpa[Au] using this
theorem EG {N:Nat} {c:CaseD} {o:Bool} {K:Nat→LA→O R} (e:c.units.l.length≤1000000):∀ (m j fuel:Nat),j+m=c.units.l.length→m<fuel →
  F1 N K o c.av fuel j (j:Int) (Au ((c.units.l.take j).map (·.name)))=K c.units.l.length (Au (c.units.l.map (·.name)))
 | 0,j,fuel+1,k,_=>by
  rw[F1];unfold Md
  have d:j=c.units.l.length:=by omega
  rw[Dd,F9 (by omega),cf,Ad0 (by omega),d]
 | m+1,j,fuel+1,k,t=>by
  rw[F1];unfold Md
  have h:j<c.units.l.length:=by omega
  have n:(ble (j+1) 140737488355328&&ble ((j+1)*16) 140737488355328)=true:=by rw[Ew,Ew];simp;omega
  have q:take (j*1) (Au ((c.units.l.take j).map (·.name)))++[.str c.units.l[j].name]=Au ((c.units.l.take (j+1)).map (·.name)):=by
   rw[Ad0 (by simp[Qz];omega),Aeo h,Afy];simp[Au]
  have s:∀ f:Lu→O R,Hz (drop (j*22) (List.flatMap UnitD.av c.units.l)) f=f c.units.l[j].name:=fun f=>by rw[Be H7 _ _ h];simp[UnitD.av,Y6]
  rw[Dd,Fn h,ct,Dd,Ab h,ct,Ad2,s,n,ct,q,Ez (by omega),EG e m (j+1) fuel (by omega) (by omega)]
theorem Vo {N:Nat} {c:CaseD} {o:Bool} {K:Nat→LA→O R} (hs:Small c N):Fj N c.av o 3 K=K (c.units.l.map (·.name)).length (Au (c.units.l.map (·.name))):=by
 rw[G6];unfold I7
 have:=EG (R:=R) (N:=N) (c:=c) (o:=o) (K:=K) hs.top.2.2.1 c.units.l.length 0 N (by omega) hs.uni.1
 simpa[Au] using this
theorem BE {N:Nat} {c:CaseD} {o:Bool} {K:Nat→LA→O R} (e:c.stores.l.length≤1000000):∀ (m j fuel:Nat),j+m=c.stores.l.length→m<fuel →
  F2 N K o c.av fuel j (j:Int) (Au ((c.stores.l.take j).map (·.name)))=K c.stores.l.length (Au (c.stores.l.map (·.name)))
 | 0,j,fuel+1,k,_=>by
  rw[F2];unfold Me
  have d:j=c.stores.l.length:=by omega
  rw[Eb,F9 (by omega),cf,Ad0 (by omega),d]
 | m+1,j,fuel+1,k,t=>by
  rw[F2];unfold Me
  have h:j<c.stores.l.length:=by omega
  have n:(ble (j+1) 140737488355328&&ble ((j+1)*16) 140737488355328)=true:=by rw[Ew,Ew];simp;omega
  have q:take (j*1) (Au ((c.stores.l.take j).map (·.name)))++[.str c.stores.l[j].name]=Au ((c.stores.l.take (j+1)).map (·.name)):=by
   rw[Ad0 (by simp[Qz];omega),Aeo h,Afy];simp[Au]
  have s:∀ f:Lu→O R,Hz (drop (j*9) (List.flatMap StoreD.av c.stores.l)) f=f c.stores.l[j].name:=fun f=>by rw[Be Ns _ _ h];simp[StoreD.av,Y6]
  rw[Eb,Fn h,ct,Eb,Ab h,ct,Ad2,s,n,ct,q,Ez (by omega),BE e m (j+1) fuel (by omega) (by omega)]
theorem R3 {N:Nat} {c:CaseD} {o:Bool} {K:Nat→LA→O R} (hs:Small c N):Fj N c.av o 4 K=K (c.stores.l.map (·.name)).length (Au (c.stores.l.map (·.name))):=by
 rw[G6];unfold I7
 have:=BE (R:=R) (N:=N) (c:=c) (o:=o) (K:=K) hs.top.2.2.2.1 c.stores.l.length 0 N (by omega) hs.sto.1
 simpa[Au] using this
theorem IM {N:Nat} {c:CaseD} {o:Bool} {K:Nat→LA→O R} (e:c.ties.l.length≤1000000):∀ (m j fuel:Nat),j+m=c.ties.l.length→m<fuel →
  F3 N K o c.av fuel j (j:Int) (Au ((c.ties.l.take j).map (·.name)))=K c.ties.l.length (Au (c.ties.l.map (·.name)))
 | 0,j,fuel+1,k,_=>by
  rw[F3];unfold Mf
  have d:j=c.ties.l.length:=by omega
  rw[Gy,F9 (by omega),cf,Ad0 (by omega),d]
 | m+1,j,fuel+1,k,t=>by
  rw[F3];unfold Mf
  have h:j<c.ties.l.length:=by omega
  have n:(ble (j+1) 140737488355328&&ble ((j+1)*16) 140737488355328)=true:=by rw[Ew,Ew];simp;omega
  have q:take (j*1) (Au ((c.ties.l.take j).map (·.name)))++[.str c.ties.l[j].name]=Au ((c.ties.l.take (j+1)).map (·.name)):=by
   rw[Ad0 (by simp[Qz];omega),Aeo h,Afy];simp[Au]
  have s:∀ f:Lu→O R,Hz (drop (j*5) (List.flatMap TieD.av c.ties.l)) f=f c.ties.l[j].name:=fun f=>by rw[Be Lz _ _ h];simp[TieD.av,Y6]
  rw[Gy,Fn h,ct,Gy,Ab h,ct,Ad2,s,n,ct,q,Ez (by omega),IM e m (j+1) fuel (by omega) (by omega)]
theorem Zk {N:Nat} {c:CaseD} {o:Bool} {K:Nat→LA→O R} (hs:Small c N):Fj N c.av o 5 K=K (c.ties.l.map (·.name)).length (Au (c.ties.l.map (·.name))):=by
 rw[G6];unfold I7
 have:=IM (R:=R) (N:=N) (c:=c) (o:=o) (K:=K) hs.top.2.2.2.2.1 c.ties.l.length 0 N (by omega) hs.tie.1
 simpa[Au] using this
theorem IN {N:Nat} {c:CaseD} {o:Bool} {K:Nat→LA→O R} (e:c.outs.l.length≤1000000):∀ (m j fuel:Nat),j+m=c.outs.l.length→m<fuel →
  F4 N K o c.av fuel j (j:Int) (Au ((c.outs.l.take j).map (·.name)))=K c.outs.l.length (Au (c.outs.l.map (·.name)))
 | 0,j,fuel+1,k,_=>by
  rw[F4];unfold Mg
  have d:j=c.outs.l.length:=by omega
  rw[Fb,F9 (by omega),cf,Ad0 (by omega),d]
 | m+1,j,fuel+1,k,t=>by
  rw[F4];unfold Mg
  have h:j<c.outs.l.length:=by omega
  have n:(ble (j+1) 140737488355328&&ble ((j+1)*16) 140737488355328)=true:=by rw[Ew,Ew];simp;omega
  have q:take (j*1) (Au ((c.outs.l.take j).map (·.name)))++[.str c.outs.l[j].name]=Au ((c.outs.l.take (j+1)).map (·.name)):=by
   rw[Ad0 (by simp[Qz];omega),Aeo h,Afy];simp[Au]
  have s:∀ f:Lu→O R,Hz (drop (j*4) (List.flatMap OutD.av c.outs.l)) f=f c.outs.l[j].name:=fun f=>by rw[Be Nt _ _ h];simp[OutD.av,Y6]
  rw[Fb,Fn h,ct,Fb,Ab h,ct,Ad2,s,n,ct,q,Ez (by omega),IN e m (j+1) fuel (by omega) (by omega)]
theorem Zl {N:Nat} {c:CaseD} {o:Bool} {K:Nat→LA→O R} (hs:Small c N):Fj N c.av o 6 K=K (c.outs.l.map (·.name)).length (Au (c.outs.l.map (·.name))):=by
 rw[G6];unfold I7
 have:=IN (R:=R) (N:=N) (c:=c) (o:=o) (K:=K) hs.top.2.2.2.2.2 c.outs.l.length 0 N (by omega) hs.out.1
 simpa[Au] using this
theorem Sy {N:Nat} {L:List Lu} {k:Int} {n:Nat} {K:LA→O R} (hn:n<L.length) (hs:n<4611686018427387904):∀ (m j fuel:Nat) (p:I6),j+m=n→m<fuel →
  De N K k (n:Int) L.length (Au L) fuel (j:Int) (C4 p)=K (C4 (nd p (((L.take n).drop j).all fun x=>!(x==L[n])) (k,n,0) ⟨10,by decide⟩))
 | 0,j,fuel+1,p,d,_=>by
  rw[De];unfold Ig
  rw[F9 (by omega),cf,O8 (l:=L.take n) (by simp;omega),Aeu,FS]
 | m+1,j,fuel+1,p,d,q=>by
  rw[De];unfold Ig
  have h:j<L.length:=by omega
  have f:j<(L.take n).length:=by simp;omega
  rw[Fn (by omega),ct,Ab h,ct,Ad2,Aec,Aeh,Gb h,Ab hn,ct,Ad2,Aec,Aeh,Gb hn,Ad (by decide),Ez (by omega),Sy hn hs m (j+1) fuel _ (by omega) (by omega),Ka f,Aek,oV]
  have e:(L.take n)[j]=L[j]:=by simp
  rw[e]
theorem Dr {N:Nat} {c:CaseD} {L:List Lu} {o:Bool} {p:I6} {k:Int} {n:Nat} {K:LA→O R} (hN:64≤N) (hL:∀ K:Nat→LA→O R,Fj N c.av o k K=K L.length (Au L)) (hn:n<L.length) (hs:Qo n N) :
  Cu N c.av o k (n:Int) (C4 p) K=K (C4 (TJ (L.take n) k n L[n] p)):=by
 rw[Vg];unfold Mt
 rw[Bx,Dx,ct,hL,Ab hn,ct,Ad2,Aec,Aeh,Gb hn,PF hN,Ad (by decide)]
 have:=Sy (R:=R) (N:=N) (L:=L) (k:=k) (n:=n) (K:=K) hn hs.2 n 0 N (nd p (Df L[n]) (k,n,0) ⟨9,by decide⟩) (by omega) hs.1
 simpa[TJ] using this
theorem GN {N fuel:Nat} {c:CaseD} {o:Bool} {p:I6} {K:LA→O R} (hs:Small c N):Bo N K o c.av (fuel+6) 2 (C4 p)=K (C4
  (nd (nd (nd (nd (nd p (decide ((c.lines.l.length:Int)≤64)) (0,0,3) e8) (decide ((c.units.l.length:Int)≤16)) (0,0,4) e8) (decide ((c.stores.l.length:Int)≤8)) (0,0,5) e8) (decide ((c.ties.l.length:Int)≤8)) (0,0,6) e8) (decide ((c.outs.l.length:Int)≤64)) (0,0,7) e8)):=by
 have most:∀ (k:Nat) (n:Int) (K:Int→O R),k<7→([0,32,64,16,8,8,64]:List Int)[k]?=some n→Ni N (k:Int) K=K n:=by
  intro k n K d f
  rw[FV];unfold NB
  rw[Ab d,ct]
  have e:[(.int .i64 (0:Int)),(.int .i64 (32:Int)),(.int .i64 (64:Int)),(.int .i64 (16:Int)),(.int .i64 (8:Int)),(.int .i64 (8:Int)),(.int .i64 (64:Int))]=Az [0,32,64,16,8,8,64]:=rfl
  rw[e,Ad2,Aec,Aeh,fG (by simpa using d)]
  rw[Ad1 (by simpa using d)] at f
  simp only[Af2] at f
  rw[f]
 have m2:∀ K:Int→O R,Ni N 2 K=K 64:=fun K=>most 2 64 K (by omega) rfl
 have m3:∀ K:Int→O R,Ni N 3 K=K 16:=fun K=>most 3 16 K (by omega) rfl
 have m4:∀ K:Int→O R,Ni N 4 K=K 8:=fun K=>most 4 8 K (by omega) rfl
 have m5:∀ K:Int→O R,Ni N 5 K=K 8:=fun K=>most 5 8 K (by omega) rfl
 have m6:∀ K:Int→O R,Ni N 6 K=K 64:=fun K=>most 6 64 K (by omega) rfl
 have j:wrap .i64 (2+1)=3:=rfl
 have w3:wrap .i64 (3+1)=4:=rfl
 have m:wrap .i64 (4+1)=5:=rfl
 have q:wrap .i64 (5+1)=6:=rfl
 have s:wrap .i64 (6+1)=7:=rfl
 rw[Bo];unfold B9
 rw[show decide ((2:Int)≤6)=true from rfl,ct,Dx,ct,Bx,Vn hs,m2,Ad (by decide),j]
 rw[Bo];unfold B9
 rw[show decide ((3:Int)≤6)=true from rfl,ct,Dx,ct,Bx,Vo hs,m3,Ad (by decide),w3]
 rw[Bo];unfold B9
 rw[show decide ((4:Int)≤6)=true from rfl,ct,Dx,ct,Bx,R3 hs,m4,Ad (by decide),m]
 rw[Bo];unfold B9
 rw[show decide ((5:Int)≤6)=true from rfl,ct,Dx,ct,Bx,Zk hs,m5,Ad (by decide),q]
 rw[Bo];unfold B9
 rw[show decide ((6:Int)≤6)=true from rfl,ct,Dx,ct,Bx,Zl hs,m6,Ad (by decide),s]
 rw[Bo];unfold B9
 rw[show decide ((7:Int)≤6)=false from rfl,cf]
 simp only[Af4]
theorem GO {N:Nat} {c:CaseD} {o:Bool} {p:I6} {K:LA→O R} (hs:Small c N):If N c.av o (C4 p) K=K (C4 (rL c p)):=by
 have hN:=hs.n64
 rw[Su];unfold Kt
 have:=fun p=>GN (fuel:=N - 6) (o:=o) (p:=p) (K:=K) hs
 rw[show N - 6+6=N by omega] at this
 simp only[Dc,Dz (show 8≤N by omega),Ad (show(3:Int)≠0 by decide),Ad (show(8:Int)≠0 by decide),Dx,ct,Bx,Tp,Bi,Ec rfl hs.res,this]
 rfl
end
end Gx.Cf
namespace Go.Proofs
open Go.Shelf Go.RowKit
open Go.RowKit
def Tryz.laysM171_ren : Go.Shelf.Ren := ⟨fun | 171 => 129 | 243 => 141 | 246 => 158 | 283 => 186 | 284 => 187 | 285 => 188 | 286 => 189 | 129 => 214 | 317 => 213 | 318 => 215 | 319 => 216 | 320 => 217 | 337 => 236 | 338 => 237 | n => n, fun | 3 => 3 | 9 => 9 | 2 => 2 | 4 => 4 | 171 => 239 | 0 => 0 | 53 => 98 | 37 => 23 | 5 => 5 | 173 => 242 | 212 => 254 | 51 => 185 | 20 => 20 | 213 => 255 | 46 => 180 | 232 => 294 | 233 => 295 | n => n, fun | 17 => 1 | 18 => 4 | 19 => 5 | n => n⟩
theorem Tryz.laysM171 : Go.Proofs.LaysM.n171 Tryz.prog Tryz.laysM171_ren := {
  mixed := by kernel_rfl
  f129 := Tryz.func214.trans (congrArg some (by kernel_rfl))
  f171 := Tryz.func129.trans (congrArg some (by kernel_rfl))
  f243 := Tryz.func141.trans (congrArg some (by kernel_rfl))
  f246 := Tryz.func158.trans (congrArg some (by kernel_rfl))
  f283 := Tryz.func186.trans (congrArg some (by kernel_rfl))
  f284 := Tryz.func187.trans (congrArg some (by kernel_rfl))
  f285 := Tryz.func188.trans (congrArg some (by kernel_rfl))
  f286 := Tryz.func189.trans (congrArg some (by kernel_rfl))
  f317 := Tryz.func213.trans (congrArg some (by kernel_rfl))
  f318 := Tryz.func215.trans (congrArg some (by kernel_rfl))
  f319 := Tryz.func216.trans (congrArg some (by kernel_rfl))
  f320 := Tryz.func217.trans (congrArg some (by kernel_rfl))
  f337 := Tryz.func236.trans (congrArg some (by kernel_rfl))
  f338 := Tryz.func237.trans (congrArg some (by kernel_rfl))
  t0 := Tryz.underlying0
  a0 := Tryz.isAgg0
  z0 := Tryz.sizeOf0
  v0 := Tryz.zeroValue0
  t2 := Tryz.underlying2
  a2 := Tryz.isAgg2
  z2 := Tryz.sizeOf2
  v2 := Tryz.zeroValue2
  t3 := Tryz.underlying3
  a3 := Tryz.isAgg3
  z3 := Tryz.sizeOf3
  v3 := Tryz.zeroValue3
  t4 := Tryz.underlying4
  a4 := Tryz.isAgg4
  z4 := Tryz.sizeOf4
  v4 := Tryz.zeroValue4
  t5 := Tryz.underlying5
  a5 := Tryz.isAgg5
  z5 := Tryz.sizeOf5
  v5 := Tryz.zeroValue5
  t9 := Tryz.underlying9
  a9 := Tryz.isAgg9
  z9 := Tryz.sizeOf9
  v9 := Tryz.zeroValue9
  t20 := Tryz.underlying20
  a20 := Tryz.isAgg20
  z20 := Tryz.sizeOf20
  v20 := Tryz.zeroValue20
  t37 := Tryz.underlying23
  a37 := Tryz.isAgg23
  z37 := Tryz.sizeOf23
  v37 := Tryz.zeroValue23
  t46 := Tryz.underlying180
  a46 := Tryz.isAgg180
  z46 := Tryz.sizeOf180
  v46 := Tryz.zeroValue180
  t51 := Tryz.underlying185
  a51 := Tryz.isAgg185
  z51 := Tryz.sizeOf185
  v51 := Tryz.zeroValue185
  t53 := Tryz.underlying98
  a53 := Tryz.isAgg98
  z53 := Tryz.sizeOf98
  v53 := Tryz.zeroValue98
  t171 := Tryz.underlying239
  a171 := Tryz.isAgg239
  z171 := Tryz.sizeOf239
  v171 := Tryz.zeroValue239
  t173 := Tryz.underlying242
  a173 := Tryz.isAgg242
  z173 := Tryz.sizeOf242
  v173 := Tryz.zeroValue242
  t212 := Tryz.underlying254
  a212 := Tryz.isAgg254
  z212 := Tryz.sizeOf254
  v212 := Tryz.zeroValue254
  t213 := Tryz.underlying255
  a213 := Tryz.isAgg255
  z213 := Tryz.sizeOf255
  t232 := Tryz.underlying294
  a232 := Tryz.isAgg294
  z232 := Tryz.sizeOf294
  v232 := Tryz.zeroValue294
  t233 := Tryz.underlying295
  a233 := Tryz.isAgg295
  z233 := Tryz.sizeOf295
  v233 := Tryz.zeroValue295
  g17 := by kernel_rfl
  g18 := by kernel_rfl
  g19 := by kernel_rfl
  i0 := by kernel_rfl
  i2 := by kernel_rfl
  i3 := by kernel_rfl
  i4 := by kernel_rfl
  i5 := by kernel_rfl
  i9 := by kernel_rfl
  i20 := by kernel_rfl
  i37 := by kernel_rfl
  i46 := by kernel_rfl
  i51 := by kernel_rfl
  i53 := by kernel_rfl
  i171 := by kernel_rfl
  i173 := by kernel_rfl
  i212 := by kernel_rfl
  i232 := by kernel_rfl
  i233 := by kernel_rfl
  m17 := by kernel_rfl
  m18 := by kernel_rfl
  m19 := by kernel_rfl }
def Tryz.laysC172_ren : Go.Shelf.Ren := ⟨fun | 172 => 166 | 244 => 198 | 245 => 199 | 247 => 220 | 279 => 221 | 280 => 222 | 281 => 223 | 282 => 224 | 287 => 238 | 316 => 239 | 171 => 129 | 205 => 240 | 321 => 250 | 322 => 251 | 243 => 141 | 246 => 158 | 283 => 186 | 284 => 187 | 285 => 188 | 286 => 189 | 129 => 214 | 317 => 213 | 318 => 215 | 319 => 216 | 320 => 217 | 337 => 236 | 338 => 237 | n => n, fun | 9 => 9 | 3 => 3 | 75 => 213 | 76 => 214 | 4 => 4 | 5 => 5 | 167 => 258 | 37 => 23 | 0 => 0 | 85 => 259 | 2 => 2 | 168 => 261 | 53 => 98 | 175 => 280 | 46 => 180 | 210 => 284 | 127 => 293 | 145 => 299 | 143 => 297 | 21 => 21 | 171 => 239 | 173 => 242 | 212 => 254 | 51 => 185 | 20 => 20 | 213 => 255 | 232 => 294 | 233 => 295 | 80 => 278 | n => n, fun | 15 => 2 | 16 => 3 | 17 => 1 | 18 => 4 | 19 => 5 | n => n⟩
theorem Tryz.laysC172 : Go.Proofs.LaysC.n172 Tryz.prog Tryz.laysC172_ren := {
  mixed := by kernel_rfl
  f129 := Tryz.func214.trans (congrArg some (by kernel_rfl))
  f171 := Tryz.func129.trans (congrArg some (by kernel_rfl))
  f172 := Tryz.func166.trans (congrArg some (by kernel_rfl))
  f205 := Tryz.func240.trans (congrArg some (by kernel_rfl))
  f243 := Tryz.func141.trans (congrArg some (by kernel_rfl))
  f244 := Tryz.func198.trans (congrArg some (by kernel_rfl))
  f245 := Tryz.func199.trans (congrArg some (by kernel_rfl))
  f246 := Tryz.func158.trans (congrArg some (by kernel_rfl))
  f247 := Tryz.func220.trans (congrArg some (by kernel_rfl))
  f279 := Tryz.func221.trans (congrArg some (by kernel_rfl))
  f280 := Tryz.func222.trans (congrArg some (by kernel_rfl))
  f281 := Tryz.func223.trans (congrArg some (by kernel_rfl))
  f282 := Tryz.func224.trans (congrArg some (by kernel_rfl))
  f283 := Tryz.func186.trans (congrArg some (by kernel_rfl))
  f284 := Tryz.func187.trans (congrArg some (by kernel_rfl))
  f285 := Tryz.func188.trans (congrArg some (by kernel_rfl))
  f286 := Tryz.func189.trans (congrArg some (by kernel_rfl))
  f287 := Tryz.func238.trans (congrArg some (by kernel_rfl))
  f316 := Tryz.func239.trans (congrArg some (by kernel_rfl))
  f317 := Tryz.func213.trans (congrArg some (by kernel_rfl))
  f318 := Tryz.func215.trans (congrArg some (by kernel_rfl))
  f319 := Tryz.func216.trans (congrArg some (by kernel_rfl))
  f320 := Tryz.func217.trans (congrArg some (by kernel_rfl))
  f321 := Tryz.func250.trans (congrArg some (by kernel_rfl))
  f322 := Tryz.func251.trans (congrArg some (by kernel_rfl))
  f337 := Tryz.func236.trans (congrArg some (by kernel_rfl))
  f338 := Tryz.func237.trans (congrArg some (by kernel_rfl))
  t0 := Tryz.underlying0
  a0 := Tryz.isAgg0
  z0 := Tryz.sizeOf0
  v0 := Tryz.zeroValue0
  t2 := Tryz.underlying2
  a2 := Tryz.isAgg2
  z2 := Tryz.sizeOf2
  v2 := Tryz.zeroValue2
  t3 := Tryz.underlying3
  a3 := Tryz.isAgg3
  z3 := Tryz.sizeOf3
  v3 := Tryz.zeroValue3
  t4 := Tryz.underlying4
  a4 := Tryz.isAgg4
  z4 := Tryz.sizeOf4
  v4 := Tryz.zeroValue4
  t5 := Tryz.underlying5
  a5 := Tryz.isAgg5
  z5 := Tryz.sizeOf5
  v5 := Tryz.zeroValue5
  t9 := Tryz.underlying9
  a9 := Tryz.isAgg9
  z9 := Tryz.sizeOf9
  v9 := Tryz.zeroValue9
  t20 := Tryz.underlying20
  a20 := Tryz.isAgg20
  z20 := Tryz.sizeOf20
  v20 := Tryz.zeroValue20
  t21 := Tryz.underlying21
  a21 := Tryz.isAgg21
  z21 := Tryz.sizeOf21
  v21 := Tryz.zeroValue21
  t37 := Tryz.underlying23
  a37 := Tryz.isAgg23
  z37 := Tryz.sizeOf23
  v37 := Tryz.zeroValue23
  t46 := Tryz.underlying180
  a46 := Tryz.isAgg180
  z46 := Tryz.sizeOf180
  v46 := Tryz.zeroValue180
  t51 := Tryz.underlying185
  a51 := Tryz.isAgg185
  z51 := Tryz.sizeOf185
  v51 := Tryz.zeroValue185
  t53 := Tryz.underlying98
  a53 := Tryz.isAgg98
  z53 := Tryz.sizeOf98
  v53 := Tryz.zeroValue98
  t75 := Tryz.underlying213
  a75 := Tryz.isAgg213
  z75 := Tryz.sizeOf213
  v75 := Tryz.zeroValue213
  t76 := Tryz.underlying214
  a76 := Tryz.isAgg214
  z76 := Tryz.sizeOf214
  v76 := Tryz.zeroValue214
  t85 := Tryz.underlying259
  a85 := Tryz.isAgg259
  z85 := Tryz.sizeOf259
  v85 := Tryz.zeroValue259
  t127 := Tryz.underlying293
  a127 := Tryz.isAgg293
  z127 := Tryz.sizeOf293
  v127 := Tryz.zeroValue293
  t143 := Tryz.underlying297
  a143 := Tryz.isAgg297
  z143 := Tryz.sizeOf297
  v143 := Tryz.zeroValue297
  t145 := Tryz.underlying299
  a145 := Tryz.isAgg299
  z145 := Tryz.sizeOf299
  v145 := Tryz.zeroValue299
  t167 := Tryz.underlying258
  a167 := Tryz.isAgg258
  z167 := Tryz.sizeOf258
  v167 := Tryz.zeroValue258
  t168 := Tryz.underlying261
  a168 := Tryz.isAgg261
  z168 := Tryz.sizeOf261
  v168 := Tryz.zeroValue261
  t171 := Tryz.underlying239
  a171 := Tryz.isAgg239
  z171 := Tryz.sizeOf239
  v171 := Tryz.zeroValue239
  t173 := Tryz.underlying242
  a173 := Tryz.isAgg242
  z173 := Tryz.sizeOf242
  v173 := Tryz.zeroValue242
  t175 := Tryz.underlying280
  a175 := Tryz.isAgg280
  z175 := Tryz.sizeOf280
  v175 := Tryz.zeroValue280
  t210 := Tryz.underlying284
  a210 := Tryz.isAgg284
  z210 := Tryz.sizeOf284
  v210 := Tryz.zeroValue284
  t212 := Tryz.underlying254
  a212 := Tryz.isAgg254
  z212 := Tryz.sizeOf254
  v212 := Tryz.zeroValue254
  t213 := Tryz.underlying255
  a213 := Tryz.isAgg255
  z213 := Tryz.sizeOf255
  t232 := Tryz.underlying294
  a232 := Tryz.isAgg294
  z232 := Tryz.sizeOf294
  v232 := Tryz.zeroValue294
  t233 := Tryz.underlying295
  a233 := Tryz.isAgg295
  z233 := Tryz.sizeOf295
  v233 := Tryz.zeroValue295
  g15 := by kernel_rfl
  g16 := by kernel_rfl
  g17 := by kernel_rfl
  g18 := by kernel_rfl
  g19 := by kernel_rfl
  t80 := Tryz.underlying278
  a80 := Tryz.isAgg278
  z80 := Tryz.sizeOf278
  v80 := Tryz.zeroValue278
  i0 := by kernel_rfl
  i2 := by kernel_rfl
  i3 := by kernel_rfl
  i4 := by kernel_rfl
  i5 := by kernel_rfl
  i9 := by kernel_rfl
  i20 := by kernel_rfl
  i21 := by kernel_rfl
  i37 := by kernel_rfl
  i46 := by kernel_rfl
  i51 := by kernel_rfl
  i53 := by kernel_rfl
  i75 := by kernel_rfl
  i76 := by kernel_rfl
  i80 := by kernel_rfl
  i85 := by kernel_rfl
  i127 := by kernel_rfl
  i143 := by kernel_rfl
  i145 := by kernel_rfl
  i167 := by kernel_rfl
  i168 := by kernel_rfl
  i171 := by kernel_rfl
  i173 := by kernel_rfl
  i175 := by kernel_rfl
  i210 := by kernel_rfl
  i212 := by kernel_rfl
  i232 := by kernel_rfl
  i233 := by kernel_rfl
  m15 := by kernel_rfl
  m16 := by kernel_rfl
  m17 := by kernel_rfl
  m18 := by kernel_rfl
  m19 := by kernel_rfl
  c0 := by kernel_rfl
  c2 := by kernel_rfl
  c3 := by kernel_rfl
  c4 := by kernel_rfl
  c5 := by kernel_rfl
  c9 := by kernel_rfl
  c20 := by kernel_rfl
  c21 := by kernel_rfl
  c37 := by kernel_rfl
  c46 := by kernel_rfl
  c51 := by kernel_rfl
  c53 := by kernel_rfl
  c75 := by kernel_rfl
  c76 := by kernel_rfl
  c80 := by kernel_rfl
  c85 := by kernel_rfl
  c127 := by kernel_rfl
  c143 := by kernel_rfl
  c145 := by kernel_rfl
  c167 := by kernel_rfl
  c168 := by kernel_rfl
  c171 := by kernel_rfl
  c173 := by kernel_rfl
  c175 := by kernel_rfl
  c210 := by kernel_rfl
  c212 := by kernel_rfl
  c213 := by kernel_rfl
  c232 := by kernel_rfl
  c233 := by kernel_rfl }
def Tryz.lays145_ren : Go.Shelf.Ren := ⟨fun | 145 => 21 | 220 => 52 | 219 => 104 | 217 => 105 | 225 => 132 | 224 => 133 | 267 => 134 | 266 => 135 | 314 => 146 | n => n, fun | 9 => 9 | 4 => 4 | 59 => 63 | 3 => 3 | 5 => 5 | 46 => 180 | 146 => 194 | 51 => 185 | n => n, fun | 1 => 0 | n => n⟩
theorem Tryz.lays145 : Go.Proofs.Lays.n145 Tryz.prog Tryz.lays145_ren := {
  mixed := by kernel_rfl
  f145 := Tryz.func21.trans (congrArg some (by kernel_rfl))
  f217 := Tryz.func105.trans (congrArg some (by kernel_rfl))
  f219 := Tryz.func104.trans (congrArg some (by kernel_rfl))
  f220 := Tryz.func52.trans (congrArg some (by kernel_rfl))
  f224 := Tryz.func133.trans (congrArg some (by kernel_rfl))
  f225 := Tryz.func132.trans (congrArg some (by kernel_rfl))
  f266 := Tryz.func135.trans (congrArg some (by kernel_rfl))
  f267 := Tryz.func134.trans (congrArg some (by kernel_rfl))
  f314 := Tryz.func146.trans (congrArg some (by kernel_rfl))
  t3 := Tryz.underlying3
  a3 := Tryz.isAgg3
  z3 := Tryz.sizeOf3
  v3 := Tryz.zeroValue3
  t4 := Tryz.underlying4
  a4 := Tryz.isAgg4
  z4 := Tryz.sizeOf4
  v4 := Tryz.zeroValue4
  t5 := Tryz.underlying5
  a5 := Tryz.isAgg5
  z5 := Tryz.sizeOf5
  v5 := Tryz.zeroValue5
  t9 := Tryz.underlying9
  a9 := Tryz.isAgg9
  z9 := Tryz.sizeOf9
  v9 := Tryz.zeroValue9
  t46 := Tryz.underlying180
  a46 := Tryz.isAgg180
  z46 := Tryz.sizeOf180
  v46 := Tryz.zeroValue180
  t51 := Tryz.underlying185
  a51 := Tryz.isAgg185
  z51 := Tryz.sizeOf185
  v51 := Tryz.zeroValue185
  t59 := Tryz.underlying63
  a59 := Tryz.isAgg63
  z59 := Tryz.sizeOf63
  v59 := Tryz.zeroValue63
  t146 := Tryz.underlying194
  a146 := Tryz.isAgg194
  z146 := Tryz.sizeOf194
  v146 := Tryz.zeroValue194
  g1 := by kernel_rfl }
def Tryz.lays105_ren : Go.Shelf.Ren := ⟨fun | 105 => 211 | 212 => 230 | 99 => 231 | 165 => 232 | 166 => 233 | 170 => 234 | 169 => 235 | 263 => 246 | 264 => 247 | 206 => 219 | 240 => 248 | 241 => 249 | 276 => 254 | 277 => 255 | n => n, fun | 9 => 9 | 3 => 3 | 4 => 4 | 20 => 20 | 0 => 0 | 46 => 180 | 109 => 272 | 5 => 5 | 72 => 276 | 76 => 214 | 51 => 185 | 146 => 194 | 53 => 98 | 148 => 291 | 70 => 274 | 37 => 23 | 75 => 213 | 127 => 293 | 164 => 301 | 80 => 278 | n => n, fun | n => n⟩
theorem Tryz.lays105 : Go.Proofs.Lays.n105 Tryz.prog Tryz.lays105_ren := {
  mixed := by kernel_rfl
  f99 := Tryz.func231.trans (congrArg some (by kernel_rfl))
  f105 := Tryz.func211.trans (congrArg some (by kernel_rfl))
  f165 := Tryz.func232.trans (congrArg some (by kernel_rfl))
  f166 := Tryz.func233.trans (congrArg some (by kernel_rfl))
  f169 := Tryz.func235.trans (congrArg some (by kernel_rfl))
  f170 := Tryz.func234.trans (congrArg some (by kernel_rfl))
  f206 := Tryz.func219.trans (congrArg some (by kernel_rfl))
  f212 := Tryz.func230.trans (congrArg some (by kernel_rfl))
  f240 := Tryz.func248.trans (congrArg some (by kernel_rfl))
  f241 := Tryz.func249.trans (congrArg some (by kernel_rfl))
  f263 := Tryz.func246.trans (congrArg some (by kernel_rfl))
  f264 := Tryz.func247.trans (congrArg some (by kernel_rfl))
  f276 := Tryz.func254.trans (congrArg some (by kernel_rfl))
  f277 := Tryz.func255.trans (congrArg some (by kernel_rfl))
  t0 := Tryz.underlying0
  a0 := Tryz.isAgg0
  z0 := Tryz.sizeOf0
  v0 := Tryz.zeroValue0
  t3 := Tryz.underlying3
  a3 := Tryz.isAgg3
  z3 := Tryz.sizeOf3
  v3 := Tryz.zeroValue3
  t4 := Tryz.underlying4
  a4 := Tryz.isAgg4
  z4 := Tryz.sizeOf4
  v4 := Tryz.zeroValue4
  t5 := Tryz.underlying5
  a5 := Tryz.isAgg5
  z5 := Tryz.sizeOf5
  v5 := Tryz.zeroValue5
  t9 := Tryz.underlying9
  a9 := Tryz.isAgg9
  z9 := Tryz.sizeOf9
  v9 := Tryz.zeroValue9
  t20 := Tryz.underlying20
  a20 := Tryz.isAgg20
  z20 := Tryz.sizeOf20
  v20 := Tryz.zeroValue20
  t37 := Tryz.underlying23
  a37 := Tryz.isAgg23
  z37 := Tryz.sizeOf23
  v37 := Tryz.zeroValue23
  t46 := Tryz.underlying180
  a46 := Tryz.isAgg180
  z46 := Tryz.sizeOf180
  v46 := Tryz.zeroValue180
  t51 := Tryz.underlying185
  a51 := Tryz.isAgg185
  z51 := Tryz.sizeOf185
  v51 := Tryz.zeroValue185
  t53 := Tryz.underlying98
  a53 := Tryz.isAgg98
  z53 := Tryz.sizeOf98
  v53 := Tryz.zeroValue98
  t70 := Tryz.underlying274
  a70 := Tryz.isAgg274
  z70 := Tryz.sizeOf274
  v70 := Tryz.zeroValue274
  t72 := Tryz.underlying276
  a72 := Tryz.isAgg276
  z72 := Tryz.sizeOf276
  v72 := Tryz.zeroValue276
  t75 := Tryz.underlying213
  a75 := Tryz.isAgg213
  z75 := Tryz.sizeOf213
  v75 := Tryz.zeroValue213
  t76 := Tryz.underlying214
  a76 := Tryz.isAgg214
  z76 := Tryz.sizeOf214
  v76 := Tryz.zeroValue214
  t109 := Tryz.underlying272
  a109 := Tryz.isAgg272
  z109 := Tryz.sizeOf272
  v109 := Tryz.zeroValue272
  t127 := Tryz.underlying293
  a127 := Tryz.isAgg293
  z127 := Tryz.sizeOf293
  v127 := Tryz.zeroValue293
  t146 := Tryz.underlying194
  a146 := Tryz.isAgg194
  z146 := Tryz.sizeOf194
  v146 := Tryz.zeroValue194
  t148 := Tryz.underlying291
  a148 := Tryz.isAgg291
  z148 := Tryz.sizeOf291
  v148 := Tryz.zeroValue291
  t164 := Tryz.underlying301
  a164 := Tryz.isAgg301
  z164 := Tryz.sizeOf301
  v164 := Tryz.zeroValue301 }
theorem Tryz.Builder_Extra_105 : Builder.Extra Tryz.prog Tryz.lays105_ren := {
  sizeBuilder := by kernel_rfl
  liesBuilder := by kernel_rfl
  t5 := Tryz.underlying5
  a5 := Tryz.isAgg5
  z5 := Tryz.sizeOf5
  v5 := Tryz.zeroValue5
  infoByte := by kernel_rfl
  cellsByte := by kernel_rfl
  sizeByte := by kernel_rfl
  neB5 := by decide }
end Go.Proofs
namespace Gx
open Go Go.Proofs Go.RowKit
noncomputable section
variable {R:Type} (N:Nat)
def R4 (_N:Nat) (s t:Lu) (r0:Lu→Lu→Bool→O R):O R:=cond (ble s.length 4294967280) (r0 (Lib.cut s t).1 (Lib.cut s t).2.1 (Lib.cut s t).2.2) none
def strings_Cut:=(At (@R4 R)).1
theorem Qe:@strings_Cut R=@R4 R:=(At _).2
def H8 (a:LA) (h:Aw) (k:KF R):O R :=
 match a,h with
 | [.str s,.str t],[]=>strings_Cut N s t fun x y b=>k (.tup [.str x,.str y,.bool b]) []
 | _,_=>none
def fa:Tw:=⟨fun {R} a h k=>@H8 R N a h k,fun {R} a h k=>by
 unfold H8
 split
 ·rw[Qe,Qe];unfold R4;cases ble _ 4294967280<;>rfl
 ·rfl⟩
def L0 (_N:Nat) (s:Lu) (c:Int) (r0:Lu→O R):O R:=cond (decide (0≤c)&&(decide (c≤9223372036854775807)&&decide ((s.length:Int)*c≤140737488355328))) (r0 (Lib.repeatL s c.toNat)) none
def strings_Repeat:=(At (@L0 R)).1
theorem Ky:@strings_Repeat R=@L0 R:=(At _).2
def Fo (a:LA) (h:Aw) (k:KF R):O R :=
 match a,h with
 | [.str s,.int .i64 c],[]=>strings_Repeat N s c fun x=>k (.str x) []
 | _,_=>none
def TK:Tw:=⟨fun {R} a h k=>@Fo R N a h k,fun {R} a h k=>by
 unfold Fo
 split
 ·rename_i s c
  rw[Ky,Ky];unfold L0;cases (decide (0≤c)&&(decide (c≤9223372036854775807)&&decide ((s.length:Int)*c≤140737488355328)))<;>rfl
 ·rfl⟩
def Pv (_N:Nat) (n:Int) (r0:Lu→O R):O R:=cond (decide (-9223372036854775808≤n)&&decide (n≤9223372036854775807)) (r0 (Lib.itoa n)) none
def strconv_Itoa:=(At (@Pv R)).1
theorem Oo:@strconv_Itoa R=@Pv R:=(At _).2
def Oq (a:LA) (h:Aw) (k:KF R):O R :=
 match a,h with
 | [.int .i64 n],[]=>strconv_Itoa N n fun x=>k (.str x) []
 | _,_=>none
def IP:Tw:=⟨fun {R} a h k=>@Oq R N a h k,fun {R} a h k=>by
 unfold Oq
 split
 ·rename_i n
  rw[Oo,Oo];unfold Pv;cases (decide (-9223372036854775808≤n)&&decide (n≤9223372036854775807))<;>rfl
 ·rfl⟩
def Pw (_N:Nat) (s:Lu) (r0:Int→O R):O R:=cond (ble s.length 9223372036854775806) (match Lib.atoiAll s with | .ok v=>r0 v | _=>none) none
def TL:=(At (@Pw R)).1
theorem Ot:@TL R=@Pw R:=(At _).2
def Hc (a:LA) (h:Aw) (k:KF R):O R :=
 match a,h with
 | [.str s],[]=>TL N s fun x=>k (.tup [.int .i64 x,.undef]) []
 | _,_=>none
def b9:Tw:=⟨fun {R} a h k=>@Hc R N a h k,fun {R} a h k=>by
 unfold Hc
 split
 ·rw[Ot,Ot];unfold Pw;cases ble _ 9223372036854775806
  ·rfl
  ·cases Lib.atoiAll _<;>rfl
 ·rfl⟩
end
theorem oh (w:World) (n:Nat):Below w.heap.size w (w.drewN n):=⟨rfl,rfl,rfl,Ad4 _,fun _ _=>rfl⟩
theorem fb (N:Nat):WG Tryz.prog 21 (fa N):=by
 intro d h res h' j
 have f:H8 N d h (fun v h'=>some (v,h'))=some (res,h'):=j
 unfold H8 at f
 split at f
 ·rename_i s t
  rw[Qe,R4] at f
  obtain⟨q,k⟩:=uc f
  simp at q k
  obtain⟨rfl,rfl⟩:=k
  refine DM fun J β w vs G hr=>?_
  obtain⟨u,v,rfl,e1,l⟩:=fD hr
  simp only[Rep] at e1 l;subst e1 l
  obtain⟨m,x⟩:=G.int (g:=0) (by decide)
  refine(Any.strings_Cut Tryz.lays145 ⟨⟨s⟩⟩ ⟨⟨t⟩⟩ m w (show s.length<4294967281 by omega) x).mono ?_
  rintro e w' ⟨rfl,n,rfl⟩
  refine⟨_,rfl,oh w n,fun J β w=>?_⟩
  rw[Rep]
  exact⟨_,rfl,by simp[Reps,Rep]⟩
 ·cases f
theorem TM (N:Nat):WG Tryz.prog 211 (TK N):=by
 intro d h res h' j
 have f:Fo N d h (fun v h'=>some (v,h'))=some (res,h'):=j
 unfold Fo at f
 split at f
 ·rename_i s c
  rw[Ky,L0] at f
  obtain⟨k,m⟩:=uc f
  simp only[Ad3,decide_eq_true_eq] at k
  simp at m
  obtain⟨rfl,rfl⟩:=m
  refine DM fun J β w vs G hr=>?_
  obtain⟨u,v,rfl,e1,q⟩:=fD hr
  simp only[Rep] at e1 q;subst e1 q
  obtain⟨n,rfl⟩:∃ n:Nat,c=n:=⟨c.toNat,by omega⟩
  by_cases t:s.length=0
  ·have hs:s=[]:=Agj t
   subst hs
   have hn:n≤9223372036854775807:=by have:=k.2.1;omega
   ·refine(Any.strings_Repeat Tryz.lays105 Tryz.Builder_Extra_105 ⟨⟨[]⟩⟩ n w hn (by show 0*n≤_;omega)).mono ?_
    rintro e w' ⟨rfl,l⟩
    exact⟨_,rfl,l,fun J β w=>by rw[Rep];rfl⟩
  ·have x:s.length*n≤140737488355328:=by have:=k.2.2;rw[←Int.natCast_mul] at this;omega
   have y:n≤s.length*n:=Nat.le_mul_of_pos_left n (by omega)
   refine(Any.strings_Repeat Tryz.lays105 Tryz.Builder_Extra_105 ⟨⟨s⟩⟩ n w (by omega) x).mono ?_
   rintro e w' ⟨rfl,l⟩
   exact⟨_,rfl,l,fun J β w=>by rw[Rep];rfl⟩
 ·cases f
theorem b_ (N:Nat):WG Tryz.prog 129 (IP N):=by
 intro d h res h' j
 have f:Oq N d h (fun v h'=>some (v,h'))=some (res,h'):=j
 unfold Oq at f
 split at f
 ·rename_i n
  rw[Oo,Pv] at f
  obtain⟨l,m⟩:=uc f
  simp only[Ad3,decide_eq_true_eq] at l
  simp at m
  obtain⟨rfl,rfl⟩:=m
  refine DM fun J β w vs G hr=>?_
  obtain⟨u,rfl,e1⟩:=fC hr
  rw[Rep] at e1;subst e1
  refine(Any.strconv_Itoa Tryz.laysM171 n l.1 l.2 w (G.tab (g:=1) (by simp[sW,Lib.pow10Tab]) (by kernel_rfl))).mono ?_
  rintro e w' ⟨rfl,k,os,rfl⟩
  refine⟨_,rfl,⟨rfl,rfl,rfl,by simp[Go.Sort.grow],fun i hi=>?_⟩,fun J β w=>by rw[Rep]⟩
  show(w.heap++os)[i]?=_
  rw[Agn hi]
 ·cases f
theorem strconv_Atoi_ok (N:Nat):WG Tryz.prog 166 (b9 N):=by
 intro d h res h' k
 have f:Hc N d h (fun v h'=>some (v,h'))=some (res,h'):=k
 unfold Hc at f
 split at f
 ·rename_i s
  rw[Ot,Pw] at f
  obtain⟨l,j⟩:=uc f
  simp at l
  split at j
  ·rename_i v m
   simp at j
   obtain⟨rfl,rfl⟩:=j
   refine DM fun J β w vs G hr=>?_
   obtain⟨u,rfl,e1⟩:=fC hr
   rw[Rep] at e1;subst e1
   refine(Any.strconv_Atoi_ok Tryz.laysC172 ⟨⟨s⟩⟩ l v m w).mono ?_
   rintro e w' ⟨rfl,n⟩
   refine⟨_,rfl,?_,fun J β w=>by rw[Rep];exact⟨_,rfl,by rw[Reps];exact⟨_,_,rfl,by rw[Rep],by rw[Reps];exact⟨_,_,rfl,by rw[Rep];trivial,by rw[Reps]⟩⟩⟩⟩
   rcases n with rfl | ⟨t,rfl⟩
   ·exact Below.refl _ _
   ·exact Lib.bytesWorld_below _ _ _
  ·cases j
 ·cases f
noncomputable def LF (N:Nat):=Aat (IP N) (b_ N)
end Gx
namespace Gx
open Go Go.Proofs
set_option maxRecDepth 100000
noncomputable section
variable {R:Type} (N:Nat)
def Hd (N:Nat) (r0:LA→Bool→O R) (d:Bool) (l:LA) (i:Bool) (m:LA) (q:Bool) (n:LA):O R :=
 (cond (ble 3 (m.length)) (cond ((beq ((m.take 3).length) 3)&&(ble 3 3)) (A6 3 (l.drop 2) fun v c=>cond ((decide ((0:Int)≤(1:Int)))&&((decide (1≤(c:Int)))&&((decide ((c:Int)≤(c:Int)))&&(decide ((c:Int)≤(c:Int)))))) (cond ((ble (1+(c - 1)) 140737488355328)&&(ble ((1+(c - 1))*48) 140737488355328)) (cond ((beq 1 1)&&((ble 3 (l.length))&&(!false))) (cond (ble 22 (n.length)) (cond ((beq ((n.take 22).length) 22)&&(ble 22 22)) (A6 22 (drop 4 (l.set 2 (.imm (take ((1+(c - 1))*3) (((setCells [(.str ([]:Lu)),.nsl,(.int .i64 0)] 0 (m.take 3)).take 3)++((v.drop 3).take ((c - 1)*3)))) (1+(c - 1)) 3 false ((i||false)||d)))) fun w f=>cond ((decide ((0:Int)≤(1:Int)))&&((decide (1≤(f:Int)))&&((decide ((f:Int)≤(f:Int)))&&(decide ((f:Int)≤(f:Int)))))) (cond ((ble (1+(f - 1)) 140737488355328)&&(ble ((1+(f - 1))*216) 140737488355328)) (cond ((beq 1 1)&&((ble 5 (List.length (l.set 2 (.imm (take ((1+(c - 1))*3) (((setCells [(.str ([]:Lu)),.nsl,(.int .i64 0)] 0 (m.take 3)).take 3)++((v.drop 3).take ((c - 1)*3)))) (1+(c - 1)) 3 false ((i||false)||d)))))&&(!false))) (cond (ble 8 (List.length (List.set (l.set 2 (.imm (take ((1+(c - 1))*3) (((setCells [(.str ([]:Lu)),.nsl,(.int .i64 0)] 0 (m.take 3)).take 3)++((v.drop 3).take ((c - 1)*3)))) (1+(c - 1)) 3 false ((i||false)||d))) 4 (.imm (take ((1+(f - 1))*22) (((setCells [(.str ([]:Lu)),(.int .i64 0),(.int .i64 0),(.int .i64 0),.nsl,(.int .i64 0),(.int .i64 0),(.int .i64 0),(.int .i64 0),(.int .i64 0),(.int .i64 0),(.int .i64 0),(.int .i64 0),(.int .i64 0),(.int .i64 0),(.int .i64 0),(.int .i64 0),(.int .i64 0),.nsl,(.int .i64 0),(.int .i64 0),(.int .i64 0)] 0 (n.take 22)).take 22)++((w.drop 22).take ((f - 1)*22)))) (1+(f - 1)) 22 false ((q||false)||(d||(((i||false)||d)||false))))))) (cond ((beq 0 0)&&((beq (List.length (take 8 (List.set (l.set 2 (.imm (take ((1+(c - 1))*3) (((setCells [(.str ([]:Lu)),.nsl,(.int .i64 0)] 0 (m.take 3)).take 3)++((v.drop 3).take ((c - 1)*3)))) (1+(c - 1)) 3 false ((i||false)||d))) 4 (.imm (take ((1+(f - 1))*22) (((setCells [(.str ([]:Lu)),(.int .i64 0),(.int .i64 0),(.int .i64 0),.nsl,(.int .i64 0),(.int .i64 0),(.int .i64 0),(.int .i64 0),(.int .i64 0),(.int .i64 0),(.int .i64 0),(.int .i64 0),(.int .i64 0),(.int .i64 0),(.int .i64 0),(.int .i64 0),(.int .i64 0),.nsl,(.int .i64 0),(.int .i64 0),(.int .i64 0)] 0 (n.take 22)).take 22)++((w.drop 22).take ((f - 1)*22)))) (1+(f - 1)) 22 false ((q||false)||(d||(((i||false)||d)||false))))))) 8)&&(beq 8 8))) (cond (ble 8 (List.length (take 8 (List.set (l.set 2 (.imm (take ((1+(c - 1))*3) (((setCells [(.str ([]:Lu)),.nsl,(.int .i64 0)] 0 (m.take 3)).take 3)++((v.drop 3).take ((c - 1)*3)))) (1+(c - 1)) 3 false ((i||false)||d))) 4 (.imm (take ((1+(f - 1))*22) (((setCells [(.str ([]:Lu)),(.int .i64 0),(.int .i64 0),(.int .i64 0),.nsl,(.int .i64 0),(.int .i64 0),(.int .i64 0),(.int .i64 0),(.int .i64 0),(.int .i64 0),(.int .i64 0),(.int .i64 0),(.int .i64 0),(.int .i64 0),(.int .i64 0),(.int .i64 0),(.int .i64 0),.nsl,(.int .i64 0),(.int .i64 0),(.int .i64 0)] 0 (n.take 22)).take 22)++((w.drop 22).take ((f - 1)*22)))) (1+(f - 1)) 22 false ((q||false)||(d||(((i||false)||d)||false)))))))) (r0 (take 8 (take 8 (List.set (l.set 2 (.imm (take ((1+(c - 1))*3) (((setCells [(.str ([]:Lu)),.nsl,(.int .i64 0)] 0 (m.take 3)).take 3)++((v.drop 3).take ((c - 1)*3)))) (1+(c - 1)) 3 false ((i||false)||d))) 4 (.imm (take ((1+(f - 1))*22) (((setCells [(.str ([]:Lu)),(.int .i64 0),(.int .i64 0),(.int .i64 0),.nsl,(.int .i64 0),(.int .i64 0),(.int .i64 0),(.int .i64 0),(.int .i64 0),(.int .i64 0),(.int .i64 0),(.int .i64 0),(.int .i64 0),(.int .i64 0),(.int .i64 0),(.int .i64 0),(.int .i64 0),.nsl,(.int .i64 0),(.int .i64 0),(.int .i64 0)] 0 (n.take 22)).take 22)++((w.drop 22).take ((f - 1)*22)))) (1+(f - 1)) 22 false ((q||false)||(d||(((i||false)||d)||false))))))) ((d||(((i||false)||d)||false))||(((q||false)||(d||(((i||false)||d)||false)))||false))) none) none) none) none) none) none) none) none) none) none) none) none) none)
def R5 (r0:LA→Bool→O R) (q0:Bool→LA→Bool→LA→Bool→LA→O R) (b:LA) (a:Bool) (o h:Int) (p:Lu):O R :=
 (A6 3 (b.drop 2) fun g z=>cond (Aj 0 z) (cond (ble 3 (g.length)) (A6 22 (b.drop 4) fun e aa=>cond (Aj 0 aa) (cond (ble 22 (e.length)) (cond ((beq 0 0)&&((beq ((g.take 3).length) 3)&&(beq 3 3))) (cond ((beq 0 0)&&((beq ((e.take 22).length) 22)&&(beq 22 22))) (QR N o 12 fun j=>cond (j==0) (cond ((beq 1 1)&&((ble 1 (b.length))&&(!false))) (q0 (a||false) (b.set 0 (.int .i64 h)) a (g.take 3) a (e.take 22)) none) (cond (j==1) (cond ((beq 1 1)&&((ble 1 ((g.take 3).length))&&(!false))) (q0 a b (a||false) ((g.take 3).set 0 (.str p)) a (e.take 22)) none) (cond (j==2) (cond ((beq 1 1)&&((ble 3 ((g.take 3).length))&&(!false))) (q0 a b (a||false) ((g.take 3).set 2 (.int .i64 h)) a (e.take 22)) none) (cond (j==3) (A6 1 ((g.take 3).drop 1) fun x r=>cond ((!a)||(Ax x)) (cond ((ble (0+r) 140737488355328)&&(ble ((0+r)*8) 140737488355328)) (cond ((ble ((0+r)+1) 140737488355328)&&(ble (((0+r)+1)*8) 140737488355328)) (cond ((beq 1 1)&&((ble 2 ((g.take 3).length))&&(!false))) (q0 a b (a||false) ((g.take 3).set 1 (.imm (take (((0+r)+1)*1) ((x.take ((0+r)*1))++[(.int .i64 1)])) ((0+r)+1) 1 false false)) a (e.take 22)) none) none) none) none) (cond (j==4) (cond ((beq 1 1)&&((ble 2 ((e.take 22).length))&&(!false))) (q0 a b a (g.take 3) (a||false) ((e.take 22).set 1 (.int .i64 h))) none) (cond (j==5) (cond ((beq 1 1)&&((ble 20 ((e.take 22).length))&&(!false))) (q0 a b a (g.take 3) (a||false) ((e.take 22).set 19 (.int .i64 h))) none) (cond (j==6) (QR N h 5 fun y=>cond (Aj y 5) (Hz (drop (0+((y.toNat)*1)) [(.str ([99,111,114,114,101,99,116,105,118,101]:Lu)),(.str ([117,49]:Lu)),(.str ([85]:Lu)),(.str ([]:Lu)),(.str ([97,95,49]:Lu))]) fun ab=>cond ((beq 1 1)&&((ble 1 ((e.take 22).length))&&(!false))) (q0 a b a (g.take 3) (a||false) ((e.take 22).set 0 (.str ab))) none) none) (cond (j==7) (cond ((beq 1 1)&&((ble 3 ((e.take 22).length))&&(!false))) (q0 a b a (g.take 3) (a||false) ((e.take 22).set 2 (.int .i64 h))) none) (cond (j==8) (cond ((beq 1 1)&&((ble 19 ((e.take 22).length))&&(!false))) (q0 a b a (g.take 3) (a||false) ((e.take 22).set 18 (.imm [(.int .i64 h)] 1 1 false false))) none) (cond (j==9) (A6 4 (b.drop 7) fun ac s=>cond ((ble (0+s) 140737488355328)&&(ble ((0+s)*72) 140737488355328)) (QR N h 4 fun ad=>cond ((ble ((0+s)+1) 140737488355328)&&(ble (((0+s)+1)*72) 140737488355328)) (cond ((beq 1 1)&&((ble 8 (b.length))&&(!false))) (q0 (a||((a||false)||false)) (b.set 7 (.imm (take (((0+s)+1)*4) ((ac.take ((0+s)*4))++[(.str ([101,120,116,114,97]:Lu)),(.imm [(.int .i64 ad)] 1 1 false false),(.bool false),(.imm [(.int .i64 0),(.int .i64 0),(.int .i64 0)] 1 3 false false)])) ((0+s)+1) 4 false (a||false))) a (g.take 3) a (e.take 22)) none) none) none) (cond (j==10) (A6 9 (b.drop 5) fun ae t=>cond ((ble (0+t) 140737488355328)&&(ble ((0+t)*80) 140737488355328)) (cond ((ble ((0+t)+1) 140737488355328)&&(ble (((0+t)+1)*80) 140737488355328)) (cond ((beq 1 1)&&((ble 6 (b.length))&&(!false))) (q0 (a||((a||false)||false)) (b.set 5 (.imm (take (((0+t)+1)*9) ((ae.take ((0+t)*9))++[(.str ([109,111,114,101]:Lu)),(.int .i64 0),(.int .i64 0),(.int .i64 0),(.int .i64 0),(.int .i64 0),(.int .i64 0),(.int .i64 1),(.int .i64 h)])) ((0+t)+1) 9 false (a||false))) a (g.take 3) a (e.take 22)) none) none) none) (cond (j==11) (A6 5 (b.drop 6) fun af u=>cond ((ble (0+u) 140737488355328)&&(ble ((0+u)*96) 140737488355328)) (cond ((ble ((0+u)+1) 140737488355328)&&(ble (((0+u)+1)*96) 140737488355328)) (cond ((beq 1 1)&&((ble 7 (b.length))&&(!false))) (q0 (a||((a||false)||false)) (b.set 6 (.imm (take (((0+u)+1)*5) ((af.take ((0+u)*5))++[(.str ([109,111,114,101]:Lu)),(.int .i64 0),.nsl,.nsl,.nsl])) ((0+u)+1) 5 false (a||false))) a (g.take 3) a (e.take 22)) none) none) none) (q0 a b a (g.take 3) a (e.take 22)))))))))))))) none) none) none) none) none) none)
def Px:=(At fun N b a o h p r0=>R5 (R:=R) N r0 (Hd N r0) b a o h p).1
theorem BF (b a o h p r0):(@Px R N b a o h p r0)=(R5 N r0 (Hd N r0) b a o h p):=by rw[Px,(At _).2]
def EH:Hints:={ H:=(hK 2 (hJ [4,8,9,10] hL hL)),modes:=[(3,0)] }
def IQ:EZ:=[oW N]
def WZ (F:KF R):=Tj Tryz.f16 EH (IQ N) [] N F
def Tv (F:KF R):LA→Bool→O R:=(fun ag ah=>F (.pagg ag ah) [])
def W_ (K:St→O R):=fun d l i m q n=>K ⟨[(4,(op 0)),(8,(op 1)),(9,(op 2)),(10,(op 3))],(hq [(bP d 0 l),(bN 0 [(iv 0),.nsl,.nsl,.nsl,.nsl,.nsl,.nsl,.nsl]),(bP i 0 m),(bP q 0 n)])⟩
theorem OC (F:KF R):W_ (D5 (WZ N F (pz 85) []))=(Hd N (Tv F)):=by kernel_rfl
def cA:=Jl N 16 (IQ N) EH (fun
 | [(.pagg b a),(.int .i64 o),(.int .i64 h),(.str p)],[]=>some fun _ k=>Px N b a o h p (Tv k)
 | _,_=>none) fun _ _=>by split;intro R F;exact(Ee (R5 N (Tv F) · _ _ _ _ _) ((jW ..).trans (OC ..)):_).trans (BF ..).symm;trivial
def Xq (N:Nat) (r0:Int→O R) (b:Bool) (a:LA):O R :=
 (A6 9 (a.drop 5) fun i c=>cond ((decide ((c:Int)>8))==false) (A6 5 (a.drop 6) fun j d=>cond ((cond false true (decide ((d:Int)>8)))==false) (A6 4 (a.drop 7) fun l e=>cond (cond false true (decide ((e:Int)>64))) (r0 8) (r0 0)) (r0 8)) (r0 8))
def GP (N:Nat) (r0:Int→O R) (q0:O R) (a:LA) (b:Bool):O R :=
 (A6 3 (a.drop 2) fun m f=>cond ((decide ((f:Int)>32))==false) (A6 12 (a.drop 3) fun n g=>cond ((cond false true (decide ((g:Int)>64)))==false) (A6 22 (a.drop 4) fun o h=>cond (cond false true (decide ((h:Int)>16))) (r0 8) q0) (r0 8)) (r0 8))
def EI:=(At fun N a b r0=>GP (R:=R) N r0 (Xq N r0 b a) a b).1
theorem PI (a b r0):(@EI R N a b r0)=(GP N r0 (Xq N r0 b a) a b):=by rw[EI,(At _).2]
def TN:Hints:={ H:=(hK 1 (hJ [1] hL hL)) }
def ly (F:KF R):=Tj Tryz.f40 TN [] [] N F
def lz (b:Bool) (a:LA) (K:St→O R):=K ⟨[(1,(op 0))],(hq [(bP b 0 a)])⟩
theorem cB (F:KF R) (b a):lz b a (D5 (ly N F (pz 21) []))=(Xq N (D4 F) b a):=by kernel_rfl
def oi:=Jl N 40 [] TN (fun
 | [(.pagg a b)],[]=>some fun _ k=>EI N a b (D4 k)
 | _,_=>none) fun _ _=>by split;intro R F;exact(Ee (GP N (D4 F) · _ _) ((jW ..).trans (cB ..)):_).trans (PI ..).symm;trivial
def Um (N:Nat) (r0:Bool→O R) (c:LA) (g:Nat) (b:Bool) (a:LA) (k1:Bool→Int→Int→O R) (m:Bool) (j h:Int):O R :=
 (cond (decide (h<j)) (cond (Aj h g) (cond (ble 5 ((c.drop ((h.toNat)*5)).length)) (cond ((beq 0 0)&&((beq (((c.drop ((h.toNat)*5)).take 5).length) 5)&&(beq 5 5))) (cond (m==true) (A6 1 (((c.drop ((h.toNat)*5)).take 5).drop 2) fun z p=>Av .i64 a fun q=>cond ((cond true ((p:Int)==q) false)==true) (A6 1 (((c.drop ((h.toNat)*5)).take 5).drop 3) fun aa r=>Av .i64 a fun s=>cond ((cond true ((r:Int)==s) false)==true) (A6 1 (((c.drop ((h.toNat)*5)).take 5).drop 4) fun ab t=>Av .i64 a fun u=>k1 (cond true ((t:Int)==u) false) j (wrap .i64 (h+1))) (k1 false j (wrap .i64 (h+1)))) (k1 false j (wrap .i64 (h+1)))) (k1 false j (wrap .i64 (h+1)))) none) none) none) (r0 m))
def Ou (r0:Bool→O R) (c:LA) (g:Nat) (b:Bool) (a:LA):Nat→Bool→Int→Int→O R
 | 0,_,_,_=>none
 | n+1,m,j,h=>Um N r0 c g b a (Ou r0 c g b a n) m j h
def Un (N:Nat) (r0:Bool→O R) (d:LA) (f:Nat) (b:Bool) (a:LA) (k0:Bool→Int→Int→O R) (q1:LA→Nat→Bool→Int→Int→O R) (o:Bool) (l i:Int):O R :=
 (cond (decide (i<l)) (cond (Aj i f) (cond (ble 3 ((d.drop ((i.toNat)*3)).length)) (cond ((beq 0 0)&&((beq (((d.drop ((i.toNat)*3)).take 3).length) 3)&&(beq 3 3))) (cond (o==true) (A6 1 (((d.drop ((i.toNat)*3)).take 3).drop 1) fun ac v=>Av .i64 a fun w=>k0 (cond true ((v:Int)==w) false) l (wrap .i64 (i+1))) (k0 false l (wrap .i64 (i+1)))) none) none) none) (A6 5 (a.drop 6) fun c g=>q1 c g o (g:Int) 0))
def Kz (r0:Bool→O R) (d:LA) (f:Nat) (b:Bool) (a:LA):Nat→Bool→Int→Int→O R
 | 0,_,_,_=>none
 | n+1,o,l,i=>Un N r0 d f b a (Kz r0 d f b a n) (fun c g=>Ou N r0 c g b a N) o l i
def GQ (N:Nat) (r0:Bool→O R) (q0:LA→Nat→Bool→Int→Int→O R) (a:LA) (b:Bool):O R :=
 (A6 1 (a.drop 1) fun ad x=>Av .i64 a fun y=>A6 3 (a.drop 2) fun d f=>q0 d f ((x:Int)==y) (f:Int) 0)
def EJ:=(At fun N a b r0=>GQ (R:=R) N r0 (fun d f=>Kz N r0 d f b a N) a b).1
theorem PJ (a b r0):(@EJ R N a b r0)=(GQ N r0 (fun d f=>Kz N r0 d f b a N) a b):=by rw[EJ,(At _).2]
def TO:Hints:={ H:=(hK 2 (hS (hK 1 (hS (hP [1,3,15,16,17] hL) hL)) (hS (hK 1 (hS (hP [1,3,32,33,34] hL) hL)) hL))) }
def TP (F:KF R):=Tj Tryz.f41 TO [] [] N F
def mA (c:LA) (g:Nat) (b:Bool) (a:LA) (K:St→O R):=fun m j h=>K ⟨[(1,(op 0)),(3,(.bool m)),(32,(.imm c g 5 false b)),(33,(iv j)),(34,(iv h))],(hq [(bP b 0 a)])⟩
def mB (d:LA) (f:Nat) (b:Bool) (a:LA) (K:St→O R):=fun o l i=>K ⟨[(1,(op 0)),(3,(.bool o)),(15,(.imm d f 3 false b)),(16,(iv l)),(17,(iv i))],(hq [(bP b 0 a)])⟩
theorem cC (F:KF R) (c g b a):∀ n,mA c g b a (Ao (TP N F (pz 5444) []) n)=(Ou N (B8 F) c g b a n):=Ev fun n e=>(Ee (Um N (B8 F) c g b a) e:_)
theorem cD (F:KF R) (d f b a):∀ n,mB d f b a (Ao (TP N F (pz 1348) []) n)=(Kz N (B8 F) d f b a n):=Ev fun n e=>(Sq (Un N (B8 F) d f b a) e (Yo fun c g=>(lW ..).trans (cC ..)):_)
def om:=Jl N 41 [] TO (fun
 | [(.pagg a b)],[]=>some fun _ k=>EJ N a b (B8 k)
 | _,_=>none) fun _ _=>by split;intro R F;exact(Ee (GQ N (B8 F) · _ _) (Yo fun d f=>(lW ..).trans (cD ..)):_).trans (PJ ..).symm;trivial
def BG (N:Nat) (r0:Bool→O R) (a:Lu) (k1:Int→Int→O R) (c b:Int):O R :=
 (cond (decide (b<c)) (cond (Aj b (a.length)) (cond ((decide (((UInt8.toNat (List.getD a (b.toNat) 0):Nat):Int)<97))==false) (cond ((cond false true (decide (((UInt8.toNat (List.getD a (b.toNat) 0):Nat):Int)>122)))==true) (cond ((decide (((UInt8.toNat (List.getD a (b.toNat) 0):Nat):Int)<48))==false) (cond ((cond true (cond false true (decide (((UInt8.toNat (List.getD a (b.toNat) 0):Nat):Int)>57))) false)==true) (cond (cond true (((UInt8.toNat (List.getD a (b.toNat) 0):Nat):Int) != 95) false) (r0 false) (k1 c (wrap .i64 (b+1)))) (k1 c (wrap .i64 (b+1)))) (cond (cond true (((UInt8.toNat (List.getD a (b.toNat) 0):Nat):Int) != 95) false) (r0 false) (k1 c (wrap .i64 (b+1))))) (k1 c (wrap .i64 (b+1)))) (cond ((decide (((UInt8.toNat (List.getD a (b.toNat) 0):Nat):Int)<48))==false) (cond ((cond true (cond false true (decide (((UInt8.toNat (List.getD a (b.toNat) 0):Nat):Int)>57))) false)==true) (cond (cond true (((UInt8.toNat (List.getD a (b.toNat) 0):Nat):Int) != 95) false) (r0 false) (k1 c (wrap .i64 (b+1)))) (k1 c (wrap .i64 (b+1)))) (cond (cond true (((UInt8.toNat (List.getD a (b.toNat) 0):Nat):Int) != 95) false) (r0 false) (k1 c (wrap .i64 (b+1)))))) none) (r0 true))
def Tx (r0:Bool→O R) (a:Lu):Nat→Int→Int→O R
 | 0,_,_=>none
 | n+1,c,b=>BG N r0 a (Tx r0 a n) c b
def LG (N:Nat) (r0:Bool→O R) (a:Lu) (q1:Int→Int→O R):O R :=
 (q1 (((a.length):Nat):Int) 0)
def GR (r0:Bool→O R) (a:Lu):O R:=(LG N r0 a (Tx N r0 a N))
def TQ (N:Nat) (r0:Bool→O R) (q0:O R) (a:Lu):O R :=
 (cond ((decide ((((a.length):Nat):Int)<1))==false) (cond ((cond false true (decide ((((a.length):Nat):Int)>16)))==false) (cond ((cond false true (a==([99,111,114,114,101,99,116,105,118,101]:Lu)))==false) (cond (Aj 0 (a.length)) (cond ((cond false true (decide (((UInt8.toNat (List.getD a 0 0):Nat):Int)<97)))==false) (cond (Aj 0 (a.length)) (cond (cond false true (decide (((UInt8.toNat (List.getD a 0 0):Nat):Int)>122))) (r0 false) q0) none) (r0 false)) none) (r0 false)) (r0 false)) (r0 false))
def TR:=(At fun N a r0=>TQ (R:=R) N r0 (GR N r0 a) a).1
theorem ZQ (a r0):(@TR R N a r0)=(TQ N r0 (GR N r0 a) a):=by rw[TR,(At _).2]
def fc:Hints:={ H:=(hK 1 (hJ [0] hL (hS (hK 1 (hS (hP [0,28,29] hL) hL)) hL))) }
def fe (F:KF R):=Tj Tryz.f86 fc [] [] N F
def rO (a:Lu) (K:St→O R):=fun c b=>K ⟨[(0,(.str a)),(28,(iv c)),(29,(iv b))],[]⟩
def rP (a:Lu) (K:St→O R):=K ⟨[(0,(.str a))],[]⟩
theorem i_ (F:KF R) (a):∀ n,rO a (Ao (fe N F (pz 1348) []) n)=(Tx N (B8 F) a n):=Ev fun n e=>(Ee (BG N (B8 F) a) e:_)
theorem ia (F:KF R) (a):rP a (D5 (fe N F (pz 21) []))=(GR N (B8 F) a):=(Ee (LG N (B8 F) a) ((lW ..).trans (i_ ..)):_)
def uH:=Jl N 86 [] fc (fun
 | [(.str a)],[]=>some fun _ k=>TR N a (B8 k)
 | _,_=>none) fun _ _=>by split;intro R F;exact(Ee (TQ N (B8 F) · _) ((jW ..).trans (ia ..)):_).trans (ZQ ..).symm;trivial
def CO (a:Lu) (r0:Bool→O R):O R :=
 (TR N a fun b=>r0 (!b))
def GS:=(At (@CO R)).1
theorem EK:@GS R=@CO R:=(At _).2
def ff:=Jl N 85 [uH N] O7 (fun
 | [(.str a)],[]=>some fun _ k=>GS N a (B8 k)
 | _,_=>none) fun _ _=>by split;intro R F;dsimp only;rw[EK];kernel_rfl;trivial
def B4 (r0:Int→O R) (b:LA) (a:Nat) (c d:Bool) (k0:Int→Int→O R) (g f:Int):O R :=
 (cond (decide (f<g)) (cond (Aj f a) (Hz (b.drop ((f.toNat)*1)) fun h=>GS N h fun i=>cond i (r0 f) (k0 g (wrap .i64 (f+1)))) none) (r0 (-1)))
def Ay (r0:Int→O R) (b:LA) (a:Nat) (c d:Bool):Nat→Int→Int→O R
 | 0,_,_=>none
 | n+1,g,f=>B4 N r0 b a c d (Ay r0 b a c d n) g f
def Cd (N:Nat) (r0:Int→O R) (q0:Int→Int→O R) (b:LA) (a:Nat) (c d:Bool):O R :=
 (q0 (a:Int) 0)
def Ci:=(At fun N b a c d r0=>Cd (R:=R) N r0 (Ay N r0 b a c d N) b a c d).1
theorem Gc (b a c d r0):(@Ci R N b a c d r0)=(Cd N r0 (Ay N r0 b a c d N) b a c d):=by rw[Ci,(At _).2]
def Gk:Hints:={ H:=(hK 1 (hS (hK 1 (hS (hP [0,1,7,8] hL) hL)) hL)) }
def Gr:EZ:=[ff N]
def Ov (F:KF R):=Tj Tryz.f127 Gk (Gr N) [] N F
def Ow (b:LA) (a:Nat) (c d:Bool) (K:St→O R):=fun g f=>K ⟨[(0,(.imm b a 1 c d)),(1,(.fn 85 [])),(7,(iv g)),(8,(iv f))],[]⟩
theorem Mo (F:KF R) (b a c d):∀ n,Ow b a c d (Ao (Ov N F (pz 324) []) n)=(Ay N (D4 F) b a c d n):=Ev fun n e=>(Ee (B4 N (D4 F) b a c d) e:_)
def Pi:=Jl N 127 (Gr N) Gk (fun
 | [(.imm b a 1 c d),(.fn 85 [])],[]=>some fun _ k=>Ci N b a c d (D4 k)
 | _,_=>none) fun _ _=>by split;intro R F;exact(Ee (Cd N (D4 F) · _ _ _ _) ((lW ..).trans (Mo ..)):_).trans (Gc ..).symm;trivial
def Dy (a:LA) (b:Nat) (d c:Bool) (r0:Bool→O R):O R :=
 (Ci N a b false c fun e=>r0 (decide (e≥0)))
def As:=(At (@Dy R)).1
theorem Gd:@As R=@Dy R:=(At _).2
def Pj:=Jl N 84 [Pi N] O7 (fun
 | [(.imm a b 1 d c),(.fn 85 [])],[]=>some fun _ k=>As N a b d c (B8 k)
 | _,_=>none) fun _ _=>by split;intro R F;dsimp only;rw[Gd];kernel_rfl;trivial
def B7 (N:Nat) (r0:Int→O R) (b:LA) (a:Nat) (d f:Bool) (c:Lu) (k0:Int→Int→O R) (h g:Int):O R :=
 (cond (decide (g<h)) (cond (Aj g a) (Hz (b.drop ((g.toNat)*1)) fun i=>cond (c==i) (r0 g) (k0 h (wrap .i64 (g+1)))) none) (r0 (-1)))
def A7 (r0:Int→O R) (b:LA) (a:Nat) (d f:Bool) (c:Lu):Nat→Int→Int→O R
 | 0,_,_=>none
 | n+1,h,g=>B7 N r0 b a d f c (A7 r0 b a d f c n) h g
def D0 (N:Nat) (r0:Int→O R) (q0:Int→Int→O R) (b:LA) (a:Nat) (d f:Bool) (c:Lu):O R :=
 (q0 (a:Int) 0)
def Ed:=(At fun N b a d f c r0=>D0 (R:=R) N r0 (A7 N r0 b a d f c N) b a d f c).1
theorem Jm (b a d f c r0):(@Ed R N b a d f c r0)=(D0 N r0 (A7 N r0 b a d f c N) b a d f c):=by rw[Ed,(At _).2]
def Kc:Hints:={ H:=(hK 1 (hS (hK 1 (hS (hP [0,1,7,8] hL) hL)) hL)) }
def Ty (F:KF R):=Tj Tryz.f128 Kc [] [] N F
def Tz (b:LA) (a:Nat) (d f:Bool) (c:Lu) (K:St→O R):=fun h g=>K ⟨[(0,(.imm b a 1 d f)),(1,(.str c)),(7,(iv h)),(8,(iv g))],[]⟩
theorem Rd (F:KF R) (b a d f c):∀ n,Tz b a d f c (Ao (Ty N F (pz 324) []) n)=(A7 N (D4 F) b a d f c n):=Ev fun n e=>(Ee (B7 N (D4 F) b a d f c) e:_)
def Vp:=Jl N 128 [] Kc (fun
 | [(.imm b a 1 d f),(.str c)],[]=>some fun _ k=>Ed N b a d f c (D4 k)
 | _,_=>none) fun _ _=>by split;intro R F;exact(Ee (D0 N (D4 F) · _ _ _ _ _) ((lW ..).trans (Rd ..)):_).trans (Jm ..).symm;trivial
def E9 (a:LA) (b:Nat) (e c:Bool) (d:Lu) (r0:Bool→O R):O R :=
 (Ed N a b false c d fun f=>r0 (decide (f≥0)))
def A2:=(At (@E9 R)).1
theorem Hp:@A2 R=@E9 R:=(At _).2
def R6:=Jl N 87 [Vp N] O7 (fun
 | [(.imm a b 1 e c),(.str d)],[]=>some fun _ k=>A2 N a b e c d (B8 k)
 | _,_=>none) fun _ _=>by split;intro R F;dsimp only;rw[Hp];kernel_rfl;trivial
def TS (N:Nat) (k7:Int→O R) (r0:Int→O R) (a c f h j m:Nat) (b d g i l o:LA) (k8:Int→O R) (bl:Int):O R :=
 (k7 (wrap .i64 (bl+1)))
def BH (k7:Int→O R) (r0:Int→O R) (a c f h j m:Nat) (b d g i l o:LA):Nat→Int→O R
 | 0,_=>none
 | n+1,bl=>TS N k7 r0 a c f h j m b d g i l o (BH k7 r0 a c f h j m b d g i l o n) bl
def Xr (k7:Int→O R) (r0:Int→O R) (a c f h j m:Nat) (b d g i l o:LA) (k9:Int→Int→Int→O R) (ar au af:Int):O R :=
 (cond (decide (af<au)) (cond (Aj af a) (Hz (b.drop (0+((af.toNat)*1))) fun bn=>cond ((decide ((0:Int)≤(0:Int)))&&((decide (0≤af))&&((decide (af≤(a:Int)))&&(decide ((a:Int)≤(a:Int)))))) (A2 N (b.take ((af.toNat)*1)) (af.toNat) false true bn fun bo=>cond bo (r0 10) (k9 ar au (wrap .i64 (af+1)))) none) none) (k7 (wrap .i64 (ar+1))))
def Nv (k7:Int→O R) (r0:Int→O R) (a c f h j m:Nat) (b d g i l o:LA):Nat→Int→Int→Int→O R
 | 0,_,_,_=>none
 | n+1,ar,au,af=>Xr N k7 r0 a c f h j m b d g i l o (Nv k7 r0 a c f h j m b d g i l o n) ar au af
def Uo (k7:Int→O R) (r0:Int→O R) (c a f h j m:Nat) (d b g i l o:LA) (k10:Int→Int→Int→O R) (av aw ag:Int):O R :=
 (cond (decide (ag<aw)) (cond (Aj ag c) (Hz (d.drop (0+((ag.toNat)*1))) fun bp=>cond ((decide ((0:Int)≤(0:Int)))&&((decide (0≤ag))&&((decide (ag≤(c:Int)))&&(decide ((c:Int)≤(c:Int)))))) (A2 N (d.take ((ag.toNat)*1)) (ag.toNat) false true bp fun bq=>cond bq (r0 10) (k10 av aw (wrap .i64 (ag+1)))) none) none) (k7 (wrap .i64 (av+1))))
def K0 (k7:Int→O R) (r0:Int→O R) (c a f h j m:Nat) (d b g i l o:LA):Nat→Int→Int→Int→O R
 | 0,_,_,_=>none
 | n+1,av,aw,ag=>Uo N k7 r0 c a f h j m d b g i l o (K0 k7 r0 c a f h j m d b g i l o n) av aw ag
def Up (k7:Int→O R) (r0:Int→O R) (f a c h j m:Nat) (g b d i l o:LA) (k11:Int→Int→Int→O R) (ax ay ah:Int):O R :=
 (cond (decide (ah<ay)) (cond (Aj ah f) (Hz (g.drop (0+((ah.toNat)*1))) fun br=>cond ((decide ((0:Int)≤(0:Int)))&&((decide (0≤ah))&&((decide (ah≤(f:Int)))&&(decide ((f:Int)≤(f:Int)))))) (A2 N (g.take ((ah.toNat)*1)) (ah.toNat) false true br fun bs=>cond bs (r0 10) (k11 ax ay (wrap .i64 (ah+1)))) none) none) (k7 (wrap .i64 (ax+1))))
def K3 (k7:Int→O R) (r0:Int→O R) (f a c h j m:Nat) (g b d i l o:LA):Nat→Int→Int→Int→O R
 | 0,_,_,_=>none
 | n+1,ax,ay,ah=>Up N k7 r0 f a c h j m g b d i l o (K3 k7 r0 f a c h j m g b d i l o n) ax ay ah
def Uq (k7:Int→O R) (r0:Int→O R) (h a c f j m:Nat) (i b d g l o:LA) (k12:Int→Int→Int→O R) (az ba ai:Int):O R :=
 (cond (decide (ai<ba)) (cond (Aj ai h) (Hz (i.drop (0+((ai.toNat)*1))) fun bt=>cond ((decide ((0:Int)≤(0:Int)))&&((decide (0≤ai))&&((decide (ai≤(h:Int)))&&(decide ((h:Int)≤(h:Int)))))) (A2 N (i.take ((ai.toNat)*1)) (ai.toNat) false true bt fun bu=>cond bu (r0 10) (k12 az ba (wrap .i64 (ai+1)))) none) none) (k7 (wrap .i64 (az+1))))
def K4 (k7:Int→O R) (r0:Int→O R) (h a c f j m:Nat) (i b d g l o:LA):Nat→Int→Int→Int→O R
 | 0,_,_,_=>none
 | n+1,az,ba,ai=>Uq N k7 r0 h a c f j m i b d g l o (K4 k7 r0 h a c f j m i b d g l o n) az ba ai
def Ur (k7:Int→O R) (r0:Int→O R) (j a c f h m:Nat) (l b d g i o:LA) (k13:Int→Int→Int→O R) (bb bc aj:Int):O R :=
 (cond (decide (aj<bc)) (cond (Aj aj j) (Hz (l.drop (0+((aj.toNat)*1))) fun bv=>cond ((decide ((0:Int)≤(0:Int)))&&((decide (0≤aj))&&((decide (aj≤(j:Int)))&&(decide ((j:Int)≤(j:Int)))))) (A2 N (l.take ((aj.toNat)*1)) (aj.toNat) false true bv fun bw=>cond bw (r0 10) (k13 bb bc (wrap .i64 (aj+1)))) none) none) (k7 (wrap .i64 (bb+1))))
def K5 (k7:Int→O R) (r0:Int→O R) (j a c f h m:Nat) (l b d g i o:LA):Nat→Int→Int→Int→O R
 | 0,_,_,_=>none
 | n+1,bb,bc,aj=>Ur N k7 r0 j a c f h m l b d g i o (K5 k7 r0 j a c f h m l b d g i o n) bb bc aj
def Us (k7:Int→O R) (r0:Int→O R) (m a c f h j:Nat) (o b d g i l:LA) (k14:Int→Int→Int→O R) (bd be ak:Int):O R :=
 (cond (decide (ak<be)) (cond (Aj ak m) (Hz (o.drop (0+((ak.toNat)*1))) fun bx=>cond ((decide ((0:Int)≤(0:Int)))&&((decide (0≤ak))&&((decide (ak≤(m:Int)))&&(decide ((m:Int)≤(m:Int)))))) (A2 N (o.take ((ak.toNat)*1)) (ak.toNat) false true bx fun bz=>cond bz (r0 10) (k14 bd be (wrap .i64 (ak+1)))) none) none) (k7 (wrap .i64 (bd+1))))
def K6 (k7:Int→O R) (r0:Int→O R) (m a c f h j:Nat) (o b d g i l:LA):Nat→Int→Int→Int→O R
 | 0,_,_,_=>none
 | n+1,bd,be,ak=>Us N k7 r0 m a c f h j o b d g i l (K6 k7 r0 m a c f h j o b d g i l n) bd be ak
def R7 (N:Nat) (r0:Int→O R) (a c f h j m:Nat) (b d g i l o:LA) (k7:Int→O R) (q8:Int→O R) (q9:Int→Int→Int→O R) (q10:Int→Int→Int→O R) (q11:Int→Int→Int→O R) (q12:Int→Int→Int→O R) (q13:Int→Int→Int→O R) (q14:Int→Int→Int→O R) (r:Int):O R :=
 (cond (decide (r<7)) (cond (Aj r 7) (cond (beq ((r.toNat)*1) 0) (q8 r) (cond (beq ((r.toNat)*1) 1) (q9 r (a:Int) 0) (cond (beq ((r.toNat)*1) 2) (q10 r (c:Int) 0) (cond (beq ((r.toNat)*1) 3) (q11 r (f:Int) 0) (cond (beq ((r.toNat)*1) 4) (q12 r (h:Int) 0) (cond (beq ((r.toNat)*1) 5) (q13 r (j:Int) 0) (cond (beq ((r.toNat)*1) 6) (q14 r (m:Int) 0) none))))))) none) (r0 0))
def Cx (r0:Int→O R) (a c f h j m:Nat) (b d g i l o:LA):Nat→Int→O R
 | 0,_=>none
 | n+1,r=>R7 N r0 a c f h j m b d g i l o (Cx r0 a c f h j m b d g i l o n) (BH N (Cx r0 a c f h j m b d g i l o n) r0 a c f h j m b d g i l o N) (Nv N (Cx r0 a c f h j m b d g i l o n) r0 a c f h j m b d g i l o N) (K0 N (Cx r0 a c f h j m b d g i l o n) r0 c a f h j m d b g i l o N) (K3 N (Cx r0 a c f h j m b d g i l o n) r0 f a c h j m g b d i l o N) (K4 N (Cx r0 a c f h j m b d g i l o n) r0 h a c f j m i b d g l o N) (K5 N (Cx r0 a c f h j m b d g i l o n) r0 j a c f h m l b d g i o N) (K6 N (Cx r0 a c f h j m b d g i l o n) r0 m a c f h j o b d g i l N) r
def Xs (r0:Int→O R) (a c f h j m:Nat) (b d g i l o:LA) (k6:Int→O R) (q7:Int→O R) (s:Int):O R :=
 (cond (decide (s<7)) (cond (Aj s 7) (cond (beq ((s.toNat)*1) 0) (As N [] 0 false true fun ca=>cond ca (r0 9) (k6 (wrap .i64 (s+1)))) (cond (beq ((s.toNat)*1) 1) (As N (b.take (a*1)) a false true fun cb=>cond cb (r0 9) (k6 (wrap .i64 (s+1)))) (cond (beq ((s.toNat)*1) 2) (As N (d.take (c*1)) c false true fun cc=>cond cc (r0 9) (k6 (wrap .i64 (s+1)))) (cond (beq ((s.toNat)*1) 3) (As N (g.take (f*1)) f false true fun cd=>cond cd (r0 9) (k6 (wrap .i64 (s+1)))) (cond (beq ((s.toNat)*1) 4) (As N (i.take (h*1)) h false true fun ce=>cond ce (r0 9) (k6 (wrap .i64 (s+1)))) (cond (beq ((s.toNat)*1) 5) (As N (l.take (j*1)) j false true fun cf=>cond cf (r0 9) (k6 (wrap .i64 (s+1)))) (cond (beq ((s.toNat)*1) 6) (As N (o.take (m*1)) m false true fun cg=>cond cg (r0 9) (k6 (wrap .i64 (s+1)))) none))))))) none) (q7 0))
def Ik (r0:Int→O R) (a c f h j m:Nat) (b d g i l o:LA):Nat→Int→O R
 | 0,_=>none
 | n+1,s=>Xs N r0 a c f h j m b d g i l o (Ik r0 a c f h j m b d g i l o n) (Cx N r0 a c f h j m b d g i l o N) s
def Xt (N:Nat) (r0:Int→O R) (v:LA) (aa:Nat) (p:Bool) (a c f h j:Nat) (b d g i l:LA) (k5:Int→Int→Nat→LA→O R) (q6:Nat→LA→Int→O R) (bf al:Int) (m:Nat) (o:LA):O R :=
 (cond (decide (al<bf)) (cond (Aj al aa) (cond (ble 4 ((v.drop ((al.toNat)*4)).length)) (cond ((beq 0 0)&&((beq (((v.drop ((al.toNat)*4)).take 4).length) 4)&&(beq 4 4))) (Hz ((v.drop ((al.toNat)*4)).take 4) fun ch=>cond ((ble (m+1) 140737488355328)&&(ble ((m+1)*16) 140737488355328)) (k5 bf (wrap .i64 (al+1)) (m+1) ((o.take (m*1))++[(.str ch)])) none) none) none) none) (q6 m o 0))
def Nw (r0:Int→O R) (v:LA) (aa:Nat) (p:Bool) (a c f h j:Nat) (b d g i l:LA):Nat→Int→Int→Nat→LA→O R
 | 0,_,_,_,_=>none
 | n+1,bf,al,m,o=>Xt N r0 v aa p a c f h j b d g i l (Nw r0 v aa p a c f h j b d g i l n) (fun m o=>Ik N r0 a c f h j m b d g i l o N) bf al m o
def Xu (N:Nat) (r0:Int→O R) (w:LA) (ab:Nat) (p:Bool) (q:LA) (a c f h:Nat) (b d g i:LA) (k4:Int→Int→Nat→LA→O R) (q5:LA→Nat→Nat→LA→Int→Int→Nat→LA→O R) (bg am:Int) (j:Nat) (l:LA):O R :=
 (cond (decide (am<bg)) (cond (Aj am ab) (cond (ble 5 ((w.drop ((am.toNat)*5)).length)) (cond ((beq 0 0)&&((beq (((w.drop ((am.toNat)*5)).take 5).length) 5)&&(beq 5 5))) (Hz ((w.drop ((am.toNat)*5)).take 5) fun ci=>cond ((ble (j+1) 140737488355328)&&(ble ((j+1)*16) 140737488355328)) (k4 bg (wrap .i64 (am+1)) (j+1) ((l.take (j*1))++[(.str ci)])) none) none) none) none) (A6 4 (q.drop 7) fun v aa=>q5 v aa j l (aa:Int) 0 0 []))
def Nx (r0:Int→O R) (w:LA) (ab:Nat) (p:Bool) (q:LA) (a c f h:Nat) (b d g i:LA):Nat→Int→Int→Nat→LA→O R
 | 0,_,_,_,_=>none
 | n+1,bg,am,j,l=>Xu N r0 w ab p q a c f h b d g i (Nx r0 w ab p q a c f h b d g i n) (fun v aa j l=>Nw N r0 v aa p a c f h j b d g i l N) bg am j l
def Xv (N:Nat) (r0:Int→O R) (x:LA) (ac:Nat) (p:Bool) (q:LA) (a c f:Nat) (b d g:LA) (k3:Int→Int→Nat→LA→O R) (q4:LA→Nat→Nat→LA→Int→Int→Nat→LA→O R) (bh an:Int) (h:Nat) (i:LA):O R :=
 (cond (decide (an<bh)) (cond (Aj an ac) (cond (ble 9 ((x.drop ((an.toNat)*9)).length)) (cond ((beq 0 0)&&((beq (((x.drop ((an.toNat)*9)).take 9).length) 9)&&(beq 9 9))) (Hz ((x.drop ((an.toNat)*9)).take 9) fun cj=>cond ((ble (h+1) 140737488355328)&&(ble ((h+1)*16) 140737488355328)) (k3 bh (wrap .i64 (an+1)) (h+1) ((i.take (h*1))++[(.str cj)])) none) none) none) none) (A6 5 (q.drop 6) fun w ab=>q4 w ab h i (ab:Int) 0 0 []))
def Ny (r0:Int→O R) (x:LA) (ac:Nat) (p:Bool) (q:LA) (a c f:Nat) (b d g:LA):Nat→Int→Int→Nat→LA→O R
 | 0,_,_,_,_=>none
 | n+1,bh,an,h,i=>Xv N r0 x ac p q a c f b d g (Ny r0 x ac p q a c f b d g n) (fun w ab h i=>Nx N r0 w ab p q a c f h b d g i N) bh an h i
def Xw (N:Nat) (r0:Int→O R) (y:LA) (ad:Nat) (p:Bool) (q:LA) (a c:Nat) (b d:LA) (k2:Int→Int→Nat→LA→O R) (q3:LA→Nat→Nat→LA→Int→Int→Nat→LA→O R) (bi ao:Int) (f:Nat) (g:LA):O R :=
 (cond (decide (ao<bi)) (cond (Aj ao ad) (cond (ble 22 ((y.drop ((ao.toNat)*22)).length)) (cond ((beq 0 0)&&((beq (((y.drop ((ao.toNat)*22)).take 22).length) 22)&&(beq 22 22))) (Hz ((y.drop ((ao.toNat)*22)).take 22) fun ck=>cond ((ble (f+1) 140737488355328)&&(ble ((f+1)*16) 140737488355328)) (k2 bi (wrap .i64 (ao+1)) (f+1) ((g.take (f*1))++[(.str ck)])) none) none) none) none) (A6 9 (q.drop 5) fun x ac=>q3 x ac f g (ac:Int) 0 0 []))
def Nz (r0:Int→O R) (y:LA) (ad:Nat) (p:Bool) (q:LA) (a c:Nat) (b d:LA):Nat→Int→Int→Nat→LA→O R
 | 0,_,_,_,_=>none
 | n+1,bi,ao,f,g=>Xw N r0 y ad p q a c b d (Nz r0 y ad p q a c b d n) (fun x ac f g=>Ny N r0 x ac p q a c f b d g N) bi ao f g
def Xx (N:Nat) (r0:Int→O R) (z:LA) (ae:Nat) (p:Bool) (q:LA) (a:Nat) (b:LA) (k1:Int→Int→Nat→LA→O R) (q2:LA→Nat→Nat→LA→Int→Int→Nat→LA→O R) (bj ap:Int) (c:Nat) (d:LA):O R :=
 (cond (decide (ap<bj)) (cond (Aj ap ae) (cond (ble 12 ((z.drop ((ap.toNat)*12)).length)) (cond ((beq 0 0)&&((beq (((z.drop ((ap.toNat)*12)).take 12).length) 12)&&(beq 12 12))) (Hz ((z.drop ((ap.toNat)*12)).take 12) fun cl=>cond ((ble (c+1) 140737488355328)&&(ble ((c+1)*16) 140737488355328)) (k1 bj (wrap .i64 (ap+1)) (c+1) ((d.take (c*1))++[(.str cl)])) none) none) none) none) (A6 22 (q.drop 4) fun y ad=>q2 y ad c d (ad:Int) 0 0 []))
def N0 (r0:Int→O R) (z:LA) (ae:Nat) (p:Bool) (q:LA) (a:Nat) (b:LA):Nat→Int→Int→Nat→LA→O R
 | 0,_,_,_,_=>none
 | n+1,bj,ap,c,d=>Xx N r0 z ae p q a b (N0 r0 z ae p q a b n) (fun y ad c d=>Nz N r0 y ad p q a c b d N) bj ap c d
def Xy (N:Nat) (r0:Int→O R) (t:LA) (u:Nat) (p:Bool) (q:LA) (k0:Int→Int→Nat→LA→O R) (q1:LA→Nat→Nat→LA→Int→Int→Nat→LA→O R) (bk aq:Int) (a:Nat) (b:LA):O R :=
 (cond (decide (aq<bk)) (cond (Aj aq u) (cond (ble 3 ((t.drop ((aq.toNat)*3)).length)) (cond ((beq 0 0)&&((beq (((t.drop ((aq.toNat)*3)).take 3).length) 3)&&(beq 3 3))) (Hz ((t.drop ((aq.toNat)*3)).take 3) fun bm=>cond ((ble (a+1) 140737488355328)&&(ble ((a+1)*16) 140737488355328)) (k0 bk (wrap .i64 (aq+1)) (a+1) ((b.take (a*1))++[(.str bm)])) none) none) none) none) (A6 12 (q.drop 3) fun z ae=>q1 z ae a b (ae:Int) 0 0 []))
def N1 (r0:Int→O R) (t:LA) (u:Nat) (p:Bool) (q:LA):Nat→Int→Int→Nat→LA→O R
 | 0,_,_,_,_=>none
 | n+1,bk,aq,a,b=>Xy N r0 t u p q (N1 r0 t u p q n) (fun z ae a b=>N0 N r0 z ae p q a b N) bk aq a b
def NE (N:Nat) (r0:Int→O R) (q0:LA→Nat→Int→Int→Nat→LA→O R) (q:LA) (p:Bool):O R :=
 (A6 3 (q.drop 2) fun t u=>q0 t u (u:Int) 0 0 [])
def LH:=(At fun N q p r0=>NE (R:=R) N r0 (fun t u=>N1 N r0 t u p q N) q p).1
theorem TT (q p r0):(@LH R N q p r0)=(NE N r0 (fun t u=>N1 N r0 t u p q N) q p):=by rw[LH,(At _).2]
def ZR:Hints:={ H:=(hK 2 (hS (hK 1 (hS (hP [1,3,23,24,25] hL) hL)) (hS (hK 1 (hS (hP [1,3,38,39,40] hL) hL)) (hS (hK 1 (hS (hP [1,3,53,54,55] hL) hL)) (hS (hK 1 (hS (hP [1,3,68,69,70] hL) hL)) (hS (hK 1 (hS (hP [1,3,83,84,85] hL) hL)) (hS (hK 1 (hS (hP [3,98,99,100] hL) hL)) (hS (hK 1 (hS (hP [3,112,113] hL) hL)) (hS (hK 1 (hS (hP [119,120] (hK 2 (hS (hS (hK 2 (hS (hP [19,119,120,123,124,125] hL) hL)) hL) hL))) hL)) hL))))))))),cob:=[1000003,1000005,1000007,1000009,1000011,1000013,1000015] }
def fg:EZ:=[Pj N,R6 N]
def C8 (F:KF R):=Tj Tryz.f42 ZR (fg N) [] N F
def oq (a c f h j m:Nat) (b d g i l o:LA) (K:St→O R):=fun bl=>K ⟨[(19,(.own 300000 0 0)),(119,(.agg [(.own 300000 0 0),(.own 300001 0 a),(.own 300002 0 c),(.own 300003 0 f),(.own 300004 0 h),(.own 300005 0 j),(.own 300006 0 m)])),(120,(iv bl)),(123,(.own 300000 0 0)),(124,(iv 0)),(125,(iv 0))],(hq [(bQ 1 []),(bQ 1 b),(bQ 1 d),(bQ 1 g),(bQ 1 i),(bQ 1 l),(bQ 1 o)])⟩
def ot (a c f h j m:Nat) (b d g i l o:LA) (K:St→O R):=fun ar au af=>K ⟨[(19,(.own 300000 0 a)),(119,(.agg [(.own 300001 0 0),(.own 300000 0 a),(.own 300002 0 c),(.own 300003 0 f),(.own 300004 0 h),(.own 300005 0 j),(.own 300006 0 m)])),(120,(iv ar)),(123,(.own 300000 0 a)),(124,(iv au)),(125,(iv af))],(hq [(bQ 1 b),(bQ 1 []),(bQ 1 d),(bQ 1 g),(bQ 1 i),(bQ 1 l),(bQ 1 o)])⟩
def mC (c a f h j m:Nat) (d b g i l o:LA) (K:St→O R):=fun av aw ag=>K ⟨[(19,(.own 300000 0 c)),(119,(.agg [(.own 300001 0 0),(.own 300002 0 a),(.own 300000 0 c),(.own 300003 0 f),(.own 300004 0 h),(.own 300005 0 j),(.own 300006 0 m)])),(120,(iv av)),(123,(.own 300000 0 c)),(124,(iv aw)),(125,(iv ag))],(hq [(bQ 1 d),(bQ 1 []),(bQ 1 b),(bQ 1 g),(bQ 1 i),(bQ 1 l),(bQ 1 o)])⟩
def mD (f a c h j m:Nat) (g b d i l o:LA) (K:St→O R):=fun ax ay ah=>K ⟨[(19,(.own 300000 0 f)),(119,(.agg [(.own 300001 0 0),(.own 300002 0 a),(.own 300003 0 c),(.own 300000 0 f),(.own 300004 0 h),(.own 300005 0 j),(.own 300006 0 m)])),(120,(iv ax)),(123,(.own 300000 0 f)),(124,(iv ay)),(125,(iv ah))],(hq [(bQ 1 g),(bQ 1 []),(bQ 1 b),(bQ 1 d),(bQ 1 i),(bQ 1 l),(bQ 1 o)])⟩
def mE (h a c f j m:Nat) (i b d g l o:LA) (K:St→O R):=fun az ba ai=>K ⟨[(19,(.own 300000 0 h)),(119,(.agg [(.own 300001 0 0),(.own 300002 0 a),(.own 300003 0 c),(.own 300004 0 f),(.own 300000 0 h),(.own 300005 0 j),(.own 300006 0 m)])),(120,(iv az)),(123,(.own 300000 0 h)),(124,(iv ba)),(125,(iv ai))],(hq [(bQ 1 i),(bQ 1 []),(bQ 1 b),(bQ 1 d),(bQ 1 g),(bQ 1 l),(bQ 1 o)])⟩
def mF (j a c f h m:Nat) (l b d g i o:LA) (K:St→O R):=fun bb bc aj=>K ⟨[(19,(.own 300000 0 j)),(119,(.agg [(.own 300001 0 0),(.own 300002 0 a),(.own 300003 0 c),(.own 300004 0 f),(.own 300005 0 h),(.own 300000 0 j),(.own 300006 0 m)])),(120,(iv bb)),(123,(.own 300000 0 j)),(124,(iv bc)),(125,(iv aj))],(hq [(bQ 1 l),(bQ 1 []),(bQ 1 b),(bQ 1 d),(bQ 1 g),(bQ 1 i),(bQ 1 o)])⟩
def mG (m a c f h j:Nat) (o b d g i l:LA) (K:St→O R):=fun bd be ak=>K ⟨[(19,(.own 300000 0 m)),(119,(.agg [(.own 300001 0 0),(.own 300002 0 a),(.own 300003 0 c),(.own 300004 0 f),(.own 300005 0 h),(.own 300006 0 j),(.own 300000 0 m)])),(120,(iv bd)),(123,(.own 300000 0 m)),(124,(iv be)),(125,(iv ak))],(hq [(bQ 1 o),(bQ 1 []),(bQ 1 b),(bQ 1 d),(bQ 1 g),(bQ 1 i),(bQ 1 l)])⟩
def C9 (a c f h j m:Nat) (b d g i l o:LA) (K:St→O R):=fun r=>K ⟨[(119,(.agg [(.own 300000 0 0),(.own 300001 0 a),(.own 300002 0 c),(.own 300003 0 f),(.own 300004 0 h),(.own 300005 0 j),(.own 300006 0 m)])),(120,(iv r))],(hq [(bQ 1 []),(bQ 1 b),(bQ 1 d),(bQ 1 g),(bQ 1 i),(bQ 1 l),(bQ 1 o)])⟩
def ou (a c f h j m:Nat) (b d g i l o:LA) (K:St→O R):=fun s=>K ⟨[(3,(op 0)),(112,(.agg [(.own 300001 0 0),(.own 300002 0 a),(.own 300003 0 c),(.own 300004 0 f),(.own 300005 0 h),(.own 300006 0 j),(.own 300007 0 m)])),(113,(iv s))],(hq [(bN 0 [(.own 300001 0 0),(.own 300002 0 a),(.own 300003 0 c),(.own 300004 0 f),(.own 300005 0 h),(.own 300006 0 j),(.own 300007 0 m)]),(bQ 1 []),(bQ 1 b),(bQ 1 d),(bQ 1 g),(bQ 1 i),(bQ 1 l),(bQ 1 o)])⟩
def ov (v:LA) (aa:Nat) (p:Bool) (a c f h j:Nat) (b d g i l:LA) (K:St→O R):=fun bf al m o=>K ⟨[(3,(op 0)),(98,(.imm v aa 4 false p)),(99,(iv bf)),(100,(iv al))],(hq [(bN 0 [(.own 300001 0 0),(.own 300002 0 a),(.own 300003 0 c),(.own 300004 0 f),(.own 300005 0 h),(.own 300006 0 j),(.own 300007 0 m)]),(bQ 1 []),(bQ 1 b),(bQ 1 d),(bQ 1 g),(bQ 1 i),(bQ 1 l),(bQ 1 o)])⟩
def ow (w:LA) (ab:Nat) (p:Bool) (q:LA) (a c f h:Nat) (b d g i:LA) (K:St→O R):=fun bg am j l=>K ⟨[(1,(op 0)),(3,(op 1)),(83,(.imm w ab 5 false p)),(84,(iv bg)),(85,(iv am))],(hq [(bP p 0 q),(bN 0 [(.own 300002 0 0),(.own 300003 0 a),(.own 300004 0 c),(.own 300005 0 f),(.own 300006 0 h),(.own 300007 0 j),(.own 300008 0 0)]),(bQ 1 []),(bQ 1 b),(bQ 1 d),(bQ 1 g),(bQ 1 i),(bQ 1 l),(bQ 1 [])])⟩
def oz (x:LA) (ac:Nat) (p:Bool) (q:LA) (a c f:Nat) (b d g:LA) (K:St→O R):=fun bh an h i=>K ⟨[(1,(op 0)),(3,(op 1)),(68,(.imm x ac 9 false p)),(69,(iv bh)),(70,(iv an))],(hq [(bP p 0 q),(bN 0 [(.own 300002 0 0),(.own 300003 0 a),(.own 300004 0 c),(.own 300005 0 f),(.own 300006 0 h),(.own 300007 0 0),(.own 300008 0 0)]),(bQ 1 []),(bQ 1 b),(bQ 1 d),(bQ 1 g),(bQ 1 i),(bQ 1 []),(bQ 1 [])])⟩
def pA (y:LA) (ad:Nat) (p:Bool) (q:LA) (a c:Nat) (b d:LA) (K:St→O R):=fun bi ao f g=>K ⟨[(1,(op 0)),(3,(op 1)),(53,(.imm y ad 22 false p)),(54,(iv bi)),(55,(iv ao))],(hq [(bP p 0 q),(bN 0 [(.own 300002 0 0),(.own 300003 0 a),(.own 300004 0 c),(.own 300005 0 f),(.own 300006 0 0),(.own 300007 0 0),(.own 300008 0 0)]),(bQ 1 []),(bQ 1 b),(bQ 1 d),(bQ 1 g),(bQ 1 []),(bQ 1 []),(bQ 1 [])])⟩
def pB (z:LA) (ae:Nat) (p:Bool) (q:LA) (a:Nat) (b:LA) (K:St→O R):=fun bj ap c d=>K ⟨[(1,(op 0)),(3,(op 1)),(38,(.imm z ae 12 false p)),(39,(iv bj)),(40,(iv ap))],(hq [(bP p 0 q),(bN 0 [(.own 300002 0 0),(.own 300003 0 a),(.own 300004 0 c),(.own 300005 0 0),(.own 300006 0 0),(.own 300007 0 0),(.own 300008 0 0)]),(bQ 1 []),(bQ 1 b),(bQ 1 d),(bQ 1 []),(bQ 1 []),(bQ 1 []),(bQ 1 [])])⟩
def pC (t:LA) (u:Nat) (p:Bool) (q:LA) (K:St→O R):=fun bk aq a b=>K ⟨[(1,(op 0)),(3,(op 1)),(23,(.imm t u 3 false p)),(24,(iv bk)),(25,(iv aq))],(hq [(bP p 0 q),(bN 0 [(.own 300002 0 0),(.own 300003 0 a),(.own 300004 0 0),(.own 300005 0 0),(.own 300006 0 0),(.own 300007 0 0),(.own 300008 0 0)]),(bQ 1 []),(bQ 1 b),(bQ 1 []),(bQ 1 []),(bQ 1 []),(bQ 1 []),(bQ 1 [])])⟩
theorem fh (Q7) (F:KF R) (a c f h j m b d g i l o):∀ n,oq a c f h j m b d g i l o (Ao (C8 N F (pz 1466014372884) [Q7]) n)=(BH N (C9 a c f h j m b d g i l o Q7) (D4 F) a c f h j m b d g i l o n):=Ev fun n e=>(Ee (TS N (C9 a c f h j m b d g i l o Q7) (D4 F) a c f h j m b d g i l o) e:_)
theorem fi (Q7) (F:KF R) (a c f h j m b d g i l o):∀ n,ot a c f h j m b d g i l o (Ao (C8 N F (pz 1466014372884) [Q7]) n)=(Nv N (C9 a c f h j m b d g i l o Q7) (D4 F) a c f h j m b d g i l o n):=Ev fun n e=>(Ee (Xr N (C9 a c f h j m b d g i l o Q7) (D4 F) a c f h j m b d g i l o) e:_)
theorem cE (Q7) (F:KF R) (c a f h j m d b g i l o):∀ n,mC c a f h j m d b g i l o (Ao (C8 N F (pz 1466014372884) [Q7]) n)=(K0 N (C9 a c f h j m b d g i l o Q7) (D4 F) c a f h j m d b g i l o n):=Ev fun n e=>(Ee (Uo N (C9 a c f h j m b d g i l o Q7) (D4 F) c a f h j m d b g i l o) e:_)
theorem cF (Q7) (F:KF R) (f a c h j m g b d i l o):∀ n,mD f a c h j m g b d i l o (Ao (C8 N F (pz 1466014372884) [Q7]) n)=(K3 N (C9 a c f h j m b d g i l o Q7) (D4 F) f a c h j m g b d i l o n):=Ev fun n e=>(Ee (Up N (C9 a c f h j m b d g i l o Q7) (D4 F) f a c h j m g b d i l o) e:_)
theorem cG (Q7) (F:KF R) (h a c f j m i b d g l o):∀ n,mE h a c f j m i b d g l o (Ao (C8 N F (pz 1466014372884) [Q7]) n)=(K4 N (C9 a c f h j m b d g i l o Q7) (D4 F) h a c f j m i b d g l o n):=Ev fun n e=>(Ee (Uq N (C9 a c f h j m b d g i l o Q7) (D4 F) h a c f j m i b d g l o) e:_)
theorem cH (Q7) (F:KF R) (j a c f h m l b d g i o):∀ n,mF j a c f h m l b d g i o (Ao (C8 N F (pz 1466014372884) [Q7]) n)=(K5 N (C9 a c f h j m b d g i l o Q7) (D4 F) j a c f h m l b d g i o n):=Ev fun n e=>(Ee (Ur N (C9 a c f h j m b d g i l o Q7) (D4 F) j a c f h m l b d g i o) e:_)
theorem cJ (Q7) (F:KF R) (m a c f h j o b d g i l):∀ n,mG m a c f h j o b d g i l (Ao (C8 N F (pz 1466014372884) [Q7]) n)=(K6 N (C9 a c f h j m b d g i l o Q7) (D4 F) m a c f h j o b d g i l n):=Ev fun n e=>(Ee (Us N (C9 a c f h j m b d g i l o Q7) (D4 F) m a c f h j o b d g i l) e:_)
theorem fj (F:KF R) (a c f h j m b d g i l o):∀ n,C9 a c f h j m b d g i l o (Ao (C8 N F (pz 22369604) []) n)=(Cx N (D4 F) a c f h j m b d g i l o n):=Ev fun n e=>Agl (by kernel_rfl) ((Ac7 (fun cm cn co bm cp cq=>R7 N (D4 F) a c f h j m b d g i l o cm cn co bm cp cq _ _) e ((lW ..).trans ((fh ..).trans (iI (BH _ · _ _ _ _ _ _ _ _ _ _ _ _ _ _) e))) ((lW ..).trans ((fi ..).trans (iI (Nv _ · _ _ _ _ _ _ _ _ _ _ _ _ _ _) e))) ((lW ..).trans ((cE ..).trans (iI (K0 _ · _ _ _ _ _ _ _ _ _ _ _ _ _ _) e))) ((lW ..).trans ((cF ..).trans (iI (K3 _ · _ _ _ _ _ _ _ _ _ _ _ _ _ _) e))) ((lW ..).trans ((cG ..).trans (iI (K4 _ · _ _ _ _ _ _ _ _ _ _ _ _ _ _) e)))).trans (Ac6 (R7 N (D4 F) a c f h j m b d g i l o _ _ _ _ _ _) ((lW ..).trans ((cH ..).trans (iI (K5 _ · _ _ _ _ _ _ _ _ _ _ _ _ _ _) e))) ((lW ..).trans ((cJ ..).trans (iI (K6 _ · _ _ _ _ _ _ _ _ _ _ _ _ _ _) e)))):_)
theorem fk (F:KF R) (a c f h j m b d g i l o):∀ n,ou a c f h j m b d g i l o (Ao (C8 N F (pz 5592388) []) n)=(Ik N (D4 F) a c f h j m b d g i l o n):=Ev fun n e=>(Sq (Xs N (D4 F) a c f h j m b d g i l o) e ((lW ..).trans (fj ..)):_)
theorem fl (F:KF R) (v aa p a c f h j b d g i l):∀ n,ov v aa p a c f h j b d g i l (Ao (C8 N F (pz 1398084) []) n)=(Nw N (D4 F) v aa p a c f h j b d g i l n):=Ev fun n e=>(Sq (Xt N (D4 F) v aa p a c f h j b d g i l) e (Yo fun m o=>(lW ..).trans (fk ..)):_)
theorem fm (F:KF R) (w ab p q a c f h b d g i):∀ n,ow w ab p q a c f h b d g i (Ao (C8 N F (pz 349508) []) n)=(Nx N (D4 F) w ab p q a c f h b d g i n):=Ev fun n e=>(Sq (Xu N (D4 F) w ab p q a c f h b d g i) e (tk fun v aa j l=>(lW ..).trans (fl ..)):_)
theorem fq (F:KF R) (x ac p q a c f b d g):∀ n,oz x ac p q a c f b d g (Ao (C8 N F (pz 87364) []) n)=(Ny N (D4 F) x ac p q a c f b d g n):=Ev fun n e=>(Sq (Xv N (D4 F) x ac p q a c f b d g) e (tk fun w ab h i=>(lW ..).trans (fm ..)):_)
theorem ft (F:KF R) (y ad p q a c b d):∀ n,pA y ad p q a c b d (Ao (C8 N F (pz 21828) []) n)=(Nz N (D4 F) y ad p q a c b d n):=Ev fun n e=>(Sq (Xw N (D4 F) y ad p q a c b d) e (tk fun x ac f g=>(lW ..).trans (fq ..)):_)
theorem fu (F:KF R) (z ae p q a b):∀ n,pB z ae p q a b (Ao (C8 N F (pz 5444) []) n)=(N0 N (D4 F) z ae p q a b n):=Ev fun n e=>(Sq (Xx N (D4 F) z ae p q a b) e (tk fun y ad c d=>(lW ..).trans (ft ..)):_)
theorem fv (F:KF R) (t u p q):∀ n,pC t u p q (Ao (C8 N F (pz 1348) []) n)=(N1 N (D4 F) t u p q n):=Ev fun n e=>(Sq (Xy N (D4 F) t u p q) e (tk fun z ae a b=>(lW ..).trans (fu ..)):_)
def rQ:=Jl N 42 (fg N) ZR (fun
 | [(.pagg q p)],[]=>some fun _ k=>LH N q p (D4 k)
 | _,_=>none) fun _ _=>by split;intro R F;exact(Ee (NE N (D4 F) · _ _) (Yo fun t u=>(lW ..).trans (fv ..)):_).trans (TT ..).symm;trivial
def CP (N:Nat) (a b:Int) (c:Bool) (r0:Bool→O R):O R :=
 (cond (c==true) (cond ((cond true (decide (a≥0)) false)==true) (r0 (cond true (decide (a<b)) false)) (r0 false)) (r0 false))
def F7:=(At (@CP R)).1
theorem EL:@F7 R=@CP R:=(At _).2
def cK (F:KF R):Bool→O R:=(fun d=>F (.tup []) [(100000,(bN 0 [(.bool d)]))])
def fw:=Jl N 88 [] O7 (fun
 | [(.int .i64 a),(.int .i64 b),(.optr 100000 0)],[(100000,⟨false,false,false,false,0,[(.bool c)],false,none⟩)]=>some fun _ k=>F7 N a b c (cK k)
 | _,_=>none) fun _ _=>by split;intro R F;dsimp only;rw[EL];kernel_rfl;trivial
def Xz (k4:Int→Int→Bool→O R) (r0:Bool→O R) (c:LA) (d:Nat) (b:Bool) (f:Int) (i:LA) (o:Nat) (a:LA) (k6:Int→Int→Int→Bool→O R) (ac ad v:Int) (ae:Bool):O R :=
 (cond (decide (v<ad)) (cond (Aj v o) (cond (ble 3 ((i.drop ((v.toNat)*3)).length)) (cond ((!b)||(Ax ((i.drop ((v.toNat)*3)).take 3))) (cond ((beq (((i.drop ((v.toNat)*3)).take 3).length) 3)&&((ble 3 3)&&(!false))) (Av .i64 (setCells [(.int .i64 0),(.int .i64 0),(.int .i64 0)] 0 ((i.drop ((v.toNat)*3)).take 3)) fun ar=>A6 22 (a.drop 4) fun br au=>F7 N ar (au:Int) ae fun av=>k6 ac ad (wrap .i64 (v+1)) av) none) none) none) none) (k4 f (wrap .i64 (ac+1)) ae))
def Q3 (k4:Int→Int→Bool→O R) (r0:Bool→O R) (c:LA) (d:Nat) (b:Bool) (f:Int) (i:LA) (o:Nat) (a:LA):Nat→Int→Int→Int→Bool→O R
 | 0,_,_,_,_=>none
 | n+1,ac,ad,v,ae=>Xz N k4 r0 c d b f i o a (Q3 k4 r0 c d b f i o a n) ac ad v ae
def X0 (k4:Int→Int→Bool→O R) (r0:Bool→O R) (c:LA) (d:Nat) (b:Bool) (f:Int) (u:LA) (p:Nat) (a:LA) (k5:Int→Int→Int→Bool→LA→O R) (q6:LA→Nat→Int→Int→Int→Bool→O R) (af ag ab:Int) (ah:Bool) (ai:LA):O R :=
 (cond (decide (ab<ag)) (cond (Aj ab p) (Av .i64 (u.drop ((ab.toNat)*1)) fun aw=>A6 12 (a.drop 3) fun bs ax=>F7 N aw (ax:Int) ah fun ay=>k5 af ag (wrap .i64 (ab+1)) ay ai) none) (A6 3 (ai.drop 3) fun i o=>q6 i o af (o:Int) 0 ah))
def N2 (k4:Int→Int→Bool→O R) (r0:Bool→O R) (c:LA) (d:Nat) (b:Bool) (f:Int) (u:LA) (p:Nat) (a:LA):Nat→Int→Int→Int→Bool→LA→O R
 | 0,_,_,_,_,_=>none
 | n+1,af,ag,ab,ah,ai=>X0 N k4 r0 c d b f u p a (N2 k4 r0 c d b f u p a n) (fun i o=>Q3 N k4 r0 c d b f i o a N) af ag ab ah ai
def X7 (N:Nat) (r0:Bool→O R) (c:LA) (d:Nat) (b:Bool) (a:LA) (k4:Int→Int→Bool→O R) (q5:Int→LA→Nat→Int→Int→Int→Bool→LA→O R) (f w:Int) (aj:Bool):O R :=
 (cond (decide (w<f)) (cond (Aj w d) (cond (ble 4 ((c.drop ((w.toNat)*4)).length)) (cond ((beq 0 0)&&((beq (((c.drop ((w.toNat)*4)).take 4).length) 4)&&(beq 4 4))) (A6 1 (((c.drop ((w.toNat)*4)).take 4).drop 1) fun u p=>q5 f u p w (p:Int) 0 aj ((c.drop ((w.toNat)*4)).take 4)) none) none) none) (r0 aj))
def Il (r0:Bool→O R) (c:LA) (d:Nat) (b:Bool) (a:LA):Nat→Int→Int→Bool→O R
 | 0,_,_,_=>none
 | n+1,f,w,aj=>X7 N r0 c d b a (Il r0 c d b a n) (fun f u p=>N2 N (Il r0 c d b a n) r0 c d b f u p a N) f w aj
def X8 (r0:Bool→O R) (l:LA) (q:Nat) (b:Bool) (a:LA) (k3:Int→Int→Bool→O R) (q4:LA→Nat→Int→Int→Bool→O R) (ak y:Int) (al:Bool):O R :=
 (cond (decide (y<ak)) (cond (Aj y q) (cond (ble 5 ((l.drop ((y.toNat)*5)).length)) (cond ((beq 0 0)&&((beq (((l.drop ((y.toNat)*5)).take 5).length) 5)&&(beq 5 5))) (Av .i64 (((l.drop ((y.toNat)*5)).take 5).drop 1) fun az=>A6 3 (a.drop 2) fun bt ba=>F7 N az (ba:Int) al fun bb=>k3 ak (wrap .i64 (y+1)) bb) none) none) none) (A6 4 (a.drop 7) fun c d=>q4 c d (d:Int) 0 al))
def Ki (r0:Bool→O R) (l:LA) (q:Nat) (b:Bool) (a:LA):Nat→Int→Int→Bool→O R
 | 0,_,_,_=>none
 | n+1,ak,y,al=>X8 N r0 l q b a (Ki r0 l q b a n) (fun c d=>Il N r0 c d b a N) ak y al
def X9 (r0:Bool→O R) (m:LA) (r:Nat) (b:Bool) (a:LA) (k2:Int→Int→Bool→O R) (q3:LA→Nat→Int→Int→Bool→O R) (am z:Int) (an:Bool):O R :=
 (cond (decide (z<am)) (cond (Aj z r) (cond (ble 9 ((m.drop ((z.toNat)*9)).length)) (cond ((beq 0 0)&&((beq (((m.drop ((z.toNat)*9)).take 9).length) 9)&&(beq 9 9))) (Av .i64 (((m.drop ((z.toNat)*9)).take 9).drop 1) fun bc=>A6 3 (a.drop 2) fun bu bd=>F7 N bc (bd:Int) an fun be=>k2 am (wrap .i64 (z+1)) be) none) none) none) (A6 5 (a.drop 6) fun l q=>q3 l q (q:Int) 0 an))
def Kj (r0:Bool→O R) (m:LA) (r:Nat) (b:Bool) (a:LA):Nat→Int→Int→Bool→O R
 | 0,_,_,_=>none
 | n+1,am,z,an=>X9 N r0 m r b a (Kj r0 m r b a n) (fun l q=>Ki N r0 l q b a N) am z an
def Ya (r0:Bool→O R) (g:LA) (s:Nat) (b:Bool) (a:LA) (k1:Int→Int→Bool→O R) (q2:LA→Nat→Int→Int→Bool→O R) (aa t:Int) (ao:Bool):O R :=
 (cond (decide (t<aa)) (cond (Aj t s) (cond (ble 22 ((g.drop ((t.toNat)*22)).length)) (cond ((beq 0 0)&&((beq (((g.drop ((t.toNat)*22)).take 22).length) 22)&&(beq 22 22))) (Av .i64 (((g.drop ((t.toNat)*22)).take 22).drop 1) fun bf=>A6 3 (a.drop 2) fun bv bg=>F7 N bf (bg:Int) ao fun bh=>cond (bh==true) (Av .i64 (((g.drop ((t.toNat)*22)).take 22).drop 19) fun bi=>cond ((bi==0)==false) (Av .i64 (((g.drop ((t.toNat)*22)).take 22).drop 19) fun bj=>cond ((cond false true (bj==1))==false) (Av .i64 (((g.drop ((t.toNat)*22)).take 22).drop 19) fun bk=>k1 aa (wrap .i64 (t+1)) (cond true (cond false true (bk==2)) false)) (k1 aa (wrap .i64 (t+1)) true)) (k1 aa (wrap .i64 (t+1)) true)) (k1 aa (wrap .i64 (t+1)) false)) none) none) none) (A6 9 (a.drop 5) fun m r=>q2 m r (r:Int) 0 ao))
def Kk (r0:Bool→O R) (g:LA) (s:Nat) (b:Bool) (a:LA):Nat→Int→Int→Bool→O R
 | 0,_,_,_=>none
 | n+1,aa,t,ao=>Ya N r0 g s b a (Kk r0 g s b a n) (fun m r=>Kj N r0 m r b a N) aa t ao
def Yb (r0:Bool→O R) (h:LA) (j:Nat) (b:Bool) (a:LA) (k0:Int→Int→Bool→O R) (q1:LA→Nat→Int→Int→Bool→O R) (ap x:Int) (aq:Bool):O R :=
 (cond (decide (x<ap)) (cond (Aj x j) (cond (ble 12 ((h.drop ((x.toNat)*12)).length)) (cond ((beq 0 0)&&((beq (((h.drop ((x.toNat)*12)).take 12).length) 12)&&(beq 12 12))) (Av .i64 (((h.drop ((x.toNat)*12)).take 12).drop 1) fun bl=>A6 3 (a.drop 2) fun bw bm=>F7 N bl (bm:Int) aq fun bn=>Av .i64 (((h.drop ((x.toNat)*12)).take 12).drop 2) fun bo=>A6 3 (a.drop 2) fun bx bp=>F7 N bo (bp:Int) bn fun bq=>k0 ap (wrap .i64 (x+1)) bq) none) none) none) (A6 22 (a.drop 4) fun g s=>q1 g s (s:Int) 0 aq))
def N3 (r0:Bool→O R) (h:LA) (j:Nat) (b:Bool) (a:LA):Nat→Int→Int→Bool→O R
 | 0,_,_,_=>none
 | n+1,ap,x,aq=>Yb N r0 h j b a (N3 r0 h j b a n) (fun g s=>Kk N r0 g s b a N) ap x aq
def NF (N:Nat) (r0:Bool→O R) (q0:LA→Nat→Int→Int→Bool→O R) (a:LA) (b:Bool):O R :=
 (A6 12 (a.drop 3) fun h j=>q0 h j (j:Int) 0 true)
def LI:=(At fun N a b r0=>NF (R:=R) N r0 (fun h j=>N3 N r0 h j b a N) a b).1
theorem TU (a b r0):(@LI R N a b r0)=(NF N r0 (fun h j=>N3 N r0 h j b a N) a b):=by rw[LI,(At _).2]
def ZS:Hints:={ H:=(hK 3 (hS (hK 1 (hS (hP [1,3,4,21,22,23] hL) hL)) (hS (hK 1 (hS (hP [1,3,4,43,44,45] hL) hL)) (hS (hK 1 (hS (hP [1,3,4,74,75,76] hL) hL)) (hS (hK 1 (hS (hP [1,3,4,89,90,91] hL) hL)) (hS (hK 1 (hS (hP [1,3,4,104,105,106] (hK 2 (hS (hS (hK 1 (hS (hK 1 (hS (hP [1,3,4,14,104,105,106,111,112,113] hL) hL)) (hK 1 (hS (hP [1,3,4,104,105,106,125,126,127] hL) hL)))) hL) hL))) hL)) hL)))))) }
def fx:EZ:=[fw N]
def N4 (F:KF R):=Tj Tryz.f43 ZS (fx N) [] N F
def pD (c:LA) (d:Nat) (b:Bool) (f:Int) (i:LA) (o:Nat) (a:LA) (K:St→O R):=fun ac ad v ae=>K ⟨[(1,(op 0)),(3,(op 1)),(4,(.fn 88 [(op 1)])),(104,(.imm c d 4 false b)),(105,(iv f)),(106,(iv ac)),(125,(.imm i o 3 false b)),(126,(iv ad)),(127,(iv v))],(hq [(bP b 0 a),(bN 0 [(.bool ae)])])⟩
def pE (c:LA) (d:Nat) (b:Bool) (f:Int) (u:LA) (p:Nat) (a:LA) (K:St→O R):=fun af ag ab ah ai=>K ⟨[(1,(op 0)),(3,(op 1)),(4,(.fn 88 [(op 1)])),(14,(op 2)),(104,(.imm c d 4 false b)),(105,(iv f)),(106,(iv af)),(111,(.imm u p 1 false b)),(112,(iv ag)),(113,(iv ab))],(hq [(bP b 0 a),(bN 0 [(.bool ah)]),(bP b 0 ai)])⟩
def Vq (c:LA) (d:Nat) (b:Bool) (a:LA) (K:St→O R):=fun f w aj=>K ⟨[(1,(op 0)),(3,(op 1)),(4,(.fn 88 [(op 1)])),(104,(.imm c d 4 false b)),(105,(iv f)),(106,(iv w))],(hq [(bP b 0 a),(bN 0 [(.bool aj)])])⟩
def pF (l:LA) (q:Nat) (b:Bool) (a:LA) (K:St→O R):=fun ak y al=>K ⟨[(1,(op 0)),(3,(op 1)),(4,(.fn 88 [(op 1)])),(89,(.imm l q 5 false b)),(90,(iv ak)),(91,(iv y))],(hq [(bP b 0 a),(bN 0 [(.bool al)])])⟩
def pG (m:LA) (r:Nat) (b:Bool) (a:LA) (K:St→O R):=fun am z an=>K ⟨[(1,(op 0)),(3,(op 1)),(4,(.fn 88 [(op 1)])),(74,(.imm m r 9 false b)),(75,(iv am)),(76,(iv z))],(hq [(bP b 0 a),(bN 0 [(.bool an)])])⟩
def pH (g:LA) (s:Nat) (b:Bool) (a:LA) (K:St→O R):=fun aa t ao=>K ⟨[(1,(op 0)),(3,(op 1)),(4,(.fn 88 [(op 1)])),(43,(.imm g s 22 false b)),(44,(iv aa)),(45,(iv t))],(hq [(bP b 0 a),(bN 0 [(.bool ao)])])⟩
def pI (h:LA) (j:Nat) (b:Bool) (a:LA) (K:St→O R):=fun ap x aq=>K ⟨[(1,(op 0)),(3,(op 1)),(4,(.fn 88 [(op 1)])),(21,(.imm h j 12 false b)),(22,(iv ap)),(23,(iv x))],(hq [(bP b 0 a),(bN 0 [(.bool aq)])])⟩
theorem fy (Q4) (F:KF R) (c d b f i o a):∀ n,pD c d b f i o a (Ao (N4 N F (pz 366499352660) [Q4]) n)=(Q3 N (Vq c d b a Q4) (B8 F) c d b f i o a n):=Ev fun n e=>(Ee (Xz N (Vq c d b a Q4) (B8 F) c d b f i o a) e:_)
theorem gA (Q4) (F:KF R) (c d b f u p a):∀ n,pE c d b f u p a (Ao (N4 N F (pz 366499352644) [Q4]) n)=(N2 N (Vq c d b a Q4) (B8 F) c d b f u p a n):=Ev fun n e=>(Sq (X0 N (Vq c d b a Q4) (B8 F) c d b f u p a) e (Yo fun i o=>(lW ..).trans (fy ..)):_)
theorem gB (F:KF R) (c d b a):∀ n,Vq c d b a (Ao (N4 N F (pz 1398084) []) n)=(Il N (B8 F) c d b a n):=Ev fun n e=>(Sq (X7 N (B8 F) c d b a) e (ym fun f u p=>(lW ..).trans ((gA ..).trans (iI (N2 _ · _ _ _ _ _ _ _ _ _) e))):_)
theorem gC (F:KF R) (l q b a):∀ n,pF l q b a (Ao (N4 N F (pz 349508) []) n)=(Ki N (B8 F) l q b a n):=Ev fun n e=>(Sq (X8 N (B8 F) l q b a) e (Yo fun c d=>(lW ..).trans (gB ..)):_)
theorem gD (F:KF R) (m r b a):∀ n,pG m r b a (Ao (N4 N F (pz 87364) []) n)=(Kj N (B8 F) m r b a n):=Ev fun n e=>(Sq (X9 N (B8 F) m r b a) e (Yo fun l q=>(lW ..).trans (gC ..)):_)
theorem gE (F:KF R) (g s b a):∀ n,pH g s b a (Ao (N4 N F (pz 21828) []) n)=(Kk N (B8 F) g s b a n):=Ev fun n e=>(Sq (Ya N (B8 F) g s b a) e (Yo fun m r=>(lW ..).trans (gD ..)):_)
theorem gF (F:KF R) (h j b a):∀ n,pI h j b a (Ao (N4 N F (pz 5444) []) n)=(N3 N (B8 F) h j b a n):=Ev fun n e=>(Sq (Yb N (B8 F) h j b a) e (Yo fun g s=>(lW ..).trans (gE ..)):_)
def rR:=Jl N 43 (fx N) ZS (fun
 | [(.pagg a b)],[]=>some fun _ k=>LI N a b (B8 k)
 | _,_=>none) fun _ _=>by split;intro R F;exact(Ee (NF N (B8 F) · _ _) (Yo fun h j=>(lW ..).trans (gF ..)):_).trans (TU ..).symm;trivial
def Wj (N:Nat) (a:Lu) (b:Bool) (r0:Nat→LA→O R):O R :=
 (cond ((ble (0+(a.length)) 140737488355328)&&(ble ((0+(a.length))*1) 140737488355328)) (r0 (0+(a.length)) (Ar a)) none)
def Zm:=(At (@Wj R)).1
theorem Zn:@Zm R=@Wj R:=(At _).2
def XA:=Jl N 89 [] vP (fun
 | [(.optr 100000 0),(.str a)],[(100000,⟨false,false,false,false,0,[.nsl,(.bool b)],false,none⟩)]=>some fun _ k=>Zm N a b (rB b k)
 | _,_=>none) fun _ _=>by split;intro R F;dsimp only;rw[Zn];kernel_rfl;trivial
def Qr (N:Nat) (b:Lu) (a:Nat) (d:Bool) (c:LA) (r0:Nat→LA→O R):O R :=
 (cond (decide ((a:Int)>1048576)) (r0 a c) (cond ((decide ((a:Int)>0))==true) (cond (Aj (wrap .i64 ((a:Int) - 1)) a) (Av .u8 (c.drop (0+(((wrap .i64 ((a:Int) - 1)).toNat)*1))) fun e=>cond (cond true (e != 10) false) (cond ((ble (a+1) 140737488355328)&&(ble ((a+1)*1) 140737488355328)) (cond ((ble ((a+1)+(b.length)) 140737488355328)&&(ble (((a+1)+(b.length))*1) 140737488355328)) (r0 ((a+1)+(b.length)) ((take ((a+1)*1) ((c.take (a*1))++[(.int .u8 32)]))++(Ar b))) none) none) (cond ((ble (a+(b.length)) 140737488355328)&&(ble ((a+(b.length))*1) 140737488355328)) (r0 (a+(b.length)) ((c.take (a*1))++(Ar b))) none)) none) (cond ((ble (a+(b.length)) 140737488355328)&&(ble ((a+(b.length))*1) 140737488355328)) (r0 (a+(b.length)) ((c.take (a*1))++(Ar b))) none)))
def Ah:=(At (@Qr R)).1
theorem Sz:@Ah R=@Qr R:=(At _).2
def Dh:=Jl N 89 [] vP (fun
 | [(.optr 100000 0),(.str b)],[(100000,⟨false,false,false,false,0,[(.own 100001 0 a),(.bool d)],false,none⟩),(100001,⟨false,false,true,false,1,c,false,(some (5,0))⟩)]=>some fun _ k=>Ah N b a d c (rB d k)
 | _,_=>none) fun _ _=>by split;intro R F;dsimp only;rw[Sz];kernel_rfl;trivial
def Im (r0:Nat→Bool→LA→O R) (b:LA) (a:Nat) (c d:Bool) (k0:Int→Int→Nat→Bool→LA→O R) (g f:Int) (h:Nat) (o:Bool) (i:LA):O R :=
 (cond (decide (f<g)) (cond (Aj f a) (Av .i64 (b.drop ((f.toNat)*1)) fun p=>cond ((decide (p<(-1073741824)))==false) (cond (cond false true (decide (p>1073741824))) (strconv_Itoa N p fun q=>Ah N q h true i fun r s=>k0 g (wrap .i64 (f+1)) r true s) (strconv_Itoa N p fun t=>Ah N t h o i fun u v=>k0 g (wrap .i64 (f+1)) u o v)) (strconv_Itoa N p fun w=>Ah N w h true i fun x y=>k0 g (wrap .i64 (f+1)) x true y)) none) (r0 h o i))
def Di (r0:Nat→Bool→LA→O R) (b:LA) (a:Nat) (c d:Bool):Nat→Int→Int→Nat→Bool→LA→O R
 | 0,_,_,_,_,_=>none
 | n+1,g,f,h,o,i=>Im N r0 b a c d (Di r0 b a c d n) g f h o i
def M2 (N:Nat) (r0:Nat→Bool→LA→O R) (q0:Int→Int→Nat→Bool→LA→O R) (b:LA) (a:Nat) (c d:Bool) (j:Nat) (l:Bool) (m:LA):O R :=
 (q0 (a:Int) 0 j l m)
def Ac:=(At fun N b a c d j l m r0=>M2 (R:=R) N r0 (Di N r0 b a c d N) b a c d j l m).1
theorem Vr (b a c d j l m r0):(@Ac R N b a c d j l m r0)=(M2 N r0 (Di N r0 b a c d N) b a c d j l m):=by rw[Ac,(At _).2]
def Wz:Hints:={ H:=(hK 1 (hS (hP [0,6,7,8] hL) hL)),free:=[100001] }
def Zo:EZ:=[LF N,Dh N]
def OD (F:KF R):=Tj Tryz.f90 Wz (Zo N) [100000,100001] N F
def OE (b:LA) (a:Nat) (c d:Bool) (K:St→O R):=fun g f h o i=>K ⟨[(0,(.optr 100000 0)),(6,(.imm b a 1 c d)),(7,(iv g)),(8,(iv f))],[(100000,(bN 0 [(.own 300000 0 h),(.bool o)])),(300000,⟨false,false,true,false,1,i,false,(some (5,0))⟩)]⟩
theorem GU (F:KF R) (b a c d):∀ n,OE b a c d (Ao (OD N F (pz 20) []) n)=(Di N (Pp F) b a c d n):=Ev fun n e=>(Ee (Im N (Pp F) b a c d) e:_)
def K8:=Jl N 90 (Zo N) Wz (fun
 | [(.optr 100000 0),(.imm b a 1 c d)],[(100000,⟨false,false,false,false,0,[(.own 100001 0 j),(.bool l)],false,none⟩),(100001,⟨false,false,true,false,1,m,false,(some (5,0))⟩)]=>some fun _ k=>Ac N b a c d j l m (Pp k)
 | _,_=>none) fun _ _=>by split;intro R F;exact(Ee (M2 N (Pp F) · _ _ _ _ _ _ _) ((lW ..).trans (GU ..)):_).trans (Vr ..).symm;trivial
def Zp (N a:Nat) (c:Bool) (b:LA) (r0:Nat→LA→O R):O R :=
 (cond (decide ((a:Int)≤1048576)) (cond ((ble (a+1) 140737488355328)&&(ble ((a+1)*1) 140737488355328)) (r0 (a+1) ((b.take (a*1))++[(.int .u8 10)])) none) (r0 a b))
def Ce:=(At (@Zp R)).1
theorem BJ:@Ce R=@Zp R:=(At _).2
def Qf:=Jl N 91 [] vP (fun
 | [(.optr 100000 0)],[(100000,⟨false,false,false,false,0,[(.own 100001 0 a),(.bool c)],false,none⟩),(100001,⟨false,false,true,false,1,b,false,(some (5,0))⟩)]=>some fun _ k=>Ce N a c b (rB c k)
 | _,_=>none) fun _ _=>by split;intro R F;dsimp only;rw[BJ];kernel_rfl;trivial
def Jr (r0:Nat→LA→O R) (c:LA) (b:Nat) (d f a:Bool) (k0:Int→Int→Nat→LA→O R) (j i:Int) (l:Nat) (m:LA):O R :=
 (cond (decide (i<j)) (cond (Aj i b) (Hz (c.drop ((i.toNat)*1)) fun o=>Ah N o l a m fun p q=>k0 j (wrap .i64 (i+1)) p q) none) (r0 l m))
def D6 (r0:Nat→LA→O R) (c:LA) (b:Nat) (d f a:Bool):Nat→Int→Int→Nat→LA→O R
 | 0,_,_,_,_=>none
 | n+1,j,i,l,m=>Jr N r0 c b d f a (D6 r0 c b d f a n) j i l m
def Ox (N:Nat) (r0:Nat→LA→O R) (q0:Int→Int→Nat→LA→O R) (c:LA) (b:Nat) (d f:Bool) (g:Nat) (a:Bool) (h:LA):O R :=
 (q0 (b:Int) 0 g h)
def Bz:=(At fun N c b d f g a h r0=>Ox (R:=R) N r0 (D6 N r0 c b d f a N) c b d f g a h).1
theorem W0 (c b d f g a h r0):(@Bz R N c b d f g a h r0)=(Ox N r0 (D6 N r0 c b d f a N) c b d f g a h):=by rw[Bz,(At _).2]
def Zq:Hints:={ H:=(hK 1 (hS (hP [0,6,7,8] hL) hL)),free:=[100001] }
def BL:EZ:=[Dh N]
def Q' (F:KF R):=Tj Tryz.f92 Zq (BL N) [100000,100001] N F
def RA (c:LA) (b:Nat) (d f a:Bool) (K:St→O R):=fun j i l m=>K ⟨[(0,(.optr 100000 0)),(6,(.imm c b 1 d f)),(7,(iv j)),(8,(iv i))],[(100000,(bN 0 [(.own 300000 0 l),(.bool a)])),(300000,⟨false,false,true,false,1,m,false,(some (5,0))⟩)]⟩
theorem IX (F:KF R) (c b d f a):∀ n,RA c b d f a (Ao (Q' N F (pz 20) []) n)=(D6 N (rB a F) c b d f a n):=Ev fun n e=>(Ee (Jr N (rB a F) c b d f a) e:_)
def M3:=Jl N 92 (BL N) Zq (fun
 | [(.optr 100000 0),(.imm c b 1 d f)],[(100000,⟨false,false,false,false,0,[(.own 100001 0 g),(.bool a)],false,none⟩),(100001,⟨false,false,true,false,1,h,false,(some (5,0))⟩)]=>some fun _ k=>Bz N c b d f g a h (rB a k)
 | _,_=>none) fun _ _=>by split;rename_i c b d f g a h;intro R F;exact(Ee (Ox N (rB a F) · c b d f g a h) ((lW ..).trans (IX ..)):_).trans (W0 ..).symm;trivial
def Pk (a:LA) (j:Bool) (b:Nat) (d:Bool) (c:LA) (r0:Nat→Bool→LA→O R):O R :=
 (Av .i64 a fun q=>cond ((decide (q<(-1073741824)))==false) (Av .i64 a fun r=>cond ((cond false true (decide (r>1073741824)))==false) (Av .i64 (a.drop 1) fun s=>cond ((cond false true (decide (s<1)))==false) (Av .i64 (a.drop 1) fun t=>cond (cond false true (decide (t>1073741824))) (Av .i64 a fun u=>strconv_Itoa N u fun e=>cond (ble ((e.length)+1) 140737488355328) (Av .i64 (a.drop 1) fun v=>strconv_Itoa N v fun l=>cond (ble ((List.length (e++([47]:Lu)))+(l.length)) 140737488355328) (Ah N ((e++([47]:Lu))++l) b true c fun w x=>r0 w true x) none) none) (Av .i64 a fun y=>strconv_Itoa N y fun f=>cond (ble ((f.length)+1) 140737488355328) (Av .i64 (a.drop 1) fun z=>strconv_Itoa N z fun m=>cond (ble ((List.length (f++([47]:Lu)))+(m.length)) 140737488355328) (Ah N ((f++([47]:Lu))++m) b d c fun aa ab=>r0 aa d ab) none) none)) (Av .i64 a fun ac=>strconv_Itoa N ac fun g=>cond (ble ((g.length)+1) 140737488355328) (Av .i64 (a.drop 1) fun ad=>strconv_Itoa N ad fun n=>cond (ble ((List.length (g++([47]:Lu)))+(n.length)) 140737488355328) (Ah N ((g++([47]:Lu))++n) b true c fun ae af=>r0 ae true af) none) none)) (Av .i64 a fun ag=>strconv_Itoa N ag fun h=>cond (ble ((h.length)+1) 140737488355328) (Av .i64 (a.drop 1) fun ah=>strconv_Itoa N ah fun o=>cond (ble ((List.length (h++([47]:Lu)))+(o.length)) 140737488355328) (Ah N ((h++([47]:Lu))++o) b true c fun ai aj=>r0 ai true aj) none) none)) (Av .i64 a fun ak=>strconv_Itoa N ak fun i=>cond (ble ((i.length)+1) 140737488355328) (Av .i64 (a.drop 1) fun al=>strconv_Itoa N al fun p=>cond (ble ((List.length (i++([47]:Lu)))+(p.length)) 140737488355328) (Ah N ((i++([47]:Lu))++p) b true c fun am an=>r0 am true an) none) none))
def Bu:=(At (@Pk R)).1
theorem R8:@Bu R=@Pk R:=(At _).2
def Vs:=Jl N 95 [LF N,Dh N] O7 (fun
 | [(.optr 100000 0),(.pagg a j)],[(100000,⟨false,false,false,false,0,[(.own 100001 0 b),(.bool d)],false,none⟩),(100001,⟨false,false,true,false,1,c,false,(some (5,0))⟩)]=>some fun _ k=>Bu N a j b d c (Pp k)
 | _,_=>none) fun _ _=>by split;intro R F;dsimp only;rw[R8];kernel_rfl;trivial
def Wk (c:LA) (g:Bool) (a:LA) (b:Bool) (e:Nat) (d:Bool) (f:LA) (r0:Nat→Bool→LA→O R):O R :=
 (Hz a fun o=>A6 3 (c.drop 2) fun p q=>Av .i64 (a.drop 1) fun h=>cond (Aj h q) (Hz (p.drop ((h.toNat)*3)) fun r=>A6 3 (c.drop 2) fun s t=>Av .i64 (a.drop 2) fun i=>cond (Aj i t) (Hz (s.drop ((i.toNat)*3)) fun u=>Bz N [(.str ([108,105,110,101]:Lu)),(.str o),(.str r),(.str u),(.str ([120]:Lu))] 5 false true e d f fun v w=>cond (ble 2 ((a.drop 3).length)) (cond ((!b)||(Ax ((a.drop 3).take 2))) (Bu N ((a.drop 3).take 2) false v d w fun x j y=>Ah N ([115,104,105,102,116]:Lu) x j y fun z aa=>cond (ble 2 ((a.drop 5).length)) (cond ((!b)||(Ax ((a.drop 5).take 2))) (Bu N ((a.drop 5).take 2) false z j aa fun ab ac ad=>cond (ble 2 ((a.drop 7).length)) (cond ((!b)||(Ax ((a.drop 7).take 2))) (Bu N ((a.drop 7).take 2) false ab ac ad fun ae l af=>Ah N ([108,105,109,105,116]:Lu) ae l af fun ag ah=>Av .i64 (a.drop 9) fun ai=>Av .i64 (a.drop 10) fun aj=>Ac N [(.int .i64 ai),(.int .i64 aj)] 2 false true ag l ah fun ak m al=>Ah N ([97,119,97,121]:Lu) ak m al fun am an=>A6 1 (a.drop 11) fun ao ap=>Ac N ao ap false b am m an fun aq n ar=>Ce N aq n ar fun au av=>r0 au n av) none) none) none) none) none) none) none) none)
def R9:=(At (@Wk R)).1
theorem Zr:@R9 R=@Wk R:=(At _).2
def XB:=Jl N 93 [M3 N,Vs N,Dh N,K8 N,Qf N] O7 (fun
 | [(.optr 100000 0),(.pagg c g),(.pagg a b)],[(100000,⟨false,false,false,false,0,[(.own 100001 0 e),(.bool d)],false,none⟩),(100001,⟨false,false,true,false,1,f,false,(some (5,0))⟩)]=>some fun _ k=>R9 N c g a b e d f (Pp k)
 | _,_=>none) fun _ _=>by split;intro R F;dsimp only;rw[Zr];kernel_rfl;trivial
def Lc (r0:Nat→Bool→LA→O R) (c:LA) (d:Nat) (b:Bool) (a:LA) (k0:Int→Int→Nat→Bool→LA→O R) (p f:Int) (q:Nat) (m:Bool) (r:LA):O R :=
 (cond (decide (f<p)) (cond (Aj f d) (cond (ble 2 ((c.drop ((f.toNat)*2)).length)) (cond ((!b)||(Ax ((c.drop ((f.toNat)*2)).take 2))) (cond ((beq (((c.drop ((f.toNat)*2)).take 2).length) 2)&&((ble 2 2)&&(!false))) (Av .i64 (setCells [(.int .i64 0),(.int .i64 0)] 0 ((c.drop ((f.toNat)*2)).take 2)) fun aj=>Av .i64 ((setCells [(.int .i64 0),(.int .i64 0)] 0 ((c.drop ((f.toNat)*2)).take 2)).drop 1) fun ak=>Ac N [(.int .i64 aj),(.int .i64 ak)] 2 false true q m r fun al am an=>k0 p (wrap .i64 (f+1)) al am an) none) none) none) none) (Ah N ([110,111,108,111,97,100]:Lu) q m r fun ao ap=>Av .i64 (a.drop 5) fun aq=>Ac N [(.int .i64 aq)] 1 false true ao m ap fun ar v au=>Ah N ([114,97,109,112]:Lu) ar v au fun av aw=>Av .i64 (a.drop 6) fun ax=>Av .i64 (a.drop 7) fun ay=>Ac N [(.int .i64 ax),(.int .i64 ay)] 2 false true av v aw fun az w ba=>Ah N ([115,116,97,114,116]:Lu) az w ba fun bb bc=>Av .i64 (a.drop 8) fun bd=>Ac N [(.int .i64 bd)] 1 false true bb w bc fun be x bf=>Ah N ([115,116,111,112]:Lu) be x bf fun bg bh=>Av .i64 (a.drop 9) fun bi=>Ac N [(.int .i64 bi)] 1 false true bg x bh fun bj y bk=>Ah N ([116,105,109,101,115]:Lu) bj y bk fun bl bm=>Av .i64 (a.drop 10) fun bn=>Av .i64 (a.drop 11) fun bo=>Av .i64 (a.drop 12) fun bp=>Ac N [(.int .i64 bn),(.int .i64 bo),(.int .i64 bp)] 3 false true bl y bm fun bq z br=>Ah N ([99,111,115,116]:Lu) bq z br fun bs bt=>Av .i64 (a.drop 13) fun bu=>Av .i64 (a.drop 14) fun bv=>Av .i64 (a.drop 15) fun bw=>Ac N [(.int .i64 bu),(.int .i64 bv),(.int .i64 bw)] 3 false true bs z bt fun bx aa bz=>Ah N ([114,101,115,101,114,118,101]:Lu) bx aa bz fun ca cb=>Av .i64 (a.drop 16) fun cc=>Av .i64 (a.drop 17) fun cd=>Ac N [(.int .i64 cc),(.int .i64 cd)] 2 false true ca aa cb fun ce ab cf=>Ah N ([97,119,97,121]:Lu) ce ab cf fun cg ch=>A6 1 (a.drop 18) fun ci cj=>Ac N ci cj false b cg ab ch fun ck h cl=>Ah N ([115,116,97,116,101]:Lu) ck h cl fun s t=>Av .i64 (a.drop 19) fun u=>cond (u==0) (Ah N ([111,102,102]:Lu) s h t fun cm cn=>Av .i64 (a.drop 20) fun co=>Av .i64 (a.drop 21) fun cp=>Ac N [(.int .i64 co),(.int .i64 cp)] 2 false true cm h cn fun cq ac cr=>Ce N cq ac cr fun cs ct=>r0 cs ac ct) (cond (u==1) (Ah N ([115,116,97,114,116,105,110,103]:Lu) s h t fun cu cv=>Av .i64 (a.drop 20) fun cw=>Av .i64 (a.drop 21) fun cx=>Ac N [(.int .i64 cw),(.int .i64 cx)] 2 false true cu h cv fun cy ad cz=>Ce N cy ad cz fun da db=>r0 da ad db) (cond (u==2) (Ah N ([111,110]:Lu) s h t fun dc dd=>Av .i64 (a.drop 20) fun de=>Av .i64 (a.drop 21) fun df=>Ac N [(.int .i64 de),(.int .i64 df)] 2 false true dc h dd fun dg ae dh=>Ce N dg ae dh fun di dj=>r0 di ae dj) (Av .i64 (a.drop 20) fun dk=>Av .i64 (a.drop 21) fun dl=>Ac N [(.int .i64 dk),(.int .i64 dl)] 2 false true s h t fun dm af dn=>Ce N dm af dn fun dp dq=>r0 dp af dq)))))
def En (r0:Nat→Bool→LA→O R) (c:LA) (d:Nat) (b:Bool) (a:LA):Nat→Int→Int→Nat→Bool→LA→O R
 | 0,_,_,_,_,_=>none
 | n+1,p,f,q,m,r=>Lc N r0 c d b a (En r0 c d b a n) p f q m r
def Qg (r0:Nat→Bool→LA→O R) (q0:LA→Nat→Int→Int→Nat→Bool→LA→O R) (i:LA) (o:Bool) (a:LA) (b:Bool) (j:Nat) (g:Bool) (l:LA):O R :=
 (Hz a fun dr=>A6 3 (i.drop 2) fun ds dt=>Av .i64 (a.drop 1) fun ag=>cond (Aj ag dt) (Hz (ds.drop ((ag.toNat)*3)) fun du=>Bz N [(.str ([117,110,105,116]:Lu)),(.str dr),(.str du),(.str ([109,105,110]:Lu))] 4 false true j g l fun dv dw=>Av .i64 (a.drop 2) fun dx=>Ac N [(.int .i64 dx)] 1 false true dv g dw fun dy ah dz=>Ah N ([109,97,120]:Lu) dy ah dz fun ea eb=>Av .i64 (a.drop 3) fun ec=>Ac N [(.int .i64 ec)] 1 false true ea ah eb fun ed ai ee=>Ah N ([115,101,103,109,101,110,116,115]:Lu) ed ai ee fun ef eg=>A6 2 (a.drop 4) fun c d=>q0 c d (d:Int) 0 ef ai eg) none)
def N5:=(At fun N i o a b j g l r0=>Qg (R:=R) N r0 (fun c d=>En N r0 c d b a N) i o a b j g l).1
theorem Zs (i o a b j g l r0):(@N5 R N i o a b j g l r0)=(Qg N r0 (fun c d=>En N r0 c d b a N) i o a b j g l):=by rw[N5,(At _).2]
def BM:Hints:={ H:=(hK 6 (hS (hK 1 (hS (hP [0,5,35,36,37] hL) hL)) hL)) }
def EM:EZ:=[M3 N,K8 N,Dh N,Qf N]
def TV (F:KF R):=Tj Tryz.f94 BM (EM N) [100000,100001] N F
def TW (c:LA) (d:Nat) (b:Bool) (a:LA) (K:St→O R):=fun p f q m r=>K ⟨[(0,(.optr 100000 0)),(5,(op 0)),(35,(.imm c d 2 false b)),(36,(iv p)),(37,(iv f))],[(100000,(bN 0 [(.own 300001 0 q),(.bool m)])),(300000,(bP b 0 a)),(300001,⟨false,false,true,false,1,r,false,(some (5,0))⟩)]⟩
theorem LJ (F:KF R) (c d b a):∀ n,TW c d b a (Ao (TV N F (pz 349508) []) n)=(En N (Pp F) c d b a n):=Ev fun n e=>(Ee (Lc N (Pp F) c d b a) e:_)
def XC:=Jl N 94 (EM N) BM (fun
 | [(.optr 100000 0),(.pagg i o),(.pagg a b)],[(100000,⟨false,false,false,false,0,[(.own 100001 0 j),(.bool g)],false,none⟩),(100001,⟨false,false,true,false,1,l,false,(some (5,0))⟩)]=>some fun _ k=>N5 N i o a b j g l (Pp k)
 | _,_=>none) fun _ _=>by split;intro R F;exact(Ee (Qg N (Pp F) · _ _ _ _ _ _ _) (Yo fun c d=>(lW ..).trans (LJ ..)):_).trans (Zs ..).symm;trivial
end
end Gx
namespace Gx.Ct
open Go Go.Proofs Gx.Cf
section
variable {R:Type} {N:Nat}
theorem TX {α:Type} {e:α→LA} {sz:Nat} (d:∀ a,(e a).length=sz) {l:List α} {j:Nat} (h:j<l.length):drop (Int.toNat (j:Int)*sz) (l.flatMap e)=e l[j]++(l.drop (j+1)).flatMap e:=by
 rw[Ad2,Be d l j h]
theorem Br {α:Type} {e:α→LA} {sz:Nat} (d:∀ a,(e a).length=sz) {l:List α} {j:Nat} (h:j<l.length):take sz (drop (Int.toNat (j:Int)*sz) (l.flatMap e))=e l[j]:=by
 rw[TX d h,List.take_append_of_le_length (by rw[d];exact Ad4 _),Ad0 (by rw[d];exact Ad4 _)]
theorem Cq {α:Type} {e:α→LA} {sz:Nat} (d:∀ a,(e a).length=sz) {l:List α} {j:Nat} (h:j<l.length):ble sz (drop (Int.toNat (j:Int)*sz) (l.flatMap e)).length=true:=by
 rw[TX d h,Adw,d];simp
theorem Oy {j:Nat} (h:j<4611686018427387904):wrap .i64 ((j:Int)+1)=((j+1:Nat):Int):=by rw[Gx.i64 (by omega)];omega
theorem A3 {α:Type} {l:List α} {j:Nat} (h:j<l.length):l.drop j=l[j]::l.drop (j+1):=Afe h
theorem A5 {α:Type} {l:List α} {j:Nat} (h:l.length≤j):l.drop j=[]:=Agx h
theorem pJ {c:CaseD} {t:Bool} {K:Int→O R}:EI N c.av t K=K (cond (Ff c) 0 8):=by
 rw[PI];unfold GP Xq Ff
 rw[Bi,C1,Dd,Eb,Gy,Fb]
 have e:∀ (n m:Nat),decide ((n:Int)>(m:Int))=!decide (n≤m):=fun n m=>by
  by_cases h:n≤m
  ·rw[decide_eq_true h,decide_eq_false (by omega)];rfl
  ·rw[decide_eq_false h,decide_eq_true (by omega)];rfl
 have e1:decide ((c.buses.l.length:Int)>32)=!decide (c.buses.l.length≤32):=e _ 32
 have d:decide ((c.lines.l.length:Int)>64)=!decide (c.lines.l.length≤64):=e _ 64
 have e3:decide ((c.units.l.length:Int)>16)=!decide (c.units.l.length≤16):=e _ 16
 have e4:decide ((c.stores.l.length:Int)>8)=!decide (c.stores.l.length≤8):=e _ 8
 have f:decide ((c.ties.l.length:Int)>8)=!decide (c.ties.l.length≤8):=e _ 8
 have j:decide ((c.outs.l.length:Int)>64)=!decide (c.outs.l.length≤64):=e _ 64
 rw[e1,d,e3,e4,f,j]
 cases decide (c.buses.l.length≤32)<;>cases decide (c.lines.l.length≤64)<;>cases decide (c.units.l.length≤16)<;>cases decide (c.stores.l.length≤8)<;>cases decide (c.ties.l.length≤8)<;>cases decide (c.outs.l.length≤64)<;>rfl
def uI (c:CaseD) (t:TieD):Bool:=AN c t.imp&&(AN c t.exp&&AN c t.price)
theorem ZT {c:CaseD} {b:Bool} {K:Bool→O R} (e:c.ties.l.length≤1000000):∀ (m j fuel:Nat) (ok:Bool),j+m=c.ties.l.length→m<fuel →
  Ou N K (c.ties.l.flatMap TieD.av) c.ties.l.length b c.av fuel ok (c.ties.l.length:Int) (j:Int)=K (ok&&(c.ties.l.drop j).all (uI c))
 | 0,j,fuel+1,ok,f,_=>by
  rw[Ou];unfold Um
  rw[F9 (by omega),cf,A5 (by omega),Aeu,Afd]
 | m+1,j,fuel+1,ok,f,s=>by
  rw[Ou];unfold Um
  have h:j<c.ties.l.length:=by omega
  rw[Fn h,ct,Ab h,ct,Cq Lz h,ct,Br Lz h,show((beq 0 0)&&((beq ((TieD.av c.ties.l[j]).length) 5)&&(beq 5 5)))=true from rfl,ct,Oy (by omega),A3 h,Aek]
  have d:=fun ok=>ZT (c:=c) (b:=b) (K:=K) e m (j+1) fuel ok (by omega) (by omega)
  have k:∀ F:LA→Nat→O R,A6 1 (drop 2 (TieD.av c.ties.l[j])) F=F (Az c.ties.l[j].imp.l) c.ties.l[j].imp.l.length:=fun F=>by
   show A6 1 (c.ties.l[j].imp.av 1 Fh::_) F=_
   rw[Bn,A4]
  have n:∀ F:LA→Nat→O R,A6 1 (drop 3 (TieD.av c.ties.l[j])) F=F (Az c.ties.l[j].exp.l) c.ties.l[j].exp.l.length:=fun F=>by
   show A6 1 (c.ties.l[j].exp.av 1 Fh::_) F=_
   rw[Bn,A4]
  have q:∀ F:LA→Nat→O R,A6 1 (drop 4 (TieD.av c.ties.l[j])) F=F (Az c.ties.l[j].price.l) c.ties.l[j].price.l.length:=fun F=>by
   show A6 1 (c.ties.l[j].price.av 1 Fh::_) F=_
   rw[Bn,A4]
  cases ok with
  | false=>exact(d false).trans (by simp)
  | true =>
   rw[show((true:Bool)==true)=true from rfl,ct,k,Dc]
   show cond (AN c c.ties.l[j].imp==true) _ _=_
   unfold uI
   cases AN c c.ties.l[j].imp with
   | false=>exact(d false).trans (by simp)
   | true =>
    rw[show((true:Bool)==true)=true from rfl,ct,n,Dc]
    show cond (AN c c.ties.l[j].exp==true) _ _=_
    cases AN c c.ties.l[j].exp with
    | false=>exact(d false).trans (by simp)
    | true =>
     rw[show((true:Bool)==true)=true from rfl,ct,q,Dc]
     exact d (AN c c.ties.l[j].price)
theorem TY {c:CaseD} {b:Bool} {K:Bool→O R} (f:c.buses.l.length≤1000000) (d:c.ties.l.length≤1000000) (hN:1000000<N):∀ (m j fuel:Nat) (ok:Bool),j+m=c.buses.l.length→m<fuel →
  Kz N K (c.buses.l.flatMap BusD.av) c.buses.l.length b c.av fuel ok (c.buses.l.length:Int) (j:Int)=K (ok&&((c.buses.l.drop j).all (fun x=>AN c x.demand)&&c.ties.l.all (uI c)))
 | 0,j,fuel+1,ok,k,_=>by
  rw[Kz];unfold Un
  rw[F9 (by omega),cf,show c.buses.l.drop j=[] from A5 (by omega),Aeu,Gy]
  refine(ZT (b:=b) (K:=K) d c.ties.l.length 0 N ok (by omega) (by omega)).trans ?_
  rfl
 | m+1,j,fuel+1,ok,k,q=>by
  rw[Kz];unfold Un
  have h:j<c.buses.l.length:=by omega
  rw[Fn h,ct,Ab h,ct,Cq Kb h,ct,Br Kb h,show((beq 0 0)&&((beq ((BusD.av c.buses.l[j]).length) 3)&&(beq 3 3)))=true from rfl,ct,Oy (by omega),A3 h,Aek]
  have e:=fun ok=>TY (c:=c) (b:=b) (K:=K) f d hN m (j+1) fuel ok (by omega) (by omega)
  have n:∀ F:LA→Nat→O R,A6 1 (drop 1 (BusD.av c.buses.l[j])) F=F (Az c.buses.l[j].demand.l) c.buses.l[j].demand.l.length:=fun F=>by
   show A6 1 (c.buses.l[j].demand.av 1 Fh::_) F=_
   rw[Bn,A4]
  cases ok with
  | false=>exact(e false).trans (by simp)
  | true =>
   rw[show((true:Bool)==true)=true from rfl,ct,n,Dc]
   refine(e (AN c c.buses.l[j].demand)).trans ?_
   congr 1
   simp[Aey]
theorem pK {c:CaseD} {t:Bool} {K:Bool→O R} (d:c.buses.l.length≤1000000) (e:c.ties.l.length≤1000000) (hN:1000000<N):EJ N c.av t K=K (Xo c):=by
 rw[PJ];unfold GQ
 rw[Tp,Dc,Bi]
 exact TY (b:=t) (K:=K) d e hN c.buses.l.length 0 N _ (by omega) (by omega)
theorem mH (t:Lu):take (t.length*1) (Ar t)=Ar t:=by rw[Aeh,Ad0 (by rw[KK];exact Ad4 _)]
theorem sp (t:Lu) (k:UInt8):Ar t++[.int .u8 (k.toNat:Int)]=Ar (t++[k]):=by rw[←KL];rfl
theorem rS {n:Nat} (h:n≤140737488355328):((ble n 140737488355328)&&(ble (n*1) 140737488355328))=true:=by simp;omega
theorem EN {s t:Lu} {bad:Bool} {K:Nat→LA→O R} (hs:s.length≤70000000000000):Ah N s t.length bad (Ar t) K=K (Cm t s).length (Ar (Cm t s)):=by
 rw[Sz];unfold Qr Cm
 by_cases h:t.length>1048576
 ·rw[decide_eq_true (show(t.length:Int)>1048576 by omega),if_pos h];rfl
 ·rw[decide_eq_false (show ¬ (t.length:Int)>1048576 by omega),cf,if_neg h,mH]
  have fin:∀ T:Lu,T.length≤1048577→cond ((ble (T.length+s.length) 140737488355328)&&(ble ((T.length+s.length)*1) 140737488355328)) (K (T.length+s.length) (Ar T++Ar s)) none=K (T++s).length (Ar (T++s)):=fun T hT=>by
   rw[rS (by omega),ct,KL,Adw]
  by_cases j:t=[]
  ·subst j
   exact fin [] (by simp)
  ·have n:0<t.length:=List.length_pos_iff.2 j
   have e1:wrap .i64 ((t.length:Int) - 1)=((t.length - 1:Nat):Int):=by rw[Gx.i64 (by omega)];omega
   have d:t.length - 1<t.length:=by omega
   rw[decide_eq_true (show(t.length:Int)>0 by omega),show((true:Bool)==true)=true from rfl,ct,e1,Ab d,ct,Ad2,Aec,Aeh,tv d]
   have m:t.getLast?=some t[t.length - 1]:=by rw[List.getLast?_eq_getElem?,Ad1 d]
   show cond ((((t[t.length - 1]).toNat:Nat):Int) != 10) _ _=_
   unfold EC uA
   by_cases f:t[t.length - 1]=10
   ·rw[f,show((((10:UInt8).toNat:Nat):Int) != 10)=false from rfl,cf,if_pos (.inr (by rw[m,f]))]
    exact fin t (by omega)
   ·have k:((((t[t.length - 1]).toNat:Nat):Int) != 10)=true:=by
     rw[bne_iff_ne];intro e
     exact f (UInt8.toNat_inj.1 (by show(t[t.length - 1]).toNat=10;omega))
    rw[k,ct,if_neg (by simp[j,m,f]),rS (show t.length+1≤140737488355328 by omega),ct]
    have l:take ((t.length+1)*1) (Ar t++[.int .u8 32])=Ar (t++[32]):=by
     rw[show([.int .u8 32]:LA)=[.int .u8 (((32:UInt8).toNat:Nat):Int)] from rfl,sp,Aeh,Ad0 (by rw[KK];simp)]
    have:=fin (t++[32]) (by simp;omega)
    rw[Adw,Aer] at this
    rw[Aeh] at l
    simp only[Aeh] at this l ⊢
    rw[l];exact this
theorem Zt {t:Lu} {bad:Bool} {K:Nat→LA→O R}:Ce N t.length bad (Ar t) K=K (Wh t).length (Ar (Wh t)):=by
 rw[BJ];unfold Zp Wh
 by_cases h:t.length>1048576
 ·rw[decide_eq_false (show ¬ (t.length:Int)≤1048576 by omega),if_pos h];rfl
 ·rw[decide_eq_true (show(t.length:Int)≤1048576 by omega),ct,if_neg h,mH,rS (by omega),ct,show([.int .u8 10]:LA)=[.int .u8 (((10:UInt8).toNat:Nat):Int)] from rfl,sp,Adw];rfl
def sq (ws:List A0):Prop:=∀ w ∈ ws,w.length≤70000000000000
theorem gG {ws:List A0} {d f bad:Bool} {K:Nat→LA→O R} (e:sq ws) (k:ws.length≤1000000000):∀ (m j fuel:Nat) (t:Lu),j+m=ws.length→m<fuel →
  D6 N K (Au ws) ws.length d f bad fuel (ws.length:Int) (j:Int) t.length (Ar t)=K ((ws.drop j).foldl Cm t).length (Ar ((ws.drop j).foldl Cm t))
 | 0,j,fuel+1,t,l,_=>by
  rw[D6];unfold Jr
  rw[F9 (by omega),cf,A5 (by omega)];rfl
 | m+1,j,fuel+1,t,l,n=>by
  rw[D6];unfold Jr
  have h:j<ws.length:=by omega
  rw[Fn h,ct,Ab h,ct,Ad2,Aeh,Gb h,EN (e _ (Ad9 h)),Oy (by omega),A3 h,Aeq]
  exact gG e k m (j+1) fuel _ (by omega) (by omega)
theorem rT {ws:List A0} {d f bad:Bool} {t:Lu} {K:Nat→LA→O R} (e:sq ws) (j:ws.length≤1000000000) (hN:1000000000<N):Bz N (Au ws) ws.length d f t.length bad (Ar t) K=K (ws.foldl Cm t).length (Ar (ws.foldl Cm t)):=by
 rw[W0];unfold Ox
 exact gG e j ws.length 0 N t (by omega) (by omega)
def Rh (v:Int):Prop:=-9223372036854775808≤v∧v≤9223372036854775807
theorem NG {z:Int} (h:Rh z) {K:Lu→O R}:strconv_Itoa N z K=K (tx z):=by
 rw[Oo];unfold Pv
 rw[decide_eq_true h.1,decide_eq_true h.2];rfl
def Bp:Prop:=∀ z,Rh z→(tx z).length≤30
theorem ZU {l:List Int} {c d:Bool} {K:Nat→Bool→LA→O R} (hx:Bp) (hi:∀ z ∈ l,Rh z) (k:l.length≤1000000000):∀ (m j fuel:Nat) (t:Lu) (bad:Bool),j+m=l.length→m<fuel →
  Di N K (Az l) l.length c d fuel (l.length:Int) (j:Int) t.length bad (Ar t)=K (((l.drop j).map tx).foldl Cm t).length (bad||Ap (l.drop j)) (Ar (((l.drop j).map tx).foldl Cm t))
 | 0,j,fuel+1,t,bad,n,_=>by
  rw[Di];unfold Im
  rw[F9 (by omega),cf,A5 (by omega)]
  show _=K _ (bad||false) _
  rw[Afk];rfl
 | m+1,j,fuel+1,t,bad,n,q=>by
  rw[Di];unfold Im
  have h:j<l.length:=by omega
  have e:=hi _ (Ad9 h)
  have f:=fun bad=>ZU (c:=c) (d:=d) (K:=K) hx hi k m (j+1) fuel (Cm t (tx l[j])) bad (by omega) (by omega)
  rw[Fn h,ct,Ab h,ct,Zg h,NG e,NG e,EN (by have:=hx _ e;omega),EN (by have:=hx _ e;omega),Oy (by omega),A3 h,Ad5,Aeq,f,f]
  show _=K _ (bad||(Wg l[j]||Ap (l.drop (j+1)))) _
  unfold Wg
  cases decide (l[j]< -1073741824)<;>cases decide (l[j]>1073741824)<;>cases bad<;>rfl
theorem pL {l:List Int} {c d bad:Bool} {t:Lu} {K:Nat→Bool→LA→O R} (hx:Bp) (hi:∀ z ∈ l,Rh z) (e:l.length≤1000000000) (hN:1000000000<N):Ac N (Az l) l.length c d t.length bad (Ar t) K=K ((l.map tx).foldl Cm t).length (bad||Ap l) (Ar ((l.map tx).foldl Cm t)):=by
 rw[Vr];unfold M2
 exact ZU hx hi e l.length 0 N t bad (by omega) (by omega)
theorem EO {ws:List A0} {L:LA} {n:Nat} {d f bad:Bool} {t:Lu} {K:Nat→LA→O R} {Y:O R} (hL:L=Au ws) (hn:n=ws.length) (e:sq ws) (j:ws.length≤1000000000) (hN:1000000000<N) (h:K (ws.foldl Cm t).length (Ar (ws.foldl Cm t))=Y):Bz N L n d f t.length bad (Ar t) K=Y:=by
 subst hL hn;rw[rT e j hN,h]
theorem B0 {l:List Int} {L:LA} {n:Nat} {c d bad:Bool} {t:Lu} {K:Nat→Bool→LA→O R} {Y:O R} (hL:L=Az l) (hn:n=l.length) (hx:Bp) (hi:∀ z ∈ l,Rh z) (e:l.length≤1000000000) (hN:1000000000<N) (h:K ((l.map tx).foldl Cm t).length (bad||Ap l) (Ar ((l.map tx).foldl Cm t))=Y):Ac N L n c d t.length bad (Ar t) K=Y:=by
 subst hL hn;rw[pL hx hi e hN,h]
theorem Da {s t:Lu} {bad:Bool} {K:Nat→LA→O R} {Y:O R} (hs:s.length≤70000000000000) (h:K (Cm t s).length (Ar (Cm t s))=Y):Ah N s t.length bad (Ar t) K=Y:=by rw[EN hs,h]
theorem NH {f:FracD} {j bad:Bool} {t:Lu} {K:Nat→Bool→LA→O R} (hx:Bp) (m:Rh f.num) (n:Rh f.den):Bu N [.int .i64 f.num,.int .i64 f.den] j t.length bad (Ar t) K=K (Cm t (M0 f)).length (bad||Gh f) (Ar (Cm t (M0 f))):=by
 have l1:=hx _ m;have l2:=hx _ n
 have d:∀ F:Int→O R,Av .i64 [.int .i64 f.num,.int .i64 f.den] F=F f.num:=fun F=>rfl
 have k:∀ F:Int→O R,Av .i64 (drop 1 [AV.int .i64 f.num,.int .i64 f.den]) F=F f.den:=fun F=>rfl
 have e1:ble ((tx f.num).length+1) 140737488355328=true:=by simp;omega
 have q:ble ((tx f.num++([47]:Lu)).length+(tx f.den).length) 140737488355328=true:=by simp;omega
 have s:∀ (b:Bool) (K:Nat→LA→O R),Ah N ((tx f.num++([47]:Lu))++tx f.den) t.length b (Ar t) K=K (Cm t (M0 f)).length (Ar (Cm t (M0 f))):=fun b K=>by
  have:(tx f.num++([47]:Lu))++tx f.den=M0 f:=by simp[M0]
  rw[this,EN (by rw[←this];simp;omega)]
 have tail:∀ b:Bool,(Av .i64 [.int .i64 f.num,.int .i64 f.den] fun u=>strconv_Itoa N u fun e=>cond (ble (e.length+1) 140737488355328) (Av .i64 (drop 1 [AV.int .i64 f.num,.int .i64 f.den]) fun v=>strconv_Itoa N v fun l=>cond (ble ((e++([47]:Lu)).length+l.length) 140737488355328) (Ah N ((e++([47]:Lu))++l) t.length b (Ar t) fun w x=>K w b x) none) none)=K (Cm t (M0 f)).length b (Ar (Cm t (M0 f))):=fun b=>by
  rw[d,NG m,e1,ct,k,NG n,q,ct,s]
 rw[R8];unfold Pk Gh Wg
 rw[d]
 cases decide (f.num< -1073741824) with
 | true=>exact(tail true).trans (by cases bad<;>rfl)
 | false =>
  rw[show((false:Bool)==false)=true from rfl,ct,d]
  cases decide (f.num>1073741824) with
  | true=>exact(tail true).trans (by cases bad<;>rfl)
  | false =>
   show Av .i64 (drop 1 [AV.int .i64 f.num,.int .i64 f.den]) _=_
   rw[k]
   cases decide (f.den<1) with
   | true=>exact(tail true).trans (by cases bad<;>rfl)
   | false =>
    show Av .i64 (drop 1 [AV.int .i64 f.num,.int .i64 f.den]) _=_
    rw[k]
    cases decide (f.den>1073741824) with
    | true=>exact(tail true).trans (by cases bad<;>rfl)
    | false=>exact(tail bad).trans (by cases bad<;>rfl)
theorem PK {c:CaseD} {i:Int} (h:Dg i c.buses.l.length=true) {F:A0→O R}:Hz (drop ((Int.toNat i)*3) (c.buses.l.flatMap BusD.av)) F=F (Bb (Bh c) i):=by
 unfold Dg at h
 simp only[Ad3,decide_eq_true_eq] at h
 have d:i.toNat<c.buses.l.length:=by omega
 rw[Be Kb _ _ d]
 have e:Bb (Bh c) i=c.buses.l[i.toNat].name:=by
  unfold Bb Bh
  rw[Aee,Afv,Ad1 d];rfl
 rw[e];rfl
theorem Ld {i:Int} {n:Nat} (h:Dg i n=true):Aj i n=true:=by
 unfold Dg at h;unfold Aj
 simp only[Ad3,decide_eq_true_eq] at h
 simp;omega
structure LineI (l:LineD):Prop where
 f1:Rh l.re.num∧Rh l.re.den
 f2:Rh l.smin.num∧Rh l.smin.den
 f3:Rh l.smax.num∧Rh l.smax.den
 n:Rh l.limit∧Rh l.emer
 a:(∀ z ∈ l.away.l,Rh z)∧l.away.l.length≤1000000000
theorem EP {ws:List A0} (h:ws.all fun w=>decide (w.length≤16)):sq ws:=fun w d=>by
 have:=Ae3.1 h w d
 simp only[decide_eq_true_eq] at this;omega
theorem NI {c:CaseD} {l:LineD} {g b bad:Bool} {t:Lu} {K:Nat→Bool→LA→O R} (hx:Bp) (hN:1000000000<N) (hI:LineI l) (d:Dg l.fr c.buses.l.length=true) (e:Dg l.tl c.buses.l.length=true) (f:l.name.length≤16) (s1:(Bb (Bh c) l.fr).length≤16) (s2:(Bb (Bh c) l.tl).length≤16) :
  R9 N c.av g l.av b t.length bad (Ar t) K=K (Wh ((Ry (Bh c) l).foldl Cm t)).length (bad||Rz l) (Ar (Wh ((Ry (Bh c) l).foldl Cm t))):=by
 rw[Zr];unfold Wk
 have j:∀ F:A0→O R,Hz l.av F=F l.name:=fun F=>rfl
 have k:∀ F:Int→O R,Av .i64 (drop 1 l.av) F=F l.fr:=fun F=>rfl
 have m:∀ F:Int→O R,Av .i64 (drop 2 l.av) F=F l.tl:=fun F=>rfl
 have p:∀ (b:Bool) (x y:Int),(!b||Ax [AV.int .i64 x,.int .i64 y])=true:=fun b x y=>by cases b<;>rfl
 rw[j,Bi,k,Ld d,ct,PK d,Bi,m,Ld e,ct,PK e]
 refine EO (ws:=[lw,l.name,Bb (Bh c) l.fr,Bb (Bh c) l.tl,x9]) rfl rfl (EP (by simp[f,s1,s2,lw,x9])) (by simp) hN ?_
 show cond true (cond (!b||Ax [AV.int .i64 l.re.num,.int .i64 l.re.den]) (Bu N [.int .i64 l.re.num,.int .i64 l.re.den] false _ _ _ _) none) none=_
 rw[ct,p,ct,NH hx hI.f1.1 hI.f1.2]
 refine Da (s:=dM) (by decide) ?_
 show cond true (cond (!b||Ax [AV.int .i64 l.smin.num,.int .i64 l.smin.den]) (Bu N [.int .i64 l.smin.num,.int .i64 l.smin.den] false _ _ _ _) none) none=_
 rw[ct,p,ct,NH hx hI.f2.1 hI.f2.2]
 show cond true (cond (!b||Ax [AV.int .i64 l.smax.num,.int .i64 l.smax.den]) (Bu N [.int .i64 l.smax.num,.int .i64 l.smax.den] false _ _ _ _) none) none=_
 rw[ct,p,ct,NH hx hI.f3.1 hI.f3.2]
 refine Da (s:=dN) (by decide) ?_
 show Av .i64 (drop 9 l.av) _=_
 show Ac N [.int .i64 l.limit,.int .i64 l.emer] 2 false true _ _ _ _=_
 refine B0 (l:=[l.limit,l.emer]) rfl rfl hx (by simp[hI.n.1,hI.n.2]) (by simp) hN ?_
 refine Da (s:=GH) (by decide) ?_
 show A6 1 (l.away.av 1 Fh::_) _=_
 rw[Bn,A4]
 refine B0 rfl rfl hx hI.a.1 hI.a.2 hN ?_
 rw[Zt]
 have eB:((((bad||Gh l.re)||Gh l.smin)||Gh l.smax)||Ap [l.limit,l.emer]||Ap l.away.l)=(bad||Rz l):=by unfold Rz;simp[Ael]
 rw[eB]
 simp only[Ry,Ae0,Aeq,Afx,Ad5,Aem]
end
end Gx.Ct
namespace Gx.Ct
open Go Go.Proofs Gx.Cf
def LK (u:UnitD):List A0:=[K_,tx u.noLoad,fY,tx u.rampUp,tx u.rampDown,TG,tx u.startRamp,fZ,tx u.stopRamp,TH,tx u.upTime,tx u.downTime,tx u.startTime,f4,tx u.hotCost,tx u.coldCost,tx u.hotHours,Mh,tx u.reserve,tx u.reservePrice,GH]++(u.away.l.map tx++(GI::(Ts u.state++[tx u.hours,tx u.output])))
def Qh (u:UnitD):Bool:=Ap [u.noLoad,u.rampUp,u.rampDown,u.startRamp,u.stopRamp,u.upTime,u.downTime,u.startTime,u.hotCost,u.coldCost,u.hotHours,u.reserve,u.reservePrice]||(Ap u.away.l||Ap [u.hours,u.output])
structure UnitI (u:UnitD):Prop where
 n:∀ z ∈ [u.min,u.max,u.noLoad,u.rampUp,u.rampDown,u.startRamp,u.stopRamp,u.upTime,u.downTime,u.startTime,u.hotCost,u.coldCost,u.hotHours,u.reserve,u.reservePrice,u.hours,u.output],Rh z
 s:(∀ s ∈ u.segs.l,Rh s.width∧Rh s.price)∧u.segs.l.length≤1000000000
 a:(∀ z ∈ u.away.l,Rh z)∧u.away.l.length≤1000000000
section
variable {R:Type} {N:Nat}
theorem EQ {u:UnitD} {b:Bool} {K:Nat→Bool→LA→O R} (hx:Bp) (hN:1000000000<N) (hI:UnitI u):∀ (m j fuel:Nat) (t:Lu) (bad:Bool),j+m=u.segs.l.length→m<fuel →
  En N K (u.segs.l.flatMap SegD.av) u.segs.l.length b u.av fuel (u.segs.l.length:Int) (j:Int) t.length bad (Ar t) =
   K (Wh ((LK u).foldl Cm (((u.segs.l.drop j).flatMap WV).foldl Cm t))).length ((bad||(u.segs.l.drop j).any GK)||Qh u) (Ar (Wh ((LK u).foldl Cm (((u.segs.l.drop j).flatMap WV).foldl Cm t))))
 | 0,j,fuel+1,t,bad,k,_=>by
  have hn:=hI.n
  simp only[Ad6,Aei,or_false,forall_eq_or_imp,forall_eq] at hn
  obtain⟨_,_,n1,n2,n3,n4,n5,n6,n7,n8,n9,n10,n11,n12,n13,n14,n15⟩:=hn
  rw[En];unfold Lc
  rw[F9 (by omega),cf,show u.segs.l.drop j=[] from A5 (by omega)]
  refine Da (s:=K_) (by decide) ?_
  show Ac N [.int .i64 u.noLoad] 1 false true _ _ _ _=_
  refine B0 (l:=[u.noLoad]) rfl rfl hx (by simp[*]) (by simp) hN ?_
  refine Da (s:=fY) (by decide) ?_
  show Ac N [.int .i64 u.rampUp,.int .i64 u.rampDown] 2 false true _ _ _ _=_
  refine B0 (l:=[u.rampUp,u.rampDown]) rfl rfl hx (by simp[*]) (by simp) hN ?_
  refine Da (s:=TG) (by decide) ?_
  show Ac N [.int .i64 u.startRamp] 1 false true _ _ _ _=_
  refine B0 (l:=[u.startRamp]) rfl rfl hx (by simp[*]) (by simp) hN ?_
  refine Da (s:=fZ) (by decide) ?_
  show Ac N [.int .i64 u.stopRamp] 1 false true _ _ _ _=_
  refine B0 (l:=[u.stopRamp]) rfl rfl hx (by simp[*]) (by simp) hN ?_
  refine Da (s:=TH) (by decide) ?_
  show Ac N [.int .i64 u.upTime,.int .i64 u.downTime,.int .i64 u.startTime] 3 false true _ _ _ _=_
  refine B0 (l:=[u.upTime,u.downTime,u.startTime]) rfl rfl hx (by simp[*]) (by simp) hN ?_
  refine Da (s:=f4) (by decide) ?_
  show Ac N [.int .i64 u.hotCost,.int .i64 u.coldCost,.int .i64 u.hotHours] 3 false true _ _ _ _=_
  refine B0 (l:=[u.hotCost,u.coldCost,u.hotHours]) rfl rfl hx (by simp[*]) (by simp) hN ?_
  refine Da (s:=Mh) (by decide) ?_
  show Ac N [.int .i64 u.reserve,.int .i64 u.reservePrice] 2 false true _ _ _ _=_
  refine B0 (l:=[u.reserve,u.reservePrice]) rfl rfl hx (by simp[*]) (by simp) hN ?_
  refine Da (s:=GH) (by decide) ?_
  show A6 1 (u.away.av 1 Fh::_) _=_
  rw[Bn,A4]
  refine B0 rfl rfl hx hI.a.1 hI.a.2 hN ?_
  refine Da (s:=GI) (by decide) ?_
  show cond (u.state==0) _ _=_
  have eB:((((((((((bad||Ap [u.noLoad])||Ap [u.rampUp,u.rampDown])||Ap [u.startRamp])||Ap [u.stopRamp])||Ap [u.upTime,u.downTime,u.startTime])||Ap [u.hotCost,u.coldCost,u.hotHours])||Ap [u.reserve,u.reservePrice])||Ap u.away.l)||Ap [u.hours,u.output]))=((bad||false)||Qh u):=by unfold Qh;simp[Ap,Ael]
  have last:∀ (T:Lu) (f:Bool),Ac N [.int .i64 u.hours,.int .i64 u.output] 2 false true T.length f (Ar T) (fun x y z=>Ce N x y z fun p q=>K p y q)=K (Wh ([tx u.hours,tx u.output].foldl Cm T)).length (f||Ap [u.hours,u.output]) (Ar (Wh ([tx u.hours,tx u.output].foldl Cm T))):=fun T f=>by
   refine B0 (l:=[u.hours,u.output]) rfl rfl hx (by simp[*]) (by simp) hN ?_
   rw[Zt];rfl
  by_cases d:u.state=0
  ·rw[show(u.state==0)=true by simp[d],ct]
   refine Da (s:=sf) (by decide) ?_
   refine(last _ _).trans ?_
   rw[eB]
   simp only[LK,Ts,if_pos d,Ae0,Aeq,Afx,Ad5,Aem,Aft,Ae2]
  ·rw[show(u.state==0)=false by simp[d],cf]
   by_cases s1:u.state=1
   ·rw[show(u.state==1)=true by simp[s1],ct]
    refine Da (s:=GJ) (by decide) ?_
    refine(last _ _).trans ?_
    rw[eB]
    simp only[LK,Ts,if_neg d,if_pos s1,Ae0,Aeq,Afx,Ad5,Aem,Aft,Ae2]
   ·rw[show(u.state==1)=false by simp[s1],cf]
    by_cases s2:u.state=2
    ·rw[show(u.state==2)=true by simp[s2],ct]
     refine Da (s:=wo) (by decide) ?_
     refine(last _ _).trans ?_
     rw[eB]
     simp only[LK,Ts,if_neg d,if_neg s1,if_pos s2,Ae0,Aeq,Afx,Ad5,Aem,Aft,Ae2]
    ·rw[show(u.state==2)=false by simp[s2],cf]
     refine(last _ _).trans ?_
     rw[eB]
     simp only[LK,Ts,if_neg d,if_neg s1,if_neg s2,Ae0,Aeq,Afx,Ad5,Aem,Aft,Ae2,Afr]
 | m+1,j,fuel+1,t,bad,k,v=>by
  rw[En];unfold Lc
  have h:j<u.segs.l.length:=by omega
  have A:=hI.s.2
  have hs:=hI.s.1 _ (Ad9 h)
  have e:take 2 (drop (Int.toNat (j:Int)*2) (u.segs.l.flatMap SegD.av))=[.int .i64 (u.segs.l[j]).width,.int .i64 (u.segs.l[j]).price]:=Br (e:=SegD.av) (sz:=2) (fun _=>rfl) h
  rw[Fn h,ct,Ab h,ct,Cq (e:=SegD.av) (sz:=2) (fun _=>rfl) h,ct,e,show(!b||Ax [AV.int .i64 (u.segs.l[j]).width,.int .i64 (u.segs.l[j]).price])=true by cases b<;>rfl,ct,Oy (by omega),A3 h]
  show Ac N [.int .i64 (u.segs.l[j]).width,.int .i64 (u.segs.l[j]).price] 2 false true _ _ _ _=_
  refine B0 (l:=[(u.segs.l[j]).width,(u.segs.l[j]).price]) rfl rfl hx (by simp[hs.1,hs.2]) (by simp) hN ?_
  refine(EQ hx hN hI m (j+1) fuel _ _ (by omega) (by omega)).trans ?_
  rw[Aen,Ae0,Aez]
  show K _ (((bad||GK u.segs.l[j])||_)||_) _=K _ ((bad||(GK u.segs.l[j]||_))||_) _
  rw[Ael bad];rfl
theorem XD {c:CaseD} {u:UnitD} {g b bad:Bool} {t:Lu} {K:Nat→Bool→LA→O R} (hx:Bp) (hN:1000000000<N) (hI:UnitI u) (d:Dg u.bus c.buses.l.length=true) (e:u.name.length≤16) (s1:(Bb (Bh c) u.bus).length≤16) :
  N5 N c.av g u.av b t.length bad (Ar t) K=K (Wh ((O9 (Bh c) u).foldl Cm t)).length (bad||M1 u) (Ar (Wh ((O9 (Bh c) u).foldl Cm t))):=by
 have hn:=hI.n
 simp only[Ad6,Aei,or_false,forall_eq_or_imp,forall_eq] at hn
 obtain⟨n1,n2,_⟩:=hn
 rw[Zs];unfold Qg
 have f:∀ F:A0→O R,Hz u.av F=F u.name:=fun F=>rfl
 have j:∀ F:Int→O R,Av .i64 (drop 1 u.av) F=F u.bus:=fun F=>rfl
 rw[f,Bi,j,Ld d,ct,PK d]
 refine EO (ws:=[fX,u.name,Bb (Bh c) u.bus,PG]) rfl rfl (EP (by simp[e,s1,fX,PG])) (by simp) hN ?_
 show Ac N [.int .i64 u.min] 1 false true _ _ _ _=_
 refine B0 (l:=[u.min]) rfl rfl hx (by simp[*]) (by simp) hN ?_
 refine Da (s:=jg) (by decide) ?_
 show Ac N [.int .i64 u.max] 1 false true _ _ _ _=_
 refine B0 (l:=[u.max]) rfl rfl hx (by simp[*]) (by simp) hN ?_
 refine Da (s:=Tq) (by decide) ?_
 show A6 2 (u.segs.av 2 SegD.av::_) _=_
 rw[Bn]
 refine(EQ hx hN hI u.segs.l.length 0 N _ _ (by omega) (by have:=hI.s.2;omega)).trans ?_
 rw[Aeg]
 have eB:((((bad||Ap [u.min])||Ap [u.max])||u.segs.l.any GK)||Qh u)=(bad||M1 u):=by unfold M1 Qh;simp[Ap,Ael]
 rw[eB]
 have eW:O9 (Bh c) u=[fX,u.name,Bb (Bh c) u.bus,PG,tx u.min,jg,tx u.max,Tq]++(u.segs.l.flatMap WV++LK u):=rfl
 rw[eW]
 simp only[Ae0,Aeq,Afx,Ad5,Aem]
end
end Gx.Ct
namespace Gx
open Go Go.Proofs
set_option maxRecDepth 100000
noncomputable section
variable {R:Type} (N:Nat)
def In (r0:Nat→Bool→LA→O R) (g:LA) (j:Nat) (a c:Bool) (b:LA) (k2:Int→Int→Nat→Bool→LA→O R) (t l:Int) (u:Nat) (m:Bool) (v:LA):O R :=
 (cond (decide (l<t)) (cond (Aj l j) (cond (ble 3 ((g.drop ((l.toNat)*3)).length)) (cond ((!a)||(Ax ((g.drop ((l.toNat)*3)).take 3))) (cond ((beq (((g.drop ((l.toNat)*3)).take 3).length) 3)&&((ble 3 3)&&(!false))) (A6 22 (b.drop 4) fun ab ac=>Av .i64 (setCells [(.int .i64 0),(.int .i64 0),(.int .i64 0)] 0 ((g.drop ((l.toNat)*3)).take 3)) fun z=>cond (Aj z ac) (Hz (ab.drop ((z.toNat)*22)) fun ad=>Ah N ad u m v fun ae af=>Av .i64 ((setCells [(.int .i64 0),(.int .i64 0),(.int .i64 0)] 0 ((g.drop ((l.toNat)*3)).take 3)).drop 1) fun ag=>Av .i64 ((setCells [(.int .i64 0),(.int .i64 0),(.int .i64 0)] 0 ((g.drop ((l.toNat)*3)).take 3)).drop 2) fun ah=>Ac N [(.int .i64 ag),(.int .i64 ah)] 2 false true ae m af fun ai aj ak=>k2 t (wrap .i64 (l+1)) ai aj ak) none) none) none) none) none) (Ce N u m v fun al am=>r0 al m am))
def Ep (r0:Nat→Bool→LA→O R) (g:LA) (j:Nat) (a c:Bool) (b:LA):Nat→Int→Int→Nat→Bool→LA→O R
 | 0,_,_,_,_,_=>none
 | n+1,t,l,u,m,v=>In N r0 g j a c b (Ep r0 g j a c b n) t l u m v
def N6 (N:Nat) (r0:Nat→Bool→LA→O R) (d c:Bool) (b:LA) (a:Bool) (f:LA) (q2:LA→Nat→Int→Int→Nat→Bool→LA→O R) (x:Nat) (y:LA):O R :=
 (A6 3 (f.drop 3) fun g j=>q2 g j (j:Int) 0 x d y)
def Js (r0:Nat→Bool→LA→O R) (d c:Bool) (b:LA) (a:Bool) (f:LA) (x:Nat) (y:LA):O R:=(N6 N r0 d c b a f (fun g j=>Ep N r0 g j a c b N) x y)
def Io (r0:Nat→Bool→LA→O R) (i:LA) (h:Nat) (a d c:Bool) (b f:LA) (k0:Int→Int→Nat→LA→O R) (q1:Nat→LA→O R) (w o:Int) (r:Nat) (s:LA):O R :=
 (cond (decide (o<w)) (cond (Aj o h) (Av .i64 (i.drop ((o.toNat)*1)) fun aa=>A6 12 (b.drop 3) fun an ao=>cond (Aj aa ao) (Hz (an.drop ((aa.toNat)*12)) fun ap=>Ah N ap r d s fun aq ar=>k0 w (wrap .i64 (o+1)) aq ar) none) none) (qS (f.drop 2) fun au=>cond au (Ah N ([99,111,114,114,101,99,116,105,118,101]:Lu) r d s fun av aw=>q1 av aw) (q1 r s)))
def Dj (r0:Nat→Bool→LA→O R) (i:LA) (h:Nat) (a d c:Bool) (b f:LA):Nat→Int→Int→Nat→LA→O R
 | 0,_,_,_,_=>none
 | n+1,w,o,r,s=>Io N r0 i h a d c b f (Dj r0 i h a d c b f n) (Js N r0 d c b a f) w o r s
def M4 (r0:Nat→Bool→LA→O R) (q0:LA→Nat→Int→Int→Nat→LA→O R) (b:LA) (c:Bool) (f:LA) (a:Bool) (p:Nat) (d:Bool) (q:LA):O R :=
 (Hz f fun ax=>Bz N [(.str ([111,117,116,97,103,101]:Lu)),(.str ax),(.str ([108,105,110,101,115]:Lu))] 3 false true p d q fun ay az=>A6 1 (f.drop 1) fun i h=>q0 i h (h:Int) 0 ay az)
def Kd:=(At fun N b c f a p d q r0=>M4 (R:=R) N r0 (fun i h=>Dj N r0 i h a d c b f N) b c f a p d q).1
theorem Vt (b c f a p d q r0):(@Kd R N b c f a p d q r0)=(M4 N r0 (fun i h=>Dj N r0 i h a d c b f N) b c f a p d q):=by rw[Kd,(At _).2]
def W1:Hints:={ H:=(hK 2 (hS (hK 1 (hS (hP [0,4,5,16,17,18] hL) hL)) (hJ [0,4,5] hL (hS (hK 1 (hS (hP [0,4,36,37,38] hL) hL)) hL)))) }
def Zu:EZ:=[M3 N,Dh N,K8 N,Qf N]
def Pl (F:KF R):=Tj Tryz.f96 W1 (Zu N) [100000,100001] N F
def OF (g:LA) (j:Nat) (a c:Bool) (b:LA) (K:St→O R):=fun t l u m v=>K ⟨[(0,(.optr 100000 0)),(4,(op 0)),(36,(.imm g j 3 false a)),(37,(iv t)),(38,(iv l))],[(100000,(bN 0 [(.own 300001 0 u),(.bool m)])),(300000,(bP c 0 b)),(300001,⟨false,false,true,false,1,v,false,(some (5,0))⟩)]⟩
def OG (d c:Bool) (b:LA) (a:Bool) (f:LA) (K:St→O R):=fun x y=>K ⟨[(0,(.optr 100000 0)),(4,(op 0)),(5,(op 1))],[(100000,(bN 0 [(.own 300002 0 x),(.bool d)])),(300000,(bP c 0 b)),(300001,(bP a 0 f)),(300002,⟨false,false,true,false,1,y,false,(some (5,0))⟩)]⟩
def OH (i:LA) (h:Nat) (a d c:Bool) (b f:LA) (K:St→O R):=fun w o r s=>K ⟨[(0,(.optr 100000 0)),(4,(op 0)),(5,(op 1)),(16,(.imm i h 1 false a)),(17,(iv w)),(18,(iv o))],[(100000,(bN 0 [(.own 300002 0 r),(.bool d)])),(300000,(bP c 0 b)),(300001,(bP a 0 f)),(300002,⟨false,false,true,false,1,s,false,(some (5,0))⟩)]⟩
theorem GV (F:KF R) (g j a c b):∀ n,OF g j a c b (Ao (Pl N F (pz 21828) []) n)=(Ep N (Pp F) g j a c b n):=Ev fun n e=>(Ee (In N (Pp F) g j a c b) e:_)
theorem GW (F:KF R) (d c b a f):OG d c b a f (D5 (Pl N F (pz 341) []))=(Js N (Pp F) d c b a f):=(Ee (N6 N (Pp F) d c b a f) (Yo fun g j=>(lW ..).trans (GV ..)):_)
theorem GX (F:KF R) (i h a d c b f):∀ n,OH i h a d c b f (Ao (Pl N F (pz 1348) []) n)=(Dj N (Pp F) i h a d c b f n):=Ev fun n e=>(Sq (Io N (Pp F) i h a d c b f) e ((jW ..).trans (GW ..)):_)
def RB:=Jl N 96 (Zu N) W1 (fun
 | [(.optr 100000 0),(.pagg b c),(.pagg f a)],[(100000,⟨false,false,false,false,0,[(.own 100001 0 p),(.bool d)],false,none⟩),(100001,⟨false,false,true,false,1,q,false,(some (5,0))⟩)]=>some fun _ k=>Kd N b c f a p d q (Pp k)
 | _,_=>none) fun _ _=>by split;intro R F;exact(Ee (M4 N (Pp F) · _ _ _ _ _ _ _) (Yo fun i h=>(lW ..).trans (GX ..)):_).trans (Vt ..).symm;trivial
def Jt (r0:Nat→Bool→LA→O R) (h:LA) (m:Nat) (a:Bool) (b:LA) (k5:Int→Int→Nat→Bool→LA→O R) (ab u:Int) (ac:Nat) (ad:Bool) (ae:LA):O R :=
 (cond (decide (u<ab)) (cond (Aj u m) (cond (ble 4 ((h.drop ((u.toNat)*4)).length)) (cond ((beq 0 0)&&((beq (((h.drop ((u.toNat)*4)).take 4).length) 4)&&(beq 4 4))) (cond (ble 8 (b.length)) (cond (ble 4 (((h.drop ((u.toNat)*4)).take 4).length)) (Kd N (b.take 8) a (((h.drop ((u.toNat)*4)).take 4).take 4) a ac ad ae fun bl bm bn=>k5 ab (wrap .i64 (u+1)) bl bm bn) none) none) none) none) none) (r0 ac ad ae))
def Fp (r0:Nat→Bool→LA→O R) (h:LA) (m:Nat) (a:Bool) (b:LA):Nat→Int→Int→Nat→Bool→LA→O R
 | 0,_,_,_,_,_=>none
 | n+1,ab,u,ac,ad,ae=>Jt N r0 h m a b (Fp r0 h m a b n) ab u ac ad ae
def Ju (r0:Nat→Bool→LA→O R) (d:LA) (o:Nat) (a:Bool) (b:LA) (k4:Int→Int→Nat→Bool→LA→O R) (q5:LA→Nat→Int→Int→Nat→Bool→LA→O R) (af s:Int) (ag:Nat) (y:Bool) (ah:LA):O R :=
 (cond (decide (s<af)) (cond (Aj s o) (cond (ble 5 ((d.drop ((s.toNat)*5)).length)) (cond ((beq 0 0)&&((beq (((d.drop ((s.toNat)*5)).take 5).length) 5)&&(beq 5 5))) (Hz ((d.drop ((s.toNat)*5)).take 5) fun bo=>A6 3 (b.drop 2) fun bp bq=>Av .i64 (((d.drop ((s.toNat)*5)).take 5).drop 1) fun ay=>cond (Aj ay bq) (Hz (bp.drop ((ay.toNat)*3)) fun br=>Bz N [(.str ([116,105,101]:Lu)),(.str bo),(.str br),(.str ([105,109,112,111,114,116]:Lu))] 4 false true ag y ah fun bs bt=>A6 1 (((d.drop ((s.toNat)*5)).take 5).drop 2) fun bu bv=>Ac N bu bv false a bs y bt fun bw az bx=>Ah N ([101,120,112,111,114,116]:Lu) bw az bx fun bz ca=>A6 1 (((d.drop ((s.toNat)*5)).take 5).drop 3) fun cb cc=>Ac N cb cc false a bz az ca fun cd ba ce=>Ah N ([112,114,105,99,101]:Lu) cd ba ce fun cf cg=>A6 1 (((d.drop ((s.toNat)*5)).take 5).drop 4) fun ch ci=>Ac N ch ci false a cf ba cg fun cj bb ck=>Ce N cj bb ck fun cl cm=>k4 af (wrap .i64 (s+1)) cl bb cm) none) none) none) none) (A6 4 (b.drop 7) fun h m=>q5 h m (m:Int) 0 ag y ah))
def Fq (r0:Nat→Bool→LA→O R) (d:LA) (o:Nat) (a:Bool) (b:LA):Nat→Int→Int→Nat→Bool→LA→O R
 | 0,_,_,_,_,_=>none
 | n+1,af,s,ag,y,ah=>Ju N r0 d o a b (Fq r0 d o a b n) (fun h m=>Fp N r0 h m a b N) af s ag y ah
def Jv (r0:Nat→Bool→LA→O R) (c:LA) (p:Nat) (a:Bool) (b:LA) (k3:Int→Int→Nat→Bool→LA→O R) (q4:LA→Nat→Int→Int→Nat→Bool→LA→O R) (ai g:Int) (aj:Nat) (z:Bool) (ak:LA):O R :=
 (cond (decide (g<ai)) (cond (Aj g p) (cond (ble 9 ((c.drop ((g.toNat)*9)).length)) (cond ((beq 0 0)&&((beq (((c.drop ((g.toNat)*9)).take 9).length) 9)&&(beq 9 9))) (Hz ((c.drop ((g.toNat)*9)).take 9) fun cn=>A6 3 (b.drop 2) fun co cp=>Av .i64 (((c.drop ((g.toNat)*9)).take 9).drop 1) fun bc=>cond (Aj bc cp) (Hz (co.drop ((bc.toNat)*3)) fun cq=>Bz N [(.str ([115,116,111,114,101]:Lu)),(.str cn),(.str cq),(.str ([99,97,112,97,99,105,116,121]:Lu))] 4 false true aj z ak fun cr cs=>Av .i64 (((c.drop ((g.toNat)*9)).take 9).drop 2) fun ct=>Ac N [(.int .i64 ct)] 1 false true cr z cs fun cu bd cv=>Ah N ([108,101,118,101,108]:Lu) cu bd cv fun cw cx=>Av .i64 (((c.drop ((g.toNat)*9)).take 9).drop 3) fun cy=>Av .i64 (((c.drop ((g.toNat)*9)).take 9).drop 4) fun cz=>Ac N [(.int .i64 cy),(.int .i64 cz)] 2 false true cw bd cx fun da be db=>Ah N ([114,97,116,101]:Lu) da be db fun dc dd=>Av .i64 (((c.drop ((g.toNat)*9)).take 9).drop 5) fun de=>Av .i64 (((c.drop ((g.toNat)*9)).take 9).drop 6) fun df=>Ac N [(.int .i64 de),(.int .i64 df)] 2 false true dc be dd fun dg bf dh=>Ah N ([101,102,102,105,99,105,101,110,99,121]:Lu) dg bf dh fun di dj=>cond (ble 2 ((((c.drop ((g.toNat)*9)).take 9).drop 7).length)) (cond ((!a)||(Ax ((((c.drop ((g.toNat)*9)).take 9).drop 7).take 2))) (Bu N ((((c.drop ((g.toNat)*9)).take 9).drop 7).take 2) false di bf dj fun dk bg dl=>Ce N dk bg dl fun dm dn=>k3 ai (wrap .i64 (g+1)) dm bg dn) none) none) none) none) none) none) (A6 5 (b.drop 6) fun d o=>q4 d o (o:Int) 0 aj z ak))
def Fr (r0:Nat→Bool→LA→O R) (c:LA) (p:Nat) (a:Bool) (b:LA):Nat→Int→Int→Nat→Bool→LA→O R
 | 0,_,_,_,_,_=>none
 | n+1,ai,g,aj,z,ak=>Jv N r0 c p a b (Fr r0 c p a b n) (fun d o=>Fq N r0 d o a b N) ai g aj z ak
def Jw (r0:Nat→Bool→LA→O R) (i:LA) (q:Nat) (a:Bool) (b:LA) (k2:Int→Int→Nat→Bool→LA→O R) (q3:LA→Nat→Int→Int→Nat→Bool→LA→O R) (al v:Int) (am:Nat) (an:Bool) (ao:LA):O R :=
 (cond (decide (v<al)) (cond (Aj v q) (cond (ble 22 ((i.drop ((v.toNat)*22)).length)) (cond ((beq 0 0)&&((beq (((i.drop ((v.toNat)*22)).take 22).length) 22)&&(beq 22 22))) (cond (ble 8 (b.length)) (cond (ble 22 (((i.drop ((v.toNat)*22)).take 22).length)) (N5 N (b.take 8) a (((i.drop ((v.toNat)*22)).take 22).take 22) a am an ao fun dp dq dr=>k2 al (wrap .i64 (v+1)) dp dq dr) none) none) none) none) none) (A6 9 (b.drop 5) fun c p=>q3 c p (p:Int) 0 am an ao))
def Fs (r0:Nat→Bool→LA→O R) (i:LA) (q:Nat) (a:Bool) (b:LA):Nat→Int→Int→Nat→Bool→LA→O R
 | 0,_,_,_,_,_=>none
 | n+1,al,v,am,an,ao=>Jw N r0 i q a b (Fs r0 i q a b n) (fun c p=>Fr N r0 c p a b N) al v am an ao
def Jx (r0:Nat→Bool→LA→O R) (j:LA) (r:Nat) (a:Bool) (b:LA) (k1:Int→Int→Nat→Bool→LA→O R) (q2:LA→Nat→Int→Int→Nat→Bool→LA→O R) (ap w:Int) (aq:Nat) (ar:Bool) (au:LA):O R :=
 (cond (decide (w<ap)) (cond (Aj w r) (cond (ble 12 ((j.drop ((w.toNat)*12)).length)) (cond ((beq 0 0)&&((beq (((j.drop ((w.toNat)*12)).take 12).length) 12)&&(beq 12 12))) (cond (ble 8 (b.length)) (cond (ble 12 (((j.drop ((w.toNat)*12)).take 12).length)) (R9 N (b.take 8) a (((j.drop ((w.toNat)*12)).take 12).take 12) a aq ar au fun ds dt du=>k1 ap (wrap .i64 (w+1)) ds dt du) none) none) none) none) none) (A6 22 (b.drop 4) fun i q=>q2 i q (q:Int) 0 aq ar au))
def Ft (r0:Nat→Bool→LA→O R) (j:LA) (r:Nat) (a:Bool) (b:LA):Nat→Int→Int→Nat→Bool→LA→O R
 | 0,_,_,_,_,_=>none
 | n+1,ap,w,aq,ar,au=>Jx N r0 j r a b (Ft r0 j r a b n) (fun i q=>Fs N r0 i q a b N) ap w aq ar au
def Jy (r0:Nat→Bool→LA→O R) (f:LA) (l:Nat) (a:Bool) (b:LA) (k0:Int→Int→Nat→Bool→LA→O R) (q1:LA→Nat→Int→Int→Nat→Bool→LA→O R) (av t:Int) (aw:Nat) (aa:Bool) (ax:LA):O R :=
 (cond (decide (t<av)) (cond (Aj t l) (cond (ble 3 ((f.drop ((t.toNat)*3)).length)) (cond ((beq 0 0)&&((beq (((f.drop ((t.toNat)*3)).take 3).length) 3)&&(beq 3 3))) (Hz ((f.drop ((t.toNat)*3)).take 3) fun dv=>Bz N [(.str ([98,117,115]:Lu)),(.str dv),(.str ([100,101,109,97,110,100]:Lu))] 3 false true aw aa ax fun dw dx=>A6 1 (((f.drop ((t.toNat)*3)).take 3).drop 1) fun dy dz=>Ac N dy dz false a dw aa dx fun ea bh eb=>Ah N ([115,104,101,100]:Lu) ea bh eb fun ec ed=>Av .i64 (((f.drop ((t.toNat)*3)).take 3).drop 2) fun ee=>Ac N [(.int .i64 ee)] 1 false true ec bh ed fun ef bi eg=>Ce N ef bi eg fun eh ei=>k0 av (wrap .i64 (t+1)) eh bi ei) none) none) none) (A6 12 (b.drop 3) fun j r=>q1 j r (r:Int) 0 aw aa ax))
def D7 (r0:Nat→Bool→LA→O R) (f:LA) (l:Nat) (a:Bool) (b:LA):Nat→Int→Int→Nat→Bool→LA→O R
 | 0,_,_,_,_,_=>none
 | n+1,av,t,aw,aa,ax=>Jy N r0 f l a b (D7 r0 f l a b n) (fun j r=>Ft N r0 j r a b N) av t aw aa ax
def Oz (r0:Nat→Bool→LA→O R) (q0:LA→Nat→Int→Int→Nat→Bool→LA→O R) (b:LA) (a x:Bool):O R :=
 (Zm N ([99,97,115,101]:Lu) x fun ej ek=>Av .i64 b fun el=>Ac N [(.int .i64 el)] 1 false true ej x ek fun em bj en=>Ah N ([114,101,115,101,114,118,101]:Lu) em bj en fun eo ep=>A6 1 (b.drop 1) fun er es=>Ac N er es false a eo bj ep fun et bk eu=>Ce N et bk eu fun ev ew=>A6 3 (b.drop 2) fun f l=>q0 f l (l:Int) 0 ev bk ew)
def H9:=(At fun N b a x r0=>Oz (R:=R) N r0 (fun f l=>D7 N r0 f l a b N) b a x).1
theorem W2 (b a x r0):(@H9 R N b a x r0)=(Oz N r0 (fun f l=>D7 N r0 f l a b N) b a x):=by rw[H9,(At _).2]
def Zv:Hints:={ H:=(hK 6 (hS (hK 1 (hS (hP [0,3,32,33,34] hL) hL)) (hS (hK 1 (hS (hP [0,3,58,59,60] hL) hL)) (hS (hK 1 (hS (hP [0,3,70,71,72] hL) hL)) (hS (hK 1 (hS (hP [0,3,82,83,84] hL) hL)) (hS (hK 1 (hS (hP [0,3,133,134,135] hL) hL)) (hK 1 (hS (hP [0,3,171,172,173] hL) hL)))))))) }
def N7:=Ac8 (XA N) (Dh N) (Eq.refl 89)
def BN:EZ:=[N7 N,K8 N,Qf N,M3 N,XB N,XC N,Vs N,RB N]
def Fu (F:KF R):=Tj Tryz.f44 Zv (BN N) [100000] N F
def RC (h:LA) (m:Nat) (a:Bool) (b:LA) (K:St→O R):=fun ab u ac ad ae=>K ⟨[(0,(.optr 100000 0)),(3,(op 0)),(171,(.imm h m 4 false a)),(172,(iv ab)),(173,(iv u))],[(100000,(bN 0 [(.own 300001 0 ac),(.bool ad)])),(300000,(bP a 0 b)),(300001,⟨false,false,true,false,1,ae,false,(some (5,0))⟩)]⟩
def RD (d:LA) (o:Nat) (a:Bool) (b:LA) (K:St→O R):=fun af s ag y ah=>K ⟨[(0,(.optr 100000 0)),(3,(op 0)),(133,(.imm d o 5 false a)),(134,(iv af)),(135,(iv s))],[(100000,(bN 0 [(.own 300001 0 ag),(.bool y)])),(300000,(bP a 0 b)),(300001,⟨false,false,true,false,1,ah,false,(some (5,0))⟩)]⟩
def RE (c:LA) (p:Nat) (a:Bool) (b:LA) (K:St→O R):=fun ai g aj z ak=>K ⟨[(0,(.optr 100000 0)),(3,(op 0)),(82,(.imm c p 9 false a)),(83,(iv ai)),(84,(iv g))],[(100000,(bN 0 [(.own 300001 0 aj),(.bool z)])),(300000,(bP a 0 b)),(300001,⟨false,false,true,false,1,ak,false,(some (5,0))⟩)]⟩
def RF (i:LA) (q:Nat) (a:Bool) (b:LA) (K:St→O R):=fun al v am an ao=>K ⟨[(0,(.optr 100000 0)),(3,(op 0)),(70,(.imm i q 22 false a)),(71,(iv al)),(72,(iv v))],[(100000,(bN 0 [(.own 300001 0 am),(.bool an)])),(300000,(bP a 0 b)),(300001,⟨false,false,true,false,1,ao,false,(some (5,0))⟩)]⟩
def RG (j:LA) (r:Nat) (a:Bool) (b:LA) (K:St→O R):=fun ap w aq ar au=>K ⟨[(0,(.optr 100000 0)),(3,(op 0)),(58,(.imm j r 12 false a)),(59,(iv ap)),(60,(iv w))],[(100000,(bN 0 [(.own 300001 0 aq),(.bool ar)])),(300000,(bP a 0 b)),(300001,⟨false,false,true,false,1,au,false,(some (5,0))⟩)]⟩
def RH (f:LA) (l:Nat) (a:Bool) (b:LA) (K:St→O R):=fun av t aw aa ax=>K ⟨[(0,(.optr 100000 0)),(3,(op 0)),(32,(.imm f l 3 false a)),(33,(iv av)),(34,(iv t))],[(100000,(bN 0 [(.own 300001 0 aw),(.bool aa)])),(300000,(bP a 0 b)),(300001,⟨false,false,true,false,1,ax,false,(some (5,0))⟩)]⟩
theorem IY (F:KF R) (h m a b):∀ n,RC h m a b (Ao (Fu N F (pz 89478484) []) n)=(Fp N (Pp F) h m a b n):=Ev fun n e=>(Ee (Jt N (Pp F) h m a b) e:_)
theorem IZ (F:KF R) (d o a b):∀ n,RD d o a b (Ao (Fu N F (pz 89478468) []) n)=(Fq N (Pp F) d o a b n):=Ev fun n e=>(Sq (Ju N (Pp F) d o a b) e (Yo fun h m=>(lW ..).trans (IY ..)):_)
theorem I_ (F:KF R) (c p a b):∀ n,RE c p a b (Ao (Fu N F (pz 22369604) []) n)=(Fr N (Pp F) c p a b n):=Ev fun n e=>(Sq (Jv N (Pp F) c p a b) e (Yo fun d o=>(lW ..).trans (IZ ..)):_)
theorem JA (F:KF R) (i q a b):∀ n,RF i q a b (Ao (Fu N F (pz 5592388) []) n)=(Fs N (Pp F) i q a b n):=Ev fun n e=>(Sq (Jw N (Pp F) i q a b) e (Yo fun c p=>(lW ..).trans (I_ ..)):_)
theorem JB (F:KF R) (j r a b):∀ n,RG j r a b (Ao (Fu N F (pz 1398084) []) n)=(Ft N (Pp F) j r a b n):=Ev fun n e=>(Sq (Jx N (Pp F) j r a b) e (Yo fun i q=>(lW ..).trans (JA ..)):_)
theorem JC (F:KF R) (f l a b):∀ n,RH f l a b (Ao (Fu N F (pz 349508) []) n)=(D7 N (Pp F) f l a b n):=Ev fun n e=>(Sq (Jy N (Pp F) f l a b) e (Yo fun j r=>(lW ..).trans (JB ..)):_)
def TZ:=Jl N 44 (BN N) Zv (fun
 | [(.optr 100000 0),(.pagg b a)],[(100000,⟨false,false,false,false,0,[.nsl,(.bool x)],false,none⟩)]=>some fun _ k=>H9 N b a x (Pp k)
 | _,_=>none) fun _ _=>by split;intro R F;exact(Ee (Oz N (Pp F) · _ _ _) (Yo fun f l=>(lW ..).trans (JC ..)):_).trans (W2 ..).symm;trivial
def Ut (r0:Lu→Int→O R) (c:LA) (d:Nat) (b:Bool) (a:LA) (k1:Int→Int→O R) (g f:Int):O R :=
 (cond (decide (f<g)) (cond (Aj f d) (cond (ble 4 ((c.drop ((f.toNat)*4)).length)) (cond ((beq 0 0)&&((beq (((c.drop ((f.toNat)*4)).take 4).length) 4)&&(beq 4 4))) (qS (((c.drop ((f.toNat)*4)).take 4).drop 2) fun l=>cond ((!l)==true) (A6 3 (((c.drop ((f.toNat)*4)).take 4).drop 3) fun v m=>cond (cond true (decide ((m:Int)>0)) false) (r0 ([]:Lu) 16) (k1 g (wrap .i64 (f+1)))) (k1 g (wrap .i64 (f+1)))) none) none) none) (cond (ble 8 (a.length)) (H9 N (a.take 8) b false fun h o p=>cond o (r0 ([]:Lu) 3) (cond (decide ((h:Int)>1048576)) (r0 ([]:Lu) 8) (Option.bind (T6 (p.take (h*1))) fun q=>r0 q 0))) none))
def O0 (r0:Lu→Int→O R) (c:LA) (d:Nat) (b:Bool) (a:LA):Nat→Int→Int→O R
 | 0,_,_=>none
 | n+1,g,f=>Ut N r0 c d b a (O0 r0 c d b a n) g f
def CQ (r0:Lu→Int→O R) (b:Bool) (a:LA) (q1:LA→Nat→Int→Int→O R):O R :=
 (cond (ble 8 (a.length)) (EJ N (a.take 8) b fun r=>cond (!r) (r0 ([]:Lu) 4) (cond (ble 8 (a.length)) (LH N (a.take 8) b fun i=>cond (i != 0) (r0 ([]:Lu) i) (cond (ble 8 (a.length)) (LI N (a.take 8) b fun s=>cond (!s) (r0 ([]:Lu) 12) (A6 4 (a.drop 7) fun c d=>q1 c d (d:Int) 0)) none)) none)) none)
def Yc (r0:Lu→Int→O R) (b:Bool) (a:LA):O R:=(CQ N r0 b a fun c d=>O0 N r0 c d b a N)
def GY (r0:Lu→Int→O R) (q0:O R) (a:LA) (b:Bool):O R :=
 (cond (ble 8 (a.length)) (EI N (a.take 8) b fun j=>cond (j != 0) (r0 ([]:Lu) j) (Av .i64 a fun t=>cond ((decide (t<1))==false) (Av .i64 a fun u=>cond (cond false true (decide (u>24))) (r0 ([]:Lu) 3) q0) (r0 ([]:Lu) 3))) none)
def T0:=(At fun N a b r0=>GY (R:=R) N r0 (Yc N r0 b a) a b).1
theorem PL (a b r0):(@T0 R N a b r0)=(GY N r0 (Yc N r0 b a) a b):=by rw[T0,(At _).2]
def T_:Hints:={ H:=(hK 2 (hJ [1] hL (hK 3 (hS (hK 1 (hS (hP [1,34,35,36] hL) hL)) hL)))) }
def ZV:EZ:=[oi N,om N,rQ N,rR N,TZ N]
def T' (F:KF R):=Tj Tryz.f17 T_ (ZV N) [] N F
def mI (c:LA) (d:Nat) (b:Bool) (a:LA) (K:St→O R):=fun g f=>K ⟨[(1,(op 0)),(34,(.imm c d 4 false b)),(35,(iv g)),(36,(iv f))],(hq [(bP b 0 a)])⟩
def mJ (b:Bool) (a:LA) (K:St→O R):=K ⟨[(1,(op 0))],(hq [(bP b 0 a)])⟩
theorem cM (F:KF R) (c d b a):∀ n,mI c d b a (Ao (T' N F (pz 349508) []) n)=(O0 N (Ss F) c d b a n):=Ev fun n e=>(Ee (Ut N (Ss F) c d b a) e:_)
theorem cN (F:KF R) (b a):mJ b a (D5 (T' N F (pz 85) []))=(Yc N (Ss F) b a):=(Ee (CQ N (Ss F) b a) (Yo fun c d=>(lW ..).trans (cM ..)):_)
def pM:=Jl N 17 (ZV N) T_ (fun
 | [(.pagg a b)],[]=>some fun _ k=>T0 N a b (Ss k)
 | _,_=>none) fun _ _=>by split;intro R F;exact(Ee (GY N (Ss F) · _ _) ((jW ..).trans (cN ..)):_).trans (PL ..).symm;trivial
def Sa (N:Nat) (r0:Bool→O R) (c:LA) (g:Nat) (b:Bool) (a:LA) (k1:Bool→Int→Int→O R) (m:Bool) (j h:Int):O R :=
 (cond (decide (h<j)) (cond (Aj h g) (cond (ble 5 ((c.drop ((h.toNat)*5)).length)) (cond ((beq 0 0)&&((beq (((c.drop ((h.toNat)*5)).take 5).length) 5)&&(beq 5 5))) (cond (m==true) (A6 1 (((c.drop ((h.toNat)*5)).take 5).drop 2) fun z p=>Av .i64 a fun q=>cond ((cond true ((p:Int)==q) false)==true) (A6 1 (((c.drop ((h.toNat)*5)).take 5).drop 3) fun aa r=>Av .i64 a fun s=>cond ((cond true ((r:Int)==s) false)==true) (A6 1 (((c.drop ((h.toNat)*5)).take 5).drop 4) fun ab t=>Av .i64 a fun u=>k1 (cond true ((t:Int)==u) false) j (wrap .i64 (h+1))) (k1 false j (wrap .i64 (h+1)))) (k1 false j (wrap .i64 (h+1)))) (k1 false j (wrap .i64 (h+1)))) none) none) none) (r0 m))
def Mk (r0:Bool→O R) (c:LA) (g:Nat) (b:Bool) (a:LA):Nat→Bool→Int→Int→O R
 | 0,_,_,_=>none
 | n+1,m,j,h=>Sa N r0 c g b a (Mk r0 c g b a n) m j h
def Sb (N:Nat) (r0:Bool→O R) (d:LA) (f:Nat) (b:Bool) (a:LA) (k0:Bool→Int→Int→O R) (q1:LA→Nat→Bool→Int→Int→O R) (o:Bool) (l i:Int):O R :=
 (cond (decide (i<l)) (cond (Aj i f) (cond (ble 3 ((d.drop ((i.toNat)*3)).length)) (cond ((beq 0 0)&&((beq (((d.drop ((i.toNat)*3)).take 3).length) 3)&&(beq 3 3))) (cond (o==true) (A6 1 (((d.drop ((i.toNat)*3)).take 3).drop 1) fun ac v=>Av .i64 a fun w=>k0 (cond true ((v:Int)==w) false) l (wrap .i64 (i+1))) (k0 false l (wrap .i64 (i+1)))) none) none) none) (A6 5 (a.drop 6) fun c g=>q1 c g o (g:Int) 0))
def Ja (r0:Bool→O R) (d:LA) (f:Nat) (b:Bool) (a:LA):Nat→Bool→Int→Int→O R
 | 0,_,_,_=>none
 | n+1,o,l,i=>Sb N r0 d f b a (Ja r0 d f b a n) (fun c g=>Mk N r0 c g b a N) o l i
def BO (N:Nat) (r0:Bool→O R) (q0:LA→Nat→Bool→Int→Int→O R) (a:LA) (b:Bool):O R :=
 (A6 1 (a.drop 1) fun ad x=>Av .i64 a fun y=>A6 3 (a.drop 2) fun d f=>q0 d f ((x:Int)==y) (f:Int) 0)
def Zw:=(At fun N a b r0=>BO (R:=R) N r0 (fun d f=>Ja N r0 d f b a N) a b).1
theorem LL (a b r0):(@Zw R N a b r0)=(BO N r0 (fun d f=>Ja N r0 d f b a N) a b):=by rw[Zw,(At _).2]
def PM:Hints:={ H:=(hK 2 (hS (hK 1 (hS (hP [1,3,15,16,17] hL) hL)) (hS (hK 1 (hS (hP [1,3,32,33,34] hL) hL)) hL))) }
def PN (F:KF R):=Tj Tryz.f47 PM [] [] N F
def ib (c:LA) (g:Nat) (b:Bool) (a:LA) (K:St→O R):=fun m j h=>K ⟨[(1,(op 0)),(3,(.bool m)),(32,(.imm c g 5 false b)),(33,(iv j)),(34,(iv h))],(hq [(bP b 0 a)])⟩
def ic (d:LA) (f:Nat) (b:Bool) (a:LA) (K:St→O R):=fun o l i=>K ⟨[(1,(op 0)),(3,(.bool o)),(15,(.imm d f 3 false b)),(16,(iv l)),(17,(iv i))],(hq [(bP b 0 a)])⟩
theorem XE (F:KF R) (c g b a):∀ n,ib c g b a (Ao (PN N F (pz 5444) []) n)=(Mk N (B8 F) c g b a n):=Ev fun n e=>(Ee (Sa N (B8 F) c g b a) e:_)
theorem XF (F:KF R) (d f b a):∀ n,ic d f b a (Ao (PN N F (pz 1348) []) n)=(Ja N (B8 F) d f b a n):=Ev fun n e=>(Sq (Sb N (B8 F) d f b a) e (Yo fun c g=>(lW ..).trans (XE ..)):_)
def mK:=Jl N 47 [] PM (fun
 | [(.pagg a b)],[]=>some fun _ k=>Zw N a b (B8 k)
 | _,_=>none) fun _ _=>by split;intro R F;exact(Ee (BO N (B8 F) · _ _) (Yo fun d f=>(lW ..).trans (XF ..)):_).trans (LL ..).symm;trivial
def Sc (N:Nat) (r0:Int→O R) (b:LA) (a:Nat) (d f:Bool) (c:Lu) (k0:Int→O R) (g:Int):O R :=
 (cond (decide (g<(a:Int))) (cond (Aj g a) (Hz (b.drop ((g.toNat)*1)) fun h=>cond (h==c) (r0 g) (k0 (wrap .i64 (g+1)))) none) (r0 (-1)))
def Kl (r0:Int→O R) (b:LA) (a:Nat) (d f:Bool) (c:Lu):Nat→Int→O R
 | 0,_=>none
 | n+1,g=>Sc N r0 b a d f c (Kl r0 b a d f c n) g
def NJ (N:Nat) (r0:Int→O R) (q0:Int→O R) (b:LA) (a:Nat) (d f:Bool) (c:Lu):O R :=
 (q0 0)
def UA:=(At fun N b a d f c r0=>NJ (R:=R) N r0 (Kl N r0 b a d f c N) b a d f c).1
theorem UB (b a d f c r0):(@UA R N b a d f c r0)=(NJ N r0 (Kl N r0 b a d f c N) b a d f c):=by rw[UA,(At _).2]
def ZW:Hints:={ H:=(hK 1 (hS (hK 1 (hS (hP [0,1,5] hL) hL)) hL)) }
def pN (F:KF R):=Tj Tryz.f49 ZW [] [] N F
def pO (b:LA) (a:Nat) (d f:Bool) (c:Lu) (K:St→O R):=fun g=>K ⟨[(0,(.imm b a 1 d f)),(1,(.str c)),(5,(iv g))],[]⟩
theorem gH (F:KF R) (b a d f c):∀ n,pO b a d f c (Ao (pN N F (pz 324) []) n)=(Kl N (D4 F) b a d f c n):=Ev fun n e=>(Ee (Sc N (D4 F) b a d f c) e:_)
def rU:=Jl N 49 [] ZW (fun
 | [(.imm b a 1 d f),(.str c)],[]=>some fun _ k=>UA N b a d f c (D4 k)
 | _,_=>none) fun _ _=>by split;intro R F;exact(Ee (NJ N (D4 F) · _ _ _ _ _) ((lW ..).trans (gH ..)):_).trans (UB ..).symm;trivial
def mL (N:Nat) (a b:Int) (r0:Bool→O R):O R :=
 (cond ((decide (a≥0))==true) (r0 (cond true (decide (a<b)) false)) (r0 false))
def Zx:=(At (@mL R)).1
theorem gI:@Zx R=@mL R:=(At _).2
def vj:=Jl N 97 [] O7 (fun
 | [(.int .i64 a),(.int .i64 b)],[]=>some fun _ k=>Zx N a b (B8 k)
 | _,_=>none) fun _ _=>by split;intro R F;dsimp only;rw[gI];kernel_rfl;trivial
end
end Gx
namespace Gx.Ct
open Go Go.Proofs Gx.Cf
structure OutI (o:OutD):Prop where
 l:o.lines.l.length≤1000000000
 m:(∀ m ∈ o.moves.l,Rh m.up∧Rh m.down)∧o.moves.l.length≤1000000000
structure BusI (b:BusD):Prop where
 d:(∀ z ∈ b.demand.l,Rh z)∧b.demand.l.length≤1000000000
 s:Rh b.shed
structure StoreI (s:StoreD):Prop where
 n:∀ z ∈ [s.capacity,s.initial,s.final,s.charge,s.discharge,s.eff.num,s.eff.den],Rh z
def pP (l:Sl Int):Prop:=(∀ z ∈ l.l,Rh z)∧l.l.length≤1000000000
structure TieI (t:TieD):Prop where
 i:pP t.imp
 e:pP t.exp
 p:pP t.price
structure CaseI (c:CaseD):Prop where
 h:Rh c.hours
 r:pP c.reserve
 b:∀ b ∈ c.buses.l,BusI b
 l:∀ l ∈ c.lines.l,LineI l
 u:∀ u ∈ c.units.l,UnitI u
 s:∀ s ∈ c.stores.l,StoreI s
 t:∀ t ∈ c.ties.l,TieI t
 o:∀ o ∈ c.outs.l,OutI o
structure Ready (c:CaseD):Prop where
 i:CaseI c
 n:∀ l ∈ B5 c,∀ s ∈ l,s.length≤16
 k:Mn c=true
 c:Ff c=true
theorem Bl {l:List A0} (h:∀ s ∈ l,s.length≤16) (i:Int):(Bb l i).length≤16:=by
 unfold Bb
 rw[Aee]
 cases d:l[i.toNat]? with
 | none=>exact Agw _
 | some s=>exact h s (Ag1 d)
section
variable {R:Type} {N:Nat}
theorem xb {α:Type} {e:α→LA} {sz:Nat} (j:∀ a,(e a).length=sz) {nm:α→A0} (d:∀ a (r:LA) (F:A0→O R),Hz (e a++r) F=F (nm a)) {l:List α} {i:Int} (h:Dg i l.length=true) {F:A0→O R}:Hz (drop ((Int.toNat i)*sz) (l.flatMap e)) F=F (Bb (l.map nm) i):=by
 unfold Dg at h
 simp only[Ad3,decide_eq_true_eq] at h
 have f:i.toNat<l.length:=by omega
 rw[Be j _ _ f,d]
 congr 1
 unfold Bb
 rw[Aee,Afv,Ad1 f];rfl
theorem xc {c:CaseD} {i:Int} (h:Dg i c.lines.l.length=true) {F:A0→O R}:Hz (drop ((Int.toNat i)*12) (c.lines.l.flatMap LineD.av)) F=F (Bb (Cl c) i):=xb Gi (fun _ _ _=>rfl) h
theorem xd {c:CaseD} {i:Int} (h:Dg i c.units.l.length=true) {F:A0→O R}:Hz (drop ((Int.toNat i)*22) (c.units.l.flatMap UnitD.av)) F=F (Bb (Bt c) i):=xb H7 (fun _ _ _=>rfl) h
theorem jn {c:CaseD} {o:OutD} {a b:Bool} {K:Nat→Bool→LA→O R} (hx:Bp) (hN:1000000000<N) (hI:OutI o) (hU:∀ s ∈ Bt c,s.length≤16) (d:∀ m ∈ o.moves.l,Dg m.unit c.units.l.length=true):∀ (m j fuel:Nat) (t:Lu) (bad:Bool),j+m=o.moves.l.length→m<fuel →
  Ep N K (o.moves.l.flatMap MoveD.av) o.moves.l.length a b c.av fuel (o.moves.l.length:Int) (j:Int) t.length bad (Ar t) =
   K (Wh (((o.moves.l.drop j).flatMap (Vl (Bt c))).foldl Cm t)).length (bad||(o.moves.l.drop j).any GL) (Ar (Wh (((o.moves.l.drop j).flatMap (Vl (Bt c))).foldl Cm t)))
 | 0,j,fuel+1,t,bad,k,_=>by
  rw[Ep];unfold In
  rw[F9 (by omega),cf,show o.moves.l.drop j=[] from A5 (by omega),Zt,Ae2,Afk];rfl
 | m+1,j,fuel+1,t,bad,k,n=>by
  rw[Ep];unfold In
  have h:j<o.moves.l.length:=by omega
  have q:=hI.m.2
  have f:=hI.m.1 _ (Ad9 h)
  have hq:=d _ (Ad9 h)
  have e:take 3 (drop (Int.toNat (j:Int)*3) (o.moves.l.flatMap MoveD.av))=[.int .i64 (o.moves.l[j]).unit,.int .i64 (o.moves.l[j]).up,.int .i64 (o.moves.l[j]).down]:=Br (e:=MoveD.av) (sz:=3) (fun _=>rfl) h
  rw[Fn h,ct,Ab h,ct,Cq (e:=MoveD.av) (sz:=3) (fun _=>rfl) h,ct,e,show(!a||Ax [AV.int .i64 (o.moves.l[j]).unit,.int .i64 (o.moves.l[j]).up,.int .i64 (o.moves.l[j]).down])=true by cases a<;>rfl,ct,Oy (by omega),A3 h]
  rw[show((beq ([AV.int .i64 (o.moves.l[j]).unit,.int .i64 (o.moves.l[j]).up,.int .i64 (o.moves.l[j]).down].length) 3)&&((ble 3 3)&&(!false)))=true from rfl,ct,Dd]
  show cond (Aj (o.moves.l[j]).unit c.units.l.length) _ none=_
  rw[Ld hq,ct,xd hq]
  refine Da (s:=Bb (Bt c) (o.moves.l[j]).unit) (by have:=Bl hU (o.moves.l[j]).unit;omega) ?_
  show Ac N [.int .i64 (o.moves.l[j]).up,.int .i64 (o.moves.l[j]).down] 2 false true _ _ _ _=_
  refine B0 (l:=[(o.moves.l[j]).up,(o.moves.l[j]).down]) rfl rfl hx (by simp[f.1,f.2]) (by simp) hN ?_
  refine(jn hx hN hI hU d m (j+1) fuel _ _ (by omega) (by omega)).trans ?_
  rw[Aen,Ae0,Aez]
  show K _ ((bad||GL o.moves.l[j])||_) _=K _ (bad||(GL o.moves.l[j]||_)) _
  rw[Ael bad];rfl
theorem jo {c:CaseD} {o:OutD} {a b bad:Bool} {K:Nat→Bool→LA→O R} (hx:Bp) (hN:1000000000<N) (hI:OutI o) (hL:∀ s ∈ Cl c,s.length≤16) (hU:∀ s ∈ Bt c,s.length≤16) (d:∀ l ∈ o.lines.l,Dg l c.lines.l.length=true) (e:∀ m ∈ o.moves.l,Dg m.unit c.units.l.length=true):∀ (m j fuel:Nat) (t:Lu),j+m=o.lines.l.length→m<fuel →
  Dj N K (Az o.lines.l) o.lines.l.length a bad b c.av o.av fuel (o.lines.l.length:Int) (j:Int) t.length (Ar t) =
   K (Wh ((((o.lines.l.drop j).map (Bb (Cl c))++(cond o.corr [Ii] []++o.moves.l.flatMap (Vl (Bt c)))).foldl Cm t))).length (bad||Gz o) (Ar (Wh ((((o.lines.l.drop j).map (Bb (Cl c))++(cond o.corr [Ii] []++o.moves.l.flatMap (Vl (Bt c)))).foldl Cm t))))
 | 0,j,fuel+1,t,f,_=>by
  rw[Dj];unfold Io
  rw[F9 (by omega),cf,show o.lines.l.drop j=[] from A5 (by omega)]
  have tail:∀ T:Lu,Js N K bad b c.av a o.av T.length (Ar T)=K (Wh ((o.moves.l.flatMap (Vl (Bt c))).foldl Cm T)).length (bad||Gz o) (Ar (Wh ((o.moves.l.flatMap (Vl (Bt c))).foldl Cm T))):=fun T=>by
   unfold Js N6
   show A6 3 (o.moves.av 3 MoveD.av::_) _=_
   rw[Bn]
   have:=jn (K:=K) (a:=a) (b:=b) hx hN hI hU e o.moves.l.length 0 N T bad (by omega) (by have:=hI.m.2;omega)
   rw[Aeg] at this
   exact this
  show cond o.corr _ _=_
  cases o.corr with
  | true =>
   rw[ct]
   refine Da (s:=Ii) (by decide) ?_
   exact(tail _).trans rfl
  | false=>exact(tail t).trans rfl
 | m+1,j,fuel+1,t,f,n=>by
  rw[Dj];unfold Io
  have h:j<o.lines.l.length:=by omega
  have k:=hI.l
  have hq:=d _ (Ad9 h)
  rw[Fn h,ct,Ab h,ct,Zg h,C1,Ld hq,ct,xc hq]
  refine Da (s:=Bb (Cl c) o.lines.l[j]) (by have:=Bl hL o.lines.l[j];omega) ?_
  rw[Oy (by omega)]
  refine(jo hx hN hI hL hU d e m (j+1) fuel _ (by omega) (by omega)).trans ?_
  rw[A3 h,Ad5];rfl
theorem vq {c:CaseD} {o:OutD} {g b bad:Bool} {t:Lu} {K:Nat→Bool→LA→O R} (hx:Bp) (hN:1000000000<N) (hI:OutI o) (hL:∀ s ∈ Cl c,s.length≤16) (hU:∀ s ∈ Bt c,s.length≤16) (d:∀ l ∈ o.lines.l,Dg l c.lines.l.length=true) (e:∀ m ∈ o.moves.l,Dg m.unit c.units.l.length=true) (f:o.name.length≤16) :
  Kd N c.av g o.av b t.length bad (Ar t) K=K (Wh ((Qp (Cl c) (Bt c) o).foldl Cm t)).length (bad||Gz o) (Ar (Wh ((Qp (Cl c) (Bt c) o).foldl Cm t))):=by
 rw[Vt];unfold M4
 show Bz N [.str Zh,.str o.name,.str Rx] 3 false true _ _ _ _=_
 refine EO (ws:=[Zh,o.name,Rx]) rfl rfl (EP (by simp[f,Zh,Rx])) (by simp) hN ?_
 show A6 1 (o.lines.av 1 Fh::_) _=_
 rw[Bn,A4]
 have:=jo (K:=K) (a:=b) (b:=g) (bad:=bad) hx hN hI hL hU d e o.lines.l.length 0 N ([Zh,o.name,Rx].foldl Cm t) (by omega) (by have:=hI.l;omega)
 rw[Aeg] at this
 refine this.trans ?_
 unfold Qp
 rw[Ae0 (l:=[Zh,o.name,Rx])]
end
end Gx.Ct
namespace Gx.Ct
open Go Go.Proofs Gx.Cf
theorem Ready.bn {c:CaseD} (h:Ready c):∀ s ∈ Bh c,s.length≤16:=h.n _ (by simp[B5])
theorem Ready.ln {c:CaseD} (h:Ready c):∀ s ∈ Cl c,s.length≤16:=h.n _ (by simp[B5])
theorem Ready.un {c:CaseD} (h:Ready c):∀ s ∈ Bt c,s.length≤16:=h.n _ (by simp[B5])
theorem Ready.sn {c:CaseD} (h:Ready c):∀ s ∈ Tr c,s.length≤16:=h.n _ (by simp[B5])
theorem Ready.tn {c:CaseD} (h:Ready c):∀ s ∈ WS c,s.length≤16:=h.n _ (by simp[B5])
theorem Ready.on {c:CaseD} (h:Ready c):∀ s ∈ WT c,s.length≤16:=h.n _ (by simp[B5])
theorem Ready.cnt {c:CaseD} (h:Ready c):c.buses.l.length≤32∧c.lines.l.length≤64∧c.units.l.length≤16∧c.stores.l.length≤8∧c.ties.l.length≤8∧c.outs.l.length≤64:=by
 have:=h.c
 unfold Ff at this
 simpa only[Ad3,decide_eq_true_eq] using this
theorem Ready.kn {c:CaseD} (h:Ready c):(∀ l ∈ c.lines.l,Dg l.fr c.buses.l.length=true∧Dg l.tl c.buses.l.length=true)∧(∀ u ∈ c.units.l,Dg u.bus c.buses.l.length=true)∧(∀ s ∈ c.stores.l,Dg s.bus c.buses.l.length=true)∧(∀ t ∈ c.ties.l,Dg t.bus c.buses.l.length=true)∧∀ o ∈ c.outs.l,(∀ l ∈ o.lines.l,Dg l c.lines.l.length=true)∧∀ m ∈ o.moves.l,Dg m.unit c.units.l.length=true:=by
 have d:=h.k
 unfold Mn at d
 simp only[Ad3,Ae3] at d
 exact⟨d.1,fun u e=>(d.2.1 u e).1,d.2.2.1,d.2.2.2.1,d.2.2.2.2⟩
theorem Q5 (t:Lu) (ws:List A0) (r:List (List A0)):Ho t (ws::r)=Ho (Wh (ws.foldl Cm t)) r:=rfl
section
variable {R:Type} {N:Nat} {c:CaseD} {a:Bool} {K:Nat→Bool→LA→O R}
theorem gJ (hx:Bp) (hN:1000000000<N) (h:Ready c):∀ (m j fuel:Nat) (t:Lu) (bad:Bool),j+m=c.outs.l.length→m<fuel →
  Fp N K (c.outs.l.flatMap OutD.av) c.outs.l.length a c.av fuel (c.outs.l.length:Int) (j:Int) t.length bad (Ar t) =
   K (Ho t ((c.outs.l.drop j).map (Qp (Cl c) (Bt c)))).length (bad||((c.outs.l.drop j).any Gz)) (Ar (Ho t ((c.outs.l.drop j).map (Qp (Cl c) (Bt c)))))
 | 0,j,fuel+1,t,bad,k,_=>by
  rw[Fp];unfold Jt
  have n:=h.cnt
  rw[F9 (by omega),cf,show c.outs.l.drop j=[] from A5 (by omega),Aem,Ae2]
  show K _ _ _=K _ (bad||false) _
  rw[Afk];rfl
 | m+1,j,fuel+1,t,bad,k,s=>by
  rw[Fp];unfold Jt
  have d:j<c.outs.l.length:=by omega
  have n:=h.cnt
  have f:(c.outs.l[j]) ∈ c.outs.l:=Ad9 d
  rw[Fn d,ct,Ab d,ct,Cq (e:=OutD.av) (sz:=4) (fun _=>rfl) d,ct,Br (e:=OutD.av) (sz:=4) (fun _=>rfl) d,show((beq 0 0)&&((beq ((OutD.av c.outs.l[j]).length) 4)&&(beq 4 4)))=true from rfl,ct]
  have q:=fun t bad=>gJ hx hN h m (j+1) fuel t bad (by omega) (by omega)
  rw[A3 d,Ad5,Aez,Q5]
  rw[Dx,ct,show ble 4 (OutD.av c.outs.l[j]).length=true from rfl,ct,Bx,show take 4 (OutD.av c.outs.l[j])=OutD.av c.outs.l[j] from rfl,vq hx hN (h.i.o _ f) h.ln h.un (h.kn.2.2.2.2 _ f).1 (h.kn.2.2.2.2 _ f).2 (h.on _ (Aef.2 ⟨_,f,rfl⟩)),Oy (by omega)]
  refine(q _ _).trans ?_
  rw[Ael]
theorem gK (hx:Bp) (hN:1000000000<N) (h:Ready c):∀ (m j fuel:Nat) (t:Lu) (bad:Bool),j+m=c.ties.l.length→m<fuel →
  Fq N K (c.ties.l.flatMap TieD.av) c.ties.l.length a c.av fuel (c.ties.l.length:Int) (j:Int) t.length bad (Ar t) =
   K (Ho t ((c.ties.l.drop j).map (Wf (Bh c))++(c.outs.l.map (Qp (Cl c) (Bt c))))).length (bad||((c.ties.l.drop j).any Ph||(c.outs.l.any Gz))) (Ar (Ho t ((c.ties.l.drop j).map (Wf (Bh c))++(c.outs.l.map (Qp (Cl c) (Bt c))))))
 | 0,j,fuel+1,t,bad,n,_=>by
  rw[Fq];unfold Ju
  have q:=h.cnt
  rw[F9 (by omega),cf,show c.ties.l.drop j=[] from A5 (by omega),Aem,Ae2]
  rw[Fb]
  refine(gJ (a:=a) hx hN h c.outs.l.length 0 N t bad (by omega) (by omega)).trans ?_
  rw[Aeg,Aew];rfl
 | m+1,j,fuel+1,t,bad,n,x=>by
  rw[Fq];unfold Ju
  have d:j<c.ties.l.length:=by omega
  have q:=h.cnt
  have f:(c.ties.l[j]) ∈ c.ties.l:=Ad9 d
  rw[Fn d,ct,Ab d,ct,Cq (e:=TieD.av) (sz:=5) (fun _=>rfl) d,ct,Br (e:=TieD.av) (sz:=5) (fun _=>rfl) d,show((beq 0 0)&&((beq ((TieD.av c.ties.l[j]).length) 5)&&(beq 5 5)))=true from rfl,ct]
  have u:=fun t bad=>gK hx hN h m (j+1) fuel t bad (by omega) (by omega)
  rw[A3 d,Ad5,Aez,Aeb,Q5]
  have hI:=h.i.t _ f
  have k:=h.kn.2.2.2.1 _ f
  have v:(c.ties.l[j]).name.length≤16:=h.tn _ (Aef.2 ⟨_,f,rfl⟩)
  have s1:=Bl h.bn (c.ties.l[j]).bus
  rw[show ∀ F:A0→O R,Hz (c.ties.l[j]).av F=F (c.ties.l[j]).name from fun _=>rfl,Bi]
  show cond (Aj (c.ties.l[j]).bus c.buses.l.length) _ none=_
  rw[Ld k,ct,PK k]
  refine EO (ws:=[o8,(c.ties.l[j]).name,Bb (Bh c) (c.ties.l[j]).bus,Rw]) rfl rfl (EP (by simp[v,s1,o8,Rw])) (by simp) hN ?_
  show A6 1 ((c.ties.l[j]).imp.av 1 Fh::_) _=_
  rw[Bn,A4]
  refine B0 rfl rfl hx hI.i.1 hI.i.2 hN ?_
  refine Da (s:=K') (by decide) ?_
  show A6 1 ((c.ties.l[j]).exp.av 1 Fh::_) _=_
  rw[Bn,A4]
  refine B0 rfl rfl hx hI.e.1 hI.e.2 hN ?_
  refine Da (s:=TI) (by decide) ?_
  show A6 1 ((c.ties.l[j]).price.av 1 Fh::_) _=_
  rw[Bn,A4]
  refine B0 rfl rfl hx hI.p.1 hI.p.2 hN ?_
  rw[Zt,Oy (by omega)]
  refine(u _ _).trans ?_
  have eW:Wf (Bh c) c.ties.l[j]=[o8,(c.ties.l[j]).name,Bb (Bh c) (c.ties.l[j]).bus,Rw]++((c.ties.l[j]).imp.l.map tx++(K'::((c.ties.l[j]).exp.l.map tx++(TI::(c.ties.l[j]).price.l.map tx)))):=rfl
  have eB:(((bad||Ap (c.ties.l[j]).imp.l)||Ap (c.ties.l[j]).exp.l)||Ap (c.ties.l[j]).price.l)=(bad||Ph c.ties.l[j]):=by unfold Ph;simp[Ael]
  rw[eB,eW]
  simp only[Ae0,Aeq,Afx,Ael]
theorem UC (hx:Bp) (hN:1000000000<N) (h:Ready c):∀ (m j fuel:Nat) (t:Lu) (bad:Bool),j+m=c.stores.l.length→m<fuel →
  Fr N K (c.stores.l.flatMap StoreD.av) c.stores.l.length a c.av fuel (c.stores.l.length:Int) (j:Int) t.length bad (Ar t) =
   K (Ho t ((c.stores.l.drop j).map (H3 (Bh c))++(c.ties.l.map (Wf (Bh c))++(c.outs.l.map (Qp (Cl c) (Bt c)))))).length (bad||((c.stores.l.drop j).any Ij||(c.ties.l.any Ph||(c.outs.l.any Gz)))) (Ar (Ho t ((c.stores.l.drop j).map (H3 (Bh c))++(c.ties.l.map (Wf (Bh c))++(c.outs.l.map (Qp (Cl c) (Bt c)))))))
 | 0,j,fuel+1,t,bad,q,_=>by
  rw[Fr];unfold Jv
  have u:=h.cnt
  rw[F9 (by omega),cf,show c.stores.l.drop j=[] from A5 (by omega),Aem,Ae2]
  rw[Gy]
  refine(gK (a:=a) hx hN h c.ties.l.length 0 N t bad (by omega) (by omega)).trans ?_
  rw[Aeg,Aew];rfl
 | m+1,j,fuel+1,t,bad,q,y=>by
  rw[Fr];unfold Jv
  have d:j<c.stores.l.length:=by omega
  have u:=h.cnt
  have f:(c.stores.l[j]) ∈ c.stores.l:=Ad9 d
  rw[Fn d,ct,Ab d,ct,Cq (e:=StoreD.av) (sz:=9) (fun _=>rfl) d,ct,Br (e:=StoreD.av) (sz:=9) (fun _=>rfl) d,show((beq 0 0)&&((beq ((StoreD.av c.stores.l[j]).length) 9)&&(beq 9 9)))=true from rfl,ct]
  have v:=fun t bad=>UC hx hN h m (j+1) fuel t bad (by omega) (by omega)
  rw[A3 d,Ad5,Aez,Aeb,Q5]
  have hn:=(h.i.s _ f).n
  simp only[Ad6,Aei,or_false,forall_eq_or_imp,forall_eq] at hn
  obtain⟨n1,n2,n3,n4,n5,n6,n7⟩:=hn
  have k:=h.kn.2.2.1 _ f
  have x:(c.stores.l[j]).name.length≤16:=h.sn _ (Aef.2 ⟨_,f,rfl⟩)
  have s1:=Bl h.bn (c.stores.l[j]).bus
  rw[show ∀ F:A0→O R,Hz (c.stores.l[j]).av F=F (c.stores.l[j]).name from fun _=>rfl,Bi]
  show cond (Aj (c.stores.l[j]).bus c.buses.l.length) _ none=_
  rw[Ld k,ct,PK k]
  refine EO (ws:=[dO,(c.stores.l[j]).name,Bb (Bh c) (c.stores.l[j]).bus,Np]) rfl rfl (EP (by simp[x,s1,dO,Np])) (by simp) hN ?_
  show Ac N [.int .i64 (c.stores.l[j]).capacity] 1 false true _ _ _ _=_
  refine B0 (l:=[(c.stores.l[j]).capacity]) rfl rfl hx (by simp[*]) (by simp) hN ?_
  refine Da (s:=dP) (by decide) ?_
  show Ac N [.int .i64 (c.stores.l[j]).initial,.int .i64 (c.stores.l[j]).final] 2 false true _ _ _ _=_
  refine B0 (l:=[(c.stores.l[j]).initial,(c.stores.l[j]).final]) rfl rfl hx (by simp[*]) (by simp) hN ?_
  refine Da (s:=lx) (by decide) ?_
  show Ac N [.int .i64 (c.stores.l[j]).charge,.int .i64 (c.stores.l[j]).discharge] 2 false true _ _ _ _=_
  refine B0 (l:=[(c.stores.l[j]).charge,(c.stores.l[j]).discharge]) rfl rfl hx (by simp[*]) (by simp) hN ?_
  refine Da (s:=Xn) (by decide) ?_
  show cond true (cond (!a||Ax [AV.int .i64 (c.stores.l[j]).eff.num,.int .i64 (c.stores.l[j]).eff.den]) (Bu N [.int .i64 (c.stores.l[j]).eff.num,.int .i64 (c.stores.l[j]).eff.den] false _ _ _ _) none) none=_
  rw[ct,show(!a||Ax [AV.int .i64 (c.stores.l[j]).eff.num,.int .i64 (c.stores.l[j]).eff.den])=true by cases a<;>rfl,ct,NH hx n6 n7,Zt,Oy (by omega)]
  refine(v _ _).trans ?_
  have eB:((((bad||Ap [(c.stores.l[j]).capacity])||Ap [(c.stores.l[j]).initial,(c.stores.l[j]).final])||Ap [(c.stores.l[j]).charge,(c.stores.l[j]).discharge])||Gh (c.stores.l[j]).eff)=(bad||Ij c.stores.l[j]):=by unfold Ij;simp[Ap,Ael]
  rw[eB]
  simp only[H3,Ae0,Aeq,Afx,Ad5,Aem,Ael]
theorem ZX (hx:Bp) (hN:1000000000<N) (h:Ready c):∀ (m j fuel:Nat) (t:Lu) (bad:Bool),j+m=c.units.l.length→m<fuel →
  Fs N K (c.units.l.flatMap UnitD.av) c.units.l.length a c.av fuel (c.units.l.length:Int) (j:Int) t.length bad (Ar t) =
   K (Ho t ((c.units.l.drop j).map (O9 (Bh c))++(c.stores.l.map (H3 (Bh c))++(c.ties.l.map (Wf (Bh c))++(c.outs.l.map (Qp (Cl c) (Bt c))))))).length (bad||((c.units.l.drop j).any M1||(c.stores.l.any Ij||(c.ties.l.any Ph||(c.outs.l.any Gz))))) (Ar (Ho t ((c.units.l.drop j).map (O9 (Bh c))++(c.stores.l.map (H3 (Bh c))++(c.ties.l.map (Wf (Bh c))++(c.outs.l.map (Qp (Cl c) (Bt c))))))))
 | 0,j,fuel+1,t,bad,k,_=>by
  rw[Fs];unfold Jw
  have n:=h.cnt
  rw[F9 (by omega),cf,show c.units.l.drop j=[] from A5 (by omega),Aem,Ae2]
  rw[Eb]
  refine(UC (a:=a) hx hN h c.stores.l.length 0 N t bad (by omega) (by omega)).trans ?_
  rw[Aeg,Aew];rfl
 | m+1,j,fuel+1,t,bad,k,s=>by
  rw[Fs];unfold Jw
  have d:j<c.units.l.length:=by omega
  have n:=h.cnt
  have f:(c.units.l[j]) ∈ c.units.l:=Ad9 d
  rw[Fn d,ct,Ab d,ct,Cq (e:=UnitD.av) (sz:=22) (fun _=>rfl) d,ct,Br (e:=UnitD.av) (sz:=22) (fun _=>rfl) d,show((beq 0 0)&&((beq ((UnitD.av c.units.l[j]).length) 22)&&(beq 22 22)))=true from rfl,ct]
  have q:=fun t bad=>ZX hx hN h m (j+1) fuel t bad (by omega) (by omega)
  rw[A3 d,Ad5,Aez,Aeb,Q5]
  rw[Dx,ct,show ble 22 (UnitD.av c.units.l[j]).length=true from rfl,ct,Bx,show take 22 (UnitD.av c.units.l[j])=UnitD.av c.units.l[j] from rfl,XD hx hN (h.i.u _ f) (h.kn.2.1 _ f) (h.un _ (Aef.2 ⟨_,f,rfl⟩)) (Bl h.bn _),Oy (by omega)]
  refine(q _ _).trans ?_
  simp only[Ael]
theorem ZY (hx:Bp) (hN:1000000000<N) (h:Ready c):∀ (m j fuel:Nat) (t:Lu) (bad:Bool),j+m=c.lines.l.length→m<fuel →
  Ft N K (c.lines.l.flatMap LineD.av) c.lines.l.length a c.av fuel (c.lines.l.length:Int) (j:Int) t.length bad (Ar t) =
   K (Ho t ((c.lines.l.drop j).map (Ry (Bh c))++(c.units.l.map (O9 (Bh c))++(c.stores.l.map (H3 (Bh c))++(c.ties.l.map (Wf (Bh c))++(c.outs.l.map (Qp (Cl c) (Bt c)))))))).length (bad||((c.lines.l.drop j).any Rz||(c.units.l.any M1||(c.stores.l.any Ij||(c.ties.l.any Ph||(c.outs.l.any Gz)))))) (Ar (Ho t ((c.lines.l.drop j).map (Ry (Bh c))++(c.units.l.map (O9 (Bh c))++(c.stores.l.map (H3 (Bh c))++(c.ties.l.map (Wf (Bh c))++(c.outs.l.map (Qp (Cl c) (Bt c)))))))))
 | 0,j,fuel+1,t,bad,k,_=>by
  rw[Ft];unfold Jx
  have n:=h.cnt
  rw[F9 (by omega),cf,show c.lines.l.drop j=[] from A5 (by omega),Aem,Ae2]
  rw[Dd]
  refine(ZX (a:=a) hx hN h c.units.l.length 0 N t bad (by omega) (by omega)).trans ?_
  rw[Aeg,Aew];rfl
 | m+1,j,fuel+1,t,bad,k,s=>by
  rw[Ft];unfold Jx
  have d:j<c.lines.l.length:=by omega
  have n:=h.cnt
  have f:(c.lines.l[j]) ∈ c.lines.l:=Ad9 d
  rw[Fn d,ct,Ab d,ct,Cq (e:=LineD.av) (sz:=12) (fun _=>rfl) d,ct,Br (e:=LineD.av) (sz:=12) (fun _=>rfl) d,show((beq 0 0)&&((beq ((LineD.av c.lines.l[j]).length) 12)&&(beq 12 12)))=true from rfl,ct]
  have q:=fun t bad=>ZY hx hN h m (j+1) fuel t bad (by omega) (by omega)
  rw[A3 d,Ad5,Aez,Aeb,Q5]
  rw[Dx,ct,show ble 12 (LineD.av c.lines.l[j]).length=true from rfl,ct,Bx,show take 12 (LineD.av c.lines.l[j])=LineD.av c.lines.l[j] from rfl,NI hx hN (h.i.l _ f) (h.kn.1 _ f).1 (h.kn.1 _ f).2 (h.ln _ (Aef.2 ⟨_,f,rfl⟩)) (Bl h.bn _) (Bl h.bn _),Oy (by omega)]
  refine(q _ _).trans ?_
  simp only[Ael]
theorem ZZ (hx:Bp) (hN:1000000000<N) (h:Ready c):∀ (m j fuel:Nat) (t:Lu) (bad:Bool),j+m=c.buses.l.length→m<fuel →
  D7 N K (c.buses.l.flatMap BusD.av) c.buses.l.length a c.av fuel (c.buses.l.length:Int) (j:Int) t.length bad (Ar t) =
   K (Ho t ((c.buses.l.drop j).map WU++(c.lines.l.map (Ry (Bh c))++(c.units.l.map (O9 (Bh c))++(c.stores.l.map (H3 (Bh c))++(c.ties.l.map (Wf (Bh c))++(c.outs.l.map (Qp (Cl c) (Bt c))))))))).length (bad||((c.buses.l.drop j).any LB||(c.lines.l.any Rz||(c.units.l.any M1||(c.stores.l.any Ij||(c.ties.l.any Ph||(c.outs.l.any Gz))))))) (Ar (Ho t ((c.buses.l.drop j).map WU++(c.lines.l.map (Ry (Bh c))++(c.units.l.map (O9 (Bh c))++(c.stores.l.map (H3 (Bh c))++(c.ties.l.map (Wf (Bh c))++(c.outs.l.map (Qp (Cl c) (Bt c))))))))))
 | 0,j,fuel+1,t,bad,n,_=>by
  rw[D7];unfold Jy
  have q:=h.cnt
  rw[F9 (by omega),cf,show c.buses.l.drop j=[] from A5 (by omega),Aem,Ae2]
  rw[C1]
  refine(ZY (a:=a) hx hN h c.lines.l.length 0 N t bad (by omega) (by omega)).trans ?_
  rw[Aeg,Aew];rfl
 | m+1,j,fuel+1,t,bad,n,x=>by
  rw[D7];unfold Jy
  have f:j<c.buses.l.length:=by omega
  have q:=h.cnt
  have k:(c.buses.l[j]) ∈ c.buses.l:=Ad9 f
  rw[Fn f,ct,Ab f,ct,Cq (e:=BusD.av) (sz:=3) (fun _=>rfl) f,ct,Br (e:=BusD.av) (sz:=3) (fun _=>rfl) f,show((beq 0 0)&&((beq ((BusD.av c.buses.l[j]).length) 3)&&(beq 3 3)))=true from rfl,ct]
  have u:=fun t bad=>ZZ hx hN h m (j+1) fuel t bad (by omega) (by omega)
  rw[A3 f,Ad5,Aez,Aeb,Q5]
  have hI:=h.i.b _ k
  have v:(c.buses.l[j]).name.length≤16:=h.bn _ (Aef.2 ⟨_,k,rfl⟩)
  show Bz N [.str o7,.str (c.buses.l[j]).name,.str Pu] 3 false true _ _ _ _=_
  refine EO (ws:=[o7,(c.buses.l[j]).name,Pu]) rfl rfl (EP (by simp[v,o7,Pu])) (by simp) hN ?_
  show A6 1 ((c.buses.l[j]).demand.av 1 Fh::_) _=_
  rw[Bn,A4]
  refine B0 rfl rfl hx hI.d.1 hI.d.2 hN ?_
  refine Da (s:=lq) (by decide) ?_
  show Ac N [.int .i64 (c.buses.l[j]).shed] 1 false true _ _ _ _=_
  refine B0 (l:=[(c.buses.l[j]).shed]) rfl rfl hx (by simp[hI.s]) (by simp) hN ?_
  rw[Zt,Oy (by omega)]
  refine(u _ _).trans ?_
  have eB:((bad||Ap (c.buses.l[j]).demand.l)||Ap [(c.buses.l[j]).shed])=(bad||LB c.buses.l[j]):=by unfold LB;simp[Ap,Ael]
  rw[eB]
  simp only[WU,Ae0,Aeq,Afx,Ad5,Aem,Ael]
theorem rV (hx:Bp) (hN:1000000000<N) (h:Ready c):H9 N c.av a false K=K (Ho [] (f6 c)).length (G0 c) (Ar (Ho [] (f6 c))):=by
 rw[W2];unfold Oz
 rw[Zn];unfold Wj
 have d:EC [] KZ=KZ:=rfl
 have e:=h.cnt
 show Av .i64 c.av _=_
 rw[Dc]
 refine B0 (t:=KZ) (l:=[c.hours]) rfl rfl hx (by simp[h.i.h]) (by simp) hN ?_
 refine Da (s:=Mh) (by decide) ?_
 rw[Tp]
 refine B0 rfl rfl hx h.i.r.1 h.i.r.2 hN ?_
 rw[Zt,Bi]
 refine(ZZ (a:=a) hx hN h c.buses.l.length 0 N _ _ (by omega) (by omega)).trans ?_
 rw[Aeg]
 have eB:((false||Ap [c.hours])||Ap c.reserve.l)=(Wg c.hours||Ap c.reserve.l):=by simp[Ap]
 have e1:Cm [] KZ=KZ:=by unfold Cm;rw[if_neg (by decide)];rfl
 have eW:Ho [] (f6 c)=Ho (Wh ((PH c).foldl Cm [])) (c.buses.l.map WU++(c.lines.l.map (Ry (Bh c))++(c.units.l.map (O9 (Bh c))++(c.stores.l.map (H3 (Bh c))++(c.ties.l.map (Wf (Bh c))++c.outs.l.map (Qp (Cl c) (Bt c))))))):=rfl
 rw[eB,eW]
 simp only[PH,Ae0,Aeq,Afx,Ad5,Aem,e1]
 unfold G0
 simp only[Ael]
end
end Gx.Ct
namespace Gx.Ct
open Go Go.Proofs Gx.Cf
def Re (c:CaseD) (o:OutD):Bool:=o.lines.l.all (fun l=>Dg l c.lines.l.length)&&o.moves.l.all (fun m=>Dg m.unit c.units.l.length)
section
variable {R:Type} {N:Nat} {c:CaseD} {b:Bool} {K:Bool→O R}
theorem Zy {i:Int} {n:Nat} {ok:Bool} {F:Bool→O R}:F7 N i (n:Int) ok F=F (ok&&Dg i n):=by
 rw[EL];unfold CP Dg
 cases ok with
 | false=>rfl
 | true =>
  show cond (decide (0≤i)==true) (F (decide (i<(n:Int)))) (F false)=_
  cases decide (0≤i)<;>rfl
theorem Z_ {o:OutD} {k4:Int→Int→Bool→O R} {C:LA} {D:Nat} {f ac:Int} (d:o.moves.l.length≤1000000000):∀ (m j fuel:Nat) (ok:Bool),j+m=o.moves.l.length→m<fuel →
  Q3 N k4 K C D b f (o.moves.l.flatMap MoveD.av) o.moves.l.length c.av fuel ac (o.moves.l.length:Int) (j:Int) ok=k4 f (wrap .i64 (ac+1)) (ok&&(o.moves.l.drop j).all fun m=>Dg m.unit c.units.l.length)
 | 0,j,fuel+1,ok,k,_=>by
  rw[Q3];unfold Xz
  rw[F9 (by omega),cf,A5 (by omega),Aeu,Afd]
 | m+1,j,fuel+1,ok,k,n=>by
  rw[Q3];unfold Xz
  have h:j<o.moves.l.length:=by omega
  have e:take 3 (drop (Int.toNat (j:Int)*3) (o.moves.l.flatMap MoveD.av))=[.int .i64 (o.moves.l[j]).unit,.int .i64 (o.moves.l[j]).up,.int .i64 (o.moves.l[j]).down]:=Br (e:=MoveD.av) (sz:=3) (fun _=>rfl) h
  rw[Fn h,ct,Ab h,ct,Cq (e:=MoveD.av) (sz:=3) (fun _=>rfl) h,ct,e,show(!b||Ax [AV.int .i64 (o.moves.l[j]).unit,.int .i64 (o.moves.l[j]).up,.int .i64 (o.moves.l[j]).down])=true by cases b<;>rfl,ct,Oy (by omega),A3 h,
   show((beq ([AV.int .i64 (o.moves.l[j]).unit,.int .i64 (o.moves.l[j]).up,.int .i64 (o.moves.l[j]).down].length) 3)&&((ble 3 3)&&(!false)))=true from rfl,ct]
  rw[show ∀ F:Int→O R,Av .i64 (setCells [(.int .i64 0),(.int .i64 0),(.int .i64 0)] 0 [AV.int .i64 (o.moves.l[j]).unit,.int .i64 (o.moves.l[j]).up,.int .i64 (o.moves.l[j]).down]) F=F (o.moves.l[j]).unit from fun _=>rfl,Dd,Zy]
  refine(Z_ d m (j+1) fuel _ (by omega) (by omega)).trans ?_
  rw[Aek,Aey]
theorem jq {o:OutD} {k4:Int→Int→Bool→O R} {C:LA} {D:Nat} {f ac:Int} (hN:1000000000<N) (d:o.moves.l.length≤1000000000) (e:o.lines.l.length≤1000000000):∀ (m j fuel:Nat) (ok:Bool),j+m=o.lines.l.length→m<fuel →
  N2 N k4 K C D b f (Az o.lines.l) o.lines.l.length c.av fuel ac (o.lines.l.length:Int) (j:Int) ok o.av=k4 f (wrap .i64 (ac+1)) (ok&&((o.lines.l.drop j).all (fun l=>Dg l c.lines.l.length)&&o.moves.l.all fun m=>Dg m.unit c.units.l.length))
 | 0,j,fuel+1,ok,k,_=>by
  rw[N2];unfold X0
  rw[F9 (by omega),cf,show o.lines.l.drop j=[] from A5 (by omega),Aeu]
  show A6 3 (o.moves.av 3 MoveD.av::_) _=_
  rw[Bn]
  refine(Z_ d o.moves.l.length 0 N ok (by omega) (by omega)).trans ?_
  rw[Aeg,Aex]
 | m+1,j,fuel+1,ok,k,n=>by
  rw[N2];unfold X0
  have h:j<o.lines.l.length:=by omega
  rw[Fn h,ct,Ab h,ct,Zg h,C1,Zy,Oy (by omega)]
  refine(jq hN d e m (j+1) fuel _ (by omega) (by omega)).trans ?_
  rw[A3 h,Aek]
  simp only[Aey]
theorem gL (hN:1000000000<N) (f:c.outs.l.length≤1000) (hI:∀ o ∈ c.outs.l,OutI o):∀ (m j fuel:Nat) (ok:Bool),j+m=c.outs.l.length→m<fuel →
  Il N K (c.outs.l.flatMap OutD.av) c.outs.l.length b c.av fuel (c.outs.l.length:Int) (j:Int) ok=K (ok&&(c.outs.l.drop j).all (Re c))
 | 0,j,fuel+1,ok,k,_=>by
  rw[Il];unfold X7
  rw[F9 (by omega),cf,A5 (by omega),Aeu,Afd]
 | m+1,j,fuel+1,ok,k,n=>by
  rw[Il];unfold X7
  have h:j<c.outs.l.length:=by omega
  have d:=hI _ (Ad9 h)
  rw[Fn h,ct,Ab h,ct,Cq (e:=OutD.av) (sz:=4) (fun _=>rfl) h,ct,Br (e:=OutD.av) (sz:=4) (fun _=>rfl) h,show((beq 0 0)&&((beq ((OutD.av c.outs.l[j]).length) 4)&&(beq 4 4)))=true from rfl,ct]
  show A6 1 ((c.outs.l[j]).lines.av 1 Fh::_) _=_
  rw[Bn,A4]
  refine(jq hN d.m.2 d.l (c.outs.l[j]).lines.l.length 0 N ok (by omega) (by have:=d.l;omega)).trans ?_
  rw[Oy (by omega),Aeg]
  refine(gL hN f hI m (j+1) fuel _ (by omega) (by omega)).trans ?_
  rw[A3 h,Aek]
  unfold Re
  simp only[Aey]
theorem gM (hN:1000000000<N) (d:c.ties.l.length≤1000) (hr:∀ (ok:Bool) (fuel:Nat),1000<fuel→Il N K (c.outs.l.flatMap OutD.av) c.outs.l.length b c.av fuel (c.outs.l.length:Int) 0 ok=K (ok&&c.outs.l.all (Re c))):∀ (m j fuel:Nat) (ok:Bool),j+m=c.ties.l.length→m<fuel →
  Ki N K (c.ties.l.flatMap TieD.av) c.ties.l.length b c.av fuel (c.ties.l.length:Int) (j:Int) ok=K (ok&&((c.ties.l.drop j).all (fun t=>Dg t.bus c.buses.l.length)&&c.outs.l.all (Re c)))
 | 0,j,fuel+1,ok,f,_=>by
  rw[Ki];unfold X8
  rw[F9 (by omega),cf,show c.ties.l.drop j=[] from A5 (by omega),Aeu,Fb,Aex]
  exact hr ok N (by omega)
 | m+1,j,fuel+1,ok,f,n=>by
  rw[Ki];unfold X8
  have h:j<c.ties.l.length:=by omega
  have k:=fun ok=>gM hN d hr m (j+1) fuel ok (by omega) (by omega)
  rw[Fn h,ct,Ab h,ct,Cq (e:=TieD.av) (sz:=5) (fun _=>rfl) h,ct,Br (e:=TieD.av) (sz:=5) (fun _=>rfl) h,show((beq 0 0)&&((beq ((TieD.av c.ties.l[j]).length) 5)&&(beq 5 5)))=true from rfl,ct,Oy (by omega),A3 h,Aek]
  rw[show ∀ F:Int→O R,Av .i64 (drop 1 (c.ties.l[j]).av) F=F (c.ties.l[j]).bus from fun _=>rfl,Bi,Zy]
  refine(k _).trans ?_
  simp only[Aey]
theorem UD (hN:1000000000<N) (d:c.stores.l.length≤1000) (hr:∀ (ok:Bool) (fuel:Nat),1000<fuel→Ki N K (c.ties.l.flatMap TieD.av) c.ties.l.length b c.av fuel (c.ties.l.length:Int) 0 ok=K (ok&&(c.ties.l.all (fun t=>Dg t.bus c.buses.l.length)&&c.outs.l.all (Re c)))):∀ (m j fuel:Nat) (ok:Bool),j+m=c.stores.l.length→m<fuel →
  Kj N K (c.stores.l.flatMap StoreD.av) c.stores.l.length b c.av fuel (c.stores.l.length:Int) (j:Int) ok=K (ok&&((c.stores.l.drop j).all (fun s=>Dg s.bus c.buses.l.length)&&(c.ties.l.all (fun t=>Dg t.bus c.buses.l.length)&&c.outs.l.all (Re c))))
 | 0,j,fuel+1,ok,f,_=>by
  rw[Kj];unfold X9
  rw[F9 (by omega),cf,show c.stores.l.drop j=[] from A5 (by omega),Aeu,Gy,Aex]
  exact hr ok N (by omega)
 | m+1,j,fuel+1,ok,f,n=>by
  rw[Kj];unfold X9
  have h:j<c.stores.l.length:=by omega
  have k:=fun ok=>UD hN d hr m (j+1) fuel ok (by omega) (by omega)
  rw[Fn h,ct,Ab h,ct,Cq (e:=StoreD.av) (sz:=9) (fun _=>rfl) h,ct,Br (e:=StoreD.av) (sz:=9) (fun _=>rfl) h,show((beq 0 0)&&((beq ((StoreD.av c.stores.l[j]).length) 9)&&(beq 9 9)))=true from rfl,ct,Oy (by omega),A3 h,Aek]
  rw[show ∀ F:Int→O R,Av .i64 (drop 1 (c.stores.l[j]).av) F=F (c.stores.l[j]).bus from fun _=>rfl,Bi,Zy]
  refine(k _).trans ?_
  simp only[Aey]
theorem Z' (hN:1000000000<N) (k:c.units.l.length≤1000) (hr:∀ (ok:Bool) (fuel:Nat),1000<fuel→Kj N K (c.stores.l.flatMap StoreD.av) c.stores.l.length b c.av fuel (c.stores.l.length:Int) 0 ok=K (ok&&(c.stores.l.all (fun s=>Dg s.bus c.buses.l.length)&&(c.ties.l.all (fun t=>Dg t.bus c.buses.l.length)&&c.outs.l.all (Re c))))):∀ (m j fuel:Nat) (ok:Bool),j+m=c.units.l.length→m<fuel →
  Kk N K (c.units.l.flatMap UnitD.av) c.units.l.length b c.av fuel (c.units.l.length:Int) (j:Int) ok=K (ok&&((c.units.l.drop j).all (fun u=>Dg u.bus c.buses.l.length&&Dg u.state 3)&&(c.stores.l.all (fun s=>Dg s.bus c.buses.l.length)&&(c.ties.l.all (fun t=>Dg t.bus c.buses.l.length)&&c.outs.l.all (Re c)))))
 | 0,j,fuel+1,ok,n,_=>by
  rw[Kk];unfold Ya
  rw[F9 (by omega),cf,show c.units.l.drop j=[] from A5 (by omega),Aeu,Eb,Aex]
  exact hr ok N (by omega)
 | m+1,j,fuel+1,ok,n,q=>by
  rw[Kk];unfold Ya
  have h:j<c.units.l.length:=by omega
  have d:=fun ok=>Z' hN k hr m (j+1) fuel ok (by omega) (by omega)
  rw[Fn h,ct,Ab h,ct,Cq (e:=UnitD.av) (sz:=22) (fun _=>rfl) h,ct,Br (e:=UnitD.av) (sz:=22) (fun _=>rfl) h,show((beq 0 0)&&((beq ((UnitD.av c.units.l[j]).length) 22)&&(beq 22 22)))=true from rfl,ct,Oy (by omega),A3 h,Aek]
  have rs:∀ F:Int→O R,Av .i64 (drop 19 (c.units.l[j]).av) F=F (c.units.l[j]).state:=fun _=>rfl
  rw[show ∀ F:Int→O R,Av .i64 (drop 1 (c.units.l[j]).av) F=F (c.units.l[j]).bus from fun _=>rfl,Bi,Zy]
  cases hq:(ok&&Dg (c.units.l[j]).bus c.buses.l.length) with
  | false =>
   refine(d false).trans ?_
   rw[←Aey ok,←Aey ok,←Aey ok,hq];rfl
  | true =>
   rw[show((true:Bool)==true)=true from rfl,ct,rs]
   have key:∀ x:Bool,Dg (c.units.l[j]).state 3=x→K (x&&((c.units.l.drop (j+1)).all (fun u=>Dg u.bus c.buses.l.length&&Dg u.state 3)&&(c.stores.l.all (fun s=>Dg s.bus c.buses.l.length)&&(c.ties.l.all (fun t=>Dg t.bus c.buses.l.length)&&c.outs.l.all (Re c)))))=K (ok&&((Dg (c.units.l[j]).bus c.buses.l.length&&Dg (c.units.l[j]).state 3&&(c.units.l.drop (j+1)).all fun u=>Dg u.bus c.buses.l.length&&Dg u.state 3)&&(c.stores.l.all (fun s=>Dg s.bus c.buses.l.length)&&(c.ties.l.all (fun t=>Dg t.bus c.buses.l.length)&&c.outs.l.all (Re c))))):=fun x hx=>by
    simp only[Aey]
    rw[←Aey ok,hq,hx];rfl
   by_cases f:(c.units.l[j]).state=0
   ·rw[show((c.units.l[j]).state==0)=true by simp[f]]
    exact(d true).trans (key true (by rw[f];rfl))
   ·rw[show((c.units.l[j]).state==0)=false by simp[f],show((false:Bool)==false)=true from rfl,ct,rs]
    by_cases s1:(c.units.l[j]).state=1
    ·rw[show((c.units.l[j]).state==1)=true by simp[s1]]
     exact(d true).trans (key true (by rw[s1];rfl))
    ·rw[show((c.units.l[j]).state==1)=false by simp[s1]]
     show Av .i64 (drop 19 (c.units.l[j]).av) _=_
     rw[rs]
     refine(d ((c.units.l[j]).state==2)).trans (key _ ?_)
     unfold Dg
     by_cases s2:(c.units.l[j]).state=2
     ·rw[s2];rfl
     ·rw[show((c.units.l[j]).state==2)=false by simp[s2]]
      by_cases g:0≤(c.units.l[j]).state
      ·rw[decide_eq_true g,decide_eq_false (show ¬ (c.units.l[j]).state<((3:Nat):Int) by omega)];rfl
      ·rw[decide_eq_false g];rfl
theorem aA (hN:1000000000<N) (d:c.lines.l.length≤1000) (hr:∀ (ok:Bool) (fuel:Nat),1000<fuel→Kk N K (c.units.l.flatMap UnitD.av) c.units.l.length b c.av fuel (c.units.l.length:Int) 0 ok=K (ok&&(c.units.l.all (fun u=>Dg u.bus c.buses.l.length&&Dg u.state 3)&&(c.stores.l.all (fun s=>Dg s.bus c.buses.l.length)&&(c.ties.l.all (fun t=>Dg t.bus c.buses.l.length)&&c.outs.l.all (Re c)))))):∀ (m j fuel:Nat) (ok:Bool),j+m=c.lines.l.length→m<fuel →
  N3 N K (c.lines.l.flatMap LineD.av) c.lines.l.length b c.av fuel (c.lines.l.length:Int) (j:Int) ok=K (ok&&((c.lines.l.drop j).all (fun l=>Dg l.fr c.buses.l.length&&Dg l.tl c.buses.l.length)&&(c.units.l.all (fun u=>Dg u.bus c.buses.l.length&&Dg u.state 3)&&(c.stores.l.all (fun s=>Dg s.bus c.buses.l.length)&&(c.ties.l.all (fun t=>Dg t.bus c.buses.l.length)&&c.outs.l.all (Re c))))))
 | 0,j,fuel+1,ok,f,_=>by
  rw[N3];unfold Yb
  rw[F9 (by omega),cf,show c.lines.l.drop j=[] from A5 (by omega),Aeu,Dd,Aex]
  exact hr ok N (by omega)
 | m+1,j,fuel+1,ok,f,n=>by
  rw[N3];unfold Yb
  have h:j<c.lines.l.length:=by omega
  have k:=fun ok=>aA hN d hr m (j+1) fuel ok (by omega) (by omega)
  rw[Fn h,ct,Ab h,ct,Cq (e:=LineD.av) (sz:=12) (fun _=>rfl) h,ct,Br (e:=LineD.av) (sz:=12) (fun _=>rfl) h,show((beq 0 0)&&((beq ((LineD.av c.lines.l[j]).length) 12)&&(beq 12 12)))=true from rfl,ct,Oy (by omega),A3 h,Aek]
  rw[show ∀ F:Int→O R,Av .i64 (drop 1 (c.lines.l[j]).av) F=F (c.lines.l[j]).fr from fun _=>rfl,Bi,Zy,show ∀ F:Int→O R,Av .i64 (drop 2 (c.lines.l[j]).av) F=F (c.lines.l[j]).tl from fun _=>rfl,Bi,Zy]
  refine(k _).trans ?_
  simp only[Aey]
theorem rW (hN:1000000000<N) (d:Ff c=true) (hI:∀ o ∈ c.outs.l,OutI o):LI N c.av b K=K (Mn c):=by
 unfold Ff at d
 simp only[Ad3,decide_eq_true_eq] at d
 obtain⟨c1,n,q,v,x,y⟩:=d
 rw[TU];unfold NF
 rw[C1]
 have f:∀ (ok:Bool) (fuel:Nat),1000<fuel→Il N K (c.outs.l.flatMap OutD.av) c.outs.l.length b c.av fuel (c.outs.l.length:Int) 0 ok=K (ok&&c.outs.l.all (Re c)):=fun ok fuel e=>gL hN (by omega) hI c.outs.l.length 0 fuel ok (by omega) (by omega)
 have j:∀ (ok:Bool) (fuel:Nat),1000<fuel→Ki N K (c.ties.l.flatMap TieD.av) c.ties.l.length b c.av fuel (c.ties.l.length:Int) 0 ok=K (ok&&(c.ties.l.all (fun t=>Dg t.bus c.buses.l.length)&&c.outs.l.all (Re c))):=fun ok fuel e=>gM hN (by omega) f c.ties.l.length 0 fuel ok (by omega) (by omega)
 have k:∀ (ok:Bool) (fuel:Nat),1000<fuel→Kj N K (c.stores.l.flatMap StoreD.av) c.stores.l.length b c.av fuel (c.stores.l.length:Int) 0 ok=K (ok&&(c.stores.l.all (fun s=>Dg s.bus c.buses.l.length)&&(c.ties.l.all (fun t=>Dg t.bus c.buses.l.length)&&c.outs.l.all (Re c)))):=fun ok fuel e=>UD hN (by omega) j c.stores.l.length 0 fuel ok (by omega) (by omega)
 have m:∀ (ok:Bool) (fuel:Nat),1000<fuel→Kk N K (c.units.l.flatMap UnitD.av) c.units.l.length b c.av fuel (c.units.l.length:Int) 0 ok=K (ok&&(c.units.l.all (fun u=>Dg u.bus c.buses.l.length&&Dg u.state 3)&&(c.stores.l.all (fun s=>Dg s.bus c.buses.l.length)&&(c.ties.l.all (fun t=>Dg t.bus c.buses.l.length)&&c.outs.l.all (Re c))))):=fun ok fuel e=>Z' hN (by omega) k c.units.l.length 0 fuel ok (by omega) (by omega)
 exact aA hN (by omega) m c.lines.l.length 0 N true (by omega) (by omega)
end
end Gx.Ct
namespace Gx.Cf
open Go Go.Proofs
section
variable {R:Type}
theorem CS {p:I6} {f:Int→O R}:Av .i64 (drop 3 (C4 p)) f=f (H1 p):=by
 rcases p with _ | ⟨⟨a,b,d⟩,e,j⟩<;>simp[C4,vV,Cp,H1]
theorem Mp {N:Nat} {i:Int} {u:UnitD} {o:Bool} {p:I6} {K:LA→O R} (hs:u.segs.l.length<4611686018427387904):∀ (m j fuel:Nat) (a:Int),j+m=u.segs.l.length→m<fuel →
  C3 N K i (C4 p) o u.av fuel a (j:Int)=K (C4 (nd p (QZ a (u.segs.l.drop j)==wrap .i64 (u.max - u.min)) (3,i,4) e4))
 | 0,j,fuel+1,a,f,_=>by
  rw[C3];unfold F5
  simp only[LD,x_,xa,CS,Ad (show(4:Int)≠0 by decide)]
  rw[F9 (by omega),O8 (l:=u.segs.l) (by omega),QZ,FS]
  rcases p with _ | ⟨x,e,d⟩
  ·simp[H1]
  ·have:(e != 0)=true:=by simpa using d
   simp[H1,this,nd]
 | m+1,j,fuel+1,a,f,q=>by
  rw[C3];unfold F5
  have h:j<u.segs.l.length:=by omega
  simp only[LD,x_,xa,CS,Ad (show(4:Int)≠0 by decide),uF h,Ab h]
  rw[Fn h,Ez (by omega),Mp hs m (j+1) fuel _ (by omega) (by omega),Ka h,QZ,FS]
  rcases p with _ | ⟨x,e,d⟩
  ·simp[H1]
  ·have k:(e != 0)=true:=by simpa using d
   have n:(e==0)=false:=by simpa using d
   simp[H1,k,n,nd]
theorem S2 {N:Nat} {i:Int} {u:UnitD} {o:Bool} {K:LA→O R} (hs:Qo u.segs.l.length N):∀ (m j fuel:Nat) (p:I6),j+1+m=u.segs.l.length→m<fuel →
  Cb N K i o u.av fuel ((j+1:Nat):Int) (C4 p)=K (C4 (nd (nd p (Q_ (u.segs.l.drop j)) (3,i,4) yH) (QZ 0 u.segs.l==wrap .i64 (u.max - u.min)) (3,i,4) e4))
 | 0,j,fuel+1,p,d,_=>by
  rw[Cb];unfold Dw
  rw[LD,F9 (by omega),cf,Ka (l:=u.segs.l) (j:=j) (by omega),O8 (l:=u.segs.l) (j:=j+1) (by omega),f_,FS]
  have:=Mp (R:=R) (N:=N) (i:=i) (u:=u) (o:=o) (p:=p) (K:=K) hs.2 u.segs.l.length 0 N 0 (by omega) hs.1
  simpa using this
 | m+1,j,fuel+1,p,d,f=>by
  rw[Cb];unfold Dw
  have h:j+1<u.segs.l.length:=by omega
  have h':j<u.segs.l.length:=by omega
  have e:=hs.2
  simp only[LD]
  rw[Fn h,ct,Ab h,ct,jm h,fV (by omega),Ab h',ct,jm h',Ez (by omega),Ad (by decide),S2 hs m (j+1) fuel _ (by omega) (by omega),Ka h',Ka h,GM,oV]
theorem S3 {N:Nat} {i:Int} {u:UnitD} {o:Bool} {K:LA→O R} (hN:8≤N) (hs:Qo u.segs.l.length N):∀ (m j fuel:Nat) (p:I6),j+m=u.segs.l.length→m<fuel →
  Cc N K i (u.segs.l.flatMap SegD.av) u.segs.l.length o u.av fuel (u.segs.l.length:Int) (j:Int) (C4 p) =
   K (C4 (nd (nd (nd p ((u.segs.l.drop j).all ZP) (3,i,4) e3) (Q_ u.segs.l) (3,i,4) yH) (QZ 0 u.segs.l==wrap .i64 (u.max - u.min)) (3,i,4) e4))
 | 0,j,fuel+1,p,e,_=>by
  rw[Cc];unfold F6
  rw[F9 (by omega),cf,O8 (l:=u.segs.l) (by omega),Aeu,FS]
  rcases d:u.segs.l with _ | ⟨b,r⟩
  ·rw[od,FS]
   have l2:=Mp (R:=R) (N:=N) (i:=i) (u:=u) (o:=o) (p:=p) (K:=K) hs.2 u.segs.l.length 0 N 0 (by omega) hs.1
   rcases N with _ | N
   ·omega
   ·rw[Cb];unfold Dw
    rw[LD,d]
    simp only[Ady,Af9]
    rw[show decide ((1:Int)<0)=false by decide,cf]
    rw[d] at l2
    simpa using l2
  ·have:=S2 (R:=R) (N:=N) (i:=i) (u:=u) (o:=o) (K:=K) hs r.length 0 N p (by rw[d];simp;omega) (by have:=hs.1;rw[d] at this;simp at this;omega)
   rw[d] at this
   simpa using this
 | m+1,j,fuel+1,p,e,q=>by
  rw[Cc];unfold F6
  have h:j<u.segs.l.length:=by omega
  have f:=hs.2
  rw[Fn h,ct,Ab h,ct,Ad2,Be Zj _ _ h,Ka h,Aek,Ez (by omega)]
  have k:ble 2 (List.length (u.segs.l[j].av++List.flatMap SegD.av (drop (j+1) u.segs.l)))=true:=by rw[Ew,Adw,Zj];simp
  have n:take 2 (u.segs.l[j].av++List.flatMap SegD.av (drop (j+1) u.segs.l))=u.segs.l[j].av:=Afs (Zj _)
  rw[k,ct,n,Zj]
  simp only[SegD.av,setCells,Gt,Afr,Aej,Ah2,Afm,Aeg,Agd,Adx,Ady,Cp,Ew,lY,Ax,Nat.reduceAdd,decide_true,Afd,Agf,Af1,cond_true,Aec,Ad4,Dz hN,Ad (show(3:Int)≠0 by decide),S3 hN hs m (j+1) fuel _ (show j+1+m=_ by omega) (show m<fuel by omega)]
  unfold ZP
  rw[oV,oV]
  cases Fa 1 1048576 u.segs.l[j].width<;>rfl
theorem AO {N:Nat} {p:I6} {j:Nat} {u:UnitD} {o:Bool} {K:LA→O R} (hN:8≤N) (hs:Qo u.segs.l.length N) :
  Ea N u.av o (j:Int) (C4 p) K=K (C4 (vh u j p)):=by
 rw[Pq];unfold Hw
 simp only[LD,Ad (show(8:Int)≠0 by decide)]
 have:=S3 (R:=R) (N:=N) (i:=j) (u:=u) (o:=o) (K:=K) hN hs u.segs.l.length 0 N (nd p (decide ((u.segs.l.length:Int)≤8)) (3,j,4) e8) (by omega) hs.1
 simpa[vh] using this
theorem Vu {N:Nat} {i:Int} {l:List MoveD} {o:Bool} {K:LA→O R} (hN:8≤N) (hs:l.length<4611686018427387904):∀ (m j fuel:Nat) (p:I6),j+m=l.length→m<fuel →
  Dp N K i (l.flatMap MoveD.av) l.length o fuel (l.length:Int) (j:Int) (C4 p)=K (C4 (nd p ((l.drop j).all rM) (6,i,3) e3))
 | 0,j,fuel+1,p,d,_=>by
  rw[Dp];unfold Gv
  rw[F9 (by omega),cf,O8 (by omega),Aeu,FS]
 | m+1,j,fuel+1,p,d,k=>by
  rw[Dp];unfold Gv
  have h:j<l.length:=by omega
  rw[Fn h,ct,Ab h,ct,Ad2,Be On _ _ h,Ka h,Aek,Ez (by omega)]
  have e:ble 3 (List.length (l[j].av++List.flatMap MoveD.av (drop (j+1) l)))=true:=by rw[Ew,Adw,On];simp
  have f:take 3 (l[j].av++List.flatMap MoveD.av (drop (j+1) l))=l[j].av:=Afs (On _)
  rw[e,ct,f,On]
  simp only[MoveD.av,setCells,Gt,Afr,Aej,Ah2,Afm,Aeg,Agd,Adx,Ady,Cp,Ew,lY,Ax,Nat.reduceAdd,decide_true,Afd,Agf,Af1,cond_true,Aec,Ad4,b8 hN,Ad (show(3:Int)≠0 by decide),Vu hN hs m (j+1) fuel _ (show j+1+m=_ by omega) (show m<fuel by omega)]
  rw[oV];rfl
theorem Vv {N:Nat} {c:CaseD} {i:Int} {u:OutD} {o:Bool} {p:I6} {K:LA→O R} (hN:8≤N) (d:c.units.l.length≤1000000) (hs:Qo u.moves.l.length N) (f:u.moves.l.length<8796093022208):∀ (m j fuel:Nat),j+m=u.moves.l.length→m<fuel →
  Dq N K i (u.moves.l.flatMap MoveD.av) u.moves.l.length o (C4 p) c.av u.av fuel j (u.moves.l.length:Int) (j:Int) (Az ((u.moves.l.take j).map (·.unit))) =
   K (C4 (nd (nd (nd p (u.moves.l.all (ww c)) (6,i,3) uE) (iJ (u.moves.l.map (·.unit))) (6,i,3) yH) (u.moves.l.all rM) (6,i,3) e3))
 | 0,j,fuel+1,k,_=>by
  rw[Dq];unfold Gw
  have n:j=u.moves.l.length:=by omega
  rw[F9 (by omega),cf,Aeh,Ad0 (by simp[Kh];omega),Ad0 (show u.moves.l.length≤j by omega)]
  rw[Dd,Hb (by simp;omega) (by simpa using hs),Ad (by decide),We (by simp;omega) (by simpa using hs),Ad (by decide),sk]
  have:=Vu (R:=R) (N:=N) (i:=i) (l:=u.moves.l) (o:=o) (K:=K) hN hs.2 u.moves.l.length 0 N (nd (nd p (u.moves.l.all (ww c)) (6,i,3) uE) (iJ (u.moves.l.map (·.unit))) (6,i,3) yH) (by omega) hs.1
  have e:(u.moves.l.map (·.unit)).all (Fa 0 (wrap .i64 ((c.units.l.length:Int) - 1)))=u.moves.l.all (ww c):=by
   rw[List.all_map];congr 1;funext m;exact rG _ _ (by omega)
  rw[e]
  simpa using this
 | m+1,j,fuel+1,k,x=>by
  rw[Dq];unfold Gw
  have h:j<u.moves.l.length:=by omega
  have q:ble 3 (List.length (u.moves.l[j].av++List.flatMap MoveD.av (drop (j+1) u.moves.l)))=true:=by rw[Ew,Adw,On];simp
  have s:take 3 (u.moves.l[j].av++List.flatMap MoveD.av (drop (j+1) u.moves.l))=u.moves.l[j].av:=Afs (On _)
  have t:(decide (j≤140737488355327)&&decide ((j+1)*8≤140737488355328))=true:=by simp;omega
  have v:take (j*1) (Az ((u.moves.l.take j).map (·.unit)))++[.int .i64 u.moves.l[j].unit]=Az ((u.moves.l.take (j+1)).map (·.unit)):=by
   rw[Ad0 (by simp[Kh];omega),Aeo h,Afy,←ZI];rfl
  rw[Fn h,ct,Ab h,ct,Ad2,Be On _ _ h,Ez (by omega),q,ct,s,On]
  simp only[MoveD.av,setCells,Gt,Afr,Aej,Ah2,Afm,Agd,Adx,Ady,Cp,Ew,lY,Ax,Nat.reduceAdd,Nat.reduceLeDiff,decide_true,Afd,Agf,Af1,cond_true,Aec,Ad4,t,v,Vv hN d hs f m (j+1) fuel (show j+1+m=_ by omega) (show m<fuel by omega)]
theorem LM {N:Nat} {c:CaseD} {p:I6} {o:Bool} {j:Nat} {K:LA→O R} (hs:Small c N) (h:j<c.ties.l.length) :
  Qa N c.av o (j:Int) (C4 p) K=K (C4 (wv c j c.ties.l[j] p)):=by
 have hN:=hs.n64
 have hN8:8≤N:=by omega
 have d:=hs.tie
 have t:=hs.top
 have f:c.ties.l[j] ∈ c.ties.l:=Ad9 h
 have u:=hs.tim _ f;have m:=hs.tex _ f;have q:=hs.tpr _ f
 have e:=@Dr R N c (c.ties.l.map (·.name)) o (k:=5) (n:=j) (hN:=hN) (hL:=fun K=>Zk hs) (hn:=by simpa using h) (hs:=⟨by have:=d.1;omega,by have:=d.2;omega⟩)
 have s:(c.ties.l.map (·.name))[j]'(by simpa using h)=c.ties.l[j].name:=by simp
 rw[s] at e
 rw[Wy];unfold To 
 rw[Gy,Ab h,ct,Ad2,Be Lz _ _ h]
 generalize c.ties.l[j]=b at *
 have v:ble 5 (List.length (b.av++List.flatMap TieD.av (drop (j+1) c.ties.l)))=true:=by rw[Ew,Adw,Lz];simp
 have x:take 5 (b.av++List.flatMap TieD.av (drop (j+1) c.ties.l))=b.av:=Afs (Lz b)
 rw[v,ct,x,Lz]
 simp only[Bx,e,TieD.av,Afm,Aeg,Cp,Bn,A4,Ew,lY,decide_true,Afd,cond_true]
 simp only[Ih hN8 (show c.buses.l.length<4611686018427387904 by omega),Ec rfl u,Ec rfl m,Ec rfl q]
 rfl
theorem GZ {N:Nat} {c:CaseD} {p:I6} {o:Bool} {j:Nat} {K:LA→O R} (hs:Small c N) (h:j<c.stores.l.length) :
  Mx N c.av o (j:Int) (C4 p) K=K (C4 (f9 c j c.stores.l[j] p)):=by
 have hN:=hs.n64
 have hN8:8≤N:=by omega
 have d:=hs.sto
 have m:=hs.top
 have t:c.stores.l[j] ∈ c.stores.l:=Ad9 h
 skip
 have e:=@Dr R N c (c.stores.l.map (·.name)) o (k:=4) (n:=j) (hN:=hN) (hL:=fun K=>R3 hs) (hn:=by simpa using h) (hs:=⟨by have:=d.1;omega,by have:=d.2;omega⟩)
 have f:(c.stores.l.map (·.name))[j]'(by simpa using h)=c.stores.l[j].name:=by simp
 rw[f] at e
 rw[Sv];unfold Qm 
 rw[Eb,Ab h,ct,Ad2,Be Ns _ _ h]
 generalize c.stores.l[j]=b at *
 have q:ble 9 (List.length (b.av++List.flatMap StoreD.av (drop (j+1) c.stores.l)))=true:=by rw[Ew,Adw,Ns];simp
 have s:take 9 (b.av++List.flatMap StoreD.av (drop (j+1) c.stores.l))=b.av:=Afs (Ns b)
 rw[q,ct,s,Ns]
 simp only[Bx,e,StoreD.av,Afm,Aeg,Ag7,Agd,Adx,Ady,Cp,Ew,lY,Ax,Nat.reduceAdd,decide_true,Afd,Agf,cond_true,Aec,Ad4]
 simp only[Ih hN8 (show c.buses.l.length<4611686018427387904 by omega),Dz hN8,Ad (show(3:Int)≠0 by decide),BC hN8]
 unfold f9;cases No b.eff<;>cases decide (b.eff.num>0)<;>rfl
theorem JD {N:Nat} {c:CaseD} {p:I6} {o:Bool} {j:Nat} {K:LA→O R} (hs:Small c N) (h:j<c.lines.l.length) :
  J7 N c.av o (j:Int) (C4 p) K=K (C4 (jl c j c.lines.l[j] p)):=by
 have hN:=hs.n64
 have hN8:8≤N:=by omega
 have d:=hs.lin
 have m:=hs.top
 have q:c.lines.l[j] ∈ c.lines.l:=Ad9 h
 have s:=hs.law _ q
 have e:=@Dr R N c (c.lines.l.map (·.name)) o (k:=2) (n:=j) (hN:=hN) (hL:=fun K=>Vn hs) (hn:=by simpa using h) (hs:=⟨by have:=d.1;omega,by have:=d.2;omega⟩)
 have f:(c.lines.l.map (·.name))[j]'(by simpa using h)=c.lines.l[j].name:=by simp
 rw[f] at e
 rw[Vi];unfold Mv Jo Nm Pe Nl Pd
 rw[C1,Ab h,ct,Ad2,Be Gi _ _ h]
 generalize c.lines.l[j]=b at *
 have t:ble 12 (List.length (b.av++List.flatMap LineD.av (drop (j+1) c.lines.l)))=true:=by rw[Ew,Adw,Gi];simp
 have u:take 12 (b.av++List.flatMap LineD.av (drop (j+1) c.lines.l))=b.av:=Afs (Gi b)
 rw[t,ct,u,Gi]
 simp only[Bx,e,LineD.av,Afm,Aeg,Ag7,Agd,Adx,Ady,Cp,Bn,A4,Ew,lY,Ax,Nat.reduceAdd,Nat.reduceLeDiff,decide_true,Afd,Agf,cond_true,Aec]
 simp only[Ih hN8 (show c.buses.l.length<4611686018427387904 by omega),Dz hN8,Ad (show(1:Int)≠0 by decide),Ad (show(3:Int)≠0 by decide),BC hN8,Sx rfl s]
 unfold jl;rw[show(b.fr != b.tl)=(b.tl != b.fr) by simp[bne,BEq.comm (a:=b.fr)]];cases No b.re<;>cases No b.smin<;>cases No b.smax<;>rfl
def sr (c:CaseD) (j:Nat) (u:UnitD) (p:I6):I6 :=
 let p:=TJ ((c.units.l.map (·.name)).take j) 3 j u.name p
 let p:=nd p (ZO c u.bus) (3,j,1) uE
 let p:=nd p (Fa 0 1048576 u.min) (3,j,2) e3
 let p:=nd p (Fa u.min 1048576 u.max) (3,j,3) e3
 let p:=vh u j p
 let p:=nd p (Fa 0 1048576 u.noLoad) (3,j,5) e3
 let p:=nd p (Fa 0 1048576 u.rampUp) (3,j,6) e3
 let p:=nd p (Fa 0 1048576 u.rampDown) (3,j,7) e3
 let p:=nd p (Fa u.min u.max u.startRamp) (3,j,8) e3
 let p:=nd p (Fa u.min u.max u.stopRamp) (3,j,9) e3
 let p:=nd p (Fa 0 24 u.upTime) (3,j,10) e3
 nd p (Fa 0 24 u.downTime) (3,j,11) e3
def vr (c:CaseD) (j:Nat) (u:UnitD) (p:I6):I6 :=
 let p:=nd p (Fa 0 24 u.startTime) (3,j,12) e3
 let p:=nd p (Fa 0 1048576 u.hotCost) (3,j,13) e3
 let p:=nd p (Fa 0 1048576 u.coldCost) (3,j,14) e3
 let p:=nd p (Fa 0 24 u.hotHours) (3,j,15) e3
 let p:=nd p (Fa 0 1048576 u.reserve) (3,j,16) e3
 let p:=nd p (Fa 0 1048576 u.reservePrice) (3,j,17) e3
 let p:=fW c.hours u.away.l (3,j,18) p
 let p:=nd p (Fa 0 2 u.state) (3,j,19) uE
 let p:=nd p (u.state != 1||decide (u.startTime>0)) (3,j,19) Aao
 let p:=nd p (Fa 1 48 u.hours) (3,j,20) e3
 let p:=nd p (u.state != 1||decide (u.hours≤u.startTime)) (3,j,20) e3
 cond (u.state==2) (nd p (Fa u.min u.max u.output) (3,j,21) e3) (nd p (u.output==0) (3,j,21) e3)
theorem yu (n:Int):Fa 0 0 n=(n==0):=by
 unfold Fa
 by_cases h:n=0
 ·simp[h]
 ·have:(n==0)=false:=by simpa using h
  rw[this];simp;omega
theorem wy {c:CaseD} {j:Nat} {u:UnitD} {p:I6}:vr c j u (sr c j u p)=oe c j u p:=by
 show _=(let p:=nd (sr c j u p) (Fa 0 24 u.startTime) (3,j,12) e3
  let p:=nd p (Fa 0 1048576 u.hotCost) (3,j,13) e3
  let p:=nd p (Fa 0 1048576 u.coldCost) (3,j,14) e3
  let p:=nd p (Fa 0 24 u.hotHours) (3,j,15) e3
  let p:=nd p (Fa 0 1048576 u.reserve) (3,j,16) e3
  let p:=nd p (Fa 0 1048576 u.reservePrice) (3,j,17) e3
  let p:=fW c.hours u.away.l (3,j,18) p
  let p:=nd p (Fa 0 2 u.state) (3,j,19) uE
  let p:=nd p (u.state != 1||u.startTime != 0) (3,j,19) Aao
  let p:=nd p (Fa 1 48 u.hours) (3,j,20) e3
  let p:=nd p (u.state != 1||decide (u.hours≤u.startTime)) (3,j,20) e3
  cond (u.state==2) (nd p (Fa u.min u.max u.output) (3,j,21) e3) (nd p (Fa 0 0 u.output) (3,j,21) e3))
 unfold vr
 rw[yu]
 cases hq:nd (sr c j u p) (Fa 0 24 u.startTime) (3,(j:Int),12) e3 with
 | some x=>simp only[wm,fW]
 | none =>
  have d:Fa 0 24 u.startTime=true:=by
   cases e:Fa 0 24 u.startTime with
   | true=>rfl
   | false =>
    rw[e] at hq
    cases f:sr c j u p<;>rw[f] at hq<;>simp[nd] at hq
  have:decide (u.startTime>0)=(u.startTime != 0):=by
   unfold Fa at d
   simp at d
   by_cases h:u.startTime=0
   ·simp[h]
   ·have k:(u.startTime != 0)=true:=by simpa using h
    rw[k];simp;omega
  rw[this]
theorem JE {N:Nat} {c:CaseD} {p:I6} {o:Bool} {j:Nat} {K:LA→O R} (hs:Small c N) (h:j<c.units.l.length) :
  J9 N c.av o (j:Int) (C4 p) K=K (C4 (oe c j c.units.l[j] p)):=by
 have hN:=hs.n64
 have hN8:8≤N:=by omega
 have d:=hs.uni
 have s:=hs.top
 have t:c.units.l[j] ∈ c.units.l:=Ad9 h
 have u:=hs.seg _ t;have f:=hs.uaw _ t
 have e:=@Dr R N c (c.units.l.map (·.name)) o (k:=3) (n:=j) (hN:=hN) (hL:=fun K=>Vo hs) (hn:=by simpa using h) (hs:=⟨by have:=d.1;omega,by have:=d.2;omega⟩)
 have m:(c.units.l.map (·.name))[j]'(by simpa using h)=c.units.l[j].name:=by simp
 rw[m] at e
 rw[Vj];unfold Mw Jp Nn Pg
 rw[Dd,Ab h,ct,Ad2,Be H7 _ _ h]
 generalize c.units.l[j]=b at *
 have v:ble 22 (List.length (b.av++List.flatMap UnitD.av (drop (j+1) c.units.l)))=true:=by rw[Ew,Adw,H7];simp
 have x:take 22 (b.av++List.flatMap UnitD.av (drop (j+1) c.units.l))=b.av:=Afs (H7 b)
 rw[v,ct,x,H7]
 have q:∀ (p:I6) (K:LA→O R),Ea N [.str b.name,.int .i64 b.bus,.int .i64 b.min,.int .i64 b.max,b.segs.av 2 SegD.av,.int .i64 b.noLoad,.int .i64 b.rampUp,.int .i64 b.rampDown,.int .i64 b.startRamp,.int .i64 b.stopRamp,.int .i64 b.upTime,.int .i64 b.downTime,.int .i64 b.startTime,.int .i64 b.hotCost,.int .i64 b.coldCost,.int .i64 b.hotHours,.int .i64 b.reserve,.int .i64 b.reservePrice,b.away.av 1 Fh,.int .i64 b.state,.int .i64 b.hours,.int .i64 b.output] o j (C4 p) K=K (C4 (vh b j p)):=fun p K=>AO hN8 u
 simp only[Bx,e,UnitD.av,Afm,Aeg,Ag7,Agd,Cp,Bn,A4,Ew,lY,decide_true,Afd,cond_true,cond_false,Ad4]
 simp only[Ih hN8 (show c.buses.l.length<4611686018427387904 by omega),Dz hN8,Ad (show(3:Int)≠0 by decide),Ad (show(12:Int)≠0 by decide),Ad (show(16:Int)≠0 by decide),q,Sx rfl f]
 rw[←wy]
 unfold vr
 by_cases s1:b.state=1
 ·simp[s1];rfl
 ·have a4:(b.state != 1)=true:=by simpa using s1
  rw[a4]
  cases b.state==2<;>rfl
theorem ER {N:Nat} {c:CaseD} {p:I6} {o:Bool} {j:Nat} {K:LA→O R} (hs:Small c N) (h:j<c.outs.l.length) :
  Hl N c.av o (j:Int) (C4 p) K=K (C4 (uG c j c.outs.l[j] p)):=by
 have hN:=hs.n64
 have hN8:8≤N:=by omega
 have d:=hs.out
 have e:=hs.top
 have q:c.outs.l[j] ∈ c.outs.l:=Ad9 h
 have v:=hs.oli _ q;have f:=hs.omo _ q;have s:=hs.omb _ q
 have m:=@Dr R N c (c.outs.l.map (·.name)) o (k:=6) (n:=j) (hN:=hN) (hL:=fun K=>Zl hs) (hn:=by simpa using h) (hs:=⟨by have:=d.1;omega,by have:=d.2;omega⟩)
 have t:(c.outs.l.map (·.name))[j]'(by simpa using h)=c.outs.l[j].name:=by simp
 rw[t] at m
 rw[Rt];unfold Jq Hx Kv
 rw[Fb,Ab h,ct,Ad2,Be Nt _ _ h]
 generalize c.outs.l[j]=b at *
 have x:ble 4 (List.length (b.av++List.flatMap OutD.av (drop (j+1) c.outs.l)))=true:=by rw[Ew,Adw,Nt];simp
 have y:take 4 (b.av++List.flatMap OutD.av (drop (j+1) c.outs.l))=b.av:=Afs (Nt b)
 rw[x,ct,y,Nt]
 have l1:=fun p=>Vv (R:=R) (N:=N) (c:=c) (i:=j) (u:=b) (o:=o) (p:=p) (K:=K) hN8 e.2.2.1 f s b.moves.l.length 0 N (by omega) f.1
 simp only[Agd,Aem,Af9,Az] at l1
 simp only[lY,decide_true,Afd,cond_true,Dx,Bx,m,wx,sk,yI,Dz hN8,Hb rfl v,We rfl v,C1,Ad (show(4:Int)≠0 by decide),Ad (show(8:Int)≠0 by decide),Ad (show(11:Int)≠0 by decide),Ad (show(12:Int)≠0 by decide),Ad (show(16:Int)≠0 by decide),l1]
 have a1:Fa 1 2 (b.lines.l.length:Int)=((b.lines.l.length:Int)==1||(b.lines.l.length:Int)==2):=by
  unfold Fa
  by_cases x1:b.lines.l.length=1
  ·simp[x1]
  ·by_cases x2:b.lines.l.length=2
   ·simp[x2]
   ·have y1:((b.lines.l.length:Int)==1)=false:=by simp;omega
    have y2:((b.lines.l.length:Int)==2)=false:=by simp;omega
    rw[y1,y2];simp;omega
 have a2:b.lines.l.all (Fa 0 (wrap .i64 ((c.lines.l.length:Int) - 1)))=b.lines.l.all fun n=>decide (0≤n)&&decide (n<(c.lines.l.length:Int)):=by
  congr 1;funext n;exact rG _ _ (by omega)
 rw[a1,a2]
 unfold uG rN
 cases b.corr
 ·simp
 ·simp
end
end Gx.Cf
namespace Gx.Cf
inductive Conn (es:List (Nat×Nat)):Nat→Nat→Prop
 | refl (a:Nat):Conn es a a
 | fwd {u v b:Nat}:(u,v) ∈ es→Conn es v b→Conn es u b
 | bwd {u v b:Nat}:(u,v) ∈ es→Conn es u b→Conn es v b
theorem Conn.trans {es:List (Nat×Nat)} {a b c:Nat} (j:Conn es a b) (d:Conn es b c):Conn es a c:=by
 induction j with
 | refl=>exact d
 | fwd e _ f=>exact .fwd e (f d)
 | bwd e _ f=>exact .bwd e (f d)
theorem Conn.symm {es:List (Nat×Nat)} {a b:Nat} (h:Conn es a b):Conn es b a:=by
 induction h with
 | refl=>exact .refl _
 | fwd d _ e=>exact e.trans (.bwd d (.refl _))
 | bwd d _ e=>exact e.trans (.fwd d (.refl _))
theorem Conn.mono {es fs:List (Nat×Nat)} (hs:∀ e ∈ es,e ∈ fs) {a b:Nat} (h:Conn es a b):Conn fs a b:=by
 induction h with
 | refl=>exact .refl _
 | fwd d _ f=>exact .fwd (hs _ d) f
 | bwd d _ f=>exact .bwd (hs _ d) f
def aB (es:List (Nat×Nat)) (b:Nat):Prop:=∀ a,a<b→¬ Conn es a b
open Classical in
noncomputable def Vw (n:Nat) (es:List (Nat×Nat)):Nat:=((List.range n).filter fun b=>decide (aB es b)).length
theorem rX {n:Nat} {es fs:List (Nat×Nat)} (h:∀ e ∈ es,e ∈ fs):Vw n fs≤Vw n es:=by
 unfold Vw
 have:∀ (l:List Nat),(l.filter fun b=>@decide (aB fs b) (Classical.propDecidable _)).length≤(l.filter fun b=>@decide (aB es b) (Classical.propDecidable _)).length:=by
  intro l
  induction l with
  | nil=>simp
  | cons a r d =>
   rw[Agi,Agi]
   by_cases x:aB fs a
   ·have:aB es a:=fun b f j=>x b f (j.mono h)
    simp[x,this,d]
   ·by_cases y:aB es a<;>simp[x,y]<;>omega
 exact this _
def Py (n:Nat):List Int:=(List.range n).map fun b:Nat=>(b:Int)
theorem jr {n a:Nat} (h:a<n):(Py n).getD a 0=(a:Int):=by
 rw[Aee,Py,Afv,List.getElem?_range h];rfl
structure LeastOk (n:Nat) (es:List (Nat×Nat)) (L:List Int):Prop where
 len:L.length=n
 low:∀ b,b<n→0≤L.getD b 0∧L.getD b 0≤b
 con:∀ b,b<n→Conn es (L.getD b 0).toNat b
def su (es:List (Nat×Nat)) (L:List Int):Prop:=∀ e ∈ es,L.getD e.1 0=L.getD e.2 0
def wz (L:List Int):Nat:=((List.range L.length).filter fun b=>L.getD b 0==(b:Int)).length
theorem aC {n:Nat} {es:List (Nat×Nat)} {L:List Int} (h:LeastOk n es L) (l:su es L) (m:∀ e ∈ es,e.1<n∧e.2<n):wz L=Vw n es:=by
 unfold wz Vw
 rw[h.len]
 congr 1
 apply List.filter_congr
 intro b f
 have f:b<n:=by simpa using f
 have conn_eq:∀ a b,Conn es a b→L.getD a 0=L.getD b 0:=by
  intro a b j
  induction j with
  | refl=>rfl
  | fwd d _ k=>exact(l _ d).trans k
  | bwd d _ k=>exact(l _ d).symm.trans k
 have q:=h.low b f
 by_cases x:L.getD b 0=(b:Int)
 ·have:aB es b:=fun a s j=>by
   have e:=conn_eq a b j
   have:=(h.low a (by omega)).2
   omega
  have x':(L.getD b 0==(b:Int))=true:=by simpa using x
  rw[x'];simp[this]
 ·have x':(L.getD b 0==(b:Int))=false:=by simpa using x
  have:¬ aB es b:=fun d=>d (L.getD b 0).toNat (by omega) (h.con b f)
  rw[x'];simp[this]
end Gx.Cf
namespace Gx.Cf
open Go Go.Proofs
section
variable {R:Type}
theorem G_ {l:List Int} {j:Nat} (h:j<l.length):l.getD j 0=l[j]:=by rw[Aee,Ad1 h];rfl
theorem js {x:Int} {n:Nat} (d:0≤x) (e:x.toNat<n):Aj x n=true:=by simp[Aj];omega
theorem vt {l:List Int} {x:Int} (h:x.toNat<l.length) {f:Int→O R}:Av .i64 (drop (0+((Int.toNat x)*1)) (Az l)) f=f (l.getD x.toNat 0):=by
 rw[Aec,Aeh,fG h,G_ h]
theorem UE (l:List Int) (j:Nat) (v:Int):List.set (Az l) j (.int .i64 v)=Az (l.set j v):=by simp[Az,List.map_set]
theorem mM {l:List Int} {x:Nat} (h:x<l.length):((beq 1 1)&&((ble ((0+(x*1))+1) (List.length (Az l)))&&(!false)))=true:=by
 rw[lY,Ew,Kh];simp;omega
def H4 (c:CaseD) (l:Int):Nat×Nat:=match c.lines.l[l.toNat]? with
 | some x=>(x.fr.toNat,x.tl.toNat)
 | none=>(0,0)
structure LnV (c:CaseD) (l:Int) (x:LineD):Prop where
 l0:0≤l
 lt:l.toNat<c.lines.l.length
 at':c.lines.l[l.toNat]?=some x
 f0:0≤x.fr
 f1:x.fr.toNat<c.buses.l.length
 t0:0≤x.tl
 t1:x.tl.toNat<c.buses.l.length
theorem sv {c:CaseD} {l:Int} {x:LineD} (h:LnV c l x):H4 c l=(x.fr.toNat,x.tl.toNat):=by unfold H4;rw[h.at']
theorem yv {c:CaseD} {l:Int} {x:LineD} (h:LnV c l x) {f:Int→O R}:Av .i64 (drop 1 (drop ((Int.toNat l)*12) (c.lines.l.flatMap LineD.av))) f=f x.fr:=by
 have e:c.lines.l[l.toNat]'h.lt=x:=by have:=h.at';rw[Ad1 h.lt] at this;simpa using this
 rw[Be Gi _ _ h.lt,e];simp[LineD.av,Cp]
theorem yw {c:CaseD} {l:Int} {x:LineD} (h:LnV c l x) {f:Int→O R}:Av .i64 (drop 2 (drop ((Int.toNat l)*12) (c.lines.l.flatMap LineD.av))) f=f x.tl:=by
 have e:c.lines.l[l.toNat]'h.lt=x:=by have:=h.at';rw[Ad1 h.lt] at this;simpa using this
 rw[Be Gi _ _ h.lt,e];simp[LineD.av,Cp]
theorem rY {L:List Int} {n j:Nat} (f:L.length=n) (h:j<n):((Py n).take j++L.drop j).set j (j:Int)=(Py n).take (j+1)++L.drop (j+1):=by
 have hi:(Py n).length=n:=by simp[Py]
 have e:(Py n)[j]'(by omega)=(j:Int):=by simp[Py]
 have d:j - ((Py n).take j).length=0:=by simp[hi];omega
 rw[List.set_append_right _ _ (by simp;omega),d,Aeo (by omega),Ka (l:=L) (by omega),e,List.set_cons_zero,Aea];rfl
def XG (h:Int):List LineD→Nat→List Int
 | [],_=>[]
 | x::r,j=>cond (x.away.l.contains h) (XG h r (j+1)) ((j:Int)::XG h r (j+1))
theorem LN (h:Int):∀ (l:List LineD) (j:Nat),(XG h l j).length≤l.length
 | [],_=>by simp[XG]
 | x::r,j=>by rw[XG];have:=LN h r (j+1);cases x.away.l.contains h<;>simp<;>omega
theorem pQ (h:Int):∀ (l:List LineD) (j:Nat) (a:Int),a ∈ XG h l j→(j:Int)≤a∧a<j+l.length
 | [],_,_,d=>by simp[XG] at d
 | x::r,j,a,d=>by
  rw[XG] at d
  have e:=pQ h r (j+1) a
  cases hx:x.away.l.contains h<;>rw[hx] at d<;>simp at d
  ·rcases d with rfl | d
   ·simp;omega
   ·have:=e d;simp at this ⊢;omega
  ·have:=e d;simp at this ⊢;omega
def A8 (c:CaseD) (h:Int):List Int:=XG h c.lines.l 0
theorem mN {A B:List Int} {n:Nat} (h:n=A.length):(take (n*1) (Az A))++Az B=Az (A++B):=by
 rw[Aeh,Ad0 (by simp[Kh,h]),ZI]
theorem LO {N:Nat} {c:CaseD} {h:Int} {o:Bool} {K:Nat→LA→O R} (hs:Small c N):∀ (m j fuel:Nat) (A:List Int),j+m=c.lines.l.length→m<fuel→A.length≤j →
  Fl N K h o c.av fuel A.length (j:Int) (Az A)=K (A++XG h (c.lines.l.drop j) j).length (Az (A++XG h (c.lines.l.drop j) j))
 | 0,j,fuel+1,A,q,_,_=>by
  rw[Fl];unfold My
  rw[C1,F9 (by omega),cf,O8 (l:=c.lines.l) (by omega),XG,Aej]
 | m+1,j,fuel+1,A,q,y,hA=>by
  rw[Fl];unfold My
  have d:j<c.lines.l.length:=by omega
  have n:=hs.top.2.1
  have s:c.lines.l[j] ∈ c.lines.l:=Ad9 d
  have t:=hs.law _ s
  simp only[C1]
  rw[Fn d,ct,Ab d,ct,Ad2,Be Gi _ _ d,Ka (l:=c.lines.l) d,XG]
  have e:=LO (N:=N) (c:=c) (h:=h) (o:=o) (K:=K) hs m (j+1) fuel (A++[(j:Int)]) (by omega) (by omega) (by simp;omega)
  have k:=LO (N:=N) (c:=c) (h:=h) (o:=o) (K:=K) hs m (j+1) fuel A (by omega) (by omega) (by omega)
  generalize c.lines.l[j]=b at *
  have u:(ble (A.length+1) 140737488355328&&ble ((A.length+1)*8) 140737488355328)=true:=by rw[Ew,Ew];simp;omega
  have v:∀ (r:LA) (f:LA→Nat→O R),A6 1 (drop 11 (b.av++r)) f=f (Az b.away.l) b.away.l.length:=fun r f=>by simp[LineD.av,Bn,A4]
  have x:take (A.length*1) (Az A)++[.int .i64 (j:Int)]=Az (A++[(j:Int)]):=mN (B:=[(j:Int)]) rfl
  rw[v,GG rfl t,u,ct,x,Ez (by omega)]
  cases b.away.l.contains h with
  | true=>simp only[Agm,cond_false,cond_true];exact k
  | false =>
   simp only[Af1,cond_true,cond_false]
   rw[Adw] at e
   simpa using e
theorem pR {N:Nat} {c:CaseD} {h:Int} {o:Bool} {K:Nat→LA→O R} (hs:Small c N):Pr N c.av o h K=K (A8 c h).length (Az (A8 c h)):=by
 rw[BA];unfold Ru
 have:=LO (R:=R) (N:=N) (c:=c) (h:=h) (o:=o) (K:=K) hs c.lines.l.length 0 N [] (by omega) hs.lin.1 (by simp)
 simpa[A8,Az] using this
def Bv (e:Nat×Nat):LA:=[.int .i64 (e.1:Int),.int .i64 (e.2:Int)]
theorem Sd (e:Nat×Nat):(Bv e).length=2:=rfl
theorem NK (es:List (Nat×Nat)):(es.flatMap Bv).length=es.length*2:=by
 induction es with
 | nil=>rfl
 | cons e r d=>rw[Aen,Adw,d,Sd];simp;omega
theorem gN {N:Nat} {c:CaseD} {o:Bool} {ls:List Int} {K:Nat→Nat→LA→LA→O R} (e:ls.length≤1000000) (d:∀ l ∈ ls,∃ x,LnV c l x):∀ (m j fuel:Nat),j+m=ls.length→m<fuel →
  Kw N K ls.length o c.av (Az ls) fuel j (ls.length:Int) (j:Int) (((ls.take j).map (H4 c)).flatMap Bv)=K ls.length ls.length ((ls.map (H4 c)).flatMap Bv) (Az ls)
 | 0,j,fuel+1,f,_=>by
  rw[Kw];unfold Uj
  have:j=ls.length:=by omega
  rw[F9 (by omega),cf,Ad0 (by omega),this]
 | m+1,j,fuel+1,f,q=>by
  rw[Kw];unfold Uj
  have h:j<ls.length:=by omega
  obtain⟨x,hx⟩:=d ls[j] (Ad9 h)
  have k:(ble (j+1) 140737488355328&&ble ((j+1)*16) 140737488355328)=true:=by rw[Ew,Ew];simp;omega
  have n:take (j*2) (((ls.take j).map (H4 c)).flatMap Bv)++[.int .i64 x.fr,.int .i64 x.tl]=((ls.take (j+1)).map (H4 c)).flatMap Bv:=by
   rw[Ad0 (by rw[NK];simp;omega),Aeo h,Afy,Af3]
   simp only[Ad5,Aem,sv hx,Aen,Aft,Aej,Bv]
   have:=hx.f0;have:=hx.t0
   rw[Ah0 hx.f0,Ah0 hx.t0]
  rw[Fn h,ct,Ab h,ct,vt (by simpa using h),Ad2,G_ h]
  simp only[C1,yv hx,yw hx]
  rw[js hx.l0 hx.lt,ct,ct,k,ct,n,Ez (by omega),gN e d m (j+1) fuel (by omega) (by omega)]
theorem rZ {N:Nat} {c:CaseD} {h:Int} {o:Bool} {K:Nat→Nat→LA→LA→O R} (hs:Small c N) (f:∀ l ∈ A8 c h,∃ x,LnV c l x) :
  DZ N c.av o h K=K (A8 c h).length (A8 c h).length (((A8 c h).map (H4 c)).flatMap Bv) (Az (A8 c h)):=by
 rw[PC];unfold GD
 have j:=LN h c.lines.l 0
 have d:=hs.top.2.1
 have e:=hs.lin.1
 have:=gN (R:=R) (N:=N) (c:=c) (o:=o) (ls:=A8 c h) (K:=K) (by unfold A8;omega) f (A8 c h).length 0 N (by omega) (by unfold A8;omega)
 rw[Dx,ct,Bx,pR hs]
 simpa using this
def Fv (st:Bool×List Int) (e:Nat×Nat):Bool×List Int :=
 let m:=Kg (st.2.getD e.1 0) (st.2.getD e.2 0)
 ((st.1||(st.2.getD e.1 0 != m))||(st.2.getD e.2 0 != m),(st.2.set e.1 m).set e.2 m)
theorem aD {N:Nat} {es:List (Nat×Nat)} {n:Nat} {t o:Bool} {K1:Bool→LA→O R} {K:Nat→LA→O R} (hs:es.length<4611686018427387904) (s:∀ e ∈ es,e.1<n∧e.2<n):∀ (m j fuel:Nat) (st:Bool×List Int),j+m=es.length→m<fuel→st.2.length=n →
  Hm N K1 K (es.flatMap Bv) es.length t o n fuel st.1 (es.length:Int) (j:Int) (Az st.2)=K1 ((es.drop j).foldl Fv st).1 (Az ((es.drop j).foldl Fv st).2)
 | 0,j,fuel+1,st,u,_,_=>by
  rw[Hm];unfold Qb
  rw[F9 (by omega),cf,O8 (l:=es) (by omega)];rfl
 | m+1,j,fuel+1,st,u,I,d=>by
  rw[Hm];unfold Qb
  have h:j<es.length:=by omega
  obtain⟨k,q⟩:=s es[j] (Ad9 h)
  have v:=aD (N:=N) (es:=es) (n:=n) (t:=t) (o:=o) (K1:=K1) (K:=K) hs s m (j+1) fuel (Fv st es[j]) (by omega) (by omega) (by simp[Fv,d])
  rw[Fn h,ct,Ab h,ct,Ad2,Be Sd _ _ h,Ka (l:=es) h,Aeq,←v]
  generalize es[j]=e at *
  have y:ble 2 (List.length (Bv e++List.flatMap Bv (drop (j+1) es)))=true:=by rw[Ew,Adw,Sd];simp
  have z:take 2 (Bv e++List.flatMap Bv (drop (j+1) es))=Bv e:=Afs (Sd e)
  rw[y,ct,z,Sd]
  have iu:Aj (e.1:Int) n=true:=Ab k
  have iv:Aj (e.2:Int) n=true:=Ab q
  have ru:∀ f:Int→O R,Av .i64 (drop (0+((Int.toNat (e.1:Int))*1)) (Az st.2)) f=f (st.2.getD e.1 0):=fun f=>by rw[vt (by rw[d];simpa using k)];rfl
  have rv:∀ f:Int→O R,Av .i64 (drop (0+((Int.toNat (e.2:Int))*1)) (Az st.2)) f=f (st.2.getD e.2 0):=fun f=>by rw[vt (by rw[d];simpa using q)];rfl
  have s1:=mM (l:=st.2) (x:=(Int.toNat (e.1:Int))) (by rw[d];simpa using k)
  have s2:∀ m:Int,((beq 1 1)&&((ble ((0+((Int.toNat (e.2:Int))*1))+1) (List.length (List.set (Az st.2) (0+((Int.toNat (e.1:Int))*1)) (.int .i64 m))))&&(!false)))=true:=fun m=>by
   rw[UE];exact mM (by simpa[d] using q)
  have s3:∀ m:Int,List.set (List.set (Az st.2) (0+((Int.toNat (e.1:Int))*1)) (.int .i64 m)) (0+((Int.toNat (e.2:Int))*1)) (.int .i64 m)=Az ((st.2.set e.1 m).set e.2 m):=fun m=>by
   rw[UE,UE];simp
  have A:(!o||Ax (Bv e))=true:=by simp[Bv,Ax]
  have B:(beq 2 2&&(ble 2 2&&!false))=true:=rfl
  have C:setCells [(.int .i64 (0:Int)),(.int .i64 (0:Int))] 0 (Bv e)=Bv e:=rfl
  have D:∀ f:Int→O R,Av .i64 (Bv e) f=f e.1:=fun f=>by simp[Bv,Cp]
  have F:∀ f:Int→O R,Av .i64 (drop 1 (Bv e)) f=f e.2:=fun f=>by simp[Bv,Cp]
  simp only[A,B,C,D,F,ct,iu,iv,ru,rv,s1,s2,s3,Ez (show j<4611686018427387904 by omega)]
  unfold Fv
  cases st.1
  ·cases G:(st.2.getD e.1 0 != Kg (st.2.getD e.1 0) (st.2.getD e.2 0))<;>simp only[G,Aew,Agg,cond_true,cond_false,beq_self_eq_true,show(true==false)=false from rfl]
  ·simp only[Agg,cond_false,show(true==false)=false from rfl]
def RI (L:List Int):Nat:=(L.map Int.toNat).sum
theorem sx {L:List Int} {x:Nat} {v:Int} (h:x<L.length):RI (L.set x v)+(L.getD x 0).toNat=RI L+v.toNat:=by
 unfold RI
 rw[G_ h]
 induction L generalizing x with
 | nil=>simp at h
 | cons a r d =>
  cases x with
  | zero=>simp;omega
  | succ x=>have:=d (x:=x) (by simpa using h);simp at this ⊢;omega
theorem gO {L:List Int} {x y:Nat} {v:Int} (h:x<L.length):(L.set x v).getD y 0=if x=y then v else L.getD y 0:=by
 rw[Aee,Aee,List.getElem?_set]
 by_cases e:x=y
 ·subst e;simp[h]
 ·simp[e]
theorem xA (a b:Int):Kg a b≤a∧Kg a b≤b∧(Kg a b=a∨Kg a b=b):=by
 unfold Kg
 by_cases h:b<a
 ·simp[h];omega
 ·simp[h];omega
theorem uJ {n:Nat} {es:List (Nat×Nat)} {e:Nat×Nat} (A:e ∈ es) (l:e.1<n) (s:e.2<n) {b:Bool} {L:List Int} (h:LeastOk n es L) :
    LeastOk n es (Fv (b,L) e).2∧(((Fv (b,L) e).1=true∧RI (Fv (b,L) e).2<RI L)∨((Fv (b,L) e)=(b,L)∧L.getD e.1 0=L.getD e.2 0)):=by
  obtain⟨u,v⟩:=e
  simp only at l s
  obtain⟨m1,m2,m3⟩:=xA (L.getD u 0) (L.getD v 0)
  have d:u<L.length:=by rw[h.len];exact l
  have j:v<L.length:=by rw[h.len];exact s
  have f:Conn es u v:=.fwd A (.refl _)
  have Al:∀ y,((L.set u (Kg (L.getD u 0) (L.getD v 0))).set v (Kg (L.getD u 0) (L.getD v 0))).getD y 0=if v=y then Kg (L.getD u 0) (L.getD v 0) else if u=y then Kg (L.getD u 0) (L.getD v 0) else L.getD y 0:=fun y=>by
    rw[gO (by simpa using j),gO d]
  have lu:=h.low u l
  have lv:=h.low v s
  refine⟨⟨by simp[Fv,h.len],fun y z=>?_,fun y z=>?_⟩,?_⟩
  · simp only[Fv,Al]
    split
    · rename_i e;subst e;omega
    · split
      · rename_i e;subst e;omega
      · exact h.low y z
  · simp only[Fv,Al]
    have cm:Conn es (Kg (L.getD u 0) (L.getD v 0)).toNat u:=by
      rcases m3 with e | e<;>rw[e]
      · exact h.con u l
      · exact(h.con v s).trans f.symm
    split
    · rename_i e;subst e;exact cm.trans f
    · split
      · rename_i e;subst e;exact cm
      · exact h.con y z
  · by_cases e1:L.getD u 0=Kg (L.getD u 0) (L.getD v 0)<;>by_cases t:L.getD v 0=Kg (L.getD u 0) (L.getD v 0)
    · right
      have q:(L.set u (Kg (L.getD u 0) (L.getD v 0))).set v (Kg (L.getD u 0) (L.getD v 0))=L:=by
        have key:∀ m:Int,L.getD u 0=m→L.getD v 0=m→(L.set u m).set v m=L:=by
          intro m B C
          have a1:L.set u m=L:=by rw[←B,G_ d,Ahs]
          have a2:L.set v m=L:=by rw[←C,G_ j,Ahs]
          rw[a1,a2]
        exact key _ e1 t
      have x1:(L.getD u 0 != Kg (L.getD u 0) (L.getD v 0))=false:=by simpa using e1
      have x2:(L.getD v 0 != Kg (L.getD u 0) (L.getD v 0))=false:=by simpa using t
      refine⟨by simp only[Fv,q,x1,x2,Afk],by rw[e1];exact t.symm⟩
    all_goals
      left
      have D:=sx (v:=Kg (L.getD u 0) (L.getD v 0)) d
      have k:=sx (L:=L.set u (Kg (L.getD u 0) (L.getD v 0))) (x:=v) (v:=Kg (L.getD u 0) (L.getD v 0)) (by simpa using j)
      rw[gO d] at k
      refine⟨?_,?_⟩
      · first
          | (have x2 : (L.getD v 0 != Kg (L.getD u 0) (L.getD v 0)) = true := by simpa using t
             simp only[Fv,x2,Agf])
          | (have x1 : (L.getD u 0 != Kg (L.getD u 0) (L.getD v 0)) = true := by simpa using e1
             simp only[Fv,x1,Agf,Agg])
      · simp only[Fv]
        split at k
        · rename_i e;subst e;omega
        · omega
theorem mO {n:Nat} {es:List (Nat×Nat)} (d:∀ e ∈ es,e.1<n∧e.2<n):∀ (fs:List (Nat×Nat)) (b:Bool) (L:List Int),(∀ e ∈ fs,e ∈ es)→LeastOk n es L →
  LeastOk n es (fs.foldl Fv (b,L)).2∧(((fs.foldl Fv (b,L)).1=true∧(RI (fs.foldl Fv (b,L)).2<RI L∨(b=true∧RI (fs.foldl Fv (b,L)).2≤RI L)))∨((fs.foldl Fv (b,L))=(b,L)∧su fs L))
 | [],b,L,_,h=>⟨h,.inr ⟨rfl,fun e d=>by simp at d⟩⟩
 | e::r,b,L,j,h=>by
  have k:=j e (by simp)
  obtain⟨s,t⟩:=uJ k (d e k).1 (d e k).2 (b:=b) h
  rw[Aeq]
  rcases t with⟨l,m⟩ | ⟨l,m⟩
  ·have u:Fv (b,L) e=(true,(Fv (b,L) e).2):=by rw[←l]
   rw[u]
   obtain⟨q,k2⟩:=mO d r true (Fv (b,L) e).2 (fun x hx=>j x (Afz _ hx)) s
   refine⟨q,.inl ?_⟩
   rcases k2 with⟨f,k4⟩ | ⟨f,_⟩
   ·exact⟨f,.inl (by rcases k4 with k4 | ⟨_,k4⟩<;>omega)⟩
   ·rw[f];exact⟨rfl,.inl m⟩
  ·rw[l]
   obtain⟨q,k2⟩:=mO d r b L (fun x hx=>j x (Afz _ hx)) h
   refine⟨q,?_⟩
   rcases k2 with k2 | ⟨f,k4⟩
   ·exact .inl k2
   ·refine .inr ⟨f,fun x hx=>?_⟩
    rcases Ad6.1 hx with rfl | hx
    ·exact m
    ·exact k4 x hx
theorem aE {N:Nat} {es:List (Nat×Nat)} {n:Nat} {t o:Bool} (hs:Qo es.length N) (d:∀ e ∈ es,e.1<n∧e.2<n):∀ (s fuel:Nat) (L:List Int),LeastOk n es L→RI L≤s→s+2<fuel →
  ∃ L',LeastOk n es L'∧su es L'∧∀ K:Nat→LA→O R,C7 N K (es.flatMap Bv) es.length t o n fuel true (Az L)=K n (Az L')
 | s,fuel+1,L,h,hL,l=>by
  obtain⟨j,k2⟩:=mO d es false L (fun _ hx=>hx) h
  have step:∀ K:Nat→LA→O R,C7 N K (es.flatMap Bv) es.length t o n (fuel+1) true (Az L)=C7 N K (es.flatMap Bv) es.length t o n fuel (es.foldl Fv (false,L)).1 (Az (es.foldl Fv (false,L)).2):=fun K=>by
   rw[C7];unfold Qc
   have:=aD (R:=R) (N:=N) (es:=es) (n:=n) (t:=t) (o:=o) (K1:=C7 N K (es.flatMap Bv) es.length t o n fuel) (K:=K) hs.2 d es.length 0 N (false,L) (by omega) hs.1 h.len
   simpa using this
  rcases k2 with⟨f,k4⟩ | ⟨f,k4⟩
  ·have k:RI (es.foldl Fv (false,L)).2<RI L:=by
    rcases k4 with k4 | ⟨k4,_⟩
    ·exact k4
    ·cases k4
   obtain⟨L',a1,a2,a3⟩:=aE hs d (s - 1) fuel _ j (by omega) (by omega)
   exact⟨L',a1,a2,fun K=>by rw[step,f];exact a3 K⟩
  ·refine⟨L,h,k4,fun K=>?_⟩
   rw[step,f]
   rcases fuel with _ | fuel
   ·omega
   ·rw[C7];unfold Qc;rfl
 termination_by s=>s
 decreasing_by omega
theorem aF {N:Nat} {es:List (Nat×Nat)} {n:Nat} {t o:Bool} {K:Nat→LA→O R} (hn:n<4611686018427387904) (L:List Int) (hL:L.length=n):∀ (m j fuel:Nat),j+m=n→m<fuel →
  Hn N K (n:Int) (es.flatMap Bv) es.length t o fuel n (j:Int) (Az ((Py n).take j++L.drop j))=C7 N K (es.flatMap Bv) es.length t o n N true (Az (Py n))
 | 0,j,fuel+1,e,_=>by
  rw[Hn];unfold Qd
  rw[F9 (by omega),cf,O8 (by omega),Aej,Ad0 (by simp[Py];omega)]
 | m+1,j,fuel+1,e,f=>by
  rw[Hn];unfold Qd
  have h:j<n:=by omega
  have d:((Py n).take j++L.drop j).length=n:=by simp[Py];omega
  rw[Fn h,ct,Ab h,ct,mM (by rw[d];simpa using h),ct,Ad2,Aec,Aeh,UE,rY hL h,Ez (by omega),aF hn L hL m (j+1) fuel (by omega) (by omega)]
theorem r5 (n:Nat) (es:List (Nat×Nat)):LeastOk n es (Py n):=by
 refine⟨by simp[Py],fun b d=>?_,fun b d=>?_⟩
 ·rw[jr d];omega
 ·rw[jr d];exact .refl _
theorem yJ {L:List Int} {b:Nat}:(∀ x ∈ L,x.toNat≤b)→RI L≤L.length*b:=by
 unfold RI
 induction L with
 | nil=>intro _;simp
 | cons a r d =>
  intro h
  have e:=h a (by simp)
  have f:=d (fun x hx=>h x (Afz _ hx))
  simp[Afn];omega
theorem UF {N:Nat} {es:List (Nat×Nat)} {n:Nat} {t o:Bool} (hs:Qo es.length N) (hn:n≤1000) (hN:n*n+1000<N) (f:∀ e ∈ es,e.1<n∧e.2<n) :
  ∃ L,LeastOk n es L∧su es L∧∀ (m:Nat) (K:Nat→LA→O R),m=es.length→Qy N (n:Int) (es.flatMap Bv) m t o K=K n (Az L):=by
 have d:RI (Py n)≤n*n:=by
  have:=yJ (L:=Py n) (b:=n) (by
   intro x hx;simp[Py] at hx;obtain⟨a,s,rfl⟩:=hx;simp;omega)
  simpa[Py] using this
 obtain⟨L,j,k,l⟩:=aE (R:=R) (N:=N) (es:=es) (n:=n) (t:=t) (o:=o) hs f (n*n) N (Py n) (r5 n es) d (by omega)
 refine⟨L,j,k,fun m K q=>?_⟩
 subst q
 rw[IJ];unfold Xm
 have ok:(decide ((0:Int)≤(n:Int))&&(decide ((n:Int)≤(n:Int))&&(decide ((n:Int)≤(140737488355328:Int))&&decide (((n:Int)*((8:Nat):Int))≤(140737488355328:Int)))))=true:=by simp;omega
 have e:replicate n (AV.int .i64 (0:Int))=Az (replicate n 0):=by simp[Az]
 have:=aF (R:=R) (N:=N) (es:=es) (n:=n) (t:=t) (o:=o) (K:=K) (by omega) (replicate n 0) (by simp) n 0 N (by omega) (by omega)
 rw[ok,ct,Ad2,e,←l K]
 simpa using this
theorem RK {N:Nat} {L:List Int} {t o:Bool} {K:Int→O R} (hs:L.length<1000000):∀ (m j fuel:Nat) (a:Nat),j+m=L.length→m<fuel→a≤j →
  Kx N K (Az L) L.length t o fuel (a:Int) (j:Int)=K ((a+((List.range' j m).filter fun b=>L.getD b 0==(b:Int)).length:Nat):Int)
 | 0,j,fuel+1,a,d,_,_=>by
  rw[Kx];unfold Uk
  rw[F9 (by omega),cf];simp
 | m+1,j,fuel+1,a,d,e,f=>by
  rw[Kx];unfold Uk
  have h:j<L.length:=by omega
  rw[Fn h,ct,Ab h,ct,Zg h,Ez (by omega),Ez (by omega),Agr,Agi,G_ h]
  cases hx:L[j]==(j:Int) with
  | true =>
   rw[ct,RK hs m (j+1) fuel (a+1) (by omega) (by omega) (by omega)]
   simp;congr 1;omega
  | false =>
   rw[cf,RK hs m (j+1) fuel a (by omega) (by omega) (by omega)]
   simp
theorem gP {N:Nat} {L:List Int} {n:Nat} {t o:Bool} {K:Int→O R} (hn:n=L.length) (hs:L.length<1000000) (hN:L.length<N):Yp N (Az L) n t o K=K (wz L:Int):=by
 subst hn
 rw[PD];unfold GF
 have:=RK (R:=R) (N:=N) (L:=L) (t:=t) (o:=o) (K:=K) hs L.length 0 N 0 (by omega) hN (by omega)
 simp only[Af9,Aec] at this
 rw[wz,List.range_eq_range']
 exact this
def UG (gone:List Int):List (Nat×Nat)→Nat→List (Nat×Nat)
 | [],_=>[]
 | e::r,j=>cond (gone.contains (j:Int)) (UG gone r (j+1)) (e::UG gone r (j+1))
theorem gQ {N:Nat} {es:List (Nat×Nat)} {gone:List Int} {n:Nat} {t o t2 o2:Bool} {K:Bool→O R} (z:es.length≤1000) (hlN:es.length<N) (hn:n≤1000) (hN:n*n+1000<N) (d:∀ e ∈ es,e.1<n∧e.2<n) (s:Qo gone.length N):∀ (m j fuel:Nat) (A:List (Nat×Nat)),j+m=es.length→m<fuel→A.length≤j→(∀ e ∈ A,e.1<n∧e.2<n) →
  Fm N K (n:Int) (es.flatMap Bv) es.length t o (Az gone) gone.length t2 o2 fuel A.length (j:Int) (A.flatMap Bv)=K (decide ((Vw n (A++UG gone (es.drop j) j):Int)>(Vw n es:Int)))
 | 0,j,fuel+1,A,B,_,hA,hAe=>by
  rw[Fm];unfold Mz
  obtain⟨L,a1,a2,a3⟩:=UF (R:=R) (N:=N) (es:=A) (n:=n) (t:=false) (o:=true) ⟨by omega,by omega⟩ hn hN hAe
  obtain⟨L',k,u,v⟩:=UF (R:=R) (N:=N) (es:=es) (n:=n) (t:=false) (o:=o) ⟨by omega,by omega⟩ hn hN d
  have l1:=a1.len;have l2:=k.len
  rw[F9 (by omega),cf,O8 (l:=es) (by omega),UG,Aej,Ad0 (by rw[NK];exact Ad4 _),a3 _ _ rfl,Aeh,Ad0 (by rw[Kh];omega),gP (by omega) (by omega) (by omega),v _ _ rfl,Ad0 (by rw[Kh];omega),gP (by omega) (by omega) (by omega),aC a1 a2 hAe,aC k u d]
 | m+1,j,fuel+1,A,B,G,hA,hAe=>by
  rw[Fm];unfold Mz
  have h:j<es.length:=by omega
  have f:=gQ (N:=N) (es:=es) (gone:=gone) (n:=n) (t:=t) (o:=o) (t2:=t2) (o2:=o2) (K:=K) z hlN hn hN d s m (j+1) fuel (A++[es[j]]) (by omega) (by omega) (by simp;omega) (by
   intro e x
   rcases Ad7.1 x with q | q
   ·exact hAe e q
   ·simp at q;subst q;exact d _ (Ad9 h))
  have y:=gQ (N:=N) (es:=es) (gone:=gone) (n:=n) (t:=t) (o:=o) (t2:=t2) (o2:=o2) (K:=K) z hlN hn hN d s m (j+1) fuel A (by omega) (by omega) (by omega) hAe
  rw[Fn h,ct,GG rfl s,Ab h,ct,Ad2,Be Sd _ _ h,Ka (l:=es) h,UG]
  generalize es[j]=e at *
  have k:ble 2 (List.length (Bv e++List.flatMap Bv (drop (j+1) es)))=true:=by rw[Ew,Adw,Sd];simp
  have u:take 2 (Bv e++List.flatMap Bv (drop (j+1) es))=Bv e:=Afs (Sd e)
  have v:(ble (A.length+1) 140737488355328&&ble ((A.length+1)*16) 140737488355328)=true:=by rw[Ew,Ew];simp;omega
  have C:(!o||Ax (Bv e))=true:=by simp[Bv,Ax]
  have D:take 2 (setCells [(.int .i64 (0:Int)),(.int .i64 (0:Int))] 0 (Bv e))=Bv e:=rfl
  have F:take (A.length*2) (A.flatMap Bv)++Bv e=(A++[e]).flatMap Bv:=by
   rw[Ad0 (by rw[NK];exact Ad4 _)];simp
  rw[k,ct,u,C,ct,Sd,show(beq 2 2&&ble 2 2)=true from rfl,ct,v,ct,D,F,Ez (by omega)]
  cases gone.contains (j:Int) with
  | true=>simp only[Agm,cond_false,cond_true];exact y
  | false =>
   simp only[Af1,cond_true,cond_false]
   rw[Adw] at f
   simpa using f
theorem gR {N:Nat} {es:List (Nat×Nat)} {gone:List Int} {n m m2:Nat} {t o t2 o2:Bool} {K:Bool→O R} (f:m=es.length) (d:m2=gone.length) (j:es.length≤1000) (hlN:es.length<N) (hn:n≤1000) (hN:n*n+1000<N) (k:∀ e ∈ es,e.1<n∧e.2<n) (l:Qo gone.length N) :
  Ps N (n:Int) (es.flatMap Bv) m t o (Az gone) m2 t2 o2 K=K (decide ((Vw n (UG gone es 0):Int)>(Vw n es:Int))):=by
 subst f d
 rw[BB];unfold Rv
 have:=gQ (R:=R) (N:=N) (es:=es) (gone:=gone) (n:=n) (t:=t) (o:=o) (t2:=t2) (o2:=o2) (K:=K) j hlN hn hN k l es.length 0 N [] (by omega) hlN (by simp) (by simp)
 simpa using this
theorem Db {p:I6} {ok:Bool} {w:Int×Int×Int} {e:{ e:Int // e≠0 }} (h:nd p ok w e=none):p=none∧ok=true:=by
 rcases p with _ | x
 ·cases ok
  ·simp[nd] at h
  ·exact⟨rfl,rfl⟩
 ·simp[nd] at h
theorem Qs {α:Type} {f:Nat→α→I6→I6} (e:∀ j a x,f j a (some x)=some x):∀ (l:List α) (j:Nat) (p:I6),Gj f l j p=none→p=none∧∀ i (h:i<l.length),f (j+i) l[i] none=none
 | [],j,p,h=>by rw[Gj] at h;exact⟨h,fun i hi=>by simp at hi⟩
 | a::r,j,p,h=>by
  rw[Gj] at h
  obtain⟨d,k⟩:=Qs e r (j+1) _ h
  have m:p=none:=by
   rcases p with _ | x
   ·rfl
   ·rw[e] at d;cases d
  subst m
  refine⟨rfl,fun i hi=>?_⟩
  cases i with
  | zero=>simpa using d
  | succ i=>have:=k i (by simpa using hi);rw[show j+1+i=j+(i+1) by omega] at this;simpa using this
theorem XH {c:CaseD} (j:Nat) (x:BusD) (y:(Int×Int×Int)×{ e:Int // e≠0 }):wu c j x (some y)=some y:=rfl
theorem RL {c:CaseD} (j:Nat) (x:LineD) (y:(Int×Int×Int)×{ e:Int // e≠0 }):jl c j x (some y)=some y:=rfl
theorem LQ {c:CaseD} (j:Nat) (x:StoreD) (y:(Int×Int×Int)×{ e:Int // e≠0 }):f9 c j x (some y)=some y:=rfl
theorem XI {c:CaseD} (j:Nat) (x:TieD) (y:(Int×Int×Int)×{ e:Int // e≠0 }):wv c j x (some y)=some y:=rfl
theorem RM {c:CaseD} (j:Nat) (x:UnitD) (y:(Int×Int×Int)×{ e:Int // e≠0 }):oe c j x (some y)=some y:=by
 show cond (x.state==2) _ _=_
 cases x.state==2<;>rfl
def vu (c:CaseD):I6 :=
 let p:=rL c none
 let p:=Gj (wu c) c.buses.l 0 p
 let p:=Gj (jl c) c.lines.l 0 p
 let p:=Gj (oe c) c.units.l 0 p
 let p:=Gj (f9 c) c.stores.l 0 p
 let p:=Gj (wv c) c.ties.l 0 p
 Gj (uG c) c.outs.l 0 p
noncomputable def vw (c:CaseD) (h:Int) (o:OutD):Bool :=
 (Vw c.buses.l.length (((A8 c h).filter fun l=>!o.lines.l.contains l).map (H4 c)):Int)==(Vw c.buses.l.length ((A8 c h).map (H4 c)):Int)
noncomputable def vz (c:CaseD) (h:Int) (j:Nat) (o:OutD) (p:I6):I6:=nd p (vw c h o) (6,j,h) Adg
noncomputable def RN (c:CaseD):Nat→Nat→I6→I6
 | 0,_,p=>p
 | m+1,j,p=>RN c m (j+1) (Gj (vz c j) c.outs.l 0 p)
theorem uK {c:CaseD} {h:Int} (j:Nat) (x:OutD) (y:(Int×Int×Int)×{ e:Int // e≠0 }):vz c h j x (some y)=some y:=rfl
theorem aG {c:CaseD} {y:(Int×Int×Int)×{ e:Int // e≠0 }}:∀ (m j:Nat),RN c m j (some y)=some y
 | 0,_=>rfl
 | m+1,j=>by rw[RN,Nu (fun j a=>uK j a y)];exact aG m (j+1)
noncomputable def LR (c:CaseD):I6:=match vu c with
 | some x=>some x
 | none=>RN c c.hours.toNat 0 none
structure PreV (c:CaseD):Prop where
 hours:1≤c.hours∧c.hours≤24
 nb:c.buses.l.length≤32
 nl:c.lines.l.length≤64
 no:c.outs.l.length≤64
 line:∀ x ∈ c.lines.l,0≤x.fr∧x.fr.toNat<c.buses.l.length∧0≤x.tl∧x.tl.toNat<c.buses.l.length
 out:∀ x ∈ c.outs.l,x.lines.l.length≤2
theorem uL {c:CaseD} (h:vu c=none):PreV c:=by
 unfold vu at h
 obtain⟨n,o6⟩:=Qs (fun _ _ _=>WY) _ _ _ h
 obtain⟨q,o5⟩:=Qs (fun j a x=>XI j a x) _ _ _ n
 obtain⟨s,o4⟩:=Qs (fun j a x=>LQ j a x) _ _ _ q
 obtain⟨t,o3⟩:=Qs (fun j a x=>RM j a x) _ _ _ s
 obtain⟨u,o2⟩:=Qs (fun j a x=>RL j a x) _ _ _ t
 obtain⟨l,o1⟩:=Qs (fun j a x=>XH j a x) _ _ _ u
 unfold rL at l
 obtain⟨v,y⟩:=Db l
 obtain⟨z,_⟩:=Db v
 obtain⟨A,_⟩:=Db z
 obtain⟨B,_⟩:=Db A
 obtain⟨w3,f⟩:=Db B
 obtain⟨C,d⟩:=Db w3
 obtain⟨D,_⟩:=Db C
 obtain⟨F,_⟩:=Db D
 obtain⟨_,k⟩:=Db F
 unfold Fa at k d
 simp at k d f y
 refine⟨k,by omega,by omega,by omega,fun x hx=>?_,fun x hx=>?_⟩
 ·obtain⟨i,hi,rfl⟩:=Aep hx
  have:=o2 i hi
  unfold jl fW at this
  obtain⟨a,_⟩:=Db this
  obtain⟨a,_⟩:=Db a
  obtain⟨a,_⟩:=Db a
  obtain⟨a,_⟩:=Db a
  obtain⟨a,_⟩:=Db a
  obtain⟨a,_⟩:=Db a
  obtain⟨a,_⟩:=Db a
  obtain⟨a,_⟩:=Db a
  obtain⟨a,m⟩:=Db a
  obtain⟨_,e⟩:=Db a
  unfold ZO at m e
  simp at m e
  omega
 ·obtain⟨i,hi,rfl⟩:=Aep hx
  have:=o6 i hi
  unfold uG rN at this
  obtain⟨a,_⟩:=Db this
  obtain⟨a,_⟩:=Db a
  obtain⟨a,_⟩:=Db a
  obtain⟨a,_⟩:=Db a
  obtain⟨a,_⟩:=Db a
  obtain⟨a,_⟩:=Db a
  obtain⟨a,_⟩:=Db a
  obtain⟨_,e⟩:=Db a
  simp at e
  omega
theorem PreV.lnV {c:CaseD} (v:PreV c) {h:Int} {l:Int} (j:l ∈ A8 c h):∃ x,LnV c l x:=by
 have:=pQ h c.lines.l 0 l j
 have k:0≤l:=by omega
 have f:l.toNat<c.lines.l.length:=by omega
 obtain⟨a,b,d,e⟩:=v.line _ (Ad9 f)
 exact⟨c.lines.l[l.toNat],k,f,Ad1 f,a,b,d,e⟩
def w3 (p:I6):LA:=match p with
 | none=>[.int .i64 0,.int .i64 0,.int .i64 0]
 | some ((a,b,f),_)=>[.int .i64 a,.int .i64 b,.int .i64 f]
end
end Gx.Cf
namespace Gx
open Go Go.Proofs
set_option maxRecDepth 100000
noncomputable section
variable {R:Type} (N:Nat)
def Se (k0:Int→LA→O R) (r0:LA→Int→O R) (b:Bool) (a:LA) (j:Int) (aj:LA):O R :=
 (cond (ble 8 (a.length)) (Cu N (a.take 8) b 1 j aj fun ak=>cond (ble 8 (a.length)) (A6 3 (a.drop 2) fun al am=>cond (Aj j am) (A6 1 ((al.drop ((j.toNat)*3)).drop 1) fun an ao=>C6 N (a.take 8) b an ao false b 0 1048576 1 j 1 ak fun ap=>A6 3 (a.drop 2) fun aq ar=>cond (Aj j ar) (Av .i64 ((aq.drop ((j.toNat)*3)).drop 2) fun au=>Aq N 0 1048576 [(.int .i64 au)] 1 false true fun av=>Aa N av 1 j 2 3 ap fun aw=>k0 (wrap .i64 (j+1)) aw) none) none) none) none)
def Sf (k7:Int→LA→O R) (k9:Int→Int→LA→O R) (r0:LA→Int→O R) (c d:Nat) (b:Bool) (a f g:LA) (k10:Int→Int→Nat→Int→LA→LA→O R) (o l:Int) (i:Nat) (m:Int) (v w:LA):O R :=
 (cond (decide (m<(d:Int))) (A6 4 (a.drop 7) fun ax ay=>cond (Aj l ay) (A6 1 ((ax.drop ((l.toNat)*4)).drop 1) fun az ba=>cond (Aj m d) (Av .i64 (g.drop (0+((m.toNat)*1))) fun bb=>GC N az ba false b bb fun bc=>cond bc (cond ((ble (i+1) 140737488355328)&&(ble ((i+1)*8) 140737488355328)) (k10 o l (i+1) (wrap .i64 (m+1)) v ((w.take (i*1))++[(.int .i64 m)])) none) (k10 o l i (wrap .i64 (m+1)) v w)) none) none) (A6 3 (a.drop 2) fun cg bd=>Ps N (bd:Int) (f.take (c*2)) c false true (w.take (i*1)) i false true fun be=>Aa N (!be) 6 l o 13 v fun bf=>k9 o (wrap .i64 (l+1)) bf))
def Jb (k7:Int→LA→O R) (k9:Int→Int→LA→O R) (r0:LA→Int→O R) (c d:Nat) (b:Bool) (a f g:LA):Nat→Int→Int→Nat→Int→LA→LA→O R
 | 0,_,_,_,_,_,_=>none
 | n+1,o,l,i,m,v,w=>Sf N k7 k9 r0 c d b a f g (Jb k7 k9 r0 c d b a f g n) o l i m v w
def Uu (N:Nat) (k7:Int→LA→O R) (r0:LA→Int→O R) (c d:Nat) (b:Bool) (a f g:LA) (k9:Int→Int→LA→O R) (q10:Int→Int→Nat→Int→LA→LA→O R) (ac ad:Int) (ae:LA):O R :=
 (A6 4 (a.drop 7) fun ch bg=>cond (decide (ad<(bg:Int))) (q10 ac ad 0 0 ae []) (k7 (wrap .i64 (ac+1)) ae))
def Ip (k7:Int→LA→O R) (r0:LA→Int→O R) (c d:Nat) (b:Bool) (a f g:LA):Nat→Int→Int→LA→O R
 | 0,_,_,_=>none
 | n+1,ac,ad,ae=>Uu N k7 r0 c d b a f g (Ip k7 r0 c d b a f g n) (Jb N k7 (Ip k7 r0 c d b a f g n) r0 c d b a f g N) ac ad ae
def CT (k7:Int→LA→O R) (r0:LA→Int→O R) (b:Bool) (a:LA) (q9:Nat→Nat→LA→LA→Int→Int→LA→O R) (af:Int) (ai:LA):O R :=
 (cond (ble 8 (a.length)) (DZ N (a.take 8) b af fun c d f g=>q9 c d f g af 0 ai) none)
def Yd (k7:Int→LA→O R) (r0:LA→Int→O R) (b:Bool) (a:LA) (af:Int) (ai:LA):O R:=(CT N k7 r0 b a (fun c d f g=>Ip N k7 r0 c d b a f g N) af ai)
def Pz (N:Nat) (r0:LA→Int→O R) (b:Bool) (a:LA) (k7:Int→LA→O R) (q8:Int→LA→O R) (ag:Int) (h:LA):O R :=
 (Av .i64 a fun bh=>cond ((decide (ag<bh))==true) (Av .i64 (h.drop 3) fun bi=>cond (cond true (bi==0) false) (q8 ag h) (cond (ble 3 (h.length)) (Av .i64 (h.drop 3) fun bj=>cond ((beq ((h.take 3).length) 3)&&((ble 3 3)&&(!false))) (cond (ble 3 ((setCells [(.int .i64 0),(.int .i64 0),(.int .i64 0)] 0 (h.take 3)).length)) (r0 ((setCells [(.int .i64 0),(.int .i64 0),(.int .i64 0)] 0 (h.take 3)).take 3) bj) none) none) none)) (cond (ble 3 (h.length)) (Av .i64 (h.drop 3) fun bk=>cond ((beq ((h.take 3).length) 3)&&((ble 3 3)&&(!false))) (cond (ble 3 ((setCells [(.int .i64 0),(.int .i64 0),(.int .i64 0)] 0 (h.take 3)).length)) (r0 ((setCells [(.int .i64 0),(.int .i64 0),(.int .i64 0)] 0 (h.take 3)).take 3) bk) none) none) none))
def D1 (r0:LA→Int→O R) (b:Bool) (a:LA):Nat→Int→LA→O R
 | 0,_,_=>none
 | n+1,ag,h=>Pz N r0 b a (D1 r0 b a n) (Yd N (D1 r0 b a n) r0 b a) ag h
def Uv (r0:LA→Int→O R) (b:Bool) (a:LA) (k6:Int→LA→O R) (q7:Int→LA→O R) (x:Int) (p:LA):O R :=
 (A6 4 (a.drop 7) fun ci bl=>cond ((decide (x<(bl:Int)))==true) (Av .i64 (p.drop 3) fun bm=>cond (cond true (bm==0) false) (cond (ble 8 (a.length)) (Hl N (a.take 8) b x p fun bn=>k6 (wrap .i64 (x+1)) bn) none) (q7 0 p)) (q7 0 p))
def Le (r0:LA→Int→O R) (b:Bool) (a:LA):Nat→Int→LA→O R
 | 0,_,_=>none
 | n+1,x,p=>Uv N r0 b a (Le r0 b a n) (D1 N r0 b a N) x p
def Uw (r0:LA→Int→O R) (b:Bool) (a:LA) (k5:Int→LA→O R) (q6:Int→LA→O R) (y:Int) (q:LA):O R :=
 (A6 5 (a.drop 6) fun cj bo=>cond ((decide (y<(bo:Int)))==true) (Av .i64 (q.drop 3) fun bp=>cond (cond true (bp==0) false) (cond (ble 8 (a.length)) (Qa N (a.take 8) b y q fun bq=>k5 (wrap .i64 (y+1)) bq) none) (q6 0 q)) (q6 0 q))
def Lf (r0:LA→Int→O R) (b:Bool) (a:LA):Nat→Int→LA→O R
 | 0,_,_=>none
 | n+1,y,q=>Uw N r0 b a (Lf r0 b a n) (Le N r0 b a N) y q
def Ux (r0:LA→Int→O R) (b:Bool) (a:LA) (k4:Int→LA→O R) (q5:Int→LA→O R) (z:Int) (r:LA):O R :=
 (A6 9 (a.drop 5) fun ck br=>cond ((decide (z<(br:Int)))==true) (Av .i64 (r.drop 3) fun bs=>cond (cond true (bs==0) false) (cond (ble 8 (a.length)) (Mx N (a.take 8) b z r fun bt=>k4 (wrap .i64 (z+1)) bt) none) (q5 0 r)) (q5 0 r))
def Lg (r0:LA→Int→O R) (b:Bool) (a:LA):Nat→Int→LA→O R
 | 0,_,_=>none
 | n+1,z,r=>Ux N r0 b a (Lg r0 b a n) (Lf N r0 b a N) z r
def Uy (r0:LA→Int→O R) (b:Bool) (a:LA) (k3:Int→LA→O R) (q4:Int→LA→O R) (aa:Int) (s:LA):O R :=
 (A6 22 (a.drop 4) fun cl bu=>cond ((decide (aa<(bu:Int)))==true) (Av .i64 (s.drop 3) fun bv=>cond (cond true (bv==0) false) (cond (ble 8 (a.length)) (J9 N (a.take 8) b aa s fun bw=>k3 (wrap .i64 (aa+1)) bw) none) (q4 0 s)) (q4 0 s))
def Lh (r0:LA→Int→O R) (b:Bool) (a:LA):Nat→Int→LA→O R
 | 0,_,_=>none
 | n+1,aa,s=>Uy N r0 b a (Lh r0 b a n) (Lg N r0 b a N) aa s
def Uz (r0:LA→Int→O R) (b:Bool) (a:LA) (k2:Int→LA→O R) (q3:Int→LA→O R) (ab:Int) (t:LA):O R :=
 (A6 12 (a.drop 3) fun cm bx=>cond ((decide (ab<(bx:Int)))==true) (Av .i64 (t.drop 3) fun bz=>cond (cond true (bz==0) false) (cond (ble 8 (a.length)) (J7 N (a.take 8) b ab t fun ca=>k2 (wrap .i64 (ab+1)) ca) none) (q3 0 t)) (q3 0 t))
def Li (r0:LA→Int→O R) (b:Bool) (a:LA):Nat→Int→LA→O R
 | 0,_,_=>none
 | n+1,ab,t=>Uz N r0 b a (Li r0 b a n) (Lh N r0 b a N) ab t
def U0 (N:Nat) (r0:LA→Int→O R) (b:Bool) (a:LA) (k0:Int→LA→O R) (q1:Int→LA→O R) (q2:Int→LA→O R) (ah:Int) (u:LA):O R :=
 (A6 3 (a.drop 2) fun cn cb=>cond ((decide (ah<(cb:Int)))==true) (Av .i64 (u.drop 3) fun cc=>cond (cond true (cc==0) false) (q1 ah u) (q2 0 u)) (q2 0 u))
def Iq (r0:LA→Int→O R) (b:Bool) (a:LA):Nat→Int→LA→O R
 | 0,_,_=>none
 | n+1,ah,u=>U0 N r0 b a (Iq r0 b a n) (Se N (Iq r0 b a n) r0 b a) (Li N r0 b a N) ah u
def G' (r0:LA→Int→O R) (q0:Int→LA→O R) (a:LA) (b:Bool):O R :=
 (cond (ble 8 (a.length)) (If N (a.take 8) b [(.int .i64 0),(.int .i64 0),(.int .i64 0),(.int .i64 0)] fun cd=>q0 0 cd) none)
def ES:=(At fun N a b r0=>G' (R:=R) N r0 (Iq N r0 b a N) a b).1
theorem PO (a b r0):(@ES R N a b r0)=(G' N r0 (Iq N r0 b a N) a b):=by rw[ES,(At _).2]
def UH:Hints:={ H:=(hK 3 (hS (hK 1 (hS (hP [1,2,4,5] (hJ [1,2,4,5] hL hL)) hL)) (hS (hK 1 (hS (hP [1,2,4,6] hL) hL)) (hS (hK 1 (hS (hP [1,2,4,7] hL) hL)) (hS (hK 1 (hS (hP [1,2,4,8] hL) hL)) (hS (hK 1 (hS (hP [1,2,4,9] hL) hL)) (hS (hK 1 (hS (hP [1,2,4,10] hL) hL)) (hS (hK 1 (hS (hP [1,2,4,11] (hJ [1,2,4,11] hL (hS (hS (hK 2 (hS (hP [1,2,4,11,12,13,14] (hK 1 (hS (hS (hK 1 (hS (hK 1 (hS (hP [1,2,4,11,12,13,14,15,16] hL) hL)) hL)) hL) hL))) hL)) hL) hL))) hL)) hL)))))))),nils:=[(15,1)],modes:=[(3,0),(0,0)] }
def aH:EZ:=[NT N,Fk N,Nh N,Dv N,Bs N,QV N,QW N,N' N,SY N,KX N,oZ N,WM N,b7 N]
def Eo (F:KF R):=Tj Tryz.f39 UH (aH N) [] N F
def Bc (F:KF R):LA→Int→O R:=(fun ce cf=>F (.tup [(.pagg ce false),(iv cf)]) [])
def mP (b:Bool) (a:LA) (K:St→O R):=fun j aj=>K ⟨[(1,(op 0)),(2,(op 1)),(4,(op 2)),(5,(iv j))],(hq [(bP b 0 a),(bQ 0 [(iv 0),(iv 0),(iv 0)]),(bQ 0 aj)])⟩
def ig (c d:Nat) (b:Bool) (a f g:LA) (K:St→O R):=fun o l i m v w=>K ⟨[(1,(op 0)),(2,(op 1)),(4,(op 2)),(11,(iv o)),(12,(.own 300003 0 c)),(13,(.own 300004 0 d)),(14,(iv l)),(15,(.own 300005 0 i)),(16,(iv m))],(hq [(bP b 0 a),(bQ 0 [(iv 0),(iv 0),(iv 0)]),(bQ 0 v),(bQ 2 f),(bQ 1 g),(bQ 1 w)])⟩
def HA (c d:Nat) (b:Bool) (a f g:LA) (K:St→O R):=fun ac ad ae=>K ⟨[(1,(op 0)),(2,(op 1)),(4,(op 2)),(11,(iv ac)),(12,(.own 300003 0 c)),(13,(.own 300004 0 d)),(14,(iv ad))],(hq [(bP b 0 a),(bQ 0 [(iv 0),(iv 0),(iv 0)]),(bQ 0 ae),(bQ 2 f),(bQ 1 g)])⟩
def mQ (b:Bool) (a:LA) (K:St→O R):=fun af ai=>K ⟨[(1,(op 0)),(2,(op 1)),(4,(op 2)),(11,(iv af))],(hq [(bP b 0 a),(bQ 0 [(iv 0),(iv 0),(iv 0)]),(bQ 0 ai)])⟩
def Lj (b:Bool) (a:LA) (K:St→O R):=fun ag h=>K ⟨[(1,(op 0)),(2,(op 1)),(4,(op 2)),(11,(iv ag))],(hq [(bP b 0 a),(bQ 0 [(iv 0),(iv 0),(iv 0)]),(bQ 0 h)])⟩
def mR (b:Bool) (a:LA) (K:St→O R):=fun x p=>K ⟨[(1,(op 0)),(2,(op 1)),(4,(op 2)),(10,(iv x))],(hq [(bP b 0 a),(bQ 0 [(iv 0),(iv 0),(iv 0)]),(bQ 0 p)])⟩
def mS (b:Bool) (a:LA) (K:St→O R):=fun y q=>K ⟨[(1,(op 0)),(2,(op 1)),(4,(op 2)),(9,(iv y))],(hq [(bP b 0 a),(bQ 0 [(iv 0),(iv 0),(iv 0)]),(bQ 0 q)])⟩
def mT (b:Bool) (a:LA) (K:St→O R):=fun z r=>K ⟨[(1,(op 0)),(2,(op 1)),(4,(op 2)),(8,(iv z))],(hq [(bP b 0 a),(bQ 0 [(iv 0),(iv 0),(iv 0)]),(bQ 0 r)])⟩
def mU (b:Bool) (a:LA) (K:St→O R):=fun aa s=>K ⟨[(1,(op 0)),(2,(op 1)),(4,(op 2)),(7,(iv aa))],(hq [(bP b 0 a),(bQ 0 [(iv 0),(iv 0),(iv 0)]),(bQ 0 s)])⟩
def mV (b:Bool) (a:LA) (K:St→O R):=fun ab t=>K ⟨[(1,(op 0)),(2,(op 1)),(4,(op 2)),(6,(iv ab))],(hq [(bP b 0 a),(bQ 0 [(iv 0),(iv 0),(iv 0)]),(bQ 0 t)])⟩
def UJ (b:Bool) (a:LA) (K:St→O R):=fun ah u=>K ⟨[(1,(op 0)),(2,(op 1)),(4,(op 2)),(5,(iv ah))],(hq [(bP b 0 a),(bQ 0 [(iv 0),(iv 0),(iv 0)]),(bQ 0 u)])⟩
theorem cO (Q0) (F:KF R) (b a):mP b a (D5 (Eo N F (pz 87105) [Q0]))=(Se N (UJ b a Q0) (Bc F) b a):=by kernel_rfl
theorem XJ (Q7 Q9) (F:KF R) (c d b a f g):∀ n,ig c d b a f g (Ao (Eo N F (pz 24019179469541444) [Q7,Q9]) n)=(Jb N (Lj b a Q7) (HA c d b a f g Q9) (Bc F) c d b a f g n):=Ev fun n e=>(Ee (Sf N (Lj b a Q7) (HA c d b a f g Q9) (Bc F) c d b a f g) e:_)
theorem cP (Q7) (F:KF R) (c d b a f g):∀ n,HA c d b a f g (Ao (Eo N F (pz 366503592980) [Q7]) n)=(Ip N (Lj b a Q7) (Bc F) c d b a f g n):=Ev fun n e=>(Sq (Uu N (Lj b a Q7) (Bc F) c d b a f g) e ((lW ..).trans ((XJ ..).trans (iI (Jb _ _ · _ _ _ _ _ _ _ _) e))):_)
theorem cQ (Q7) (F:KF R) (b a):mQ b a (D5 (Eo N F (pz 357913665) [Q7]))=(Yd N (Lj b a Q7) (Bc F) b a):=(Ee (CT N (Lj b a Q7) (Bc F) b a) (tk fun c d f g=>(lW ..).trans (cP ..)):_)
theorem cR (F:KF R) (b a):∀ n,Lj b a (Ao (Eo N F (pz 22369604) []) n)=(D1 N (Bc F) b a n):=Ev fun n e=>(Sq (Pz N (Bc F) b a) e ((jW ..).trans ((cQ ..).trans (iI (Yd _ · _ _ _) e))):_)
theorem cS (F:KF R) (b a):∀ n,mR b a (Ao (Eo N F (pz 5592388) []) n)=(Le N (Bc F) b a n):=Ev fun n e=>(Sq (Uv N (Bc F) b a) e ((lW ..).trans (cR ..)):_)
theorem cT (F:KF R) (b a):∀ n,mS b a (Ao (Eo N F (pz 1398084) []) n)=(Lf N (Bc F) b a n):=Ev fun n e=>(Sq (Uw N (Bc F) b a) e ((lW ..).trans (cS ..)):_)
theorem cU (F:KF R) (b a):∀ n,mT b a (Ao (Eo N F (pz 349508) []) n)=(Lg N (Bc F) b a n):=Ev fun n e=>(Sq (Ux N (Bc F) b a) e ((lW ..).trans (cT ..)):_)
theorem cV (F:KF R) (b a):∀ n,mU b a (Ao (Eo N F (pz 87364) []) n)=(Lh N (Bc F) b a n):=Ev fun n e=>(Sq (Uy N (Bc F) b a) e ((lW ..).trans (cU ..)):_)
theorem cW (F:KF R) (b a):∀ n,mV b a (Ao (Eo N F (pz 21828) []) n)=(Li N (Bc F) b a n):=Ev fun n e=>(Sq (Uz N (Bc F) b a) e ((lW ..).trans (cV ..)):_)
theorem cX (F:KF R) (b a):∀ n,UJ b a (Ao (Eo N F (pz 5444) []) n)=(Iq N (Bc F) b a n):=Ev fun n e=>(Aau (U0 N (Bc F) b a) e ((jW ..).trans ((cO ..).trans (iI (Se _ · _ _ _) e))) ((lW ..).trans (cW ..)):_)
def pS:=Jl N 39 (aH N) UH (fun
 | [(.pagg a b)],[]=>some fun _ k=>ES N a b (Bc k)
 | _,_=>none) fun _ _=>by split;intro R F;exact(Ee (G' N (Bc F) · _ _) ((lW ..).trans (cX ..)):_).trans (PO ..).symm;trivial
def HB (k2:Int→Int→Nat→LA→O R) (r0:LA→O R) (l:Int) (a:LA) (b:Nat) (c:Bool) (g:Int) (f d:Nat) (h i:LA) (av aw:Int) (y:Nat) (ax:LA):O R :=
 (Ae N l a b false c aw fun ba bo=>Ae N (wrap .i64 (l - 1)) a b false c bo fun bp bq=>cond (l==0) none (Ro N (y:Int) ba (Int.tmod (wrap .i64 ((wrap .i64 (ba+1))+bp)) l) g a b false c bq fun bb br=>cond ((beq (bb.length) 12)&&(ble 12 12)) (cond ((ble (y+1) 140737488355328)&&(ble ((y+1)*120) 140737488355328)) (k2 (wrap .i64 (av - 1)) br (y+1) ((ax.take (y*12))++((setCells [(.str ([]:Lu)),(.int .i64 0),(.int .i64 0),(.int .i64 0),(.int .i64 0),(.int .i64 0),(.int .i64 0),(.int .i64 0),(.int .i64 0),(.int .i64 0),(.int .i64 0),.nsl] 0 bb).take 12))) none) none))
def HC (k7:Int→Int→Nat→LA→O R) (r0:LA→O R) (a:LA) (b:Nat) (c:Bool) (g:Int) (f d m j q s:Nat) (h i o p r t:LA) (ar ay:Int) (u:Nat) (am:LA):O R :=
 (Ng N (u:Int) (m:Int) (j:Int) a b false c ay fun an bc=>cond ((beq 0 0)&&((beq (an.length) 4)&&(beq 4 4))) (cond ((ble (0+u) 140737488355328)&&(ble ((0+u)*72) 140737488355328)) (cond (ble 4 (an.length)) (cond ((beq ((an.take 4).length) 4)&&(ble 4 4)) (cond ((ble ((0+u)+1) 140737488355328)&&(ble (((0+u)+1)*72) 140737488355328)) (ES N [(.int .i64 g),(.imm (h.take (f*1)) f 1 false true),(.imm (i.take (d*3)) d 3 false true),(.imm (o.take (m*12)) m 12 false true),(.imm (p.take (j*22)) j 22 false true),(.imm (r.take (q*9)) q 9 false true),(.imm (t.take (s*5)) s 5 false true),(.imm (take (((0+u)+1)*4) (((am.take (u*4)).take ((0+u)*4))++((setCells [(.str ([]:Lu)),.nsl,(.bool false),.nsl] 0 (an.take 4)).take 4))) ((0+u)+1) 4 false true)] true fun bs bt=>cond ((beq (bs.length) 3)&&((ble 3 3)&&(!false))) (cond (bt==0) (k7 (wrap .i64 (ar - 1)) bc ((0+u)+1) (((am.take (u*4)).take ((0+u)*4))++((setCells [(.str ([]:Lu)),.nsl,(.bool false),.nsl] 0 (an.take 4)).take 4))) (k7 (wrap .i64 (ar - 1)) bc u am)) none) none) none) none) none) none)
def Vx (N:Nat) (r0:LA→O R) (a:LA) (b:Nat) (c:Bool) (g:Int) (f d m j q s:Nat) (h i o p r t:LA) (k7:Int→Int→Nat→LA→O R) (q8:Int→Int→Nat→LA→O R) (af ao:Int) (w:Nat) (z:LA):O R :=
 (cond ((decide (af>0))==true) (cond (cond true (decide ((m:Int)>0)) false) (q8 af ao w z) (r0 [(.int .i64 g),(.imm (h.take (f*1)) f 1 false false),(.imm (i.take (d*3)) d 3 false false),(.imm (o.take (m*12)) m 12 false false),(.imm (p.take (j*22)) j 22 false false),(.imm (r.take (q*9)) q 9 false false),(.imm (t.take (s*5)) s 5 false false),(.imm (z.take (w*4)) w 4 false false)])) (r0 [(.int .i64 g),(.imm (h.take (f*1)) f 1 false false),(.imm (i.take (d*3)) d 3 false false),(.imm (o.take (m*12)) m 12 false false),(.imm (p.take (j*22)) j 22 false false),(.imm (r.take (q*9)) q 9 false false),(.imm (t.take (s*5)) s 5 false false),(.imm (z.take (w*4)) w 4 false false)]))
def Hq (r0:LA→O R) (a:LA) (b:Nat) (c:Bool) (g:Int) (f d m j q s:Nat) (h i o p r t:LA):Nat→Int→Int→Nat→LA→O R
 | 0,_,_,_,_=>none
 | n+1,af,ao,w,z=>Vx N r0 a b c g f d m j q s h i o p r t (Hq r0 a b c g f d m j q s h i o p r t n) (HC N (Hq r0 a b c g f d m j q s h i o p r t n) r0 a b c g f d m j q s h i o p r t) af ao w z
def LU (r0:LA→O R) (a:LA) (b:Nat) (c:Bool) (g:Int) (f d m j q:Nat) (h i o p r:LA) (q7:Nat→LA→Int→Int→Nat→LA→O R) (ap:Int) (s:Nat) (t:LA):O R :=
 (Ae N 4 a b false c ap fun bu bv=>q7 s t bu bv 0 [])
def HD (r0:LA→O R) (a:LA) (b:Nat) (c:Bool) (g:Int) (f d m j q:Nat) (h i o p r:LA) (ap:Int) (s:Nat) (t:LA):O R:=(LU N r0 a b c g f d m j q h i o p r (fun s t=>Hq N r0 a b c g f d m j q s h i o p r t N) ap s t)
def BP (r0:LA→O R) (l:Int) (a:LA) (b:Nat) (c:Bool) (g:Int) (f d m j:Nat) (h i o p:LA) (q6:Nat→LA→Int→Nat→LA→O R) (aq:Int) (q:Nat) (r:LA):O R :=
 (Ae N 3 a b false c aq fun bw bd=>cond (bw==2) (Ae N l a b false c bd fun bx bz=>Fy N g 12 a b false c bz fun be ca cb=>Fy N g 12 a b false c ca fun bf cc cd=>Fy N g 40 a b false c cc fun bg ce cf=>q6 q r ce 1 [(.str ([116,48]:Lu)),(.int .i64 bx),(.imm (cb.take (be*1)) be 1 false false),(.imm (cd.take (bf*1)) bf 1 false false),(.imm (cf.take (bg*1)) bg 1 false false)]) (q6 q r bd 0 []))
def Zz (r0:LA→O R) (l:Int) (a:LA) (b:Nat) (c:Bool) (g:Int) (f d m j:Nat) (h i o p:LA) (aq:Int) (q:Nat) (r:LA):O R:=(BP N r0 l a b c g f d m j h i o p (fun q r=>HD N r0 a b c g f d m j q h i o p r) aq q r)
def Vy (r0:LA→O R) (l:Int) (a:LA) (b:Nat) (c:Bool) (g:Int) (f d:Nat) (h i:LA) (k4:Int→Int→Nat→Nat→LA→LA→O R) (q5:Nat→Nat→LA→LA→Int→Nat→LA→O R) (ag ah:Int) (m j:Nat) (o p:LA):O R :=
 (cond (decide (ag>0)) (Rp N (j:Int) l g a b false c ah fun bh cg=>cond ((beq (bh.length) 22)&&(ble 22 22)) (cond ((ble (j+1) 140737488355328)&&(ble ((j+1)*216) 140737488355328)) (k4 (wrap .i64 (ag - 1)) cg m (j+1) o ((p.take (j*22))++((setCells [(.str ([]:Lu)),(.int .i64 0),(.int .i64 0),(.int .i64 0),.nsl,(.int .i64 0),(.int .i64 0),(.int .i64 0),(.int .i64 0),(.int .i64 0),(.int .i64 0),(.int .i64 0),(.int .i64 0),(.int .i64 0),(.int .i64 0),(.int .i64 0),(.int .i64 0),(.int .i64 0),.nsl,(.int .i64 0),(.int .i64 0),(.int .i64 0)] 0 bh).take 22))) none) none) (Ae N 3 a b false c ah fun ch bi=>cond (ch==2) (Ae N l a b false c bi fun ci cj=>Ae N 20 a b false c cj fun az ck=>Ae N 8 a b false c ck fun cl cm=>Ae N 8 a b false c cm fun cn co=>Ae N 4 a b false c co fun cp cq=>Ae N (wrap .i64 (az+1)) a b false c cq fun cr cs=>Ae N (wrap .i64 (az+1)) a b false c cs fun ct cu=>q5 m j o p cu 1 [(.str ([115,48]:Lu)),(.int .i64 ci),(.int .i64 az),(.int .i64 cr),(.int .i64 ct),(.int .i64 cl),(.int .i64 cn),(.int .i64 (wrap .i64 (1+cp))),(.int .i64 4)]) (q5 m j o p bi 0 [])))
def N8 (r0:LA→O R) (l:Int) (a:LA) (b:Nat) (c:Bool) (g:Int) (f d:Nat) (h i:LA):Nat→Int→Int→Nat→Nat→LA→LA→O R
 | 0,_,_,_,_,_,_=>none
 | n+1,ag,ah,m,j,o,p=>Vy N r0 l a b c g f d h i (N8 r0 l a b c g f d h i n) (fun m j o p=>Zz N r0 l a b c g f d m j h i o p) ag ah m j o p
def Vz (r0:LA→O R) (l:Int) (a:LA) (b:Nat) (c:Bool) (g:Int) (f d:Nat) (h i:LA) (k2:Int→Int→Nat→LA→O R) (q3:Int→Int→Nat→LA→O R) (q4:Int→Int→Nat→Nat→LA→LA→O R) (ai aa:Int) (ab:Nat) (ac:LA):O R :=
 (cond ((decide (ai>0))==true) (cond (cond true (decide (l>1)) false) (q3 ai aa ab ac) (Ae N 3 a b false c aa fun cv cw=>q4 (wrap .i64 (1+cv)) cw ab 0 ac [])) (Ae N 3 a b false c aa fun cx cy=>q4 (wrap .i64 (1+cx)) cy ab 0 ac []))
def N9 (r0:LA→O R) (l:Int) (a:LA) (b:Nat) (c:Bool) (g:Int) (f d:Nat) (h i:LA):Nat→Int→Int→Nat→LA→O R
 | 0,_,_,_,_=>none
 | n+1,ai,aa,ab,ac=>Vz N r0 l a b c g f d h i (N9 r0 l a b c g f d h i n) (HB N (N9 r0 l a b c g f d h i n) r0 l a b c g f d h i) (N8 N r0 l a b c g f d h i N) ai aa ab ac
def BQ (r0:LA→O R) (a:LA) (b:Nat) (c:Bool) (g:Int) (f d:Nat) (h i:LA) (k1:Int→Int→Int→Nat→LA→O R) (q2:Int→Int→Int→Nat→LA→O R) (l x aj:Int) (v:Nat) (ak:LA):O R :=
 (cond (decide (x<l)) (Ae N x a b false c aj fun cz da=>Ro N (v:Int) cz x g a b false c da fun bj db=>cond ((beq (bj.length) 12)&&(ble 12 12)) (cond ((ble (v+1) 140737488355328)&&(ble ((v+1)*120) 140737488355328)) (k1 l (wrap .i64 (x+1)) db (v+1) ((ak.take (v*12))++((setCells [(.str ([]:Lu)),(.int .i64 0),(.int .i64 0),(.int .i64 0),(.int .i64 0),(.int .i64 0),(.int .i64 0),(.int .i64 0),(.int .i64 0),(.int .i64 0),(.int .i64 0),.nsl] 0 bj).take 12))) none) none) (Ae N 5 a b false c aj fun dc dd=>q2 l dc dd v ak))
def T1 (r0:LA→O R) (a:LA) (b:Nat) (c:Bool) (g:Int) (f d:Nat) (h i:LA):Nat→Int→Int→Int→Nat→LA→O R
 | 0,_,_,_,_,_=>none
 | n+1,l,x,aj,v,ak=>BQ N r0 a b c g f d h i (T1 r0 a b c g f d h i n) (fun l=>N9 N r0 l a b c g f d h i N) l x aj v ak
def V0 (r0:LA→O R) (a:LA) (b:Nat) (c:Bool) (f:Nat) (h:LA) (k0:Int→Int→Int→Nat→LA→O R) (q1:Int→Nat→LA→Int→Int→Int→Nat→LA→O R) (ad al g:Int) (d:Nat) (i:LA):O R :=
 (cond (decide (ad>0)) (FT N ([98]:Lu) (d:Int) fun bk=>Fy N g 14 a b false c al fun au de bl=>Ae N 2 a b false c de fun df bm=>cond (df==1) (Ae N 200 a b false c bm fun dg dh=>cond ((ble (d+1) 140737488355328)&&(ble ((d+1)*48) 140737488355328)) (k0 (wrap .i64 (ad - 1)) dh g (d+1) ((i.take (d*3))++[(.str bk),(.imm (bl.take (au*1)) au 1 false false),(.int .i64 (wrap .i64 (100+dg)))])) none) (cond ((ble (d+1) 140737488355328)&&(ble ((d+1)*48) 140737488355328)) (k0 (wrap .i64 (ad - 1)) bm g (d+1) ((i.take (d*3))++[(.str bk),(.imm (bl.take (au*1)) au 1 false false),(.int .i64 0)])) none)) (q1 g d i (d:Int) 1 al 0 []))
def Lk (r0:LA→O R) (a:LA) (b:Nat) (c:Bool) (f:Nat) (h:LA):Nat→Int→Int→Int→Nat→LA→O R
 | 0,_,_,_,_,_=>none
 | n+1,ad,al,g,d,i=>V0 N r0 a b c f h (Lk r0 a b c f h n) (fun g d i=>T1 N r0 a b c g f d h i N) ad al g d i
def UK (r0:LA→O R) (q0:Nat→LA→Int→Int→Int→Nat→LA→O R) (a:LA) (b:Nat) (ae c:Bool):O R :=
 (rD N a b false c (Ae N 3 a b false c 0 fun bn di=>Fy N (wrap .i64 (1+bn)) 5 a b false c di fun f dj h=>Ae N 4 a b false c dj fun dk dl=>q0 f h (wrap .i64 (1+dk)) dl (wrap .i64 (1+bn)) 0 []))
def BR:=(At fun N a b ae c r0=>UK (R:=R) N r0 (fun f h=>Lk N r0 a b c f h N) a b ae c).1
theorem aI (a b ae c r0):(@BR R N a b ae c r0)=(UK N r0 (fun f h=>Lk N r0 a b c f h N) a b ae c):=by rw[BR,(At _).2]
def gS:Hints:={ H:=(hK 4 (hS (hK 1 (hS (hP [2,3,4,5] hL) hL)) (hK 1 (hS (hK 1 (hS (hP [2,3,4,7,8] hL) hL)) (hS (hK 1 (hS (hP [2,3,4,7,9] (hJ [2,3,4,7,9] hL hL)) hL)) (hS (hK 1 (hS (hP [2,3,4,7,11] hL) hL)) (hJ [2,3,4,7] hL (hJ [2,3,4] hL (hS (hK 1 (hS (hP [2,3,4,13] (hJ [2,3,4,13] hL hL)) hL)) hL))))))))),modes:=[(3,0)],cob:=[23,44,192] }
def jt:EZ:=[vW N,J5 N,bL N,NA N,fJ N,fK N,WK N,pS N]
def Ll (F:KF R):=Tj Tryz.f13 gS (jt N) [] N F
def r6 (l:Int) (a:LA) (b:Nat) (c:Bool) (g:Int) (f d:Nat) (h i:LA) (K:St→O R):=fun av aw y ax=>K ⟨[(2,(op 0)),(3,(op 1)),(4,(op 2)),(7,(iv l)),(9,(iv av))],(hq [(bN 0 [(iv 0),.nsl,.nsl,.nsl,.nsl,.nsl,.nsl,.nsl]),(bN 0 [(.imm a b 1 false c),(iv aw)]),(bN 0 [(iv g),(.own 300003 0 f),(.own 300004 0 d),(.own 300005 0 y),(.own 300006 0 0),(.own 300007 0 0),(.own 300008 0 0),(.own 300009 0 0)]),(bQ 1 h),(bQ 3 i),(bQ 12 ax),(bQ 22 []),(bQ 9 []),(bQ 5 []),(bQ 4 [])])⟩
def r7 (a:LA) (b:Nat) (c:Bool) (g:Int) (f d m j q s:Nat) (h i o p r t:LA) (K:St→O R):=fun ar ay u am=>K ⟨[(2,(op 0)),(3,(op 1)),(4,(op 2)),(13,(iv ar))],(hq [(bN 0 [(iv 0),.nsl,.nsl,.nsl,.nsl,.nsl,.nsl,.nsl]),(bN 0 [(.imm a b 1 false c),(iv ay)]),(bN 0 [(iv g),(.own 300003 0 f),(.own 300004 0 d),(.own 300005 0 m),(.own 300006 0 j),(.own 300007 0 q),(.own 300008 0 s),(.own 300009 0 u)]),(bQ 1 h),(bQ 3 i),(bQ 12 o),(bQ 22 p),(bQ 9 r),(bQ 5 t),(bQ 4 am)])⟩
def gT (a:LA) (b:Nat) (c:Bool) (g:Int) (f d m j q s:Nat) (h i o p r t:LA) (K:St→O R):=fun af ao w z=>K ⟨[(2,(op 0)),(3,(op 1)),(4,(op 2)),(13,(iv af))],(hq [(bN 0 [(iv 0),.nsl,.nsl,.nsl,.nsl,.nsl,.nsl,.nsl]),(bN 0 [(.imm a b 1 false c),(iv ao)]),(bN 0 [(iv g),(.own 300003 0 f),(.own 300004 0 d),(.own 300005 0 m),(.own 300006 0 j),(.own 300007 0 q),(.own 300008 0 s),(.own 300009 0 w)]),(bQ 1 h),(bQ 3 i),(bQ 12 o),(bQ 22 p),(bQ 9 r),(bQ 5 t),(bQ 4 z)])⟩
def r8 (a:LA) (b:Nat) (c:Bool) (g:Int) (f d m j q:Nat) (h i o p r:LA) (K:St→O R):=fun ap s t=>K ⟨[(2,(op 0)),(3,(op 1)),(4,(op 2))],(hq [(bN 0 [(iv 0),.nsl,.nsl,.nsl,.nsl,.nsl,.nsl,.nsl]),(bN 0 [(.imm a b 1 false c),(iv ap)]),(bN 0 [(iv g),(.own 300003 0 f),(.own 300004 0 d),(.own 300005 0 m),(.own 300006 0 j),(.own 300007 0 q),(.own 300008 0 s),(.own 300009 0 0)]),(bQ 1 h),(bQ 3 i),(bQ 12 o),(bQ 22 p),(bQ 9 r),(bQ 5 t),(bQ 4 [])])⟩
def r9 (l:Int) (a:LA) (b:Nat) (c:Bool) (g:Int) (f d m j:Nat) (h i o p:LA) (K:St→O R):=fun aq q r=>K ⟨[(2,(op 0)),(3,(op 1)),(4,(op 2)),(7,(iv l))],(hq [(bN 0 [(iv 0),.nsl,.nsl,.nsl,.nsl,.nsl,.nsl,.nsl]),(bN 0 [(.imm a b 1 false c),(iv aq)]),(bN 0 [(iv g),(.own 300003 0 f),(.own 300004 0 d),(.own 300005 0 m),(.own 300006 0 j),(.own 300007 0 q),(.own 300008 0 0),(.own 300009 0 0)]),(bQ 1 h),(bQ 3 i),(bQ 12 o),(bQ 22 p),(bQ 9 r),(bQ 5 []),(bQ 4 [])])⟩
def r_ (l:Int) (a:LA) (b:Nat) (c:Bool) (g:Int) (f d:Nat) (h i:LA) (K:St→O R):=fun ag ah m j o p=>K ⟨[(2,(op 0)),(3,(op 1)),(4,(op 2)),(7,(iv l)),(11,(iv ag))],(hq [(bN 0 [(iv 0),.nsl,.nsl,.nsl,.nsl,.nsl,.nsl,.nsl]),(bN 0 [(.imm a b 1 false c),(iv ah)]),(bN 0 [(iv g),(.own 300003 0 f),(.own 300004 0 d),(.own 300005 0 m),(.own 300006 0 j),(.own 300007 0 0),(.own 300008 0 0),(.own 300009 0 0)]),(bQ 1 h),(bQ 3 i),(bQ 12 o),(bQ 22 p),(bQ 9 []),(bQ 5 []),(bQ 4 [])])⟩
def gU (l:Int) (a:LA) (b:Nat) (c:Bool) (g:Int) (f d:Nat) (h i:LA) (K:St→O R):=fun ai aa ab ac=>K ⟨[(2,(op 0)),(3,(op 1)),(4,(op 2)),(7,(iv l)),(9,(iv ai))],(hq [(bN 0 [(iv 0),.nsl,.nsl,.nsl,.nsl,.nsl,.nsl,.nsl]),(bN 0 [(.imm a b 1 false c),(iv aa)]),(bN 0 [(iv g),(.own 300003 0 f),(.own 300004 0 d),(.own 300005 0 ab),(.own 300006 0 0),(.own 300007 0 0),(.own 300008 0 0),(.own 300009 0 0)]),(bQ 1 h),(bQ 3 i),(bQ 12 ac),(bQ 22 []),(bQ 9 []),(bQ 5 []),(bQ 4 [])])⟩
def ra (a:LA) (b:Nat) (c:Bool) (g:Int) (f d:Nat) (h i:LA) (K:St→O R):=fun l x aj v ak=>K ⟨[(2,(op 0)),(3,(op 1)),(4,(op 2)),(7,(iv l)),(8,(iv x))],(hq [(bN 0 [(iv 0),.nsl,.nsl,.nsl,.nsl,.nsl,.nsl,.nsl]),(bN 0 [(.imm a b 1 false c),(iv aj)]),(bN 0 [(iv g),(.own 300003 0 f),(.own 300004 0 d),(.own 300005 0 v),(.own 300006 0 0),(.own 300007 0 0),(.own 300008 0 0),(.own 300009 0 0)]),(bQ 1 h),(bQ 3 i),(bQ 12 ak),(bQ 22 []),(bQ 9 []),(bQ 5 []),(bQ 4 [])])⟩
def rb (a:LA) (b:Nat) (c:Bool) (f:Nat) (h:LA) (K:St→O R):=fun ad al g d i=>K ⟨[(2,(op 0)),(3,(op 1)),(4,(op 2)),(5,(iv ad))],(hq [(bN 0 [(iv 0),.nsl,.nsl,.nsl,.nsl,.nsl,.nsl,.nsl]),(bN 0 [(.imm a b 1 false c),(iv al)]),(bN 0 [(iv g),(.own 300003 0 f),(.own 300004 0 d),(.own 300005 0 0),(.own 300006 0 0),(.own 300007 0 0),(.own 300008 0 0),(.own 300009 0 0)]),(bQ 1 h),(bQ 3 i),(bQ 12 []),(bQ 22 []),(bQ 9 []),(bQ 5 []),(bQ 4 [])])⟩
theorem ii (Q2) (F:KF R) (l a b c g f d h i):r6 l a b c g f d h i (D5 (Ll N F (pz 22369345) [Q2]))=(HB N (gU l a b c g f d h i Q2) (CJ F) l a b c g f d h i):=by kernel_rfl
theorem ij (Q7) (F:KF R) (a b c g f d m j q s h i o p r t):r7 a b c g f d m j q s h i o p r t (D5 (Ll N F (pz 5726622785) [Q7]))=(HC N (gT a b c g f d m j q s h i o p r t Q7) (CJ F) a b c g f d m j q s h i o p r t):=by kernel_rfl
theorem ik (F:KF R) (a b c g f d m j q s h i o p r t):∀ n,gT a b c g f d m j q s h i o p r t (Ao (Ll N F (pz 357913924) []) n)=(Hq N (CJ F) a b c g f d m j q s h i o p r t n):=Ev fun n e=>(Sq (Vx N (CJ F) a b c g f d m j q s h i o p r t) e ((jW ..).trans ((ij ..).trans (iI (HC _ · _ _ _ _ _ _ _ _ _ _ _ _ _ _ _ _ _) e))):_)
theorem io (F:KF R) (a b c g f d m j q h i o p r):r8 a b c g f d m j q h i o p r (D5 (Ll N F (pz 5592405) []))=(HD N (CJ F) a b c g f d m j q h i o p r):=(Ee (LU N (CJ F) a b c g f d m j q h i o p r) (Yo fun s t=>(lW ..).trans (ik ..)):_)
theorem ip (F:KF R) (l a b c g f d m j h i o p):r9 l a b c g f d m j h i o p (D5 (Ll N F (pz 1398101) []))=(Zz N (CJ F) l a b c g f d m j h i o p):=(Ee (BP N (CJ F) l a b c g f d m j h i o p) (Yo fun q r=>(jW ..).trans (io ..)):_)
theorem iq (F:KF R) (l a b c g f d h i):∀ n,r_ l a b c g f d h i (Ao (Ll N F (pz 5592388) []) n)=(N8 N (CJ F) l a b c g f d h i n):=Ev fun n e=>(Sq (Vy N (CJ F) l a b c g f d h i) e (tk fun m j o p=>(jW ..).trans (ip ..)):_)
theorem iw (F:KF R) (l a b c g f d h i):∀ n,gU l a b c g f d h i (Ao (Ll N F (pz 1398084) []) n)=(N9 N (CJ F) l a b c g f d h i n):=Ev fun n e=>(Aau (Vz N (CJ F) l a b c g f d h i) e ((jW ..).trans ((ii ..).trans (iI (HB _ · _ _ _ _ _ _ _ _ _ _) e))) ((lW ..).trans (iq ..)):_)
theorem ix (F:KF R) (a b c g f d h i):∀ n,ra a b c g f d h i (Ao (Ll N F (pz 349508) []) n)=(T1 N (CJ F) a b c g f d h i n):=Ev fun n e=>(Sq (BQ N (CJ F) a b c g f d h i) e (xw fun l=>(lW ..).trans (iw ..)):_)
theorem iy (F:KF R) (a b c f h):∀ n,rb a b c f h (Ao (Ll N F (pz 21828) []) n)=(Lk N (CJ F) a b c f h n):=Ev fun n e=>(Sq (V0 N (CJ F) a b c f h) e (ym fun g d i=>(lW ..).trans (ix ..)):_)
def uM:=Jl N 13 (jt N) gS (fun
 | [(.imm a b 1 ae c)],[]=>some fun _ k=>BR N a b ae c (CJ k)
 | _,_=>none) fun _ _=>by split;intro R F;exact(Ee (UK N (CJ F) · _ _ _ _) (Yo fun f h=>(lW ..).trans (iy ..)):_).trans (aI ..).symm;trivial
end
end Gx
namespace Gx.Cf
open Go Go.Proofs
section
variable {R:Type}
theorem wA {N:Nat} {c:CaseD} {p:I6} {o:Bool} {j:Nat} {K:Int→LA→O R} {K2:LA→Int→O R} (hs:Small c N) (h:j<c.buses.l.length) :
  Se N K K2 o c.av (j:Int) (C4 p)=K ((j+1:Nat):Int) (C4 (wu c j c.buses.l[j] p)):=by
 have hN:=hs.n64
 have hN8:8≤N:=by omega
 have d:=hs.bus
 have q:c.buses.l[j] ∈ c.buses.l:=Ad9 h
 have s:=hs.dem _ q
 have e:=@Dr R N c (c.buses.l.map (·.name)) o (k:=1) (n:=j) (hN:=hN) (hL:=fun K=>BD hs) (hn:=by simpa using h) (hs:=⟨by have:=d.1;omega,by have:=d.2;omega⟩)
 have m:(c.buses.l.map (·.name))[j]'(by simpa using h)=c.buses.l[j].name:=by simp
 rw[m] at e
 unfold Se
 simp only[Dx,Bx,ct,e,Bi]
 rw[Ab h,ct,Ad2,Be Kb _ _ h]
 generalize c.buses.l[j]=b at *
 have t:∀ (r:LA) (f:LA→Nat→O R),A6 1 (drop 1 (b.av++r)) f=f (Az b.demand.l) b.demand.l.length:=fun r f=>by simp[BusD.av,Bn,A4]
 have u:∀ (r:LA) (f:Int→O R),Av .i64 (drop 2 (b.av++r)) f=f b.shed:=fun r f=>by simp[BusD.av,Cp]
 rw[t,Ec rfl s,ct,u,Dz hN8,Ad (by decide),Ez (by have:=d.2;omega)]
 rfl
theorem mW {p:I6} {K:LA→Int→O R}:(cond (ble 3 (List.length (C4 p))) (Av .i64 (drop 3 (C4 p)) fun x38=>cond ((beq (List.length (take 3 (C4 p))) 3)&&((ble 3 3)&&(!false))) (cond (ble 3 (List.length (setCells [(.int .i64 (0:Int)),(.int .i64 (0:Int)),(.int .i64 (0:Int))] 0 (take 3 (C4 p))))) (K (take 3 (setCells [(.int .i64 (0:Int)),(.int .i64 (0:Int)),(.int .i64 (0:Int))] 0 (take 3 (C4 p)))) x38) none) none) none)=K (w3 p) (H1 p):=by
 rcases p with _ | ⟨⟨a,b,f⟩,e,d⟩<;>simp[C4,vV,w3,H1,Ew,setCells,Gt,Cp]
theorem aJ {N:Nat} {c:CaseD} {o:Bool} {K:LA→Int→O R} (hs:Small c N):∀ (m j fuel:Nat) (p:I6),j+m=c.buses.l.length→m<fuel →
  Iq N K o c.av fuel (j:Int) (C4 p)=Li N K o c.av N 0 (C4 (Gj (wu c) (c.buses.l.drop j) j p))
 | 0,j,fuel+1,p,f,_=>by
  rw[Iq];unfold U0
  rw[Bi,F9 (by omega),O8 (l:=c.buses.l) (by omega),Gj];rfl
 | m+1,j,fuel+1,p,f,q=>by
  rw[Iq];unfold U0
  have h:j<c.buses.l.length:=by omega
  have d:=hs.bus
  rw[Bi,Fn h,CS,Ka (l:=c.buses.l) h,Gj]
  rcases p with _ | ⟨x,e,k⟩
  ·simp only[H1,beq_self_eq_true,cond_true]
   rw[wA hs h,aJ hs m (j+1) fuel _ (by omega) (by omega)]
  ·have n:(e==0)=false:=by simpa using k
   simp only[H1,n,beq_self_eq_true,cond_true,cond_false]
   rw[XH,Nu (fun _ _=>XH _ _ _)]
theorem aK {N:Nat} {c:CaseD} {o:Bool} {K:LA→Int→O R} (hs:Small c N):∀ (m j fuel:Nat) (p:I6),j+m=c.lines.l.length→m<fuel →
  Li N K o c.av fuel (j:Int) (C4 p)=Lh N K o c.av N 0 (C4 (Gj (jl c) (c.lines.l.drop j) j p))
 | 0,j,fuel+1,p,f,_=>by
  rw[Li];unfold Uz
  rw[C1,F9 (by omega),O8 (l:=c.lines.l) (by omega),Gj];rfl
 | m+1,j,fuel+1,p,f,q=>by
  rw[Li];unfold Uz
  have h:j<c.lines.l.length:=by omega
  have d:=hs.lin
  rw[C1,Fn h,CS,Ka (l:=c.lines.l) h,Gj]
  rcases p with _ | ⟨x,e,k⟩
  ·simp only[H1,beq_self_eq_true,cond_true]
   rw[Dx,ct,Bx,JD hs h,Ez (by have:=d.2;omega),aK hs m (j+1) fuel _ (by omega) (by omega)]
  ·have n:(e==0)=false:=by simpa using k
   simp only[H1,n,beq_self_eq_true,cond_true,cond_false]
   rw[RL,Nu (fun _ _=>RL _ _ _)]
theorem aL {N:Nat} {c:CaseD} {o:Bool} {K:LA→Int→O R} (hs:Small c N):∀ (m j fuel:Nat) (p:I6),j+m=c.units.l.length→m<fuel →
  Lh N K o c.av fuel (j:Int) (C4 p)=Lg N K o c.av N 0 (C4 (Gj (oe c) (c.units.l.drop j) j p))
 | 0,j,fuel+1,p,f,_=>by
  rw[Lh];unfold Uy
  rw[Dd,F9 (by omega),O8 (l:=c.units.l) (by omega),Gj];rfl
 | m+1,j,fuel+1,p,f,q=>by
  rw[Lh];unfold Uy
  have h:j<c.units.l.length:=by omega
  have d:=hs.uni
  rw[Dd,Fn h,CS,Ka (l:=c.units.l) h,Gj]
  rcases p with _ | ⟨x,e,k⟩
  ·simp only[H1,beq_self_eq_true,cond_true]
   rw[Dx,ct,Bx,JE hs h,Ez (by have:=d.2;omega),aL hs m (j+1) fuel _ (by omega) (by omega)]
  ·have n:(e==0)=false:=by simpa using k
   simp only[H1,n,beq_self_eq_true,cond_true,cond_false]
   rw[RM,Nu (fun _ _=>RM _ _ _)]
theorem aM {N:Nat} {c:CaseD} {o:Bool} {K:LA→Int→O R} (hs:Small c N):∀ (m j fuel:Nat) (p:I6),j+m=c.stores.l.length→m<fuel →
  Lg N K o c.av fuel (j:Int) (C4 p)=Lf N K o c.av N 0 (C4 (Gj (f9 c) (c.stores.l.drop j) j p))
 | 0,j,fuel+1,p,f,_=>by
  rw[Lg];unfold Ux
  rw[Eb,F9 (by omega),O8 (l:=c.stores.l) (by omega),Gj];rfl
 | m+1,j,fuel+1,p,f,q=>by
  rw[Lg];unfold Ux
  have h:j<c.stores.l.length:=by omega
  have d:=hs.sto
  rw[Eb,Fn h,CS,Ka (l:=c.stores.l) h,Gj]
  rcases p with _ | ⟨x,e,k⟩
  ·simp only[H1,beq_self_eq_true,cond_true]
   rw[Dx,ct,Bx,GZ hs h,Ez (by have:=d.2;omega),aM hs m (j+1) fuel _ (by omega) (by omega)]
  ·have n:(e==0)=false:=by simpa using k
   simp only[H1,n,beq_self_eq_true,cond_true,cond_false]
   rw[LQ,Nu (fun _ _=>LQ _ _ _)]
theorem aN {N:Nat} {c:CaseD} {o:Bool} {K:LA→Int→O R} (hs:Small c N):∀ (m j fuel:Nat) (p:I6),j+m=c.ties.l.length→m<fuel →
  Lf N K o c.av fuel (j:Int) (C4 p)=Le N K o c.av N 0 (C4 (Gj (wv c) (c.ties.l.drop j) j p))
 | 0,j,fuel+1,p,f,_=>by
  rw[Lf];unfold Uw
  rw[Gy,F9 (by omega),O8 (l:=c.ties.l) (by omega),Gj];rfl
 | m+1,j,fuel+1,p,f,q=>by
  rw[Lf];unfold Uw
  have h:j<c.ties.l.length:=by omega
  have d:=hs.tie
  rw[Gy,Fn h,CS,Ka (l:=c.ties.l) h,Gj]
  rcases p with _ | ⟨x,e,k⟩
  ·simp only[H1,beq_self_eq_true,cond_true]
   rw[Dx,ct,Bx,LM hs h,Ez (by have:=d.2;omega),aN hs m (j+1) fuel _ (by omega) (by omega)]
  ·have n:(e==0)=false:=by simpa using k
   simp only[H1,n,beq_self_eq_true,cond_true,cond_false]
   rw[XI,Nu (fun _ _=>XI _ _ _)]
theorem aO {N:Nat} {c:CaseD} {o:Bool} {K:LA→Int→O R} (hs:Small c N):∀ (m j fuel:Nat) (p:I6),j+m=c.outs.l.length→m<fuel →
  Le N K o c.av fuel (j:Int) (C4 p)=D1 N K o c.av N 0 (C4 (Gj (uG c) (c.outs.l.drop j) j p))
 | 0,j,fuel+1,p,f,_=>by
  rw[Le];unfold Uv
  rw[Fb,F9 (by omega),O8 (l:=c.outs.l) (by omega),Gj];rfl
 | m+1,j,fuel+1,p,f,q=>by
  rw[Le];unfold Uv
  have h:j<c.outs.l.length:=by omega
  have d:=hs.out
  rw[Fb,Fn h,CS,Ka (l:=c.outs.l) h,Gj]
  rcases p with _ | ⟨x,e,k⟩
  ·simp only[H1,beq_self_eq_true,cond_true]
   rw[Dx,ct,Bx,ER hs h,Ez (by have:=d.2;omega),aO hs m (j+1) fuel _ (by omega) (by omega)]
  ·have n:(e==0)=false:=by simpa using k
   simp only[H1,n,beq_self_eq_true,cond_true,cond_false]
   rw[WY,Nu (fun _ _=>WY)]
def Z0 (ol:List Int):List Int→Nat→List Int
 | [],_=>[]
 | a::r,j=>cond (ol.contains a) ((j:Int)::Z0 ol r (j+1)) (Z0 ol r (j+1))
theorem pT (ol:List Int):∀ (l:List Int) (j:Nat) (x:Int),x ∈ Z0 ol l j→(j:Int)≤x
 | [],_,_,h=>by simp[Z0] at h
 | a::r,j,x,h=>by
  rw[Z0] at h
  have d:=pT ol r (j+1) x
  cases hx:ol.contains a<;>rw[hx] at h<;>simp at h
  ·have:=d h;omega
  ·rcases h with rfl | h
   ·omega
   ·have:=d h;omega
theorem XK {f:Int→Nat×Nat} (ol:List Int):∀ (l:List Int) (j:Nat) (pre:List Int),(∀ x ∈ pre,x<(j:Int))→UG (pre++Z0 ol l j) (l.map f) j=((l.filter fun a=>!ol.contains a).map f)
 | [],_,_,_=>rfl
 | a::r,j,pre,m=>by
  rw[Ad5,UG,Z0,Agi]
  have e:¬ (j:Int) ∈ pre:=fun h=>by have:=m _ h;omega
  cases hx:ol.contains a with
  | true =>
   have n:(pre++cond true ((j:Int)::Z0 ol r (j+1)) (Z0 ol r (j+1))).contains (j:Int)=true:=by simp
   rw[n]
   have:=XK (f:=f) ol r (j+1) (pre++[(j:Int)]) (by
    intro x d
    rcases Ad7.1 d with k | k
    ·have:=m x k;omega
    ·simp at k;omega)
   simp only[cond_true,Agm,Agc,if_false]
   rw[←this];simp
  | false =>
   have n:(pre++cond false ((j:Int)::Z0 ol r (j+1)) (Z0 ol r (j+1))).contains (j:Int)=false:=by
    simp only[cond_false]
    rw[List.contains_eq_mem]
    simp only[decide_eq_false_iff_not,Ad7,not_or]
    exact⟨e,fun k=>by have:=pT ol r (j+1) _ k;omega⟩
   rw[n]
   have:=XK (f:=f) ol r (j+1) pre (by intro x d;have:=m x d;omega)
   simp only[cond_false,Af1,if_true,Ad5]
   rw[this]
theorem HE {N:Nat} {c:CaseD} {o:Bool} {hr:Int} {j:Nat} {p:I6} {K7:Int→LA→O R} {K9:Int→Int→LA→O R} {K:LA→Int→O R} (hs:Small c N) (hN:4096≤N) (v:PreV c) (h:j<c.outs.l.length):∀ (m q fuel:Nat) (A:List Int),q+m=(A8 c hr).length→m<fuel→A.length≤q →
  A++Z0 c.outs.l[j].lines.l ((A8 c hr).drop q) q=Z0 c.outs.l[j].lines.l (A8 c hr) 0 →
  Jb N K7 K9 K (A8 c hr).length (A8 c hr).length o c.av (((A8 c hr).map (H4 c)).flatMap Bv) (Az (A8 c hr)) fuel hr (j:Int) A.length (q:Int) (C4 p) (Az A)=K9 hr ((j+1:Nat):Int) (C4 (vz c hr j c.outs.l[j] p))
 | 0,q,fuel+1,A,hq,_,hA,d=>by
  rw[Jb];unfold Sf
  have D:=LN hr c.lines.l 0
  have F:=v.nl
  have k:=v.nb
  have n:=hs.out
  have M:c.buses.l.length*c.buses.l.length≤32*32:=Nat.mul_le_mul k k
  have s:(A8 c hr).length≤64:=by unfold A8;omega
  rw[O8 (l:=A8 c hr) (by omega),Z0,Aej] at d
  have z:∀ e ∈ (A8 c hr).map (H4 c),e.1<c.buses.l.length∧e.2<c.buses.l.length:=by
   intro e z
   simp only[Aef] at z
   obtain⟨l,G,rfl⟩:=z
   obtain⟨x,hx⟩:=v.lnV G
   rw[sv hx];exact⟨hx.f1,hx.t1⟩
  rw[F9 (by omega),cf,Bi,Ad0 (by rw[NK];simp),Aeh,Ad0 (by rw[Kh];exact Ad4 _),
   gR (by simp) rfl (by simp;omega) (by simp;omega) (by omega) (by omega) z ⟨by omega,by omega⟩,Ad (by decide),Ez (by have:=n.2;omega)]
  have e1:UG A ((A8 c hr).map (H4 c)) 0=(((A8 c hr).filter fun a=>!c.outs.l[j].lines.l.contains a).map (H4 c)):=by
   rw[d]
   have:=XK (f:=H4 c) c.outs.l[j].lines.l (A8 c hr) 0 [] (by simp)
   simpa using this
  rw[e1]
  have I:Vw c.buses.l.length ((A8 c hr).map (H4 c))≤Vw c.buses.l.length (((A8 c hr).filter fun a=>!c.outs.l[j].lines.l.contains a).map (H4 c)):=rX (by
   intro e t
   simp only[Aef,Af6] at t ⊢
   obtain⟨l,⟨G,_⟩,rfl⟩:=t
   exact⟨l,G,rfl⟩)
  have S:(!decide ((Vw c.buses.l.length (((A8 c hr).filter fun a=>!c.outs.l[j].lines.l.contains a).map (H4 c)):Int)>(Vw c.buses.l.length ((A8 c hr).map (H4 c)):Int)))=vw c hr c.outs.l[j]:=by
   unfold vw
   generalize Vw c.buses.l.length ((A8 c hr).map (H4 c))=x at *
   generalize Vw c.buses.l.length (((A8 c hr).filter fun a=>!c.outs.l[j].lines.l.contains a).map (H4 c))=y at *
   by_cases L:x=y
   ·subst L;simp
   ·have a1:((y:Int)==(x:Int))=false:=by simp;omega
    rw[a1];simp;omega
  rw[S];rfl
 | m+1,q,fuel+1,A,hq,hf,hA,d=>by
  rw[Jb];unfold Sf
  have u:q<(A8 c hr).length:=by omega
  have D:=LN hr c.lines.l 0
  have F:=v.nl
  have s:(A8 c hr).length≤64:=by unfold A8;omega
  have T:c.outs.l[j] ∈ c.outs.l:=Ad9 h
  have U:=hs.oli _ T
  have V:∀ (f:LA→Nat→O R),A6 1 (drop 1 (drop (j*4) (List.flatMap OutD.av c.outs.l))) f=f (Az c.outs.l[j].lines.l) c.outs.l[j].lines.l.length:=fun f=>by rw[Be Nt _ _ h];simp[OutD.av,Bn,A4]
  have X:(ble (A.length+1) 140737488355328&&ble ((A.length+1)*8) 140737488355328)=true:=by rw[Ew,Ew];simp;omega
  have Y:take (A.length*1) (Az A)++[.int .i64 (q:Int)]=Az (A++[(q:Int)]):=mN (B:=[(q:Int)]) rfl
  rw[Fn u,ct,Fb,Ab h,ct,Ad2,V,Ab u,ct,vt (by simpa using u),Ad2,G_ u,GG rfl U,X,ct,Y,Ez (by omega)]
  rw[Ka u,Z0] at d
  cases hx:c.outs.l[j].lines.l.contains (A8 c hr)[q] with
  | true =>
   rw[hx] at d
   have C:=HE (o:=o) (hr:=hr) (j:=j) (p:=p) (K7:=K7) (K9:=K9) (K:=K) hs hN v h m (q+1) fuel (A++[(q:Int)]) (by omega) (by omega) (by simp;omega) (by simpa using d)
   rw[Adw] at C
   simpa using C
  | false =>
   rw[hx] at d
   have C:=HE (o:=o) (hr:=hr) (j:=j) (p:=p) (K7:=K7) (K9:=K9) (K:=K) hs hN v h m (q+1) fuel A (by omega) (by omega) (by omega) (by simpa using d)
   simpa using C
theorem aP {N:Nat} {c:CaseD} {o:Bool} {hr:Int} {K7:Int→LA→O R} {K:LA→Int→O R} (hs:Small c N) (hN:4096≤N) (v:PreV c):∀ (m j fuel:Nat) (p:I6),j+m=c.outs.l.length→m<fuel →
  Ip N K7 K (A8 c hr).length (A8 c hr).length o c.av (((A8 c hr).map (H4 c)).flatMap Bv) (Az (A8 c hr)) fuel hr (j:Int) (C4 p)=K7 (wrap .i64 (hr+1)) (C4 (Gj (vz c hr) (c.outs.l.drop j) j p))
 | 0,j,fuel+1,p,d,_=>by
  rw[Ip];unfold Uu
  rw[Fb,F9 (by omega),cf,O8 (l:=c.outs.l) (by omega),Gj]
 | m+1,j,fuel+1,p,d,n=>by
  rw[Ip];unfold Uu
  have h:j<c.outs.l.length:=by omega
  have e:=LN hr c.lines.l 0
  have f:=v.nl
  have k:=aP (o:=o) (hr:=hr) (K7:=K7) (K:=K) hs hN v m (j+1) fuel (vz c hr j c.outs.l[j] p) (by omega) (by omega)
  have l10:=HE (R:=R) (N:=N) (c:=c) (o:=o) (hr:=hr) (j:=j) (p:=p) (K7:=K7) (K9:=Ip N K7 K (A8 c hr).length (A8 c hr).length o c.av (((A8 c hr).map (H4 c)).flatMap Bv) (Az (A8 c hr)) fuel) (K:=K) hs hN v h (A8 c hr).length 0 N [] (by omega) (by unfold A8;omega) (by simp) (by simp)
  rw[Fb,Fn h,ct,Ka (l:=c.outs.l) h,Gj,←k,←l10]
  rfl
theorem aQ {N H:Nat} {c:CaseD} {o:Bool} {K:LA→Int→O R} (hs:Small c N) (hN:4096≤N) (v:PreV c) (hH:c.hours=(H:Int)):∀ (m j fuel:Nat) (p:I6),j+m=H→m<fuel →
  D1 N K o c.av fuel (j:Int) (C4 p)=K (w3 (RN c m j p)) (H1 (RN c m j p))
 | 0,j,fuel+1,p,d,_=>by
  rw[D1];unfold Pz
  rw[Dc,hH,F9 (by omega),mW,RN];rfl
 | m+1,j,fuel+1,p,d,q=>by
  rw[D1];unfold Pz Yd CT
  have s:=v.hours
  rw[Dc,hH,Fn (by omega),CS,mW]
  rcases p with _ | ⟨x,e,f⟩
  ·simp only[H1,beq_self_eq_true,cond_true]
   have l9:=aP (R:=R) (N:=N) (c:=c) (o:=o) (hr:=(j:Int)) (K7:=D1 N K o c.av fuel) (K:=K) hs hN v c.outs.l.length 0 N none (by omega) hs.out.1
   rw[Dx,ct,Bx,rZ hs (fun l k=>v.lnV k)]
   simp only[Aeg,Af9] at l9
   rw[l9,Ez (by omega),aQ hs hN v hH m (j+1) fuel _ (by omega) (by omega)];rfl
  ·have n:(e==0)=false:=by simpa using f
   simp only[H1,n,beq_self_eq_true,cond_true,cond_false]
   rw[aG]
theorem pU {N:Nat} {c:CaseD} {o:Bool} {y:(Int×Int×Int)×{ e:Int // e≠0 }} {K:LA→Int→O R} {fuel:Nat}:D1 N K o c.av (fuel+1) 0 (C4 (some y))=K (w3 (some y)) (H1 (some y)):=by
 rw[D1];unfold Pz
 rw[Dc,CS,mW]
 have d:(y.2.1==0)=false:=by simpa using y.2.2
 cases decide ((0:Int)<c.hours)<;>simp[H1,d]
theorem gV {N:Nat} {c:CaseD} {o:Bool} {K:LA→Int→O R} (hs:Small c N) (hN:4096≤N):ES N c.av o K=K (w3 (LR c)) (H1 (LR c)):=by
 rw[PO];unfold G'
 have d:[(.int .i64 (0:Int)),(.int .i64 (0:Int)),(.int .i64 (0:Int)),(.int .i64 (0:Int))]=C4 none:=rfl
 rw[Dx,ct,Bx,d,GO hs]
 have l0:=fun p=>aJ (R:=R) (N:=N) (c:=c) (o:=o) (K:=K) hs c.buses.l.length 0 N p (by omega) hs.bus.1
 have l2:=fun p=>aK (R:=R) (N:=N) (c:=c) (o:=o) (K:=K) hs c.lines.l.length 0 N p (by omega) hs.lin.1
 have l3:=fun p=>aL (R:=R) (N:=N) (c:=c) (o:=o) (K:=K) hs c.units.l.length 0 N p (by omega) hs.uni.1
 have l4:=fun p=>aM (R:=R) (N:=N) (c:=c) (o:=o) (K:=K) hs c.stores.l.length 0 N p (by omega) hs.sto.1
 have l5:=fun p=>aN (R:=R) (N:=N) (c:=c) (o:=o) (K:=K) hs c.ties.l.length 0 N p (by omega) hs.tie.1
 have l6:=fun p=>aO (R:=R) (N:=N) (c:=c) (o:=o) (K:=K) hs c.outs.l.length 0 N p (by omega) hs.out.1
 simp only[Aeg,Af9] at l0 l2 l3 l4 l5 l6
 try dsimp only
 rw[l0,l2,l3,l4,l5,l6]
 show D1 N K o c.av N 0 (C4 (vu c))=_
 unfold LR
 cases e:vu c with
 | some y =>
  rcases N with _ | N
  ·omega
  ·exact pU
 | none =>
  have v:=uL e
  have f:=v.hours
  have:=aQ (R:=R) (N:=N) (H:=c.hours.toNat) (c:=c) (o:=o) (K:=K) hs hN v (by omega) c.hours.toNat 0 N none (by omega) (by omega)
  simpa using this
theorem yK (p:I6):(w3 p).length=3:=by rcases p with _ | ⟨⟨a,b,f⟩,e⟩<;>rfl
theorem pV (v n:Int) (j:1≤n) (k:n≤4611686018427387904):(wrap .u64 n==0)=false∧0≤wrap .i64 (Int.tmod (wrap .u64 v) (wrap .u64 n))∧wrap .i64 (Int.tmod (wrap .u64 v) (wrap .u64 n))<n:=by
 have hn:wrap .u64 n=n:=IntWalk.u64_in _ (by omega)
 have d:0≤wrap .u64 v:=by rw[IntKind.wrap_u64];omega
 rw[hn]
 have e:0≤Int.tmod (wrap .u64 v) n:=Int.tmod_nonneg _ d
 have f:Int.tmod (wrap .u64 v) n<n:=Ah4 _ (by omega)
 rw[Vd _ (by omega)]
 exact⟨by simp;omega,e,f⟩
theorem nx {N:Nat} {l:List Int} {t o:Bool} (s:l.length≤9223372036854775807) (n:Int) (f:1≤n) (j:n≤4611686018427387904) (k:Nat) (m:k≤l.length) :
  ∃ (v:Int) (d:Nat),0≤v∧v<n∧d≤l.length∧∀ K:Int→Int→O R,Ae N n (Az l) l.length t o (k:Int) K=K v (d:Int):=by
 by_cases h:k<l.length
 ·obtain⟨a1,a2,a3⟩:=pV l[k] n f j
  refine⟨_,k+1,a2,a3,by omega,fun K=>?_⟩
  rw[Tk];unfold Uf
  have e:wrap .i64 ((k:Int)+1)=((k+1:Nat):Int):=by rw[Vd _ (by omega)];omega
  have q:wrap .i64 (wrap .i64 ((k:Int)+1) - 1)=(k:Int):=by rw[e,Vd _ (by omega)];omega
  rw[q,e,Ab h,ct,Zg h,QS];unfold dK
  rw[a1,cf,show decide ((k:Int)≥(l.length:Int))=false by simp;omega,cf]
 ·refine⟨0,k,by omega,by omega,m,fun K=>?_⟩
  rw[Tk];unfold Uf
  rw[show decide ((k:Int)≥(l.length:Int))=true by simp;omega,ct]
theorem gW {N m:Nat} {l:List Int} {t o:Bool} (f:l.length≤9223372036854775807) (n:Int) (q:1≤n) (s:n≤4611686018427387904) (y:m≤1000):∀ (r j fuel:Nat) (k:Nat) (A:List Int),j+r=m→r<fuel→k≤l.length→A.length=j →
  ∃ (B:List Int) (u:Nat),B.length=r∧(∀ x ∈ B,0≤x∧x<n)∧u≤l.length∧∀ K:Nat→Int→LA→O R,Fi N K (m:Int) n (Az l) l.length t o fuel j (j:Int) (k:Int) (Az A)=K m (u:Int) (Az (A++B))
 | 0,j,fuel+1,k,A,z,_,d,hA=>by
  refine⟨[],k,rfl,by simp,d,fun K=>?_⟩
  rw[Fi];unfold Mr
  have:j=m:=by omega
  subst this
  rw[F9 (Ad4 _),cf,Aej]
 | r+1,j,fuel+1,k,A,z,T,d,hA=>by
  obtain⟨v,C,v0,v1,e,D⟩:=nx (R:=R) (N:=N) (t:=t) (o:=o) f n q s k d
  obtain⟨B,k2,F,G,I,L⟩:=gW f n q s y r (j+1) fuel C (A++[v]) (by omega) (by omega) e (by simp[hA])
  refine⟨v::B,k2,by simp[F],?_,I,fun K=>?_⟩
  ·intro x hx
   rcases Ad6.1 hx with rfl | hx
   ·exact⟨v0,v1⟩
   ·exact G x hx
  ·rw[Fi];unfold Mr
   have M:(ble (j+1) 140737488355328&&ble ((j+1)*8) 140737488355328)=true:=by rw[Ew,Ew];simp;omega
   have S:take (j*1) (Az A)++[.int .i64 v]=Az (A++[v]):=mN (B:=[v]) hA.symm
   rw[Fn (by omega),ct,D,M,ct,S,Ez (by omega),L]
   simp
theorem Z1 {N m:Nat} {l:List Int} {t o:Bool} (hN:1001≤N) (e:l.length≤9223372036854775807) (n:Int) (f:1≤n) (j:n≤4611686018427387904) (q:m≤1000) (k:Nat) (s:k≤l.length) :
  ∃ (B:List Int) (d:Nat),B.length=m∧(∀ x ∈ B,0≤x∧x<n)∧d≤l.length∧∀ K:Nat→Int→LA→O R,Fy N (m:Int) n (Az l) l.length t o (k:Int) K=K m (d:Int) (Az B):=by
 obtain⟨B,d,u,v,y,z⟩:=gW (R:=R) (N:=N) (t:=t) (o:=o) e n f j q m 0 N k [] (by omega) (by omega) s rfl
 refine⟨B,d,u,v,y,fun K=>?_⟩
 rw[AT];unfold Rn
 simpa[Az] using z K
theorem XL {N:Nat} {l:List Int} {t o:Bool} (f:l.length≤9223372036854775807) (H:Int) (s:1≤H) (A:H≤1000) (k:Nat) (y:k≤l.length) :
  ∃ (B:List Int) (j:Nat),B.length≤1∧(∀ x ∈ B,0≤x∧x<H)∧j≤l.length∧∀ K:Nat→Int→LA→O R,Ok N H (Az l) l.length t o (k:Int) K=K B.length (j:Int) (Az B):=by
 obtain⟨v,m,v0,v1,d,n⟩:=nx (R:=R) (N:=N) (t:=t) (o:=o) f 6 (by omega) (by omega) k y
 by_cases q:v=5
 ·obtain⟨u,k2,u0,u1,e,z⟩:=nx (R:=R) (N:=N) (t:=t) (o:=o) f H s (by omega) m d
  refine⟨[u],k2,by simp,by intro x hx;simp at hx;subst hx;exact⟨u0,u1⟩,e,fun K=>?_⟩
  rw[Tl];unfold Ug
  rw[n,z,q];rfl
 ·refine⟨[],m,by simp,by simp,d,fun K=>?_⟩
  rw[Tl];unfold Ug
  have:(v==5)=false:=by simpa using q
  rw[n,this];rfl
def Aa5:Lu:=[48,49,50,51,52,53,54,55,56,57,97,98,99,100,101,102]
theorem Q6 {N:Nat} {c:UInt8} {i:Nat} (hi:i<16) {K:Lu→O R}:FT N [c] (i:Int) K=K [c,Aa5.getD i 0]:=by
 rw[ZJ];unfold fI
 have e1:Int.tmod (i:Int) 16=(i:Int):=Int.tmod_eq_of_lt (by omega) (by omega)
 rw[e1,Ez (by omega)]
 have c1:(decide ((0:Int)≤(i:Int))&&(decide ((i:Int)≤((i+1:Nat):Int))&&(decide (((i+1:Nat):Int)≤(16:Int))&&decide ((16:Int)≤(16:Int)))))=true:=by simp;omega
 rw[c1,ct]
 simp only[Ad2,Nat.add_sub_cancel_left]
 have:take 1 (drop i ([48,49,50,51,52,53,54,55,56,57,97,98,99,100,101,102]:Lu))=[Aa5.getD i 0]:=by
  rw[Ka (by simpa using hi)]
  simp[Aa5,hi]
 rw[this];rfl
end
end Gx.Cf
